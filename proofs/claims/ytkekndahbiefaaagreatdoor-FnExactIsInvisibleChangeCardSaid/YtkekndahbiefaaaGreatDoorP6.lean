/- Texts of this proof, put together by a program: Vsa, Vs, Ew, Cza, Su, Drl, Td, Cta, Ctb, Ctc, In, Fj, Ena, Enb, Isn, Isv, Ent, Tx, Enc, End, Enu, Vla, Vlb, Ica, Icb, Lw. -/
import Derived.Test.YtkekndahbiefaaaGreatDoorP5
import Derived.KernelRfl
import Derived.Test.YtkekndahbiefaaaGreatDoorProg
import Derived.Outline
import Derived.Laws.IdiomStrings
import Derived.Lib.ItoaNum
import Derived.Lib.ConvBytes
import Derived.Lib.SlBytesRow
import Derived.Lib.SmallJoins
set_option linter.unusedVariables false
set_option linter.unusedSimpArgs false
namespace Go.Proofs.YtkekndahbiefaaaGreatDoor
open Go.RowKit
open GoE (enc wide)
def Ds (_:Nat) (a0:Xc) (s0:(List Xc)):Rd (Qz) ((List Xc)) ((List Xc)):=(.next (s0++ [(Qn a0)]))
def Dt (_:Nat) (s0:(List Xc)):(List Xc):=s0
def Qe (s_:Qz):Qz:=(Out.on (Xp Ds Dt s_.2.1 0 []) (fun y0=>(s_.1,y0,s_.2.2)))
theorem Lk (s_:Qz):ACalls Tryz.prog 98 [.a [.h s_.1, .h s_.2.1, .i s_.2.2]] (.a [.o 0 ((Qe s_).1), .o 1 ((Qe s_).2.1), .i ((Qe s_).2.2)]):=by
 refine en Qa Tryz.func98 fun w0 F0 hG=> ?_
 refine sn Qa [1,2] [1,2] (p0) <| wB 1 0 .sh s_.1 (fun hw1 hl2=> ?_)
 refine tN Qa Zh [1,2,3] [1,2,3] (po 3 (.flat) (px (Ff (n:=(([]:List (List PV)).length+((eL s_.1):List (List PV)).length)) (Ig (rfl) (Zj s_.1) (by first | omega | (simp only[List.length_cons,List.length_nil];omega) | (simp;omega) | simp))) (px (Dg (Ca s_.1)) p0))) <| Qc <| tu Qa [(1, .p 1 0),(2, .p 2 0),(3, .p 3 0),(4, .i 0)] [0] [(1, [.h s_.1, .h s_.2.1, .i s_.2.2]),(2, [.e 2, .e 5, .i 0]),(3, [.o 512 s_.1, .e 5, .i s_.2.2])] [] (p0) <| wB 1 1 .sh s_.2.1 (fun hw3 hl4=> ?_)
 refine XZ Ds Dt s_.2.1 [] (fun k0 _=> [(4, .i ((k0:Nat):Int))]) [4] (fun _ s0=> [(3, [.o 512 s_.1, .o 147211 s0, .i s_.2.2])]) [3] (fun _=> []) [1,4] (fun y0=> [(3, [.o 512 s_.1, .o 147361 y0, .i s_.2.2])]) [1,3] (fun k0 s0=>List.length s0<=k0) (M2 [(true,3,1,true,320008,5)] [] [] [(320008,147211)] (by kernel_rfl)) (by simp) (fun k0 s0 hk0 hI0=> ?_) (fun k0 s0 hk0 hI0=> ?_) (fun y0 hD0=> ?_)
 ·
  have hA0_0:=hI0.2;obtain ⟨a0,hx0⟩:=Xh (l:=s_.2.1) (i:=k0) hk0;refine Qc <| su Qa [(16, .b true)] [] [] [] (pl 3 s_.2.1 (pe 4 (Qp (decide_eq_true (p:=((k0:Nat):Int)<(s_.2.1.length:Int)) (by omega))) p0)) <| ckT <| Qf <| Qc <| Qu <| wB 3 1 (.own true 147211) s0 (fun hw5 hl6=> ?_)
  refine rU Qa Zh [] [16] [(3, [.o 512 s_.1, .slc (.own true 1792) 5 ((eL s0)++ [[.i ((Qn a0).1), .i ((Qn a0).2.1), .b ((Qn a0).2.2.1), .i ((Qn a0).2.2.2.1), .h ((Qn a0).2.2.2.2)]]), .i s_.2.2])] [3] (pn 5 hx0 (pc 7 (Ft a0) (pa s0 [(Qn a0)] p0))) ?_;refine eqn [] [] [(3, [.o 512 s_.1, .o 1792 (s0++ [(Qn a0)]), .i s_.2.2])] [3] (by rw[show ((eL s0)++ [[.i ((Qn a0).1), .i ((Qn a0).2.1), .b ((Qn a0).2.2.1), .i ((Qn a0).2.2.2.1), .h ((Qn a0).2.2.2.2)]])=(eL (s0++ [(Qn a0)])) from Ks (rfl) (rfl)];first | done | kernel_rfl) ?_;refine rn Qa [1,2,3,4] [1,2,3] (pe 1 (Jh (Ql k0 (by omega))) p0) ?_;exact Exists.intro (s0++ [(Qn a0)]) (And.intro (Xl [(1792,147211)] (by kernel_rfl)) ⟨Qr hx0 (rfl) hI0.1,by first | omega | (simp;omega) | simp⟩)
 ·
  have hA0_0:=hI0.2;exact Qc <| su Qa [(16, .b false)] [] [] [] (pl 3 s_.2.1 (pe 4 (Qp (decide_eq_false (p:=((k0:Nat):Int)<(s_.2.1.length:Int)) (by omega))) p0)) <| ckF <| Q2 <| Exists.intro _ (And.intro (Xl [(147211,147361)] (by kernel_rfl)) (Xi hk0 (rfl) hI0.1))
 exact sn Qa [2] [2] (p0) <| Qg <| pz [] (show Qe s_=_ from Wj hD0 (rfl)) (fun z=> .a [.o 0 z.1, .o 1 z.2.1, .i z.2.2])
def Yb (s_:Qz) (f:Xc):Qz×Int×Bool:=(bif ((!(Q4 (Qe s_)))|| (decide ((((Qe s_).2.1).length:Int)>=(12:Int))|| (!(X0 ((Qe s_).1) ((Qe s_).2.2,(Qn f).2.1,(Qn f).2.2.1,(Qn f).2.2.2.1,(Qn f).2.2.2.2))))) then ((Qe s_),0,false) else (((Qe s_).1,(Qe s_).2.1++ [((Qe s_).2.2,(Qn f).2.1,(Qn f).2.2.1,(Qn f).2.2.2.1,(Qn f).2.2.2.2)],IntKind.i64.wrap ((Qe s_).2.2+1)),(Qe s_).2.2,true))
theorem ZY (s_:Qz) (f:Xc):ACalls Tryz.prog 103 [.a [.h s_.1, .h s_.2.1, .i s_.2.2], .a [.i f.1, .i f.2.1, .b f.2.2.1, .i f.2.2.2.1, .h f.2.2.2.2]] (.tup [(true, [.o 0 ((((Yb s_ f)).1).1), .o 1 ((((Yb s_ f)).1).2.1), .i ((((Yb s_ f)).1).2.2)]),(false, [.i (((Yb s_ f)).2.1)]),(false, [.b (((Yb s_ f)).2.2)])]):=by
 refine en Qa Tryz.func103 fun w0 F0 hG=> ?_
 refine sn Qa [2,3,4,5,6] [2,3,4] (p0) <| tn Qa [2,3,4,5,6] [2,3,4] (pc 1 (Lk s_) p0) <| tu Qa [(2, .p 2 0),(3, .p 3 0),(4, .p 4 0),(5, .i 0),(6, .b false)] [0,1] [(2, [.o 512 ((Qe s_).1), .o 513 ((Qe s_).2.1), .i ((Qe s_).2.2)]),(3, [.i ((Qn f).1), .i ((Qn f).2.1), .b ((Qn f).2.2.1), .i ((Qn f).2.2.2.1), .o 640 ((Qn f).2.2.2.2)]),(4, [.e 2, .e 5, .i 0])] [] (pc 1 (Ft f) p0) <| sn Qa [2,3,4,5,6] [2,3,4] (p0) <| Qc <| Qc <| mz [] [] [(3, [.i ((Qe s_).2.2), .i ((Qn f).2.1), .b ((Qn f).2.2.1), .i ((Qn f).2.2.2.1), .o 640 ((Qn f).2.2.2.2)])] [3] <| jn [(29, .b ((!(Q4 (Qe s_)))|| (decide ((((Qe s_).2.1).length:Int)>=(12:Int))|| (!(X0 ((Qe s_).1) ((Qe s_).2.2,(Qn f).2.1,(Qn f).2.2.1,(Qn f).2.2.2.1,(Qn f).2.2.2.2))))))] [] [] [] (!(Q4 (Qe s_))) (fun h1=> ?_) (fun h1=> ?_) ?_
 ·
  have h1n:(Q4 (Qe s_))=false:=Vd h1;refine ru Qa [(29, .b true)] [] [] [] (pc 1 (cb h1n (Jq (Qe s_))) (pe 2 (show .b (!false)= .b true from rfl) p0)) ?_;exact ⟨rfl,Qd (by rw[h1]<;>kernel_rfl)⟩
 ·
  have h1n:(Q4 (Qe s_))=true:=Y3 h1;refine X5 (decide ((((Qe s_).2.1).length:Int)>=(12:Int))) (fun h2=> ?_) (fun h2=> ?_)
  ·
   refine ru Qa [(29, .b true)] [] [] [] (pc 1 (cb h1n (Jq (Qe s_))) (pe 2 (show .b (!true)= .b false from rfl) (pl 6 ((Qe s_).2.1) (pt 7 h2 p0)))) ?_;exact ⟨rfl,Qd (by rw[h1,h2]<;>kernel_rfl)⟩
  refine rn Qa [2,3,4,5,6,29] [2,3,4] (pc 1 (cb h1n (Jq (Qe s_))) (pe 2 (show .b (!true)= .b false from rfl) (pl 6 ((Qe s_).2.1) (pf 7 h2 (pc 13 (Ha ((Qe s_).1) ((Qe s_).2.2,(Qn f).2.1,(Qn f).2.2.1,(Qn f).2.2.2.1,(Qn f).2.2.2.2)) p0))))) ?_;exact ⟨rfl,Qd (by rw[h1,h2]<;>kernel_rfl)⟩
 refine ck ((!(Q4 (Qe s_)))|| (decide ((((Qe s_).2.1).length:Int)>=(12:Int))|| (!(X0 ((Qe s_).1) ((Qe s_).2.2,(Qn f).2.1,(Qn f).2.2.1,(Qn f).2.2.2.1,(Qn f).2.2.2.2))))) (fun h3=> ?_) (fun h3=> ?_)
 ·
  exact sn Qa [2,3,4,5,6] [2,3,4] (p0) <| Qg <| pz [] (show Yb s_ f=_ from Xf h3 (rfl)) (fun z=> .tup [(true, [.o 0 z.1.1, .o 1 z.1.2.1, .i z.1.2.2]),(false, [.i z.2.1]),(false, [.b z.2.2])])
 have h3r:((decide ((((Qe s_).2.1).length:Int)>=(12:Int))|| (!(X0 ((Qe s_).1) ((Qe s_).2.2,(Qn f).2.1,(Qn f).2.2.1,(Qn f).2.2.2.1,(Qn f).2.2.2.2)))))=false:=Re h3;have h3rl:(decide ((((Qe s_).2.1).length:Int)>=(12:Int)))=false:=Rc h3r;have h3rld:=of_decide_eq_false h3rl;refine Qf <| wB 2 1 (.own true 513) ((Qe s_).2.1) (fun hw4 hl5=> ?_)
 refine su Qa [] [29] [(2, [.o 512 ((Qe s_).1), .slc (.own true 2240) 5 ((eL ((Qe s_).2.1))++ [[.i ((Qe s_).2.2), .i ((Qn f).2.1), .b ((Qn f).2.2.1), .i ((Qn f).2.2.2.1), .h ((Qn f).2.2.2.2)]]), .i ((Qe s_).2.2)]),(3, [.i ((Qe s_).2.2), .i ((Qn f).2.1), .b ((Qn f).2.2.1), .i ((Qn f).2.2.2.1), .dead])] [2,3] (pa ((Qe s_).2.1) [((Qe s_).2.2,(Qn f).2.1,(Qn f).2.2.1,(Qn f).2.2.2.1,(Qn f).2.2.2.2)] p0) <| eqn [] [] [(2, [.o 512 ((Qe s_).1), .o 2240 ((Qe s_).2.1++ [((Qe s_).2.2,(Qn f).2.1,(Qn f).2.2.1,(Qn f).2.2.2.1,(Qn f).2.2.2.2)]), .i ((Qe s_).2.2)])] [2] (by rw[show ((eL ((Qe s_).2.1))++ [[.i ((Qe s_).2.2), .i ((Qn f).2.1), .b ((Qn f).2.2.1), .i ((Qn f).2.2.2.1), .h ((Qn f).2.2.2.2)]])=(eL ((Qe s_).2.1++ [((Qe s_).2.2,(Qn f).2.1,(Qn f).2.2.1,(Qn f).2.2.2.1,(Qn f).2.2.2.2)])) from Ks (rfl) (rfl)];first | done | kernel_rfl) ?_
 exact sn Qa [2,3,4,5,6] [2,3,4] (p0) <| tN Qa Zh [4,5,6] [4] (p0) <| Qg <| pz [] (show Yb s_ f=_ from Qs h3 (rfl)) (fun z=> .tup [(true, [.o 0 z.1.1, .o 1 z.1.2.1, .i z.1.2.2]),(false, [.i z.2.1]),(false, [.b z.2.2])])
def Y9 (s_:Qz) (id:Int):Qz×Bool:=(bif ((!(Q4 (Qe s_)))|| decide ((Q5 (Qe s_) id)<(0:Int))) then ((Qe s_),false) else (((Qe s_).1,List.take (Int.toNat (Q5 (Qe s_) id)) ((Qe s_).2.1)++(List.drop (Int.toNat ((Q5 (Qe s_) id)+1)) ((Qe s_).2.1)),(Qe s_).2.2),true))
theorem ZZ (s_:Qz) (id:Int):ACalls Tryz.prog 108 [.a [.h s_.1, .h s_.2.1, .i s_.2.2], .i id] (.tup [(true, [.o 0 ((((Y9 s_ id)).1).1), .q 1 ((((Y9 s_ id)).1).2.1), .i ((((Y9 s_ id)).1).2.2)]),(false, [.b (((Y9 s_ id)).2)])]):=by
 refine en Qa Tryz.func108 fun w0 F0 hG=> ?_
 refine sn Qa [1,2,4,5] [2,4] (p0) <| tn Qa [1,2,4,5] [2,4] (pc 1 (Lk s_) p0) <| tu Qa [(2, .p 2 0),(4, .p 4 0),(5, .b false),(6, .i (Q5 (Qe s_) id))] [0,1] [(2, [.o 512 ((Qe s_).1), .o 513 ((Qe s_).2.1), .i ((Qe s_).2.2)]),(4, [.e 2, .e 5, .i 0])] [] (pc 2 (G6 (Qe s_) id) p0) <| Qc <| Qc <| jn [(18, .b ((!(Q4 (Qe s_)))|| decide ((Q5 (Qe s_) id)<(0:Int))))] [] [] [] (!(Q4 (Qe s_))) (fun h1=> ?_) (fun h1=> ?_) ?_
 ·
  have h1n:(Q4 (Qe s_))=false:=Vd h1;refine rn Qa [2,4,5,6,18] [2,4] (pc 1 (cb h1n (Jq (Qe s_))) (pe 2 (show .b (!false)= .b true from rfl) p0)) ?_;exact ⟨rfl,Qd (by rw[h1]<;>kernel_rfl)⟩
 ·
  have h1n:(Q4 (Qe s_))=true:=Y3 h1;refine rn Qa [2,4,5,6,18] [2,4] (pc 1 (cb h1n (Jq (Qe s_))) (pe 2 (show .b (!true)= .b false from rfl) p0)) ?_;exact ⟨rfl,Qd (by rw[h1]<;>kernel_rfl)⟩
 refine ck ((!(Q4 (Qe s_)))|| decide ((Q5 (Qe s_) id)<(0:Int))) (fun h2=> ?_) (fun h2=> ?_)
 ·
  refine sn Qa [2,4,5,6] [2,4] (p0) <| Ge [513] rfl ?_
  exact Qg <| pz [] (show Y9 s_ id=_ from Xf h2 (rfl)) (fun z=> .tup [(true, [.o 0 z.1.1, .q 1 z.1.2.1, .i z.1.2.2]),(false, [.b z.2])])
 have h2r:(decide ((Q5 (Qe s_) id)<(0:Int)))=false:=Re h2;have h2rp:=YH (Qe s_) id;have h2rd:=of_decide_eq_false h2r;refine Qf <| wB 2 1 (.own true 513) ((Qe s_).2.1) (fun hw3 hl4=> ?_)
 have hl5:List.length (List.take (Int.toNat (Q5 (Qe s_) id)) ((Qe s_).2.1))<=1073741824:=I5 (FA (Int.toNat (Q5 (Qe s_) id)) (hw3));have hl6:List.length (List.drop (Int.toNat ((Q5 (Qe s_) id)+1)) ((Qe s_).2.1))<=1073741824:=I5 (FB (Int.toNat ((Q5 (Qe s_) id)+1)) (hw3));refine P7 (N8 [513] rfl) ?_;refine sU Qa Zh [] [6,18] [(2, [.o 512 ((Qe s_).1), .slc (.own false 1984) 5 (([]++(eL (List.take (Int.toNat (Q5 (Qe s_) id)) ((Qe s_).2.1))))++(eL (List.drop (Int.toNat ((Q5 (Qe s_) id)+1)) ((Qe s_).2.1)))), .i ((Qe s_).2.2)])] [2] (pe 4 (LI .sh 5 (Int.toNat (Q5 (Qe s_) id)) (Q5 (Qe s_) id) ((Qe s_).2.1) rfl) (px (Tw (lo:=0) (hi:=(Q5 (Qe s_) id)) (n:=(List.length (eL ((Qe s_).2.1)))) (Qg1 (by omega) (by omega) (by omega))) (px (Ff (n:=(([]:List (List PV)).length+((eL (List.take (Int.toNat (Q5 (Qe s_) id)) ((Qe s_).2.1))):List (List PV)).length)) (Ig (rfl) (Zj (List.take (Int.toNat (Q5 (Qe s_) id)) ((Qe s_).2.1))) (by first | omega | (simp only[List.length_cons,List.length_nil];omega) | (simp;omega) | simp))) (pe 9 (Jh (IntWalk.i64_in ((Q5 (Qe s_) id)+1) (by omega))) (pe 10 (Qa0 .sh 5 (Int.toNat ((Q5 (Qe s_) id)+1)) ((Q5 (Qe s_) id)+1) ((Qe s_).2.1) rfl) (px (Tw (lo:=((Q5 (Qe s_) id)+1)) (hi:=(((eL ((Qe s_).2.1)):List (List PV)).length:Int)) (n:=(List.length (eL ((Qe s_).2.1)))) (Qa1 (by omega) (by omega))) (px (Ff (n:=((([]++(eL (List.take (Int.toNat (Q5 (Qe s_) id)) ((Qe s_).2.1)))):List (List PV)).length+((eL (List.drop (Int.toNat ((Q5 (Qe s_) id)+1)) ((Qe s_).2.1))):List (List PV)).length)) (by simp[Zj];omega)) p0))))))) <| eqn [] [] [(2, [.o 512 ((Qe s_).1), .q 1984 (List.take (Int.toNat (Q5 (Qe s_) id)) ((Qe s_).2.1)++(List.drop (Int.toNat ((Q5 (Qe s_) id)+1)) ((Qe s_).2.1))), .i ((Qe s_).2.2)])] [2] (by rw[show (([]++(eL (List.take (Int.toNat (Q5 (Qe s_) id)) ((Qe s_).2.1))))++(eL (List.drop (Int.toNat ((Q5 (Qe s_) id)+1)) ((Qe s_).2.1))))=(eL (List.take (Int.toNat (Q5 (Qe s_) id)) ((Qe s_).2.1)++(List.drop (Int.toNat ((Q5 (Qe s_) id)+1)) ((Qe s_).2.1)))) from Ks (rfl) (rfl)];first | done | kernel_rfl) ?_
 exact sn Qa [4,5] [4] (p0) <| Qg <| pz [] (show Y9 s_ id=_ from Qs h2 (rfl)) (fun z=> .tup [(true, [.o 0 z.1.1, .q 1 z.1.2.1, .i z.1.2.2]),(false, [.b z.2])])
def Xb (s_:Qz) (id:Int):Xc×Bool:=(bif decide ((Q5 s_ id)<(0:Int)) then ((0,0,false,0, []),false) else ((Qn (nth s_.2.1 (Int.toNat (Q5 s_ id)))),true))
theorem G8 (s_:Qz) (id:Int):ACalls Tryz.prog 42 [.a [.h s_.1, .h s_.2.1, .i s_.2.2], .i id] (.tup [(true, [.i ((((Xb s_ id)).1).1), .i ((((Xb s_ id)).1).2.1), .b ((((Xb s_ id)).1).2.2.1), .i ((((Xb s_ id)).1).2.2.2.1), .o 0 ((((Xb s_ id)).1).2.2.2.2)]),(false, [.b (((Xb s_ id)).2)])]):=by
 refine en Qa Tryz.func42 fun w0 F0 hG=> ?_
 refine sn Qa [1,2,4,5] [2,4] (p0) <| tn Qa [2,4,5,6] [2,4] (pc 2 (G6 s_ id) p0) <| Qc <| tu Qa [(2, .p 2 0),(4, .p 4 0),(5, .b false),(6, .i (Q5 s_ id)),(11, .b (decide ((Q5 s_ id)<(0:Int))))] [0,1] [(2, [.h s_.1, .h s_.2.1, .i s_.2.2]),(4, [.i 0, .i 0, .b false, .i 0, .e 4])] [] (p0) <| ck (decide ((Q5 s_ id)<(0:Int))) (fun h1=> ?_) (fun h1=> ?_)
 ·
  refine su Qa [] [11] [] [] (p0) <| opn [(true,4,4,true,384000,4)] ?_
  exact Qg <| pz [] (show Xb s_ id=_ from Xf h1 (rfl)) (fun z=> .tup [(true, [.i z.1.1, .i z.1.2.1, .b z.1.2.2.1, .i z.1.2.2.2.1, .o 0 z.1.2.2.2.2]),(false, [.b z.2])])
 have h1p:=YH s_ id;have h1d:=of_decide_eq_false h1;refine Qf <| wB 2 1 .sh s_.2.1 (fun hw3 hl4=> ?_)
 have hx2:=ng s_.2.1 (Int.toNat (Q5 s_ id));exact sn Qa [4,5] [4] (pg 3 (Q5 s_ id) hx2 (pc 5 (Ft (nth s_.2.1 (Int.toNat (Q5 s_ id)))) p0)) <| Qg <| pz [] (show Xb s_ id=_ from Qs h1 (rfl)) (fun z=> .tup [(true, [.i z.1.1, .i z.1.2.1, .b z.1.2.2.1, .i z.1.2.2.2.1, .o 0 z.1.2.2.2.2]),(false, [.b z.2])])
structure VS (s:Qz):Prop where
 sch:Ko s.1=true
 len:s.2.1.length<=12
 nx1:1<=s.2.2
 nx2:s.2.2<=61
 file:∀(i:Nat) (a:Xc),s.2.1[i]? =some a->X0 s.1 a=true/\a.1<s.2.2
 asc:∀(i:Nat) (a b:Xc),s.2.1[i]? =some a->s.2.1[i+1]? =some b->a.1<b.1
theorem Rk {s:Qz} (h:VS s):Q4 s=true:=by
 unfold Q4;rw[Sv (l:=s.2.1) (k:=0) (fun i a hi=> ?_)]
 . have h1:=h.len;have h2:=h.nx1;have h3:=h.nx2;simp only[Out.on,Q6,h.sch,Bool.true_and];rw[decide_eq_true (show (s.2.1.length:Int)<=12 by omega),decide_eq_true (show s.2.2>=1 from h2),decide_eq_true (show s.2.2<=61 from h3)];rfl
 obtain ⟨h1,h2⟩:=h.file i a hi;unfold Z6;rw[h1,decide_eq_false (show¬a.1>=s.2.2 by omega)]
 have e2:(decide (((0+i:Nat):Int)>0)&&decide ((nth s.2.1 (Int.toNat (((0+i:Nat):Int)-1))).1>=a.1))=false:=by
  by_cases hp:0<i
  . have hlt:i-1<s.2.1.length:=by have:=(List.getElem?_eq_some_iff.1 hi).1;omega
    have h3:=h.asc (i-1) _ a (V7 hlt) (by rw[show i-1+1=i by omega];exact hi);rw[show Int.toNat (((0+i:Nat):Int)-1)=i-1 by omega,decide_eq_false (show¬(nth s.2.1 (i-1)).1>=a.1 by omega),Bool.and_false]
  obtain rfl:i=0:=by omega
  rfl
 rw[e2];rfl
theorem Qi2 {s:Qz} (h:Q4 s=true):VS s:=by
 unfold Q4 at h;cases hl:Xp (Z6 s) Ww s.2.1 0 () with
 | brk t =>
   rw[hl] at h;simp only[Out.on,Bool.and_eq_true,Q6,decide_eq_true_eq] at h;obtain ⟨h1,h2,h3,h4⟩:=h
   have key:∀(i:Nat) (a:Xc),s.2.1[i]? =some a->X0 s.1 a=true/\a.1<s.2.2/\(decide (((i:Nat):Int)>0)&&decide ((nth s.2.1 (Int.toNat (((i:Nat):Int)-1))).1>=a.1))=false:=fun i a hi=>by
    have h5:=I6 (fun k a t=>by unfold Z6;generalize (_|| _:Bool)=c;cases c<;>simp) hl i a hi;unfold Z6 at h5;rw[Nat.zero_add] at h5;cases hv:X0 s.1 a with
    | false=>rw[hv] at h5;simp at h5
    | true=>
      rw[hv] at h5;cases hd:decide (a.1>=s.2.2) with
      | true=>rw[hd] at h5;simp at h5
      | false=>
        rw[hd] at h5;refine ⟨rfl,by have:=of_decide_eq_false hd;omega, ?_⟩;generalize (decide (((i:Nat):Int)>0)&&decide ((nth s.2.1 (Int.toNat (((i:Nat):Int)-1))).1>=a.1))=c at h5;cases c with
        | true=>simp at h5
        | false=>rfl
   refine ⟨h1,by omega,h3,h4,fun i a hi=>⟨(key i a hi).1,(key i a hi).2.1⟩,fun i a b ha hb=> ?_⟩;have h5:=(key (i+1) b hb).2.2;rw[decide_eq_true (show ((i+1:Nat):Int)>0 by omega),Bool.true_and,show Int.toNat (((i+1:Nat):Int)-1)=i by omega,Ow ha] at h5;have:=of_decide_eq_false h5;omega
 | ret r=>
   rw[hl] at h;obtain rfl:r=true:=h;exfalso
   have key:∀(l:List Xc) k,Xp (Z6 s) Ww l k ()≠ .ret true:=by
    intro l
    induction l with
    | nil=>intro k h;simp[Xp] at h
    | cons a l ih=>
      intro k h;simp only[Xp] at h;unfold Z6 at h;split at h
      . exact ih _ h
      . cases h
      rename_i r hf;cases h;revert hf;generalize (_|| _:Bool)=c;cases c<;>simp
   exact key _ _ hl
theorem SG (l:List Xc):∀(k:Nat) (s:List Xc),Xp Ds Dt l k s= .brk (s++l):=fun k s=>by
 rw[Au (f:=Ds) (e:=Dt) (g:=id) (fun _ _ _=>rfl),List.map_id];rfl
theorem Qfk (s:Qz):Qe s=s:=by
 unfold Qe;rw[SG];rfl
theorem Qi3 {s:Qz} {f:Xc} (h:VS s) (hl:s.2.1.length<12) (hn:s.2.2<=60) (hf:X0 s.1 (s.2.2,f.2)=true):VS (s.1,s.2.1++ [(s.2.2,f.2)],s.2.2+1):=by
 have hcase:∀(i:Nat) (a:Xc),(s.2.1++ [((s.2.2,f.2):Xc)])[i]? =some a->s.2.1[i]? =some a\/(i=s.2.1.length/\a=(s.2.2,f.2)):=fun i a hi=>by
  rw[List.getElem?_append] at hi;split at hi
  . exact .inl hi
  right
  rename_i hge
  have:i-s.2.1.length=0:=by
   have:=(List.getElem?_eq_some_iff.1 hi).1;simp at this;omega
  rw[this] at hi;exact ⟨by omega,(Option.some.inj hi).symm⟩
 refine ⟨h.sch,by simp;omega,by have:=h.nx1;show 1<=s.2.2+1;omega,by show s.2.2+1<=61;omega,fun i a hi=> ?_,fun i a b ha hb=> ?_⟩
 . show X0 s.1 a=true/\a.1<s.2.2+1;rcases hcase i a hi with hi | ⟨_,rfl⟩
   . obtain ⟨h1,h2⟩:=h.file i a hi;exact ⟨h1,by omega⟩
   exact ⟨hf,by show s.2.2<s.2.2+1;omega⟩
 rcases hcase i a ha with ha | ⟨h1,rfl⟩
 . rcases hcase (i+1) b hb with hb | ⟨_,rfl⟩
   . exact h.asc i a b ha hb
   exact (h.file i a ha).2
 rcases hcase (i+1) b hb with hb | ⟨h2,_⟩
 . have:=(List.getElem?_eq_some_iff.1 hb).1;omega
 omega
theorem Qi4 {s:Qz} {f:Xc} (h:VS s) (hl:s.2.1.length<12) (hn:s.2.2<=60) (hf:X0 s.1 (s.2.2,f.2)=true):Yb s f=((s.1,s.2.1++ [(s.2.2,f.2)],s.2.2+1),s.2.2,true):=by
 unfold Yb;rw[Qfk,Rk h,decide_eq_false (show¬(s.2.1.length:Int)>=12 by omega)];have hf':X0 s.1 (s.2.2,(Qn f).2.1,(Qn f).2.2.1,(Qn f).2.2.2.1,(Qn f).2.2.2.2)=true:=hf;have h1:=h.nx1;rw[hf',IntWalk.i64_in _ (show _/\_ by omega)];rfl
theorem Qli {s:List Kt} {f:Xc} (h:X0 s f=true):1<=f.1/\f.1<=60:=by
 unfold X0 at h;cases hl:Xp (Vk s f) Uf f.2.2.2.2 0 () with
 | brk t=>
   rw[hl] at h;simp only[Out.on,Bool.and_eq_true,Q6,decide_eq_true_eq] at h;exact h.2.1
 | ret r=>
   rw[hl] at h;obtain rfl:r=true:=h;exfalso
   have key:∀(l:List E6) k,Xp (Vk s f) Uf l k ()≠ .ret true:=by
    intro l
    induction l with
    | nil=>intro k h;simp[Xp] at h
    | cons a l ih=>
      intro k h;simp only[Xp] at h;unfold Vk at h;split at h
      . exact ih _ h
      . cases h
      rename_i r hf;cases h;revert hf;generalize (_|| _:Bool)=c;cases c<;>simp
   exact key _ _ hl
theorem Qce {s:Qz} (f:Xc) (h:VS s):VS (Yb s f).1/\(Yb s f).1.1=s.1/\(Yb s f).1.2.1.length<=s.2.1.length+1/\s.2.1.length<=(Yb s f).1.2.1.length/\(Yb s f).1.2.2<=s.2.2+1:=by
 by_cases hc:s.2.1.length<12/\X0 s.1 (s.2.2,f.2)=true
 . have hn:s.2.2<=60:=(Qli hc.2).2;rw[Qi4 h hc.1 hn hc.2];exact ⟨Qi3 h hc.1 hn hc.2,rfl,by simp,by simp,Int.le_refl _⟩
 have e:(Yb s f).1=s:=by
  unfold Yb;rw[Qfk,Rk h];by_cases h1:s.2.1.length<12
  . have h2:X0 s.1 (s.2.2,f.2)≠true:=fun h2=>hc ⟨h1,h2⟩
    have h3:X0 s.1 (s.2.2,(Qn f).2.1,(Qn f).2.2.1,(Qn f).2.2.2.1,(Qn f).2.2.2.2)=false:=Bool.eq_false_iff.2 h2;rw[h3];simp
  rw[decide_eq_true (show (s.2.1.length:Int)>=12 by omega)];simp
 rw[e];exact ⟨h,rfl,by omega,by omega,by omega⟩
theorem Qcf {s:Qz} (id:Int) (h:VS s):VS (Y9 s id).1/\(Y9 s id).1.1=s.1/\(Y9 s id).1.2.1.length<=s.2.1.length/\(Y9 s id).1.2.2=s.2.2:=by
 unfold Y9;rw[Qfk,Rk h];by_cases hc:Q5 s id<0
 . rw[decide_eq_true hc];exact ⟨h,rfl,Nat.le_refl _,rfl⟩
 rw[decide_eq_false hc];simp only[Bool.not_true,Bool.or_false,cond_false];have hb:=YH s id;generalize Q5 s id=p at hc hb;obtain ⟨k,rfl⟩:∃k:Nat,p=(k:Int):=⟨p.toNat,by omega⟩;have e2:Int.toNat ((k:Int)+1)=k+1:=by omega
 rw[e2,Int.toNat_natCast];have hk:k<s.2.1.length:=by omega
 have hget:∀(i:Nat) (a:Xc),(List.take k s.2.1++List.drop (k+1) s.2.1)[i]? =some a->s.2.1[if i<k then i else i+1]? =some a:=fun i a hi=>by
  rw[List.getElem?_append,List.length_take,Nat.min_eq_left (by omega)] at hi;split at hi
  . rename_i hlt;rw[if_pos hlt]
    rwa [List.getElem?_take_of_lt hlt] at hi
  rename_i hge;rw[if_neg hge];rw[List.getElem?_drop] at hi
  rwa [show k+1+(i-k)=i+1 by omega] at hi
 refine ⟨⟨h.sch, ?_,h.nx1,h.nx2,fun i a hi=>h.file _ a (hget i a hi),fun i a b ha hb=> ?_⟩,trivial, ?_,trivial⟩
 . have:=h.len;show (List.take k s.2.1++List.drop (k+1) s.2.1).length<=12;simp;omega
 . have ha:=hget i a ha;have hb:=hget (i+1) b hb;by_cases h1:i+1<k
   . rw[if_pos (by omega)] at ha;rw[if_pos h1] at hb;exact h.asc i a b ha hb
   rw[if_neg h1] at hb;by_cases h2:i<k
   . rw[if_pos h2] at ha;have hm:k<s.2.1.length:=hk;have h3:=h.asc i a _ ha (by rw[show i+1=k by omega];exact V7 hm);have h4:=h.asc k _ b (V7 hm) (by rw[show k+1=i+1+1 by omega];exact hb);omega
   rw[if_neg h2] at ha;exact h.asc (i+1) a b ha hb
 show (List.take k s.2.1++List.drop (k+1) s.2.1).length<=s.2.1.length;simp;omega
end Go.Proofs.YtkekndahbiefaaaGreatDoor
namespace Go.Proofs.YtkekndahbiefaaaGreatDoor
def Qlq {R R2 O:Type}:Rd R (O×Int×Bool) (O×Int)->Rd R2 (O×Bool) O->Prop
 | .next s, .next t=>t=(s.1,s.2.2)
 | .brk s, .brk t=>t=s.1
 | _,_=>False
theorem DJ {R R2 O:Type} {F:O×Int×Bool->Rd R (O×Int×Bool) (O×Int)} {G:O×Bool->Rd R2 (O×Bool) O} (h:∀o p c,Qlq (F (o,p,c)) (G (o,c))):∀(n:Nat) (o:O) (p:Int) (c:Bool) (y:O×Int),whl F n (o,p,c)=some (.brk y)->whl G n (o,c)=some (.brk y.1)
 | 0,_,_,_,_,hy=>by cases hy
 | n + 1,o,p,c,y,hy=>by
   have hb:=h o p c;simp only[whl] at hy⊢;cases hF:F (o,p,c) with
   | next s=>
     rw[hF] at hy hb;cases hG:G (o,c) with
     | next t=>
       rw[hG] at hb;obtain rfl:t=(s.1,s.2.2):=hb;exact DJ h n s.1 s.2.1 s.2.2 y hy
     | brk t=>rw[hG] at hb;exact hb.elim
     | ret r=>rw[hG] at hb;exact hb.elim
   | brk s=>
     rw[hF] at hy hb;cases hG:G (o,c) with
     | next t=>rw[hG] at hb;exact hb.elim
     | brk t=>
       rw[hG] at hb;obtain rfl:t=s.1:=hb;obtain rfl:s=y:=by simpa using hy
       rfl
     | ret r=>rw[hG] at hb;exact hb.elim
   | ret r=>rw[hF] at hb;exact hb.elim
open GoE (enc wide)
def D4 (_:Nat) (a0:Yu) (s0:(List ByteArray)):Rd ((List ByteArray)) ((List ByteArray)) ((List ByteArray)):=(bif (Q6 a0.1 8 9) then (.next (J6 s0 a0.2.2.2.1)) else (.next s0))
def Ix (_:Nat) (s0:(List ByteArray)):(List ByteArray):=s0
def Vw (q:(List Yu)):(List ByteArray):=(Out.on (Xp D4 Ix q 0 []) (fun y0=>y0))
theorem WM (q:(List Yu)):ACalls Tryz.prog 179 [.h q] (.o 0 (Vw q)):=by
 refine en Qa Tryz.func179 fun w0 F0 hG=> ?_
 refine sn Qa [0,2] [] (p0) <| tn Qa [0,2,3] [] (p0) <| Qc <| tu Qa [(2, .e 0),(3, .one (.slc (.own true 320) 1 [])),(4, .i 0)] [] [] [] (p0) <| wT 0 0 .sh q (fun hw1 hl2=> ?_)
 refine XY D4 Ix q [] (fun k0 s0=> [(3, .h s0),(4, .i ((k0:Nat):Int))]) [3,4] (fun y0=> [(3, .h y0)]) [0,3,4] (fun k0 s0=>List.length s0<=k0) (M2 [] [320] [] [] (by kernel_rfl)) (by simp) (fun k0 s0 hk0 hI0=> ?_) (fun k0 s0 hk0 hI0=> ?_) (fun y0 hD0=> ?_)
 ·
  have hA0_0:=hI0.2;obtain ⟨a0,hx0⟩:=Xh (l:=q) (i:=k0) hk0;refine Qc <| sn Qa [0,2,3,4,9] [] (pl 2 q (pe 3 (Qp (decide_eq_true (p:=((k0:Nat):Int)<(q.length:Int)) (by omega))) p0)) <| ckT <| Qf <| Qc <| Qu <| tn Qa [0,2,3,4,17] [] (pn 2 hx0 (pc 5 (Zo a0.1 8 9) p0)) <| ck (Q6 a0.1 8 9) (fun h3=> ?_) (fun h3=> ?_)
  ·
   have h3w:=Cc.1 h3;refine qu Qa [(3, .h (J6 s0 a0.2.2.2.1))] [3] [] [] (pn 3 hx0 (pc 6 (Ev s0 a0.2.2.2.1 (by omega)) p0)) ?_;refine rn Qa [0,2,3,4] [] (pe 1 (Jh (Ql k0 (by omega))) p0) ?_;exact xw (J6 s0 a0.2.2.2.1) ⟨Qr hx0 (Xf h3 (rfl)) hI0.1,(by first | omega | (have hz:=Po s0 a0.2.2.2.1;omega))⟩
  refine Qf <| qu Qa [(4, .i ((k0+1:Nat):Int))] [4] [] [] (pe 1 (Jh (Ql k0 (by omega))) p0) ?_
  exact xw s0 ⟨Qr hx0 (Qs h3 (rfl)) hI0.1,(by first | omega | (have hz:=Po s0 a0.2.2.2.1;omega))⟩
 ·
  have hA0_0:=hI0.2;exact Qc <| sn Qa [0,2,3,4,9] [] (pl 2 q (pe 3 (Qp (decide_eq_false (p:=((k0:Nat):Int)<(q.length:Int)) (by omega))) p0)) <| ckF <| Q2 <| xw _ (Xi hk0 (rfl) hI0.1)
 refine wT 3 0 .sh y0 (fun hw4 hl5=> ?_);exact sn Qa [2] [] (po 2 (.flat) (px (Ff (n:=(([]:List (List PV)).length+((eL y0):List (List PV)).length)) (Ig (rfl) (Zj y0) (by first | omega | (simp only[List.length_cons,List.length_nil];omega) | (simp;omega) | simp))) (px (Dg (Ca y0)) p0))) <| Qg <| po0 [] (Wj hD0 (rfl))
def C4 (_:Nat) (a0:Yu) (s0:(List ByteArray)):Rd ((List ByteArray)) ((List ByteArray)) ((List ByteArray)):=(bif (Q6 a0.1 2 4) then (.next (J6 s0 a0.2.2.2.1)) else (.next s0))
def Gp (_:Nat) (s0:(List ByteArray)):(List ByteArray):=s0
def Kq (q:(List Yu)):(List ByteArray):=(Out.on (Xp C4 Gp q 0 []) (fun y0=>y0))
theorem JA (q:(List Yu)):ACalls Tryz.prog 233 [.h q] (.o 0 (Kq q)):=by
 refine en Qa Tryz.func233 fun w0 F0 hG=> ?_
 refine sn Qa [0,2] [] (p0) <| tn Qa [0,2,3] [] (p0) <| Qc <| tu Qa [(2, .e 0),(3, .one (.slc (.own true 320) 1 [])),(4, .i 0)] [] [] [] (p0) <| wT 0 0 .sh q (fun hw1 hl2=> ?_)
 refine XY C4 Gp q [] (fun k0 s0=> [(3, .h s0),(4, .i ((k0:Nat):Int))]) [3,4] (fun y0=> [(3, .h y0)]) [0,3,4] (fun k0 s0=>List.length s0<=k0) (M2 [] [320] [] [] (by kernel_rfl)) (by simp) (fun k0 s0 hk0 hI0=> ?_) (fun k0 s0 hk0 hI0=> ?_) (fun y0 hD0=> ?_)
 ·
  have hA0_0:=hI0.2;obtain ⟨a0,hx0⟩:=Xh (l:=q) (i:=k0) hk0;refine Qc <| sn Qa [0,2,3,4,9] [] (pl 2 q (pe 3 (Qp (decide_eq_true (p:=((k0:Nat):Int)<(q.length:Int)) (by omega))) p0)) <| ckT <| Qf <| Qc <| Qu <| tn Qa [0,2,3,4,17] [] (pn 2 hx0 (pc 5 (Zo a0.1 2 4) p0)) <| ck (Q6 a0.1 2 4) (fun h3=> ?_) (fun h3=> ?_)
  ·
   have h3w:=Cc.1 h3;refine qu Qa [(3, .h (J6 s0 a0.2.2.2.1))] [3] [] [] (pn 3 hx0 (pc 6 (Ev s0 a0.2.2.2.1 (by omega)) p0)) ?_;refine rn Qa [0,2,3,4] [] (pe 1 (Jh (Ql k0 (by omega))) p0) ?_;exact xw (J6 s0 a0.2.2.2.1) ⟨Qr hx0 (Xf h3 (rfl)) hI0.1,(by first | omega | (have hz:=Po s0 a0.2.2.2.1;omega))⟩
  refine Qf <| qu Qa [(4, .i ((k0+1:Nat):Int))] [4] [] [] (pe 1 (Jh (Ql k0 (by omega))) p0) ?_
  exact xw s0 ⟨Qr hx0 (Qs h3 (rfl)) hI0.1,(by first | omega | (have hz:=Po s0 a0.2.2.2.1;omega))⟩
 ·
  have hA0_0:=hI0.2;exact Qc <| sn Qa [0,2,3,4,9] [] (pl 2 q (pe 3 (Qp (decide_eq_false (p:=((k0:Nat):Int)<(q.length:Int)) (by omega))) p0)) <| ckF <| Q2 <| xw _ (Xi hk0 (rfl) hI0.1)
 refine wT 3 0 .sh y0 (fun hw4 hl5=> ?_);exact sn Qa [2] [] (po 2 (.flat) (px (Ff (n:=(([]:List (List PV)).length+((eL y0):List (List PV)).length)) (Ig (rfl) (Zj y0) (by first | omega | (simp only[List.length_cons,List.length_nil];omega) | (simp;omega) | simp))) (px (Dg (Ca y0)) p0))) <| Qg <| po0 [] (Wj hD0 (rfl))
def D5 (_:Nat) (a0:E6) (s0:(List ByteArray)):Rd ((List ByteArray)) ((List ByteArray)) ((List ByteArray)):=(.next (s0++ [a0.1]))
def Iy (_:Nat) (s0:(List ByteArray)):(List ByteArray):=s0
def Yj (f:Xc):(List ByteArray):=(Out.on (Xp D5 Iy f.2.2.2.2 0 []) (fun y0=>y0))
theorem R6 (f:Xc):(Yj f).length=f.2.2.2.2.length:=by
 unfold Yj;rw[Au (f:=D5) (g:=fun a:E6=>a.1) (fun _ _ _=>rfl)];simp[Out.on,Iy]
theorem Py (f:Xc):ACalls Tryz.prog 271 [.a [.i f.1, .i f.2.1, .b f.2.2.1, .i f.2.2.2.1, .h f.2.2.2.2]] (.o 0 (Yj f)):=by
 refine en Qa Tryz.func271 fun w0 F0 hG=> ?_
 refine sn Qa [1,2] [1] (p0) <| tn Qa [1,2,3] [1] (p0) <| Qc <| tu Qa [(1, .p 1 0),(2, .e 0),(3, .one (.slc (.own true 320) 1 [])),(4, .i 0)] [0] [(1, [.i f.1, .i f.2.1, .b f.2.2.1, .i f.2.2.2.1, .h f.2.2.2.2])] [] (p0) <| wB 1 4 .sh f.2.2.2.2 (fun hw1 hl2=> ?_)
 refine XZ D5 Iy f.2.2.2.2 [] (fun k0 s0=> [(3, .o 147202 s0),(4, .i ((k0:Nat):Int))]) [3,4] (fun _ _=> []) [] (fun y0=> [(3, .o 147352 y0)]) [1,3,4] (fun _=> []) [1] (fun k0 s0=>List.length s0<=k0) (Xl [(320,147202)] (by kernel_rfl)) (by simp) (fun k0 s0 hk0 hI0=> ?_) (fun k0 s0 hk0 hI0=> ?_) (fun y0 hD0=> ?_)
 ·
  have hA0_0:=hI0.2;obtain ⟨a0,hx0⟩:=Xh (l:=f.2.2.2.2) (i:=k0) hk0;refine Qc <| sn Qa [1,2,3,4,10] [1] (pl 3 f.2.2.2.2 (pe 4 (Qp (decide_eq_true (p:=((k0:Nat):Int)<(f.2.2.2.2.length:Int)) (by omega))) p0)) <| ckT <| Qf <| Qc <| Qu <| wT 3 0 (.own true 147202) s0 (fun hw3 hl4=> ?_)
  refine qu Qa [(3, .one (.slc (.own true 1344) 1 ((eL s0)++ [[.s a0.1]])))] [3] [] [] (pn 4 hx0 (pa s0 [a0.1] p0)) ?_;refine eqn [(3, .o 1344 (s0++ [a0.1]))] [3] [] [] (by rw[show ((eL s0)++ [[.s a0.1]])=(eL (s0++ [a0.1])) from Ks (rfl) (rfl)];first | done | kernel_rfl) ?_;refine rn Qa [1,2,3,4] [1] (pe 1 (Jh (Ql k0 (by omega))) p0) ?_;exact Exists.intro (s0++ [a0.1]) (And.intro (Xl [(1344,147202)] (by kernel_rfl)) ⟨Qr hx0 (rfl) hI0.1,by first | omega | (simp;omega) | simp⟩)
 ·
  have hA0_0:=hI0.2;exact Qc <| sn Qa [1,2,3,4,10] [1] (pl 3 f.2.2.2.2 (pe 4 (Qp (decide_eq_false (p:=((k0:Nat):Int)<(f.2.2.2.2.length:Int)) (by omega))) p0)) <| ckF <| Q2 <| Exists.intro _ (And.intro (Xl [(147202,147352)] (by kernel_rfl)) (Xi hk0 (rfl) hI0.1))
 exact sn Qa [2] [] (p0) <| Qg <| po0 [] (Wj hD0 (rfl))
def Eo (a_:Xc) (b:Xc) (_:Nat) (a0:ByteArray) (s0:(List ByteArray)):Rd ((List ByteArray)) ((List ByteArray)) ((List ByteArray)):=(bif (!(((Xo a_ a0).1==(Xo b a0).1)&&(((Xo a_ a0).2.1==(Xo b a0).2.1)&&((((Xo a_ a0).2.2).toList==((Xo b a0).2.2).toList)&&true)))) then (.next (J6 s0 a0)) else (.next s0))
def Ep (_:Nat) (s0:(List ByteArray)):(List ByteArray):=s0
def Wp (a_:Xc) (b:Xc):(List ByteArray):=(Out.on (Xp (Eo a_ b) Ep (Yj a_++(Yj b)) 0 []) (fun y0=>y0))
theorem QY (a_:Xc) (b:Xc) (hp:(List.length a_.2.2.2.2:Int)+List.length b.2.2.2.2<=1073741000):ACalls Tryz.prog 231 [.a [.i a_.1, .i a_.2.1, .b a_.2.2.1, .i a_.2.2.2.1, .h a_.2.2.2.2], .a [.i b.1, .i b.2.1, .b b.2.2.1, .i b.2.2.2.1, .h b.2.2.2.2]] (.o 0 (Wp a_ b)):=by
 refine en Qa Tryz.func231 fun w0 F0 hG=> ?_
 have hn1:=R6 a_;have hn2:=R6 b;refine sn Qa [2,3,4] [2,3] (p0) <| tn Qa [2,3,4,5] [2,3] (p0) <| tU Qa Zh [(2, .p 2 0),(3, .p 3 0),(4, .e 0),(5, .one (.slc (.own true 512) 1 [])),(6, .one (.slc (.own true 832) 1 ((eL (Yj a_))++(eL (Yj b)))))] [0,1] [(2, [.i a_.1, .i a_.2.1, .b a_.2.2.1, .i a_.2.2.2.1, .h a_.2.2.2.2]),(3, [.i b.1, .i b.2.1, .b b.2.2.1, .i b.2.2.2.1, .h b.2.2.2.2])] [] (pc 1 (Py a_) (pc 3 (Py b) (pa (Yj a_) (Yj b) p0))) <| eqn [(6, .o 832 (Yj a_++(Yj b)))] [6] [] [] (by rw[show ((eL (Yj a_))++(eL (Yj b)))=(eL (Yj a_++(Yj b))) from Ks (rfl) (rfl)]<;>kernel_rfl) ?_
 refine Qc <| su Qa [(7, .i 0)] [] [] [] (p0) <| wT 6 0 (.own true 832) (Yj a_++(Yj b)) (fun hw1 hl2=> ?_)
 refine XZ (Eo a_ b) Ep (Yj a_++(Yj b)) [] (fun k0 s0=> [(5, .h s0),(7, .i ((k0:Nat):Int))]) [5,7] (fun _ _=> []) [] (fun y0=> [(5, .h y0)]) [2,3,5,6,7] (fun _=> []) [2,3] (fun k0 s0=>List.length s0<=k0) (M2 [] [512] [] [] (by kernel_rfl)) (by simp) (fun k0 s0 hk0 hI0=> ?_) (fun k0 s0 hk0 hI0=> ?_) (fun y0 hD0=> ?_)
 ·
  have hA0_0:=hI0.2;obtain ⟨a0,hx0⟩:=Xh (l:=Yj a_++(Yj b)) (i:=k0) hk0;refine Qc <| su Qa [(17, .b true)] [] [] [] (pl 2 (Yj a_++(Yj b)) (pe 3 (Qp (decide_eq_true (p:=((k0:Nat):Int)<((Yj a_++(Yj b)).length:Int)) (by omega))) p0)) <| ckT <| Qf <| Qc <| Qu <| sN Qa Zh [2,3,4,5,6,7,32] [2,3] (pN 3 hx0 (pc 5 (Lb a_ a0) (pN 9 hx0 (pc 11 (Lb b a0) p0)))) <| ck (!(((Xo a_ a0).1==(Xo b a0).1)&&(((Xo a_ a0).2.1==(Xo b a0).2.1)&&((((Xo a_ a0).2.2).toList==((Xo b a0).2.2).toList)&&true)))) (fun h3=> ?_) (fun h3=> ?_)
  ·
   refine qn Qa [2,3,4,5,6,7] [2,3] (pN 3 hx0 (pc 5 (Ev s0 a0 (by omega)) p0)) ?_;refine qu Qa [(5, .h (J6 s0 a0)),(7, .i ((k0+1:Nat):Int))] [5,7,17] [] [] (pe 1 (Jh (Ql k0 (by omega))) p0) ?_;exact xw (J6 s0 a0) ⟨Qr hx0 (Xf h3 (rfl)) hI0.1,(by first | omega | (have hz:=Po s0 a0;omega))⟩
  have h3n:(((Xo a_ a0).1==(Xo b a0).1)&&(((Xo a_ a0).2.1==(Xo b a0).2.1)&&((((Xo a_ a0).2.2).toList==((Xo b a0).2.2).toList)&&true)))=true:=Y3 h3;have h3nl:(((Xo a_ a0).1==(Xo b a0).1))=true:=UP h3n;have h3nld:=eq_of_beq h3nl;have h3nr:((((Xo a_ a0).2.1==(Xo b a0).2.1)&&((((Xo a_ a0).2.2).toList==((Xo b a0).2.2).toList)&&true)))=true:=CJ h3n;have h3nrl:(((Xo a_ a0).2.1==(Xo b a0).2.1))=true:=UP h3nr;have h3nrld:=eq_of_beq h3nrl;refine Qf <| qn Qa [2,3,4,5,6,7] [2,3] (pe 1 (Jh (Ql k0 (by omega))) p0) ?_
  exact xw s0 ⟨Qr hx0 (Qs h3 (rfl)) hI0.1,(by first | omega | (have hz:=Po s0 a0;omega))⟩
 ·
  have hA0_0:=hI0.2;exact Qc <| su Qa [(17, .b false)] [] [] [] (pl 2 (Yj a_++(Yj b)) (pe 3 (Qp (decide_eq_false (p:=((k0:Nat):Int)<((Yj a_++(Yj b)).length:Int)) (by omega))) p0)) <| ckF <| Q2 <| xw _ (Xi hk0 (rfl) hI0.1)
 refine wT 5 0 .sh y0 (fun hw4 hl5=> ?_);exact sn Qa [4] [] (po 2 (.flat) (px (Ff (n:=(([]:List (List PV)).length+((eL y0):List (List PV)).length)) (Ig (rfl) (Zj y0) (by first | omega | (simp only[List.length_cons,List.length_nil];omega) | (simp;omega) | simp))) (px (Dg (Ca y0)) p0))) <| Qg <| po0 [] (Wj hD0 (rfl))
def Bm (_:Nat) (a0:Yu) (_:Unit):Rd (Bool) (Unit) (Unit):=(bif (a0.1==(9:Int)) then (.ret true) else (.next ()))
def D6 (_:Nat) (_:Unit):Unit:=()
def C5 (q:(List Yu)):Bool:=(Out.on (Xp Bm D6 q 0 ()) (fun _=>false))
theorem WN (q:(List Yu)):ACalls Tryz.prog 232 [.h q] (.b (C5 q)):=by
 refine en Qa Tryz.func232 fun w0 F0 hG=> ?_
 refine sn Qa [0,2] [] (p0) <| Qc <| tn Qa [0,2,3] [] (p0) <| mz [(2, .b false),(3, .i 0)] [] [] [] <| wT 0 0 .sh q (fun hw1 hl2=> ?_)
 refine Ox Bm D6 q () (fun k0 _=> [(3, .i ((k0:Nat):Int))]) [3] (fun _=> []) [0,3] wf0 (fun k0 s0 hk0 hI0=> ?_) (fun k0 s0 hk0 hI0=> ?_) (fun y0 hD0=> ?_)
 ·
  obtain ⟨a0,hx0⟩:=Xh (l:=q) (i:=k0) hk0;refine Qc <| sn Qa [0,2,3,7] [] (pl 2 q (pe 3 (Qp (decide_eq_true (p:=((k0:Nat):Int)<(q.length:Int)) (by omega))) p0)) <| ckT <| Qf <| Qc <| Qu <| tn Qa [0,2,3,15] [] (pn 2 hx0 p0) <| ck (a0.1==(9:Int)) (fun h3=> ?_) (fun h3=> ?_)
  ·
   refine tu Qa [(2, .b true)] [2] [] [] (p0) <| Qg ?_
   have hr4:(Xp Bm D6 q 0 ())= .ret true:=Jg hx0 (Xf h3 (rfl)) hI0;exact pb [] (Oa hr4)
  have h3d:=Z2 h3;refine Qf <| qu Qa [(3, .i ((k0+1:Nat):Int))] [3] [] [] (pe 1 (Jh (Ql k0 (by omega))) p0) ?_
  exact xw _ (Qr hx0 (Qs h3 (rfl)) hI0)
 ·
  exact Qc <| sn Qa [0,2,3,7] [] (pl 2 q (pe 3 (Qp (decide_eq_false (p:=((k0:Nat):Int)<(q.length:Int)) (by omega))) p0)) <| ckF <| Q2 <| xw _ (Xi hk0 (rfl) hI0)
 exact sn Qa [2] [] (p0) <| Qg <| pb [] (Wj hD0 (rfl))
def Fz (_:Nat) (a0:Xw) (s0:(List ByteArray)):Rd ((List ByteArray)) ((List ByteArray)) ((List ByteArray)):=(.next (s0++ [a0.1]))
def F1 (_:Nat) (s0:(List ByteArray)):(List ByteArray):=s0
def Wq (d:(List Xw)):(List ByteArray):=(Out.on (Xp Fz F1 d 0 []) (fun y0=>y0))
theorem M8 (d:(List Xw)):ACalls Tryz.prog 105 [.h d] (.o 0 (Wq d)):=by
 refine en Qa Tryz.func105 fun w0 F0 hG=> ?_
 refine sn Qa [0,2] [] (p0) <| tn Qa [0,2,3] [] (p0) <| Qc <| tu Qa [(2, .e 0),(3, .one (.slc (.own true 320) 1 [])),(4, .i 0)] [] [] [] (p0) <| wT 0 0 .sh d (fun hw1 hl2=> ?_)
 refine XY Fz F1 d [] (fun k0 s0=> [(3, .o 147202 s0),(4, .i ((k0:Nat):Int))]) [3,4] (fun y0=> [(3, .o 147352 y0)]) [0,3,4] (fun k0 s0=>List.length s0<=k0) (Xl [(320,147202)] (by kernel_rfl)) (by simp) (fun k0 s0 hk0 hI0=> ?_) (fun k0 s0 hk0 hI0=> ?_) (fun y0 hD0=> ?_)
 ·
  have hA0_0:=hI0.2;obtain ⟨a0,hx0⟩:=Xh (l:=d) (i:=k0) hk0;refine Qc <| sn Qa [0,2,3,4,9] [] (pl 2 d (pe 3 (Qp (decide_eq_true (p:=((k0:Nat):Int)<(d.length:Int)) (by omega))) p0)) <| ckT <| Qf <| Qc <| Qu <| wT 3 0 (.own true 147202) s0 (fun hw3 hl4=> ?_)
  refine qu Qa [(3, .one (.slc (.own true 1216) 1 ((eL s0)++ [[.s a0.1]])))] [3] [] [] (pn 3 hx0 (pa s0 [a0.1] p0)) ?_;refine eqn [(3, .o 1216 (s0++ [a0.1]))] [3] [] [] (by rw[show ((eL s0)++ [[.s a0.1]])=(eL (s0++ [a0.1])) from Ks (rfl) (rfl)];first | done | kernel_rfl) ?_;refine rn Qa [0,2,3,4] [] (pe 1 (Jh (Ql k0 (by omega))) p0) ?_;exact Exists.intro (s0++ [a0.1]) (And.intro (Xl [(1216,147202)] (by kernel_rfl)) ⟨Qr hx0 (rfl) hI0.1,by first | omega | (simp;omega) | simp⟩)
 ·
  have hA0_0:=hI0.2;exact Qc <| sn Qa [0,2,3,4,9] [] (pl 2 d (pe 3 (Qp (decide_eq_false (p:=((k0:Nat):Int)<(d.length:Int)) (by omega))) p0)) <| ckF <| Q2 <| Exists.intro _ (And.intro (Xl [(147202,147352)] (by kernel_rfl)) (Xi hk0 (rfl) hI0.1))
 exact sn Qa [2] [] (p0) <| Qg <| po0 [] (Wj hD0 (rfl))
def F2 (s_:ByteArray) (_:Nat) (a0:ByteArray) (_:Unit):Rd (Bool) (Unit) (Unit):=(bif (a0.toList==s_.toList) then (.ret true) else (.next ()))
def Ll (_:Nat) (_:Unit):Unit:=()
def V2 (list:(List ByteArray)) (s_:ByteArray):Bool:=(Out.on (Xp (F2 s_) Ll list 0 ()) (fun _=>false))
theorem Qcg (s:ByteArray):∀(l:List ByteArray) (k:Nat),(Out.on (Xp (F2 s) Ll l k ()) (fun _=>false))=true↔s∈l
 | [],k=>by simp[Xp,Out.on]
 | a::l,k=>by
   simp only[Xp,F2,toList_inj];by_cases h:a=s
   . subst h;simp[Out.on]
   rw[decide_eq_false h];simp only[cond_false];refine (Qcg s l (k+1)).trans ?_;simp[Ne.symm h]
theorem WO (l:List ByteArray) (s:ByteArray):V2 l s=true↔s∈l:=Qcg s l 0
theorem Mu (list:(List ByteArray)) (s_:ByteArray):ACalls Tryz.prog 180 [.h list, .s s_] (.b (V2 list s_)):=by
 refine en Qa Tryz.func180 fun w0 F0 hG=> ?_
 refine sn Qa [0,1,4] [] (p0) <| Qc <| tn Qa [0,1,4,5] [] (p0) <| mz [(4, .b false),(5, .i 0)] [] [] [] <| wT 0 0 .sh list (fun hw1 hl2=> ?_)
 refine Ox (F2 s_) Ll list () (fun k0 _=> [(5, .i ((k0:Nat):Int))]) [5] (fun _=> []) [0,1,5] wf0 (fun k0 s0 hk0 hI0=> ?_) (fun k0 s0 hk0 hI0=> ?_) (fun y0 hD0=> ?_)
 ·
  obtain ⟨a0,hx0⟩:=Xh (l:=list) (i:=k0) hk0;refine Qc <| sn Qa [0,1,4,5,9] [] (pl 2 list (pe 3 (Qp (decide_eq_true (p:=((k0:Nat):Int)<(list.length:Int)) (by omega))) p0)) <| ckT <| Qf <| Qc <| Qu <| tn Qa [0,1,4,5,17] [] (pn 2 hx0 p0) <| ck (a0.toList==s_.toList) (fun h3=> ?_) (fun h3=> ?_)
  ·
   refine tu Qa [(4, .b true)] [4] [] [] (p0) <| Qg ?_
   have hr4:(Xp (F2 s_) Ll list 0 ())= .ret true:=Jg hx0 (Xf h3 (rfl)) hI0;exact pb [] (Oa hr4)
  refine Qf <| qu Qa [(5, .i ((k0+1:Nat):Int))] [5] [] [] (pe 1 (Jh (Ql k0 (by omega))) p0) ?_
  exact xw _ (Qr hx0 (Qs h3 (rfl)) hI0)
 ·
  exact Qc <| sn Qa [0,1,4,5,9] [] (pl 2 list (pe 3 (Qp (decide_eq_false (p:=((k0:Nat):Int)<(list.length:Int)) (by omega))) p0)) <| ckF <| Q2 <| xw _ (Xi hk0 (rfl) hI0)
 exact sn Qa [4] [] (p0) <| Qg <| pb [] (Wj hD0 (rfl))
def U3 (a_:Xc) (b:Xc) (_:Nat) (a1:ByteArray) (s1:Bool):Rd (Rd ((List ByteArray)) ((List ByteArray)) ((List ByteArray))) (Bool) (Bool):=(.next (s1|| (V2 (Wp a_ b) a1)))
def U4 (_:Nat) (s1:Bool):Bool:=s1
def Kf (a_:Xc) (b:Xc) (_:Nat) (a0:Xw) (s0:(List ByteArray)):Rd ((List ByteArray)) ((List ByteArray)) ((List ByteArray)):=(Out.on (Xp (U3 a_ b) U4 (Kq a0.2) 0 ((a_.2.2.2.1 !=b.2.2.2.1)&&(C5 a0.2))) (fun y1=>(bif y1 then (.next (s0++ [a0.1])) else (.next s0))))
def Wd (_:Nat) (s0:(List ByteArray)):(List ByteArray):=s0
def Kx (d:(List Xw)) (a_:Xc) (b:Xc):(List ByteArray):=(bif (a_.1 !=b.1) then (Wq d) else (Out.on (Xp (Kf a_ b) Wd d 0 []) (fun y0=>y0)))
theorem Pz (a b:Xc):∀(l:List Xw) (k:Nat) (s:List ByteArray),(∃s',Xp (Kf a b) Wd l k s= .brk s'/\s'.length<=s.length+l.length)\/∃r,Xp (Kf a b) Wd l k s= .ret r/\r= []
 | [],k,s=> .inl ⟨s,rfl,by simp⟩
 | x ::l,k,s=>by
   have hin:∀(l:List ByteArray) (k:Nat) (s:Bool),∃y,Xp (U3 a b) U4 l k s= .brk y:=by
    intro l
    induction l with
    | nil=>exact fun k s=>⟨s,rfl⟩
    | cons c l ih=>exact fun k s=>ih (k+1) _
   obtain ⟨y,hy⟩:=hin (Kq x.2) 0 ((a.2.2.2.1 !=b.2.2.2.1)&&(C5 x.2));simp only[Xp,Kf,hy,Out.on];cases y with
   | true=>
     rcases Pz a b l (k+1) (s++ [x.1]) with ⟨s',h1,h2⟩ | h
     . exact .inl ⟨s',h1,by simp at h2⊢;omega⟩
     exact .inr h
   | false=>
     rcases Pz a b l (k+1) s with ⟨s',h1,h2⟩ | h
     . exact .inl ⟨s',h1,by simp at h2⊢;omega⟩
     exact .inr h
theorem DK (d:List Xw) (a b:Xc):(Kx d a b).length<=d.length:=by
 unfold Kx;generalize (a.1 !=b.1)=c;cases c with
 | true=>
   simp only[cond_true];unfold Wq;rw[Au (f:=Fz) (g:=fun a:Xw=>a.1) (fun _ _ _=>rfl)];simp[Out.on,F1]
 | false=>
   simp only[cond_false];rcases Pz a b d 0 [] with ⟨s',h1,h2⟩ | ⟨r,h1,rfl⟩
   . rw[h1];exact (by simpa using h2:s'.length<=d.length)
   rw[h1];exact Nat.zero_le _
theorem O6 (d:(List Xw)) (a_:Xc) (b:Xc) (hp:(List.length a_.2.2.2.2:Int)+List.length b.2.2.2.2<=1073741000):ACalls Tryz.prog 175 [.h d, .a [.i a_.1, .i a_.2.1, .b a_.2.2.1, .i a_.2.2.2.1, .h a_.2.2.2.2], .a [.i b.1, .i b.2.1, .b b.2.2.1, .i b.2.2.2.1, .h b.2.2.2.2]] (.o 0 (Kx d a_ b)):=by
 refine en Qa Tryz.func175 fun w0 F0 hG=> ?_
 refine sn Qa [0,4,5,6] [4,5] (p0) <| Qc <| tn Qa [0,4,5,6,17] [4,5] (p0) <| ck (a_.1 !=b.1) (fun h1=> ?_) (fun h1=> ?_)
 ·
  exact tu Qa [(4, .p 4 0),(5, .p 5 0),(6, .o 1216 (Wq d))] [1,2] [(4, [.i a_.1, .i a_.2.1, .b a_.2.2.1, .i a_.2.2.2.1, .h a_.2.2.2.2]),(5, [.i b.1, .i b.2.1, .b b.2.2.1, .i b.2.2.2.1, .h b.2.2.2.2])] [] (pc 1 (M8 d) p0) <| Qg <| po0 [] (Xf h1 (rfl))
 have h1d:=Wt h1;refine Qf <| tu Qa [(4, .p 4 0),(5, .p 5 0),(6, .e 0),(7, .one (.slc (.own true 1280) 1 []))] [1,2] [(4, [.i a_.1, .i a_.2.1, .b a_.2.2.1, .i a_.2.2.2.1, .h a_.2.2.2.2]),(5, [.i b.1, .i b.2.1, .b b.2.2.1, .i b.2.2.2.1, .h b.2.2.2.2])] [] (p0) <| sn Qa [0,4,5,6,7,8] [4,5] (pc 2 (QY a_ b (by first | omega | (simp;omega))) p0) <| Qc <| tn Qa [0,4,5,6,7,8,9] [4,5] (p0) <| mz [(8, .o 1472 (Wp a_ b)),(9, .i 0)] [] [] [] <| wT 0 0 .sh d (fun hw2 hl3=> ?_)
 refine XZ (Kf a_ b) Wd d [] (fun k0 s0=> [(7, .o 147204 s0),(9, .i ((k0:Nat):Int))]) [7,9] (fun _ _=> []) [] (fun y0=> [(7, .o 147354 y0)]) [0,4,5,7,8,9] (fun _=> []) [4,5] (fun k0 s0=>List.length s0<=k0) (Xl [(1280,147204)] (by kernel_rfl)) (by simp) (fun k0 s0 hk0 hI0=> ?_) (fun k0 s0 hk0 hI0=> ?_) (fun y0 hD0=> ?_)
 ·
  have hA0_0:=hI0.2;obtain ⟨a0,hx0⟩:=Xh (l:=d) (i:=k0) hk0;refine Qc <| su Qa [(27, .b true)] [] [] [] (pl 2 d (pe 3 (Qp (decide_eq_true (p:=((k0:Nat):Int)<(d.length:Int)) (by omega))) p0)) <| ckT <| Qf <| Qc <| Qu <| Qc <| jn [(10, .b ((a_.2.2.2.1 !=b.2.2.2.1)&&(C5 a0.2)))] [27] [] [] (a_.2.2.2.1 !=b.2.2.2.1) (fun h4=> ?_) (fun h4=> ?_) ?_
  ·
   refine rn Qa [0,4,5,6,7,8,9,10] [4,5] (pt 4 h4 (pn 8 hx0 (pc 11 (WN a0.2) p0))) ?_;exact ⟨rfl,Qd (by rw[h4]<;>kernel_rfl)⟩
  ·
   refine ru Qa [(10, .b false)] [27] [] [] (pf 4 h4 p0) ?_;exact ⟨rfl,Qd (by rw[h4]<;>kernel_rfl)⟩
  refine sn Qa [0,4,5,6,7,8,9,10,11] [4,5] (pn 2 hx0 (pc 5 (JA a0.2) p0)) <| Qc <| tn Qa [0,4,5,6,7,8,9,10,11,12] [4,5] (p0) <| mz [(11, .o 3072 (Kq a0.2)),(12, .i 0)] [] [] [] <| wT 11 0 (.own true 3072) (Kq a0.2) (fun hw5 hl6=> ?_)
  refine Ox (U3 a_ b) U4 (Kq a0.2) ((a_.2.2.2.1 !=b.2.2.2.1)&&(C5 a0.2)) (fun k1 s1=> [(10, .b s1),(12, .i ((k1:Nat):Int))]) [10,12] (fun y1=> [(10, .b y1)]) [10,11,12] wf0 (fun k1 s1 hk1 hI1=> ?_) (fun k1 s1 hk1 hI1=> ?_) (fun y1 hD1=> ?_)
  ·
   obtain ⟨a1,hx1⟩:=Xh (l:=Kq a0.2) (i:=k1) hk1;refine Qc <| su Qa [(52, .b true)] [] [] [] (pl 2 (Kq a0.2) (pe 3 (Qp (decide_eq_true (p:=((k1:Nat):Int)<((Kq a0.2).length:Int)) (by omega))) p0)) <| ckT <| Qf <| Qc <| Qu <| jn [(10, .b (s1|| (V2 (Wp a_ b) a1)))] [10,52] [] [] s1 (fun h7=> ?_) (fun h7=> ?_) ?_
   ·
    refine ru Qa [(10, .b true)] [10,52] [] [] (pt 0 h7 p0) ?_;exact ⟨rfl,Qd (by rw[h7]<;>kernel_rfl)⟩
   ·
    refine rn Qa [0,4,5,6,7,8,9,10,11,12] [4,5] (pf 0 h7 (pN 5 hx1 (pc 7 (Mu (Wp a_ b) a1) p0))) ?_;exact ⟨rfl,Qd (by rw[h7]<;>kernel_rfl)⟩
   refine rn Qa [0,4,5,6,7,8,9,10,11,12] [4,5] (pe 1 (Jh (Ql k1 (by omega))) p0) ?_;exact xw _ (Qr hx1 (rfl) hI1)
  ·
   exact Qc <| su Qa [(52, .b false)] [] [] [] (pl 2 (Kq a0.2) (pe 3 (Qp (decide_eq_false (p:=((k1:Nat):Int)<((Kq a0.2).length:Int)) (by omega))) p0)) <| ckF <| Q2 <| xw _ (Xi hk1 (rfl) hI1)
  refine su Qa [(64, .b y1)] [10] [] [] (p0) <| ck y1 (fun h8=> ?_) (fun h8=> ?_)
  ·
   refine wT 7 0 (.own true 147204) s0 (fun hw9 hl10=> ?_);refine ru Qa [(7, .one (.slc (.own true 4608) 1 ((eL s0)++ [[.s a0.1]])))] [7,64] [] [] (pn 3 hx0 (pa s0 [a0.1] p0)) ?_;refine eqn [(7, .o 4608 (s0++ [a0.1]))] [7] [] [] (by rw[show ((eL s0)++ [[.s a0.1]])=(eL (s0++ [a0.1])) from Ks (rfl) (rfl)];first | done | kernel_rfl) ?_;refine rn Qa [0,4,5,6,7,8,9] [4,5] (pe 1 (Jh (Ql k0 (by omega))) p0) ?_;exact Exists.intro (s0++ [a0.1]) (And.intro (Xl [(4608,147204)] (by kernel_rfl)) ⟨Qr hx0 (Wj hD1 (Xf h8 (rfl))) hI0.1,by first | omega | (simp;omega) | simp⟩)
  refine Qf <| rn Qa [0,4,5,6,7,8,9] [4,5] (pe 1 (Jh (Ql k0 (by omega))) p0) ?_
  exact xw s0 ⟨Qr hx0 (Wj hD1 (Qs h8 (rfl))) hI0.1,by first | omega | (simp;omega) | simp⟩
 ·
  have hA0_0:=hI0.2;exact Qc <| su Qa [(27, .b false)] [] [] [] (pl 2 d (pe 3 (Qp (decide_eq_false (p:=((k0:Nat):Int)<(d.length:Int)) (by omega))) p0)) <| ckF <| Q2 <| Exists.intro _ (And.intro (Xl [(147204,147354)] (by kernel_rfl)) (Xi hk0 (rfl) hI0.1))
 exact sn Qa [6] [] (p0) <| Qg <| po0 [] (Qs h1 (Wj hD0 (rfl)))
def Ho (_:Nat) (a0:ByteArray) (s0:(List ByteArray)):Rd ((List ByteArray)) ((List ByteArray)) ((List ByteArray)):=(.next (J6 s0 a0))
def Hp (_:Nat) (s0:(List ByteArray)):(List ByteArray):=s0
def We (a2:Xw) (_:Nat) (a3:ByteArray) (s3:(List ByteArray)):Rd (Rd (Rd ((List ByteArray)) ((List ByteArray)) ((List ByteArray))) ((List ByteArray)) ((List ByteArray))) ((List ByteArray)) ((List ByteArray)):=(bif (V2 s3 a3) then (.next (J6 s3 a2.1)) else (.next s3))
def Hq (_:Nat) (s3:(List ByteArray)):(List ByteArray):=s3
def Wf (_:Nat) (a2:Xw) (s2:(List ByteArray)):Rd (Rd ((List ByteArray)) ((List ByteArray)) ((List ByteArray))) ((List ByteArray)) ((List ByteArray)):=(Out.on (Xp (We a2) Hq (Vw a2.2) 0 s2) (fun y3=>(.next y3)))
def Hs (_:Nat) (s2:(List ByteArray)):(List ByteArray):=s2
def Wg (d:(List Xw)) (_:Nat) (s1:(List ByteArray)):Rd ((List ByteArray)) ((List ByteArray)) ((List ByteArray)):=(Out.on (Xp Wf Hs d 0 s1) (fun y2=>(.next y2)))
def Ht (_:Nat) (s1:(List ByteArray)):(List ByteArray):=s1
def Yw (d:(List Xw)) (names:(List ByteArray)):(List ByteArray):=(Out.on (Xp Ho Hp names 0 []) (fun y0=>(Out.on (Wu (Wg d) Ht (Int.toNat ((d.length:Int)+1)) 0 y0) (fun y1=>y1))))
def WP (N s:List ByteArray):Prop:=YB s/\∀x,x∈s->x∈N
theorem WQ {N s:List ByteArray} {x:ByteArray} (h:WP N s) (hx:x∈N):WP N (J6 s x):=by
 rw[Pn];exact ⟨T8 _ _ h.1,fun y hy=>((Mj _ _ _).1 hy).elim (fun e=>e▸hx) (h.2 y)⟩
theorem GH {names:List ByteArray} {d:List Xw} {s:List ByteArray} (h:WP (names++List.map (·.1) d) s):List.length s<=List.length names+List.length d:=by
 have:=JW (WG h.1) h.2;simpa using this
theorem H0 (d:(List Xw)) (names:(List ByteArray)) (hp:(List.length names:Int)+List.length d<=1000000):ACalls Tryz.prog 111 [.h d, .h names] (.o 0 (Yw d names)):=by
 refine en Qa Tryz.func111 fun w0 F0 hG=> ?_
 refine sn Qa [0,1,4] [] (p0) <| tn Qa [0,1,4,5] [] (p0) <| Qc <| tu Qa [(4, .e 0),(5, .one (.slc (.own true 704) 1 [])),(6, .i 0)] [] [] [] (p0) <| wT 1 0 .sh names (fun hw1 hl2=> ?_)
 refine Qa5 Ho Hp names [] (fun k0 s0=> [(5, .h s0),(6, .i ((k0:Nat):Int))]) [5,6] (fun y0=> [(5, .h y0)]) [1,5,6] (fun _ s0=>WP (names++List.map (·.1) d) s0) (fun y0=>WP (names++List.map (·.1) d) y0) (M2 [] [704] [] [] (by kernel_rfl)) (by exact ⟨List.Pairwise.nil,fun x hx=>by cases hx⟩) (fun k0 s0 hk0 hI0=> ?_) (fun k0 s0 hk0 hI0=> ?_) (fun y0 hD0=> ?_)
 ·
  have hA0_0:=hI0.2;obtain ⟨a0,hx0⟩:=Xh (l:=names) (i:=k0) hk0;have hpl0:=GH hA0_0;refine Qc <| sn Qa [0,1,4,5,6,15] [] (pl 2 names (pe 3 (Qp (decide_eq_true (p:=((k0:Nat):Int)<(names.length:Int)) (by omega))) p0)) <| ckT <| Qf <| Qc <| Qu <| qn Qa [0,1,4,5,6] [] (pn 3 hx0 (pc 5 (Ev s0 a0 (by omega)) p0)) ?_
  refine qu Qa [(5, .h (J6 s0 a0)),(6, .i ((k0+1:Nat):Int))] [5,6] [] [] (pe 1 (Jh (Ql k0 (by omega))) p0) ?_;exact xw (J6 s0 a0) ⟨Qr hx0 (rfl) hI0.1,(by exact WQ (by assumption) (List.mem_append_left _ (List.mem_of_getElem? hx0)))⟩
 ·
  have hA0_0:=hI0.2;exact Qc <| sn Qa [0,1,4,5,6,15] [] (pl 2 names (pe 3 (Qp (decide_eq_false (p:=((k0:Nat):Int)<(names.length:Int)) (by omega))) p0)) <| ckF <| Q2 <| xw s0 ⟨Xi hk0 (rfl) hI0.1,by first | omega | (simp only[List.length_set];omega)⟩
 have hD0_0:=hD0.2;refine Qc <| sn Qa [0,4,5,7] [] (p0) <| mz [(7, .i 0)] [] [] [] <| wT 0 0 .sh d (fun hw3 hl4=> ?_)
 refine Qkw (Wg d) Ht (Int.toNat ((d.length:Int)+1)) y0 (fun k1 s1=> [(5, .h s1),(7, .i ((k1:Nat):Int))]) [5,7] (fun y1=> [(5, .h y1)]) [0,5,7] (fun _ s1=>WP (names++List.map (·.1) d) s1) (fun y1=>WP (names++List.map (·.1) d) y1) wf0 (by assumption) (fun k1 s1 hk1 hI1=> ?_) (fun k1 s1 hk1 hI1=> ?_) (fun y1 hD1=> ?_)
 ·
  have hA1_0:=hI1.2;refine Qc <| sn Qa [0,4,5,7,27] [] (pl 2 d (pe 3 (Qp (decide_eq_true (p:=((k1:Nat):Int)<=(d.length:Int)) (by omega))) p0)) <| ckT <| Qf <| Qc <| Qu <| tn Qa [0,4,5,7,8] [] (p0) <| mz [(8, .i 0)] [] [] [] <| Qa5 Wf Hs d s1 (fun k2 s2=> [(5, .h s2),(8, .i ((k2:Nat):Int))]) [5,8] (fun y2=> [(5, .h y2)]) [5,8] (fun _ s2=>WP (names++List.map (·.1) d) s2) (fun y2=>WP (names++List.map (·.1) d) y2) wf0 (by assumption) (fun k2 s2 hk2 hI2=> ?_) (fun k2 s2 hk2 hI2=> ?_) (fun y2 hD2=> ?_)
  ·
   have hA2_0:=hI2.2;obtain ⟨a2,hx2⟩:=Xh (l:=d) (i:=k2) hk2;refine Qc <| sn Qa [0,4,5,7,8,33] [] (pl 2 d (pe 3 (Qp (decide_eq_true (p:=((k2:Nat):Int)<(d.length:Int)) (by omega))) p0)) <| ckT <| Qf <| Qc <| Qu <| tn Qa [0,4,5,7,8,9] [] (pn 2 hx2 (pc 5 (WM a2.2) p0)) <| tu Qa [(9, .o 2624 (Vw a2.2)),(10, .i 0)] [] [] [] (p0) <| wT 9 0 (.own true 2624) (Vw a2.2) (fun hw5 hl6=> ?_)
   refine Qa5 (We a2) Hq (Vw a2.2) s2 (fun k3 s3=> [(5, .h s3),(10, .i ((k3:Nat):Int))]) [5,10] (fun y3=> [(5, .h y3)]) [5,9,10] (fun _ s3=>WP (names++List.map (·.1) d) s3) (fun y3=>WP (names++List.map (·.1) d) y3) wf0 (by assumption) (fun k3 s3 hk3 hI3=> ?_) (fun k3 s3 hk3 hI3=> ?_) (fun y3 hD3=> ?_)
   ·
    have hA3_0:=hI3.2;obtain ⟨a3,hx3⟩:=Xh (l:=Vw a2.2) (i:=k3) hk3;have hpl3:=GH hA3_0;refine Qc <| su Qa [(45, .b true)] [] [] [] (pl 2 (Vw a2.2) (pe 3 (Qp (decide_eq_true (p:=((k3:Nat):Int)<((Vw a2.2).length:Int)) (by omega))) p0)) <| ckT <| Qf <| Qc <| Qu <| sn Qa [0,4,5,7,8,9,10,53] [] (pN 3 hx3 (pc 5 (Mu s3 a3) p0)) <| ck (V2 s3 a3) (fun h7=> ?_) (fun h7=> ?_)
    ·
     refine qn Qa [0,4,5,7,8,9,10] [] (pn 3 hx2 (pc 6 (Ev s3 a2.1 (by omega)) p0)) ?_;refine qu Qa [(5, .h (J6 s3 a2.1)),(10, .i ((k3+1:Nat):Int))] [5,10,45] [] [] (pe 1 (Jh (Ql k3 (by omega))) p0) ?_;exact xw (J6 s3 a2.1) ⟨Qr hx3 (Xf h7 (rfl)) hI3.1,(by first | exact WQ (by assumption) (List.mem_append_right _ (List.mem_map_of_mem (List.mem_of_getElem? hx2))) | assumption)⟩
    refine Qf <| qn Qa [0,4,5,7,8,9,10] [] (pe 1 (Jh (Ql k3 (by omega))) p0) ?_
    exact xw s3 ⟨Qr hx3 (Qs h7 (rfl)) hI3.1,(by first | exact WQ (by assumption) (List.mem_append_right _ (List.mem_map_of_mem (List.mem_of_getElem? hx2))) | assumption)⟩
   ·
    have hA3_0:=hI3.2;exact Qc <| su Qa [(45, .b false)] [] [] [] (pl 2 (Vw a2.2) (pe 3 (Qp (decide_eq_false (p:=((k3:Nat):Int)<((Vw a2.2).length:Int)) (by omega))) p0)) <| ckF <| Q2 <| xw s3 ⟨Xi hk3 (rfl) hI3.1,by first | omega | (simp only[List.length_set];omega)⟩
   have hD3_0:=hD3.2;refine rn Qa [0,4,5,7,8] [] (pe 1 (Jh (Ql k2 (by omega))) p0) ?_;exact xw y3 ⟨Qr hx2 (Wj hD3.1 (rfl)) hI2.1,(by assumption)⟩
  ·
   have hA2_0:=hI2.2;exact Qc <| sn Qa [0,4,5,7,8,33] [] (pl 2 d (pe 3 (Qp (decide_eq_false (p:=((k2:Nat):Int)<(d.length:Int)) (by omega))) p0)) <| ckF <| Q2 <| xw s2 ⟨Xi hk2 (rfl) hI2.1,by first | omega | (simp only[List.length_set];omega)⟩
  have hD2_0:=hD2.2;refine rn Qa [0,4,5,7] [] (pe 1 (Jh (Ql k1 (by omega))) p0) ?_;exact xw y2 ⟨Vi hk1 (Wj hD2.1 (rfl)) hI1.1,(by assumption)⟩
 ·
  have hA1_0:=hI1.2;exact Qc <| sn Qa [0,4,5,7,27] [] (pl 2 d (pe 3 (Qp (decide_eq_false (p:=((k1:Nat):Int)<=(d.length:Int)) (by omega))) p0)) <| ckF <| Q2 <| xw s1 ⟨Cw hk1 (rfl) hI1.1,by first | omega | (simp only[List.length_set];omega)⟩
 have hD1_0:=hD1.2;refine wT 5 0 .sh y1 (fun hw8 hl9=> ?_);exact sn Qa [4] [] (po 2 (.flat) (px (Ff (n:=(([]:List (List PV)).length+((eL y1):List (List PV)).length)) (Ig (rfl) (Zj y1) (by first | omega | (simp only[List.length_cons,List.length_nil];omega) | (simp;omega) | simp))) (px (Dg (Ca y1)) p0))) <| Qg <| po0 [] (Wj hD0.1 (Wj hD1.1 (rfl)))
def Ur (d:(List Xw)) (a_:Xc) (b:Xc):(List ByteArray):=(Yw d (Kx d a_ b))
theorem QZ (d:(List Xw)) (a_:Xc) (b:Xc) (hp:(List.length a_.2.2.2.2:Int)+List.length b.2.2.2.2<=1073741000) (hd:List.length d<=1000):ACalls Tryz.prog 107 [.h d, .a [.i a_.1, .i a_.2.1, .b a_.2.2.1, .i a_.2.2.2.1, .h a_.2.2.2.2], .a [.i b.1, .i b.2.1, .b b.2.2.1, .i b.2.2.2.1, .h b.2.2.2.2]] (.o 0 (Ur d a_ b)):=by
 refine en Qa Tryz.func107 fun w0 F0 hG=> ?_
 have hdl:=DK d a_ b;exact sn Qa [0,4,5,6] [4,5] (p0) <| tn Qa [6] [] (pc 4 (O6 d a_ b (by first | omega | (simp;omega))) (pc 5 (H0 d (Kx d a_ b) (by first | omega | (simp;omega))) p0)) <| Qg <| po0 [] (show Ur d a_ b=(Yw d (Kx d a_ b)) from rfl)
def Wz (a_:(List Qh)) (names:(List ByteArray)) (_:Nat) (a0:Xw) (s0:(List Qh)):Rd ((List Qh)×Bool) ((List Qh)) ((List Qh)):=(bif (V2 names a0.1) then (.next (s0++ [((a0.1, []):Qh)])) else (.next (s0++ [(a0.1,(Xd a_ a0.1))])))
def Hf (_:Nat) (s0:(List Qh)):(List Qh):=s0
def C6 (s_:Qz) (d:(List Xw)) (names:(List ByteArray)) (k1:Nat) (k3:Nat) (a3:Xw) (s3:(List Qh)×Bool):Rd (Rd (Rd ((List Qh)×Bool) ((List Qh)) ((List Qh))) ((List Qh)×Bool) ((List Qh))) ((List Qh)×Bool) ((List Qh)×Bool):=(bif (((nth (((Q8 d)).1) k3) !=((k1:Nat):Int))|| (!(V2 names a3.1))) then (.next (s3.1,s3.2)) else (bif (!(Kd (Yk s_ a3.2 s3.1) ((nth s3.1 k3).2))) then (.next (List.set s3.1 k3 ((nth s3.1 k3).1,(Yk s_ a3.2 s3.1)),true)) else (.next (s3.1,s3.2))))
def Gq (_:Nat) (s3:(List Qh)×Bool):(List Qh)×Bool:=(s3.1,s3.2)
def Vh (s_:Qz) (d:(List Xw)) (names:(List ByteArray)) (k1:Nat) (s2:(List Qh)×Bool):Rd (Rd ((List Qh)×Bool) ((List Qh)) ((List Qh))) ((List Qh)×Bool) ((List Qh)):=(bif s2.2 then (Out.on (Xp (C6 s_ d names k1) Gq d 0 (s2.1,false)) (fun y3=>(.next (y3.1,y3.2)))) else (.brk s2.1))
def C7 (s_:Qz) (d:(List Xw)) (names:(List ByteArray)) (k1:Nat) (s1:(List Qh)):Rd ((List Qh)×Bool) ((List Qh)) ((List Qh)):=(Out.on (Nj (Vh s_ d names k1) (List.length d*List.length s_.2.1+2) (s1,true)) (fun y2=>(.next y2)))
def Gr (_:Nat) (s1:(List Qh)):(List Qh):=s1
def Kr (s_:Qz) (d:(List Xw)) (a_:(List Qh)) (names:(List ByteArray)):(List Qh)×Bool:=(bif ((!(((Q8 d)).2))|| (!(Q4 s_))) then ([],false) else (Out.on (Xp (Wz a_ names) Hf d 0 []) (fun y0=>(Out.on (Wu (C7 s_ d names) Gr (Int.toNat ((Kp d)+1)) 0 y0) (fun y1=>(y1,true))))))
theorem Qhg (l:List ByteArray) (s:ByteArray):V2 l s=Qm l s:=by rw[Bool.eq_iff_iff,WO,Ae]
section
variable {s_:Qz} {d:List Xw} {a_:List Qh} {names:List ByteArray} {k1:Nat} {o:List Qh}
theorem Qch (s_:Qz) (d:List Xw) (names:List ByteArray) (k1:Nat):Qb3 s_ d (Qt d).1 (onD d names) (k1:Int) (C6 s_ d names k1):=by
 intro k a o c hk;have ha:nth d k=a:=Ow hk;unfold C6 FW onD;rw[ha,JU,Wm,←VY,Qhg];simp only[bne];cases (nth (Qt d).1 k==(k1:Int))<;>cases Qm names a.1<;>rfl
theorem GI (s_:Qz) (d:List Xw) (names:List ByteArray) (k1:Nat) (o:List Qh) (p:Int) (c:Bool):Qlq (Kl s_ d names k1 (o,p,c)) (Vh s_ d names k1 (o,c)):=by
 unfold Kl Vh;cases c with
 | false=>rfl
 | true=>
  simp only[cond_true];rw[YG (e:=Bk) (R1 s_ d names k1) (fun _ _=>rfl) d 0 o false rfl,YG (e:=Gq) (Qch s_ d names k1) (fun _ _=>rfl) d 0 o false rfl];rfl
theorem PF (hS:((Q8 d)).2=true) (h:EvS d ((Q8 d)).1 (onD d names) s_.2.1 (k1:Int) o):∃o',whl (Vh s_ d names k1) (List.length d*List.length s_.2.1+2) (o,true)=some (.brk o')/\EvS d ((Q8 d)).1 (onD d names) s_.2.1 ((k1:Int)+1) o':=by
 rw[Wm] at hS h⊢;obtain ⟨o',p',h1,h2⟩:=Cz (p:=0) hS h;exact ⟨o',DJ (GI s_ d names k1) _ o 0 true (o',p') h1,h2⟩
theorem Qkg (hS:((Q8 d)).2=true) (h:EvS d ((Q8 d)).1 (onD d names) s_.2.1 (((k1:Nat)):Int) o):(whl (Vh s_ d names k1) (List.length d*List.length s_.2.1+2) (o,true)).isSome=true:=by
 obtain ⟨o',h1,_⟩:=PF hS h;rw[h1];rfl
theorem XA {y:List Qh} (hS:((Q8 d)).2=true) (h:EvS d ((Q8 d)).1 (onD d names) s_.2.1 (((k1:Nat)):Int) o) (hy:Nj (Vh s_ d names k1) (List.length d*List.length s_.2.1+2) (o,true)= .brk y):EvS d ((Q8 d)).1 (onD d names) s_.2.1 ((((k1+1):Nat)):Int) y:=by
 obtain ⟨o',h1,h2⟩:=PF hS h;unfold Nj at hy;rw[h1] at hy;have e:o'=y:=by simpa using hy
 rw[←e,Int.natCast_add];exact h2
theorem Qci:(∀k (a:Xw) s,Wz a_ names k a s= .next (s++ [(a.1,Ey a_ names a)])):=fun k a s=>by
 unfold Wz Ey;rw[Qhg,←Qbs];cases Qm names a.1<;>rfl
theorem E3 (hy:Xp (Wz a_ names) Hf d 0 []= .brk o):EvS d ((Q8 d)).1 (onD d names) s_.2.1 (((0:Nat)):Int) o:=by
 obtain ⟨h1,h2⟩:=Ol (L:=((Q8 d)).1) (on:=onD d names) (fs:=s_.2.1) (g:=Ey a_ names) (f:=Wz a_ names) (e:=Hf) (d:=d) Qci (fun j _ hj=>by unfold onD at hj;unfold Ey;rw[hj];rfl);rw[h1] at hy;have e:(d.map fun a=>((a.1,Ey a_ names a):Qh))=o:=Out.brk.inj hy;rw[←e];exact h2
end
theorem JB (s_:Qz) (d:(List Xw)) (a_:(List Qh)) (names:(List ByteArray)):ACalls Tryz.prog 173 [.a [.h s_.1, .h s_.2.1, .i s_.2.2], .h d, .h a_, .h names] (.tup [(false, [.o 0 (((Kr s_ d a_ names)).1)]),(false, [.b (((Kr s_ d a_ names)).2)])]):=by
 refine en Qa Tryz.func173 fun w0 F0 hG=> ?_
 refine sn Qa [1,2,3,4,8,9] [4] (p0) <| tn Qa [1,2,3,4,8,9,10,11] [4] (pc 1 (Ml d) p0) <| Qc <| Qc <| mz [(4, .p 4 0),(8, .e 0),(9, .b false),(10, .o 1344 (((Q8 d)).1)),(11, .b (((Q8 d)).2))] [0] [(4, [.h s_.1, .h s_.2.1, .i s_.2.2])] [] <| jn [(30, .b ((!(((Q8 d)).2))|| (!(Q4 s_))))] [11] [] [] (!(((Q8 d)).2)) (fun h1=> ?_) (fun h1=> ?_) ?_
 ·
  have h1n:(((Q8 d)).2)=false:=Vd h1;refine ru Qa [(30, .b true)] [11] [] [] (pf 0 h1n (pe 1 (show .b (!false)= .b true from rfl) p0)) ?_;exact ⟨rfl,Qd (by rw[h1]<;>kernel_rfl)⟩
 ·
  have h1n:(((Q8 d)).2)=true:=Y3 h1;have h1nsf:=Lg h1n;refine rn Qa [1,2,3,4,8,9,10,30] [4] (pt 0 h1n (pe 1 (show .b (!true)= .b false from rfl) (pc 4 (Jq s_) p0))) ?_;exact ⟨rfl,Qd (by rw[h1]<;>kernel_rfl)⟩
 refine ck ((!(((Q8 d)).2))|| (!(Q4 s_))) (fun h2=> ?_) (fun h2=> ?_)
 ·
  exact sn Qa [1,2,3,4,8,9,10] [4] (p0) <| Qg <| pz [] (show Kr s_ d a_ names=_ from Xf h2 (rfl)) (fun z=> .tup [(false, [.o 0 z.1]),(false, [.b z.2])])
 have h2l:((!(((Q8 d)).2)))=false:=Rc h2;have h2ln:(((Q8 d)).2)=true:=Y3 h2l;have h2lnsf:=Lg h2ln;have h2r:((!(Q4 s_)))=false:=Re h2;have h2rn:(Q4 s_)=true:=Y3 h2r;refine Qf <| sn Qa [1,2,3,4,8,9,10,12] [4] (p0) <| Qc <| tn Qa [1,2,3,4,8,9,10,12,13] [4] (p0) <| mz [(12, .one (.slc (.own true 2048) 2 [])),(13, .i 0)] [30] [] [] <| wT 1 0 .sh d (fun hw3 hl4=> ?_)
 refine XY (Wz a_ names) Hf d [] (fun k0 s0=> [(12, .o 147207 s0),(13, .i ((k0:Nat):Int))]) [12,13] (fun y0=> [(12, .o 147357 y0)]) [2,12,13] (fun k0 s0=>List.length s0<=k0) (Xl [(2048,147207)] (by kernel_rfl)) (by simp) (fun k0 s0 hk0 hI0=> ?_) (fun k0 s0 hk0 hI0=> ?_) (fun y0 hD0=> ?_)
 ·
  have hA0_0:=hI0.2;obtain ⟨a0,hx0⟩:=Xh (l:=d) (i:=k0) hk0;refine Qc <| su Qa [(36, .b true)] [] [] [] (pl 2 d (pe 3 (Qp (decide_eq_true (p:=((k0:Nat):Int)<(d.length:Int)) (by omega))) p0)) <| ckT <| Qf <| Qc <| Qu <| sN Qa Zh [1,2,3,4,8,9,10,12,13,14] [4,14] (pn 2 hx0 (pn 8 hx0 (pc 11 (Cl a_ a0.1) p0))) <| Qc <| tn Qa [1,2,3,4,8,9,10,12,13,14,55] [4,14] (pc 3 (Mu names a0.1) p0) <| ck (V2 names a0.1) (fun h5=> ?_) (fun h5=> ?_)
  ·
   refine qu Qa [(14, .p 14 0)] [36] [(14, [.s a0.1, .slc (.own true 3584) 1 []])] [] (p0) ?_;refine wT 12 0 (.own true 147207) s0 (fun hw6 hl7=> ?_);refine ru Qa [(12, .one (.slc (.own true 3904) 2 ((eL s0)++ [[.s a0.1, .slc 1 []]])))] [12,14] [] [14] (pa s0 [((a0.1, []):Qh)] p0) ?_;refine eqn [(12, .o 3904 (s0++ [((a0.1, []):Qh)]))] [12] [] [] (by rw[show ((eL s0)++ [[.s a0.1, .slc 1 []]])=(eL (s0++ [((a0.1, []):Qh)])) from Ks (rfl) (rfl)];first | done | kernel_rfl) ?_;refine rn Qa [1,2,3,4,8,9,10,12,13] [4] (pe 1 (Jh (Ql k0 (by omega))) p0) ?_;exact Exists.intro (s0++ [((a0.1, []):Qh)]) (And.intro (Xl [(3904,147207)] (by kernel_rfl)) ⟨Qr hx0 (Xf h5 (rfl)) hI0.1,by first | omega | (simp;omega) | simp⟩)
  refine Qf <| wT 12 0 (.own true 147207) s0 (fun hw8 hl9=> ?_)
  refine qu Qa [(12, .one (.slc (.own true 3904) 2 ((eL s0)++ [[.s a0.1, .h (Xd a_ a0.1)]])))] [12,36] [] [] (pa s0 [(a0.1,(Xd a_ a0.1))] p0) ?_;refine eqn [(12, .o 3904 (s0++ [(a0.1,(Xd a_ a0.1))]))] [12] [] [] (by rw[show ((eL s0)++ [[.s a0.1, .h (Xd a_ a0.1)]])=(eL (s0++ [(a0.1,(Xd a_ a0.1))])) from Ks (rfl) (rfl)];first | done | kernel_rfl) ?_;refine rn Qa [1,2,3,4,8,9,10,12,13] [4] (pe 1 (Jh (Ql k0 (by omega))) p0) ?_;exact Exists.intro (s0++ [(a0.1,(Xd a_ a0.1))]) (And.intro (Xl [(3904,147207)] (by kernel_rfl)) ⟨Qr hx0 (Qs h5 (rfl)) hI0.1,by first | omega | (simp;omega) | simp⟩)
 ·
  have hA0_0:=hI0.2;exact Qc <| su Qa [(36, .b false)] [] [] [] (pl 2 d (pe 3 (Qp (decide_eq_false (p:=((k0:Nat):Int)<(d.length:Int)) (by omega))) p0)) <| ckF <| Q2 <| Exists.intro _ (And.intro (Xl [(147207,147357)] (by kernel_rfl)) (Xi hk0 (rfl) hI0.1))
 refine Qc <| su Qa [(15, .i 0)] [] [] [] (p0) <| Qeo (C7 s_ d names) Gr (Int.toNat ((Kp d)+1)) y0 (fun k1 s1=> [(12, .o 147357 s1),(15, .i ((k1:Nat):Int))]) [12,15] (fun _ _=> []) [] (fun y1=> [(12, .o 147357 y1)]) [1,3,4,10,12,15] (fun _=> []) [4] (fun k1 s1=>EvS d ((Q8 d)).1 (onD d names) s_.2.1 (((k1:Nat)):Int) s1/\List.length s1=List.length d) wf0 ⟨(by first | exact E3 hD0 | exact E3 hD0.1 | exact Br (fs:=s_.2.1) (E3 hD0) | exact Br (fs:=s_.2.1) (E3 hD0.1)),(by first | exact E3 hD0 | exact E3 hD0.1 | exact Br (fs:=s_.2.1) (E3 hD0) | exact Br (fs:=s_.2.1) (E3 hD0.1))⟩ (fun k1 s1 hk1 hI1=> ?_) (fun k1 s1 hk1 hI1=> ?_) (fun y1 hD1=> ?_)
 ·
  have hA1_0:=hI1.2.1;have hA1_1:=hI1.2.2;refine Qc <| su Qa [(65, .b true)] [] [] [] (pc 2 (D1 d) (pe 3 (Qp (decide_eq_true (p:=((k1:Nat):Int)<=(Kp d)) (by omega))) p0)) <| ckT <| Qf <| Qc <| Qu <| su Qa [(16, .b true)] [65] [] [] (p0) <| blw (fun (s2:(List Qh)×Bool)=> [(12, .o 147357 s2.1),(16, .b s2.2)]) [12,16] (fun s2=> []) [] (fun (y2:(List Qh))=> [(12, .o 147357 y2)]) [12,16] (fun y2=> []) [] (fun (k2:Nat) (s2:(List Qh)×Bool)=>whl (Vh s_ d names k1) k2 s2=some (Nj (Vh s_ d names k1) (List.length d*List.length s_.2.1+2) (s1,true))/\List.length s2.1=List.length d) (fun (y2:(List Qh))=>(Nj (Vh s_ d names k1) (List.length d*List.length s_.2.1+2) (s1,true))= .brk y2) (List.length d*List.length s_.2.1+2) (s1,true) wf0 ⟨Oc (Qkg (by assumption) (by assumption)),(by assumption)⟩ (fun _ h=>P9 h.1) (fun k2 s2 hI2=> ?_) (fun y2 hD2=> ?_)
  ·
   have hA2_0:=hI2.2;refine Qc <| su Qa [(68, .b s2.2)] [] [] [] (p0) <| ck s2.2 (fun h10=> ?_) (fun h10=> ?_)
   ·
    refine Qf <| Qu <| su Qa [(16, .b false)] [16,68] [] [] (p0) <| su Qa [(17, .i 0)] [] [] [] (p0) <| Qa5 (C6 s_ d names k1) Gq d (s2.1,false) (fun k3 s3=> [(12, .o 147357 s3.1),(16, .b s3.2),(17, .i ((k3:Nat):Int))]) [12,16,17] (fun y3=> [(12, .o 147357 y3.1),(16, .b y3.2)]) [12,16,17] (fun _ s3=>List.length s3.1=List.length s2.1) (fun y3=>List.length y3.1=List.length s2.1) wf0 (by simp) (fun k3 s3 hk3 hI3=> ?_) (fun k3 s3 hk3 hI3=> ?_) (fun y3 hD3=> ?_)
    ·
     have hA3_0:=hI3.2;obtain ⟨a3,hx3⟩:=Xh (l:=d) (i:=k3) hk3;refine Qc <| su Qa [(72, .b true)] [] [] [] (pl 2 d (pe 3 (Qp (decide_eq_true (p:=((k3:Nat):Int)<(d.length:Int)) (by omega))) p0)) <| ckT <| Qf <| Qc <| Qu <| Qc <| Qc <| jn [(90, .b (((nth (((Q8 d)).1) k3) !=((k1:Nat):Int))|| (!(V2 names a3.1))))] [72] [] [] ((nth (((Q8 d)).1) k3) !=((k1:Nat):Int)) (fun h11=> ?_) (fun h11=> ?_) ?_
     ·
      have h11d:=T2 h11;refine wT 10 0 (.own true 1344) (((Q8 d)).1) (fun hw13 hl14=> ?_);have hx12:=ng (((Q8 d)).1) k3;refine ru Qa [(90, .b true)] [72] [] [] (pN 2 hx12 (pt 5 h11 p0)) ?_;exact ⟨rfl,Qd (by rw[h11]<;>kernel_rfl)⟩
     ·
      have h11d:=Wt h11;refine wT 10 0 (.own true 1344) (((Q8 d)).1) (fun hw16 hl17=> ?_);have hx15:=ng (((Q8 d)).1) k3;refine rn Qa [1,3,4,8,9,10,12,15,16,17,90] [4] (pN 2 hx15 (pf 5 h11 (pn 10 hx3 (pc 13 (Mu names a3.1) p0)))) ?_;exact ⟨rfl,Qd (by rw[h11]<;>kernel_rfl)⟩
     refine ck (((nth (((Q8 d)).1) k3) !=((k1:Nat):Int))|| (!(V2 names a3.1))) (fun h18=> ?_) (fun h18=> ?_)
     ·
      refine Q2 <| rn Qa [1,3,4,8,9,10,12,15,16,17] [4] (pe 1 (Jh (Ql k3 (by omega))) p0) ?_
      exact xw (s3.1,s3.2) ⟨Qr hx3 (Xf h18 (rfl)) hI3.1,(by first | omega | (simp only[List.length_set];omega))⟩
     have h18l:(((nth (((Q8 d)).1) k3) !=((k1:Nat):Int)))=false:=Rc h18;have h18ld:=Wt h18l;have h18r:((!(V2 names a3.1)))=false:=Re h18;have h18rn:(V2 names a3.1)=true:=Y3 h18r;refine Qf <| sN Qa Zh [1,3,4,8,9,10,12,15,16,17,18] [4] (pn 3 hx3 (pc 7 (Nr s_ a3.2 s3.1) p0)) <| wT 12 0 (.own true 147357) s3.1 (fun hw20 hl21=> ?_)
     have hx19:=ng s3.1 k3;refine tn Qa [1,3,4,8,9,10,12,15,16,17,18,106] [4] (pN 3 hx19 (pc 6 (I9 (Yk s_ a3.2 s3.1) ((nth s3.1 k3).2)) p0)) <| ck (!(Kd (Yk s_ a3.2 s3.1) ((nth s3.1 k3).2))) (fun h22=> ?_) (fun h22=> ?_)
     ·
      have h22n:(Kd (Yk s_ a3.2 s3.1) ((nth s3.1 k3).2))=false:=Vd h22;refine tu Qa [(12, .one (.slc (.own true 147357) 2 (setRow (eL s3.1) k3 1 [.h (Yk s_ a3.2 s3.1)])))] [12,90] [] [] (pN 3 hx19 p0) <| eqn [(12, .o 147357 (List.set s3.1 k3 ((nth s3.1 k3).1,(Yk s_ a3.2 s3.1))))] [12] [] [] (by rw[Kh (y:=((nth s3.1 k3).1,(Yk s_ a3.2 s3.1))) hx19 rfl]<;>kernel_rfl) ?_
      refine ru Qa [(16, .b true)] [16] [] [] (p0) ?_;refine rn Qa [1,3,4,8,9,10,12,15,16,17] [4] (pe 1 (Jh (Ql k3 (by omega))) p0) ?_;exact xw (List.set s3.1 k3 ((nth s3.1 k3).1,(Yk s_ a3.2 s3.1)),true) ⟨Qr hx3 (Qs h18 (Xf h22 (rfl))) hI3.1,(by first | omega | (simp only[List.length_set];omega))⟩
     have h22n:(Kd (Yk s_ a3.2 s3.1) ((nth s3.1 k3).2))=true:=Y3 h22;refine Qf <| qu Qa [(17, .i ((k3+1:Nat):Int))] [17,90] [] [] (pe 1 (Jh (Ql k3 (by omega))) p0) ?_
     exact xw (s3.1,s3.2) ⟨Qr hx3 (Qs h18 (Qs h22 (rfl))) hI3.1,(by first | omega | (simp only[List.length_set];omega))⟩
    ·
     have hA3_0:=hI3.2;exact Qc <| su Qa [(72, .b false)] [] [] [] (pl 2 d (pe 3 (Qp (decide_eq_false (p:=((k3:Nat):Int)<(d.length:Int)) (by omega))) p0)) <| ckF <| Q2 <| xw (s3.1,s3.2) ⟨Xi hk3 (rfl) hI3.1,by first | omega | (simp only[List.length_set];omega)⟩
    have hD3_0:=hD3.2;exact xw (y3.1,y3.2) ⟨wn hI2.1 (Xf h10 (Wj hD3.1 (rfl))),(by first | omega | (simp only[List.length_set];omega))⟩
   exact Q2 <| xw _ (wb hI2.1 (Qs h10 (rfl)))
  refine rn Qa [1,3,4,8,9,10,12,15] [4] (pe 1 (Jh (Ql k1 (by omega))) p0) ?_;exact xw y2 ⟨Vi hk1 (Wj hD2 (rfl)) hI1.1,(by first | exact XA (by assumption) (by assumption) (by assumption) | exact Br (fs:=s_.2.1) (XA (by assumption) (by assumption) (by assumption))),(by first | exact XA (by assumption) (by assumption) (by assumption) | exact Br (fs:=s_.2.1) (XA (by assumption) (by assumption) (by assumption)))⟩
 ·
  have hA1_0:=hI1.2.1;have hA1_1:=hI1.2.2;exact Qc <| su Qa [(65, .b false)] [] [] [] (pc 2 (D1 d) (pe 3 (Qp (decide_eq_false (p:=((k1:Nat):Int)<=(Kp d)) (by omega))) p0)) <| ckF <| Q2 <| xw _ (Cw hk1 (rfl) hI1.1)
 exact sn Qa [8,9] [] (p0) <| Qg <| pz [] (show Kr s_ d a_ names=_ from Qs h2 (Wj hD0 (Wj hD1 (rfl)))) (fun z=> .tup [(false, [.o 0 z.1]),(false, [.b z.2])])
def Y2 (s_:Qz) (f:Xc):Qz×Bool:=(bif ((!(Q4 (Qe s_)))|| (decide ((Q5 (Qe s_) f.1)<(0:Int))|| (!(X0 ((Qe s_).1) f)))) then ((Qe s_),false) else (((Qe s_).1,List.set ((Qe s_).2.1) (Int.toNat (Q5 (Qe s_) f.1)) (Qn f),(Qe s_).2.2),true))
theorem MI {s:Qz} {f:Xc} (h:(Y2 s f).2=true):Q4 s=true/\List.length f.2.2.2.2<=5:=by
 unfold Y2 at h;rw[Qfk] at h;cases hv:Q4 s with
 | false=>rw[hv] at h;simp at h
 | true=>
  refine ⟨rfl, ?_⟩;cases hf:X0 s.1 f with
  | true=>exact Te ((VW s.1 f).symm.trans hf)
  | false=>
   rw[hv,hf] at h;simp at h
theorem MJ {s:Qz} (h:Q4 s=true) (id:Int):List.length (Xb s id).1.2.2.2.2<=5:=by
 unfold Xb;by_cases hc:Q5 s id<(0:Int)
 . rw[decide_eq_true hc,cond_true];exact Nat.zero_le _
 rw[decide_eq_false hc,cond_false];have hl:=YH s id;exact ZK ((By s).symm.trans h) (List.mem_of_getElem? (V7 (l:=s.2.1) (i:=Int.toNat (Q5 s id)) (by omega)))
theorem YO (s_:Qz) (f:Xc):ACalls Tryz.prog 106 [.a [.h s_.1, .h s_.2.1, .i s_.2.2], .a [.i f.1, .i f.2.1, .b f.2.2.1, .i f.2.2.2.1, .h f.2.2.2.2]] (.tup [(true, [.o 0 ((((Y2 s_ f)).1).1), .o 1 ((((Y2 s_ f)).1).2.1), .i ((((Y2 s_ f)).1).2.2)]),(false, [.b (((Y2 s_ f)).2)])]):=by
 refine en Qa Tryz.func106 fun w0 F0 hG=> ?_
 refine sn Qa [2,3,4,5] [2,3,4] (p0) <| tn Qa [2,3,4,5] [2,3,4] (pc 1 (Lk s_) p0) <| tu Qa [(2, .p 2 0),(3, .p 3 0),(4, .p 4 0),(5, .b false),(6, .i (Q5 (Qe s_) f.1))] [0,1] [(2, [.o 512 ((Qe s_).1), .o 513 ((Qe s_).2.1), .i ((Qe s_).2.2)]),(3, [.i f.1, .i f.2.1, .b f.2.2.1, .i f.2.2.2.1, .h f.2.2.2.2]),(4, [.e 2, .e 5, .i 0])] [] (pc 3 (G6 (Qe s_) f.1) p0) <| Qc <| Qc <| jn [(26, .b ((!(Q4 (Qe s_)))|| (decide ((Q5 (Qe s_) f.1)<(0:Int))|| (!(X0 ((Qe s_).1) f)))))] [] [] [] (!(Q4 (Qe s_))) (fun h1=> ?_) (fun h1=> ?_) ?_
 ·
  have h1n:(Q4 (Qe s_))=false:=Vd h1;refine ru Qa [(26, .b true)] [] [] [] (pc 1 (cb h1n (Jq (Qe s_))) (pe 2 (show .b (!false)= .b true from rfl) p0)) ?_;exact ⟨rfl,Qd (by rw[h1]<;>kernel_rfl)⟩
 ·
  have h1n:(Q4 (Qe s_))=true:=Y3 h1;refine X5 (decide ((Q5 (Qe s_) f.1)<(0:Int))) (fun h2=> ?_) (fun h2=> ?_)
  ·
   refine ru Qa [(26, .b true)] [] [] [] (pc 1 (cb h1n (Jq (Qe s_))) (pe 2 (show .b (!true)= .b false from rfl) (pt 5 h2 p0))) ?_;exact ⟨rfl,Qd (by rw[h1,h2]<;>kernel_rfl)⟩
  have h2p:=YH (Qe s_) f.1;refine rn Qa [2,3,4,5,6,26] [2,3,4] (pc 1 (cb h1n (Jq (Qe s_))) (pe 2 (show .b (!true)= .b false from rfl) (pf 5 h2 (pc 11 (Ha ((Qe s_).1) f) p0)))) ?_;exact ⟨rfl,Qd (by rw[h1,h2]<;>kernel_rfl)⟩
 refine ck ((!(Q4 (Qe s_)))|| (decide ((Q5 (Qe s_) f.1)<(0:Int))|| (!(X0 ((Qe s_).1) f)))) (fun h3=> ?_) (fun h3=> ?_)
 ·
  exact sn Qa [2,3,4,5,6] [2,3,4] (p0) <| Qg <| pz [] (show Y2 s_ f=_ from Xf h3 (rfl)) (fun z=> .tup [(true, [.o 0 z.1.1, .o 1 z.1.2.1, .i z.1.2.2]),(false, [.b z.2])])
 have h3r:((decide ((Q5 (Qe s_) f.1)<(0:Int))|| (!(X0 ((Qe s_).1) f))))=false:=Re h3;have h3rl:(decide ((Q5 (Qe s_) f.1)<(0:Int)))=false:=Rc h3r;have h3rlp:=YH (Qe s_) f.1;have h3rld:=of_decide_eq_false h3rl;refine Qf <| wB 2 1 (.own true 513) ((Qe s_).2.1) (fun hw5 hl6=> ?_)
 have hx4:=ng ((Qe s_).2.1) (Int.toNat (Q5 (Qe s_) f.1));refine sU Qa Zh [] [3,6,26] [(2, [.o 512 ((Qe s_).1), .slc (.own true 513) 5 (setRow (eL ((Qe s_).2.1)) (Int.toNat (Q5 (Qe s_) f.1)) 0 [.i ((Qn f).1), .i ((Qn f).2.1), .b ((Qn f).2.2.1), .i ((Qn f).2.2.2.1), .h ((Qn f).2.2.2.2)]), .i ((Qe s_).2.2)])] [2,3] (pc 4 (Ft f) (pG 5 (Q5 (Qe s_) f.1) hx4 p0)) <| eqn [] [] [(2, [.o 512 ((Qe s_).1), .o 513 (List.set ((Qe s_).2.1) (Int.toNat (Q5 (Qe s_) f.1)) (Qn f)), .i ((Qe s_).2.2)])] [2] (by rw[Kh (y:=(Qn f)) hx4 rfl]<;>kernel_rfl) ?_
 exact sn Qa [4,5] [4] (p0) <| Qg <| pz [] (show Y2 s_ f=_ from Qs h3 (rfl)) (fun z=> .tup [(true, [.o 0 z.1.1, .o 1 z.1.2.1, .i z.1.2.2]),(false, [.b z.2])])
def M9 (_:Nat) (a0:Xw) (s0:(List Xw)):Rd ((List Xw)) ((List Xw)) ((List Xw)):=(.next (s0++ [a0]))
def Na (_:Nat) (s0:(List Xw)):(List Xw):=s0
def V1 (d:(List Xw)):(List Xw):=(Out.on (Xp M9 Na d 0 []) (fun y0=>y0))
theorem Ag (d:(List Xw)):ACalls Tryz.prog 99 [.h d] (.o 0 (V1 d)):=by
 refine en Qa Tryz.func99 fun w0 F0 hG=> ?_
 refine sn Qa [0,2] [] (p0) <| tn Qa [0,2,3] [] (p0) <| Qc <| tu Qa [(2, .e 0),(3, .one (.slc (.own true 320) 2 [])),(4, .i 0)] [] [] [] (p0) <| wT 0 0 .sh d (fun hw1 hl2=> ?_)
 refine XY M9 Na d [] (fun k0 s0=> [(3, .o 147202 s0),(4, .i ((k0:Nat):Int))]) [3,4] (fun y0=> [(3, .o 147352 y0)]) [0,3,4] (fun k0 s0=>List.length s0<=k0) (Xl [(320,147202)] (by kernel_rfl)) (by simp) (fun k0 s0 hk0 hI0=> ?_) (fun k0 s0 hk0 hI0=> ?_) (fun y0 hD0=> ?_)
 ·
  have hA0_0:=hI0.2;obtain ⟨a0,hx0⟩:=Xh (l:=d) (i:=k0) hk0;refine Qc <| sn Qa [0,2,3,4,9] [] (pl 2 d (pe 3 (Qp (decide_eq_true (p:=((k0:Nat):Int)<(d.length:Int)) (by omega))) p0)) <| ckT <| Qf <| Qc <| Qu ?_
  have hl3:List.length a0.2<=1073741824:=I5 (CI (CH hx0 (hw1)));refine wT 3 0 (.own true 147202) s0 (fun hw4 hl5=> ?_);refine qU Qa Zh [(3, .one (.slc (.own true 1728) 2 ((eL s0)++ [[.s a0.1, .slc 7 ([]++(eL a0.2))]])))] [3] [] [] (pn 3 hx0 (pn 9 hx0 (po 12 (.flat) (px (Ff (n:=(([]:List (List PV)).length+((eL a0.2):List (List PV)).length)) (Ig (rfl) (Zj a0.2) (by first | omega | (simp only[List.length_cons,List.length_nil];omega) | (simp;omega) | simp))) (px (Dg (Ca a0.2)) (px (Ff (n:=(((eL s0):List (List PV)).length+([[.s a0.1, .slc 7 ([]++(eL a0.2))]]:List (List PV)).length)) (Ig (Zj s0) (rfl) (by first | omega | (simp only[List.length_cons,List.length_nil];omega) | (simp;omega) | simp))) p0)))))) ?_;refine eqn [(3, .o 1728 (s0++ [a0]))] [3] [] [] (by rw[show ((eL s0)++ [[.s a0.1, .slc 7 ([]++(eL a0.2))]])=(eL (s0++ [a0])) from Ks (rfl) (rfl)];first | done | kernel_rfl) ?_;refine rn Qa [0,2,3,4] [] (pe 1 (Jh (Ql k0 (by omega))) p0) ?_;exact Exists.intro (s0++ [a0]) (And.intro (Xl [(1728,147202)] (by kernel_rfl)) ⟨Qr hx0 (rfl) hI0.1,by first | omega | (simp;omega) | simp⟩)
 ·
  have hA0_0:=hI0.2;exact Qc <| sn Qa [0,2,3,4,9] [] (pl 2 d (pe 3 (Qp (decide_eq_false (p:=((k0:Nat):Int)<(d.length:Int)) (by omega))) p0)) <| ckF <| Q2 <| Exists.intro _ (And.intro (Xl [(147202,147352)] (by kernel_rfl)) (Xi hk0 (rfl) hI0.1))
 exact sn Qa [2] [] (p0) <| Qg <| po0 [] (Wj hD0 (rfl))
def C8 (x:Xw) (_:Nat) (a0:Xw) (s0:(List Xw)×Bool):Rd ((List Xw)×Bool) ((List Xw)×Bool) ((List Xw)×Bool):=(bif ((!s0.2)&&(!(Op.bytesLess a0.1.toList x.1.toList))) then (bif (!(a0.1.toList==x.1.toList)) then (.next (s0.1++ [x]++ [a0],true)) else (.next (s0.1++ [x],true))) else (bif (!(a0.1.toList==x.1.toList)) then (.next (s0.1++ [a0],s0.2)) else (.next (s0.1,s0.2))))
def F3 (_:Nat) (s0:(List Xw)×Bool):(List Xw)×Bool:=(s0.1,s0.2)
def Zr (d:(List Xw)) (x:Xw):(List Xw)×Bool:=(bif (!(Ye d)) then ((V1 d),false) else (Out.on (Xp (C8 x) F3 d 0 ([],false)) (fun y0=>(bif (!y0.2) then (bif (!(Ye (y0.1++ [x]))) then ((V1 d),false) else ((V1 (y0.1++ [x])),true)) else (bif (!(Ye y0.1)) then ((V1 d),false) else ((V1 y0.1),true))))))
theorem GJ (d:(List Xw)) (x:Xw):ACalls Tryz.prog 109 [.h d, .a [.s x.1, .h x.2]] (.tup [(false, [.o 0 (((Zr d x)).1)]),(false, [.b (((Zr d x)).2)])]):=by
 refine en Qa Tryz.func109 fun w0 F0 hG=> ?_
 refine sn Qa [0,3,4,5] [3] (p0) <| Qc <| tn Qa [0,3,4,5,11] [3] (pc 1 (U8 d) p0) <| ck (!(Ye d)) (fun h1=> ?_) (fun h1=> ?_)
 ·
  exact tu Qa [(3, .p 3 0),(4, .o 832 (V1 d)),(5, .b false)] [1] [(3, [.s x.1, .h x.2])] [] (pc 1 (Ag d) p0) <| Qg <| pz [] (show Zr d x=_ from Xf h1 (rfl)) (fun z=> .tup [(false, [.o 0 z.1]),(false, [.b z.2])])
 have h1n:(Ye d)=true:=Y3 h1;have h1nv:=Qbm h1n;have h1nl:=W8 ((Bv _).trans h1n);refine Qf <| tu Qa [(3, .p 3 0),(4, .e 0),(5, .b false),(6, .one (.slc (.own true 896) 2 []))] [1] [(3, [.s x.1, .h x.2])] [] (p0) <| sn Qa [0,3,4,5,6,7] [3] (p0) <| Qc <| tn Qa [0,3,4,5,6,7,8] [3] (p0) <| mz [(7, .b false),(8, .i 0)] [] [] [] <| wT 0 0 .sh d (fun hw2 hl3=> ?_)
 refine Qa5 (C8 x) F3 d ([],false) (fun k0 s0=> [(6, .q 147204 s0.1),(7, .b s0.2),(8, .i ((k0:Nat):Int))]) [6,7,8] (fun y0=> [(6, .q 147354 y0.1),(7, .b y0.2)]) [6,7,8] (fun k0 s0=>List.length s0.1<=2*k0) (fun y0=>List.length y0.1<=10) (M2 [] [] [896] [(896,147204)] (by kernel_rfl)) (by simp) (fun k0 s0 hk0 hI0=> ?_) (fun k0 s0 hk0 hI0=> ?_) (fun y0 hD0=> ?_)
 ·
  have hA0_0:=hI0.2;obtain ⟨a0,hx0⟩:=Xh (l:=d) (i:=k0) hk0;refine Qc <| su Qa [(18, .b true)] [] [] [] (pl 2 d (pe 3 (Qp (decide_eq_true (p:=((k0:Nat):Int)<(d.length:Int)) (by omega))) p0)) <| ckT <| Qf <| Qc <| Qu <| Qc <| Qc <| jn [(32, .b ((!s0.2)&&(!(Op.bytesLess a0.1.toList x.1.toList))))] [18] [] [] (!s0.2) (fun h4=> ?_) (fun h4=> ?_) ?_
  ·
   have h4n:(s0.2)=false:=Vd h4;refine rN Qa Zh [0,3,4,5,6,7,8,32] [3] (pf 0 h4n (pe 1 (show .b (!false)= .b true from rfl) (pn 5 hx0 p0))) ?_;exact ⟨rfl,Qd (by rw[h4]<;>kernel_rfl)⟩
  ·
   have h4n:(s0.2)=true:=Y3 h4;refine rU Qa Zh [(32, .b false)] [18] [] [] (pt 0 h4n (pe 1 (show .b (!true)= .b false from rfl) p0)) ?_;exact ⟨rfl,Qd (by rw[h4]<;>kernel_rfl)⟩
  refine ck ((!s0.2)&&(!(Op.bytesLess a0.1.toList x.1.toList))) (fun h5=> ?_) (fun h5=> ?_)
  ·
   refine wT 6 0 (.own false 147204) s0.1 (fun hw6 hl7=> ?_);refine su Qa [(6, .one (.slc (.own false 2304) 2 ((eL s0.1)++ [[.s x.1, .h x.2]])))] [6,32] [] [] (pa s0.1 [x] p0) <| eqn [(6, .q 2304 (s0.1++ [x]))] [6] [] [] (by rw[show ((eL s0.1)++ [[.s x.1, .h x.2]])=(eL (s0.1++ [x])) from Ks (rfl) (rfl)];first | done | kernel_rfl) ?_
   refine ru Qa [(7, .b true)] [7] [] [] (p0) ?_;refine sN Qa Zh [0,3,4,5,6,7,8,44] [3] (pn 2 hx0 p0) <| ck (!(a0.1.toList==x.1.toList)) (fun h8=> ?_) (fun h8=> ?_)
   ·
    refine wT 6 0 (.own false 2304) (s0.1++ [x]) (fun hw9 hl10=> ?_);refine qu Qa [(6, .one (.slc (.own false 3264) 2 ((eL (s0.1++ [x]))++ [[.s a0.1, .h a0.2]])))] [6] [] [] (pn 3 hx0 (pa (s0.1++ [x]) [a0] p0)) ?_;refine eqn [(6, .q 3264 (s0.1++ [x]++ [a0]))] [6] [] [] (by rw[show ((eL (s0.1++ [x]))++ [[.s a0.1, .h a0.2]])=(eL (s0.1++ [x]++ [a0])) from Ks (rfl) (rfl)];first | done | kernel_rfl) ?_;refine rn Qa [0,3,4,5,6,7,8] [3] (pe 1 (Jh (Ql k0 (by omega))) p0) ?_;exact Exists.intro (s0.1++ [x]++ [a0],true) (And.intro (Xl [(3264,147204)] (by kernel_rfl)) ⟨Qr hx0 (Xf h5 (Xf h8 (rfl))) hI0.1,(by first | omega | (simp;omega))⟩)
   refine Qf <| qn Qa [0,3,4,5,6,7,8] [3] (pe 1 (Jh (Ql k0 (by omega))) p0) ?_
   exact Exists.intro (s0.1++ [x],true) (And.intro (Xl [(2304,147204)] (by kernel_rfl)) ⟨Qr hx0 (Xf h5 (Qs h8 (rfl))) hI0.1,(by first | omega | (simp;omega))⟩)
  refine Qf <| sN Qa Zh [0,3,4,5,6,7,8,44] [3] (pn 2 hx0 p0) <| ck (!(a0.1.toList==x.1.toList)) (fun h11=> ?_) (fun h11=> ?_)
  ·
   refine wT 6 0 (.own false 147204) s0.1 (fun hw12 hl13=> ?_);refine qu Qa [(6, .one (.slc (.own false 3264) 2 ((eL s0.1)++ [[.s a0.1, .h a0.2]])))] [6,32] [] [] (pn 3 hx0 (pa s0.1 [a0] p0)) ?_;refine eqn [(6, .q 3264 (s0.1++ [a0]))] [6] [] [] (by rw[show ((eL s0.1)++ [[.s a0.1, .h a0.2]])=(eL (s0.1++ [a0])) from Ks (rfl) (rfl)];first | done | kernel_rfl) ?_;refine rn Qa [0,3,4,5,6,7,8] [3] (pe 1 (Jh (Ql k0 (by omega))) p0) ?_;exact Exists.intro (s0.1++ [a0],s0.2) (And.intro (Xl [(3264,147204)] (by kernel_rfl)) ⟨Qr hx0 (Qs h5 (Xf h11 (rfl))) hI0.1,(by first | omega | (simp;omega))⟩)
  refine Qf <| qn Qa [0,3,4,5,6,7,8] [3] (pe 1 (Jh (Ql k0 (by omega))) p0) ?_
  exact xw (s0.1,s0.2) ⟨Qr hx0 (Qs h5 (Qs h11 (rfl))) hI0.1,(by first | omega | (simp;omega))⟩
 ·
  have hA0_0:=hI0.2;exact Qc <| su Qa [(18, .b false)] [] [] [] (pl 2 d (pe 3 (Qp (decide_eq_false (p:=((k0:Nat):Int)<(d.length:Int)) (by omega))) p0)) <| ckF <| Q2 <| Exists.intro (s0.1,s0.2) (And.intro (Xl [(147204,147354)] (by kernel_rfl)) ⟨Xi hk0 (rfl) hI0.1,by first | omega | (simp only[List.length_set];omega)⟩)
 have hD0_0:=hD0.2;refine Qc <| sn Qa [0,3,4,5,6,53] [3] (p0) <| ck (!y0.2) (fun h14=> ?_) (fun h14=> ?_)
 ·
  refine wT 6 0 (.own false 147354) y0.1 (fun hw15 hl16=> ?_);refine qu Qa [(6, .one (.slc (.own false 3648) 2 ((eL y0.1)++ [[.s x.1, .h x.2]])))] [3,6,7] [] [3] (pa y0.1 [x] p0) ?_;refine eqn [(6, .q 3648 (y0.1++ [x]))] [6] [] [] (by rw[show ((eL y0.1)++ [[.s x.1, .h x.2]])=(eL (y0.1++ [x])) from Ks (rfl) (rfl)];first | done | kernel_rfl) ?_;refine Qc <| sn Qa [0,4,5,6,60] [] (pc 1 (U8 (y0.1++ [x])) p0) <| ck (!(Ye (y0.1++ [x]))) (fun h17=> ?_) (fun h17=> ?_)
  ·
   exact tn Qa [4,5,6] [] (pc 1 (Ag d) p0) <| Qg <| pz [] (show Zr d x=_ from Qs h1 (Wj hD0.1 (Xf h14 (Xf h17 (rfl))))) (fun z=> .tup [(false, [.o 0 z.1]),(false, [.b z.2])])
  have h17n:(Ye (y0.1++ [x]))=true:=Y3 h17;have h17nl:=W8 ((Bv _).trans h17n);exact Qf <| tn Qa [4,5] [] (pc 1 (Ag (y0.1++ [x])) p0) <| Qg <| pz [] (show Zr d x=_ from Qs h1 (Wj hD0.1 (Xf h14 (Qs h17 (rfl))))) (fun z=> .tup [(false, [.o 0 z.1]),(false, [.b z.2])])
 refine Qf <| Qc <| tn Qa [0,4,5,6,60] [] (pc 1 (U8 y0.1) p0) <| ck (!(Ye y0.1)) (fun h18=> ?_) (fun h18=> ?_)
 ·
  exact tu Qa [(4, .o 3968 (V1 d))] [0,3,4,7] [] [3] (pc 1 (Ag d) p0) <| Qg <| pz [] (show Zr d x=_ from Qs h1 (Wj hD0.1 (Qs h14 (Xf h18 (rfl))))) (fun z=> .tup [(false, [.o 0 z.1]),(false, [.b z.2])])
 have h18n:(Ye y0.1)=true:=Y3 h18;have h18nl:=W8 ((Bv _).trans h18n);exact Qf <| tu Qa [(4, .o 4096 (V1 y0.1)),(5, .b true)] [0,3,4,5,6,7] [] [3] (pc 1 (Ag y0.1) p0) <| Qg <| pz [] (show Zr d x=_ from Qs h1 (Wj hD0.1 (Qs h14 (Qs h18 (rfl))))) (fun z=> .tup [(false, [.o 0 z.1]),(false, [.b z.2])])
def Iz (name:ByteArray) (_:Nat) (a0:Xw) (s0:(List Xw)):Rd ((List Xw)×Bool) ((List Xw)) ((List Xw)):=(bif (!(a0.1.toList==name.toList)) then (.next (s0++ [a0])) else (.next s0))
def I0 (_:Nat) (s0:(List Xw)):(List Xw):=s0
def Jz (d:(List Xw)) (name:ByteArray):(List Xw)×Bool:=(bif ((!(Ye d))|| decide ((Xj d name)<(0:Int))) then ((V1 d),false) else (Out.on (Xp (Iz name) I0 d 0 []) (fun y0=>((V1 y0),true))))
theorem Qfl {d:List Xw} {nm:ByteArray} (h:(Jz d nm).2=true):List.length d<=5:=by
 unfold Jz at h;cases hv:Ye d with
 | false=>rw[hv] at h;simp at h
 | true=>exact W8 ((Bv d).trans hv)
theorem WR (d:(List Xw)) (name:ByteArray):ACalls Tryz.prog 112 [.h d, .s name] (.tup [(false, [.o 0 (((Jz d name)).1)]),(false, [.b (((Jz d name)).2)])]):=by
 refine en Qa Tryz.func112 fun w0 F0 hG=> ?_
 refine sn Qa [0,1,4,5] [] (p0) <| Qc <| Qc <| mz [(4, .e 0),(5, .b false)] [] [] [] <| jn [(16, .b ((!(Ye d))|| decide ((Xj d name)<(0:Int))))] [] [] [] (!(Ye d)) (fun h1=> ?_) (fun h1=> ?_) ?_
 ·
  have h1n:(Ye d)=false:=Vd h1;refine rn Qa [0,1,4,5,16] [] (pc 1 (cb h1n (U8 d)) (pe 2 (show .b (!false)= .b true from rfl) p0)) ?_;exact ⟨rfl,Qd (by rw[h1]<;>kernel_rfl)⟩
 ·
  have h1n:(Ye d)=true:=Y3 h1;have h1nv:=Qbm h1n;have h1nl:=W8 ((Bv _).trans h1n);refine rn Qa [0,1,4,5,16] [] (pc 1 (cb h1n (U8 d)) (pe 2 (show .b (!true)= .b false from rfl) (pc 6 (M4 d name) p0))) ?_;exact ⟨rfl,Qd (by rw[h1]<;>kernel_rfl)⟩
 refine ck ((!(Ye d))|| decide ((Xj d name)<(0:Int))) (fun h2=> ?_) (fun h2=> ?_)
 ·
  exact sn Qa [0,1,4,5] [] (pc 1 (Ag d) p0) <| Qg <| pz [] (show Jz d name=_ from Xf h2 (rfl)) (fun z=> .tup [(false, [.o 0 z.1]),(false, [.b z.2])])
 have h2l:((!(Ye d)))=false:=Rc h2;have h2ln:(Ye d)=true:=Y3 h2l;have h2lnv:=Qbm h2ln;have h2lnl:=W8 ((Bv _).trans h2ln);have h2r:(decide ((Xj d name)<(0:Int)))=false:=Re h2;have h2rd:=of_decide_eq_false h2r;refine Qf <| sn Qa [0,1,4,5,6] [] (p0) <| Qc <| tn Qa [0,1,4,5,6,7] [] (p0) <| mz [(6, .one (.slc (.own true 1216) 2 [])),(7, .i 0)] [16] [] [] <| wT 0 0 .sh d (fun hw3 hl4=> ?_)
 refine XY (Iz name) I0 d [] (fun k0 s0=> [(6, .q 147204 s0),(7, .i ((k0:Nat):Int))]) [6,7] (fun y0=> [(6, .q 147354 y0)]) [0,1,6,7] (fun k0 s0=>List.length s0<=k0) (M2 [] [] [1216] [(1216,147204)] (by kernel_rfl)) (by simp) (fun k0 s0 hk0 hI0=> ?_) (fun k0 s0 hk0 hI0=> ?_) (fun y0 hD0=> ?_)
 ·
  have hA0_0:=hI0.2;obtain ⟨a0,hx0⟩:=Xh (l:=d) (i:=k0) hk0;refine Qc <| su Qa [(23, .b true)] [] [] [] (pl 2 d (pe 3 (Qp (decide_eq_true (p:=((k0:Nat):Int)<(d.length:Int)) (by omega))) p0)) <| ckT <| Qf <| Qc <| Qu <| sn Qa [0,1,4,5,6,7,32] [] (pn 2 hx0 p0) <| ck (!(a0.1.toList==name.toList)) (fun h5=> ?_) (fun h5=> ?_)
  ·
   refine wT 6 0 (.own false 147204) s0 (fun hw6 hl7=> ?_);refine qu Qa [(6, .one (.slc (.own false 2496) 2 ((eL s0)++ [[.s a0.1, .h a0.2]])))] [6,23] [] [] (pn 3 hx0 (pa s0 [a0] p0)) ?_;refine eqn [(6, .q 2496 (s0++ [a0]))] [6] [] [] (by rw[show ((eL s0)++ [[.s a0.1, .h a0.2]])=(eL (s0++ [a0])) from Ks (rfl) (rfl)];first | done | kernel_rfl) ?_;refine rn Qa [0,1,4,5,6,7] [] (pe 1 (Jh (Ql k0 (by omega))) p0) ?_;exact Exists.intro (s0++ [a0]) (And.intro (Xl [(2496,147204)] (by kernel_rfl)) ⟨Qr hx0 (Xf h5 (rfl)) hI0.1,by first | omega | (simp;omega) | simp⟩)
  refine Qf <| qn Qa [0,1,4,5,6,7] [] (pe 1 (Jh (Ql k0 (by omega))) p0) ?_
  exact xw s0 ⟨Qr hx0 (Qs h5 (rfl)) hI0.1,by first | omega | (simp;omega) | simp⟩
 ·
  have hA0_0:=hI0.2;exact Qc <| su Qa [(23, .b false)] [] [] [] (pl 2 d (pe 3 (Qp (decide_eq_false (p:=((k0:Nat):Int)<(d.length:Int)) (by omega))) p0)) <| ckF <| Q2 <| Exists.intro _ (And.intro (Xl [(147204,147354)] (by kernel_rfl)) (Xi hk0 (rfl) hI0.1))
 exact sn Qa [4,5] [] (pc 1 (Ag y0) p0) <| Qg <| pz [] (show Jz d name=_ from Qs h2 (Wj hD0 (rfl))) (fun z=> .tup [(false, [.o 0 z.1]),(false, [.b z.2])])
def R7 (a_:(List Int)) (_:Nat) (a0:Int) (s0:(List Int)):Rd ((List Int)×(List Int)) ((List Int)) ((List Int)):=(bif (!(V5 a_ a0)) then (.next (s0++ [a0])) else (.next s0))
def R8 (_:Nat) (s0:(List Int)):(List Int):=s0
def R9 (b:(List Int)) (_:Nat) (a1:Int) (s1:(List Int)):Rd ((List Int)×(List Int)) ((List Int)) ((List Int)):=(bif (!(V5 b a1)) then (.next (s1++ [a1])) else (.next s1))
def Sa (_:Nat) (s1:(List Int)):(List Int):=s1
def Zc (a_:(List Int)) (b:(List Int)):(List Int)×(List Int):=(Out.on (Xp (R7 a_) R8 b 0 []) (fun y0=>(Out.on (Xp (R9 b) Sa a_ 0 []) (fun y1=>(y0,y1)))))
theorem DL (a_:(List Int)) (b:(List Int)):ACalls Tryz.prog 230 [.h a_, .h b] (.tup [(false, [.o 0 (((Zc a_ b)).1)]),(false, [.o 1 (((Zc a_ b)).2)])]):=by
 refine en Qa Tryz.func230 fun w0 F0 hG=> ?_
 refine sn Qa [0,1,4,5] [] (p0) <| tn Qa [0,1,4,5,6] [] (p0) <| tu Qa [(4, .e 0),(5, .e 0),(6, .one (.slc (.own true 640) 1 [])),(7, .one (.slc (.own true 704) 1 []))] [] [] [] (p0) <| Qc <| su Qa [(8, .i 0)] [] [] [] (p0) <| wT 1 0 .sh b (fun hw1 hl2=> ?_)
 refine XY (R7 a_) R8 b [] (fun k0 s0=> [(6, .o 147204 s0),(8, .i ((k0:Nat):Int))]) [6,8] (fun y0=> [(6, .o 147354 y0)]) [6,8] (fun k0 s0=>List.length s0<=k0) (Xl [(640,147204)] (by kernel_rfl)) (by simp) (fun k0 s0 hk0 hI0=> ?_) (fun k0 s0 hk0 hI0=> ?_) (fun y0 hD0=> ?_)
 ·
  have hA0_0:=hI0.2;obtain ⟨a0,hx0⟩:=Xh (l:=b) (i:=k0) hk0;refine Qc <| su Qa [(15, .b true)] [] [] [] (pl 2 b (pe 3 (Qp (decide_eq_true (p:=((k0:Nat):Int)<(b.length:Int)) (by omega))) p0)) <| ckT <| Qf <| Qc <| Qu <| sn Qa [0,1,4,5,6,7,8,24] [] (pn 3 hx0 (pc 5 (Dz a_ a0) p0)) <| ck (!(V5 a_ a0)) (fun h3=> ?_) (fun h3=> ?_)
  ·
   refine wT 6 0 (.own true 147204) s0 (fun hw4 hl5=> ?_);refine qu Qa [(6, .one (.slc (.own true 1984) 1 ((eL s0)++ [[.i a0]])))] [6,15] [] [] (pn 3 hx0 (pa s0 [a0] p0)) ?_;refine eqn [(6, .o 1984 (s0++ [a0]))] [6] [] [] (by rw[show ((eL s0)++ [[.i a0]])=(eL (s0++ [a0])) from Ks (rfl) (rfl)];first | done | kernel_rfl) ?_;refine rn Qa [0,1,4,5,6,7,8] [] (pe 1 (Jh (Ql k0 (by omega))) p0) ?_;exact Exists.intro (s0++ [a0]) (And.intro (Xl [(1984,147204)] (by kernel_rfl)) ⟨Qr hx0 (Xf h3 (rfl)) hI0.1,by first | omega | (simp;omega) | simp⟩)
  refine Qf <| qn Qa [0,1,4,5,6,7,8] [] (pe 1 (Jh (Ql k0 (by omega))) p0) ?_
  exact xw s0 ⟨Qr hx0 (Qs h3 (rfl)) hI0.1,by first | omega | (simp;omega) | simp⟩
 ·
  have hA0_0:=hI0.2;exact Qc <| su Qa [(15, .b false)] [] [] [] (pl 2 b (pe 3 (Qp (decide_eq_false (p:=((k0:Nat):Int)<(b.length:Int)) (by omega))) p0)) <| ckF <| Q2 <| Exists.intro _ (And.intro (Xl [(147204,147354)] (by kernel_rfl)) (Xi hk0 (rfl) hI0.1))
 refine Qc <| su Qa [(9, .i 0)] [] [] [] (p0) <| wT 0 0 .sh a_ (fun hw6 hl7=> ?_)
 refine XY (R9 b) Sa a_ [] (fun k1 s1=> [(7, .o 147205 s1),(9, .i ((k1:Nat):Int))]) [7,9] (fun y1=> [(7, .o 147355 y1)]) [0,1,7,9] (fun k1 s1=>List.length s1<=k1) (Xl [(704,147205)] (by kernel_rfl)) (by simp) (fun k1 s1 hk1 hI1=> ?_) (fun k1 s1 hk1 hI1=> ?_) (fun y1 hD1=> ?_)
 ·
  have hA1_0:=hI1.2;obtain ⟨a1,hx1⟩:=Xh (l:=a_) (i:=k1) hk1;refine Qc <| su Qa [(35, .b true)] [] [] [] (pl 2 a_ (pe 3 (Qp (decide_eq_true (p:=((k1:Nat):Int)<(a_.length:Int)) (by omega))) p0)) <| ckT <| Qf <| Qc <| Qu <| sn Qa [0,1,4,5,6,7,9,44] [] (pn 3 hx1 (pc 5 (Dz b a1) p0)) <| ck (!(V5 b a1)) (fun h8=> ?_) (fun h8=> ?_)
  ·
   refine wT 7 0 (.own true 147205) s1 (fun hw9 hl10=> ?_);refine qu Qa [(7, .one (.slc (.own true 3264) 1 ((eL s1)++ [[.i a1]])))] [7,35] [] [] (pn 3 hx1 (pa s1 [a1] p0)) ?_;refine eqn [(7, .o 3264 (s1++ [a1]))] [7] [] [] (by rw[show ((eL s1)++ [[.i a1]])=(eL (s1++ [a1])) from Ks (rfl) (rfl)];first | done | kernel_rfl) ?_;refine rn Qa [0,1,4,5,6,7,9] [] (pe 1 (Jh (Ql k1 (by omega))) p0) ?_;exact Exists.intro (s1++ [a1]) (And.intro (Xl [(3264,147205)] (by kernel_rfl)) ⟨Qr hx1 (Xf h8 (rfl)) hI1.1,by first | omega | (simp;omega) | simp⟩)
  refine Qf <| qn Qa [0,1,4,5,6,7,9] [] (pe 1 (Jh (Ql k1 (by omega))) p0) ?_
  exact xw s1 ⟨Qr hx1 (Qs h8 (rfl)) hI1.1,by first | omega | (simp;omega) | simp⟩
 ·
  have hA1_0:=hI1.2;exact Qc <| su Qa [(35, .b false)] [] [] [] (pl 2 a_ (pe 3 (Qp (decide_eq_false (p:=((k1:Nat):Int)<(a_.length:Int)) (by omega))) p0)) <| ckF <| Q2 <| Exists.intro _ (And.intro (Xl [(147205,147355)] (by kernel_rfl)) (Xi hk1 (rfl) hI1.1))
 exact sn Qa [4,5] [] (p0) <| Qg <| pz [] (show Zc a_ b=_ from Wj hD0 (Wj hD1 (rfl))) (fun z=> .tup [(false, [.o 0 z.1]),(false, [.o 1 z.2])])
def Mv (a_:(List Qh)) (_:Nat) (a0:Qh) (s0:(List Gg)):Rd ((List Gg)) ((List Gg)) ((List Gg)):=(bif (decide (((((Zc (Xd a_ a0.1) a0.2)).1).length:Int)>(0:Int))|| decide (((((Zc (Xd a_ a0.1) a0.2)).2).length:Int)>(0:Int))) then (.next (s0++ [(a0.1,((Zc (Xd a_ a0.1) a0.2)).1,((Zc (Xd a_ a0.1) a0.2)).2)])) else (.next s0))
def Mw (_:Nat) (s0:(List Gg)):(List Gg):=s0
def F4 (a_:(List Qh)) (b:(List Qh)):(List Gg):=(Out.on (Xp (Mv a_) Mw b 0 []) (fun y0=>y0))
theorem YP (a_:(List Qh)) (b:(List Qh)):ACalls Tryz.prog 174 [.h a_, .h b] (.o 0 (F4 a_ b)):=by
 refine en Qa Tryz.func174 fun w0 F0 hG=> ?_
 refine sn Qa [0,1,4] [] (p0) <| tn Qa [0,1,4,5] [] (p0) <| Qc <| tu Qa [(4, .e 0),(5, .one (.slc (.own true 576) 3 [])),(6, .i 0)] [] [] [] (p0) <| wT 1 0 .sh b (fun hw1 hl2=> ?_)
 refine XY (Mv a_) Mw b [] (fun k0 s0=> [(5, .o 147203 s0),(6, .i ((k0:Nat):Int))]) [5,6] (fun y0=> [(5, .o 147353 y0)]) [0,1,5,6] (fun k0 s0=>List.length s0<=k0) (Xl [(576,147203)] (by kernel_rfl)) (by simp) (fun k0 s0 hk0 hI0=> ?_) (fun k0 s0 hk0 hI0=> ?_) (fun y0 hD0=> ?_)
 ·
  have hA0_0:=hI0.2;obtain ⟨a0,hx0⟩:=Xh (l:=b) (i:=k0) hk0;refine Qc <| sn Qa [0,1,4,5,6,13] [] (pl 2 b (pe 3 (Qp (decide_eq_true (p:=((k0:Nat):Int)<(b.length:Int)) (by omega))) p0)) <| ckT <| Qf <| Qc <| Qu <| tN Qa Zh [0,1,4,5,6,7,8] [] (pn 3 hx0 (pc 6 (Cl a_ a0.1) (pn 9 hx0 (pc 12 (DL (Xd a_ a0.1) a0.2) p0)))) <| Qc <| mz [(7, .o 1856 (((Zc (Xd a_ a0.1) a0.2)).1)),(8, .o 1857 (((Zc (Xd a_ a0.1) a0.2)).2))] [] [] [] <| jn [(39, .b (decide (((((Zc (Xd a_ a0.1) a0.2)).1).length:Int)>(0:Int))|| decide (((((Zc (Xd a_ a0.1) a0.2)).2).length:Int)>(0:Int))))] [] [] [] (decide (((((Zc (Xd a_ a0.1) a0.2)).1).length:Int)>(0:Int))) (fun h3=> ?_) (fun h3=> ?_) ?_
  ·
   refine ru Qa [(39, .b true)] [] [] [] (pl 1 (((Zc (Xd a_ a0.1) a0.2)).1) (pt 2 h3 p0)) ?_;exact ⟨rfl,Qd (by rw[h3]<;>kernel_rfl)⟩
  ·
   refine rn Qa [0,1,4,5,6,7,8,39] [] (pl 1 (((Zc (Xd a_ a0.1) a0.2)).1) (pf 2 h3 (pl 5 (((Zc (Xd a_ a0.1) a0.2)).2) p0))) ?_;exact ⟨rfl,Qd (by rw[h3]<;>kernel_rfl)⟩
  refine ck (decide (((((Zc (Xd a_ a0.1) a0.2)).1).length:Int)>(0:Int))|| decide (((((Zc (Xd a_ a0.1) a0.2)).2).length:Int)>(0:Int))) (fun h4=> ?_) (fun h4=> ?_)
  ·
   refine wT 5 0 (.own true 147203) s0 (fun hw5 hl6=> ?_);refine ru Qa [(5, .one (.slc (.own true 3200) 3 ((eL s0)++ [[.s a0.1, .h (((Zc (Xd a_ a0.1) a0.2)).1), .h (((Zc (Xd a_ a0.1) a0.2)).2)]])))] [5,7,8,39] [] [] (pn 3 hx0 (pa s0 [(a0.1,((Zc (Xd a_ a0.1) a0.2)).1,((Zc (Xd a_ a0.1) a0.2)).2)] p0)) ?_;refine eqn [(5, .o 3200 (s0++ [(a0.1,((Zc (Xd a_ a0.1) a0.2)).1,((Zc (Xd a_ a0.1) a0.2)).2)]))] [5] [] [] (by rw[show ((eL s0)++ [[.s a0.1, .h (((Zc (Xd a_ a0.1) a0.2)).1), .h (((Zc (Xd a_ a0.1) a0.2)).2)]])=(eL (s0++ [(a0.1,((Zc (Xd a_ a0.1) a0.2)).1,((Zc (Xd a_ a0.1) a0.2)).2)])) from Ks (rfl) (rfl)];first | done | kernel_rfl) ?_;refine rn Qa [0,1,4,5,6] [] (pe 1 (Jh (Ql k0 (by omega))) p0) ?_;exact Exists.intro (s0++ [(a0.1,((Zc (Xd a_ a0.1) a0.2)).1,((Zc (Xd a_ a0.1) a0.2)).2)]) (And.intro (Xl [(3200,147203)] (by kernel_rfl)) ⟨Qr hx0 (Xf h4 (rfl)) hI0.1,by first | omega | (simp;omega) | simp⟩)
  have h4l:(decide (((((Zc (Xd a_ a0.1) a0.2)).1).length:Int)>(0:Int)))=false:=Rc h4;have h4ld:=of_decide_eq_false h4l;have h4r:(decide (((((Zc (Xd a_ a0.1) a0.2)).2).length:Int)>(0:Int)))=false:=Re h4;have h4rd:=of_decide_eq_false h4r;refine Qf <| rn Qa [0,1,4,5,6] [] (pe 1 (Jh (Ql k0 (by omega))) p0) ?_
  exact xw s0 ⟨Qr hx0 (Qs h4 (rfl)) hI0.1,by first | omega | (simp;omega) | simp⟩
 ·
  have hA0_0:=hI0.2;exact Qc <| sn Qa [0,1,4,5,6,13] [] (pl 2 b (pe 3 (Qp (decide_eq_false (p:=((k0:Nat):Int)<(b.length:Int)) (by omega))) p0)) <| ckF <| Q2 <| Exists.intro _ (And.intro (Xl [(147203,147353)] (by kernel_rfl)) (Xi hk0 (rfl) hI0.1))
 exact sn Qa [4] [] (p0) <| Qg <| po0 [] (Wj hD0 (rfl))
def Hu (b:(List Qh)) (k0:Nat) (a0:Qh) (_:Unit):Rd (Bool) (Unit) (Unit):=(bif ((!(a0.1.toList==((nth b k0).1).toList))|| (!(Kd a0.2 ((nth b k0).2)))) then (.ret false) else (.next ()))
def Bh (_:Nat) (_:Unit):Unit:=()
def H5 (a_:(List Qh)) (b:(List Qh)):Bool:=(bif ((a_.length:Int) !=(b.length:Int)) then false else (Out.on (Xp (Hu b) Bh a_ 0 ()) (fun _=>true)))
theorem XB (a_:(List Qh)) (b:(List Qh)):ACalls Tryz.prog 102 [.h a_, .h b] (.b (H5 a_ b)):=by
 refine en Qa Tryz.func102 fun w0 F0 hG=> ?_
 refine sn Qa [0,1,4] [] (p0) <| Qc <| tn Qa [0,1,4,10] [] (pl 1 a_ (pl 3 b p0)) <| ck ((a_.length:Int) !=(b.length:Int)) (fun h1=> ?_) (fun h1=> ?_)
 ·
  exact tu Qa [(4, .b false)] [] [] [] (p0) <| Qg <| pb [] (Xf h1 (rfl))
 have h1d:=Wt h1;refine Qf <| Qc <| tu Qa [(4, .b false),(5, .i 0)] [] [] [] (p0) <| wT 0 0 .sh a_ (fun hw2 hl3=> ?_)
 refine Ox (Hu b) Bh a_ () (fun k0 _=> [(5, .i ((k0:Nat):Int))]) [5] (fun _=> []) [0,1,5] wf0 (fun k0 s0 hk0 hI0=> ?_) (fun k0 s0 hk0 hI0=> ?_) (fun y0 hD0=> ?_)
 ·
  obtain ⟨a0,hx0⟩:=Xh (l:=a_) (i:=k0) hk0;refine Qc <| sn Qa [0,1,4,5,14] [] (pl 2 a_ (pe 3 (Qp (decide_eq_true (p:=((k0:Nat):Int)<(a_.length:Int)) (by omega))) p0)) <| ckT <| Qf <| Qc <| Qu <| Qc <| mz [(14, .b true)] [] [] [] <| jn [(41, .b ((!(a0.1.toList==((nth b k0).1).toList))|| (!(Kd a0.2 ((nth b k0).2)))))] [14] [] [] (!(a0.1.toList==((nth b k0).1).toList)) (fun h4=> ?_) (fun h4=> ?_) ?_
  ·
   refine wT 1 0 .sh b (fun hw6 hl7=> ?_);have hx5:=ng b k0;refine rN Qa Zh [0,1,4,5,41] [] (pn 2 hx0 (pn 7 hx5 (pt 10 h4 p0))) ?_;exact ⟨rfl,Qd (by rw[h4]<;>kernel_rfl)⟩
  ·
   refine wT 1 0 .sh b (fun hw9 hl10=> ?_);have hx8:=ng b k0;refine rN Qa Zh [0,1,4,5,41] [] (pn 2 hx0 (pn 7 hx8 (pf 10 h4 (pn 14 hx0 (pn 19 hx8 (pc 22 (I9 a0.2 ((nth b k0).2)) p0)))))) ?_;exact ⟨rfl,Qd (by rw[h4]<;>kernel_rfl)⟩
  refine ck ((!(a0.1.toList==((nth b k0).1).toList))|| (!(Kd a0.2 ((nth b k0).2)))) (fun h11=> ?_) (fun h11=> ?_)
  ·
   refine su Qa [] [41] [] [] (p0) <| Qg ?_
   have hr12:(Xp (Hu b) Bh a_ 0 ())= .ret false:=Jg hx0 (Xf h11 (rfl)) hI0;exact pb [] (Qs h1 (Oa hr12))
  refine Qf <| rn Qa [0,1,4,5] [] (pe 1 (Jh (Ql k0 (by omega))) p0) ?_
  exact xw _ (Qr hx0 (Qs h11 (rfl)) hI0)
 ·
  exact Qc <| sn Qa [0,1,4,5,14] [] (pl 2 a_ (pe 3 (Qp (decide_eq_false (p:=((k0:Nat):Int)<(a_.length:Int)) (by omega))) p0)) <| ckF <| Q2 <| xw _ (Xi hk0 (rfl) hI0)
 exact sn Qa [4] [] (p0) <| Qg <| pb [] (Qs h1 (Wj hD0 (rfl)))
def Xe (l:Xq):Bool:=(((Kb l.1 l.2.1)).2&&(H5 (((Kb l.1 l.2.1)).1) l.2.2))
theorem Ap {c:Xq} (h:Xe c=true):List.length c.2.1<=5/\Q4 c.1=true:=by
 unfold Xe at h;rw[Tb] at h;cases he:(Y6 c.1 c.2.1).2 with
 | false=>rw[he] at h;simp at h
 | true=>obtain ⟨h1,h2,_⟩:=Tc he;exact ⟨h1,(By _).trans h2⟩
theorem K6 (l:Xq):ACalls Tryz.prog 44 [.a [.h l.1.1, .h l.1.2.1, .i l.1.2.2, .h l.2.1, .h l.2.2]] (.b (Xe l)):=by
 refine en Qa Tryz.func44 fun w0 F0 hG=> ?_
 refine sn Qa [1,2] [1] (p0) <| tn Qa [1,2,3,4] [1] (pc 4 (R4 l.1 l.2.1) p0) <| Qc <| mz [(1, .p 1 0),(2, .b false),(3, .o 640 (((Kb l.1 l.2.1)).1)),(4, .b (((Kb l.1 l.2.1)).2))] [0] [(1, [.h l.1.1, .h l.1.2.1, .i l.1.2.2, .h l.2.1, .h l.2.2])] [] <| jn [(2, .b (((Kb l.1 l.2.1)).2&&(H5 (((Kb l.1 l.2.1)).1) l.2.2)))] [1,2,3,4] [] [1] (((Kb l.1 l.2.1)).2) (fun h1=> ?_) (fun h1=> ?_) ?_
 ·
  refine rn Qa [2] [] (pt 0 h1 (pc 5 (XB (((Kb l.1 l.2.1)).1) l.2.2) p0)) ?_;exact ⟨rfl,Qd (by rw[h1]<;>kernel_rfl)⟩
 ·
  refine rn Qa [2] [] (pf 0 h1 p0) ?_;exact ⟨rfl,Qd (by rw[h1]<;>kernel_rfl)⟩
 exact Qg <| pb [] (show Xe l=(((Kb l.1 l.2.1)).2&&(H5 (((Kb l.1 l.2.1)).1) l.2.2)) from rfl)
def Gs (_:Nat) (a0:Qh) (s0:(List Qh)):Rd ((List Qh)) ((List Qh)) ((List Qh)):=(.next (s0++ [a0]))
def Gt (_:Nat) (s0:(List Qh)):(List Qh):=s0
def Du (a_:(List Qh)):(List Qh):=(Out.on (Xp Gs Gt a_ 0 []) (fun y0=>y0))
theorem JC (a_:(List Qh)):ACalls Tryz.prog 100 [.h a_] (.o 0 (Du a_)):=by
 refine en Qa Tryz.func100 fun w0 F0 hG=> ?_
 refine sn Qa [0,2] [] (p0) <| tn Qa [0,2,3] [] (p0) <| Qc <| tu Qa [(2, .e 0),(3, .one (.slc (.own true 320) 2 [])),(4, .i 0)] [] [] [] (p0) <| wT 0 0 .sh a_ (fun hw1 hl2=> ?_)
 refine XY Gs Gt a_ [] (fun k0 s0=> [(3, .o 147202 s0),(4, .i ((k0:Nat):Int))]) [3,4] (fun y0=> [(3, .o 147352 y0)]) [0,3,4] (fun k0 s0=>List.length s0<=k0) (Xl [(320,147202)] (by kernel_rfl)) (by simp) (fun k0 s0 hk0 hI0=> ?_) (fun k0 s0 hk0 hI0=> ?_) (fun y0 hD0=> ?_)
 ·
  have hA0_0:=hI0.2;obtain ⟨a0,hx0⟩:=Xh (l:=a_) (i:=k0) hk0;refine Qc <| sn Qa [0,2,3,4,9] [] (pl 2 a_ (pe 3 (Qp (decide_eq_true (p:=((k0:Nat):Int)<(a_.length:Int)) (by omega))) p0)) <| ckT <| Qf <| Qc <| Qu ?_
  have hl3:List.length a0.2<=1073741824:=I5 (CI (CH hx0 (hw1)));refine wT 3 0 (.own true 147202) s0 (fun hw4 hl5=> ?_);refine qU Qa Zh [(3, .one (.slc (.own true 1728) 2 ((eL s0)++ [[.s a0.1, .slc 1 ([]++(eL a0.2))]])))] [3] [] [] (pn 3 hx0 (pn 9 hx0 (po 12 (.flat) (px (Ff (n:=(([]:List (List PV)).length+((eL a0.2):List (List PV)).length)) (Ig (rfl) (Zj a0.2) (by first | omega | (simp only[List.length_cons,List.length_nil];omega) | (simp;omega) | simp))) (px (Dg (Ca a0.2)) (px (Ff (n:=(((eL s0):List (List PV)).length+([[.s a0.1, .slc 1 ([]++(eL a0.2))]]:List (List PV)).length)) (Ig (Zj s0) (rfl) (by first | omega | (simp only[List.length_cons,List.length_nil];omega) | (simp;omega) | simp))) p0)))))) ?_;refine eqn [(3, .o 1728 (s0++ [a0]))] [3] [] [] (by rw[show ((eL s0)++ [[.s a0.1, .slc 1 ([]++(eL a0.2))]])=(eL (s0++ [a0])) from Ks (rfl) (rfl)];first | done | kernel_rfl) ?_;refine rn Qa [0,2,3,4] [] (pe 1 (Jh (Ql k0 (by omega))) p0) ?_;exact Exists.intro (s0++ [a0]) (And.intro (Xl [(1728,147202)] (by kernel_rfl)) ⟨Qr hx0 (rfl) hI0.1,by first | omega | (simp;omega) | simp⟩)
 ·
  have hA0_0:=hI0.2;exact Qc <| sn Qa [0,2,3,4,9] [] (pl 2 a_ (pe 3 (Qp (decide_eq_false (p:=((k0:Nat):Int)<(a_.length:Int)) (by omega))) p0)) <| ckF <| Q2 <| Exists.intro _ (And.intro (Xl [(147202,147352)] (by kernel_rfl)) (Xi hk0 (rfl) hI0.1))
 exact sn Qa [2] [] (p0) <| Qg <| po0 [] (Wj hD0 (rfl))
def Qb (l:Xq):Xq:=((Qe l.1),(V1 l.2.1),(Du l.2.2))
theorem Vx (l:Xq):ACalls Tryz.prog 43 [.a [.h l.1.1, .h l.1.2.1, .i l.1.2.2, .h l.2.1, .h l.2.2]] (.a [.o 0 ((Qb l).1.1), .o 1 ((Qb l).1.2.1), .i ((Qb l).1.2.2), .o 2 ((Qb l).2.1), .o 3 ((Qb l).2.2)]):=by
 refine en Qa Tryz.func43 fun w0 F0 hG=> ?_
 exact sn Qa [1,2] [1,2] (p0) <| tN Qa Zh [2] [2] (pc 2 (Lk l.1) (pc 5 (Ag l.2.1) (pc 8 (JC l.2.2) p0))) <| Qg <| pz [] (show Qb l=((Qe l.1),(V1 l.2.1),(Du l.2.2)) from rfl) (fun z=> .a [.o 0 z.1.1, .o 1 z.1.2.1, .i z.1.2.2, .o 2 z.2.1, .o 3 z.2.2])
def Kg (l:Xq) (s_:Qz) (d:(List Xw)) (names:(List ByteArray)):Xq×(List Gg):=((s_,d,((Kr s_ d l.2.2 names)).1),(F4 l.2.2 (((Kr s_ d l.2.2 names)).1)))
theorem F5 (l:Xq) (s_:Qz) (d:(List Xw)) (names:(List ByteArray)):ACalls Tryz.prog 104 [.a [.h l.1.1, .h l.1.2.1, .i l.1.2.2, .h l.2.1, .h l.2.2], .a [.h s_.1, .h s_.2.1, .i s_.2.2], .h d, .h names] (.tup [(true, [.h ((((Kg l s_ d names)).1).1.1), .h ((((Kg l s_ d names)).1).1.2.1), .i ((((Kg l s_ d names)).1).1.2.2), .h ((((Kg l s_ d names)).1).2.1), .o 0 ((((Kg l s_ d names)).1).2.2)]),(false, [.o 1 (((Kg l s_ d names)).2)])]):=by
 refine en Qa Tryz.func104 fun w0 F0 hG=> ?_
 exact sn Qa [2,3,4,5,8,9] [4,5,8] (p0) <| tn Qa [2,4,5,8,9,10] [4,5,8] (pc 5 (JB s_ d l.2.2 names) p0) <| tU Qa Zh [(8, .p 8 0),(9, .o 1792 (F4 l.2.2 (((Kr s_ d l.2.2 names)).1)))] [0,1,2,3] [(8, [.h s_.1, .h s_.2.1, .i s_.2.2, .h d, .o 1152 (((Kr s_ d l.2.2 names)).1)])] [] (pc 7 (YP l.2.2 (((Kr s_ d l.2.2 names)).1)) p0) <| Qg <| pz [] (show Kg l s_ d names=((s_,d,((Kr s_ d l.2.2 names)).1),(F4 l.2.2 (((Kr s_ d l.2.2 names)).1))) from rfl) (fun z=> .tup [(true, [.h z.1.1.1, .h z.1.1.2.1, .i z.1.1.2.2, .h z.1.2.1, .o 0 z.1.2.2]),(false, [.o 1 z.2])])
def Zq (l:Xq) (f:Xc):Xq×Int×(List Gg)×Bool:=(bif ((!(Xe (Qb l)))|| (!(((Yb ((Qb l).1.1,(Qb l).1.2.1,(Qb l).1.2.2) f)).2.2))) then ((Qb l),0, [],false) else ((((Kg (Qb l) (((Yb ((Qb l).1.1,(Qb l).1.2.1,(Qb l).1.2.2) f)).1) ((Qb l).2.1) (Wq ((Qb l).2.1)))).1),((Yb ((Qb l).1.1,(Qb l).1.2.1,(Qb l).1.2.2) f)).2.1,((Kg (Qb l) (((Yb ((Qb l).1.1,(Qb l).1.2.1,(Qb l).1.2.2) f)).1) ((Qb l).2.1) (Wq ((Qb l).2.1)))).2,true))
theorem DM (l:Xq) (f:Xc):ACalls Tryz.prog 46 [.a [.h l.1.1, .h l.1.2.1, .i l.1.2.2, .h l.2.1, .h l.2.2], .a [.i f.1, .i f.2.1, .b f.2.2.1, .i f.2.2.2.1, .h f.2.2.2.2]] (.tup [(true, [.h ((((Zq l f)).1).1.1), .h ((((Zq l f)).1).1.2.1), .i ((((Zq l f)).1).1.2.2), .h ((((Zq l f)).1).2.1), .o 0 ((((Zq l f)).1).2.2)]),(false, [.i (((Zq l f)).2.1)]),(false, [.o 1 (((Zq l f)).2.2.1)]),(false, [.b (((Zq l f)).2.2.2)])]):=by
 refine en Qa Tryz.func46 fun w0 F0 hG=> ?_
 refine sn Qa [2,3,4,5,6,7] [2,3,4] (p0) <| tn Qa [2,3,4,5,6,7] [2,3,4] (pc 1 (Vx l) p0) <| tu Qa [(2, .p 2 0),(4, .p 4 0),(5, .i 0),(6, .e 0),(7, .b false),(8, .p 8 0),(9, .i (((Yb ((Qb l).1.1,(Qb l).1.2.1,(Qb l).1.2.2) f)).2.1)),(10, .b (((Yb ((Qb l).1.1,(Qb l).1.2.1,(Qb l).1.2.2) f)).2.2))] [0,1] [(2, [.o 896 ((Qb l).1.1), .o 897 ((Qb l).1.2.1), .i ((Qb l).1.2.2), .o 898 ((Qb l).2.1), .o 899 ((Qb l).2.2)]),(4, [.e 2, .e 5, .i 0, .e 2, .e 2]),(8, [.o 1216 ((((Yb ((Qb l).1.1,(Qb l).1.2.1,(Qb l).1.2.2) f)).1).1), .o 1217 ((((Yb ((Qb l).1.1,(Qb l).1.2.1,(Qb l).1.2.2) f)).1).2.1), .i ((((Yb ((Qb l).1.1,(Qb l).1.2.1,(Qb l).1.2.2) f)).1).2.2)])] [] (pc 3 (ZY ((Qb l).1.1,(Qb l).1.2.1,(Qb l).1.2.2) f) p0) <| Qc <| Qc <| jn [(29, .b ((!(Xe (Qb l)))|| (!(((Yb ((Qb l).1.1,(Qb l).1.2.1,(Qb l).1.2.2) f)).2.2))))] [10] [] [] (!(Xe (Qb l))) (fun h1=> ?_) (fun h1=> ?_) ?_
 ·
  have h1n:(Xe (Qb l))=false:=Vd h1;refine ru Qa [(29, .b true)] [10] [] [] (pc 1 (cb h1n (K6 (Qb l))) (pe 2 (show .b (!false)= .b true from rfl) p0)) ?_;exact ⟨rfl,Qd (by rw[h1]<;>kernel_rfl)⟩
 ·
  have h1n:(Xe (Qb l))=true:=Y3 h1;have h1nc:=Ap h1n;refine rn Qa [2,4,5,6,7,8,9,29] [2,4,8] (pc 1 (cb h1n (K6 (Qb l))) (pe 2 (show .b (!true)= .b false from rfl) p0)) ?_;exact ⟨rfl,Qd (by rw[h1]<;>kernel_rfl)⟩
 refine ck ((!(Xe (Qb l)))|| (!(((Yb ((Qb l).1.1,(Qb l).1.2.1,(Qb l).1.2.2) f)).2.2))) (fun h2=> ?_) (fun h2=> ?_)
 ·
  exact sn Qa [2,4,5,6,7,8,9] [2,4,8] (p0) <| Qg <| pz [896,897,898] (show Zq l f=_ from Xf h2 (rfl)) (fun z=> .tup [(true, [.h z.1.1.1, .h z.1.1.2.1, .i z.1.1.2.2, .h z.1.2.1, .o 0 z.1.2.2]),(false, [.i z.2.1]),(false, [.o 1 z.2.2.1]),(false, [.b z.2.2.2])])
 have h2l:((!(Xe (Qb l))))=false:=Rc h2;have h2ln:(Xe (Qb l))=true:=Y3 h2l;have h2lnc:=Ap h2ln;exact Qf <| sN Qa Zh [4,5,6,7,9,11,12] [4,11] (pc 6 (M8 ((Qb l).2.1)) (pc 7 (F5 (Qb l) (((Yb ((Qb l).1.1,(Qb l).1.2.1,(Qb l).1.2.2) f)).1) ((Qb l).2.1) (Wq ((Qb l).2.1))) p0)) <| tn Qa [4,5,6,7] [4] (p0) <| Qg <| pz [] (show Zq l f=_ from Qs h2 (rfl)) (fun z=> .tup [(true, [.h z.1.1.1, .h z.1.1.2.1, .i z.1.1.2.2, .h z.1.2.1, .o 0 z.1.2.2]),(false, [.i z.2.1]),(false, [.o 1 z.2.2.1]),(false, [.b z.2.2.2])])
def Yy (l:Xq) (f:Xc):Xq×(List Gg)×Bool:=(bif ((!(Xe (Qb l)))|| (!(((Y2 ((Qb l).1.1,(Qb l).1.2.1,(Qb l).1.2.2) f)).2))) then ((Qb l), [],false) else ((((Kg (Qb l) (((Y2 ((Qb l).1.1,(Qb l).1.2.1,(Qb l).1.2.2) f)).1) ((Qb l).2.1) (Ur ((Qb l).2.1) (((Xb ((Qb l).1.1,(Qb l).1.2.1,(Qb l).1.2.2) f.1)).1) f))).1),((Kg (Qb l) (((Y2 ((Qb l).1.1,(Qb l).1.2.1,(Qb l).1.2.2) f)).1) ((Qb l).2.1) (Ur ((Qb l).2.1) (((Xb ((Qb l).1.1,(Qb l).1.2.1,(Qb l).1.2.2) f.1)).1) f))).2,true))
theorem JD (l:Xq) (f:Xc):ACalls Tryz.prog 47 [.a [.h l.1.1, .h l.1.2.1, .i l.1.2.2, .h l.2.1, .h l.2.2], .a [.i f.1, .i f.2.1, .b f.2.2.1, .i f.2.2.2.1, .h f.2.2.2.2]] (.tup [(true, [.h ((((Yy l f)).1).1.1), .h ((((Yy l f)).1).1.2.1), .i ((((Yy l f)).1).1.2.2), .h ((((Yy l f)).1).2.1), .o 0 ((((Yy l f)).1).2.2)]),(false, [.o 1 (((Yy l f)).2.1)]),(false, [.b (((Yy l f)).2.2)])]):=by
 refine en Qa Tryz.func47 fun w0 F0 hG=> ?_
 refine sn Qa [2,3,4,5,6] [2,3,4] (p0) <| tn Qa [2,3,4,5,6] [2,3,4] (pc 1 (Vx l) p0) <| tu Qa [(2, .p 2 0),(3, .p 3 0),(4, .p 4 0),(5, .e 0),(6, .b false),(7, .p 7 0)] [0,1] [(2, [.o 896 ((Qb l).1.1), .o 897 ((Qb l).1.2.1), .i ((Qb l).1.2.2), .o 898 ((Qb l).2.1), .o 899 ((Qb l).2.2)]),(3, [.i f.1, .i f.2.1, .b f.2.2.1, .i f.2.2.2.1, .h f.2.2.2.2]),(4, [.e 2, .e 5, .i 0, .e 2, .e 2]),(7, [.i ((((Xb ((Qb l).1.1,(Qb l).1.2.1,(Qb l).1.2.2) f.1)).1).1), .i ((((Xb ((Qb l).1.1,(Qb l).1.2.1,(Qb l).1.2.2) f.1)).1).2.1), .b ((((Xb ((Qb l).1.1,(Qb l).1.2.1,(Qb l).1.2.2) f.1)).1).2.2.1), .i ((((Xb ((Qb l).1.1,(Qb l).1.2.1,(Qb l).1.2.2) f.1)).1).2.2.2.1), .o 1280 ((((Xb ((Qb l).1.1,(Qb l).1.2.1,(Qb l).1.2.2) f.1)).1).2.2.2.2)])] [] (pc 4 (G8 ((Qb l).1.1,(Qb l).1.2.1,(Qb l).1.2.2) f.1) p0) <| sn Qa [2,3,4,5,6,7,9,10] [2,3,4,7,9] (pc 3 (YO ((Qb l).1.1,(Qb l).1.2.1,(Qb l).1.2.2) f) p0) <| Qc <| Qc <| mz [(9, .p 9 0),(10, .b (((Y2 ((Qb l).1.1,(Qb l).1.2.1,(Qb l).1.2.2) f)).2))] [] [(9, [.o 1728 ((((Y2 ((Qb l).1.1,(Qb l).1.2.1,(Qb l).1.2.2) f)).1).1), .o 1729 ((((Y2 ((Qb l).1.1,(Qb l).1.2.1,(Qb l).1.2.2) f)).1).2.1), .i ((((Y2 ((Qb l).1.1,(Qb l).1.2.1,(Qb l).1.2.2) f)).1).2.2)])] [] <| jn [(36, .b ((!(Xe (Qb l)))|| (!(((Y2 ((Qb l).1.1,(Qb l).1.2.1,(Qb l).1.2.2) f)).2))))] [10] [] [] (!(Xe (Qb l))) (fun h1=> ?_) (fun h1=> ?_) ?_
 ·
  have h1n:(Xe (Qb l))=false:=Vd h1;refine ru Qa [(36, .b true)] [10] [] [] (pc 1 (cb h1n (K6 (Qb l))) (pe 2 (show .b (!false)= .b true from rfl) p0)) ?_;exact ⟨rfl,Qd (by rw[h1]<;>kernel_rfl)⟩
 ·
  have h1n:(Xe (Qb l))=true:=Y3 h1;have h1nc:=Ap h1n;refine rn Qa [2,3,4,5,6,7,9,36] [2,3,4,7,9] (pc 1 (cb h1n (K6 (Qb l))) (pe 2 (show .b (!true)= .b false from rfl) p0)) ?_;exact ⟨rfl,Qd (by rw[h1]<;>kernel_rfl)⟩
 refine ck ((!(Xe (Qb l)))|| (!(((Y2 ((Qb l).1.1,(Qb l).1.2.1,(Qb l).1.2.2) f)).2))) (fun h2=> ?_) (fun h2=> ?_)
 ·
  exact sn Qa [2,3,4,5,6,7,9] [2,3,4,7,9] (p0) <| Qg <| pz [896,897,898] (show Yy l f=_ from Xf h2 (rfl)) (fun z=> .tup [(true, [.h z.1.1.1, .h z.1.1.2.1, .i z.1.1.2.2, .h z.1.2.1, .o 0 z.1.2.2]),(false, [.o 1 z.2.1]),(false, [.b z.2.2])])
 have h2l:((!(Xe (Qb l))))=false:=Rc h2;have h2ln:(Xe (Qb l))=true:=Y3 h2l;have h2lnc:=Ap h2ln;have h2r:((!(((Y2 ((Qb l).1.1,(Qb l).1.2.1,(Qb l).1.2.2) f)).2)))=false:=Re h2;have h2rn:(((Y2 ((Qb l).1.1,(Qb l).1.2.1,(Qb l).1.2.2) f)).2)=true:=Y3 h2r;have h2rnr:=MI h2rn;have h2rnf:=MJ h2rnr.1 f.1;exact Qf <| sN Qa Zh [4,5,6,11,12] [4,11] (pc 8 (QZ ((Qb l).2.1) (((Xb ((Qb l).1.1,(Qb l).1.2.1,(Qb l).1.2.2) f.1)).1) f (by omega) (by omega)) (pc 9 (F5 (Qb l) (((Y2 ((Qb l).1.1,(Qb l).1.2.1,(Qb l).1.2.2) f)).1) ((Qb l).2.1) (Ur ((Qb l).2.1) (((Xb ((Qb l).1.1,(Qb l).1.2.1,(Qb l).1.2.2) f.1)).1) f)) p0)) <| tn Qa [4,5,6] [4] (p0) <| Qg <| pz [] (show Yy l f=_ from Qs h2 (rfl)) (fun z=> .tup [(true, [.h z.1.1.1, .h z.1.1.2.1, .i z.1.1.2.2, .h z.1.2.1, .o 0 z.1.2.2]),(false, [.o 1 z.2.1]),(false, [.b z.2.2])])
def Yz (l:Xq) (id:Int):Xq×(List Gg)×Bool:=(bif ((!(Xe (Qb l)))|| (!(((Y9 ((Qb l).1.1,(Qb l).1.2.1,(Qb l).1.2.2) id)).2))) then ((Qb l), [],false) else ((((Kg (Qb l) (((Y9 ((Qb l).1.1,(Qb l).1.2.1,(Qb l).1.2.2) id)).1) ((Qb l).2.1) (Wq ((Qb l).2.1)))).1),((Kg (Qb l) (((Y9 ((Qb l).1.1,(Qb l).1.2.1,(Qb l).1.2.2) id)).1) ((Qb l).2.1) (Wq ((Qb l).2.1)))).2,true))
theorem JE (l:Xq) (id:Int):ACalls Tryz.prog 49 [.a [.h l.1.1, .h l.1.2.1, .i l.1.2.2, .h l.2.1, .h l.2.2], .i id] (.tup [(true, [.h ((((Yz l id)).1).1.1), .h ((((Yz l id)).1).1.2.1), .i ((((Yz l id)).1).1.2.2), .h ((((Yz l id)).1).2.1), .o 0 ((((Yz l id)).1).2.2)]),(false, [.o 1 (((Yz l id)).2.1)]),(false, [.b (((Yz l id)).2.2)])]):=by
 refine en Qa Tryz.func49 fun w0 F0 hG=> ?_
 refine sn Qa [1,2,4,5,6] [2,4] (p0) <| tn Qa [1,2,4,5,6] [2,4] (pc 1 (Vx l) p0) <| tu Qa [(2, .p 2 0),(4, .p 4 0),(5, .e 0),(6, .b false),(7, .p 7 0),(8, .b (((Y9 ((Qb l).1.1,(Qb l).1.2.1,(Qb l).1.2.2) id)).2))] [0,1] [(2, [.h ((Qb l).1.1), .h ((Qb l).1.2.1), .i ((Qb l).1.2.2), .o 770 ((Qb l).2.1), .o 771 ((Qb l).2.2)]),(4, [.e 2, .e 5, .i 0, .e 2, .e 2]),(7, [.o 1088 ((((Y9 ((Qb l).1.1,(Qb l).1.2.1,(Qb l).1.2.2) id)).1).1), .q 1089 ((((Y9 ((Qb l).1.1,(Qb l).1.2.1,(Qb l).1.2.2) id)).1).2.1), .i ((((Y9 ((Qb l).1.1,(Qb l).1.2.1,(Qb l).1.2.2) id)).1).2.2)])] [] (pc 3 (ZZ ((Qb l).1.1,(Qb l).1.2.1,(Qb l).1.2.2) id) p0) <| Qc <| Qc <| jn [(26, .b ((!(Xe (Qb l)))|| (!(((Y9 ((Qb l).1.1,(Qb l).1.2.1,(Qb l).1.2.2) id)).2))))] [8] [] [] (!(Xe (Qb l))) (fun h1=> ?_) (fun h1=> ?_) ?_
 ·
  have h1n:(Xe (Qb l))=false:=Vd h1;refine ru Qa [(26, .b true)] [8] [] [] (pc 1 (cb h1n (K6 (Qb l))) (pe 2 (show .b (!false)= .b true from rfl) p0)) ?_;exact ⟨rfl,Qd (by rw[h1]<;>kernel_rfl)⟩
 ·
  have h1n:(Xe (Qb l))=true:=Y3 h1;have h1nc:=Ap h1n;refine rn Qa [2,4,5,6,7,26] [2,4,7] (pc 1 (cb h1n (K6 (Qb l))) (pe 2 (show .b (!true)= .b false from rfl) p0)) ?_;exact ⟨rfl,Qd (by rw[h1]<;>kernel_rfl)⟩
 refine ck ((!(Xe (Qb l)))|| (!(((Y9 ((Qb l).1.1,(Qb l).1.2.1,(Qb l).1.2.2) id)).2))) (fun h2=> ?_) (fun h2=> ?_)
 ·
  exact sn Qa [2,4,5,6,7] [2,4,7] (p0) <| Qg <| pz [770] (show Yz l id=_ from Xf h2 (rfl)) (fun z=> .tup [(true, [.h z.1.1.1, .h z.1.1.2.1, .i z.1.1.2.2, .h z.1.2.1, .o 0 z.1.2.2]),(false, [.o 1 z.2.1]),(false, [.b z.2.2])])
 have h2l:((!(Xe (Qb l))))=false:=Rc h2;have h2ln:(Xe (Qb l))=true:=Y3 h2l;have h2lnc:=Ap h2ln;exact Qf <| sN Qa Zh [4,5,6,9,10] [4,9] (pc 6 (M8 ((Qb l).2.1)) (pc 7 (F5 (Qb l) (((Y9 ((Qb l).1.1,(Qb l).1.2.1,(Qb l).1.2.2) id)).1) ((Qb l).2.1) (Wq ((Qb l).2.1))) p0)) <| tn Qa [4,5,6] [4] (p0) <| Qg <| pz [] (show Yz l id=_ from Qs h2 (rfl)) (fun z=> .tup [(true, [.h z.1.1.1, .h z.1.1.2.1, .i z.1.1.2.2, .h z.1.2.1, .o 0 z.1.2.2]),(false, [.o 1 z.2.1]),(false, [.b z.2.2])])
def J5 (d:(List Xw)):Bool:=((Q8 d)).2
theorem SH {d:List Xw} (h:J5 d=true):List.length d<=5:=by
 unfold J5 at h;rw[Wm] at h;exact (Ex h).2.1
theorem XC (d:(List Xw)):ACalls Tryz.prog 110 [.h d] (.b (J5 d)):=by
 refine en Qa Tryz.func110 fun w0 F0 hG=> ?_
 exact sn Qa [0,2] [] (p0) <| tn Qa [2,4] [] (pc 1 (Ml d) p0) <| tu Qa [(2, .b (((Q8 d)).2))] [0] [] [] (p0) <| Qg <| pb [] (show J5 d=((Q8 d)).2 from rfl)
def Yx (l:Xq) (x:Xw):Xq×(List Gg)×Bool:=(bif ((!(Xe (Qb l)))|| ((!(((Zr ((Qb l).2.1) x)).2))|| (!(J5 (((Zr ((Qb l).2.1) x)).1))))) then ((Qb l), [],false) else ((((Kg (Qb l) ((Qb l).1.1,(Qb l).1.2.1,(Qb l).1.2.2) (((Zr ((Qb l).2.1) x)).1) (Yw (((Zr ((Qb l).2.1) x)).1) [x.1]))).1),((Kg (Qb l) ((Qb l).1.1,(Qb l).1.2.1,(Qb l).1.2.2) (((Zr ((Qb l).2.1) x)).1) (Yw (((Zr ((Qb l).2.1) x)).1) [x.1]))).2,true))
theorem WS (l:Xq) (x:Xw):ACalls Tryz.prog 50 [.a [.h l.1.1, .h l.1.2.1, .i l.1.2.2, .h l.2.1, .h l.2.2], .a [.s x.1, .h x.2]] (.tup [(true, [.h ((((Yx l x)).1).1.1), .h ((((Yx l x)).1).1.2.1), .i ((((Yx l x)).1).1.2.2), .h ((((Yx l x)).1).2.1), .o 0 ((((Yx l x)).1).2.2)]),(false, [.o 1 (((Yx l x)).2.1)]),(false, [.b (((Yx l x)).2.2)])]):=by
 refine en Qa Tryz.func50 fun w0 F0 hG=> ?_
 refine sn Qa [2,3,4,5,6] [2,3,4] (p0) <| tn Qa [2,3,4,5,6] [2,3,4] (pc 1 (Vx l) p0) <| tu Qa [(2, .p 2 0),(3, .p 3 0),(4, .p 4 0),(5, .e 0),(6, .b false),(7, .o 1088 (((Zr ((Qb l).2.1) x)).1)),(8, .b (((Zr ((Qb l).2.1) x)).2))] [0,1] [(2, [.o 768 ((Qb l).1.1), .o 769 ((Qb l).1.2.1), .i ((Qb l).1.2.2), .o 770 ((Qb l).2.1), .o 771 ((Qb l).2.2)]),(3, [.s x.1, .h x.2]),(4, [.e 2, .e 5, .i 0, .e 2, .e 2])] [] (pc 3 (GJ ((Qb l).2.1) x) p0) <| Qc <| Qc <| jn [(31, .b ((!(Xe (Qb l)))|| ((!(((Zr ((Qb l).2.1) x)).2))|| (!(J5 (((Zr ((Qb l).2.1) x)).1))))))] [8] [] [] (!(Xe (Qb l))) (fun h1=> ?_) (fun h1=> ?_) ?_
 ·
  have h1n:(Xe (Qb l))=false:=Vd h1;refine ru Qa [(31, .b true)] [8] [] [] (pc 1 (cb h1n (K6 (Qb l))) (pe 2 (show .b (!false)= .b true from rfl) p0)) ?_;exact ⟨rfl,Qd (by rw[h1]<;>kernel_rfl)⟩
 ·
  have h1n:(Xe (Qb l))=true:=Y3 h1;have h1nc:=Ap h1n;refine X5 (!(((Zr ((Qb l).2.1) x)).2)) (fun h2=> ?_) (fun h2=> ?_)
  ·
   have h2n:(((Zr ((Qb l).2.1) x)).2)=false:=Vd h2;refine ru Qa [(31, .b true)] [8] [] [] (pc 1 (cb h1n (K6 (Qb l))) (pe 2 (show .b (!true)= .b false from rfl) (pf 4 h2n (pe 5 (show .b (!false)= .b true from rfl) p0)))) ?_;exact ⟨rfl,Qd (by rw[h1,h2]<;>kernel_rfl)⟩
  have h2n:(((Zr ((Qb l).2.1) x)).2)=true:=Y3 h2;refine rn Qa [2,3,4,5,6,7,31] [2,3,4] (pc 1 (cb h1n (K6 (Qb l))) (pe 2 (show .b (!true)= .b false from rfl) (pt 4 h2n (pe 5 (show .b (!true)= .b false from rfl) (pc 9 (XC (((Zr ((Qb l).2.1) x)).1)) p0))))) ?_;exact ⟨rfl,Qd (by rw[h1,h2]<;>kernel_rfl)⟩
 refine ck ((!(Xe (Qb l)))|| ((!(((Zr ((Qb l).2.1) x)).2))|| (!(J5 (((Zr ((Qb l).2.1) x)).1))))) (fun h3=> ?_) (fun h3=> ?_)
 ·
  exact sn Qa [2,3,4,5,6,7] [2,3,4] (p0) <| Qg <| pz [768,769,770] (show Yx l x=_ from Xf h3 (rfl)) (fun z=> .tup [(true, [.h z.1.1.1, .h z.1.1.2.1, .i z.1.1.2.2, .h z.1.2.1, .o 0 z.1.2.2]),(false, [.o 1 z.2.1]),(false, [.b z.2.2])])
 have h3l:((!(Xe (Qb l))))=false:=Rc h3;have h3ln:(Xe (Qb l))=true:=Y3 h3l;have h3lnc:=Ap h3ln;have h3r:(((!(((Zr ((Qb l).2.1) x)).2))|| (!(J5 (((Zr ((Qb l).2.1) x)).1)))))=false:=Re h3;have h3rr:((!(J5 (((Zr ((Qb l).2.1) x)).1))))=false:=Re h3r;have h3rrn:(J5 (((Zr ((Qb l).2.1) x)).1))=true:=Y3 h3rr;have h3rrnc:=SH h3rrn;exact Qf <| sN Qa Zh [4,5,6,9,10] [4,9] (pc 8 (H0 (((Zr ((Qb l).2.1) x)).1) [x.1] (by first | omega | (simp;omega))) (pc 9 (F5 (Qb l) ((Qb l).1.1,(Qb l).1.2.1,(Qb l).1.2.2) (((Zr ((Qb l).2.1) x)).1) (Yw (((Zr ((Qb l).2.1) x)).1) [x.1])) p0)) <| tn Qa [4,5,6] [4] (p0) <| Qg <| pz [] (show Yx l x=_ from Qs h3 (rfl)) (fun z=> .tup [(true, [.h z.1.1.1, .h z.1.1.2.1, .i z.1.1.2.2, .h z.1.2.1, .o 0 z.1.2.2]),(false, [.o 1 z.2.1]),(false, [.b z.2.2])])
def Y7 (l:Xq) (name:ByteArray):Xq×(List Gg)×Bool:=(bif (!(((Jz l.2.1 name)).2)) then (l, [],false) else ((((Kg l l.1 (((Jz l.2.1 name)).1) (Yw l.2.1 [name]))).1),((Kg l l.1 (((Jz l.2.1 name)).1) (Yw l.2.1 [name]))).2,true))
theorem WT (l:Xq) (name:ByteArray):ACalls Tryz.prog 51 [.a [.h l.1.1, .h l.1.2.1, .i l.1.2.2, .h l.2.1, .h l.2.2], .s name] (.tup [(true, [.h ((((Y7 l name)).1).1.1), .h ((((Y7 l name)).1).1.2.1), .i ((((Y7 l name)).1).1.2.2), .h ((((Y7 l name)).1).2.1), .h ((((Y7 l name)).1).2.2)]),(false, [.o 0 (((Y7 l name)).2.1)]),(false, [.b (((Y7 l name)).2.2)])]):=by
 refine en Qa Tryz.func51 fun w0 F0 hG=> ?_
 refine sn Qa [1,2,4,5,6] [2,4] (p0) <| tn Qa [1,2,4,5,6,7,8] [2,4] (pc 3 (WR l.2.1 name) p0) <| Qc <| tu Qa [(2, .p 2 0),(4, .p 4 0),(5, .e 0),(6, .b false),(7, .o 960 (((Jz l.2.1 name)).1)),(19, .b (!(((Jz l.2.1 name)).2)))] [0] [(2, [.h l.1.1, .h l.1.2.1, .i l.1.2.2, .h l.2.1, .h l.2.2]),(4, [.e 2, .e 5, .i 0, .e 2, .e 2])] [] (p0) <| ck (!(((Jz l.2.1 name)).2)) (fun h1=> ?_) (fun h1=> ?_)
 ·
  exact sn Qa [1,2,4,5,6,7] [2,4] (p0) <| Qg <| pz [] (show Y7 l name=_ from Xf h1 (rfl)) (fun z=> .tup [(true, [.h z.1.1.1, .h z.1.1.2.1, .i z.1.1.2.2, .h z.1.2.1, .h z.1.2.2]),(false, [.o 0 z.2.1]),(false, [.b z.2.2])])
 have h1n:(((Jz l.2.1 name)).2)=true:=Y3 h1;have h1nc:=Qfl h1n;exact Qf <| sN Qa Zh [4,5,6,9,10] [4,9] (pc 8 (H0 l.2.1 [name] (by first | omega | (simp;omega))) (pc 9 (F5 l l.1 (((Jz l.2.1 name)).1) (Yw l.2.1 [name])) p0)) <| tn Qa [4,5,6] [4] (p0) <| Qg <| pz [2048] (show Y7 l name=_ from Qs h1 (rfl)) (fun z=> .tup [(true, [.h z.1.1.1, .h z.1.1.2.1, .i z.1.1.2.2, .h z.1.2.1, .h z.1.2.2]),(false, [.o 0 z.2.1]),(false, [.b z.2.2])])
def Ah (f:Xc) (u:Int):Bool:=((Q6 u 0 2)&&(f.2.1==u))
theorem Sb (f:Xc) (u:Int):ACalls Tryz.prog 48 [.a [.i f.1, .i f.2.1, .b f.2.2.1, .i f.2.2.2.1, .h f.2.2.2.2], .i u] (.b (Ah f u)):=by
 refine en Qa Tryz.func48 fun w0 F0 hG=> ?_
 refine sn Qa [1,2,4] [2] (p0) <| Qc <| mz [(2, .p 2 0),(4, .b false)] [0] [(2, [.i f.1, .i f.2.1, .b f.2.2.1, .i f.2.2.2.1, .h f.2.2.2.2])] [] <| jn [(4, .b ((Q6 u 0 2)&&(f.2.1==u)))] [1,2,4] [] [2] (Q6 u 0 2) (fun h1=> ?_) (fun h1=> ?_) ?_
 ·
  have h1w:=Cc.1 h1;refine rn Qa [4] [] (pc 1 (cb h1 (Zo u 0 2)) p0) ?_;exact ⟨rfl,Qd (by rw[h1]<;>kernel_rfl)⟩
 ·
  refine rn Qa [4] [] (pc 1 (cb h1 (Zo u 0 2)) p0) ?_;exact ⟨rfl,Qd (by rw[h1]<;>kernel_rfl)⟩
 exact Qg <| pb [] (show Ah f u=((Q6 u 0 2)&&(f.2.1==u)) from rfl)
def Qx (l:Xq) (u:Int) (o:Hh):Xq×(List Gg)×Bool:=(bif (!((Xe l)&&(Q6 u 0 2))) then ((Qb l), [],false) else (bif ((o.1==(1:Int))&&(o.2.1.2.1==u)) then (bif (!(((Zq l o.2.1)).2.2.2)) then ((Qb l), [],false) else ((((Zq l o.2.1)).1),((Zq l o.2.1)).2.2.1,true)) else (bif ((o.1==(2:Int))&&(o.2.1.2.1==u)) then (bif (!(((Yy l o.2.1)).2.2&&(((Xb l.1 o.2.1.1)).2&&(Ah (((Xb l.1 o.2.1.1)).1) u)))) then ((Qb l), [],false) else ((((Yy l o.2.1)).1),((Yy l o.2.1)).2.1,true)) else (bif (o.1==(3:Int)) then (bif (!(((Yz l o.2.2.1)).2.2&&(((Xb l.1 o.2.2.1)).2&&(Ah (((Xb l.1 o.2.2.1)).1) u)))) then ((Qb l), [],false) else ((((Yz l o.2.2.1)).1),((Yz l o.2.2.1)).2.1,true)) else (bif (o.1==(4:Int)) then (bif (!(((Yx l o.2.2.2)).2.2)) then ((Qb l), [],false) else ((((Yx l o.2.2.2)).1),((Yx l o.2.2.2)).2.1,true)) else (bif (o.1==(5:Int)) then (bif (!(((Y7 (Qb l) o.2.2.2.1)).2.2)) then ((Qb l), [],false) else ((((Y7 (Qb l) o.2.2.2.1)).1),((Y7 (Qb l) o.2.2.2.1)).2.1,true)) else ((Qb l), [],false)))))))
theorem YQ (l:Xq) (u:Int) (o:Hh):ACalls Tryz.prog 16 [.a [.h l.1.1, .h l.1.2.1, .i l.1.2.2, .h l.2.1, .h l.2.2], .i u, .a [.i o.1, .i o.2.1.1, .i o.2.1.2.1, .b o.2.1.2.2.1, .i o.2.1.2.2.2.1, .h o.2.1.2.2.2.2, .i o.2.2.1, .s o.2.2.2.1, .h o.2.2.2.2]] (.tup [(true, [.h ((((Qx l u o)).1).1.1), .h ((((Qx l u o)).1).1.2.1), .i ((((Qx l u o)).1).1.2.2), .h ((((Qx l u o)).1).2.1), .h ((((Qx l u o)).1).2.2)]),(false, [.o 0 (((Qx l u o)).2.1)]),(false, [.b (((Qx l u o)).2.2)])]):=by
 refine en Qa Tryz.func16 fun w0 F0 hG=> ?_
 refine sn Qa [1,3,5,6,7,8] [3,5,6] (p0) <| tn Qa [1,3,5,6,7,8,9] [3,5,6,9] (pc 1 (Vx l) p0) <| tu Qa [(3, .p 3 0),(5, .p 5 0),(6, .p 6 0),(7, .e 0),(8, .b false),(9, .p 9 0),(10, .p 10 0)] [0,2] [(3, [.h l.1.1, .h l.1.2.1, .i l.1.2.2, .h l.2.1, .h l.2.2]),(5, [.i o.1, .i o.2.1.1, .i o.2.1.2.1, .b o.2.1.2.2.1, .i o.2.1.2.2.2.1, .h o.2.1.2.2.2.2, .i o.2.2.1, .s o.2.2.2.1, .h o.2.2.2.2]),(6, [.e 2, .e 5, .i 0, .e 2, .e 2]),(9, [.o 1152 ((Qb l).1.1), .o 1153 ((Qb l).1.2.1), .i ((Qb l).1.2.2), .o 1154 ((Qb l).2.1), .o 1155 ((Qb l).2.2)]),(10, [.o 1152 ((Qb l).1.1), .o 1153 ((Qb l).1.2.1), .i ((Qb l).1.2.2), .o 1154 ((Qb l).2.1), .o 1155 ((Qb l).2.2)])] [] (p0) <| sn Qa [1,3,5,6,7,8,9,10,11] [3,5,6,9,10] (p0) <| Qc <| mz [(11, .one (.slc (.own true 1280) 3 []))] [] [] [] <| jn [(12, .b ((Xe l)&&(Q6 u 0 2)))] [] [] [] (Xe l) (fun h1=> ?_) (fun h1=> ?_) ?_
 ·
  have h1c:=Ap h1;refine ru Qa [(12, .b (Q6 u 0 2))] [] [] [] (pc 1 (cb h1 (K6 l)) (pc 4 (Zo u 0 2) p0)) ?_;exact ⟨rfl,Qd (by rw[h1]<;>kernel_rfl)⟩
 ·
  refine ru Qa [(12, .b false)] [] [] [] (pc 1 (cb h1 (K6 l)) p0) ?_;exact ⟨rfl,Qd (by rw[h1]<;>kernel_rfl)⟩
 refine Qc <| Qu <| sn Qa [1,3,5,6,7,8,9,10,11,12,27] [3,5,6,9,10] (p0) <| ck (!((Xe l)&&(Q6 u 0 2))) (fun h2=> ?_) (fun h2=> ?_)
 ·
  have h2n:((Xe l)&&(Q6 u 0 2))=false:=Vd h2;exact Qf <| Qc <| tn Qa [3,6,7,8,10,11,142] [3,6,10] (pf 0 h2n (pe 1 (show .b (!false)= .b true from rfl) p0)) <| ckT <| tu Qa [(7, .one (.slc (.own true 9280) 3 []))] [1,3,5,7,9,12] [(6, [.o 9216 ((Qb l).1.1), .o 9217 ((Qb l).1.2.1), .i ((Qb l).1.2.2), .o 9218 ((Qb l).2.1), .o 9219 ((Qb l).2.2)])] [3,5,6,9] (pc 1 (Vx l) p0) <| Qg <| pz [9216,9217,9218,9219] (show Qx l u o=_ from Xf h2 (rfl)) (fun z=> .tup [(true, [.h z.1.1.1, .h z.1.1.2.1, .i z.1.1.2.2, .h z.1.2.1, .h z.1.2.2]),(false, [.o 0 z.2.1]),(false, [.b z.2.2])])
 have h2n:((Xe l)&&(Q6 u 0 2))=true:=Y3 h2;have h2nl:((Xe l))=true:=UP h2n;have h2nlc:=Ap h2nl;have h2nr:((Q6 u 0 2))=true:=CJ h2n;have h2nrw:=Cc.1 h2nr;refine Qc <| mz [(27, .b (!((Xe l)&&(Q6 u 0 2))))] [] [] [] <| jn [(30, .b ((o.1==(1:Int))&&(o.2.1.2.1==u)))] [27] [] [] (o.1==(1:Int)) (fun h3=> ?_) (fun h3=> ?_) ?_
 ·
  refine ru Qa [(30, .b (o.2.1.2.1==u))] [27] [] [] (pt 2 h3 p0) ?_;exact ⟨rfl,Qd (by rw[h3]<;>kernel_rfl)⟩
 ·
  refine ru Qa [(30, .b false)] [27] [] [] (pf 2 h3 p0) ?_;exact ⟨rfl,Qd (by rw[h3]<;>kernel_rfl)⟩
 refine ck ((o.1==(1:Int))&&(o.2.1.2.1==u)) (fun h4=> ?_) (fun h4=> ?_)
 ·
  refine rn Qa [3,6,7,8,10,11,12] [3,6,10] (pc 3 (DM l o.2.1) p0) ?_;refine Qc <| tn Qa [3,6,7,8,10,11,142] [3,6,10] (p0) <| ck (!(((Zq l o.2.1)).2.2.2)) (fun h5=> ?_) (fun h5=> ?_)
  ·
   exact tu Qa [(7, .one (.slc (.own true 9280) 3 [])),(11, .o 2881 (((Zq l o.2.1)).2.2.1))] [1,3,5,7,9,11,12,30] [(6, [.o 9216 ((Qb l).1.1), .o 9217 ((Qb l).1.2.1), .i ((Qb l).1.2.2), .o 9218 ((Qb l).2.1), .o 9219 ((Qb l).2.2)]),(10, [.h ((((Zq l o.2.1)).1).1.1), .h ((((Zq l o.2.1)).1).1.2.1), .i ((((Zq l o.2.1)).1).1.2.2), .h ((((Zq l o.2.1)).1).2.1), .o 2880 ((((Zq l o.2.1)).1).2.2)])] [3,5,6,9,10] (pc 1 (Vx l) p0) <| Qg <| pz [9216,9217,9218,9219] (show Qx l u o=_ from Qs h2 (Xf h4 (Xf h5 (rfl)))) (fun z=> .tup [(true, [.h z.1.1.1, .h z.1.1.2.1, .i z.1.1.2.2, .h z.1.2.1, .h z.1.2.2]),(false, [.o 0 z.2.1]),(false, [.b z.2.2])])
  exact Qf <| tu Qa [(7, .o 2881 (((Zq l o.2.1)).2.2.1)),(8, .b true)] [1,3,5,7,8,9,10,11,12,30] [(6, [.h ((((Zq l o.2.1)).1).1.1), .h ((((Zq l o.2.1)).1).1.2.1), .i ((((Zq l o.2.1)).1).1.2.2), .h ((((Zq l o.2.1)).1).2.1), .o 2880 ((((Zq l o.2.1)).1).2.2)])] [3,5,6,9,10] (p0) <| Qg <| pz [2880] (show Qx l u o=_ from Qs h2 (Xf h4 (Qs h5 (rfl)))) (fun z=> .tup [(true, [.h z.1.1.1, .h z.1.1.2.1, .i z.1.1.2.2, .h z.1.2.1, .h z.1.2.2]),(false, [.o 0 z.2.1]),(false, [.b z.2.2])])
 refine Qc <| jn [(50, .b ((o.1==(2:Int))&&(o.2.1.2.1==u)))] [30] [] [] (o.1==(2:Int)) (fun h6=> ?_) (fun h6=> ?_) ?_
 ·
  refine ru Qa [(50, .b (o.2.1.2.1==u))] [30] [] [] (pt 2 h6 p0) ?_;exact ⟨rfl,Qd (by rw[h6]<;>kernel_rfl)⟩
 ·
  refine ru Qa [(50, .b false)] [30] [] [] (pf 2 h6 p0) ?_;exact ⟨rfl,Qd (by rw[h6]<;>kernel_rfl)⟩
 refine ck ((o.1==(2:Int))&&(o.2.1.2.1==u)) (fun h7=> ?_) (fun h7=> ?_)
 ·
  refine sn Qa [1,3,5,6,7,8,10,11,12,13,14] [3,5,6,10,13] (pc 5 (G8 l.1 o.2.1.1) p0) <| tn Qa [1,3,6,7,8,10,11,12,13,14] [3,6,10,13] (pc 3 (JD l o.2.1) p0) <| mz [(11, .o 4737 (((Yy l o.2.1)).2.1)),(12, .b (((Yy l o.2.1)).2.2)),(13, .p 13 0),(14, .b (((Xb l.1 o.2.1.1)).2))] [5,9,11,12,50] [(10, [.h ((((Yy l o.2.1)).1).1.1), .h ((((Yy l o.2.1)).1).1.2.1), .i ((((Yy l o.2.1)).1).1.2.2), .h ((((Yy l o.2.1)).1).2.1), .o 4736 ((((Yy l o.2.1)).1).2.2)]),(13, [.i ((((Xb l.1 o.2.1.1)).1).1), .i ((((Xb l.1 o.2.1.1)).1).2.1), .b ((((Xb l.1 o.2.1.1)).1).2.2.1), .i ((((Xb l.1 o.2.1.1)).1).2.2.2.1), .o 4288 ((((Xb l.1 o.2.1.1)).1).2.2.2.2)])] [5,9,10] <| jn [(12, .b (((Yy l o.2.1)).2.2&&(((Xb l.1 o.2.1.1)).2&&(Ah (((Xb l.1 o.2.1.1)).1) u))))] [1,12,13,14] [] [13] (((Yy l o.2.1)).2.2) (fun h8=> ?_) (fun h8=> ?_) ?_
  ·
   refine X5 (((Xb l.1 o.2.1.1)).2) (fun h9=> ?_) (fun h9=> ?_)
   ·
    refine rn Qa [3,6,7,8,10,11,12] [3,6,10] (pt 0 h8 (pt 2 h9 (pc 7 (Sb (((Xb l.1 o.2.1.1)).1) u) p0))) ?_;exact ⟨rfl,Qd (by rw[h8,h9]<;>kernel_rfl)⟩
   refine rn Qa [3,6,7,8,10,11,12] [3,6,10] (pt 0 h8 (pf 2 h9 p0)) ?_;exact ⟨rfl,Qd (by rw[h8,h9]<;>kernel_rfl)⟩
  ·
   refine rn Qa [3,6,7,8,10,11,12] [3,6,10] (pf 0 h8 p0) ?_;exact ⟨rfl,Qd (by rw[h8]<;>kernel_rfl)⟩
  refine Qc <| sn Qa [3,6,7,8,10,11,142] [3,6,10] (p0) <| ck (!(((Yy l o.2.1)).2.2&&(((Xb l.1 o.2.1.1)).2&&(Ah (((Xb l.1 o.2.1.1)).1) u)))) (fun h10=> ?_) (fun h10=> ?_)
  ·
   exact tn Qa [6,7,8,10,11] [6,10] (pc 1 (Vx l) p0) <| Qg <| pz [9216,9217,9218,9219] (show Qx l u o=_ from Qs h2 (Qs h4 (Xf h7 (Xf h10 (rfl))))) (fun z=> .tup [(true, [.h z.1.1.1, .h z.1.1.2.1, .i z.1.1.2.2, .h z.1.2.1, .h z.1.2.2]),(false, [.o 0 z.2.1]),(false, [.b z.2.2])])
  exact Qf <| tn Qa [6,7,8] [6] (p0) <| Qg <| pz [4736] (show Qx l u o=_ from Qs h2 (Qs h4 (Xf h7 (Qs h10 (rfl))))) (fun z=> .tup [(true, [.h z.1.1.1, .h z.1.1.2.1, .i z.1.1.2.2, .h z.1.2.1, .h z.1.2.2]),(false, [.o 0 z.2.1]),(false, [.b z.2.2])])
 refine su Qa [(87, .b (o.1==(3:Int)))] [50] [] [] (p0) <| ck (o.1==(3:Int)) (fun h11=> ?_) (fun h11=> ?_)
 ·
  refine sn Qa [1,3,5,6,7,8,10,11,12,15,16] [3,5,6,10,15] (pc 4 (G8 l.1 o.2.2.1) p0) <| tn Qa [1,3,6,7,8,10,11,12,15,16] [3,6,10,15] (pc 3 (JE l o.2.2.1) p0) <| mz [(11, .o 6593 (((Yz l o.2.2.1)).2.1)),(12, .b (((Yz l o.2.2.1)).2.2)),(15, .p 15 0),(16, .b (((Xb l.1 o.2.2.1)).2))] [5,9,11,12,87] [(10, [.h ((((Yz l o.2.2.1)).1).1.1), .h ((((Yz l o.2.2.1)).1).1.2.1), .i ((((Yz l o.2.2.1)).1).1.2.2), .h ((((Yz l o.2.2.1)).1).2.1), .o 6592 ((((Yz l o.2.2.1)).1).2.2)]),(15, [.i ((((Xb l.1 o.2.2.1)).1).1), .i ((((Xb l.1 o.2.2.1)).1).2.1), .b ((((Xb l.1 o.2.2.1)).1).2.2.1), .i ((((Xb l.1 o.2.2.1)).1).2.2.2.1), .o 6144 ((((Xb l.1 o.2.2.1)).1).2.2.2.2)])] [5,9,10] <| jn [(12, .b (((Yz l o.2.2.1)).2.2&&(((Xb l.1 o.2.2.1)).2&&(Ah (((Xb l.1 o.2.2.1)).1) u))))] [1,12,15,16] [] [15] (((Yz l o.2.2.1)).2.2) (fun h12=> ?_) (fun h12=> ?_) ?_
  ·
   refine X5 (((Xb l.1 o.2.2.1)).2) (fun h13=> ?_) (fun h13=> ?_)
   ·
    refine rn Qa [3,6,7,8,10,11,12] [3,6,10] (pt 0 h12 (pt 2 h13 (pc 7 (Sb (((Xb l.1 o.2.2.1)).1) u) p0))) ?_;exact ⟨rfl,Qd (by rw[h12,h13]<;>kernel_rfl)⟩
   refine rn Qa [3,6,7,8,10,11,12] [3,6,10] (pt 0 h12 (pf 2 h13 p0)) ?_;exact ⟨rfl,Qd (by rw[h12,h13]<;>kernel_rfl)⟩
  ·
   refine rn Qa [3,6,7,8,10,11,12] [3,6,10] (pf 0 h12 p0) ?_;exact ⟨rfl,Qd (by rw[h12]<;>kernel_rfl)⟩
  refine Qc <| sn Qa [3,6,7,8,10,11,142] [3,6,10] (p0) <| ck (!(((Yz l o.2.2.1)).2.2&&(((Xb l.1 o.2.2.1)).2&&(Ah (((Xb l.1 o.2.2.1)).1) u)))) (fun h14=> ?_) (fun h14=> ?_)
  ·
   exact tn Qa [6,7,8,10,11] [6,10] (pc 1 (Vx l) p0) <| Qg <| pz [9216,9217,9218,9219] (show Qx l u o=_ from Qs h2 (Qs h4 (Qs h7 (Xf h11 (Xf h14 (rfl)))))) (fun z=> .tup [(true, [.h z.1.1.1, .h z.1.1.2.1, .i z.1.1.2.2, .h z.1.2.1, .h z.1.2.2]),(false, [.o 0 z.2.1]),(false, [.b z.2.2])])
  exact Qf <| tn Qa [6,7,8] [6] (p0) <| Qg <| pz [6592] (show Qx l u o=_ from Qs h2 (Qs h4 (Qs h7 (Xf h11 (Qs h14 (rfl)))))) (fun z=> .tup [(true, [.h z.1.1.1, .h z.1.1.2.1, .i z.1.1.2.2, .h z.1.2.1, .h z.1.2.2]),(false, [.o 0 z.2.1]),(false, [.b z.2.2])])
 refine su Qa [(116, .b (o.1==(4:Int)))] [1,87] [] [] (p0) <| ck (o.1==(4:Int)) (fun h15=> ?_) (fun h15=> ?_)
 ·
  refine rn Qa [3,6,7,8,10,11,12] [3,6,10] (pc 3 (WS l o.2.2.2) p0) ?_;refine Qc <| tn Qa [3,6,7,8,10,11,142] [3,6,10] (p0) <| ck (!(((Yx l o.2.2.2)).2.2)) (fun h16=> ?_) (fun h16=> ?_)
  ·
   exact tu Qa [(7, .one (.slc (.own true 9280) 3 [])),(11, .o 7937 (((Yx l o.2.2.2)).2.1))] [3,5,7,9,11,12,116] [(6, [.o 9216 ((Qb l).1.1), .o 9217 ((Qb l).1.2.1), .i ((Qb l).1.2.2), .o 9218 ((Qb l).2.1), .o 9219 ((Qb l).2.2)]),(10, [.h ((((Yx l o.2.2.2)).1).1.1), .h ((((Yx l o.2.2.2)).1).1.2.1), .i ((((Yx l o.2.2.2)).1).1.2.2), .h ((((Yx l o.2.2.2)).1).2.1), .o 7936 ((((Yx l o.2.2.2)).1).2.2)])] [3,5,6,9,10] (pc 1 (Vx l) p0) <| Qg <| pz [9216,9217,9218,9219] (show Qx l u o=_ from Qs h2 (Qs h4 (Qs h7 (Qs h11 (Xf h15 (Xf h16 (rfl))))))) (fun z=> .tup [(true, [.h z.1.1.1, .h z.1.1.2.1, .i z.1.1.2.2, .h z.1.2.1, .h z.1.2.2]),(false, [.o 0 z.2.1]),(false, [.b z.2.2])])
  exact Qf <| tu Qa [(7, .o 7937 (((Yx l o.2.2.2)).2.1)),(8, .b true)] [3,5,7,8,9,10,11,12,116] [(6, [.h ((((Yx l o.2.2.2)).1).1.1), .h ((((Yx l o.2.2.2)).1).1.2.1), .i ((((Yx l o.2.2.2)).1).1.2.2), .h ((((Yx l o.2.2.2)).1).2.1), .o 7936 ((((Yx l o.2.2.2)).1).2.2)])] [3,5,6,9,10] (p0) <| Qg <| pz [7936] (show Qx l u o=_ from Qs h2 (Qs h4 (Qs h7 (Qs h11 (Xf h15 (Qs h16 (rfl))))))) (fun z=> .tup [(true, [.h z.1.1.1, .h z.1.1.2.1, .i z.1.1.2.2, .h z.1.2.1, .h z.1.2.2]),(false, [.o 0 z.2.1]),(false, [.b z.2.2])])
 refine su Qa [(128, .b (o.1==(5:Int)))] [116] [] [] (p0) <| ck (o.1==(5:Int)) (fun h17=> ?_) (fun h17=> ?_)
 ·
  refine rn Qa [3,6,7,8,10,11,12] [3,6,10] (pc 4 (WT (Qb l) o.2.2.2.1) p0) ?_;refine Qc <| tn Qa [3,6,7,8,10,11,142] [3,6,10] (p0) <| ck (!(((Y7 (Qb l) o.2.2.2.1)).2.2)) (fun h18=> ?_) (fun h18=> ?_)
  ·
   exact tu Qa [(7, .one (.slc (.own true 9280) 3 [])),(11, .o 8768 (((Y7 (Qb l) o.2.2.2.1)).2.1))] [3,5,7,9,11,12,128] [(6, [.o 9216 ((Qb l).1.1), .o 9217 ((Qb l).1.2.1), .i ((Qb l).1.2.2), .o 9218 ((Qb l).2.1), .o 9219 ((Qb l).2.2)]),(10, [.h ((((Y7 (Qb l) o.2.2.2.1)).1).1.1), .h ((((Y7 (Qb l) o.2.2.2.1)).1).1.2.1), .i ((((Y7 (Qb l) o.2.2.2.1)).1).1.2.2), .h ((((Y7 (Qb l) o.2.2.2.1)).1).2.1), .h ((((Y7 (Qb l) o.2.2.2.1)).1).2.2)])] [3,5,6,9,10] (pc 1 (Vx l) p0) <| Qg <| pz [9216,9217,9218,9219] (show Qx l u o=_ from Qs h2 (Qs h4 (Qs h7 (Qs h11 (Qs h15 (Xf h17 (Xf h18 (rfl)))))))) (fun z=> .tup [(true, [.h z.1.1.1, .h z.1.1.2.1, .i z.1.1.2.2, .h z.1.2.1, .h z.1.2.2]),(false, [.o 0 z.2.1]),(false, [.b z.2.2])])
  exact Qf <| tu Qa [(7, .o 8768 (((Y7 (Qb l) o.2.2.2.1)).2.1)),(8, .b true)] [3,5,7,8,9,10,11,12,128] [(6, [.h ((((Y7 (Qb l) o.2.2.2.1)).1).1.1), .h ((((Y7 (Qb l) o.2.2.2.1)).1).1.2.1), .i ((((Y7 (Qb l) o.2.2.2.1)).1).1.2.2), .h ((((Y7 (Qb l) o.2.2.2.1)).1).2.1), .h ((((Y7 (Qb l) o.2.2.2.1)).1).2.2)])] [3,5,6,9,10] (p0) <| Qg <| pz [] (show Qx l u o=_ from Qs h2 (Qs h4 (Qs h7 (Qs h11 (Qs h15 (Xf h17 (Qs h18 (rfl)))))))) (fun z=> .tup [(true, [.h z.1.1.1, .h z.1.1.2.1, .i z.1.1.2.2, .h z.1.2.1, .h z.1.2.2]),(false, [.o 0 z.2.1]),(false, [.b z.2.2])])
 refine rn Qa [3,6,7,8,10,11,12] [3,6,10] (p0) ?_;exact Qc <| tn Qa [3,6,7,8,10,11,142] [3,6,10] (pe 1 (show .b (!false)= .b true from rfl) p0) <| ckT <| tu Qa [(7, .one (.slc (.own true 9280) 3 []))] [3,5,7,9,12,128] [(6, [.o 9216 ((Qb l).1.1), .o 9217 ((Qb l).1.2.1), .i ((Qb l).1.2.2), .o 9218 ((Qb l).2.1), .o 9219 ((Qb l).2.2)])] [3,5,6,9] (pc 1 (Vx l) p0) <| Qg <| pz [9216,9217,9218,9219] (show Qx l u o=_ from Qs h2 (Qs h4 (Qs h7 (Qs h11 (Qs h15 (Qs h17 (rfl))))))) (fun z=> .tup [(true, [.h z.1.1.1, .h z.1.1.2.1, .i z.1.1.2.2, .h z.1.2.1, .h z.1.2.2]),(false, [.o 0 z.2.1]),(false, [.b z.2.2])])
end Go.Proofs.YtkekndahbiefaaaGreatDoor
namespace Go.Proofs.YtkekndahbiefaaaGreatDoor
open Go.RowKit
theorem XD {d:List Xw} (h:Qo d=true):∀(i:Nat) (a:Xw),d[i]? =some a->Y0 d i a ()= .next ():=by
 unfold Qo at h;cases hf:Xp (Y0 d) Vj d 0 () with
 | brk t=>
   intro i a ha;have:=I6 (fun k a t=>by unfold Y0;generalize (_|| _:Bool)=c;cases c<;>simp) hf i a ha
   rwa [Nat.zero_add] at this
 | ret r=>
   rw[hf] at h;obtain rfl:r=true:=h;exfalso
   have key:∀(l:List Xw) k,Xp (Y0 d) Vj l k ()≠ .ret true:=by
    intro l
    induction l with
    | nil=>intro k h;simp[Xp] at h
    | cons a l ih=>
      intro k h;simp only[Xp] at h;unfold Y0 at h;split at h
      . rename_i hf;exact ih _ h
      . cases h
      rename_i r hf;cases h;revert hf;generalize (_|| _:Bool)=c;cases c<;>simp
   exact key _ _ hf
theorem GK {d:List Xw} (h:Qo d=true) {a:Xw} (ha:a∈d):Yv a.1=true:=by
 obtain ⟨i,hi⟩:=List.getElem?_of_mem ha;have:=XD h i a hi;unfold Y0 at this;cases hv:Yv a.1 with
 | true=>rfl
 | false=>rw[hv] at this;cases this
theorem Tg {d:List Xw} (h:Qo d=true):(d.map (·.1)).Nodup:=by
 refine WG (DG fun i hi=> ?_);rw[List.length_map] at hi;have e:∀j,j<d.length->nth (d.map (·.1)) j=(nth d j).1:=fun j hj=>by simp[nth,List.getD,hj]
 rw[e i (by omega),e (i+1) hi];have:=XD h (i+1) _ (V7 hi);unfold Y0 at this;rw[decide_eq_true (show ((i+1:Nat):Int)>0 by omega),show Int.toNat (((i+1:Nat):Int)-1)=i by omega] at this;simp only[cond_true] at this;cases hb:bl (nth d i).1 (nth d (i+1)).1 with
 | true=>rfl
 | false=>
   unfold bl at hb;rw[hb] at this;simp at this
theorem GL:∀{d:List Xw},(d.map (·.1)).Nodup->∀{a b:Xw},a∈d->b∈d->a.1=b.1->a=b
 | [],_,_,_,ha,_,_=>by cases ha
 | x ::d,h,a,b,ha,hb,e=>by
   rw[List.map_cons] at h;obtain ⟨h1,h2⟩:=List.nodup_cons.1 h;rcases List.mem_cons.1 ha with ea | ha'
   . rcases List.mem_cons.1 hb with eb | hb'
     . rw[ea,eb]
     subst ea;exact (h1 (by rw[e];exact List.mem_map_of_mem hb')).elim
   rcases List.mem_cons.1 hb with eb | hb'
   . subst eb;exact (h1 (by rw[←e];exact List.mem_map_of_mem ha')).elim
   exact GL h2 ha' hb' e
theorem Qhh (s:ByteArray):∀(l:List Xw) (k:Nat),(Xp (Xt s) Ym l k ()= .brk ()/\∀a,a∈l->a.1≠s)\/∃(i:Nat) (a:Xw),l[i]? =some a/\a.1=s/\Xp (Xt s) Ym l k ()= .ret (((k+i:Nat)):Int)
 | [],_=> .inl ⟨rfl,fun a ha=>by cases ha⟩
 | x ::l,k=>by
   simp only[Xp,Xt];have hx:Ch x s=decide (x.1=s):=toList_inj;rw[hx];by_cases e:x.1=s
   . rw[decide_eq_true e];exact .inr ⟨0,x,rfl,e,rfl⟩
   simp only[decide_eq_false e,cond_false];rcases Qhh s l (k+1) with ⟨h1,h2⟩ | ⟨i,a,h1,h2,h3⟩
   . refine .inl ⟨h1,fun a ha=> ?_⟩;rcases List.mem_cons.1 ha with rfl | ha
     . exact e
     exact h2 a ha
   exact .inr ⟨i+1,a,by simpa using h1,h2,by rw[h3,show k+1+i=k+(i+1) by omega]⟩
theorem GM (d:List Xw) (s:ByteArray):(Q1 d s= -1/\∀a,a∈d->a.1≠s)\/∃(i:Nat) (a:Xw),d[i]? =some a/\a.1=s/\Q1 d s=((i:Nat):Int):=by
 unfold Q1 Z4;rcases Qhh s d 0 with ⟨h1,h2⟩ | ⟨i,a,h1,h2,h3⟩
 . rw[h1];exact .inl ⟨rfl,h2⟩
 rw[h3,Nat.zero_add];exact .inr ⟨i,a,h1,h2,rfl⟩
theorem Qkh {d:List Xw} {a:Xw} (ha:a∈d):0<=Q1 d a.1:=by
 rcases GM d a.1 with ⟨_,h2⟩ | ⟨i,b,_,_,h3⟩
 . exact (h2 a ha rfl).elim
 rw[h3];omega
theorem Qi5 {d:List Xw} (hn:(d.map (·.1)).Nodup) {a:Xw} (ha:a∈d):Int.toNat (Q1 d a.1)<d.length/\nth d (Int.toNat (Q1 d a.1))=a:=by
 rcases GM d a.1 with ⟨_,h2⟩ | ⟨i,b,h1,h2,h3⟩
 . exact (h2 a ha rfl).elim
 rw[h3,Int.toNat_natCast];exact ⟨(List.getElem?_eq_some_iff.1 h1).1,(Ow h1).trans (GL hn (List.mem_of_getElem? h1) ha h2)⟩
theorem BG : ∀ g:List Int,∃B:Nat,∀j,nth g j<=(B:Int)
 | []=>⟨0,fun j=>by rw[S4 (by simp)];omega⟩
 | a::g=>by
   obtain ⟨B,hB⟩:=BG g;refine ⟨B+a.toNat,fun j=> ?_⟩;cases j with
   | zero=>show a<=_;omega
   | succ j => have:nth (a::g) (j+1)=nth g j:=rfl
               rw[this];have:=hB j;omega
theorem DN {d:List Xw} {g:List Int} (hv:Qo d=true) (hs:Sat (Jf d) d.length g) (h0:∀j,0<=nth g j):(Qt d).2=true:=by
 have h5:=W8 hv;have hw:=L6 (d:=d) (f:=Uz d) (e:=U0) (F:=Wa d) (fun _ _ _=>rfl) (fun _ _=>rfl) (fun _=>rfl) (by omega) (d.length*d.length+3) (List.replicate d.length 0) true (Bx _).1 (Bx _).2
 have hsome:(QA (Jf d) d.length d.length (d.length*d.length+3) (true,List.replicate d.length 0)).isSome=true:=by
  have:=Ew d h5;rw[Int.toNat_natCast,hw,Option.isSome_map] at this;exact this
 obtain ⟨r,hr⟩:=Option.isSome_iff_exists.1 hsome;have hw':∀i e,e∈Jf d i->e.2<=1/\e.1<d.length:=fun i e he=>⟨(L5 d i e he).1,(L5 d i e he).2.1⟩
 obtain ⟨_,h2⟩:=QC hw' _ 0 true r (fun e=>by cases e) hr
 have hrest:OM (Jf d) d.length (after (Jf d) d.length (d.length*d.length+2)):=by
  obtain ⟨B,hB⟩:=BG g
  have hex:∃k,OM (Jf d) d.length (after (Jf d) d.length k):=Classical.byContradiction fun hno=>by
   have h1:=S5 (E:=Jf d) (n:=d.length) (d.length*B+1) fun j _ hr=>hno ⟨j,hr⟩
   have h2:=FM (after (Jf d) d.length (d.length*B+1)) B fun x hx=>by
    obtain ⟨i,_,e⟩:=VL hx;have h3:=Lx hs h0 (d.length*B+1) i;have h4:=hB i;omega
   rw[W6] at h2;have h3:((d.length*B+1:Nat):Int)=(d.length:Int)*(B:Int)+1:=by rw[Int.natCast_add,Int.natCast_mul];rfl
   omega
  obtain ⟨k,hk⟩:=hex;exact FO hw' hk
 cases r with
 | none=>exact (h2 rfl hrest).elim
 | some L=>
   unfold Qt;rw[hv];simp only[Bool.not_true,cond_false];unfold Nj;rw[Int.toNat_natCast,hw,hr];rfl
theorem P0 {d:List Xw} {w:Int} {e:Nat×Int}:∀{l:List ByteArray},e∈K2 d w l->∃nm,nm∈l/\0<=Q1 d nm/\e=(Int.toNat (Q1 d nm),w)
 | [],h=>by cases h
 | x ::l,h=>by
   simp only[K2] at h;split at h
   . rename_i h0;rcases List.mem_cons.1 h with rfl | h
     . exact ⟨x,List.mem_cons_self ..,h0,rfl⟩
     obtain ⟨nm,h1,h2⟩:=P0 h;exact ⟨nm,List.mem_cons_of_mem _ h1,h2⟩
   obtain ⟨nm,h1,h2⟩:=P0 h;exact ⟨nm,List.mem_cons_of_mem _ h1,h2⟩
theorem SJ {d d':List Xw} (h:(Qt d).2=true) (hv:Qo d'=true) (hsub:∀a,a∈d'->a∈d):(Qt d').2=true:=by
 obtain ⟨hvd,hl,hsat,h0⟩:=Pr (Prod.ext rfl h:Qt d=((Qt d).1,true));generalize (Qt d).1=L at hl hsat h0;have hn:=Tg hvd;have hn':=Tg hv;have hg:∀j,j<d'.length->nth (d'.map fun a=>nth L (Int.toNat (Q1 d a.1))) j=nth L (Int.toNat (Q1 d (nth d' j).1)):=fun j hj=>by simp[nth,List.getD,hj]
 have key:∀(i:Nat) (w:Int) (deps:List Yu->List ByteArray) (e:Nat×Int),i<d'.length->e∈K2 d' w (deps (nth d' i).2)->(∀(k:Nat) (nm:ByteArray),k<d.length->nm∈deps (nth d k).2->0<=Q1 d nm->(Int.toNat (Q1 d nm),w)∈Jf d k)->
  nth (d'.map fun a=>nth L (Int.toNat (Q1 d a.1))) e.1+e.2<=nth (d'.map fun a=>nth L (Int.toNat (Q1 d a.1))) i:=fun i w deps e hi he hin=>by
  obtain ⟨nm,h1,h2,rfl⟩:=P0 he;have hm:nth d' i∈d':=List.mem_of_getElem? (V7 hi);obtain ⟨hk,hk2⟩:=Qi5 hn (hsub _ hm);rcases GM d' nm with ⟨h3,_⟩ | ⟨j,b,h3,h4,h5⟩
  . omega
  have hj:j<d'.length:=(List.getElem?_eq_some_iff.1 h3).1;have hb:b∈d:=hsub _ (List.mem_of_getElem? h3);have h0':0<=Q1 d nm:=by have:=Qkh hb;rwa [h4] at this
  have hed:=hin _ nm hk (by rw[hk2];exact h1) h0';have:=(Cd.1 (hsat _ hk)).2 _ hed;rw[hg i hi,h5,Int.toNat_natCast,hg j hj,Ow h3,h4];exact this
 refine DN (g:=d'.map fun a=>nth L (Int.toNat (Q1 d a.1))) hv (fun i hi=>Cd.2 ⟨?_,fun e he=> ?_⟩) fun j=> ?_
 . rw[hg i hi];exact h0 _
 . unfold Jf at he;rw[if_pos hi] at he;rcases List.mem_append.1 he with he | he
   . exact key i 0 Yr e hi he fun k nm hk h1 h2=>by
      unfold Jf;rw[if_pos hk];exact List.mem_append_left _ (Ii h1 h2)
   exact key i 1 X7 e hi he fun k nm hk h1 h2=>by
    unfold Jf;rw[if_pos hk];exact List.mem_append_right _ (Ii h1 h2)
 by_cases hj:j<d'.length
 . rw[hg j hj];exact h0 _
 rw[S4 (by rw[List.length_map];omega)];omega
theorem GN {R S T:Type} {f:S->Rd R S T} (hf:∀s r,f s≠ .ret r):∀n s r,whl f n s≠some (.ret r)
 | 0,_,_=>by simp[whl]
 | n+1,s,r=>by
   simp only[whl];cases h:f s with
   | next s'=>exact GN hf n s' r
   | brk t=>simp
   | ret r'=>exact absurd h (hf s r')
theorem Qfm {R S T:Type} [Inhabited T] {f:S->Rd R S T} (hf:∀s r,f s≠ .ret r) (n:Nat) (s:S):∃t,Nj f n s= .brk t:=by
 unfold Nj;cases h:whl f n s with
 | none=>exact ⟨default,rfl⟩
 | some o=>
   cases o with
   | brk t=>exact ⟨t,rfl⟩
   | ret r=>exact absurd h (GN hf n s r)
theorem Qcj {R S T:Type} {f:S->Rd R S T} (I:S->Prop) (J:T->Prop) (hn:∀s s',I s->f s= .next s'->I s') (hb:∀s t,I s->f s= .brk t->J t):∀n s t,I s->whl f n s=some (.brk t)->J t
 | 0,_,_,_,h=>by simp[whl] at h
 | n +1,s,t,hi,h=>by
   simp only[whl] at h;cases hs:f s with
   | next s'=>rw[hs] at h;exact Qcj I J hn hb n s' t (hn s s' hi hs) h
   | brk t'=>
     rw[hs] at h;obtain rfl:t'=t:=by simpa using h
     exact hb s t' hi hs
   | ret r=>rw[hs] at h;simp at h
theorem Qfn {R S T:Type} [Inhabited T] {f:S->Rd R S T} (I:S->Prop) (J:T->Prop) (hn:∀s s',I s->f s= .next s'->I s') (hb:∀s t,I s->f s= .brk t->J t) {n:Nat} {s:S} {t:T} (hi:I s) (hw:(whl f n s).isSome=true) (h:Nj f n s= .brk t):J t:=
 Qcj I J hn hb n s t hi (by rw[Oc hw,h])
instance memDec (a:ByteArray) (S:List ByteArray):Decidable (a∈S):=decidable_of_iff (S.any (fun x=>decide (x=a))=true) (by rw[List.any_eq_true];exact ⟨fun ⟨x,h,e⟩=>of_decide_eq_true e▸h,fun h=>⟨a,h,decide_eq_true rfl⟩⟩)
abbrev BH:=List (ByteArray×List ByteArray)
inductive Reach (E:BH) (N:List ByteArray):ByteArray->Prop
 | base {x:ByteArray}:x∈N->Reach E N x
 | step {e:ByteArray×List ByteArray} {a:ByteArray}:e∈E->a∈e.2->Reach E N a->Reach E N e.1
def Th (E:BH) (S:List ByteArray):Prop:=∀e,e∈E->∀a,a∈e.2->a∈S->e.1∈S
theorem PG {E:BH} {N S:List ByteArray} (hN:∀x,x∈N->x∈S) (hc:Th E S) {x:ByteArray} (h:Reach E N x):x∈S:=by
 induction h with
 | base h=>exact hN _ h
 | step he ha _ ih=>exact hc _ he _ ha ih
theorem Qfo {S:List ByteArray} {x:ByteArray} (h:YB S) (hx:x∈S):CN S x=S:=
 CO _ _ (T8 x S h) h fun y=>by rw[Mj];exact ⟨fun h=>h.elim (fun e=>e▸hx) id, .inr⟩
def MK (e:ByteArray×List ByteArray) (S:List ByteArray) (a:ByteArray):List ByteArray:=if a∈S then CN S e.1 else S
def WU (S:List ByteArray) (e:ByteArray×List ByteArray):List ByteArray:=e.2.foldl (MK e) S
def Mb (E:BH) (S:List ByteArray):List ByteArray:=E.foldl WU S
def Cq (E:BH) (S:List ByteArray):Nat->List ByteArray
 | 0=>S
 | k+1=>Mb E (Cq E S k)
theorem Qck {e:ByteArray×List ByteArray} {S:List ByteArray} {a x:ByteArray} (hx:x∈S):x∈MK e S a:=by
 unfold MK;split
 . exact (Mj _ _ _).2 (.inr hx)
 exact hx
theorem JX {e:ByteArray×List ByteArray} {x:ByteArray}:∀(l:List ByteArray) (S:List ByteArray),x∈S->x∈l.foldl (MK e) S
 | [],_,h=>h
 | _::l,_,h=>JX l _ (Qck h)
theorem XE {x:ByteArray}:∀(E:BH) (S:List ByteArray),x∈S->x∈Mb E S
 | [],_,h=>h
 | e::E,S,h=>XE E (WU S e) (JX e.2 S h)
theorem PH {e:ByteArray×List ByteArray}:∀(l:List ByteArray) (S:List ByteArray),YB S->YB (l.foldl (MK e) S)
 | [],_,h=>h
 | a::l,S,h=>PH l _ (by unfold MK;split;exact T8 _ _ h;exact h)
theorem GO:∀(E:BH) (S:List ByteArray),YB S->YB (Mb E S)
 | [],_,h=>h
 | e::E,S,h=>GO E (WU S e) (PH e.2 S h)
theorem BI {E:BH} {N:List ByteArray} {e:ByteArray×List ByteArray} (he:e∈E):∀(l:List ByteArray) (S:List ByteArray),(∀a,a∈l->a∈e.2)->(∀x,x∈S->Reach E N x)->∀x,x∈l.foldl (MK e) S->Reach E N x
 | [],_,_,h=>h
 | a ::l,S,hl,h=>BI he l _ (fun b hb=>hl b (List.mem_cons_of_mem _ hb)) fun x hx=>by
   unfold MK at hx;split at hx
   . rename_i ha;rcases (Mj _ _ _).1 hx with rfl | hx
     . exact .step he (hl a (List.mem_cons_self ..)) (h a ha)
     exact h x hx
   exact h x hx
theorem WV {N:List ByteArray} {E0:BH}:∀(E:BH) (S:List ByteArray),(∀e,e∈E->e∈E0)->(∀x,x∈S->Reach E0 N x)->∀x,x∈Mb E S->Reach E0 N x
 | [],_,_,h=>h
 | e::E,S,hE,h=>WV E (WU S e) (fun f hf=>hE f (List.mem_cons_of_mem _ hf)) (BI (hE e (List.mem_cons_self ..)) e.2 S (fun _ h=>h) h)
theorem PI {e:ByteArray×List ByteArray} {a:ByteArray}:∀(l:List ByteArray) (S:List ByteArray),a∈l->a∈S->e.1∈l.foldl (MK e) S
 | b::l,S,ha,hS=>by
   rw[List.foldl_cons];rcases List.mem_cons.1 ha with rfl | ha
   . refine JX l _ ?_;unfold MK;rw[if_pos hS];exact (Mj _ _ _).2 (.inl rfl)
   exact PI l _ ha (Qck hS)
theorem GP:∀(E:BH) (S:List ByteArray) {e:ByteArray×List ByteArray} {a:ByteArray},e∈E->a∈e.2->a∈S->e.1∈Mb E S
 | f::E,S,e,a,he,ha,hS=>by
   show e.1∈Mb E (WU S f);rcases List.mem_cons.1 he with rfl | he
   . exact XE E _ (PI _ S ha hS)
   exact GP E _ he ha (JX f.2 S hS)
theorem WW {e:ByteArray×List ByteArray} {S:List ByteArray} (hs:YB S):∀l:List ByteArray,(∀a,a∈l->a∈S->e.1∈S)->l.foldl (MK e) S=S
 | [],_=>rfl
 | a ::l,h=>by
   have:MK e S a=S:=by
    unfold MK;split
    . rename_i ha;exact Qfo hs (h a (List.mem_cons_self ..) ha)
    rfl
   rw[List.foldl_cons,this];exact WW hs l fun b hb=>h b (List.mem_cons_of_mem _ hb)
theorem ZO {S:List ByteArray} (hs:YB S):∀E:BH,Th E S->Mb E S=S
 | [],_=>rfl
 | e::E,h=>by
   show Mb E (WU S e)=S;rw[show WU S e=S from WW hs e.2 (h e (List.mem_cons_self ..))];exact ZO hs E fun f hf=>h f (List.mem_cons_of_mem _ hf)
def UV (E:BH) (S:List ByteArray):Nat:=(E.filter fun e=> !decide (e.1∈S)).length
theorem GQ {S T:List ByteArray} (h:∀x,x∈S->x∈T):∀E:BH,UV E T<=UV E S
 | []=>Nat.le_refl _
 | e::E=>by
   have ih:=GQ h E;unfold UV at ih⊢;by_cases h1:e.1∈S
   . have h2:=h _ h1;simp only[List.filter_cons,h1,h2,decide_true,Bool.not_true,Bool.false_eq_true,if_false];exact ih
   by_cases h2:e.1∈T
   . simp only[List.filter_cons,h1,h2,decide_true,decide_false,Bool.not_true,Bool.not_false,Bool.false_eq_true,if_false,if_true,List.length_cons];omega
   simp only[List.filter_cons,h1,h2,decide_false,Bool.not_false,if_true,List.length_cons];omega
theorem GR {S T:List ByteArray} (h:∀x,x∈S->x∈T):∀{E:BH} {e:ByteArray×List ByteArray},e∈E->e.1∉S->e.1∈T->UV E T+1<=UV E S
 | f::E,e,he,h1,h2=>by
   rcases List.mem_cons.1 he with rfl | he
   . have ih:=GQ h E;unfold UV at ih⊢;simp only[List.filter_cons,h1,h2,decide_true,decide_false,Bool.not_true,Bool.not_false,Bool.false_eq_true,if_false,if_true,List.length_cons];omega
   have ih:=GR h he h1 h2;unfold UV at ih⊢;by_cases h3:f.1∈S
   . have h4:=h _ h3;simp only[List.filter_cons,h3,h4,decide_true,Bool.not_true,Bool.false_eq_true,if_false];exact ih
   by_cases h4:f.1∈T
   . simp only[List.filter_cons,h3,h4,decide_true,decide_false,Bool.not_true,Bool.not_false,Bool.false_eq_true,if_false,if_true,List.length_cons];omega
   simp only[List.filter_cons,h3,h4,decide_false,Bool.not_false,if_true,List.length_cons];omega
theorem YR {E:BH} {S:List ByteArray} (h:YB S):∀k,YB (Cq E S k)
 | 0=>h
 | k+1=>GO E _ (YR h k)
theorem WX {E:BH} {S:List ByteArray} (hs:YB S):∀k,Th E (Cq E S k)\/UV E (Cq E S k)+k<=E.length
 | 0=> .inr (by unfold UV;exact List.length_filter_le _ _)
 | k+1=>by
   show Th E (Mb E (Cq E S k))\/UV E (Mb E (Cq E S k))+(k+1)<=E.length;by_cases hc:Th E (Cq E S k)
   . rw[ZO (YR hs k) E hc];exact .inl hc
   rcases WX hs k with h | h
   . exact (hc h).elim
   right
   have:∃e,e∈E/\∃a,a∈e.2/\a∈Cq E S k/\e.1∉Cq E S k:=Classical.byContradiction fun hno=>hc fun e he a ha hS=>Classical.byContradiction fun hn=>hno ⟨e,he,a,ha,hS,hn⟩
   obtain ⟨e,he,a,ha,hS,hn⟩:=this;have:=GR (fun x hx=>XE E _ hx) he hn (GP E _ he ha hS);omega
theorem MM {E:BH} {S N:List ByteArray} (hs:YB S) (hN:∀x,x∈S↔x∈N) (x:ByteArray):x∈Cq E S (E.length+1)↔Reach E N x:=by
 have hsub:∀k x,x∈S->x∈Cq E S k:=fun k=>by
  induction k with
  | zero=>exact fun _ h=>h
  | succ k ih=>exact fun x h=>XE E _ (ih x h)
 have hr:∀k x,x∈Cq E S k->Reach E N x:=fun k=>by
  induction k with
  | zero=>exact fun x h=> .base ((hN x).1 h)
  | succ k ih=>exact WV E _ (fun _ h=>h) ih
 refine ⟨hr _ x,fun h=> ?_⟩;refine PG (fun y hy=>hsub _ y ((hN y).2 hy)) ?_ h;rcases WX hs (E.length+1) with h | h
 . exact h
 omega
theorem Rl {α R:Type} {f:Nat->α->List ByteArray->Rd R (List ByteArray) (List ByteArray)} {e:Nat->List ByteArray->List ByteArray} {p:α->Bool} {g:α->ByteArray} (hf:∀k a s,f k a s=bif p a then .next (J6 s (g a)) else .next s) (he:∀k s,e k s=s):∀(l:List α) (k:Nat) (s:List ByteArray),Xp f e l k s= .brk (Dh s ((l.filter p).map g))
 | [],k,s=>by simp[Xp,he,Dh]
 | a ::l,k,s=>by
   simp only[Xp,hf];cases h:p a with
   | true=>
     simp only[cond_true];rw[Rl hf he l (k+1),Pn,List.filter_cons_of_pos h];rfl
   | false=>
     simp only[cond_false];rw[Rl hf he l (k+1),List.filter_cons_of_neg (by simp[h])]
theorem GS (q:List Yu):Vw q=Vv q:=by
 unfold Vw Vv;rw[Rl (f:=D4) (e:=Ix) (p:=Jc) (g:=fun n:Yu=>n.2.2.2.1) (fun k a s=>by unfold D4;rw[VN]) (fun _ _=>rfl),Bc (f:=Iv) (p:=Jc) (g:=fun n:Yu=>n.2.2.2.1) (fun _ _ _=>rfl)];rfl
theorem MN (n:Yu):Q6 n.1 2 4=((n.1==(2:Int))|| ((n.1==(3:Int))|| (n.1==(4:Int)))):=by
 unfold Q6;rw[Bool.eq_iff_iff];simp;omega
theorem DO (q:List Yu):Kq q=Vp q:=by
 unfold Kq Vp;rw[Rl (f:=C4) (e:=Gp) (p:=fun n:Yu=>((n.1==(2:Int))|| ((n.1==(3:Int))|| (n.1==(4:Int))))) (g:=fun n:Yu=>n.2.2.2.1) (fun k a s=>by unfold C4;rw[MN]) (fun _ _=>rfl),Bc (f:=Gn) (p:=fun n:Yu=>((n.1==(2:Int))|| ((n.1==(3:Int))|| (n.1==(4:Int))))) (g:=fun n:Yu=>n.2.2.2.1) (fun _ _ _=>rfl)];rfl
theorem ZP (f:Xc):Yj f=Qi f:=by
 unfold Yj Qi;rw[Au (f:=D5) (g:=fun a:E6=>a.1) (fun _ _ _=>rfl),Au (f:=D3) (g:=fun a:E6=>a.1) (fun _ _ _=>rfl)];rfl
theorem GT {α R S T:Type} [Inhabited α] {L:List α} {f:Nat->α->S->Rd R S T} {g:Nat->S->Rd R S T} {e e':Nat->S->T} (hg:∀k s,g k s=f k (nth L k) s) (he:∀k s,e' k s=e k s):∀(n k:Nat) (s:S),k+n=L.length->Wu g e' n k s=Xp f e (L.drop k) k s
 | 0,k,s,h=>by rw[List.drop_eq_nil_of_le (by omega)];simp[Xp,Wu,he]
 | n+1,k,s,h=>by
   rw[Su (V7 (by omega:k<L.length))];simp only[Xp,Wu,hg];cases f k (nth L k) s with
   | next s'=>exact GT hg he n (k+1) s' (by omega)
   | brk t=>rfl
   | ret r=>rfl
def PJ (a b:Xc) (x:ByteArray):Bool:=(!(((Xa a x).1==(Xa b x).1)&&(((Xa a x).2.1==(Xa b x).2.1)&&((((Xa a x).2.2).toList==((Xa b x).2.2).toList)&&true))))
theorem SK (a b:Xc):Wp a b=J4 a b:=by
 unfold Wp J4;rw[ZP,ZP];have hn:Int.toNat (((Qi a).length+(Qi b).length):Int)=(Qi a++Qi b).length:=by rw[List.length_append];omega
 rw[hn,GT (L:=Qi a++Qi b) (f:=fun _ x s=>bif PJ a b x then .next (s++ [x]) else .next s) (e:=fun _ s=>s) (g:=Em a b) (e':=En) (fun _ _=>rfl) (fun _ _=>rfl) _ 0 [] (Nat.zero_add _),List.drop_zero,
  Bc (f:=fun _ x s=>bif PJ a b x then .next (s++ [x]) else .next s) (e:=fun _ s=>s) (p:=PJ a b) (g:=fun x:ByteArray=>x) (fun _ _ _=>rfl),Rl (f:=Eo a b) (e:=Ep) (p:=PJ a b) (g:=fun x:ByteArray=>x) (fun _ _ _=>rfl) (fun _ _=>rfl)]
 rfl
theorem MO {α R:Type} {p:α->Bool} {f:Nat->α->Unit->Rd Int Unit R} {e:Nat->Unit->R} (hf:∀k a,f k a ()=bif p a then .ret ((k:Nat):Int) else .next ()):∀(l:List α) (k:Nat),decide ((Out.on (Xp f e l k ()) (fun _=>(-1:Int)))>=0)=l.any p
 | [],k=>rfl
 | a::l,k=>by
   simp only[Xp,hf,List.any_cons];cases p a with
   | true=>simp only[cond_true,Out.on,Bool.true_or];exact decide_eq_true (by omega)
   | false=>simp only[cond_false,Bool.false_or];exact MO hf l (k+1)
theorem Qcl {α R:Type} {p:α->Bool} {f:Nat->α->Bool->Rd R Bool Bool} {e:Nat->Bool->Bool} (hf:∀k a s,f k a s= .next (s|| p a)) (he:∀k s,e k s=s):∀(l:List α) (k:Nat) (s:Bool),Xp f e l k s= .brk (s|| l.any p)
 | [],k,s=>by simp[Xp,he]
 | a::l,k,s=>by
   simp only[Xp,hf,List.any_cons];rw[Qcl hf he l (k+1),Bool.or_assoc]
theorem GU:∀(q:List Yu) (k:Nat),Out.on (Xp Bm D6 q k ()) (fun _=>false)=q.any Ja
 | [],k=>rfl
 | a::q,k=>by
   simp only[Xp,Bm,List.any_cons];unfold Ja;cases (a.1==(9:Int)) with
   | true=>rfl
   | false=>simp only[cond_false,Bool.false_or];exact GU q (k+1)
theorem P1 (d:List Xw):Wq d=X1 d:=by
 rw[Ta];unfold Wq;rw[Au (f:=Fz) (g:=fun a:Xw=>a.1) (fun _ _ _=>rfl)];simp[Out.on,F1]
theorem Qfp (l m:List ByteArray):(l.any fun x=>V2 m x)=m.any fun x=>Kz x l:=by
 rw[Bool.eq_iff_iff,List.any_eq_true,List.any_eq_true];constructor
 . rintro ⟨x,h1,h2⟩;exact ⟨x,(WO _ _).1 h2,(Ae x l).2 h1⟩
 rintro ⟨x,h1,h2⟩;exact ⟨x,(Ae x l).1 h2,(WO _ _).2 h1⟩
theorem MP (d:List Xw) (a b:Xc):Kx d a b=Kw d a b:=by
 unfold Kx Kw
 rw[P1,Dw (f:=Kf a b) (g:=Vg a b) (e:=Wd) (e':=U2) (fun k x s=>by
  unfold Kf Vg;rw[Qcl (f:=U3 a b) (e:=U4) (p:=fun x=>V2 (Wp a b) x) (fun _ _ _=>rfl) (fun _ _=>rfl)];simp only[Out.on];rw[Qfp,SK,DO];have e1:Xs (J4 a b) (Vp x.2)=(J4 a b).any fun y=>Kz y (Vp x.2):=MO (fun _ _=>rfl) _ 0
  have e2:Xx x.2=x.2.any Ja:=MO (fun _ _=>rfl) _ 0;have e3:C5 x.2=x.2.any Ja:=GU x.2 0;rw[e1,e2,e3,Bool.or_comm,Bool.and_comm (a.2.2.2.1 !=b.2.2.2.1)]) (fun _ _=>rfl)]
def WY (d:List Xw):BH:=d.map fun a=>(a.1,Vv a.2)
theorem MQ (a:Xw) (asks:List ByteArray):∀(l:List ByteArray) (k:Nat) (s:List ByteArray),Xp (We a) Hq l k s= .brk (l.foldl (MK (a.1,asks)) s)
 | [],k,s=>rfl
 | x ::l,k,s=>by
   simp only[Xp,We,List.foldl_cons];unfold MK;cases h:V2 s x with
   | true=>
     rw[if_pos ((WO s x).1 h),Pn];exact MQ a asks l (k+1) _
   | false=>
     rw[if_neg (fun hx=>by rw[(WO s x).2 hx] at h;cases h)];exact MQ a asks l (k+1) s
theorem Qcm:∀(d:List Xw) (k:Nat) (s:List ByteArray),Xp Wf Hs d k s= .brk (Mb (WY d) s)
 | [],k,s=>rfl
 | a::d,k,s=>by
   simp only[Xp,Wf,GS];rw[MQ a (Vv a.2)];simp only[Out.on];exact Qcm d (k+1) _
theorem ZQ (E:BH) (s:List ByteArray):∀n,Cq E (Mb E s) n=Cq E s (n+1)
 | 0=>rfl
 | n+1=>by show Mb E (Cq E (Mb E s) n)=Mb E (Cq E s (n+1));rw[ZQ E s n]
theorem Qcn (d:List Xw):∀(n k:Nat) (s:List ByteArray),Wu (Wg d) Ht n k s= .brk (Cq (WY d) s n)
 | 0,k,s=>rfl
 | n+1,k,s=>by
   simp only[Wu,Wg];rw[Qcm];simp only[Out.on];rw[Qcn d n (k+1),ZQ]
theorem SL (d:List Xw) (names:List ByteArray):YB (Yw d names)/\∀x,x∈Yw d names↔Reach (WY d) names x:=by
 unfold Yw;rw[Rl (f:=Ho) (e:=Hp) (p:=fun _=>true) (g:=id) (fun _ _ _=>rfl) (fun _ _=>rfl)];simp only[Out.on];rw[Qcn,show Int.toNat ((d.length:Int)+1)=(WY d).length+1 by unfold WY;rw[List.length_map];omega];have h0:YB (Dh [] ((names.filter fun _=>true).map id)):=Oh _ _ List.Pairwise.nil;exact ⟨YR h0 _,MM h0 fun x=>by rw[Og];simp⟩
theorem Qco (d:List Xw) (nm x:ByteArray):x∈Ze d nm↔∃a,a∈d/\a.1=x/\nm∈Vv a.2:=by
 unfold Ze;rw[Bc (f:=A0 nm) (p:=fun a:Xw=>Qm (Vv a.2) nm) (g:=fun a:Xw=>a.1) (fun _ _ _=>rfl)];simp only[Out.on,C2,List.nil_append,List.mem_map,List.mem_filter,Ae];constructor
 . rintro ⟨a,⟨h1,h2⟩,h3⟩;exact ⟨a,h1,h3,h2⟩
 rintro ⟨a,h1,h3,h2⟩;exact ⟨a,⟨h1,h2⟩,h3⟩
theorem P2:∀(l:List ByteArray) (k:Nat) (s:List ByteArray),∃new,Xp Z9 J7 l k s= .brk (s++new)/\(∀x,x∈l->x∈s++new)/\∀x,x∈new->x∈l
 | [],k,s=>⟨[],by simp[Xp,J7],fun x hx=>(by cases hx),fun x hx=>(by cases hx)⟩
 | a :: l,k,s=>by
   simp only[Xp,Z9];cases hc:Qm s a with
   | true=>
     simp only[Bool.not_true,cond_false];obtain ⟨new,h1,h2,h3⟩:=P2 l (k+1) s;refine ⟨new,h1,fun x hx=> ?_,fun x hx=>List.mem_cons_of_mem _ (h3 x hx)⟩;rcases List.mem_cons.1 hx with rfl | hx
     . exact List.mem_append_left _ ((Ae _ _).1 hc)
     exact h2 x hx
   | false=>
     simp only[Bool.not_false,cond_true];obtain ⟨new,h1,h2,h3⟩:=P2 l (k+1) (s++ [a]);refine ⟨a::new,by rw[h1,List.append_assoc];rfl,fun x hx=> ?_,fun x hx=> ?_⟩
     . rcases List.mem_cons.1 hx with rfl | hx
       . simp
       have:=h2 x hx;simpa using this
     rcases List.mem_cons.1 hx with rfl | hx
     . exact List.mem_cons_self ..
     exact List.mem_cons_of_mem _ (h3 x hx)
structure WorkI (d:List Xw) (names:List ByteArray) (s:List ByteArray×Int):Prop where
 all:∀x,x∈names->x∈s.1
 reach:∀x,x∈s.1->Reach (WY d) names x
 pos:0<=s.2
 len:s.2<=(s.1.length:Int)
 done:∀j:Nat,(j:Int)<s.2->∀e,e∈WY d->nth s.1 j∈e.2->e.1∈s.1
theorem Qcp {d:List Xw} {names:List ByteArray} {s s':List ByteArray×Int} (h:WorkI d names s) (hs:Yf d s= .next s'):WorkI d names s':=by
 unfold Yf at hs;by_cases hc:s.2<(s.1.length:Int)
 . simp only[decide_eq_true hc,cond_true] at hs;obtain ⟨new,h1,h2,h3⟩:=P2 (Ze d (nth s.1 (Int.toNat s.2))) 0 s.1;rw[h1] at hs;simp only[Out.on] at hs;have hs:=Rd.next.inj hs;rw[←hs];have hp:=h.pos
   have hget:∀j:Nat,(j:Int)<s.1.length->nth (s.1++new) j=nth s.1 j:=fun j hj=>by
    have hj':j<s.1.length:=by omega
    simp[nth,List.getD,List.getElem?_append,hj']
   have hmem:nth s.1 (Int.toNat s.2)∈s.1:=List.mem_of_getElem? (V7 (by omega));refine ⟨fun x hx=>List.mem_append_left _ (h.all x hx),fun x hx=> ?_,by show 0<=s.2+1;omega,by show s.2+1<=((s.1++new).length:Int);rw[List.length_append];omega,fun j hj e he hn=> ?_⟩
   . rcases List.mem_append.1 hx with hx | hx
     . exact h.reach x hx
     obtain ⟨a,ha,hax,hq⟩:=(Qco d _ x).1 (h3 x hx);rw[←hax];exact Reach.step (e:=(a.1,Vv a.2)) (List.mem_map_of_mem ha) hq (h.reach _ hmem)
   have hj:(j:Int)<s.2+1:=hj;have hn:nth (s.1++new) j∈e.2:=hn;rw[hget j (by omega)] at hn;by_cases hjs:(j:Int)<s.2
   . exact List.mem_append_left _ (h.done j hjs e he hn)
   have ej:j=Int.toNat s.2:=by omega
   subst ej;obtain ⟨a,ha,rfl⟩:=List.mem_map.1 he;exact h2 a.1 ((Qco d _ _).2 ⟨a,ha,rfl,hn⟩)
 simp only[decide_eq_false hc,cond_false] at hs;cases hs
theorem DP {d:List Xw} {names:List ByteArray} (hp:(List.length names:Int)+List.length d<=1000000):Yw d names=Xz d names:=by
 obtain ⟨h1,h2⟩:=SL d names;unfold Xz
 obtain ⟨t,ht⟩:=Qfm (f:=Yf d) (fun s r=>by
  unfold Yf;by_cases hc:s.2<(s.1.length:Int)
  . simp only[decide_eq_true hc,cond_true];obtain ⟨new,h1,_,_⟩:=P2 (Ze d (nth s.1 (Int.toNat s.2))) 0 s.1;rw[h1];simp[Out.on]
  simp[decide_eq_false hc]) (List.length names+List.length d+1) (names,0)
 have hj:(∀x,x∈names->x∈t)/\(∀x,x∈t->Reach (WY d) names x)/\Th (WY d) t:=Qfn (f:=Yf d) (I:=WorkI d names) (J:=fun t=>(∀x,x∈names->x∈t)/\(∀x,x∈t->Reach (WY d) names x)/\Th (WY d) t) (fun s s' hi h=>Qcp hi h) (fun s t hi h=>by
  unfold Yf at h;by_cases hc:s.2<(s.1.length:Int)
  . simp only[decide_eq_true hc,cond_true] at h;obtain ⟨new,h1,_,_⟩:=P2 (Ze d (nth s.1 (Int.toNat s.2))) 0 s.1;rw[h1] at h;simp[Out.on] at h
  simp only[decide_eq_false hc,cond_false] at h;have h:=Rd.brk.inj h;rw[←h];refine ⟨hi.all,hi.reach,fun e he a ha hS=> ?_⟩;obtain ⟨j,hjl,hj⟩:=List.getElem_of_mem hS;exact hi.done j (by omega) e he (by rw[Ow (List.getElem?_eq_some_iff.2 ⟨hjl,hj⟩)];exact ha)) ⟨fun x h=>h,fun x h=> .base h,Int.le_refl 0,by show (0:Int)<=_;omega,fun j hj=>by have hj:(j:Int)<0:=hj;omega⟩ (Df d names hp) ht
 rw[ht];simp only[Out.on]
 exact CO _ _ h1 (Oh _ _ List.Pairwise.nil) fun x=>by
  rw[h2,Og];exact ⟨fun h=> .inl (PG hj.1 hj.2.2 h),fun h=>h.elim (hj.2.1 x) fun h=>by cases h⟩
theorem MR {d:List Xw} (a b:Xc) (hd:List.length d<=1000):Ur d a b=Vc d a b:=by
 unfold Ur Vc;rw[MP];have:=ZN d a b;exact DP (by omega)
theorem Lm (s:Qz):Qe s=s:=by
 unfold Qe;rw[Au (f:=Ds) (e:=Dt) (g:=id) (fun _ _ _=>rfl),List.map_id];rfl
theorem Cr (d:List Xw):V1 d=d:=by
 unfold V1;rw[Au (f:=M9) (e:=Na) (g:=id) (fun _ _ _=>rfl),List.map_id];rfl
theorem UW (r:List Qh):Co r=r:=by
 unfold Co;rw[Au (f:=Fx) (e:=Fy) (g:=id) (fun _ _ _=>rfl),List.map_id];rfl
theorem SM (r:List Qh):Du r=r:=by
 unfold Du;rw[Au (f:=Gs) (e:=Gt) (g:=id) (fun _ _ _=>rfl),List.map_id];rfl
theorem Nw (c:Xq):X4 c=c:=by
 unfold X4;rw[Ez,Cn,UW]
theorem Mc (c:Xq):Qb c=c:=by
 unfold Qb;rw[Lm,Cr,SM]
theorem DQ (s:Qz) (n:Int):Xb s n=Qk s n:=by
 unfold Xb Qk;rw[PD];by_cases h:Xv s n>=0
 . rw[decide_eq_true h,decide_eq_false (by omega)];rfl
 rw[decide_eq_false h,decide_eq_true (by omega)];rfl
theorem GV (s:Qz) (f:Xc):Yb s f=Yh s f:=by
 unfold Yb Yh;rw[Lm,Ez,By,VW];rfl
theorem SN (s:Qz) (f:Xc):Y2 s f=Xy s f:=by
 unfold Y2 Xy;rw[Lm,Ez,By,VW,PD];rfl
theorem GW (s:Qz) (id:Int):Y9 s id=Yt s id:=by
 unfold Y9 Yt;rw[Lm,Ez,By,PD];cases hv:Qq s with
 | false=>rfl
 | true=>
   by_cases h:Xv s id<0
   . rw[decide_eq_true h];rfl
   rw[decide_eq_false h];have h1:=QP s id;have h2:=YJ hv;have hw:IntKind.i64.wrap (Xv s id+1)=Xv s id+1:=IntWalk.i64_in _ (by omega);have ht:Int.toNat (Xv s id+1)=Int.toNat (Xv s id)+1:=by omega
   simp only[Bool.not_true,Bool.or_false,cond_false]
   first
    | rw[hw,ht];rfl
    | rw[ht];rfl
abbrev Qkz (d:List Xw):Prop:=d.Pairwise fun a b=>bl a.1 b.1=true
theorem WZ {d:List Xw} (h:Qo d=true):Qkz d:=by
 have key:YB (d.map (·.1)):=by
  refine DG fun i hi=> ?_
  rw[List.length_map] at hi;have e:∀j,j<d.length->nth (d.map (·.1)) j=(nth d j).1:=fun j hj=>by simp[nth,List.getD,hj]
  rw[e i (by omega),e (i+1) hi];have:=XD h (i+1) _ (V7 hi);unfold Y0 at this;rw[decide_eq_true (show ((i+1:Nat):Int)>0 by omega),show Int.toNat (((i+1:Nat):Int)-1)=i by omega] at this;simp only[cond_true] at this;cases hb:bl (nth d i).1 (nth d (i+1)).1 with
  | true=>rfl
  | false=>
    unfold bl at hb;rw[hb] at this;simp at this
 exact List.pairwise_map.1 key
def GX (x:Xw):List Xw->List Xw
 | []=> [x]
 | a::l=>if bl a.1 x.1=true then a::GX x l else if a.1=x.1 then x::l else x::a::l
theorem Qi6 {a b:ByteArray} (h:bl a b=true):a≠b:=fun e=>by subst e;rw[OJ] at h;cases h
theorem UA (x:Xw):∀(l:List Xw) (k:Nat) (s:List Xw),(∀a,a∈l->a.1≠x.1)->Xp (C8 x) F3 l k (s,true)= .brk (s++l,true)
 | [],k,s,_=>by simp[Xp,F3]
 | a::l,k,s,h=>by
   have ha:(a.1.toList==x.1.toList)=false:=by rw[toList_inj];exact decide_eq_false (h a (List.mem_cons_self ..))
   simp only[Xp,C8,ha,Bool.not_true,Bool.false_and,cond_false,Bool.not_false,cond_true];rw[UA x l (k+1) (s++ [a]) fun b hb=>h b (List.mem_cons_of_mem _ hb),List.append_assoc];rfl
theorem GY (x:Xw):∀(l:List Xw) (k:Nat) (s:List Xw),Qkz l->∃y b,Xp (C8 x) F3 l k (s,false)= .brk (y,b)/\(bif !b then y++ [x] else y)=s++GX x l
 | [],k,s,_=>⟨s,false,rfl,rfl⟩
 | a :: l,k,s,h=>by
   obtain ⟨h1,h2⟩:=List.pairwise_cons.1 h;simp only[Xp,C8];cases hb:Op.bytesLess a.1.toList x.1.toList with
   | true=>
     have hb':bl a.1 x.1=true:=hb;have ha:(a.1.toList==x.1.toList)=false:=by rw[toList_inj];exact decide_eq_false (Qi6 hb')
     simp only[ha,Bool.not_true,Bool.not_false,Bool.and_false,cond_false,cond_true];obtain ⟨y,b,h3,h4⟩:=GY x l (k+1) (s++ [a]) h2;refine ⟨y,b,h3, ?_⟩;rw[h4,GX,if_pos hb',List.append_assoc];rfl
   | false=>
     have hb':¬bl a.1 x.1=true:=by unfold bl;rw[hb];simp
     by_cases e:a.1=x.1
     . have ha:(a.1.toList==x.1.toList)=true:=by rw[toList_inj];exact decide_eq_true e
       simp only[ha,Bool.not_true,Bool.not_false,Bool.and_self,cond_false,cond_true];refine ⟨_,_,UA x l (k+1) _ fun c hc=> ?_, ?_⟩
       . have:=Qi6 (h1 c hc);rw[e] at this;exact this.symm
       rw[GX,if_neg hb',if_pos e];simp
     have ha:(a.1.toList==x.1.toList)=false:=by rw[toList_inj];exact decide_eq_false e
     simp only[ha,Bool.not_false,Bool.and_self,cond_true];have hx:bl x.1 a.1=true:=Qg6 (by cases hq:bl a.1 x.1 with | true=>exact (hb' hq).elim | false=>rfl) (Ne.symm e);refine ⟨_,_,UA x l (k+1) _ fun c hc=> ?_, ?_⟩
     . exact (Qi6 (JP hx (h1 c hc))).symm
     rw[GX,if_neg hb',if_neg e];simp
theorem Qcq (x:Xw):∀(l:List Xw) (i:Nat) (a:Xw),Qkz l->l[i]? =some a->a.1=x.1->l.set i x=GX x l
 | [],i,a,_,h,_=>by simp at h
 | b::l,0,a,h,hi,e=>by
   obtain rfl:b=a:=by simpa using hi
   rw[GX,if_neg (by rw[e,OJ];simp),if_pos e];rfl
 | b::l,i+1,a,h,hi,e=>by
   obtain ⟨h1,h2⟩:=List.pairwise_cons.1 h;have hi:l[i]? =some a:=by simpa using hi
   have hb:=h1 a (List.mem_of_getElem? hi);rw[e] at hb;rw[GX,if_pos hb,List.set_cons_succ,Qcq x l i a h2 hi e]
theorem Qcr (x:Xw):∀(l:List Xw) (k:Nat),(∀a,a∈l->a.1≠x.1)->(Xp (Zv x) Z8 l k ()= .brk ()/\GX x l=l++ [x])\/∃j:Nat,j<l.length/\Xp (Zv x) Z8 l k ()= .ret (((k+j:Nat)):Int)/\GX x l=Mf l j x
 | [],k,_=> .inl ⟨rfl,rfl⟩
 | a :: l,k,h=>by
   have hn:=h a (List.mem_cons_self ..)
   have hx:A9 a x= !(bl a.1 x.1):=by
    unfold A9 bl;rw[toList_inj,decide_eq_false hn,Bool.or_false]
   simp only[Xp,Zv,hx];cases hb:bl a.1 x.1 with
   | false=>
     right
     refine ⟨0,by simp,rfl, ?_⟩;rw[GX,if_neg (by rw[hb];simp),if_neg hn];rfl
   | true=>
     simp only[Bool.not_true,cond_false];rcases Qcr x l (k+1) fun b hb=>h b (List.mem_cons_of_mem _ hb) with ⟨h1,h2⟩ | ⟨j,h1,h2,h3⟩
     . left
       refine ⟨h1, ?_⟩;rw[GX,if_pos hb,h2];rfl
     right
     refine ⟨j+1,by simpa using h1,by rw[h2,show k+1+j=k+(j+1) by omega], ?_⟩;rw[GX,if_pos hb,h3];simp[Mf]
theorem Qcs {d:List Xw} (x:Xw) (hv:Qo d=true):Yo d x=bif Qo (GX x d) then (GX x d,true) else (d,false):=by
 have ha:=WZ hv
 have fin:∀y,(bif ((!(Qo d))|| (!(Qo y))) then (d,false) else (y,true))=bif Qo y then (y,true) else (d,false):=fun y=>by
  rw[hv];cases Qo y<;>rfl
 unfold Yo;rw[Cn];rcases GM d x.1 with ⟨h1,h2⟩ | ⟨i,a,h1,h2,h3⟩
 . rw [h1,decide_eq_false (show¬(-1:Int)>=0 by omega)];simp only[cond_false];rcases Qcr x d 0 h2 with ⟨h4,h5⟩ | ⟨j,h4,h5,h6⟩
   . have hidx:Q0 d x= -1:=by unfold Q0;rw[h4];rfl
     rw[hidx,decide_eq_true (show (-1:Int)<0 by omega),cond_true,h5]
     have e:Mf d (Int.toNat (d.length:Int)) (Yi x)=d++ [x]:=by
      rw[Int.toNat_natCast];simp[Mf,Yi]
     rw[e];exact fin _
   have hidx:Q0 d x=((j:Nat):Int):=by unfold Q0;rw[h5,Nat.zero_add];rfl
   rw[hidx,decide_eq_false (show¬((j:Nat):Int)<0 by omega),cond_false,h6,Int.toNat_natCast];exact fin _
 rw[h3,decide_eq_true (show ((i:Nat):Int)>=0 by omega),cond_true,Int.toNat_natCast,←Qcq x d i a ha h1 h2];exact fin _
theorem Qct (d:List Xw) (x:Xw):Zr d x=Yo d x:=by
 cases hv:Qo d with
 | false=>
   have hv':Ye d=false:=(Bv d).symm.trans hv;unfold Zr Yo;rw[hv',hv,Cr,Cn];simp only[Bool.not_false,cond_true,Bool.true_or];generalize decide (_>=(0:Int))=c1;generalize decide (_<(0:Int))=c2;cases c1<;>cases c2<;>rfl
 | true=>
   rw[Qcs x hv];have hv':Ye d=true:=(Bv d).symm.trans hv;unfold Zr;rw[hv',Cr];simp only[Bool.not_true,cond_false];obtain ⟨y,b,h1,h2⟩:=GY x d 0 [] (WZ hv);rw[h1];simp only[Out.on,List.nil_append] at h2⊢;cases b with
   | false=>
     simp only[Bool.not_false,cond_true] at h2⊢;rw[Cr,h2,←Bv];cases Qo (GX x d)<;>rfl
   | true=>
     simp only[Bool.not_true,cond_false] at h2⊢;rw[Cr,h2,←Bv];cases Qo (GX x d)<;>rfl
theorem BJ (nm:ByteArray):∀(l:List Xw) (i:Nat) (a:Xw),(l.map (·.1)).Nodup->l[i]? =some a->a.1=nm->(l.filter fun b=> !(b.1.toList==nm.toList))=UR l i
 | [],i,a,_,h,_=>by simp at h
 | b ::l,0,a,h,hi,e=>by
   obtain rfl:b=a:=by simpa using hi
   rw[List.map_cons] at h;have hn:=(List.nodup_cons.1 h).1;have hb:(!(b.1.toList==nm.toList))=false:=by rw[toList_inj,decide_eq_true e];rfl
   rw[List.filter_cons_of_neg (by simp[hb])]
   have hall:∀c,c∈l->(!(c.1.toList==nm.toList))=true:=fun c hc=>by
    rw[toList_inj,decide_eq_false (fun e2=>hn (by rw[e,←e2];exact List.mem_map_of_mem hc))];rfl
   rw[List.filter_eq_self.2 hall];rfl
 | b ::l,i+1,a,h,hi,e=>by
   have hi:l[i]? =some a:=by simpa using hi
   rw[List.map_cons] at h;obtain ⟨hn,h2⟩:=List.nodup_cons.1 h
   have hb:(!(b.1.toList==nm.toList))=true:=by
    rw[toList_inj,decide_eq_false (fun e2=>hn (by rw[e2,←e];exact List.mem_map_of_mem (List.mem_of_getElem? hi)))];rfl
   rw[List.filter_cons_of_pos (p:=fun b:Xw=> !(b.1.toList==nm.toList)) hb,BJ nm l i a h2 hi e];rfl
theorem GZ (d:List Xw) (nm:ByteArray):Jz d nm=Zp d nm:=by
 unfold Jz Zp;rw[←Bv,Qey,Cr,Cn,Bc (f:=Iz nm) (p:=fun b:Xw=> !(b.1.toList==nm.toList)) (g:=id) (fun _ _ _=>rfl)];cases hv:Qo d with
 | false=>rfl
 | true=>
   rcases GM d nm with ⟨h1,h2⟩ | ⟨i,a,h1,h2,h3⟩
   . rw[h1];rfl
   rw[h3,decide_eq_false (show¬((i:Nat):Int)<0 by omega),Int.toNat_natCast];simp only[Bool.not_true,Bool.or_false,cond_false,Out.on,I0,List.nil_append,List.map_id];rw[Cr,BJ nm d i a (Tg hv) h1 h2]
theorem MS {d:List Xw} {nm:ByteArray} (h:(Zp d nm).2=true):Qo d=true/\∀a,a∈(Zp d nm).1->a∈d:=by
 unfold Zp at h⊢;rw[Cn] at h⊢;generalize hc:((!(Qo d))|| decide ((Q1 d nm)<(0:Int)))=c at h⊢;cases c with
 | true=>simp at h
 | false=>
   refine ⟨Y3 (Rc hc),fun a ha=> ?_⟩;rcases List.mem_append.1 ha with ha | ha
   . exact List.mem_of_mem_take ha
   exact List.mem_of_mem_drop ha
theorem Qcu {d d':List Xw} (hv:Qo d=true) (hs:d'.Sublist d):Qo d'=true:=by
 have ha:Qkz d':=List.Pairwise.sublist hs (WZ hv);have hl:=W8 hv;have hl':=hs.length_le;unfold Qo;rw[Sv d' 0 (fun i a hi=> ?_)]
 . exact decide_eq_true (show (d'.length:Int)<=5 by omega)
 have hm:a∈d:=hs.subset (List.mem_of_getElem? hi);obtain ⟨j,hj⟩:=List.getElem?_of_mem hm;have hr:=XD hv j a hj;rw[Nat.zero_add];have hstr:Yv a.1=true:=GK hv hm
 have hq:Q3 a.2=true:=by
  cases hq:Q3 a.2 with
  | true=>rfl
  | false=>
    unfold Y0 at hr;rw[hq] at hr;cases decide (((j:Nat):Int)>(0:Int))<;>simp at hr
 unfold Y0;rw[hstr,hq];by_cases h0:0<i
 . have hlt:i-1<d'.length:=by have:=(List.getElem?_eq_some_iff.1 hi).1;omega
   have hb:bl (nth d' (i-1)).1 a.1=true:=by
    obtain ⟨h1,h2⟩:=List.getElem?_eq_some_iff.1 hi;have:=List.pairwise_iff_getElem.1 ha (i-1) i hlt h1 (by omega);rw[h2] at this;rw[Ow (List.getElem?_eq_getElem hlt)];exact this
   unfold bl at hb;rw[show Int.toNat (((i:Nat):Int)-1)=i-1 by omega,hb,decide_eq_true (show ((i:Nat):Int)>0 by omega)];rfl
 obtain rfl:i=0:=by omega
 rfl
theorem UX {d:List Xw} {nm:ByteArray} (hs:(Qt d).2=true) (h:(Zp d nm).2=true):(Qt (Zp d nm).1).2=true:=by
 obtain ⟨hv,hsub⟩:=MS h;refine SJ hs (Qcu hv ?_) hsub;unfold Zp;rw[Cn];generalize ((!(Qo d))|| _:Bool)=c;cases c with
 | true=>exact List.Sublist.refl d
 | false=>
   have h1:(List.drop (Int.toNat (Q1 d nm)+1) d).Sublist (List.drop (Int.toNat (Q1 d nm)) d):=by
    rw[←List.drop_drop];exact List.drop_sublist _ _
   have:=List.Sublist.append (List.Sublist.refl (List.take (Int.toNat (Q1 d nm)) d)) h1;rw[List.take_append_drop] at this;exact this
theorem UB (a b:List Qh):H5 a b=Uq a b:=by
 unfold H5 Uq Jb
 rw[Dw (f:=Hu b) (g:=Zk b) (e:=Bh) (e':=Z1) (fun k x s=>by
  unfold Hu Zk Uh;rw[JU,MA,←Bool.not_and]) (fun _ _=>rfl)]
theorem Nx (c:Xq):Xe c=Xm c:=by
 unfold Xe Xm;rw[Tb,UB]
theorem G9 {c:Xq} (h:Xm c=true):(Qt c.2.1).2=true:=by
 unfold Xm Y6 Yn at h;cases hS:(Qt c.2.1).2 with
 | true=>rfl
 | false=>rw[hS] at h;simp at h
theorem Qfq {s:Qz} {d:List Xw} {r:List Qh} {names:List ByteArray} (hs:(Qt d).2=true) (hv:Qq s=true):∃o p,Yn s d r names=(o,p,true)/\Kr s d r names=(o,true):=by
 obtain ⟨h1,h2⟩:=Ol (L:=((Qt d)).1) (on:=onD d names) (fs:=s.2.1) (g:=Ey r names) (f:=Jn r names) (e:=Kk) (d:=d) (fun k a s=>by
  unfold Jn Ey;cases Qm names a.1<;>rfl) (fun j _ hj=>by unfold onD at hj;unfold Ey;rw[hj];rfl)
 obtain ⟨h3,_⟩:=Ol (L:=((Qt d)).1) (on:=onD d names) (fs:=s.2.1) (g:=Ey r names) (f:=Wz r names) (e:=Hf) (d:=d) Qci (fun j _ hj=>by unfold onD at hj;unfold Ey;rw[hj];rfl)
 have key:∀(n k:Nat) (o:List Qh) (p:Int),EvS d ((Qt d)).1 (onD d names) s.2.1 (((k:Nat)):Int) o->∃o' p',Wu (Vb s d names) Bl n k (o,p)= .brk (o',p')/\Wu (C7 s d names) Gr n k o= .brk o':=by
  intro n
  induction n with
  | zero=>intro k o p _;exact ⟨o,p,rfl,rfl⟩
  | succ n ih=>
    intro k o p ho;obtain ⟨o1,p1,g1,g2⟩:=Cz (p:=p) hs ho;have g1':=DJ (GI s d names k) _ o p true _ g1;obtain ⟨o2,p2,g3,g4⟩:=ih (k+1) o1 p1 (by rw[Int.natCast_add];exact g2);refine ⟨o2,p2, ?_, ?_⟩
    . simp only[Wu];unfold Vb Nj;rw[g1];exact g3
    simp only[Wu];unfold C7 Nj;rw[g1'];exact g4
 obtain ⟨o,p,g1,g2⟩:=key (Int.toNat (Va d+1)) 0 _ 0 h2;refine ⟨o,p, ?_, ?_⟩
 . unfold Yn;rw[hs,hv,h1];simp only[Bool.not_true,Bool.or_self,cond_false,Out.on,Kk];rw[g1]
 unfold Kr;rw[Wm,By,QO,hs,hv,h3];simp only[Bool.not_true,Bool.or_self,cond_false,Out.on,Hf];rw[g2]
theorem UC {c:Xq} {s:Qz} {d:List Xw} {names:List ByteArray} (hs:(Qt d).2=true) (hv:Qq s=true):(Kg c s d names).1=(X8 c s d names).1/\(X8 c s d names).2.2=true/\(X8 c s d names).1.1=s/\(X8 c s d names).1.2.1=d:=by
 obtain ⟨o,p,h1,h2⟩:=Qfq (s:=s) (d:=d) (r:=c.2.2) (names:=names) hs hv;unfold X8 Kg Vq;rw[h1,h2,Ez,Cn];exact ⟨rfl,rfl,rfl,rfl⟩
theorem DR {s:Qz} (f:Xc) (h:Qq s=true):Qq (Yh s f).1=true:=by
 rw[←By,←GV];exact Rk (Qce f (Qi2 ((By s).trans h))).1
theorem DS {s:Qz} (id:Int) (h:Qq s=true):Qq (Yt s id).1=true:=by
 rw[←By,←GW];exact Rk (Qcf id (Qi2 ((By s).trans h))).1
theorem Qfr {s:Qz} {n:Int} (h:0<=Xv s n):(nth s.2.1 (Int.toNat (Xv s n))).1=n:=by
 have key:∀(l:List Xc) (k:Nat),Xp (Yg n) Y8 l k ()= .brk ()\/∃(i:Nat) (a:Xc),l[i]? =some a/\a.1=n/\Xp (Yg n) Y8 l k ()= .ret (((k+i:Nat)):Int):=by
  intro l
  induction l with
  | nil=>exact fun k=> .inl rfl
  | cons a l ih=>
    intro k;simp only[Xp,Yg];by_cases ha:a.1=n
    . have e:A8 a n=true:=beq_iff_eq.2 ha;rw[e];exact .inr ⟨0,a,rfl,ha,rfl⟩
    have e:A8 a n=false:=beq_eq_false_iff_ne.2 ha;simp only[e,cond_false];rcases ih (k+1) with h | ⟨i,b,h1,h2,h3⟩
    . exact .inl h
    exact .inr ⟨i+1,b,by simpa using h1,h2,by rw[h3,show k+1+i=k+(i+1) by omega]⟩
 unfold Xv Jr at h⊢;rcases key s.2.1 0 with h1 | ⟨i,a,h1,h2,h3⟩
 . rw[h1] at h;have h:(0:Int)<=-1:=h;omega
 rw[h3,Nat.zero_add];simp only[Out.on,Int.toNat_natCast];rw[Ow h1];exact h2
theorem UY {s:Qz} (f:Xc) (h:Qq s=true):Qq (Xy s f).1=true:=by
 have hvs:=Qi2 ((By s).trans h);unfold Xy;rw[Ez,h];by_cases hc:Xv s f.1<0
 . rw[decide_eq_true hc];exact h
 rw[decide_eq_false hc];cases hf:X3 s.1 f with
 | false=>exact h
 | true=>
   have hid:=Qfr (s:=s) (n:=f.1) (by omega);have hlt:=QP s f.1;generalize Xv s f.1=p at hc hid hlt;obtain ⟨k,rfl⟩:∃k:Nat,p=(k:Int):=⟨p.toNat,by omega⟩;rw[Int.toNat_natCast] at hid;have hk:k<s.2.1.length:=by omega
   show Qq (s.1,List.set s.2.1 (Int.toNat (k:Int)) f,s.2.2)=true;rw[Int.toNat_natCast,←By]
   have hget:∀(i:Nat) (a:Xc),(s.2.1.set k f)[i]? =some a->(i=k/\a=f)\/(i≠k/\s.2.1[i]? =some a):=fun i a hi=>by
    rw[List.getElem?_set] at hi;by_cases e:k=i
    . subst e;rw[if_pos rfl,if_pos hk] at hi;exact .inl ⟨rfl,(Option.some.inj hi).symm⟩
    rw[if_neg e] at hi;exact .inr ⟨Ne.symm e,hi⟩
   have hold:=V7 hk;have hoid:=hvs.file k _ hold;refine Rk ⟨hvs.sch,by show (s.2.1.set k f).length<=12;rw[List.length_set];exact hvs.len,hvs.nx1,hvs.nx2,fun i a hi=> ?_,fun i a b ha hb=> ?_⟩
   . rcases hget i a hi with ⟨_,rfl⟩ | ⟨_,hi⟩
     . exact ⟨(VW s.1 a).trans hf,by show a.1<s.2.2;rw[←hid];exact hoid.2⟩
     exact hvs.file i a hi
   rcases hget i a ha with ⟨h1,e1⟩ | ⟨_,ha'⟩
   . rcases hget (i+1) b hb with ⟨h2,_⟩ | ⟨_,hb'⟩
     . omega
     rw[e1,←hid];exact hvs.asc i _ b (by rw[h1];exact hold) hb'
   rcases hget (i+1) b hb with ⟨h2,e2⟩ | ⟨_,hb'⟩
   . rw[e2,←hid];exact hvs.asc i a _ ha' (by rw[h2];exact hold)
   exact hvs.asc i a b ha' hb'
structure OpEq (x y:Xq) (a b:Bool) (c:Xq):Prop where
 cat:x=y
 ok:a=b
 no:b=false->y=c
theorem SO (c:Xq) (f:Xc):OpEq (Zq c f).1 (Z3 c f).1 (Zq c f).2.2.2 (Z3 c f).2.2.2 c:=by
 unfold Zq Z3;rw[Mc,Nw,Nx,P1];have e:((c.1.1,c.1.2.1,c.1.2.2):Qz)=c.1:=rfl;rw[e,GV];cases hc:Xm c with
 | false=>cases (Yh c.1 f).2.2<;>exact ⟨rfl,rfl,fun _=>rfl⟩
 | true=>
   cases hk:(Yh c.1 f).2.2 with
   | false=>exact ⟨rfl,rfl,fun _=>rfl⟩
   | true=>
     obtain ⟨t1,t2,_⟩:=UC (c:=c) (names:=X1 c.2.1) (G9 hc) (DR f (He hc).2);exact ⟨t1,t2.symm,fun h=>by have h:(X8 c (Yh c.1 f).1 c.2.1 (X1 c.2.1)).2.2=false:=h;rw[t2] at h;cases h⟩
theorem DT (c:Xq) (f:Xc):OpEq (Yy c f).1 (Jd c f).1 (Yy c f).2.2 (Jd c f).2.2 c:=by
 unfold Yy Jd;rw[Mc,Nw,Nx];have e:((c.1.1,c.1.2.1,c.1.2.2):Qz)=c.1:=rfl;rw[e,SN,DQ];cases hc:Xm c with
 | false=>cases (Xy c.1 f).2<;>exact ⟨rfl,rfl,fun _=>rfl⟩
 | true=>
   cases hk:(Xy c.1 f).2 with
   | false=>exact ⟨rfl,rfl,fun _=>rfl⟩
   | true=>
     rw[MR _ _ (by have:=(He hc).1;omega)];obtain ⟨t1,t2,_⟩:=UC (c:=c) (names:=Vc c.2.1 (Qk c.1 f.1).1 f) (G9 hc) (UY f (He hc).2);exact ⟨t1,t2.symm,fun h=>by have h:(X8 c (Xy c.1 f).1 c.2.1 (Vc c.2.1 (Qk c.1 f.1).1 f)).2.2=false:=h;rw[t2] at h;cases h⟩
theorem DU (c:Xq) (id:Int):OpEq (Yz c id).1 (Je c id).1 (Yz c id).2.2 (Je c id).2.2 c:=by
 unfold Yz Je;rw[Mc,Nw,Nx,P1];have e:((c.1.1,c.1.2.1,c.1.2.2):Qz)=c.1:=rfl;rw[e,GW];cases hc:Xm c with
 | false=>cases (Yt c.1 id).2<;>exact ⟨rfl,rfl,fun _=>rfl⟩
 | true=>
   cases hk:(Yt c.1 id).2 with
   | false=>exact ⟨rfl,rfl,fun _=>rfl⟩
   | true=>
     obtain ⟨t1,t2,_⟩:=UC (c:=c) (names:=X1 c.2.1) (G9 hc) (DS id (He hc).2);exact ⟨t1,t2.symm,fun h=>by have h:(X8 c (Yt c.1 id).1 c.2.1 (X1 c.2.1)).2.2=false:=h;rw[t2] at h;cases h⟩
theorem IA (c:Xq) (x:Xw):OpEq (Yx c x).1 (Jy c x).1 (Yx c x).2.2 (Jy c x).2.2 c:=by
 unfold Yx Jy;rw[Mc,Nw,Nx];have e:((c.1.1,c.1.2.1,c.1.2.2):Qz)=c.1:=rfl;have es:∀d,J5 d=J3 d:=fun d=>by unfold J5 J3;rw[Wm]
 rw[e,Qct,es];cases hc:Xm c with
 | false=>cases (Yo c.2.1 x).2<;>exact ⟨rfl,rfl,fun _=>rfl⟩
 | true =>
   cases hk:(Yo c.2.1 x).2 with
   | false=>exact ⟨rfl,rfl,fun _=>rfl⟩
   | true=>
     cases hst:J3 (Yo c.2.1 x).1 with
     | false=>exact ⟨rfl,rfl,fun _=>rfl⟩
     | true=>
       rw[DP (by have:=GF hst;simp only[List.length_cons,List.length_nil];omega)];obtain ⟨t1,t2,_⟩:=UC (c:=c) (s:=c.1) (names:=Xz (Yo c.2.1 x).1 [x.1]) (d:=(Yo c.2.1 x).1) hst (He hc).2;exact ⟨t1,t2.symm,fun h=>by have h:(X8 c c.1 (Yo c.2.1 x).1 (Xz (Yo c.2.1 x).1 [x.1])).2.2=false:=h;rw[t2] at h;cases h⟩
theorem UD (f:Xc) (u:Int):Ah f u=Wo f u:=rfl
theorem UZ (c:Xq) (u:Int) (x:Hh):OpEq (Qx c u x).1 (Qy c u x).1 (Qx c u x).2.2 (Qy c u x).2.2 c:=by
 unfold Qx Qy;have hu:Q6 u 0 2=Zz u:=rfl;have E:∀a b:Int,a≠b->(a==b)=false:=fun a b h=>beq_eq_false_iff_ne.2 h
 rw[Mc,Nw,Nx,hu];cases hc:Xm c with
 | false=>cases Zz u<;>exact ⟨rfl,rfl,fun _=>rfl⟩
 | true =>
   cases Zz u with
   | false=>exact ⟨rfl,rfl,fun _=>rfl⟩
   | true =>
     simp only[Bool.and_self,Bool.not_true,Bool.or_self,cond_false];rw[DQ,DQ,UD,UD];obtain ⟨kd,f,id,dir⟩:=x;dsimp only;by_cases h1:kd=1
     . subst h1;have A:=SO c f;simp only[beq_self_eq_true,Bool.true_and,cond_true,E 1 2 (by decide),E 1 3 (by decide),E 1 4 (by decide),E 1 5 (by decide),Bool.false_and,cond_false];cases (f.2.1==u) with
       | false=>exact ⟨rfl,rfl,fun _=>rfl⟩
       | true=>
         simp only[cond_true];rw[A.ok];cases hb:(Z3 c f).2.2.2 with
         | false=>exact ⟨(A.no hb).symm,rfl,fun _=>A.no hb⟩
         | true=>exact ⟨A.cat,rfl,fun h=>by cases h⟩
     by_cases h2:kd=2
     . subst h2;have A:=DT c f;simp only[beq_self_eq_true,Bool.true_and,cond_true,E 2 1 (by decide),E 2 3 (by decide),E 2 4 (by decide),E 2 5 (by decide),Bool.false_and,cond_false];cases (f.2.1==u) with
       | false=>
         simp only[cond_false,Bool.and_false];exact ⟨rfl,rfl,fun _=>rfl⟩
       | true=>
         simp only[cond_true,Bool.and_true];rw[A.ok];cases ((Qk c.1 f.1).2&&Wo (Qk c.1 f.1).1 u) with
         | false=>
           simp only[Bool.and_false,Bool.not_false,cond_true,cond_false];exact ⟨rfl,rfl,fun _=>rfl⟩
         | true=>
           simp only[Bool.and_true,cond_true];cases hb:(Jd c f).2.2 with
           | false=>exact ⟨(A.no hb).symm,rfl,fun _=>A.no hb⟩
           | true=>exact ⟨A.cat,rfl,fun h=>by cases h⟩
     by_cases h3:kd=3
     . subst h3;have A:=DU c id;simp only[beq_self_eq_true,Bool.true_and,cond_true,E 3 1 (by decide),E 3 2 (by decide),E 3 4 (by decide),E 3 5 (by decide),Bool.false_and,cond_false];rw[A.ok];cases ((Qk c.1 id).2&&Wo (Qk c.1 id).1 u) with
       | false=>
         simp only[Bool.and_false,Bool.not_false,cond_true,cond_false];exact ⟨rfl,rfl,fun _=>rfl⟩
       | true=>
         simp only[Bool.and_true,cond_true];cases hb:(Je c id).2.2 with
         | false=>exact ⟨(A.no hb).symm,rfl,fun _=>A.no hb⟩
         | true=>exact ⟨A.cat,rfl,fun h=>by cases h⟩
     by_cases h4:kd=4
     . subst h4;have A:=IA c dir;simp only[beq_self_eq_true,Bool.true_and,cond_true,E 4 1 (by decide),E 4 2 (by decide),E 4 3 (by decide),E 4 5 (by decide),Bool.false_and,cond_false];rw[A.ok];cases hb:(Jy c dir).2.2 with
       | false=>exact ⟨(A.no hb).symm,rfl,fun _=>A.no hb⟩
       | true=>exact ⟨A.cat,rfl,fun h=>by cases h⟩
     by_cases h5:kd=5
     . subst h5;simp only[beq_self_eq_true,Bool.true_and,cond_true,E 5 1 (by decide),E 5 2 (by decide),E 5 3 (by decide),E 5 4 (by decide),Bool.false_and,cond_false];unfold Y7;rw[GZ];cases hk:(Zp c.2.1 dir.1).2 with
       | false=>exact ⟨rfl,rfl,fun _=>rfl⟩
       | true=>
         rw[DP (by have:=(He hc).1;simp only[List.length_cons,List.length_nil];omega)];obtain ⟨t1,t2,_⟩:=UC (c:=c) (s:=c.1) (names:=Xz c.2.1 [dir.1]) (d:=(Zp c.2.1 dir.1).1) (UX (G9 hc) hk) (He hc).2;exact ⟨t1,t2.symm,fun h=>by have h:(X8 c c.1 (Zp c.2.1 dir.1).1 (Xz c.2.1 [dir.1])).2.2=false:=h;rw[t2] at h;cases h⟩
     simp only[E kd 1 h1,E kd 2 h2,E kd 3 h3,E kd 4 h4,E kd 5 h5,Bool.false_and,cond_false];exact ⟨rfl,rfl,fun _=>rfl⟩
open GoD (rd own)
def inR (n lo hi:Int):Bool:=decide (lo<=n)&&decide (n<=hi)
theorem PK {n lo hi:Int} (h1:lo<=n) (h2:n<=hi):inR n lo hi=true:=by simp[inR,h1,h2]
end Go.Proofs.YtkekndahbiefaaaGreatDoor
namespace Go.Proofs.YtkekndahbiefaaaGreatDoor
open Go.RowKit
open GoD (rd own)
theorem Qfs (w:World) (k:Nat) (os:Array Obj):Below w.heap.size w (Go.Sort.grow (w.drewN k) os):=
 ⟨rfl,rfl,rfl,by rw[Go.Sort.size_grow];exact Nat.le_add_right _ _,fun j hj=>by
  unfold Go.Sort.grow;rw[Array.getElem?_append,if_pos (by exact hj)];rfl⟩
theorem Qft (w:World) (d:Nat) (hd:d<10):Calls Tryz.prog 239 #[.int .i64 d] w (Ret w (.int .u8 (48+(d:Int)))):=by
 have h1:(d:Int)<10:=by omega
 have h2:IntKind.i64.wrap (48+(d:Int))=48+(d:Int):=by rw[IntKind.wrap_i64];omega
 go_enter Tryz.func239,Tryz.ntmps239
 go_wp2
 go_ret
 exact ⟨rfl,Below.refl _ _⟩
def tabOk (w : World) : Prop := Lib.TabIs Tryz.prog w "internal/strconv.uint64pow10" .u64 Lib.pow10Tab
theorem gTab : Tryz.prog.globalNamed "internal/strconv.uint64pow10" = some 0 := by kernel_rfl
theorem tabOk.keep {w w':World} (h:tabOk w) (hb:Below w.heap.size w w'):tabOk w':=Go.Joins.tab_stays gTab h hb (Nat.le_refl _)
def Uc (n:Int):ByteArray:=⟨(Lib.itoa n).toArray⟩
theorem UE (w:World) (n:Int) (hn:I64 n) (ht:tabOk w):Calls Tryz.prog 218 #[.int .i64 n] w (Ret w (.string (Uc n))):=by
 have hcon:=Sh.strconv_Itoa n hn.1 hn.2 w ht;rw[show (⟨(Lib.itoa n).toArray⟩:ByteArray)=Uc n from rfl] at hcon;generalize Uc n=s at*;clear ht hn;go_enter Tryz.func218,Tryz.ntmps218
 go_wp2_with (go_at_call 263;refine hcon.mono ?_;rintro e w' ⟨rfl,k,os,rfl⟩;have hb:=Qfs w k os;generalize Go.Sort.grow (w.drewN k) os=w9 at*)
 go_ret
 exact ⟨rfl,hb⟩
theorem Qi7:∀(u:Nat),u<1000->(Lib.decDigits u).length<=3:=by
 intro u hu;rw[Lib.decDigits];split
 . simp
 rw[Lib.decDigits];split
 . simp
 rw[Lib.decDigits];split
 . simp
 omega
theorem IB {n:Int} (h:inR n 0 999=true):(Uc n).size<=20:=by
 unfold inR at h;simp only[Bool.and_eq_true,decide_eq_true_eq] at h;have h1:=Qi7 n.toNat (by omega);unfold Uc Lib.itoa;rw[if_neg (by omega)];show (Lib.decDigits n.toNat).toArray.size<=20;simp only[List.size_toArray];omega
theorem Qfu {n:Nat} (h:¬n<10):Lib.decDigits n=Lib.decDigits (n / 10)++ [UInt8.ofNat (48+n % 10)]:=by rw[Lib.decDigits,dif_neg h]
theorem IC {n:Nat} (h:n<10):Lib.decDigits n= [UInt8.ofNat (48+n)]:=by rw[Lib.decDigits,dif_pos h]
def Ti (n:Nat):List UInt8:=if n=0 then [] else Lib.decDigits n
theorem Qcv {n:Nat} (h:n≠0) (t:List UInt8):Ti (n / 10)++(UInt8.ofNat (48+n % 10)::t)=Ti n++t:=by
 unfold Ti;rw[if_neg h];by_cases h10:n<10
 . rw[if_pos (by omega),IC h10,show n % 10=n by omega];rfl
 rw[if_neg (by omega),Qfu h10];simp
theorem Qfv (d:Nat) (hd:d<10) (s:ByteArray):(⟨#[UInt8.ofNat (48+d)]⟩:ByteArray)++s=⟨(UInt8.ofNat (48+d)::s.data.toList).toArray⟩:=by
 apply ByteArray.ext;rw[ByteArray.data_append];apply Array.toList_inj.1;simp
set_option maxRecDepth 20000 in
theorem UF (w:World) (n:Int) (hn:I64 n) (hr:inR n 0 999=true):Calls Tryz.prog 185 #[.int .i64 n] w (Ret w (.string (Uc n))):=by
 unfold inR at hr;simp only[Bool.and_eq_true,decide_eq_true_eq] at hr;obtain ⟨m,rfl⟩:∃m:Nat,n=m:=⟨n.toNat,by omega⟩;have hm:m<1000:=by omega
 clear hr hn
 have hnum:Uc (m:Int)=⟨(Lib.decDigits m).toArray⟩:=by
  unfold Uc Lib.itoa;rw[if_neg (by omega)];rfl
 generalize Uc (m:Int)=res at*;have HRES:=Lib.hid hnum;clear hnum;by_cases h0:m=0
 . subst h0;have hr:res=⟨#[48]⟩:=by rw[HRES.out,IC (by omega)];rfl
   subst hr;clear HRES;go_enter Tryz.func185,Tryz.ntmps185
   go_wp2
   go_ret
   exact ⟨rfl,Below.refl _ _⟩
 have hm0:¬((m:Int)=0):=by omega
 have hm1:¬((m:Int)<0):=by omega
 go_enter Tryz.func185,Tryz.ntmps185
 go_wp2
 go_loopw [0,4] (fun i s wr=>∃(k:Nat) (t:ByteArray),k<1000/\i= .int .i64 k/\s= .string t/\t.size<=1000-k/\Below w.heap.size w wr/\Hid (Ti k++t.data.toList=Lib.decDigits m)) (fun i _ _=>(intOf i).toNat)
 case atStart=>exact ⟨m,⟨#[]⟩,hm,rfl,rfl,by simp[ByteArray.size],Below.refl _ _,Lib.hid (by unfold Ti;rw[if_neg h0];simp)⟩
 case round=>
  obtain ⟨k,t,hk,rfl,rfl,hts,hB,hd⟩:=hrel;by_cases hk0:k=0
  . subst hk0
    have hrt:res=t:=by
     have h1:=hd.out;unfold Ti at h1;rw[if_pos rfl,List.nil_append] at h1;rw[HRES.out,←h1]
    subst hrt;clear HRES hd;go_wp2
    go_ret
    exact ⟨rfl,hB⟩
  have hk1:¬((k:Int)=0):=by omega
  have hd10:k % 10<10:=Nat.mod_lt _ (by decide);have hd0:¬((k:Int) % 10<0):=by omega
  have hcv:∀g:World,(convert 62 9 (.slice (some ⟨g.heap.size,0,none⟩) 1 1)).run Tryz.prog (g.alloc (.cells #[.int .u8 (48+(k:Int) % 10)] 5))= .ok (.string ⟨#[UInt8.ofNat (48+k % 10)]⟩) (g.alloc (.cells #[.int .u8 (48+(k:Int) % 10)] 5)):=fun g=>by
   have h:=Lib.run_convert_whole (P:=Tryz.prog) (g.alloc (.cells #[.int .u8 (48+(k:Int) % 10)] 5)) 62 5 9 Tryz.underlying62 Tryz.underlying5 Tryz.underlying9 g.heap.size 0 ⟨#[UInt8.ofNat (48+k % 10)]⟩ (fun i hi=>by
    have hi0:i=0:=by have:i<1:=hi;omega
    subst hi0;have he:(48+(k:Int) % 10)=((UInt8.ofNat (48+k % 10)).toNat:Int):=by rw[UInt8.toNat_ofNat'];omega
    show (g.alloc _).cell? ⟨g.heap.size,0+0,none⟩=some (.int .u8 ((UInt8.ofNat (48+k % 10)).toNat:Int));rw[←he];simp[go_sem]) 1
   exact h
  go_wp2_with (go_at_call 239;have hfg:=(fun w1=>Qft w1 (k % 10) hd10);rw[show (((k % 10:Nat)):Int)=(k:Int) % 10 by omega] at hfg;refine Cs (w:=w) (hfg _) (by go_grown) ?_;clear hfg;intro g1 hG1 hb hz1 hz2;clear hb)
  go_roundw
  case rel=>exact ⟨k / 10,⟨#[UInt8.ofNat (48+k % 10)]⟩++t,by omega,by first | rfl | go_num,by rw[UInt8.ofNat_add];rfl,by rw[ByteArray.size_append];have:(⟨#[UInt8.ofNat (48+k % 10)]⟩:ByteArray).size=1:=rfl;omega,by go_grown,Lib.hid (by rw[Qfv _ hd10];show Ti (k / 10)++(UInt8.ofNat (48+k % 10)::t.data.toList)=_;rw[Qcv hk0];exact hd.out)⟩
  case measure=>simp[intOf];omega
section
variable {P:Program}
theorem Sc {f:Nat} (hok:My P f) {n:Int} {s:ByteArray} (hs:s.size<=maxLen) (h:∀w,Good P w->I64 n->Calls P f #[.int .i64 n] w (Ret w (.string s))):ACalls P f [.i n] (.s s):=by
 refine ⟨hok,fun w hg F vals hF hall=> ?_⟩;cases hall with
 | cons h1 h2=>
   cases h2
   obtain ⟨rfl,hi⟩:=h1;refine (h w hg ((O8 n).1 hi)).mono ?_
   rintro e w' ⟨rfl,hb⟩
   exact ⟨_,fun _=> [],rfl,hb,fun _=>List.nodup_nil,fun k b hm=>by simp at hm,fun k k' b hm=>by simp at hm,rfl,hs⟩
end
theorem Ln {n:Int} (h:0<=n/\n<=999):(Uc n).size<=20:=IB (PK h.1 h.2)
theorem UG (n:Int) (h:0<=n/\n<=999):ACalls Tryz.prog 218 [.i n] (.s (Uc n)):=Sc (by unfold My;kernel_rfl) (by have:=Ln h;unfold maxLen;omega) fun w hg hn=>UE w n hn (hg.tab _ gTab)
theorem UH (n:Int) (h:0<=n/\n<=999):ACalls Tryz.prog 185 [.i n] (.s (Uc n)):=Sc (by unfold My;kernel_rfl) (by have:=Ln h;unfold maxLen;omega) fun w _ hn=>UF w n hn (PK h.1 h.2)
open GoE (enc wide)
def Xk (f:Xc):ByteArray:=(bif ((Xa f ⟨#[110]⟩).1==(2:Int)) then (Xa f ⟨#[110]⟩).2.2 else ⟨#[102,105,108,101]⟩)
theorem HB (f:Xc):ACalls Tryz.prog 217 [.a [.i f.1, .i f.2.1, .b f.2.2.1, .i f.2.2.2.1, .h f.2.2.2.2]] (.s (Xk f)):=by
 refine en Qa Tryz.func217 fun w0 F0 hG=> ?_
 refine sn Qa [1,2] [1] (p0) <| Qc <| tn Qa [2,3] [3] (pc 1 (Cx f ⟨#[110]⟩) p0) <| tu Qa [(2, .s ⟨#[]⟩),(3, .p 3 0),(8, .b ((Xa f ⟨#[110]⟩).1==(2:Int)))] [0] [(3, [.i ((Xa f ⟨#[110]⟩).1), .i ((Xa f ⟨#[110]⟩).2.1), .s ((Xa f ⟨#[110]⟩).2.2)])] [] (p0) <| ck ((Xa f ⟨#[110]⟩).1==(2:Int)) (fun h1=> ?_) (fun h1=> ?_)
 ·
  exact sn Qa [2] [] (p0) <| Qg <| ps [] (Xf h1 (rfl))
 exact Qf <| sn Qa [2] [] (p0) <| Qg <| ps [] (Qs h1 (rfl))
def E4 (f:Xc):ByteArray:=(bif ((Xo f ⟨#[110]⟩).1 !=(2:Int)) then ⟨#[102,105,108,101]⟩ else (Xo f ⟨#[110]⟩).2.2)
theorem HC (f:Xc):ACalls Tryz.prog 238 [.a [.i f.1, .i f.2.1, .b f.2.2.1, .i f.2.2.2.1, .h f.2.2.2.2]] (.s (E4 f)):=by
 refine en Qa Tryz.func238 fun w0 F0 hG=> ?_
 refine sn Qa [1,2] [1] (p0) <| tn Qa [2,3] [3] (pc 1 (Lb f ⟨#[110]⟩) p0) <| Qc <| tu Qa [(2, .s ⟨#[]⟩),(3, .p 3 0),(8, .b ((Xo f ⟨#[110]⟩).1 !=(2:Int)))] [0] [(3, [.i ((Xo f ⟨#[110]⟩).1), .i ((Xo f ⟨#[110]⟩).2.1), .s ((Xo f ⟨#[110]⟩).2.2)])] [] (p0) <| ck ((Xo f ⟨#[110]⟩).1 !=(2:Int)) (fun h1=> ?_) (fun h1=> ?_)
 ·
  exact sn Qa [2,3] [3] (p0) <| Qg <| ps [] (Xf h1 (rfl))
 exact Qf <| sn Qa [2] [] (p0) <| Qg <| ps [] (Qs h1 (rfl))
def K7 (s_:Qz) (id:Int):ByteArray:=(E4 (((Xb s_ id)).1))
theorem XF (s_:Qz) (id:Int):ACalls Tryz.prog 184 [.a [.h s_.1, .h s_.2.1, .i s_.2.2], .i id] (.s (K7 s_ id)):=by
 refine en Qa Tryz.func184 fun w0 F0 hG=> ?_
 exact sn Qa [1,2,4] [2] (p0) <| tn Qa [4,5] [5] (pc 2 (G8 s_ id) p0) <| tu Qa [(4, .s (E4 (((Xb s_ id)).1)))] [0,1] [] [] (pc 1 (HC (((Xb s_ id)).1)) p0) <| Qg <| ps [] (show K7 s_ id=(E4 (((Xb s_ id)).1)) from rfl)
theorem MT (s:Qz) (n:Int):Xb s n=Qk s n:=by
 unfold Xb Qk;rw[PD];by_cases h:Xv s n>=0
 . rw[decide_eq_true h,decide_eq_false (by omega)];rfl
 rw[decide_eq_false h,decide_eq_true (by omega)];rfl
theorem MU (f:Xc):E4 f=Xk f:=by
 unfold E4 Xk;rw[←Qbt];cases h:((Xa f ⟨#[110]⟩).1==(2:Int)) with
 | true=>simp[bne,h]
 | false=>simp[bne,h]
theorem MV (s:Qz) (n:Int):K7 s n=Xk ((Qk s n)).1:=by
 unfold K7;rw[MT,MU]
theorem UI (nm:ByteArray):∀(l:List E6) (k:Nat),Xp (Bp nm) Dm l k ()= .brk ()\/∃a,a∈l/\Xp (Bp nm) Dm l k ()= .ret a.2
 | [],_=> .inl rfl
 | b ::l,k=>by
   simp only[Xp,Bp];cases (b.1.toList==nm.toList) with
   | true=>exact .inr ⟨b,List.mem_cons_self ..,rfl⟩
   | false=>
     simp only[cond_false];rcases UI nm l (k+1) with h | ⟨a,ha,h⟩
     . exact .inl h
     exact .inr ⟨a,List.mem_cons_of_mem _ ha,h⟩
theorem Qfw {α:Type} [GoD α] {l:List α} {a:α} (h:a∈l):GoD.size a<=GoD.size l:=by
 obtain ⟨i,hi⟩:=List.getElem?_of_mem h;exact Qgy hi (Nat.le_refl _)
theorem DV (f:Xc):(Xk f).size<=GoD.size f+4:=by
 unfold Xk;cases h:((Xa f ⟨#[110]⟩).1==(2:Int)) with
 | false=>exact Nat.le_add_left 4 (GoD.size f)
 | true=>
   simp only[cond_true];unfold Xa;rcases UI ⟨#[110]⟩ f.2.2.2.2 0 with h | ⟨a,ha,h⟩
   . rw[h];exact Nat.zero_le _
   rw[h];simp only[Out.on];have h1:=Qfw ha;have h2:GoD.size a=a.1.size+(0+(0+a.2.2.2.size)):=rfl;have h3:GoD.size f=0+(0+(0+(0+GoD.size f.2.2.2.2))):=rfl;omega
theorem Qcw (s:Qz) (n:Int):(Xk ((Qk s n)).1).size<=GoD.size s+4:=by
 have h1:=DV ((Qk s n)).1
 have h2:GoD.size ((Qk s n)).1<=GoD.size s:=by
  unfold Qk;by_cases h:Xv s n>=0
  . rw[decide_eq_true h];have hp:=QP s n;have hg:=Qgy (V7 (l:=s.2.1) (i:=Int.toNat (Xv s n)) (by omega)) (Nat.le_refl _);exact Nat.le_trans hg (Qjz (Qj0 (Nat.le_refl _)))
  rw[decide_eq_false h];exact Nat.zero_le _
 omega
def Qi8 (a b:Xc):Prop:=b.1=a.1/\b.2.1=a.2.1/\b.2.2.1=a.2.2.1/\(b.2.2.2.1=a.2.2.2.1\/b.2.2.2.1=0)/\b.2.2.2.2=a.2.2.2.2
def SI (l s:List Xc):Prop:=s.length=l.length/\∀(i:Nat) (a b:Xc),l[i]? =some a->s[i]? =some b->Qi8 a b
theorem Qki {l s:List Xc} {k:Nat} (h:SI l s):SI l (s.set k ((nth s k).1,(nth s k).2.1,(nth s k).2.2.1,0,(nth s k).2.2.2.2)):=by
 refine ⟨by rw[List.length_set];exact h.1,fun i a b ha hb=> ?_⟩;rw[List.getElem?_set] at hb;by_cases e:k=i
 . subst e;rw[if_pos rfl] at hb;split at hb
   . rename_i hk;obtain ⟨q1,q2,q3,_,q5⟩:=h.2 k a _ ha (V7 hk);have hb:=Option.some.inj hb;subst hb;exact ⟨q1,q2,q3, .inr rfl,q5⟩
   cases hb
 rw[if_neg e] at hb;exact h.2 i a b ha hb
theorem DW (s:Qz) (u:Int):∃y,Xu s u=(s.1,y,s.2.2)/\SI (s.2.1.filter fun f=>Bf f u) y:=by
 unfold Xu;rw[Bc (f:=Wx u) (e:=Wy) (p:=fun a=>Bf a u) (g:=id) (fun _ _ _=>rfl)];simp only[Out.on,Wy,List.nil_append,List.map_id];generalize s.2.1.filter (fun f=>Bf f u)=l
 obtain ⟨y,h1,h2⟩:=QK (f:=V0 s) (e:=Hm) (SI l) (fun k a t ht=>by
  unfold V0;generalize decide (_<(0:Int))=c;cases c with
  | true=>exact ⟨_,rfl,Qki ht⟩
  | false=>exact ⟨_,rfl,ht⟩) l 0 l ⟨rfl,fun i a b ha hb=>by rw[ha] at hb;cases hb;exact ⟨rfl,rfl,rfl, .inl rfl,rfl⟩⟩
 rw[h1];exact ⟨y,rfl,h2⟩
def TxA (l:List E6):Prop:=∀a,a∈l->a.2.2.2.size<=1000
def TxS (s:Qz):Prop:=∀f,f∈s.2.1->TxA f.2.2.2.2
def TxD (d:List Xw):Prop:=∀a,a∈d->a.1.size<=1000
theorem MW {s:Qz} (h:TxS s) (n:Int):(Xk ((Qk s n)).1).size<=1000:=by
 have key:∀f:Xc,TxA f.2.2.2.2->(Xk f).size<=1000:=fun f hf=>by
  unfold Xk;cases h:((Xa f ⟨#[110]⟩).1==(2:Int)) with
  | false=>exact (by decide:(4:Nat)<=1000)
  | true=>
    simp only[cond_true];unfold Xa;rcases UI ⟨#[110]⟩ f.2.2.2.2 0 with h | ⟨a,ha,h⟩
    . rw[h];exact Nat.zero_le _
    rw[h];simp only[Out.on];exact hf a ha
 apply key;unfold Qk;by_cases h':Xv s n>=0
 . rw[decide_eq_true h'];have hp:=QP s n;exact h _ (List.mem_of_getElem? (V7 (l:=s.2.1) (i:=Int.toNat (Xv s n)) (by omega)))
 rw[decide_eq_false h'];intro a ha;cases ha
theorem Qfx {s:Qz} (h:TxS s) (n:Int):(K7 s n).size<=1000:=by rw[MV];exact MW h n
theorem YS {s:Qz} (h:TxS s) (u:Int):TxS (Xu s u):=by
 obtain ⟨y,e,hl,hs⟩:=DW s u;rw[e];intro f hf;obtain ⟨i,hi⟩:=List.getElem?_of_mem hf;have hil:i<(s.2.1.filter fun f=>Bf f u).length:=by rw[←hl];exact (List.getElem?_eq_some_iff.1 hi).1
 have hg:=List.getElem?_eq_getElem hil;have hsh:=hs i _ f hg hi;have hm:=(List.mem_filter.1 (List.mem_of_getElem? hg)).1;rw[hsh.2.2.2.2];exact h _ hm
theorem MX {s:Qz} (h:TxS s) (u:Int):TxS (Ys s u):=by rw[Rj];exact YS h u
theorem IE {s:ByteArray} (h:Yv s=true):s.size<=6:=by
 unfold Yv at h
 have hn:∀(n k:Nat),Wu (Wh s) Uu n k ()≠ .ret true:=by
  intro n
  induction n with
  | zero=>intro k;simp[Wu]
  | succ n ih=>
    intro k;simp only[Wu,Wh];generalize (_|| _:Bool)=c;cases c with
    | true=>simp
    | false=>exact ih (k+1)
 cases hl:Wu (Wh s) Uu (Int.toNat (ByteArray.size s:Int)) 0 () with
 | ret r=>
   rw[hl] at h;obtain rfl:r=true:=h;exact (hn _ _ hl).elim
 | brk t=>
   rw[hl] at h;have h:=Nn.1 h;omega
theorem BK {s:ByteArray} (h:(s.toList==(⟨#[]⟩:ByteArray).toList)=true):s.size=0:=by
 rw[toList_inj] at h;rw[of_decide_eq_true h];rfl
theorem MY {v:De} (h:Ki v=true):v.2.2.size<=6:=by
 unfold Ki at h;cases h0:(v.1==(0:Int)) with
 | true=>
   rw[h0] at h;simp only[cond_true,Bool.and_eq_true] at h;rw[BK h.2.2.1];exact Nat.zero_le _
 | false=>
   rw[h0] at h;simp only[cond_false] at h;cases h1:(v.1==(1:Int)) with
   | true=>
     rw[h1] at h;simp only[cond_true,Bool.and_eq_true] at h;rw[BK h.2];exact Nat.zero_le _
   | false=>
     rw[h1] at h;simp only[cond_false] at h;cases h2:(v.1==(2:Int)) with
     | true=>
       rw[h2] at h;simp only[cond_true,Bool.and_eq_true] at h;exact IE h.1
     | false=>rw[h2] at h;cases h
theorem MZ {s:List Kt} {f:Xc} (h:X3 s f=true) {a:E6} (ha:a∈f.2.2.2.2):Zf s a.1 a.2=true:=by
 obtain ⟨⟨t,hl⟩,_⟩:=GE h;obtain ⟨i,hi⟩:=List.getElem?_of_mem ha;have:=I6 (fun k a t=>by unfold Zd;generalize (bif decide (((k:Nat):Int)>(0:Int)) then _ else _:Bool)=c;cases c<;>simp) hl i a hi;rw[Nat.zero_add] at this;unfold Zd at this;cases hm:Zf s a.1 a.2 with
 | false=>rw[hm] at this;simp at this
 | true=>rfl
theorem Qfy {s:List Kt} {f:Xc} (h:X3 s f=true):TxA f.2.2.2.2:=fun a ha=>by
 have hm:=MZ h ha;unfold Zf at hm;simp only[Bool.and_eq_true] at hm;have:=MY hm.1;omega
theorem Qfz {s:Qz} (h:Qq s=true):TxS s:=fun _ hf=>Qfy (WH h hf)
theorem Qf0 {d:List Xw} (h:Qo d=true):TxD d:=fun _ ha=>by
 have:=IE (GK h ha);omega
theorem UJ {s:Qz} {d:List Xw} {u:Int} (h:(X6 s d u).2=true):TxS s/\TxD d:=by
 unfold X6 at h;cases hv:Qq s with
 | false=>rw[hv] at h;simp at h
 | true=>
   refine ⟨Qfz hv, ?_⟩;rw[hv] at h;cases hu:Zz u with
   | false=>rw[hu] at h;simp at h
   | true=>
     rw[hu] at h;simp only[Bool.not_true,Bool.or_false,cond_false] at h;unfold Y6 Yn at h;cases hS:(Qt d).2 with
     | false=>rw[hS] at h;simp at h
     | true=>exact Qf0 (Pr (Prod.ext rfl hS:Qt d=((Qt d).1,true))).1
theorem NA {s:Qz} {d:List Xw} {u:Int} (h:(Zb s d u).2=true):TxS s/\TxD d:=by
 rw[Td] at h;exact UJ h
open GoE (enc wide)
def V3 (s_:Qz) (_:Nat) (a0:Int) (s0:(List ByteArray)×(List ByteArray)):Rd ((List ByteArray)) ((List ByteArray)×(List ByteArray)) ((List ByteArray)):=(bif (Qm s0.1 (Xk (((Qk s_ a0)).1))) then (.next (s0.1++ [(Xk (((Qk s_ a0)).1))],s0.2++ [(((Xk (((Qk s_ a0)).1))++(⟨#[46]⟩:ByteArray))++(Uc a0))])) else (.next (s0.1++ [(Xk (((Qk s_ a0)).1))],s0.2++ [(Xk (((Qk s_ a0)).1))])))
def A5 (_:Nat) (s0:(List ByteArray)×(List ByteArray)):(List ByteArray):=s0.2
def Zt (s_:Qz) (ids:(List Int)):(List ByteArray):=(Out.on (Xp (V3 s_) A5 ids 0 ([], [])) (fun y0=>y0))
theorem JF (s_:Qz) (ids:(List Int)) (hi:∀x,x∈ids->1<=x/\x<=60) (hp:TxS s_):ACalls Tryz.prog 153 [.a [.h s_.1, .h s_.2.1, .i s_.2.2], .h ids] (.o 0 (Zt s_ ids)):=by
 refine en Qa Tryz.func153 fun w0 F0 hG=> ?_
 refine sn Qa [1,2,4] [2] (p0) <| tn Qa [1,2,4,5] [2] (p0) <| tu Qa [(2, .p 2 0),(4, .e 0),(5, .one (.slc (.own true 768) 1 [])),(6, .one (.slc (.own true 832) 1 []))] [0] [(2, [.h s_.1, .h s_.2.1, .i s_.2.2])] [] (p0) <| Qc <| sn Qa [2,4,5,6,14,15,16] [2] (pl 1 ids p0) <| mz [(14, .h ids),(15, .i (ids.length:Int)),(16, .i 0)] [1] [] [] <| wT 14 0 .sh ids (fun hw1 hl2=> ?_)
 refine XZ (V3 s_) A5 ids ([], []) (fun k0 s0=> [(5, .o 147202 s0.1),(6, .o 147203 s0.2),(16, .i ((k0:Nat):Int))]) [5,6,16] (fun _ _=> []) [] (fun y0=> [(6, .o 147353 y0)]) [2,5,6,14,15,16] (fun _=> []) [2] (fun k0 s0=>List.length s0.1<=k0/\List.length s0.2<=k0) (Xl [(768,147202),(832,147203)] (by kernel_rfl)) ⟨(by simp),(by simp)⟩ (fun k0 s0 hk0 hI0=> ?_) (fun k0 s0 hk0 hI0=> ?_) (fun y0 hD0=> ?_)
 ·
  have hA0_0:=hI0.2.1;have hA0_1:=hI0.2.2;obtain ⟨a0,hx0⟩:=Xh (l:=ids) (i:=k0) hk0;have hi0:=hi _ (List.mem_of_getElem? hx0);have hbs:=MW hp a0;have hns:=Ln (n:=a0) (by omega);refine su Qa [(17, .b true)] [] [] [] (pe 0 (Qp (decide_eq_true (p:=((k0:Nat):Int)<(ids.length:Int)) (by omega))) p0) <| Qc <| ckT <| Qf <| Qc <| Qu <| su Qa [(8, .i a0)] [17] [] [] (pn 0 hx0 p0) <| sn Qa [2,4,5,6,8,9,14,15,16] [2,9] (pc 2 (G7 s_ a0) p0) <| tn Qa [2,4,5,6,8,11,14,15,16] [2] (pc 1 (HB (((Qk s_ a0)).1)) p0) <| Qc <| tu Qa [(11, .s (Xk (((Qk s_ a0)).1))),(30, .b (Qm s0.1 (Xk (((Qk s_ a0)).1))))] [] [] [] (pc 2 (Vf s0.1 (Xk (((Qk s_ a0)).1))) p0) <| ck (Qm s0.1 (Xk (((Qk s_ a0)).1))) (fun h3=> ?_) (fun h3=> ?_)
  ·
   refine wT 6 0 (.own true 147203) s0.2 (fun hw4 hl5=> ?_);refine ru Qa [(6, .one (.slc (.own true 2432) 1 ((eL s0.2)++ [[.s (((Xk (((Qk s_ a0)).1))++(⟨#[46]⟩:ByteArray))++(Uc a0))]])))] [6,8,30] [] [] (px (Pe (n:=(ByteArray.size (Xk (((Qk s_ a0)).1))+ByteArray.size (⟨#[46]⟩:ByteArray))) (by have hq0:ByteArray.size (⟨#[46]⟩:ByteArray)=1:=rfl;unfold maxLen;first | omega | (simp only[ByteArray.size_append];omega))) (pc 4 (UG a0 (by omega)) (px (Pe (n:=(ByteArray.size ((Xk (((Qk s_ a0)).1))++(⟨#[46]⟩:ByteArray))+ByteArray.size (Uc a0))) (by have hq0:ByteArray.size (⟨#[46]⟩:ByteArray)=1:=rfl;unfold maxLen;first | omega | (simp only[ByteArray.size_append];omega))) (pa s0.2 [(((Xk (((Qk s_ a0)).1))++(⟨#[46]⟩:ByteArray))++(Uc a0))] p0)))) ?_;refine eqn [(6, .o 2432 (s0.2++ [(((Xk (((Qk s_ a0)).1))++(⟨#[46]⟩:ByteArray))++(Uc a0))]))] [6] [] [] (by rw[show ((eL s0.2)++ [[.s (((Xk (((Qk s_ a0)).1))++(⟨#[46]⟩:ByteArray))++(Uc a0))]])=(eL (s0.2++ [(((Xk (((Qk s_ a0)).1))++(⟨#[46]⟩:ByteArray))++(Uc a0))])) from Ks (rfl) (rfl)];first | done | kernel_rfl) ?_;refine wT 5 0 (.own true 147202) s0.1 (fun hw6 hl7=> ?_);refine ru Qa [(5, .one (.slc (.own true 2944) 1 ((eL s0.1)++ [[.s (Xk (((Qk s_ a0)).1))]])))] [5,11] [] [] (pa s0.1 [(Xk (((Qk s_ a0)).1))] p0) ?_;refine eqn [(5, .o 2944 (s0.1++ [(Xk (((Qk s_ a0)).1))]))] [5] [] [] (by rw[show ((eL s0.1)++ [[.s (Xk (((Qk s_ a0)).1))]])=(eL (s0.1++ [(Xk (((Qk s_ a0)).1))])) from Ks (rfl) (rfl)];first | done | kernel_rfl) ?_;refine rn Qa [2,4,5,6,14,15,16] [2] (pe 0 (Jh (Ql k0 (by omega))) p0) ?_;exact Exists.intro (s0.1++ [(Xk (((Qk s_ a0)).1))],s0.2++ [(((Xk (((Qk s_ a0)).1))++(⟨#[46]⟩:ByteArray))++(Uc a0))]) (And.intro (Xl [(2944,147202),(2432,147203)] (by kernel_rfl)) ⟨Qr hx0 (Xf h3 (rfl)) hI0.1,by first | omega | (simp;omega) | simp,by first | omega | (simp;omega) | simp⟩)
  refine wT 6 0 (.own true 147203) s0.2 (fun hw8 hl9=> ?_);refine ru Qa [(6, .one (.slc (.own true 2688) 1 ((eL s0.2)++ [[.s (Xk (((Qk s_ a0)).1))]])))] [6,8,30] [] [] (pa s0.2 [(Xk (((Qk s_ a0)).1))] p0) ?_;refine eqn [(6, .o 2688 (s0.2++ [(Xk (((Qk s_ a0)).1))]))] [6] [] [] (by rw[show ((eL s0.2)++ [[.s (Xk (((Qk s_ a0)).1))]])=(eL (s0.2++ [(Xk (((Qk s_ a0)).1))])) from Ks (rfl) (rfl)];first | done | kernel_rfl) ?_;refine wT 5 0 (.own true 147202) s0.1 (fun hw10 hl11=> ?_);refine ru Qa [(5, .one (.slc (.own true 2944) 1 ((eL s0.1)++ [[.s (Xk (((Qk s_ a0)).1))]])))] [5,11] [] [] (pa s0.1 [(Xk (((Qk s_ a0)).1))] p0) ?_;refine eqn [(5, .o 2944 (s0.1++ [(Xk (((Qk s_ a0)).1))]))] [5] [] [] (by rw[show ((eL s0.1)++ [[.s (Xk (((Qk s_ a0)).1))]])=(eL (s0.1++ [(Xk (((Qk s_ a0)).1))])) from Ks (rfl) (rfl)];first | done | kernel_rfl) ?_;refine rn Qa [2,4,5,6,14,15,16] [2] (pe 0 (Jh (Ql k0 (by omega))) p0) ?_;exact Exists.intro (s0.1++ [(Xk (((Qk s_ a0)).1))],s0.2++ [(Xk (((Qk s_ a0)).1))]) (And.intro (Xl [(2944,147202),(2688,147203)] (by kernel_rfl)) ⟨Qr hx0 (Qs h3 (rfl)) hI0.1,by first | omega | (simp;omega) | simp,by first | omega | (simp;omega) | simp⟩)
 ·
  have hA0_0:=hI0.2.1;have hA0_1:=hI0.2.2;exact su Qa [(17, .b false)] [] [] [] (pe 0 (Qp (decide_eq_false (p:=((k0:Nat):Int)<(ids.length:Int)) (by omega))) p0) <| Qc <| ckF <| Q2 <| Exists.intro _ (And.intro (Xl [(147203,147353)] (by kernel_rfl)) (Xi hk0 (rfl) hI0.1))
 exact sn Qa [4] [] (p0) <| Qg <| po0 [] (Wj hD0 (rfl))
def C9 (s_:Qz) (ids:(List Int)) (a0:Int) (k1:Nat) (s1:ByteArray):Rd (Rd ((List ByteArray)) ((List ByteArray)) ((List ByteArray))) (ByteArray) (ByteArray):=(bif ((K7 s_ (nth ids k1)).toList==(K7 s_ a0).toList) then (.next (((K7 s_ a0)++(⟨#[46]⟩:ByteArray))++(Uc a0))) else (.next s1))
def Gu (_:Nat) (s1:ByteArray):ByteArray:=s1
def Da (s_:Qz) (ids:(List Int)) (k0:Nat) (a0:Int) (s0:(List ByteArray)):Rd ((List ByteArray)) ((List ByteArray)) ((List ByteArray)):=(Out.on (Wu (C9 s_ ids a0) Gu (Int.toNat ((k0:Nat):Int)) 0 (K7 s_ a0)) (fun y1=>(.next (s0++ [y1]))))
def Gv (_:Nat) (s0:(List ByteArray)):(List ByteArray):=s0
def Ka (s_:Qz) (ids:(List Int)):(List ByteArray):=(Out.on (Xp (Da s_ ids) Gv ids 0 []) (fun y0=>y0))
theorem JG (s_:Qz) (ids:(List Int)) (hi:∀x,x∈ids->1<=x/\x<=60) (hp:TxS s_):ACalls Tryz.prog 121 [.a [.h s_.1, .h s_.2.1, .i s_.2.2], .h ids] (.o 0 (Ka s_ ids)):=by
 refine en Qa Tryz.func121 fun w0 F0 hG=> ?_
 refine sn Qa [1,2,4] [2] (p0) <| tn Qa [1,2,4,5] [2] (p0) <| Qc <| tu Qa [(2, .p 2 0),(4, .e 0),(5, .one (.slc (.own true 640) 1 [])),(6, .i 0)] [0] [(2, [.h s_.1, .h s_.2.1, .i s_.2.2])] [] (p0) <| wT 1 0 .sh ids (fun hw1 hl2=> ?_)
 refine XZ (Da s_ ids) Gv ids [] (fun k0 s0=> [(5, .o 147203 s0),(6, .i ((k0:Nat):Int))]) [5,6] (fun _ _=> []) [] (fun y0=> [(5, .o 147353 y0)]) [1,2,5,6] (fun _=> []) [2] (fun k0 s0=>List.length s0<=k0) (Xl [(640,147203)] (by kernel_rfl)) (by simp) (fun k0 s0 hk0 hI0=> ?_) (fun k0 s0 hk0 hI0=> ?_) (fun y0 hD0=> ?_)
 ·
  have hA0_0:=hI0.2;obtain ⟨a0,hx0⟩:=Xh (l:=ids) (i:=k0) hk0;have hi0:=hi _ (List.mem_of_getElem? hx0);have hbs:=Qfx hp a0;have hns:=Ln (n:=a0) (by omega);refine Qc <| sn Qa [1,2,4,5,6,14] [2] (pl 2 ids (pe 3 (Qp (decide_eq_true (p:=((k0:Nat):Int)<(ids.length:Int)) (by omega))) p0)) <| ckT <| Qf <| Qc <| Qu <| tN Qa Zh [1,2,4,5,6,7] [2] (pn 3 hx0 (pc 5 (XF s_ a0) p0)) <| tu Qa [(7, .s (K7 s_ a0)),(8, .s (K7 s_ a0))] [] [] [] (p0) <| Qc <| su Qa [(9, .i 0)] [] [] [] (p0) <| Qkv (C9 s_ ids a0) Gu (Int.toNat ((k0:Nat):Int)) (K7 s_ a0) (fun k1 s1=> [(8, .s s1),(9, .i ((k1:Nat):Int))]) [8,9] (fun y1=> [(8, .s y1)]) [7,8,9] wf0 (fun k1 s1 hk1 hI1=> ?_) (fun k1 s1 hk1 hI1=> ?_) (fun y1 hD1=> ?_)
  ·
   refine Qc <| su Qa [(26, .b true)] [] [] [] (pe 2 (Qp (decide_eq_true (p:=((k1:Nat):Int)<((k0:Nat):Int)) (by omega))) p0) <| ckT <| Qf <| Qc <| Qu ?_
   have hx3:=ng ids k1;refine sN Qa Zh [1,2,4,5,6,7,8,9,36] [2] (pn 3 hx3 (pc 5 (XF s_ (nth ids k1)) p0)) <| ck ((K7 s_ (nth ids k1)).toList==(K7 s_ a0).toList) (fun h4=> ?_) (fun h4=> ?_)
   ·
    refine qn Qa [1,2,4,5,6,7,8,9] [2] (px (Pe (n:=(ByteArray.size (K7 s_ a0)+ByteArray.size (⟨#[46]⟩:ByteArray))) (by have hq0:ByteArray.size (⟨#[46]⟩:ByteArray)=1:=rfl;unfold maxLen;first | omega | (simp only[ByteArray.size_append];omega))) (pn 4 hx0 (pc 6 (UH a0 (by omega)) (px (Pe (n:=(ByteArray.size ((K7 s_ a0)++(⟨#[46]⟩:ByteArray))+ByteArray.size (Uc a0))) (by have hq0:ByteArray.size (⟨#[46]⟩:ByteArray)=1:=rfl;unfold maxLen;first | omega | (simp only[ByteArray.size_append];omega))) p0)))) ?_;refine qu Qa [(8, .s (((K7 s_ a0)++(⟨#[46]⟩:ByteArray))++(Uc a0))),(9, .i ((k1+1:Nat):Int))] [8,9,26] [] [] (pe 1 (Jh (Ql k1 (by omega))) p0) ?_;exact xw _ (Vi hk1 (Xf h4 (rfl)) hI1)
   refine Qf <| qn Qa [1,2,4,5,6,7,8,9] [2] (pe 1 (Jh (Ql k1 (by omega))) p0) ?_
   exact xw _ (Vi hk1 (Qs h4 (rfl)) hI1)
  ·
   exact Qc <| su Qa [(26, .b false)] [] [] [] (pe 2 (Qp (decide_eq_false (p:=((k1:Nat):Int)<((k0:Nat):Int)) (by omega))) p0) <| ckF <| Q2 <| xw _ (Cw hk1 (rfl) hI1)
  refine wT 5 0 (.own true 147203) s0 (fun hw5 hl6=> ?_);refine ru Qa [(5, .one (.slc (.own true 3072) 1 ((eL s0)++ [[.s y1]])))] [5,8] [] [] (pa s0 [y1] p0) ?_;refine eqn [(5, .o 3072 (s0++ [y1]))] [5] [] [] (by rw[show ((eL s0)++ [[.s y1]])=(eL (s0++ [y1])) from Ks (rfl) (rfl)];first | done | kernel_rfl) ?_;refine rn Qa [1,2,4,5,6] [2] (pe 1 (Jh (Ql k0 (by omega))) p0) ?_;exact Exists.intro (s0++ [y1]) (And.intro (Xl [(3072,147203)] (by kernel_rfl)) ⟨Qr hx0 (Wj hD1 (rfl)) hI0.1,by first | omega | (simp;omega) | simp⟩)
 ·
  have hA0_0:=hI0.2;exact Qc <| sn Qa [1,2,4,5,6,14] [2] (pl 2 ids (pe 3 (Qp (decide_eq_false (p:=((k0:Nat):Int)<(ids.length:Int)) (by omega))) p0)) <| ckF <| Q2 <| Exists.intro _ (And.intro (Xl [(147203,147353)] (by kernel_rfl)) (Xi hk0 (rfl) hI0.1))
 exact sn Qa [4] [] (p0) <| Qg <| po0 [] (Wj hD0 (rfl))
abbrev B2 (s:Qz) (x:Int):ByteArray:=Xk (((Qk s x)).1)
abbrev IF (s:Qz) (x:Int):ByteArray:=(B2 s x++(⟨#[46]⟩:ByteArray))++Uc x
theorem DX (x v:ByteArray) (l:List ByteArray):Qm (x::l) v=((x.toList==v.toList)|| Qm l v):=by
 have h:(x.toList==v.toList)=decide (x=v):=toList_inj;rw[h,Bool.eq_iff_iff,Ae,Bool.or_eq_true,Ae,decide_eq_true_eq,List.mem_cons];exact or_congr eq_comm Iff.rfl
theorem Tj (s:Qz) (ids:List Int) (a:Int) (m:Nat) (hm:m<=ids.length):∀(n k:Nat) (t:ByteArray),k+n=m->Wu (C9 s ids a) Gu n k t= .brk (bif Qm (((ids.take m).drop k).map (B2 s)) (B2 s a) then IF s a else t)
 | 0,k,t,h=>by
   have e:(ids.take m).drop k= []:=List.drop_eq_nil_of_le (by rw[List.length_take];omega);have e2:Qm (List.map (B2 s) []) (B2 s a)=false:=rfl;rw[e,e2];rfl
 | n +1,k,t,h=>by
   have hg:(ids.take m)[k]? =some (nth ids k):=by rw[List.getElem?_take,if_pos (by omega)];exact V7 (by omega)
   rw[Su hg,List.map_cons,DX];simp only[Wu,C9,MV];cases hc:((Xk (((Qk s (nth ids k))).1)).toList==(Xk (((Qk s a)).1)).toList) with
   | true=>
     simp only[cond_true,Bool.true_or];rw[Tj s ids a m hm n (k+1) _ (by omega)];cases Qm _ _<;>rfl
   | false=>
     simp only[cond_false,Bool.false_or];exact Tj s ids a m hm n (k+1) t (by omega)
theorem YT (s:Qz) (ids:List Int):∀(l:List Int) (k:Nat) (t:List ByteArray),ids.drop k=l->∃r,Xp (V3 s) A5 l k ((ids.take k).map (B2 s),t)= .brk r/\Xp (Da s ids) Gv l k t= .brk r
 | [],k,t,_=>⟨t,rfl,rfl⟩
 | a ::l,k,t,hl=>by
   have hk:ids[k]? =some a:=by
    have:=congrArg (·[0]?) hl;simpa using this
   have hkl:k<ids.length:=(List.getElem?_eq_some_iff.1 hk).1;have hrest:ids.drop (k+1)=l:=by rw[←List.drop_drop,hl];rfl
   have hin:=Tj s ids a k (by omega) k 0 (B2 s a) (by omega);rw[List.drop_zero] at hin
   have htake:(ids.take k).map (B2 s)++ [B2 s a]=(ids.take (k+1)).map (B2 s):=by
    rw[List.take_add_one,hk];simp
   simp only[Xp,V3,Da,MV,Int.toNat_natCast];rw[hin];cases hc:Qm ((ids.take k).map (B2 s)) (B2 s a) with
   | true=>
     simp only[cond_true,Out.on];rw[htake];exact YT s ids l (k+1) _ hrest
   | false=>
     simp only[cond_false,Out.on];rw[htake];exact YT s ids l (k+1) _ hrest
theorem XG (s:Qz) (ids:List Int):Ka s ids=Zt s ids:=by
 unfold Ka Zt;obtain ⟨r,h1,h2⟩:=YT s ids ids 0 [] rfl;rw[List.take_zero,List.map_nil] at h1;rw[h1,h2]
theorem Tk (s:Qz):∀(l:List Int) (k:Nat) (b t:List ByteArray),(∀x,x∈l->1<=x/\x<=60)->(∀x,x∈t->x.size<=GoD.size s+25)->∃r,Xp (V3 s) A5 l k (b,t)= .brk r/\r.length=t.length+l.length/\∀x,x∈r->x.size<=GoD.size s+25
 | [],k,b,t,_,h=>⟨t,rfl,rfl,h⟩
 | a ::l,k,b,t,hi,h=>by
   have ha:=hi a (List.mem_cons_self ..);have hb:=Qcw s a;have hn:=Ln (n:=a) (by omega)
   have hl:(IF s a).size<=GoD.size s+25:=by
    have h1:ByteArray.size (⟨#[46]⟩:ByteArray)=1:=rfl;show ((B2 s a++(⟨#[46]⟩:ByteArray))++Uc a).size<=_;rw[ByteArray.size_append,ByteArray.size_append];have h2:(B2 s a).size<=GoD.size s+4:=hb;omega
   have hi':∀x,x∈l->1<=x/\x<=60:=fun x hx=>hi x (List.mem_cons_of_mem _ hx)
   simp only[Xp,V3];cases Qm b (Xk (((Qk s a)).1)) with
   | true=>
     simp only[cond_true]
     obtain ⟨r,h1,h2,h3⟩:=Tk s l (k+1) (b++ [B2 s a]) (t++ [IF s a]) hi' fun x hx=>by
      rcases List.mem_append.1 hx with hx | hx
      . exact h x hx
      obtain rfl:=List.mem_singleton.1 hx;exact hl
     refine ⟨r,h1, ?_,h3⟩;rw[h2,List.length_append,List.length_singleton,List.length_cons];omega
   | false=>
     simp only[cond_false]
     obtain ⟨r,h1,h2,h3⟩:=Tk s l (k+1) (b++ [B2 s a]) (t++ [B2 s a]) hi' fun x hx=>by
      rcases List.mem_append.1 hx with hx | hx
      . exact h x hx
      obtain rfl:=List.mem_singleton.1 hx;have h2:(B2 s a).size<=GoD.size s+4:=hb;omega
     refine ⟨r,h1, ?_,h3⟩;rw[h2,List.length_append,List.length_singleton,List.length_cons];omega
theorem Qf1 {s:Qz} {ids:List Int} (hi:∀x,x∈ids->1<=x/\x<=60):(Zt s ids).length=ids.length/\∀x,x∈Zt s ids->x.size<=GoD.size s+25:=by
 unfold Zt;obtain ⟨r,h1,h2,h3⟩:=Tk s ids 0 [] [] hi fun x hx=>by simp at hx
 rw[h1];exact ⟨by simpa [Out.on] using h2,h3⟩
theorem Rm {α:Type} [GoD α] (l m:List α):GoD.size (l++m)=GoD.size l+GoD.size m:=by
 simp only[Tm,List.length_append,List.map_append,List.sum_append];omega
theorem PM {α:Type} [GoD α] (a:α):GoD.size [a]=1+GoD.size a:=by simp[Tm]
theorem Qf2 {α:Type} [GoD α] [Inhabited α] {l:List α} {i:Nat} (y:α) (hy:GoD.size y<=GoD.size (nth l i)):GoD.size (l.set i y)<=GoD.size l:=by
 by_cases hi:i<l.length
 . have h2:l=l.take i++([nth l i]++l.drop (i+1)):=by
    have:=Su (V7 hi);rw[List.singleton_append,←this,List.take_append_drop]
   have h1:l.set i y=l.take i++([y]++l.drop (i+1)):=by
    rw[List.set_eq_take_append_cons_drop,if_pos hi];rfl
   rw[h1]
   conv=>rhs;rw[h2]
   rw[Rm,Rm,Rm,Rm,PM,PM];omega
 rw[List.set_eq_of_length_le (by omega)];exact Nat.le_refl _
theorem YU (u:Int):∀(l:List Xc) (k:Nat) (t:List Xc),∃r,Xp (Wx u) Wy l k t= .brk r/\GoD.size r<=GoD.size t+GoD.size l
 | [],k,t=>⟨t,rfl,Nat.le_add_right _ _⟩
 | a ::l,k,t=>by
   have e:GoD.size (a::l)=GoD.size [a]+GoD.size l:=Rm [a] l;simp only[Xp,Wx];cases Bf a u with
   | true=>
     simp only[cond_true];obtain ⟨r,h1,h2⟩:=YU u l (k+1) (t++ [Qj a]);refine ⟨r,h1, ?_⟩;rw[Rm,show Qj a=a from rfl] at h2;omega
   | false=>
     simp only[cond_false];obtain ⟨r,h1,h2⟩:=YU u l (k+1) t;exact ⟨r,h1,by omega⟩
theorem YV (s:Qz):∀(l:List Xc) (k:Nat) (t:List Xc),∃r,Xp (V0 s) Hm l k t= .brk r/\GoD.size r<=GoD.size t
 | [],k,t=>⟨t,rfl,Nat.le_refl _⟩
 | a ::l,k,t=>by
   simp only[Xp,V0];cases decide ((Xv (s.1,t,s.2.2) ((nth t k).2.2.2.1))<(0:Int)) with
   | true=>
     simp only[cond_true];obtain ⟨r,h1,h2⟩:=YV s l (k+1) (List.set t k ((nth t k).1,(nth t k).2.1,(nth t k).2.2.1,0,(nth t k).2.2.2.2));exact ⟨r,h1,Nat.le_trans h2 (Qf2 _ (Nat.le_refl _))⟩
   | false=>
     simp only[cond_false];exact YV s l (k+1) t
theorem IG (s:Qz) (u:Int):GoD.size (Xu s u)<=GoD.size s:=by
 unfold Xu;obtain ⟨r,h1,h2⟩:=YU u s.2.1 0 [];rw[h1];simp only[Out.on];obtain ⟨r2,h3,h4⟩:=YV s r 0 r;rw[h3];have e:GoD.size s=GoD.size s.1+(GoD.size s.2.1+0):=rfl;have e2:GoD.size ((s.1,r2,s.2.2):Qz)=GoD.size s.1+(GoD.size r2+0):=rfl;have e3:GoD.size ([]:List Xc)=0:=rfl;show GoD.size ((s.1,r2,s.2.2):Qz)<=_;omega
theorem IH (s:Qz) (d:List Xw) (u:Int) (n:ByteArray):∀x,x∈K5 s d u n->1<=x/\x<=60:=by rw[YI];exact Oo s d u n
theorem Qi9 (s:Qz) (d:List Xw) (u:Int) (n:ByteArray):(Zt (Xu s u) (Z7 s d u n)).length<=12/\∀(k:Nat) (x:ByteArray),(Zt (Xu s u) (Z7 s d u n))[k]? =some x->x.size<=GoD.size s+25:=by
 obtain ⟨h1,h2⟩:=Qf1 (s:=Xu s u) (Oo s d u n);have h3:=DF s d u n;have h4:=IG s u;exact ⟨by omega,fun k x hx=>by have:=h2 x (List.mem_of_getElem? hx);omega⟩
theorem DY {s:Qz} (hs:TxS s):∀(l:List Int) (k:Nat) (b t:List ByteArray),(∀x,x∈l->1<=x/\x<=60)->(∀x,x∈t->x.size<=1025)->∃r,Xp (V3 s) A5 l k (b,t)= .brk r/\∀x,x∈r->x.size<=1025
 | [],k,b,t,_,h=>⟨t,rfl,h⟩
 | a ::l,k,b,t,hi,h=>by
   have ha:=hi a (List.mem_cons_self ..);have hb:=MW hs a;have hn:=Ln (n:=a) (by omega)
   have hl:(IF s a).size<=1025:=by
    have h1:ByteArray.size (⟨#[46]⟩:ByteArray)=1:=rfl;show ((B2 s a++(⟨#[46]⟩:ByteArray))++Uc a).size<=_;rw[ByteArray.size_append,ByteArray.size_append];have h2:(B2 s a).size<=1000:=hb;omega
   have hi':∀x,x∈l->1<=x/\x<=60:=fun x hx=>hi x (List.mem_cons_of_mem _ hx)
   simp only[Xp,V3];cases Qm b (Xk (((Qk s a)).1)) with
   | true=>
     simp only[cond_true]
     exact DY hs l (k+1) (b++ [B2 s a]) (t++ [IF s a]) hi' fun x hx=>by
      rcases List.mem_append.1 hx with hx | hx
      . exact h x hx
      obtain rfl:=List.mem_singleton.1 hx;exact hl
   | false=>
     simp only[cond_false]
     exact DY hs l (k+1) (b++ [B2 s a]) (t++ [B2 s a]) hi' fun x hx=>by
      rcases List.mem_append.1 hx with hx | hx
      . exact h x hx
      obtain rfl:=List.mem_singleton.1 hx;have h2:(B2 s a).size<=1000:=hb;omega
theorem Qcx {s:Qz} (hs:TxS s) (d:List Xw) (u:Int) (n:ByteArray):(Zt (Xu s u) (Z7 s d u n)).length<=12/\∀(k:Nat) (x:ByteArray),(Zt (Xu s u) (Z7 s d u n))[k]? =some x->x.size<=1025:=by
 refine ⟨(Qi9 s d u n).1,fun k x hx=> ?_⟩;have hx:=List.mem_of_getElem? hx;revert hx;unfold Zt;obtain ⟨r,h1,h2⟩:=DY (YS hs u) (Z7 s d u n) 0 [] [] (Oo s d u n) fun x hx=>by simp at hx
 rw[h1];exact h2 x
theorem Qf3 {s:Qz} (hs:TxS s) (d:List Xw) (u:Int) (n:ByteArray):(Ka (Ys s u) (K5 s d u n)).length<=12/\∀(k:Nat) (x:ByteArray),(Ka (Ys s u) (K5 s d u n))[k]? =some x->x.size<=1025:=by
 rw[XG,Rj,YI];exact Qcx hs d u n
open GoE (enc wide)
def F6 (_:Nat) (a0:ByteArray) (s0:ByteArray):Rd (ByteArray) (ByteArray) (ByteArray):=(.next (s0++((⟨#[32]⟩:ByteArray)++a0)))
def Md (_:Nat) (s0:ByteArray):ByteArray:=s0
def U7 (s_:Qz) (d:(List Xw)) (user:Int) (name:ByteArray):ByteArray:=(Out.on (Xp F6 Md (Zt (Xu s_ user) (Z7 s_ d user name)) 0 name) (fun y0=>y0))
theorem HD (s_:Qz) (d:(List Xw)) (user:Int) (name:ByteArray) (hp:TxS s_) (hn:name.size<=1000):ACalls Tryz.prog 79 [.a [.h s_.1, .h s_.2.1, .i s_.2.2], .h d, .i user, .s name] (.s (U7 s_ d user name)):=by
 refine en Qa Tryz.func79 fun w0 F0 hG=> ?_
 refine sn Qa [1,2,3,4,8] [4] (p0) <| tn Qa [1,2,3,4,8,9] [4] (p0) <| Qc <| tU Qa Zh [(8, .s ⟨#[]⟩),(9, .s name),(21, .o 1344 (Zt (Xu s_ user) (Z7 s_ d user name))),(22, .i ((Zt (Xu s_ user) (Z7 s_ d user name)).length:Int)),(23, .i 0)] [0,1,2,3] [] [] (pc 2 (Mo s_ user) (pc 7 (DB s_ d user name) (pc 8 (JF (Xu s_ user) (Z7 s_ d user name) (Oo s_ d user name) (YS hp user)) (pl 9 (Zt (Xu s_ user) (Z7 s_ d user name)) p0)))) <| wT 21 0 (.own true 1344) (Zt (Xu s_ user) (Z7 s_ d user name)) (fun hw1 hl2=> ?_)
 refine XY F6 Md (Zt (Xu s_ user) (Z7 s_ d user name)) name (fun k0 s0=> [(9, .s s0),(23, .i ((k0:Nat):Int))]) [9,23] (fun y0=> [(9, .s y0)]) [9,21,22,23] (fun k0 s0=>ByteArray.size s0<=name.size+300000000*k0) wf0 (by omega) (fun k0 s0 hk0 hI0=> ?_) (fun k0 s0 hk0 hI0=> ?_) (fun y0 hD0=> ?_)
 ·
  have hA0_0:=hI0.2;obtain ⟨a0,hx0⟩:=Xh (l:=Zt (Xu s_ user) (Z7 s_ d user name)) (i:=k0) hk0;have hlo:=Qcx hp d user name;have hxs:=hlo.2 _ _ hx0;have hll:=hlo.1;refine su Qa [(24, .b true)] [] [] [] (pe 0 (Qp (decide_eq_true (p:=((k0:Nat):Int)<((Zt (Xu s_ user) (Z7 s_ d user name)).length:Int)) (by omega))) p0) <| Qc <| ckT <| Qf <| Qc <| Qu <| su Qa [(11, .s a0)] [24] [] [] (pN 0 hx0 p0) <| rn Qa [8,9,21,22,23] [] (px (Pe (n:=(ByteArray.size (⟨#[32]⟩:ByteArray)+ByteArray.size a0)) (by have hq0:ByteArray.size (⟨#[32]⟩:ByteArray)=1:=rfl;unfold maxLen;first | omega | (simp only[ByteArray.size_append];omega))) (px (Pe (n:=(ByteArray.size s0+ByteArray.size ((⟨#[32]⟩:ByteArray)++a0))) (by have hq0:ByteArray.size (⟨#[32]⟩:ByteArray)=1:=rfl;unfold maxLen;first | omega | (simp only[ByteArray.size_append];omega))) p0)) ?_
  refine qn Qa [8,9,21,22,23] [] (pe 0 (Jh (Ql k0 (by omega))) p0) ?_;exact xw (s0++((⟨#[32]⟩:ByteArray)++a0)) ⟨Qr hx0 (rfl) hI0.1,(by have hq:ByteArray.size (⟨#[32]⟩:ByteArray)=1:=rfl;simp only[ByteArray.size_append];omega)⟩
 ·
  have hA0_0:=hI0.2;exact su Qa [(24, .b false)] [] [] [] (pe 0 (Qp (decide_eq_false (p:=((k0:Nat):Int)<((Zt (Xu s_ user) (Z7 s_ d user name)).length:Int)) (by omega))) p0) <| Qc <| ckF <| Q2 <| xw _ (Xi hk0 (rfl) hI0.1)
 exact sn Qa [8] [] (p0) <| Qg <| ps [] (Wj hD0 (rfl))
def Db (s_:Qz) (d:(List Xw)) (user:Int) (_:Nat) (a0:Xw) (s0:(List ByteArray)):Rd ((List ByteArray)) ((List ByteArray)) ((List ByteArray)):=(.next (s0++ [(U7 s_ d user a0.1)]))
def Gw (_:Nat) (s0:(List ByteArray)):(List ByteArray):=s0
def Vr (s_:Qz) (d:(List Xw)) (user:Int):(List ByteArray):=(bif (!(((X6 s_ d user)).2)) then [] else (Out.on (Xp (Db s_ d user) Gw d 0 []) (fun y0=>y0)))
theorem O2 (s_:Qz) (d:(List Xw)) (user:Int):ACalls Tryz.prog 32 [.a [.h s_.1, .h s_.2.1, .i s_.2.2], .h d, .i user] (.o 0 (Vr s_ d user)):=by
 refine en Qa Tryz.func32 fun w0 F0 hG=> ?_
 refine sn Qa [1,2,3,6] [3] (p0) <| Qc <| tn Qa [1,2,3,6,8] [3] (pc 3 (Ik s_ d user) p0) <| tu Qa [(3, .p 3 0),(6, .e 0),(20, .b (!(((X6 s_ d user)).2)))] [0] [(3, [.h s_.1, .h s_.2.1, .i s_.2.2])] [] (p0) <| ck (!(((X6 s_ d user)).2)) (fun h1=> ?_) (fun h1=> ?_)
 ·
  refine su Qa [] [20] [] [] (p0) <| opn [(false,6,0,true,384000,1)] ?_
  exact Qg <| po0 [] (Xf h1 (rfl))
 have h1n:(((X6 s_ d user)).2)=true:=Y3 h1;have hok:=UJ h1n;refine Qf <| sn Qa [1,2,3,6,9] [3] (p0) <| Qc <| tn Qa [1,2,3,6,9,22,23,24] [3] (pl 1 d p0) <| mz [(9, .one (.slc (.own true 1344) 1 [])),(22, .h d),(23, .i (d.length:Int)),(24, .i 0)] [20] [] [] <| wT 1 0 .sh d (fun hw2 hl3=> ?_)
 refine XZ (Db s_ d user) Gw d [] (fun k0 s0=> [(9, .o 147204 s0),(24, .i ((k0:Nat):Int))]) [9,24] (fun _ _=> []) [] (fun y0=> [(9, .o 147354 y0)]) [1,2,3,9,22,23,24] (fun _=> []) [3] (fun k0 s0=>List.length s0<=k0) (Xl [(1344,147204)] (by kernel_rfl)) (by simp) (fun k0 s0 hk0 hI0=> ?_) (fun k0 s0 hk0 hI0=> ?_) (fun y0 hD0=> ?_)
 ·
  have hA0_0:=hI0.2;obtain ⟨a0,hx0⟩:=Xh (l:=d) (i:=k0) hk0;refine su Qa [(25, .b true)] [] [] [] (pe 0 (Qp (decide_eq_true (p:=((k0:Nat):Int)<(d.length:Int)) (by omega))) p0) <| Qc <| ckT <| Qf <| Qc <| Qu <| sn Qa [1,2,3,6,9,11,22,23,24] [3,11] (pn 0 hx0 p0) <| wT 9 0 (.own true 147204) s0 (fun hw4 hl5=> ?_)
  refine qu Qa [(9, .one (.slc (.own true 2304) 1 ((eL s0)++ [[.s (U7 s_ d user a0.1)]])))] [9,25] [] [] (pc 6 (HD s_ d user a0.1 (hok.1) (hok.2 _ (List.mem_of_getElem? hx0))) (pa s0 [(U7 s_ d user a0.1)] p0)) ?_;refine eqn [(9, .o 2304 (s0++ [(U7 s_ d user a0.1)]))] [9] [] [] (by rw[show ((eL s0)++ [[.s (U7 s_ d user a0.1)]])=(eL (s0++ [(U7 s_ d user a0.1)])) from Ks (rfl) (rfl)];first | done | kernel_rfl) ?_;refine rn Qa [1,2,3,6,9,22,23,24] [3] (pe 0 (Jh (Ql k0 (by omega))) p0) ?_;exact Exists.intro (s0++ [(U7 s_ d user a0.1)]) (And.intro (Xl [(2304,147204)] (by kernel_rfl)) ⟨Qr hx0 (rfl) hI0.1,by first | omega | (simp;omega) | simp⟩)
 ·
  have hA0_0:=hI0.2;exact su Qa [(25, .b false)] [] [] [] (pe 0 (Qp (decide_eq_false (p:=((k0:Nat):Int)<(d.length:Int)) (by omega))) p0) <| Qc <| ckF <| Q2 <| Exists.intro _ (And.intro (Xl [(147204,147354)] (by kernel_rfl)) (Xi hk0 (rfl) hI0.1))
 exact sn Qa [6] [] (p0) <| Qg <| po0 [] (Qs h1 (Wj hD0 (rfl)))
def Ia (_:Nat) (a0:ByteArray) (s0:ByteArray):Rd (ByteArray) (ByteArray) (ByteArray):=(.next ((s0++(⟨#[32]⟩:ByteArray))++a0))
def Nb (_:Nat) (s0:ByteArray):ByteArray:=s0
def Aq (s_:Qz) (d:(List Xw)) (u:Int) (name:ByteArray):ByteArray:=(Out.on (Xp Ia Nb (Ka (Ys s_ u) (K5 s_ d u name)) 0 name) (fun y0=>y0))
theorem DZ (s_:Qz) (d:(List Xw)) (u:Int) (name:ByteArray) (hp:TxS s_) (hn:name.size<=1000):ACalls Tryz.prog 60 [.a [.h s_.1, .h s_.2.1, .i s_.2.2], .h d, .i u, .s name] (.s (Aq s_ d u name)):=by
 refine en Qa Tryz.func60 fun w0 F0 hG=> ?_
 refine sn Qa [1,2,3,4,8] [4] (p0) <| tn Qa [1,2,3,4,8,9] [4] (p0) <| tU Qa Zh [(8, .s ⟨#[]⟩),(9, .s name),(10, .o 1344 (Ka (Ys s_ u) (K5 s_ d u name)))] [0,1,2,3] [] [] (pc 2 (Mp s_ u) (pc 7 (DD s_ d u name) (pc 8 (JG (Ys s_ u) (K5 s_ d u name) (IH s_ d u name) (MX hp u)) p0))) <| Qc <| sn Qa [8,9,10,11] [] (p0) <| mz [(11, .i 0)] [] [] [] <| wT 10 0 (.own true 1344) (Ka (Ys s_ u) (K5 s_ d u name)) (fun hw1 hl2=> ?_)
 refine XY Ia Nb (Ka (Ys s_ u) (K5 s_ d u name)) name (fun k0 s0=> [(9, .s s0),(11, .i ((k0:Nat):Int))]) [9,11] (fun y0=> [(9, .s y0)]) [9,10,11] (fun k0 s0=>ByteArray.size s0<=name.size+300000000*k0) wf0 (by omega) (fun k0 s0 hk0 hI0=> ?_) (fun k0 s0 hk0 hI0=> ?_) (fun y0 hD0=> ?_)
 ·
  have hA0_0:=hI0.2;obtain ⟨a0,hx0⟩:=Xh (l:=Ka (Ys s_ u) (K5 s_ d u name)) (i:=k0) hk0;have hlo:=Qf3 hp d u name;have hxs:=hlo.2 _ _ hx0;have hll:=hlo.1;refine Qc <| sn Qa [8,9,10,11,25] [] (pl 2 (Ka (Ys s_ u) (K5 s_ d u name)) (pe 3 (Qp (decide_eq_true (p:=((k0:Nat):Int)<((Ka (Ys s_ u) (K5 s_ d u name)).length:Int)) (by omega))) p0)) <| ckT <| Qf <| Qc <| Qu <| qn Qa [8,9,10,11] [] (px (Pe (n:=(ByteArray.size s0+ByteArray.size (⟨#[32]⟩:ByteArray))) (by have hq0:ByteArray.size (⟨#[32]⟩:ByteArray)=1:=rfl;unfold maxLen;first | omega | (simp only[ByteArray.size_append];omega))) (pN 4 hx0 (px (Pe (n:=(ByteArray.size (s0++(⟨#[32]⟩:ByteArray))+ByteArray.size a0)) (by have hq0:ByteArray.size (⟨#[32]⟩:ByteArray)=1:=rfl;unfold maxLen;first | omega | (simp only[ByteArray.size_append];omega))) p0))) ?_
  refine qu Qa [(9, .s ((s0++(⟨#[32]⟩:ByteArray))++a0)),(11, .i ((k0+1:Nat):Int))] [9,11] [] [] (pe 1 (Jh (Ql k0 (by omega))) p0) ?_;exact xw ((s0++(⟨#[32]⟩:ByteArray))++a0) ⟨Qr hx0 (rfl) hI0.1,(by have hq:ByteArray.size (⟨#[32]⟩:ByteArray)=1:=rfl;simp only[ByteArray.size_append];omega)⟩
 ·
  have hA0_0:=hI0.2;exact Qc <| sn Qa [8,9,10,11,25] [] (pl 2 (Ka (Ys s_ u) (K5 s_ d u name)) (pe 3 (Qp (decide_eq_false (p:=((k0:Nat):Int)<((Ka (Ys s_ u) (K5 s_ d u name)).length:Int)) (by omega))) p0)) <| ckF <| Q2 <| xw _ (Xi hk0 (rfl) hI0.1)
 exact sn Qa [8] [] (p0) <| Qg <| ps [] (Wj hD0 (rfl))
def Dc (s_:Qz) (d:(List Xw)) (u:Int) (_:Nat) (a0:Xw) (s0:(List ByteArray)):Rd ((List ByteArray)) ((List ByteArray)) ((List ByteArray)):=(.next (s0++ [(Aq s_ d u a0.1)]))
def Gx (_:Nat) (s0:(List ByteArray)):(List ByteArray):=s0
def Vs (s_:Qz) (d:(List Xw)) (u:Int):(List ByteArray):=(bif (!(((Zb s_ d u)).2)) then [] else (Out.on (Xp (Dc s_ d u) Gx d 0 []) (fun y0=>y0)))
theorem O3 (s_:Qz) (d:(List Xw)) (u:Int):ACalls Tryz.prog 24 [.a [.h s_.1, .h s_.2.1, .i s_.2.2], .h d, .i u] (.o 0 (Vs s_ d u)):=by
 refine en Qa Tryz.func24 fun w0 F0 hG=> ?_
 refine sn Qa [1,2,3,6] [3] (p0) <| tn Qa [1,2,3,6,7] [3] (p0) <| Qc <| tu Qa [(3, .p 3 0),(6, .e 0),(7, .one (.slc (.own true 704) 1 [])),(9, .b (((Zb s_ d u)).2))] [0] [(3, [.h s_.1, .h s_.2.1, .i s_.2.2])] [] (pc 3 (Il s_ d u) p0) <| sn Qa [1,2,3,6,7,20] [3] (p0) <| ck (!(((Zb s_ d u)).2)) (fun h1=> ?_) (fun h1=> ?_)
 ·
  exact tn Qa [1,2,3,6,7] [3] (p0) <| Qg <| po0 [] (Xf h1 (rfl))
 have h1n:(((Zb s_ d u)).2)=true:=Y3 h1;have hok:=NA h1n;refine Qf <| Qc <| tu Qa [(10, .i 0)] [9] [] [] (p0) <| wT 1 0 .sh d (fun hw2 hl3=> ?_)
 refine XZ (Dc s_ d u) Gx d [] (fun k0 s0=> [(7, .o 147204 s0),(10, .i ((k0:Nat):Int))]) [7,10] (fun _ _=> []) [] (fun y0=> [(7, .o 147354 y0)]) [1,2,3,7,10] (fun _=> []) [3] (fun k0 s0=>List.length s0<=k0) (Xl [(704,147204)] (by kernel_rfl)) (by simp) (fun k0 s0 hk0 hI0=> ?_) (fun k0 s0 hk0 hI0=> ?_) (fun y0 hD0=> ?_)
 ·
  have hA0_0:=hI0.2;obtain ⟨a0,hx0⟩:=Xh (l:=d) (i:=k0) hk0;refine Qc <| su Qa [(25, .b true)] [] [] [] (pl 2 d (pe 3 (Qp (decide_eq_true (p:=((k0:Nat):Int)<(d.length:Int)) (by omega))) p0)) <| ckT <| Qf <| Qc <| Qu <| wT 7 0 (.own true 147204) s0 (fun hw4 hl5=> ?_)
  refine rU Qa Zh [(7, .one (.slc (.own true 2496) 1 ((eL s0)++ [[.s (Aq s_ d u a0.1)]])))] [7,25] [] [] (pn 6 hx0 (pc 9 (DZ s_ d u a0.1 (hok.1) (hok.2 _ (List.mem_of_getElem? hx0))) (pa s0 [(Aq s_ d u a0.1)] p0))) ?_;refine eqn [(7, .o 2496 (s0++ [(Aq s_ d u a0.1)]))] [7] [] [] (by rw[show ((eL s0)++ [[.s (Aq s_ d u a0.1)]])=(eL (s0++ [(Aq s_ d u a0.1)])) from Ks (rfl) (rfl)];first | done | kernel_rfl) ?_;refine rn Qa [1,2,3,6,7,10] [3] (pe 1 (Jh (Ql k0 (by omega))) p0) ?_;exact Exists.intro (s0++ [(Aq s_ d u a0.1)]) (And.intro (Xl [(2496,147204)] (by kernel_rfl)) ⟨Qr hx0 (rfl) hI0.1,by first | omega | (simp;omega) | simp⟩)
 ·
  have hA0_0:=hI0.2;exact Qc <| su Qa [(25, .b false)] [] [] [] (pl 2 d (pe 3 (Qp (decide_eq_false (p:=((k0:Nat):Int)<(d.length:Int)) (by omega))) p0)) <| ckF <| Q2 <| Exists.intro _ (And.intro (Xl [(147204,147354)] (by kernel_rfl)) (Xi hk0 (rfl) hI0.1))
 exact sn Qa [6] [] (p0) <| Qg <| po0 [] (Qs h1 (Wj hD0 (rfl)))
theorem Qja (s:Qz) (d:List Xw) (u:Int) (n:ByteArray):Aq s d u n=U7 s d u n:=by
 unfold Aq U7
 rw[Rj,YI,XG,Dw (f:=Ia) (g:=F6) (e:=Nb) (e':=Md) (fun k a t=>by
  unfold Ia F6;rw[ByteArray.append_assoc]) (fun _ _=>rfl)]
theorem XH (s:Qz) (d:List Xw) (u:Int):Vs s d u=Vr s d u:=by
 unfold Vs Vr
 rw[Td,Dw (f:=Dc s d u) (g:=Db s d u) (e:=Gx) (e':=Gw) (fun k a t=>by
  unfold Dc Db;rw[Qja]) (fun _ _=>rfl)]
open GoE (enc wide)
def Ai (s2_:(List ByteArray)) (k0:Nat) (a0:ByteArray) (_:Unit):Rd (Bool) (Unit) (Unit):=(bif (!(a0.toList==(nth s2_ k0).toList)) then (.ret false) else (.next ()))
def Aj (_:Nat) (_:Unit):Unit:=()
def Ui (s1_:(List ByteArray)) (s2_:(List ByteArray)):Bool:=(bif ((s1_.length:Int) !=(s2_.length:Int)) then false else (Out.on (Xp (Ai s2_) Aj s1_ 0 ()) (fun _=>true)))
theorem Rq (s1_:(List ByteArray)) (s2_:(List ByteArray)):ACalls Tryz.prog 31 [.h s1_, .h s2_] (.b (Ui s1_ s2_)):=by
 refine en Qa Tryz.func31 fun w0 F0 hG=> ?_
 refine sn Qa [0,1,4] [] (p0) <| Qc <| tn Qa [0,1,4,10] [] (pl 1 s1_ (pl 3 s2_ p0)) <| ck ((s1_.length:Int) !=(s2_.length:Int)) (fun h1=> ?_) (fun h1=> ?_)
 ·
  exact tu Qa [(4, .b false)] [] [] [] (p0) <| Qg <| pb [] (Xf h1 (rfl))
 have h1d:=Wt h1;refine Qf <| Qc <| tu Qa [(4, .b false),(12, .i (s1_.length:Int)),(13, .i 0)] [] [] [] (pl 1 s1_ p0) <| wT 0 0 .sh s1_ (fun hw2 hl3=> ?_)
 refine Ox (Ai s2_) Aj s1_ () (fun k0 _=> [(13, .i ((k0:Nat):Int))]) [13] (fun _=> []) [0,1,12,13] wf0 (fun k0 s0 hk0 hI0=> ?_) (fun k0 s0 hk0 hI0=> ?_) (fun y0 hD0=> ?_)
 ·
  obtain ⟨a0,hx0⟩:=Xh (l:=s1_) (i:=k0) hk0;refine su Qa [(14, .b true)] [] [] [] (pe 0 (Qp (decide_eq_true (p:=((k0:Nat):Int)<(s1_.length:Int)) (by omega))) p0) <| Qc <| ckT <| Qf <| Qc <| Qu <| sn Qa [0,1,4,5,12,13] [] (p0) <| wT 1 0 .sh s2_ (fun hw5 hl6=> ?_)
  have hx4:=ng s2_ k0;refine tN Qa Zh [0,1,4,12,13,24] [] (pn 2 hx0 (pn 6 hx4 p0)) <| ck (!(a0.toList==(nth s2_ k0).toList)) (fun h7=> ?_) (fun h7=> ?_)
  ·
   refine tu Qa [] [14] [] [] (p0) <| Qg ?_
   have hr8:(Xp (Ai s2_) Aj s1_ 0 ())= .ret false:=Jg hx0 (Xf h7 (rfl)) hI0;exact pb [] (Qs h1 (Oa hr8))
  refine Qf <| qu Qa [(13, .i ((k0+1:Nat):Int))] [13,14] [] [] (pe 0 (Jh (Ql k0 (by omega))) p0) ?_
  exact xw _ (Qr hx0 (Qs h7 (rfl)) hI0)
 ·
  exact sn Qa [0,1,4,12,13,14] [] (pe 0 (Qp (decide_eq_false (p:=((k0:Nat):Int)<(s1_.length:Int)) (by omega))) p0) <| Qc <| ckF <| Q2 <| xw _ (Xi hk0 (rfl) hI0)
 exact sn Qa [4] [] (p0) <| Qg <| pb [] (Qs h1 (Wj hD0 (rfl)))
def K8 (c:Xq) (user:Int) (x:Hh) (by_:Int):Bool:=(((Qy c by_ x)).2.2&&(Ui (Vr c.1 c.2.1 user) (Vr ((((Qy c by_ x)).1).1.1,(((Qy c by_ x)).1).1.2.1,(((Qy c by_ x)).1).1.2.2) ((((Qy c by_ x)).1).2.1) user)))
theorem Ot (c:Xq) (user:Int) (x:Hh) (by_:Int):ACalls Tryz.prog 10 [.a [.h c.1.1, .h c.1.2.1, .i c.1.2.2, .h c.2.1, .h c.2.2], .i user, .a [.i x.1, .i x.2.1.1, .i x.2.1.2.1, .b x.2.1.2.2.1, .i x.2.1.2.2.2.1, .h x.2.1.2.2.2.2, .i x.2.2.1, .s x.2.2.2.1, .h x.2.2.2.2], .i by_] (.b (K8 c user x by_)):=by
 refine en Qa Tryz.func10 fun w0 F0 hG=> ?_
 refine sn Qa [1,3,4,6,8] [4,6] (p0) <| tn Qa [1,4,8,9,11] [4,9] (pc 3 (YN c by_ x) p0) <| Qc <| mz [(4, .p 4 0),(8, .b false),(9, .p 9 0),(11, .b (((Qy c by_ x)).2.2))] [0,2,3] [(4, [.h c.1.1, .h c.1.2.1, .i c.1.2.2, .h c.2.1, .h c.2.2]),(9, [.o 1024 ((((Qy c by_ x)).1).1.1), .o 1025 ((((Qy c by_ x)).1).1.2.1), .i ((((Qy c by_ x)).1).1.2.2), .o 1026 ((((Qy c by_ x)).1).2.1), .o 1027 ((((Qy c by_ x)).1).2.2)])] [] <| jn [(8, .b (((Qy c by_ x)).2.2&&(Ui (Vr c.1 c.2.1 user) (Vr ((((Qy c by_ x)).1).1.1,(((Qy c by_ x)).1).1.2.1,(((Qy c by_ x)).1).1.2.2) ((((Qy c by_ x)).1).2.1) user))))] [1,4,8,9,11] [] [4,9] (((Qy c by_ x)).2.2) (fun h1=> ?_) (fun h1=> ?_) ?_
 ·
  refine rN Qa Zh [8] [] (pt 0 h1 (pc 7 (O2 c.1 c.2.1 user) (pc 13 (O2 ((((Qy c by_ x)).1).1.1,(((Qy c by_ x)).1).1.2.1,(((Qy c by_ x)).1).1.2.2) ((((Qy c by_ x)).1).2.1) user) (pc 14 (Rq (Vr c.1 c.2.1 user) (Vr ((((Qy c by_ x)).1).1.1,(((Qy c by_ x)).1).1.2.1,(((Qy c by_ x)).1).1.2.2) ((((Qy c by_ x)).1).2.1) user)) p0)))) ?_;exact ⟨rfl,Qd (by rw[h1]<;>kernel_rfl)⟩
 ·
  refine rN Qa Zh [8] [] (pf 0 h1 p0) ?_;exact ⟨rfl,Qd (by rw[h1]<;>kernel_rfl)⟩
 exact Qg <| pb [] (show K8 c user x by_=(((Qy c by_ x)).2.2&&(Ui (Vr c.1 c.2.1 user) (Vr ((((Qy c by_ x)).1).1.1,(((Qy c by_ x)).1).1.2.1,(((Qy c by_ x)).1).1.2.2) ((((Qy c by_ x)).1).2.1) user))) from rfl)
def F7 (b:(List ByteArray)) (k0:Nat) (a0:ByteArray) (_:Unit):Rd (Bool) (Unit) (Unit):=(bif (!(a0.toList==(nth b k0).toList)) then (.ret false) else (.next ()))
def F8 (_:Nat) (_:Unit):Unit:=()
def E5 (a_:(List ByteArray)) (b:(List ByteArray)):Bool:=(bif ((a_.length:Int) !=(b.length:Int)) then false else (Out.on (Xp (F7 b) F8 a_ 0 ()) (fun _=>true)))
theorem HF (a_:(List ByteArray)) (b:(List ByteArray)):ACalls Tryz.prog 23 [.h a_, .h b] (.b (E5 a_ b)):=by
 refine en Qa Tryz.func23 fun w0 F0 hG=> ?_
 refine sn Qa [0,1,4] [] (p0) <| Qc <| tn Qa [0,1,4,10] [] (pl 1 a_ (pl 3 b p0)) <| ck ((a_.length:Int) !=(b.length:Int)) (fun h1=> ?_) (fun h1=> ?_)
 ·
  exact tu Qa [(4, .b false)] [] [] [] (p0) <| Qg <| pb [] (Xf h1 (rfl))
 have h1d:=Wt h1;refine Qf <| Qc <| tu Qa [(4, .b false),(5, .i 0)] [] [] [] (p0) <| wT 0 0 .sh a_ (fun hw2 hl3=> ?_)
 refine Ox (F7 b) F8 a_ () (fun k0 _=> [(5, .i ((k0:Nat):Int))]) [5] (fun _=> []) [0,1,5] wf0 (fun k0 s0 hk0 hI0=> ?_) (fun k0 s0 hk0 hI0=> ?_) (fun y0 hD0=> ?_)
 ·
  obtain ⟨a0,hx0⟩:=Xh (l:=a_) (i:=k0) hk0;refine Qc <| sn Qa [0,1,4,5,14] [] (pl 2 a_ (pe 3 (Qp (decide_eq_true (p:=((k0:Nat):Int)<(a_.length:Int)) (by omega))) p0)) <| ckT <| Qf <| Qc <| Qu <| wT 1 0 .sh b (fun hw5 hl6=> ?_)
  have hx4:=ng b k0;refine tN Qa Zh [0,1,4,5,25] [] (pn 2 hx0 (pn 6 hx4 p0)) <| ck (!(a0.toList==(nth b k0).toList)) (fun h7=> ?_) (fun h7=> ?_)
  ·
   refine tu Qa [] [] [] [] (p0) <| Qg ?_
   have hr8:(Xp (F7 b) F8 a_ 0 ())= .ret false:=Jg hx0 (Xf h7 (rfl)) hI0;exact pb [] (Qs h1 (Oa hr8))
  refine Qf <| qu Qa [(5, .i ((k0+1:Nat):Int))] [5] [] [] (pe 1 (Jh (Ql k0 (by omega))) p0) ?_
  exact xw _ (Qr hx0 (Qs h7 (rfl)) hI0)
 ·
  exact Qc <| sn Qa [0,1,4,5,14] [] (pl 2 a_ (pe 3 (Qp (decide_eq_false (p:=((k0:Nat):Int)<(a_.length:Int)) (by omega))) p0)) <| ckF <| Q2 <| xw _ (Xi hk0 (rfl) hI0)
 exact sn Qa [4] [] (p0) <| Qg <| pb [] (Qs h1 (Wj hD0 (rfl)))
def Ak (l:Xq) (u:Int) (o:Hh) (by_:Int):Bool:=(((Qx l by_ o)).2.2&&(E5 (Vs l.1 l.2.1 u) (Vs ((((Qx l by_ o)).1).1.1,(((Qx l by_ o)).1).1.2.1,(((Qx l by_ o)).1).1.2.2) ((((Qx l by_ o)).1).2.1) u)))
theorem Ou (l:Xq) (u:Int) (o:Hh) (by_:Int):ACalls Tryz.prog 7 [.a [.h l.1.1, .h l.1.2.1, .i l.1.2.2, .h l.2.1, .h l.2.2], .i u, .a [.i o.1, .i o.2.1.1, .i o.2.1.2.1, .b o.2.1.2.2.1, .i o.2.1.2.2.2.1, .h o.2.1.2.2.2.2, .i o.2.2.1, .s o.2.2.2.1, .h o.2.2.2.2], .i by_] (.b (Ak l u o by_)):=by
 refine en Qa Tryz.func7 fun w0 F0 hG=> ?_
 refine sn Qa [1,3,4,6,8] [4,6] (p0) <| tn Qa [1,4,8,9,11] [4,9] (pc 3 (YQ l by_ o) p0) <| Qc <| mz [(4, .p 4 0),(8, .b false),(9, .p 9 0),(11, .b (((Qx l by_ o)).2.2))] [0,2,3] [(4, [.h l.1.1, .h l.1.2.1, .i l.1.2.2, .h l.2.1, .h l.2.2]),(9, [.h ((((Qx l by_ o)).1).1.1), .h ((((Qx l by_ o)).1).1.2.1), .i ((((Qx l by_ o)).1).1.2.2), .h ((((Qx l by_ o)).1).2.1), .h ((((Qx l by_ o)).1).2.2)])] [] <| jn [(8, .b (((Qx l by_ o)).2.2&&(E5 (Vs l.1 l.2.1 u) (Vs ((((Qx l by_ o)).1).1.1,(((Qx l by_ o)).1).1.2.1,(((Qx l by_ o)).1).1.2.2) ((((Qx l by_ o)).1).2.1) u))))] [1,4,8,9,11] [] [4,9] (((Qx l by_ o)).2.2) (fun h1=> ?_) (fun h1=> ?_) ?_
 ·
  refine rN Qa Zh [8] [] (pt 0 h1 (pc 7 (O3 l.1 l.2.1 u) (pc 13 (O3 ((((Qx l by_ o)).1).1.1,(((Qx l by_ o)).1).1.2.1,(((Qx l by_ o)).1).1.2.2) ((((Qx l by_ o)).1).2.1) u) (pc 14 (HF (Vs l.1 l.2.1 u) (Vs ((((Qx l by_ o)).1).1.1,(((Qx l by_ o)).1).1.2.1,(((Qx l by_ o)).1).1.2.2) ((((Qx l by_ o)).1).2.1) u)) p0)))) ?_;exact ⟨rfl,Qd (by rw[h1]<;>kernel_rfl)⟩
 ·
  refine rN Qa Zh [8] [] (pf 0 h1 p0) ?_;exact ⟨rfl,Qd (by rw[h1]<;>kernel_rfl)⟩
 exact Qg <| pb [] (show Ak l u o by_=(((Qx l by_ o)).2.2&&(E5 (Vs l.1 l.2.1 u) (Vs ((((Qx l by_ o)).1).1.1,(((Qx l by_ o)).1).1.2.1,(((Qx l by_ o)).1).1.2.2) ((((Qx l by_ o)).1).2.1) u))) from rfl)
theorem SP (a b:List ByteArray):E5 a b=Ui a b:=by
 unfold E5 Ui;rw[Dw (f:=F7 b) (g:=Ai b) (e:=F8) (e':=Aj) (fun _ _ _=>rfl) (fun _ _=>rfl)]
theorem II (c:Xq) (u:Int) (x:Hh) (w:Int):Ak c u x w=K8 c u x w:=by
 have A:=UZ c w x;unfold Ak K8;rw[A.ok,A.cat,XH,XH,SP]
open GoD (rd own)
open GoE (enc wide)
def szI (t:Nat) (left:Int):Int:=bif decide ((t:Int)<=left) then left-t else-1
theorem Qkj {t:Nat} {left r:Int} (h:szq t left r):r=szI t left:=by
 unfold szq at h;unfold szI;by_cases hc:(t:Int)<=left
 . rw[decide_eq_true hc];simp only[cond_true];omega
 rw[decide_eq_false hc];simp only[cond_false];omega
theorem Qhi (t:Nat) (left:Int):szI t left<0\/(0<=szI t left/\szI t left=left-t/\(t:Int)<=left):=by
 by_cases hc:(t:Int)<=left
 . have:szI t left=left-t:=by unfold szI;rw[decide_eq_true hc];rfl
   omega
 have:szI t left= -1:=by unfold szI;rw[decide_eq_false hc];rfl
 omega
theorem Qkk (t:Nat) {left:Int} (h0:0<=left) (h1:left<=1048576):InR .i64 (szI t left):=by
 rw[O8];unfold I64;by_cases hc:(t:Int)<=left
 . have:szI t left=left-t:=by unfold szI;rw[decide_eq_true hc];rfl
   omega
 have:szI t left= -1:=by unfold szI;rw[decide_eq_false hc];rfl
 omega
section
variable {α:Type} [GoE α] {P:Program} {f:Nat}
theorem EA {F:Nat->Prop} {w:World} {v:Value} {a:α} (h:AR (JJ F) w v (LG a)):∃cs:List Value,v= .agg cs.toArray/\rd w cs a:=by
 obtain ⟨vs,rfl,hr⟩:=h;exact ⟨vs,rfl,GoE.vc_rd (Qh9 hr fun _=>GoE.no_any)⟩
theorem Qcy {F:Nat->Prop} {w:World} {v:Value} {a:α} (h:AR (JJ F) w v (LG a)):wide a:=by
 obtain ⟨vs,rfl,hr⟩:=h;exact GoE.vc_wide (Qh9 hr fun _=>GoE.no_any)
theorem IJ {F:Nat->Prop} {w w':World} {v:Value} {r:AV} (hb:Below w.heap.size w w') (hr:∀J,AR J w' v r):Qhw F w r (.returned v) w':=
 ⟨v,fun _=> [],rfl,hb,fun _=>List.nodup_nil,(fun _ _ h=>by simp at h),(fun _ _ _ h=>by simp at h),hr _⟩
theorem BL (hok:My P f) {a:α} {left:Int} (h0:0<=left) (h1:left<=1048576) (h:∀w (cs:List Value),rd w cs a->Calls P f #[.agg cs.toArray, .int .i64 left] w (Ny w (GoD.size a) left)):ACalls P f [LG a,Qia left] (Qia (szI (GoD.size a) left)):=by
 refine ⟨hok,fun w _ F vals hF hall=> ?_⟩;cases hall with
 | cons h2 h3=>cases h3 with
   | cons h3 h4=>
     cases h4
     obtain ⟨cs,rfl,hr⟩:=EA h2;obtain ⟨rfl,_⟩:=h3;refine (h w cs hr).mono ?_
     rintro e w' ⟨r,rfl,hq,hb⟩
     exact IJ hb fun J=>⟨by rw[Qkj hq],Qkk _ h0 h1⟩
theorem BM (hok:My P f) {a b:α} (he:a=b) (h:∀w (ca cb:List Value),rd w ca a->rd w cb b->Calls P f #[.agg ca.toArray, .agg cb.toArray] w (Ret w (.bool (eqb a b)))):ACalls P f [LG a,LG b] (Qeb true):=by
 refine ⟨hok,fun w _ F vals hF hall=> ?_⟩;cases hall with
 | cons h2 h3=>cases h3 with
   | cons h3 h4=>
     cases h4
     obtain ⟨ca,rfl,ha⟩:=EA h2;obtain ⟨cb,rfl,hcb⟩:=EA h3;refine (h w ca cb ha hcb).mono ?_
     rintro e w' ⟨rfl,hb⟩
     subst he;exact IJ hb fun J=>by rw[Qeq];rfl
end
theorem SQ {w:World}:∀{ps:List PV} {vs:List Value} {L:List Nat} (k:Nat),OC w L vs ps->L.Nodup->∃Lf:Nat->List Nat,(∀J:Inj,(∀j,k<=j->J.L j=Lf j)->All2 (CR J w) vs (owC k ps))/\(∀j,(Lf j).Nodup)/\(∀j b,b∈Lf j->b∈L)/\∀i j b,b∈Lf i->b∈Lf j->i=j
 | [],vs,L,k,h,hn=>by
   cases h
   exact ⟨fun _=> [],fun _ _=> .nil,fun _=>List.nodup_nil,fun _ _ h=>by simp at h,fun _ _ _ h=>by simp at h⟩
 | p :: ps,vs,L,k,h,hn=>by
   cases h with
   | @cons L1 L2 v p vs ps h1 h2=>
     obtain ⟨n1,n2,n3⟩:=List.nodup_append.1 hn;cases p with
     | int a b=>
       obtain ⟨Lf,q1,q2,q3,q4⟩:=SQ k h2 n2;exact ⟨Lf,fun J hJ=> .cons (by cases h1;exact ⟨rfl,‹_›⟩) (q1 J hJ),q2,fun j b hb=>List.mem_append_right _ (q3 j b hb),q4⟩
     | bool b=>
       obtain ⟨Lf,q1,q2,q3,q4⟩:=SQ k h2 n2;exact ⟨Lf,fun J hJ=> .cons (by cases h1;rfl) (q1 J hJ),q2,fun j b hb=>List.mem_append_right _ (q3 j b hb),q4⟩
     | str s=>
       obtain ⟨Lf,q1,q2,q3,q4⟩:=SQ k h2 n2;exact ⟨Lf,fun J hJ=> .cons (by cases h1;exact ⟨rfl,‹_›⟩) (q1 J hJ),q2,fun j b hb=>List.mem_append_right _ (q3 j b hb),q4⟩
     | any=>
       obtain ⟨Lf,q1,q2,q3,q4⟩:=SQ k h2 n2;exact ⟨Lf,fun J hJ=> .cons trivial (q1 J hJ),q2,fun j b hb=>List.mem_append_right _ (q3 j b hb),q4⟩
     | slc n l=>
       obtain ⟨Lf,q1,q2,q3,q4⟩:=SQ (k+1) h2 n2;refine ⟨fun j=>if j=k then L1 else if k<j then Lf j else [],fun J hJ=> .cons ?_ (q1 J fun j hj=> ?_),fun j=> ?_,fun j b hb=> ?_,fun i j b hi hj=> ?_⟩
       . show OwnDeep (J.L k) w v n l;have e:J.L k=L1:=(hJ k (Nat.le_refl _)).trans (if_pos rfl);rw[e];exact .of h1 n1
       . exact (hJ j (by omega)).trans ((if_neg (by omega)).trans (if_pos (by omega)))
       . show (if j=k then L1 else if k<j then Lf j else []).Nodup;split
         . exact n1
         split
         . exact q2 j
         exact List.nodup_nil
       . have hb:b∈(if j=k then L1 else if k<j then Lf j else []):=hb;split at hb
         . exact List.mem_append_left _ hb
         split at hb
         . exact List.mem_append_right _ (q3 j b hb)
         simp at hb
       have hi:b∈(if i=k then L1 else if k<i then Lf i else []):=hi;have hj:b∈(if j=k then L1 else if k<j then Lf j else []):=hj;split at hi<;>split at hj
       . omega
       . split at hj
         . exact (n3 b hi b (q3 j b hj) rfl).elim
         simp at hj
       . split at hi
         . exact (n3 b hj b (q3 i b hi) rfl).elim
         simp at hi
       split at hi
       . split at hj
         . exact q4 i j b hi hj
         simp at hj
       simp at hi
section
variable {α:Type} [GoE α] {P:Program} {f:Nat}
theorem BN (hok:My P f) {a:α} (h:∀w (cs:List Value),rd w cs a->Calls P f #[.agg cs.toArray] w (RetA w a)):ACalls P f [LG a] (Qla a):=by
 refine ⟨hok,fun w _ F vals hF hall=> ?_⟩;cases hall with
 | cons h2 h3=>
   cases h3
   have hw:=Qcy h2;obtain ⟨cs,rfl,hr⟩:=EA h2;refine (h w cs hr).mono ?_
   rintro e w' ⟨cs',L,rfl,hb,ho,hL⟩
   have hlt:=GoD.own_lt ho;obtain ⟨Lf,q1,q2,q3,q4⟩:=SQ 0 (GoE.own_oc ho hw) (GoD.own_nd ho);exact ⟨_,Lf,rfl,hb,q2,fun k b hk=>⟨hL b (q3 k b hk),hlt b (q3 k b hk)⟩,q4,cs',rfl,q1 _ fun _ _=>rfl⟩
end
section
variable {P:Program} {N:Nat} {w0:Base} {F0:Nat->Prop} {J:Inj} {a:Act} {w w':World} {s:St}
theorem Rel.mark (h:Rel N w0 F0 J a w s) (ks:List Nat) {L:List Nat} (hL:∀b,b∈L->∃k,k∈ks/\b∈J.L k) (hc:Chg L w w') (d:Nat) (hd:d<N) (n:Int) (hn:InR .i64 n) (bx:Option (Nat×List C))
 (hb:∀k c,bx=some (k,c)->∃c0,get s.bx k=some c0/\∃arr e,w.heap[J.B k]? =some (.cells arr e (0,0))/\∀J':Inj,(∀b,J'.F b↔J.F b\/b∈L)->All2 (CR J' w') arr.toList c):
 ∃J',(∀b,J'.F b↔J.F b\/b∈L)/\(∀k,J'.B k=J.B k)/\Rel N w0 F0 J' (a.put (some d) (.int .i64 n)) w' (s.step (some d) ⟨.one (.int .i64 n),Wr ks,none,bx⟩):=by
 let J':Inj:=⟨fun b=>J.F b\/b∈L,fun k=>if k∈ks then [] else J.L k,J.B⟩
 have hlo:∀b,b∈L->w0.lo (b)/\b<w.heap.size/\¬J.F b:=fun b hb=>by
  obtain ⟨k,_,hm⟩:=hL b hb;exact h.lo k b hm
 have hun:∀b,b<w.heap.size->b∉L->w'.heap[b]? =w.heap[b]? :=hc.block
 have hJL:∀k b,b∈J'.L k->k∉ks/\b∈J.L k:=fun k b hm=>by
  have hm:b∈(if k∈ks then [] else J.L k):=hm;split at hm
  . simp at hm
  rename_i hk;exact ⟨hk,hm⟩
 have hout:∀k b,k∉ks->b∈J.L k->b∉L:=fun k b hk hm hl=>by
  obtain ⟨k',hk',hm'⟩:=hL b hl;exact hk (h.dj k k' b hm hm'▸hk')
 have hboxL:∀k c,get s.bx k=some c->J.B k∉L:=fun k c hk hl=>by
  obtain ⟨k',_,hm⟩:=hL _ hl;exact (h.bo k c hk).2.2.1 k' hm
 refine ⟨J',fun b=>Iff.rfl,fun _=>rfl, ?_⟩;refine h.upd (w':=w') (J':=J') (some d) (fun d' e=>by cases e;exact hd) _ _ (h.below.step hc.os hc.tape hc.output hc.size fun b hb hnl=>hun b hb fun hl=>hnl (hlo b hl).1) ?_ ?_ (fun _=>⟨rfl,hn⟩) ?_ ?_
 . constructor
   . exact fun b hb=>⟨.inl hb,hun b (h.fl b hb).1 fun hl=>(hlo b hl).2.2 hb⟩
   . intro k hk;rw[Bb] at hk;split at hk
     . cases hk
     rename_i hn;exact ⟨if_neg hn,fun b hb=>hun b (h.lo k b hb).2.1 (hout k b hn hb)⟩
   . intro k hk;rw[Bb] at hk;split at hk<;>cases hk
   . intro k k' hk;rw[Bb] at hk;split at hk<;>cases hk
   . intro k t hk;rw[Bb] at hk;split at hk<;>cases hk
   . exact fun _ _=>rfl
   intro k d m i o cs hk;rw[Bb] at hk;split at hk<;>cases hk
 . constructor
   . intro b hb;rcases hb with hb | hb
     . exact ⟨Nat.lt_of_lt_of_le (h.fl b hb).1 hc.size,(h.fl b hb).2⟩
     exact ⟨Nat.lt_of_lt_of_le (hlo b hb).2.1 hc.size, .inr (hlo b hb).1⟩
   . exact fun b hb=> .inl (h.f0 b hb)
   . intro k;show (if _ then _ else _:List Nat).Nodup;split
     . exact List.nodup_nil
     exact h.nd k
   . intro k b hm;obtain ⟨hk,hm⟩:=hJL k b hm;obtain ⟨h1,h2,h3⟩:=h.lo k b hm;exact ⟨h1,Nat.lt_of_lt_of_le h2 hc.size,fun hF=>hF.elim h3 (hout k b hk hm)⟩
   intro k k' b hm hm';exact h.dj k k' b (hJL k b hm).2 (hJL k' b hm').2
 . intro k c hk _;obtain ⟨h1,h2,h3,arr,e,h4,_⟩:=h.bo k c hk;refine ⟨by simp,fun hF=>hF.elim h2 (hboxL k c hk),fun k' hm=>h3 k' (hJL k' _ hm).2,hun _ ?_ (hboxL k c hk)⟩;exact Xn h4
 intro k c hk;obtain ⟨c0,hg,arr,e,hh,hall⟩:=hb k c hk;obtain ⟨h1,h2,h3,arr',e',h4,_⟩:=h.bo k c0 hg;have hlt:J.B k<w.heap.size:=Xn h4;exact ⟨h1,fun hF=>hF.elim h2 (hboxL k c0 hg),fun k' hm=>h3 k' (hJL k' _ hm).2,⟨arr,e,(hun _ hlt (hboxL k c0 hg)).trans hh,hall J' fun _=>Iff.rfl⟩,fun k' c' hk' hne e=>hne (h.bi k' k c' c0 hk' hg e)⟩
end
class GoM (α:Type) [GoE α]:Prop where
 mkw:∀{a:α} {k:Nat},wide a->wide (GoD.mark a k).1
 mkT:∀{a:α} {k:Nat},wide a->wide (GoD.markT a k).1
instance:GoM Int:=⟨fun _=>trivial,fun _=>trivial⟩
instance:GoM Bool:=⟨fun _=>trivial,fun _=>trivial⟩
instance:GoM ByteArray:=⟨fun _=>trivial,fun _=>trivial⟩
instance {α β:Type} [GoE α] [GoE β] [GoM α] [GoM β]:GoM (α×β):=⟨fun h=>⟨GoM.mkw h.1,GoM.mkw h.2⟩,fun h=>⟨GoM.mkT h.1,GoM.mkT h.2⟩⟩
theorem YW {α:Type} [GoE α] [GoM α]:∀{l:List α} {k:Nat},(∀a,a∈l->wide a)->∀a,a∈(Sd l k).1->wide a
 | [],k,_,a,ha=>by simp[Sd] at ha
 | x::l,k,h,a,ha=>by
   simp only[Sd,List.mem_cons] at ha;rcases ha with rfl | ha
   . exact GoM.mkw (h x List.mem_cons_self)
   exact YW (fun a ha=>h a (List.mem_cons_of_mem _ ha)) a ha
instance {α:Type} [GoE α] [GoM α]:GoM (List α):=⟨fun {l k} h=>⟨by rw[show (GoD.mark l k).1=(Sd l k).1 from rfl,T3];exact h.1,YW h.2⟩,fun {l k} h=>⟨by rw[show (GoD.markT l k).1=(Sd l k).1 from rfl,T3];exact h.1,YW h.2⟩⟩
section
variable {P:Program} {N:Nat} {w0:Base} {F0:Nat->Prop} {s s':St} {Q:Exit->St->Prop}
end
end Go.Proofs.YtkekndahbiefaaaGreatDoor
