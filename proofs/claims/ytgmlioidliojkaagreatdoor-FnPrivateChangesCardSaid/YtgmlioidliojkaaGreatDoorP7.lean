/- Texts of this proof, put together by a program: Dra, Drs, Drd, Cha, Ckh, Chb, Ica, Icb, Iza, Isw, Ise, Pcb, LPc, Pcl, MPc. -/
import Derived.Test.YtgmlioidliojkaaGreatDoorP6
import Derived.KernelRfl
import Derived.Outline
set_option linter.unusedVariables false
set_option linter.unusedSimpArgs false
namespace Go.Proofs.YtgmlioidliojkaaGreatDoor
open _root_.And renaming intro → zL
open _root_.Bool renaming not_true → zN, and_eq_true → zO, not_false → zS, false_and → yB
open _root_.Exists renaming intro → zI
open _root_.Int renaming toNat → zR
open _root_.List renaming length → zF, set → zG, take → zH, filter_cons_of_neg → zJ, length_nil → zK, length_cons → zM, length_append → zP, drop → zQ, mem_append_right → zT, mem_append_left → zU, mem_flatMap → zW, filter_cons_of_pos → zX, mem_map → zY, length_set → zZ, getElem?_eq_none → yA, map_id → yE
open _root_.Nat renaming le_of_ble_eq_true → zD, zero_lt_succ → zE, le_trans → yC, zero_add → yD
open _root_.Prod renaming ext → zV
open Go.RowKit
open GoE (enc wide)
def Zi (Y:List UInt8) (ci:Nat) (ch:Int) (n:Int):Bool×Nat×Int:=(lt (Ql Y ci ch n) (λx1=>((x1.1==(0:Int)),x1.2.1,x1.2.2)))
theorem Vg (Y:List UInt8) (ci:Nat) (ch:Int) (n:Int):AGive Tryz.prog 33 [.h Y,.i ((ci:Nat):Int),.i ch] [.i n] (.b (((Zi Y ci ch n)).1)) [.h Y,.i ((((Zi Y ci ch n)).2.1:Nat):Int),.i (((Zi Y ci ch n)).2.2)]:=by
 refine V3 (tt:=tt) Qb Tryz.func33 (fn:=Tryz.f33) rfl (by unfold E9;kernel_rfl) (zD rfl) (zD rfl) rfl rfl λw0 F0 hG=> ?_
 refine sn Qb [0,1,4] [60000] p0 ?_;obtain ⟨x1,hx1⟩:=nm (Ql Y ci ch n);have hbx1:=hx1▸Q7 Y ci ch n;refine tn Qb [0,4] [60000] (po 2 (.give none (.i x1.1) [.h Y,.i (x1.2.1:Int),.i x1.2.2]) (px (Xk (hx1▸Xy Y ci ch n)) p0)) <| Qe ?_
 have hE2:Zi Y ci ch n=((x1.1==(0:Int)),x1.2.1,x1.2.2):=Zt hx1 (rfl);exact B9 [] (congrArg (λz=>(.b z.1:AV)) hE2.symm) (congrArg (λz=>([.h Y,.i (z.2.1:Int),.i z.2.2]:List C)) hE2.symm)
def Zc (n:Int):B3:=(1,n,⟨#[]⟩)
theorem C4 (n:Int):ACalls Tryz.prog 87 [.i n] (.a [.i ((Zc n).1),.i ((Zc n).2.1),.s ((Zc n).2.2)]):=by
 refine en Qb Tryz.func87 λw0 F0 hG=> ?_
 exact sn Qb [0,2] [2] p0 <| tn Qb [2] [2] p0 <| Qe <| pz [] (show Zc n=(1,n,⟨#[]⟩) from rfl) (λz=> .a [.i z.1,.i z.2.1,.s z.2.2])
def L5 (name:ByteArray) (_:Nat) (a0:Bl) (s0:List Bl):Rd (Xe) (List Bl) (List Bl):=(bif (!(a0.1.toList==name.toList)) then (.next (s0++ [a0])) else (.next s0))
def C5 (_:Nat) (s0:List Bl):(List Bl):=s0
def C6 (name:ByteArray) (k1:Nat) (a1:Bl) (_:Unit):Rd (Xe) (Unit) (Int):=(bif (Op.bytesLess a1.1.toList name.toList|| a1.1.toList==name.toList) then (.next ()) else (.brk (k1:Int)))
def L6 (k1:Nat) (_:Unit):Int:=(k1:Int)
def Yh (f:Xe) (name:ByteArray) (v:B3):Xe:=(Out.on (Xz (L5 name) C5 f.2.2.2.2 0 []) (λy0=>(bif (v.1 !=(0:Int)) then (Out.on (Xz (C6 name) L6 y0 0 ()) (λy1=>(f.1,f.2.1,f.2.2.1,f.2.2.2.1,zH y1.toNat y0++ [(name,v)]++(zQ y1.toNat y0)))) else (f.1,f.2.1,f.2.2.1,f.2.2.2.1,y0))))
theorem NE (f:Xe) (name:ByteArray) (v:B3):zF (Yh f name v).2.2.2.2<=zF f.2.2.2.2+1:=by
 unfold Yh;rw[U2 (f:=L5 name) (e:=C5) (p:=λa=> !(a.1.toList==name.toList)) (g:=id) (λ_ _ _=>rfl)];simp only[Out.on,C5,List.nil_append,yE];have hf:=List.length_filter_le (λa:Bl=> !(a.1.toList==name.toList)) f.2.2.2.2;generalize List.filter (λa:Bl=> !(a.1.toList==name.toList)) f.2.2.2.2=l at hf;cases (v.1 !=(0:Int)) with
 | false=>exact Nat.le_succ_of_le hf
 | true=>
   simp only[cond_true]
   obtain ⟨t,ht⟩:=KV (f:=C6 name) (e:=L6) (λk a s r=>by
    unfold C6;generalize (Op.bytesLess a.1.toList name.toList|| a.1.toList==name.toList)=c;cases c<;>simp) l 0 ()
   rw[ht]
   . show (zH t.toNat l++ [(name,v)]++zQ t.toNat l).length<=_;simp;omega
theorem BQ {c:Bool} {α:Type} {t:α} {F:Xe} {nm:ByteArray} {V:α->B3} {A:α->Nat×Int} {B:Nat×Int}:zF (bif c then lt t (λx=>(Yh F nm (V x),A x)) else (F,B)).1.2.2.2.2<=F.2.2.2.2.length+1:=by
 cases c with
 | true=>exact NE _ _ _
 | false=>exact Nat.le_succ _
theorem Ix (f:Xe) (name:ByteArray) (v:B3) (hp:zF f.2.2.2.2<=1073741000):ACalls Tryz.prog 86 [.a [.i f.1,.i f.2.1,.b f.2.2.1,.i f.2.2.2.1,.h f.2.2.2.2],.s name,.a [.i v.1,.i v.2.1,.s v.2.2]] (.a [.i ((Yh f name v).1),.i ((Yh f name v).2.1),.b ((Yh f name v).2.2.1),.i ((Yh f name v).2.2.2.1),.o 0 ((Yh f name v).2.2.2.2)]):=by
 refine en Qb Tryz.func86 λw0 F0 hG=> ?_
 refine sn Qb [1,3,5,6] [3,5,6] p0 <| tn Qb [1,3,5,6,7] [3,5,6] p0 <| Qc <| tu Qb [(3,.p 3 0),(5,.p 5 0),(6,.p 6 0),(7,.one (.slc (.own true 704) 4 [])),(8,.i 0)] [0,2] [(3, [.i f.1,.i f.2.1,.b f.2.2.1,.i f.2.2.2.1,.h f.2.2.2.2]),(5, [.i v.1,.i v.2.1,.s v.2.2]),(6, [.i 0,.i 0,.b false,.i 0,.e 4])] [] p0 <| wB 3 4 .sh f.2.2.2.2 (λhw1 hl2=> ?_)
 refine Qbq (L5 name) C5 f.2.2.2.2 [] (λk0 s0=> [(7,.o 147204 s0),(8,.i (k0:Int))]) [7,8] (λy0=> [(7,.o 147354 y0)]) [7,8] (λk0 s0=>zF s0<=k0) (λy0=>zF y0<=zF f.2.2.2.2) (Xg [(704,147204)] (by kernel_rfl)) (by simp) (λk0 s0 hk0 U=> ?_) (λk0 s0 hk0 U=> ?_) (λy0 hD0=> ?_)
 ·have hA0_0:=U.2;obtain ⟨a0,hx0⟩:=Xm (l:=f.2.2.2.2) (i:=k0) hk0;refine Qc <| su Qb [(16,.b true)] [] [] [] (pl 3 f.2.2.2.2 (pe 4 (zB ((k0:Int)<(f.2.2.2.2.length:Int))) p0)) <| ckT <| Qg <| Qc <| Qv <| sn Qb [1,3,5,6,7,8,26] [3,5,6] (pn 3 hx0 p0) <| ck (!(a0.1.toList==name.toList)) (λh3=> ?_) (λh3=> ?_)
  ·refine wT 7 0 (.own true 147204) s0 (λhw4 hl5=> ?_);refine qu Qb [(7,.one (.slc (.own true 2176) 4 ((eL s0)++ [[.s a0.1,.i a0.2.1,.i a0.2.2.1,.s a0.2.2.2]])))] [7,16] [] [] (pn 4 hx0 (pa s0 [a0] p0)) ?_;refine eqn [(7,.o 2176 (s0++ [a0]))] [7] [] [] (by rw[show ((eL s0)++ [[.s a0.1,.i a0.2.1,.i a0.2.2.1,.s a0.2.2.2]])=(eL (s0++ [a0])) from Ju (rfl) (rfl)];first | done | kernel_rfl) ?_;refine rn Qb [1,3,5,6,7,8] [3,5,6] (pe 1 (Jl (Qo k0 (by omega))) p0) ?_;exact zI (s0++ [a0]) (zL (Xg [(2176,147204)] (by kernel_rfl)) ⟨Qt hx0 (Q4 h3 (rfl)) U.1,by first|omega|(simp;omega) | simp⟩)
  refine Qg <| qn Qb [1,3,5,6,7,8] [3,5,6] (pe 1 (Jl (Qo k0 (by omega))) p0) ?_
  exact xw s0 ⟨Qt hx0 (Qi h3 (rfl)) U.1,by first|omega|(simp;omega) | simp⟩
 ·have hA0_0:=U.2;exact Qc <| su Qb [(16,.b false)] [] [] [] (pl 3 f.2.2.2.2 (pe 4 (zC ((k0:Int)<(f.2.2.2.2.length:Int))) p0)) <| ckF <| Q3 <| zI s0 (zL (Xg [(147204,147354)] (by kernel_rfl)) ⟨Xn hk0 (rfl) U.1,by first|omega|(simp only[zZ];omega)⟩)
 have hD0_0:=hD0.2;refine Qc <| sn Qb [1,3,5,6,7,37] [3,5,6] p0 <| ck (v.1 !=(0:Int)) (λh6=> ?_) (λh6=> ?_)
 ·have h6d:=Sq h6;refine tu Qb [(9,.i 0)] [] [] [] p0 <| Qc <| wT 7 0 (.own true 147354) y0 (λhw7 hl8=> ?_)
  refine Qmy (C6 name) L6 y0 () (λk1 _=> [(9,.i (k1:Int))]) [9] (λy1=> [(9,.i y1)]) [9] (λy1=>0<=y1/\y1<=(y0.length:Int)) wf0 (λk1 s1 hk1 hI1=> ?_) (λk1 s1 hk1 hI1=> ?_) (λy1 hD1=> ?_)
  ·obtain ⟨a1,hx1⟩:=Xm (l:=y0) (i:=k1) hk1;refine Qc <| sn Qb [1,3,5,6,7,9,50] [3,5,6] (pl 2 y0 (pe 3 (zB ((k1:Int)<(y0.length:Int))) (pN 7 hx1 p0))) <| ck (Op.bytesLess a1.1.toList name.toList|| a1.1.toList==name.toList) (λh9=> ?_) (λh9=> ?_)
   ·refine Qg <| Qv <| qn Qb [1,3,5,6,7,9] [3,5,6] (pe 1 (Jl (Qo k1 (by omega))) p0) ?_
    exact xw _ (Qt hx1 (Q4 h9 (rfl)) hI1)
   exact Q3 <| xw (k1:Int) ⟨EY hx1 (Qi h9 (rfl)) hI1,by first|omega|(simp only[zZ];omega)⟩
  ·exact Qc <| su Qb [(50,.b false)] [] [] [] (pl 2 y0 (pe 3 (zC ((k1:Int)<(y0.length:Int))) p0)) <| ckF <| Q3 <| xw (k1:Int) ⟨Xn hk1 (rfl) hI1,by first|omega|(simp only[zZ];omega)⟩
  have hD1_0:=hD1.2;have hl10:zF (zH y1.toNat y0)<=1073741824:=Gz (HO y1.toNat (hw7));refine sU Qb Zg [(10,.one (.slc (.own true 3968) 4 (([]++(eL (zH y1.toNat y0)))++ [[.s name,.i v.1,.i v.2.1,.s v.2.2]])))] [1,5] [] [5] (pe 3 (KB (.vw 147354) 4 y1.toNat y1 y0 rfl) (px (Ph (lo:=0) (hi:=y1) (n:=(zF (eL y0))) (IT (by omega) (by omega) (by omega))) (po 4 (.flat) (px (Ey (n:=(([]:List (List PV)).length+((eL (zH y1.toNat y0)):List (List PV)).length)) (G0 (rfl) (Zu (zH y1.toNat y0)) (by first|omega|(simp only[zM,zK];omega) | (simp;omega) | simp))) (px (Cp (B8 (zH y1.toNat y0))) (px (Ey (n:=((([]++(eL (zH y1.toNat y0))):List (List PV)).length+([[.s name,.i v.1,.i v.2.1,.s v.2.2]]:List (List PV)).length)) (by simp[Zu];omega)) p0)))))) <| eqn [(10,.o 3968 (zH y1.toNat y0++ [(name,v)]))] [10] [] [] (by rw[show (([]++(eL (zH y1.toNat y0)))++ [[.s name,.i v.1,.i v.2.1,.s v.2.2]])=(eL (zH y1.toNat y0++ [(name,v)])) from Ju (rfl) (rfl)];first | done | kernel_rfl) ?_
  refine wT 10 0 (.own true 3968) (zH y1.toNat y0++ [(name,v)]) (λhw11 hl12=> ?_);have hl13:zF (zQ y1.toNat y0)<=1073741824:=Gz (HP y1.toNat (hw7));refine ru Qb [(7,.one (.slc (.own true 4288) 4 ((eL (zH y1.toNat y0++ [(name,v)]))++(eL (zQ y1.toNat y0)))))] [7,9,10] [] [] (pe 3 (OP (.vw 147354) 4 y1.toNat y1 y0 rfl) (px (Ph (lo:=y1) (hi:=(((eL y0):List (List PV)).length:Int)) (n:=(zF (eL y0))) (OQ (by omega) (by omega))) (po 4 (.flat) (pa (zH y1.toNat y0++ [(name,v)]) (zQ y1.toNat y0) (px (Cp (B8 (zQ y1.toNat y0))) p0))))) ?_;refine eqn [(7,.o 4288 (zH y1.toNat y0++ [(name,v)]++(zQ y1.toNat y0)))] [7] [] [] (by rw[show ((eL (zH y1.toNat y0++ [(name,v)]))++(eL (zQ y1.toNat y0)))=(eL (zH y1.toNat y0++ [(name,v)]++(zQ y1.toNat y0))) from Ju (rfl) (rfl)];first | done | kernel_rfl) ?_;exact sn Qb [3,6] [3,6] p0 <| tn Qb [6] [6] p0 <| Qe <| pz [] (show Yh f name v=_ from Wk hD0.1 (Q4 h6 (Wk hD1.1 (rfl)))) (λz=> .a [.i z.1,.i z.2.1,.b z.2.2.1,.i z.2.2.2.1,.o 0 z.2.2.2.2])
 exact Qg <| tn Qb [3,6] [3,6] p0 <| tu Qb [] [1,3,5,7] [(6, [.i f.1,.i f.2.1,.b f.2.2.1,.i f.2.2.2.1,.o 147354 y0])] [3,5,6] p0 <| Qe <| pz [] (show Yh f name v=_ from Wk hD0.1 (Qi h6 (rfl))) (λz=> .a [.i z.1,.i z.2.1,.b z.2.2.1,.i z.2.2.2.1,.o 0 z.2.2.2.2])
def X2 (Y:List UInt8) (ci:Nat) (ch:Int) (list:Z):ByteArray×Nat×Int:=(lt (Ql Y ci ch (list.length:Int)) (λx1=>((nth list x1.1.toNat),x1.2.1,x1.2.2)))
theorem Vh (Y:List UInt8) (ci:Nat) (ch:Int) (list:Z) (hp:0<zF list):AGive Tryz.prog 40 [.h Y,.i ((ci:Nat):Int),.i ch] [.h list] (.s (((X2 Y ci ch list)).1)) [.h Y,.i ((((X2 Y ci ch list)).2.1:Nat):Int),.i (((X2 Y ci ch list)).2.2)]:=by
 refine V3 (tt:=tt) Qb Tryz.func40 (fn:=Tryz.f40) rfl (by unfold E9;kernel_rfl) (zD rfl) (zD rfl) rfl rfl λw0 F0 hG=> ?_
 refine sn Qb [0,1,4] [60000] p0 ?_;obtain ⟨x1,hx1⟩:=nm (Ql Y ci ch (list.length:Int));have hbx1:=hx1▸Q7 Y ci ch (list.length:Int);refine wT 1 0 .sh list (λhw3 hl4=> ?_);have hx2:=ng list x1.1.toNat;refine tn Qb [0,4] [60000] (pl 3 list (po 4 (.give none (.i x1.1) [.h Y,.i (x1.2.1:Int),.i x1.2.2]) (px (Xk (hx1▸Xy Y ci ch (list.length:Int))) (pg 5 x1.1 hx2 p0)))) <| Qe ?_
 have hE5:X2 Y ci ch list=((nth list x1.1.toNat),x1.2.1,x1.2.2):=Zt hx1 (rfl);exact B9 [] (congrArg (λz=>(.s z.1:AV)) hE5.symm) (congrArg (λz=>([.h Y,.i (z.2.1:Int),.i z.2.2]:List C)) hE5.symm)
def X5 (w:ByteArray):B3:=(2,0,w)
theorem Ch (w:ByteArray):ACalls Tryz.prog 88 [.s w] (.a [.i ((X5 w).1),.i ((X5 w).2.1),.s ((X5 w).2.2)]):=by
 refine en Qb Tryz.func88 λw0 F0 hG=> ?_
 exact sn Qb [0,2] [2] p0 <| tn Qb [2] [2] p0 <| Qe <| pz [] (show X5 w=(2,0,w) from rfl) (λz=> .a [.i z.1,.i z.2.1,.s z.2.2])
def X3 (Y:List UInt8) (ci:Nat) (ch:Int) (id:Int):Xe×Nat×Int:=(lt (Ql Y ci ch 3) (λx1=>(lt (Zi Y x1.2.1 x1.2.2 2) (λx2=>(lt (Zi Y x2.2.1 x2.2.2 2) (λx3=>(lt (α:=Int×Nat×Int) (bif x3.1 then (lt (Ql Y x3.2.1 x3.2.2 7) (λx4=>(x4.1,x4.2.1,x4.2.2))) else (0,x3.2.1,x3.2.2)) (λx4=>(lt (Zi Y x4.2.1 x4.2.2 4) (λx7=>(lt (α:=Xe×Nat×Int) (bif (!x7.1) then (lt (Ql Y x7.2.1 x7.2.2 4) (λx8=>((Yh (id,x1.1,x2.1,x4.1, []) ⟨#[97]⟩ (Zc x8.1)),x8.2.1,x8.2.2))) else ((id,x1.1,x2.1,x4.1, []),x7.2.1,x7.2.2)) (λx8=>(lt (Zi Y x8.2.1 x8.2.2 2) (λx11=>(lt (α:=Xe×Nat×Int) (bif x11.1 then (lt (Ql Y x11.2.1 x11.2.2 4) (λx12=>((Yh x8.1 ⟨#[98]⟩ (Zc x12.1)),x12.2.1,x12.2.2))) else (x8.1,x11.2.1,x11.2.2)) (λx12=>(lt (Zi Y x12.2.1 x12.2.2 3) (λx15=>(lt (α:=Xe×Nat×Int) (bif (!x15.1) then (lt (X2 Y x15.2.1 x15.2.2 [⟨#[105,110,107]⟩,⟨#[115,101,97]⟩]) (λx16=>((Yh x12.1 ⟨#[110]⟩ (X5 x16.1)),x16.2.1,x16.2.2))) else (x12.1,x15.2.1,x15.2.2)) (λx16=>(lt (Zi Y x16.2.1 x16.2.2 2) (λx19=>(bif x19.1 then (lt (X2 Y x19.2.1 x19.2.2 [⟨#[114,101,100]⟩,⟨#[98,108,117,101]⟩]) (λx21=>((Yh x16.1 ⟨#[116]⟩ (X5 x21.1)),x21.2.1,x21.2.2))) else (x16.1,x19.2.1,x19.2.2))))))))))))))))))))))))
theorem Cv (Y:List UInt8) (ci:Nat) (ch:Int) (id:Int):AGive Tryz.prog 39 [.h Y,.i ((ci:Nat):Int),.i ch] [.i id] (.a [.i ((((X3 Y ci ch id)).1).1),.i ((((X3 Y ci ch id)).1).2.1),.b ((((X3 Y ci ch id)).1).2.2.1),.i ((((X3 Y ci ch id)).1).2.2.2.1),.o 0 ((((X3 Y ci ch id)).1).2.2.2.2)]) [.h Y,.i ((((X3 Y ci ch id)).2.1:Nat):Int),.i (((X3 Y ci ch id)).2.2)]:=by
 refine V3 (tt:=tt) Qb Tryz.func39 (fn:=Tryz.f39) rfl (by unfold E9;kernel_rfl) (zD rfl) (zD rfl) rfl rfl λw0 F0 hG=> ?_
 refine sn Qb [0,1,4] [4,60000] p0 ?_;obtain ⟨x1,hx1⟩:=nm (Ql Y ci ch 3);have hbx1:=hx1▸Q7 Y ci ch 3;obtain ⟨x2,hx2⟩:=nm (Zi Y x1.2.1 x1.2.2 2);refine tn Qb [0,4,5] [4,5,60000] (po 2 (.give none (.i x1.1) [.h Y,.i (x1.2.1:Int),.i x1.2.2]) (px (Xk (hx1▸Xy Y ci ch 3)) (po 4 (.give none (.b x2.1) [.h Y,.i (x2.2.1:Int),.i x2.2.2]) (px (Xk (hx2▸Vg Y x1.2.1 x1.2.2 2)) p0)))) <| Qc ?_
 obtain ⟨x3,hx3⟩:=nm (Zi Y x2.2.1 x2.2.2 2);refine tu Qb [(4,.p 4 0),(5,.p 5 0),(13,.b x3.1)] [1] [(4, [.i 0,.i 0,.b false,.i 0,.e 4]),(5, [.i id,.i x1.1,.b x2.1,.i 0,.e 4]),(60000, [.h Y,.i (x3.2.1:Int),.i x3.2.2])] [60000] (po 1 (.give none (.b x3.1) [.h Y,.i (x3.2.1:Int),.i x3.2.2]) (px (Xk (hx3▸Vg Y x2.2.1 x2.2.2 2)) p0)) ?_;obtain ⟨x4,hx4⟩:=nm ((bif x3.1 then (lt (Ql Y x3.2.1 x3.2.2 7) (λx4=>(x4.1,x4.2.1,x4.2.2))) else (0,x3.2.1,x3.2.2)));refine jn [] [13] [(5, [.i id,.i x1.1,.b x2.1,.i x4.1,.e 4]),(60000, [.h Y,.i (x4.2.1:Int),.i x4.2.2])] [5,60000] x3.1 (λh5=> ?_) (λh5=> ?_) ?_
 ·refine ckt h5 ?_;obtain ⟨x6,hx6⟩:=nm (Ql Y x3.2.1 x3.2.2 7);have hbx6:=hx6▸Q7 Y x3.2.1 x3.2.2 7;refine rn Qb [0,4,5] [4,5,60000] (po 1 (.give none (.i x6.1) [.h Y,.i (x6.2.1:Int),.i x6.2.2]) (px (Xk (hx6▸Xy Y x3.2.1 x3.2.2 7)) p0)) ?_;obtain rfl:x4=(x6.1,x6.2.1,x6.2.2):=hx4.symm.trans (show (bif x3.1 then (lt (Ql Y x3.2.1 x3.2.2 7) (λx4=>(x4.1,x4.2.1,x4.2.2))) else (0,x3.2.1,x3.2.2))=(x6.1,x6.2.1,x6.2.2) from Q4 h5 (Zt hx6 (rfl)));exact zA (by kernel_rfl)
 ·refine ckf h5 ?_;refine Qg ?_;obtain rfl:x4=(0,x3.2.1,x3.2.2):=hx4.symm.trans (show (bif x3.1 then (lt (Ql Y x3.2.1 x3.2.2 7) (λx4=>(x4.1,x4.2.1,x4.2.2))) else (0,x3.2.1,x3.2.2))=(0,x3.2.1,x3.2.2) from Qi h5 (rfl));exact zA (by kernel_rfl)
 refine Qc ?_;obtain ⟨x7,hx7⟩:=nm (Zi Y x4.2.1 x4.2.2 4);refine sn Qb [0,4,5,19] [4,5,60000] (po 1 (.give none (.b x7.1) [.h Y,.i (x7.2.1:Int),.i x7.2.2]) (px (Xk (hx7▸Vg Y x4.2.1 x4.2.2 4)) p0)) <| mz [(19,.b (!x7.1))] [] [(60000, [.h Y,.i (x7.2.1:Int),.i x7.2.2])] [60000] ?_
 obtain ⟨x8,hx8⟩:=nm ((bif (!x7.1) then (lt (Ql Y x7.2.1 x7.2.2 4) (λx8=>((Yh (id,x1.1,x2.1,x4.1, []) ⟨#[97]⟩ (Zc x8.1)),x8.2.1,x8.2.2))) else ((id,x1.1,x2.1,x4.1, []),x7.2.1,x7.2.2)));have hjx8:zF x8.1.2.2.2.2<=1:=by rw[←hx8];exact yC BQ (by first | omega | simp)
 refine jn [] [19] [(5, [.i x8.1.1,.i x8.1.2.1,.b x8.1.2.2.1,.i x8.1.2.2.2.1,.o 448768 x8.1.2.2.2.2]),(60000, [.h Y,.i (x8.2.1:Int),.i x8.2.2])] [5,60000] (!x7.1) (λh9=> ?_) (λh9=> ?_) ?_
 ·refine ckt h9 ?_;obtain ⟨x10,hx10⟩:=nm (Ql Y x7.2.1 x7.2.2 4);have hbx10:=hx10▸Q7 Y x7.2.1 x7.2.2 4;refine rN Qb Zg [0,4,5] [4,5,60000] (po 2 (.give none (.i x10.1) [.h Y,.i (x10.2.1:Int),.i x10.2.2]) (px (Xk (hx10▸Xy Y x7.2.1 x7.2.2 4)) (pc 3 (C4 x10.1) (pc 4 (Ix (id,x1.1,x2.1,x4.1, []) ⟨#[97]⟩ (Zc x10.1) (by first|omega|(simp;done) | (simp;omega))) p0)))) ?_;obtain rfl:x8=((Yh (id,x1.1,x2.1,x4.1, []) ⟨#[97]⟩ (Zc x10.1)),x10.2.1,x10.2.2):=hx8.symm.trans (show (bif (!x7.1) then (lt (Ql Y x7.2.1 x7.2.2 4) (λx8=>((Yh (id,x1.1,x2.1,x4.1, []) ⟨#[97]⟩ (Zc x8.1)),x8.2.1,x8.2.2))) else ((id,x1.1,x2.1,x4.1, []),x7.2.1,x7.2.2))=((Yh (id,x1.1,x2.1,x4.1, []) ⟨#[97]⟩ (Zc x10.1)),x10.2.1,x10.2.2) from Q4 h9 (Zt hx10 (rfl)));exact ⟨rfl,Xg [(1536,448768)] (by kernel_rfl)⟩
 ·refine ckf h9 ?_;refine Qg ?_;obtain rfl:x8=((id,x1.1,x2.1,x4.1, []),x7.2.1,x7.2.2):=hx8.symm.trans (show (bif (!x7.1) then (lt (Ql Y x7.2.1 x7.2.2 4) (λx8=>((Yh (id,x1.1,x2.1,x4.1, []) ⟨#[97]⟩ (Zc x8.1)),x8.2.1,x8.2.2))) else ((id,x1.1,x2.1,x4.1, []),x7.2.1,x7.2.2))=((id,x1.1,x2.1,x4.1, []),x7.2.1,x7.2.2) from Qi h9 (rfl));exact ⟨rfl,Ao [(true,5,4,true,320008,4)] [] [] [(320008,448768)] (by kernel_rfl)⟩
 refine Qc ?_;obtain ⟨x11,hx11⟩:=nm (Zi Y x8.2.1 x8.2.2 2);refine sn Qb [0,4,5,26] [4,5,60000] (po 1 (.give none (.b x11.1) [.h Y,.i (x11.2.1:Int),.i x11.2.2]) (px (Xk (hx11▸Vg Y x8.2.1 x8.2.2 2)) p0)) <| mz [(26,.b x11.1)] [] [(60000, [.h Y,.i (x11.2.1:Int),.i x11.2.2])] [60000] ?_
 obtain ⟨x12,hx12⟩:=nm ((bif x11.1 then (lt (Ql Y x11.2.1 x11.2.2 4) (λx12=>((Yh x8.1 ⟨#[98]⟩ (Zc x12.1)),x12.2.1,x12.2.2))) else (x8.1,x11.2.1,x11.2.2)));have hjx12:zF x12.1.2.2.2.2<=2:=by rw[←hx12];exact yC BQ (by first | omega | simp)
 refine jn [] [26] [(5, [.i x12.1.1,.i x12.1.2.1,.b x12.1.2.2.1,.i x12.1.2.2.2.1,.o 448768 x12.1.2.2.2.2]),(60000, [.h Y,.i (x12.2.1:Int),.i x12.2.2])] [5,60000] x11.1 (λh13=> ?_) (λh13=> ?_) ?_
 ·refine ckt h13 ?_;obtain ⟨x14,hx14⟩:=nm (Ql Y x11.2.1 x11.2.2 4);have hbx14:=hx14▸Q7 Y x11.2.1 x11.2.2 4;refine rN Qb Zg [0,4,5] [4,5,60000] (po 2 (.give none (.i x14.1) [.h Y,.i (x14.2.1:Int),.i x14.2.2]) (px (Xk (hx14▸Xy Y x11.2.1 x11.2.2 4)) (pc 3 (C4 x14.1) (pc 4 (Ix x8.1 ⟨#[98]⟩ (Zc x14.1) (by first|omega|(simp;done) | (simp;omega))) p0)))) ?_;obtain rfl:x12=((Yh x8.1 ⟨#[98]⟩ (Zc x14.1)),x14.2.1,x14.2.2):=hx12.symm.trans (show (bif x11.1 then (lt (Ql Y x11.2.1 x11.2.2 4) (λx12=>((Yh x8.1 ⟨#[98]⟩ (Zc x12.1)),x12.2.1,x12.2.2))) else (x8.1,x11.2.1,x11.2.2))=((Yh x8.1 ⟨#[98]⟩ (Zc x14.1)),x14.2.1,x14.2.2) from Q4 h13 (Zt hx14 (rfl)));exact ⟨rfl,Xg [(1984,448768)] (by kernel_rfl)⟩
 ·refine ckf h13 ?_;refine Qg ?_;obtain rfl:x12=(x8.1,x11.2.1,x11.2.2):=hx12.symm.trans (show (bif x11.1 then (lt (Ql Y x11.2.1 x11.2.2 4) (λx12=>((Yh x8.1 ⟨#[98]⟩ (Zc x12.1)),x12.2.1,x12.2.2))) else (x8.1,x11.2.1,x11.2.2))=(x8.1,x11.2.1,x11.2.2) from Qi h13 (rfl));exact zA (by kernel_rfl)
 refine Qc ?_;obtain ⟨x15,hx15⟩:=nm (Zi Y x12.2.1 x12.2.2 3);refine sn Qb [0,4,5,34] [4,5,60000] (po 1 (.give none (.b x15.1) [.h Y,.i (x15.2.1:Int),.i x15.2.2]) (px (Xk (hx15▸Vg Y x12.2.1 x12.2.2 3)) p0)) <| mz [(34,.b (!x15.1))] [] [(60000, [.h Y,.i (x15.2.1:Int),.i x15.2.2])] [60000] ?_
 obtain ⟨x16,hx16⟩:=nm ((bif (!x15.1) then (lt (X2 Y x15.2.1 x15.2.2 [⟨#[105,110,107]⟩,⟨#[115,101,97]⟩]) (λx16=>((Yh x12.1 ⟨#[110]⟩ (X5 x16.1)),x16.2.1,x16.2.2))) else (x12.1,x15.2.1,x15.2.2)));have hjx16:zF x16.1.2.2.2.2<=3:=by rw[←hx16];exact yC BQ (by first | omega | simp)
 refine jn [] [34] [(5, [.i x16.1.1,.i x16.1.2.1,.b x16.1.2.2.1,.i x16.1.2.2.2.1,.o 448768 x16.1.2.2.2.2]),(60000, [.h Y,.i (x16.2.1:Int),.i x16.2.2])] [5,60000] (!x15.1) (λh17=> ?_) (λh17=> ?_) ?_
 ·refine ckt h17 ?_;obtain ⟨x18,hx18⟩:=nm (X2 Y x15.2.1 x15.2.2 [⟨#[105,110,107]⟩,⟨#[115,101,97]⟩]);refine rN Qb Zg [0,4,5] [4,5,60000] (po 3 (.give none (.s x18.1) [.h Y,.i (x18.2.1:Int),.i x18.2.2]) (px (Xk (hx18▸Vh Y x15.2.1 x15.2.2 [⟨#[105,110,107]⟩,⟨#[115,101,97]⟩] (zE _))) (pc 4 (Ch x18.1) (pc 5 (Ix x12.1 ⟨#[110]⟩ (X5 x18.1) (by first|omega|(simp;done) | (simp;omega))) p0)))) ?_;obtain rfl:x16=((Yh x12.1 ⟨#[110]⟩ (X5 x18.1)),x18.2.1,x18.2.2):=hx16.symm.trans (show (bif (!x15.1) then (lt (X2 Y x15.2.1 x15.2.2 [⟨#[105,110,107]⟩,⟨#[115,101,97]⟩]) (λx16=>((Yh x12.1 ⟨#[110]⟩ (X5 x16.1)),x16.2.1,x16.2.2))) else (x12.1,x15.2.1,x15.2.2))=((Yh x12.1 ⟨#[110]⟩ (X5 x18.1)),x18.2.1,x18.2.2) from Q4 h17 (Zt hx18 (rfl)));exact ⟨rfl,Xg [(2560,448768)] (by kernel_rfl)⟩
 ·refine ckf h17 ?_;refine Qg ?_;obtain rfl:x16=(x12.1,x15.2.1,x15.2.2):=hx16.symm.trans (show (bif (!x15.1) then (lt (X2 Y x15.2.1 x15.2.2 [⟨#[105,110,107]⟩,⟨#[115,101,97]⟩]) (λx16=>((Yh x12.1 ⟨#[110]⟩ (X5 x16.1)),x16.2.1,x16.2.2))) else (x12.1,x15.2.1,x15.2.2))=(x12.1,x15.2.1,x15.2.2) from Qi h17 (rfl));exact zA (by kernel_rfl)
 refine Qc ?_;obtain ⟨x19,hx19⟩:=nm (Zi Y x16.2.1 x16.2.2 2);refine sn Qb [0,4,5,42] [4,5,60000] (po 1 (.give none (.b x19.1) [.h Y,.i (x19.2.1:Int),.i x19.2.2]) (px (Xk (hx19▸Vg Y x16.2.1 x16.2.2 2)) p0)) <| ck x19.1 (λh20=> ?_) (λh20=> ?_)
 ·obtain ⟨x21,hx21⟩:=nm (X2 Y x19.2.1 x19.2.2 [⟨#[114,101,100]⟩,⟨#[98,108,117,101]⟩]);refine qN Qb Zg [0,4,5] [4,5,60000] (po 3 (.give none (.s x21.1) [.h Y,.i (x21.2.1:Int),.i x21.2.2]) (px (Xk (hx21▸Vh Y x19.2.1 x19.2.2 [⟨#[114,101,100]⟩,⟨#[98,108,117,101]⟩] (zE _))) (pc 4 (Ch x21.1) (pc 5 (Ix x16.1 ⟨#[116]⟩ (X5 x21.1) (by first|omega|(simp;done) | (simp;omega))) p0)))) ?_;refine tu Qb [] [5] [(4, [.i ((Yh x16.1 ⟨#[116]⟩ (X5 x21.1)).1),.i ((Yh x16.1 ⟨#[116]⟩ (X5 x21.1)).2.1),.b ((Yh x16.1 ⟨#[116]⟩ (X5 x21.1)).2.2.1),.i ((Yh x16.1 ⟨#[116]⟩ (X5 x21.1)).2.2.2.1),.o 3072 ((Yh x16.1 ⟨#[116]⟩ (X5 x21.1)).2.2.2.2)]),(60000, [.h Y,.i (x21.2.1:Int),.i x21.2.2])] [4,5,60000] p0 <| Qe ?_
  have hE22:X3 Y ci ch id=((Yh x16.1 ⟨#[116]⟩ (X5 x21.1)),x21.2.1,x21.2.2):=Zt hx1 (Zt hx2 (Zt hx3 (Zt hx4 (Zt hx7 (Zt hx8 (Zt hx11 (Zt hx12 (Zt hx15 (Zt hx16 (Zt hx19 (Q4 h20 (Zt hx21 (rfl)))))))))))));exact B9 [] (congrArg (λz=>(.a [.i z.1.1,.i z.1.2.1,.b z.1.2.2.1,.i z.1.2.2.2.1,.o 0 z.1.2.2.2.2]:AV)) hE22.symm) (congrArg (λz=>([.h Y,.i (z.2.1:Int),.i z.2.2]:List C)) hE22.symm)
 refine Qg <| tn Qb [0,4] [4,60000] p0 <| Qe ?_
 have hE23:X3 Y ci ch id=(x16.1,x19.2.1,x19.2.2):=Zt hx1 (Zt hx2 (Zt hx3 (Zt hx4 (Zt hx7 (Zt hx8 (Zt hx11 (Zt hx12 (Zt hx15 (Zt hx16 (Zt hx19 (Qi h20 (rfl))))))))))));exact B9 [] (congrArg (λz=>(.a [.i z.1.1,.i z.1.2.1,.b z.1.2.2.1,.i z.1.2.2.2.1,.o 0 z.1.2.2.2.2]:AV)) hE23.symm) (congrArg (λz=>([.h Y,.i (z.2.1:Int),.i z.2.2]:List C)) hE23.symm)
def Q5:(List Jf):= [((⟨#[97]⟩,1):Jf),((⟨#[98]⟩,1):Jf),((⟨#[110]⟩,2):Jf),((⟨#[116]⟩,2):Jf)]
theorem QE:ACalls Tryz.prog 134 [] (.o 0 Q5):=by
 refine en Qb Tryz.func134 λw0 F0 hG=> ?_
 exact sn Qb [0] [] p0 <| tn Qb [0] [] p0 <| Qe <| po0 [] (show Q5= [((⟨#[97]⟩,1):Jf),((⟨#[98]⟩,1):Jf),((⟨#[110]⟩,2):Jf),((⟨#[116]⟩,2):Jf)] from rfl)
def Wd (Y:List UInt8) (s0:Int×Qz×Nat×Int):Rd (Qz×Nat×Int) (Int×Qz×Nat×Int) (Qz×Nat×Int):=(lt (Ql Y s0.2.2.1 s0.2.2.2 7) (λx1=>(bif decide (s0.1<IntKind.i64.wrap (1+x1.1)) then (lt (X3 Y x1.2.1 x1.2.2 1) (λx3=>(.next (IntKind.i64.wrap (s0.1+1),(((Xx s0.2.1 x3.1)).1),x3.2.1,x3.2.2)))) else (.brk (s0.2.1,x1.2.1,x1.2.2)))))
def Vy (Y:List UInt8) (ci:Nat) (ch:Int):Qz×Nat×Int:=(Out.on (I0 (Wd Y) 8 (0,(K9 Q5),ci,ch)) (λy0=>(bif decide ((y0.1.2.1.length:Int)>(2:Int)) then (lt (Zi Y y0.2.1 y0.2.2 3) (λx5=>(bif x5.1 then ((((Yz y0.1 ((nth y0.1.2.1 1).1))).1),x5.2.1,x5.2.2) else (y0.1,x5.2.1,x5.2.2)))) else (y0.1,y0.2.1,y0.2.2))))
theorem QF (Y:List UInt8) (ci:Nat) (ch:Int) (s:Qz):(whl (Wd Y) 8 (0,s,ci,ch)).isSome=true:=
 Qc6 (λs=>s.1) 7 (λs s' h0 h=>by
  unfold Wd lt at h;have hb:=Q7 Y s.2.2.1 s.2.2.2 7;generalize Ql Y s.2.2.1 s.2.2.2 7=x at h hb;have e:IntKind.i64.wrap (1+x.1)=1+x.1:=IntWalk.i64_in _ (by omega);simp only[e] at h;by_cases hc:s.1<1+x.1
  . simp only[decide_eq_true hc,cond_true] at h;have h:=Rd.next.inj h;rw[←h];exact ⟨by omega,IntWalk.i64_in _ (by omega)⟩
  simp only[decide_eq_false hc,cond_false] at h;cases h) 7 _ (Int.le_refl 0) (by show (7:Int)<=0+7;omega)
theorem QG (Y:List UInt8) (ci:Nat) (ch:Int):AGive Tryz.prog 80 [.h Y,.i ((ci:Nat):Int),.i ch] [] (.a [.o 0 ((((Vy Y ci ch)).1).1),.q 1 ((((Vy Y ci ch)).1).2.1),.i ((((Vy Y ci ch)).1).2.2)]) [.h Y,.i ((((Vy Y ci ch)).2.1:Nat):Int),.i (((Vy Y ci ch)).2.2)]:=by
 refine V3 (tt:=tt) Qb Tryz.func80 (fn:=Tryz.f80) rfl (by unfold E9;kernel_rfl) (zD rfl) (zD rfl) rfl rfl λw0 F0 hG=> ?_
 refine sn Qb [0,2] [2,60000] p0 <| tn Qb [0,2,3] [2,3,60000] (pc 0 (QE) (pc 1 (CB Q5) p0)) <| Qc <| tu Qb [(2,.p 2 0),(3,.p 3 0),(4,.i 0)] [] [(2, [.e 2,.e 5,.i 0]),(3, [.o 384 ((K9 Q5).1),.o 385 ((K9 Q5).2.1),.i ((K9 Q5).2.2)])] [] p0 <| blw (λ(s0:Int×Qz×Nat×Int)=> [(4,.i s0.1)]) [4] (λs0=> [(3, [.o 147207 s0.2.1.1,.o 147208 s0.2.1.2.1,.i s0.2.1.2.2]),(60000, [.h Y,.i (s0.2.2.1:Int),.i s0.2.2.2])]) [3,60000] (λ(y0:Qz×Nat×Int)=> []) [4] (λy0=> [(3, [.o 147357 y0.1.1,.o 147358 y0.1.2.1,.i y0.1.2.2]),(60000, [.h Y,.i (y0.2.1:Int),.i y0.2.2])]) [3,60000] (λ(k0:Nat) (s0:Int×Qz×Nat×Int)=>whl (Wd Y) k0 s0=some (I0 (Wd Y) 8 (0,(K9 Q5),ci,ch))) (λ(y0:Qz×Nat×Int)=>(I0 (Wd Y) 8 (0,(K9 Q5),ci,ch))= .brk y0) 8 (0,(K9 Q5),ci,ch) (Xg [(384,147207),(385,147208)] (by kernel_rfl)) (Fl (QF Y ci ch _)) (λ_ h=>G1 h) (λk0 s0 U=> ?_) (λy0 hD0=> ?_)
 ·refine Qc ?_;obtain ⟨x1,hx1⟩:=nm (Ql Y s0.2.2.1 s0.2.2.2 7);have hbx1:=hx1▸Q7 Y s0.2.2.1 s0.2.2.2 7;refine sn Qb [0,2,3,4,11] [2,3,60000] (po 2 (.give none (.i x1.1) [.h Y,.i (x1.2.1:Int),.i x1.2.2]) (px (Xk (hx1▸Xy Y s0.2.2.1 s0.2.2.2 7)) p0)) <| ck (decide (s0.1<IntKind.i64.wrap (1+x1.1))) (λh2=> ?_) (λh2=> ?_)
  ·refine Qg <| Qc <| Qv ?_
   obtain ⟨x3,hx3⟩:=nm (X3 Y x1.2.1 x1.2.2 1);refine qN Qb Zg [0,2,3,4] [2,3,60000] (po 2 (.give none (.a [.i x3.1.1,.i x3.1.2.1,.b x3.1.2.2.1,.i x3.1.2.2.2.1,.o 0 x3.1.2.2.2.2]) [.h Y,.i (x3.2.1:Int),.i x3.2.2]) (px (Xk (hx3▸Cv Y x1.2.1 x1.2.2 1)) (pc 3 (Mp s0.2.1 x3.1) p0))) ?_;refine qu Qb [(4,.i (IntKind.i64.wrap (s0.1+1)))] [4] [(3, [.o 1152 ((((Xx s0.2.1 x3.1)).1).1),.o 1153 ((((Xx s0.2.1 x3.1)).1).2.1),.i ((((Xx s0.2.1 x3.1)).1).2.2)]),(60000, [.h Y,.i (x3.2.1:Int),.i x3.2.2])] [3,60000] p0 ?_;exact zI (IntKind.i64.wrap (s0.1+1),(((Xx s0.2.1 x3.1)).1),x3.2.1,x3.2.2) (zL (Xg [(1152,147207),(1153,147208)] (by kernel_rfl)) (wn U (Zt hx1 (Q4 h2 (Zt hx3 (rfl))))))
  exact Q3 <| zI (s0.2.1,x1.2.1,x1.2.2) (zL (Xg [(147207,147357),(147208,147358)] (by kernel_rfl)) (wb U (Zt hx1 (Qi h2 (rfl)))))
 refine Qc <| Qc <| Xu (decide ((y0.1.2.1.length:Int)>(2:Int))) (λh4=> ?_) (λh4=> ?_)
 ·have h4d:=of_decide_eq_true h4;obtain ⟨x5,hx5⟩:=nm (Zi Y y0.2.1 y0.2.2 3);refine rn Qb [0,2,3,29] [2,3,60000] (pl 2 y0.1.2.1 (pt 3 h4 (po 6 (.give none (.b x5.1) [.h Y,.i (x5.2.1:Int),.i x5.2.2]) (px (Xk (hx5▸Vg Y y0.2.1 y0.2.2 3)) p0)))) ?_;refine ck x5.1 (λh6=> ?_) (λh6=> ?_)
  ·refine wB 3 1 (.own true 147358) y0.1.2.1 (λhw8 hl9=> ?_);have hx7:=ng y0.1.2.1 1;refine qN Qb Zg [0,2,3] [2,3,60000] (pG 3 1 hx7 (pc 6 (R4 y0.1 ((nth y0.1.2.1 1).1)) p0)) ?_;refine tu Qb [] [3] [(2, [.o 2368 ((((Yz y0.1 ((nth y0.1.2.1 1).1))).1).1),.q 2369 ((((Yz y0.1 ((nth y0.1.2.1 1).1))).1).2.1),.i ((((Yz y0.1 ((nth y0.1.2.1 1).1))).1).2.2)]),(60000, [.h Y,.i (x5.2.1:Int),.i x5.2.2])] [2,3,60000] p0 <| Qe ?_
   have hE10:Vy Y ci ch=((((Yz y0.1 ((nth y0.1.2.1 1).1))).1),x5.2.1,x5.2.2):=Wk hD0 (Q4 h4 (Zt hx5 (Q4 h6 (rfl))));exact B9 [] (congrArg (λz=>(.a [.o 0 z.1.1,.q 1 z.1.2.1,.i z.1.2.2]:AV)) hE10.symm) (congrArg (λz=>([.h Y,.i (z.2.1:Int),.i z.2.2]:List C)) hE10.symm)
  refine Qg <| tn Qb [0,2] [2,60000] p0 <| Hr [147358] rfl ?_
  refine Qe ?_;have hE11:Vy Y ci ch=(y0.1,x5.2.1,x5.2.2):=Wk hD0 (Q4 h4 (Zt hx5 (Qi h6 (rfl))));exact B9 [] (congrArg (λz=>(.a [.o 0 z.1.1,.q 1 z.1.2.1,.i z.1.2.2]:AV)) hE11.symm) (congrArg (λz=>([.h Y,.i (z.2.1:Int),.i z.2.2]:List C)) hE11.symm)
 refine ru Qb [(29,.b false)] [] [] [] (pl 2 y0.1.2.1 (pf 3 h4 p0)) ?_;refine ckF <| Qg <| sn Qb [0,2] [2,60000] p0 <| Hr [147358] rfl ?_
 refine Qe ?_;have hE12:Vy Y ci ch=(y0.1,y0.2.1,y0.2.2):=Wk hD0 (Qi h4 (rfl));exact B9 [] (congrArg (λz=>(.a [.o 0 z.1.1,.q 1 z.1.2.1,.i z.1.2.2]:AV)) hE12.symm) (congrArg (λz=>([.h Y,.i (z.2.1:Int),.i z.2.2]:List C)) hE12.symm)
def Ac (Y:List UInt8) (ci:Nat) (ch:Int):ByteArray×Nat×Int:=(lt (X2 Y ci ch [⟨#[100,97]⟩,⟨#[100,98]⟩,⟨#[100,99]⟩,⟨#[100,100]⟩,⟨#[100,97]⟩,⟨#[100,98]⟩,⟨#[100,99]⟩]) (λx1=>(x1.1,x1.2.1,x1.2.2)))
theorem R7 (Y:List UInt8) (ci:Nat) (ch:Int):AGive Tryz.prog 187 [.h Y,.i ((ci:Nat):Int),.i ch] [] (.s (((Ac Y ci ch)).1)) [.h Y,.i ((((Ac Y ci ch)).2.1:Nat):Int),.i (((Ac Y ci ch)).2.2)]:=by
 refine V3 (tt:=tt) Qb Tryz.func187 (fn:=Tryz.f187) rfl (by unfold E9;kernel_rfl) (zD rfl) (zD rfl) rfl rfl λw0 F0 hG=> ?_
 refine sn Qb [0,2] [60000] p0 ?_;obtain ⟨x1,hx1⟩:=nm (X2 Y ci ch [⟨#[100,97]⟩,⟨#[100,98]⟩,⟨#[100,99]⟩,⟨#[100,100]⟩,⟨#[100,97]⟩,⟨#[100,98]⟩,⟨#[100,99]⟩]);refine tn Qb [0,2] [60000] (po 2 (.give none (.s x1.1) [.h Y,.i (x1.2.1:Int),.i x1.2.2]) (px (Xk (hx1▸Vh Y ci ch [⟨#[100,97]⟩,⟨#[100,98]⟩,⟨#[100,99]⟩,⟨#[100,100]⟩,⟨#[100,97]⟩,⟨#[100,98]⟩,⟨#[100,99]⟩] (zE _))) p0)) <| Qe ?_
 have hE2:Ac Y ci ch=(x1.1,x1.2.1,x1.2.2):=Zt hx1 (rfl);exact B9 [] (congrArg (λz=>(.s z.1:AV)) hE2.symm) (congrArg (λz=>([.h Y,.i (z.2.1:Int),.i z.2.2]:List C)) hE2.symm)
def J6 (Y:List UInt8) (ci:Nat) (ch:Int):Yw×Nat×Int:=(lt (Ql Y ci ch 9) (λx1=>(bif (x1.1==(0:Int)) then ((1,0,0,⟨#[]⟩,(0,0,⟨#[]⟩)),x1.2.1,x1.2.2) else (bif (x1.1==(1:Int)) then (lt (X2 Y x1.2.1 x1.2.2 [⟨#[97]⟩,⟨#[98]⟩,⟨#[110]⟩,⟨#[116]⟩]) (λx5=>((2,0,0,x5.1,(0,0,⟨#[]⟩)),x5.2.1,x5.2.2))) else (bif (x1.1==(2:Int)) then (lt (Ql Y x1.2.1 x1.2.2 4) (λx8=>((3,0,0,⟨#[97]⟩,(Zc x8.1)),x8.2.1,x8.2.2))) else (bif (x1.1==(3:Int)) then (lt (X2 Y x1.2.1 x1.2.2 [⟨#[114,101,100]⟩,⟨#[98,108,117,101]⟩]) (λx11=>((3,0,0,⟨#[116]⟩,(X5 x11.1)),x11.2.1,x11.2.2))) else (bif (x1.1==(4:Int)) then (lt (X2 Y x1.2.1 x1.2.2 [⟨#[97]⟩,⟨#[98]⟩]) (λx14=>(lt (Ql Y x14.2.1 x14.2.2 3) (λx15=>((4,0,0,x14.1,(Zc (IntKind.i64.wrap (1+x15.1)))),x15.2.1,x15.2.2))))) else (bif (bif (x1.1==(5:Int)) then (x1.1==(5:Int)) else (x1.1==(6:Int))) then (lt (Ac Y x1.2.1 x1.2.2) (λx19=>((8,0,0,x19.1,(0,0,⟨#[]⟩)),x19.2.1,x19.2.2))) else (bif (x1.1==(7:Int)) then (lt (Ac Y x1.2.1 x1.2.2) (λx22=>((9,0,0,x22.1,(0,0,⟨#[]⟩)),x22.2.1,x22.2.2))) else (lt (Ql Y x1.2.1 x1.2.2 4) (λx24=>((3,0,0,⟨#[98]⟩,(Zc x24.1)),x24.2.1,x24.2.2))))))))))))
theorem Rt (Y:List UInt8) (ci:Nat) (ch:Int):AGive Tryz.prog 139 [.h Y,.i ((ci:Nat):Int),.i ch] [] (.a [.i ((((J6 Y ci ch)).1).1),.i ((((J6 Y ci ch)).1).2.1),.i ((((J6 Y ci ch)).1).2.2.1),.s ((((J6 Y ci ch)).1).2.2.2.1),.i ((((J6 Y ci ch)).1).2.2.2.2.1),.i ((((J6 Y ci ch)).1).2.2.2.2.2.1),.s ((((J6 Y ci ch)).1).2.2.2.2.2.2)]) [.h Y,.i ((((J6 Y ci ch)).2.1:Nat):Int),.i (((J6 Y ci ch)).2.2)]:=by
 refine V3 (tt:=tt) Qb Tryz.func139 (fn:=Tryz.f139) rfl (by unfold E9;kernel_rfl) (zD rfl) (zD rfl) rfl rfl λw0 F0 hG=> ?_
 refine sn Qb [0,2] [2,60000] p0 <| Qc ?_
 obtain ⟨x1,hx1⟩:=nm (Ql Y ci ch 9);have hbx1:=hx1▸Q7 Y ci ch 9;refine tn Qb [0,2,4] [2,60000] (po 1 (.give none (.i x1.1) [.h Y,.i (x1.2.1:Int),.i x1.2.2]) (px (Xk (hx1▸Xy Y ci ch 9)) p0)) <| Qv <| tu Qb [(2,.p 2 0),(4,.i x1.1),(5,.b (x1.1==(0:Int)))] [] [(2, [.i 0,.i 0,.i 0,.s ⟨#[]⟩,.i 0,.i 0,.s ⟨#[]⟩]),(60000, [.h Y,.i (x1.2.1:Int),.i x1.2.2])] [60000] p0 <| ck (x1.1==(0:Int)) (λh2=> ?_) (λh2=> ?_)
 ·refine sn Qb [0,2] [2,60000] p0 <| Qe ?_
  have hE3:J6 Y ci ch=((1,0,0,⟨#[]⟩,(0,0,⟨#[]⟩)),x1.2.1,x1.2.2):=Zt hx1 (Q4 h2 (rfl));exact B9 [] (congrArg (λz=>(.a [.i z.1.1,.i z.1.2.1,.i z.1.2.2.1,.s z.1.2.2.2.1,.i z.1.2.2.2.2.1,.i z.1.2.2.2.2.2.1,.s z.1.2.2.2.2.2.2]:AV)) hE3.symm) (congrArg (λz=>([.h Y,.i (z.2.1:Int),.i z.2.2]:List C)) hE3.symm)
 refine sn Qb [0,2,4,8] [2,60000] p0 <| ck (x1.1==(1:Int)) (λh4=> ?_) (λh4=> ?_)
 ·obtain ⟨x5,hx5⟩:=nm (X2 Y x1.2.1 x1.2.2 [⟨#[97]⟩,⟨#[98]⟩,⟨#[110]⟩,⟨#[116]⟩]);refine tn Qb [0,2] [2,60000] (po 2 (.give none (.s x5.1) [.h Y,.i (x5.2.1:Int),.i x5.2.2]) (px (Xk (hx5▸Vh Y x1.2.1 x1.2.2 [⟨#[97]⟩,⟨#[98]⟩,⟨#[110]⟩,⟨#[116]⟩] (zE _))) p0)) <| Qe ?_
  have hE6:J6 Y ci ch=((2,0,0,x5.1,(0,0,⟨#[]⟩)),x5.2.1,x5.2.2):=Zt hx1 (Qi h2 (Q4 h4 (Zt hx5 (rfl))));exact B9 [] (congrArg (λz=>(.a [.i z.1.1,.i z.1.2.1,.i z.1.2.2.1,.s z.1.2.2.2.1,.i z.1.2.2.2.2.1,.i z.1.2.2.2.2.2.1,.s z.1.2.2.2.2.2.2]:AV)) hE6.symm) (congrArg (λz=>([.h Y,.i (z.2.1:Int),.i z.2.2]:List C)) hE6.symm)
 refine tn Qb [0,2,4,14] [2,60000] p0 <| ck (x1.1==(2:Int)) (λh7=> ?_) (λh7=> ?_)
 ·obtain ⟨x8,hx8⟩:=nm (Ql Y x1.2.1 x1.2.2 4);have hbx8:=hx8▸Q7 Y x1.2.1 x1.2.2 4;refine tu Qb [] [4,5] [(2, [.i 3,.i 0,.i 0,.s ⟨#[97]⟩,.i ((Zc x8.1).1),.i ((Zc x8.1).2.1),.s ((Zc x8.1).2.2)]),(60000, [.h Y,.i (x8.2.1:Int),.i x8.2.2])] [2,60000] (po 1 (.give none (.i x8.1) [.h Y,.i (x8.2.1:Int),.i x8.2.2]) (px (Xk (hx8▸Xy Y x1.2.1 x1.2.2 4)) (pc 2 (C4 x8.1) p0))) <| Qe ?_
  have hE9:J6 Y ci ch=((3,0,0,⟨#[97]⟩,(Zc x8.1)),x8.2.1,x8.2.2):=Zt hx1 (Qi h2 (Qi h4 (Q4 h7 (Zt hx8 (rfl)))));exact B9 [] (congrArg (λz=>(.a [.i z.1.1,.i z.1.2.1,.i z.1.2.2.1,.s z.1.2.2.2.1,.i z.1.2.2.2.2.1,.i z.1.2.2.2.2.2.1,.s z.1.2.2.2.2.2.2]:AV)) hE9.symm) (congrArg (λz=>([.h Y,.i (z.2.1:Int),.i z.2.2]:List C)) hE9.symm)
 refine tu Qb [(20,.b (x1.1==(3:Int)))] [5] [] [] p0 <| ck (x1.1==(3:Int)) (λh10=> ?_) (λh10=> ?_)
 ·obtain ⟨x11,hx11⟩:=nm (X2 Y x1.2.1 x1.2.2 [⟨#[114,101,100]⟩,⟨#[98,108,117,101]⟩]);refine sn Qb [0,2] [2,60000] (po 2 (.give none (.s x11.1) [.h Y,.i (x11.2.1:Int),.i x11.2.2]) (px (Xk (hx11▸Vh Y x1.2.1 x1.2.2 [⟨#[114,101,100]⟩,⟨#[98,108,117,101]⟩] (zE _))) (pc 3 (Ch x11.1) p0))) <| Qe ?_
  have hE12:J6 Y ci ch=((3,0,0,⟨#[116]⟩,(X5 x11.1)),x11.2.1,x11.2.2):=Zt hx1 (Qi h2 (Qi h4 (Qi h7 (Q4 h10 (Zt hx11 (rfl))))));exact B9 [] (congrArg (λz=>(.a [.i z.1.1,.i z.1.2.1,.i z.1.2.2.1,.s z.1.2.2.2.1,.i z.1.2.2.2.2.1,.i z.1.2.2.2.2.2.1,.s z.1.2.2.2.2.2.2]:AV)) hE12.symm) (congrArg (λz=>([.h Y,.i (z.2.1:Int),.i z.2.2]:List C)) hE12.symm)
 refine sn Qb [0,2,4,27] [2,60000] p0 <| ck (x1.1==(4:Int)) (λh13=> ?_) (λh13=> ?_)
 ·obtain ⟨x14,hx14⟩:=nm (X2 Y x1.2.1 x1.2.2 [⟨#[97]⟩,⟨#[98]⟩]);obtain ⟨x15,hx15⟩:=nm (Ql Y x14.2.1 x14.2.2 3);have hbx15:=hx15▸Q7 Y x14.2.1 x14.2.2 3;refine tn Qb [0,2] [2,60000] (po 2 (.give none (.s x14.1) [.h Y,.i (x14.2.1:Int),.i x14.2.2]) (px (Xk (hx14▸Vh Y x1.2.1 x1.2.2 [⟨#[97]⟩,⟨#[98]⟩] (zE _))) (po 4 (.give none (.i x15.1) [.h Y,.i (x15.2.1:Int),.i x15.2.2]) (px (Xk (hx15▸Xy Y x14.2.1 x14.2.2 3)) (pc 6 (C4 (IntKind.i64.wrap (1+x15.1))) p0))))) <| Qe ?_
  have hE16:J6 Y ci ch=((4,0,0,x14.1,(Zc (IntKind.i64.wrap (1+x15.1)))),x15.2.1,x15.2.2):=Zt hx1 (Qi h2 (Qi h4 (Qi h7 (Qi h10 (Q4 h13 (Zt hx14 (Zt hx15 (rfl))))))));exact B9 [] (congrArg (λz=>(.a [.i z.1.1,.i z.1.2.1,.i z.1.2.2.1,.s z.1.2.2.2.1,.i z.1.2.2.2.2.1,.i z.1.2.2.2.2.2.1,.s z.1.2.2.2.2.2.2]:AV)) hE16.symm) (congrArg (λz=>([.h Y,.i (z.2.1:Int),.i z.2.2]:List C)) hE16.symm)
 refine Qc <| tn Qb [0,2,4,37] [2,60000] p0 <| mz [(37,.b (x1.1==(5:Int)))] [20] [] [] <| jn [(37,.b (bif (x1.1==(5:Int)) then (x1.1==(5:Int)) else (x1.1==(6:Int))))] [37] [] [] (x1.1==(5:Int)) (λh17=> ?_) (λh17=> ?_) ?_
 ·refine ckt h17 ?_;exact Qg <| ⟨rfl,Qf (by rw[h17]<;>kernel_rfl)⟩
 ·refine ckf h17 ?_;refine rn Qb [0,2,4,37] [2,60000] p0 ?_;exact zA (by rw[h17]<;>kernel_rfl)
 refine ck (bif (x1.1==(5:Int)) then (x1.1==(5:Int)) else (x1.1==(6:Int))) (λh18=> ?_) (λh18=> ?_)
 ·obtain ⟨x19,hx19⟩:=nm (Ac Y x1.2.1 x1.2.2);refine sn Qb [0,2] [2,60000] (po 1 (.give none (.s x19.1) [.h Y,.i (x19.2.1:Int),.i x19.2.2]) (px (Xk (hx19▸R7 Y x1.2.1 x1.2.2)) p0)) <| Qe ?_
  have hE20:J6 Y ci ch=((8,0,0,x19.1,(0,0,⟨#[]⟩)),x19.2.1,x19.2.2):=Zt hx1 (Qi h2 (Qi h4 (Qi h7 (Qi h10 (Qi h13 (Q4 h18 (Zt hx19 (rfl))))))));exact B9 [] (congrArg (λz=>(.a [.i z.1.1,.i z.1.2.1,.i z.1.2.2.1,.s z.1.2.2.2.1,.i z.1.2.2.2.2.1,.i z.1.2.2.2.2.2.1,.s z.1.2.2.2.2.2.2]:AV)) hE20.symm) (congrArg (λz=>([.h Y,.i (z.2.1:Int),.i z.2.2]:List C)) hE20.symm)
 refine sn Qb [0,2,43] [2,60000] p0 <| ck (x1.1==(7:Int)) (λh21=> ?_) (λh21=> ?_)
 ·obtain ⟨x22,hx22⟩:=nm (Ac Y x1.2.1 x1.2.2);refine tn Qb [0,2] [2,60000] (po 1 (.give none (.s x22.1) [.h Y,.i (x22.2.1:Int),.i x22.2.2]) (px (Xk (hx22▸R7 Y x1.2.1 x1.2.2)) p0)) <| Qe ?_
  have hE23:J6 Y ci ch=((9,0,0,x22.1,(0,0,⟨#[]⟩)),x22.2.1,x22.2.2):=Zt hx1 (Qi h2 (Qi h4 (Qi h7 (Qi h10 (Qi h13 (Qi h18 (Q4 h21 (Zt hx22 (rfl)))))))));exact B9 [] (congrArg (λz=>(.a [.i z.1.1,.i z.1.2.1,.i z.1.2.2.1,.s z.1.2.2.2.1,.i z.1.2.2.2.2.1,.i z.1.2.2.2.2.2.1,.s z.1.2.2.2.2.2.2]:AV)) hE23.symm) (congrArg (λz=>([.h Y,.i (z.2.1:Int),.i z.2.2]:List C)) hE23.symm)
 refine Qg ?_;obtain ⟨x24,hx24⟩:=nm (Ql Y x1.2.1 x1.2.2 4);have hbx24:=hx24▸Q7 Y x1.2.1 x1.2.2 4;refine tn Qb [0,2] [2,60000] (po 1 (.give none (.i x24.1) [.h Y,.i (x24.2.1:Int),.i x24.2.2]) (px (Xk (hx24▸Xy Y x1.2.1 x1.2.2 4)) (pc 2 (C4 x24.1) p0))) <| Qe ?_
 have hE25:J6 Y ci ch=((3,0,0,⟨#[98]⟩,(Zc x24.1)),x24.2.1,x24.2.2):=Zt hx1 (Qi h2 (Qi h4 (Qi h7 (Qi h10 (Qi h13 (Qi h18 (Qi h21 (Zt hx24 (rfl)))))))));exact B9 [] (congrArg (λz=>(.a [.i z.1.1,.i z.1.2.1,.i z.1.2.2.1,.s z.1.2.2.2.1,.i z.1.2.2.2.2.1,.i z.1.2.2.2.2.2.1,.s z.1.2.2.2.2.2.2]:AV)) hE25.symm) (congrArg (λz=>([.h Y,.i (z.2.1:Int),.i z.2.2]:List C)) hE25.symm)
def Ks (n_:Nat) (Y:List UInt8) (ci:Nat) (ch:Int) (q:List Yw) (deep:Int) (not:Bool):(List Yw)×Nat×Int:=match n_ with
 | 0=>default
 | n_+1=>(bif (deep==(0:Int)) then (lt (J6 Y ci ch) (λx2=>(q++ [x2.1],x2.2.1,x2.2.2))) else (lt (Zi Y ci ch 3) (λx6=>(bif x6.1 then (lt (J6 Y x6.2.1 x6.2.2) (λx8=>(q++ [x8.1],x8.2.1,x8.2.2))) else (lt (Ql Y x6.2.1 x6.2.2 5) (λx12=>(bif ((x12.1==(0:Int))&&not) then (lt (Ks n_ Y x12.2.1 x12.2.2 q (deep-1) true) (λx15=>(x15.1++ [((5,((x15.1.length:Int)-1),0,⟨#[]⟩,(0,0,⟨#[]⟩)):Yw)],x15.2.1,x15.2.2))) else (lt (Ks n_ Y x12.2.1 x12.2.2 q (deep-1) not) (λx19=>(lt (Ks n_ Y x19.2.1 x19.2.2 x19.1 0 not) (λx22=>(bif decide (x12.1<(3:Int)) then (x22.1++ [((6,((x19.1.length:Int)-1),((x22.1.length:Int)-1),⟨#[]⟩,(0,0,⟨#[]⟩)):Yw)],x22.2.1,x22.2.2) else (x22.1++ [((7,((x19.1.length:Int)-1),((x22.1.length:Int)-1),⟨#[]⟩,(0,0,⟨#[]⟩)):Yw)],x22.2.1,x22.2.2)))))))))))))
theorem Ts (Y:List UInt8):∀(n ci:Nat) (ch:Int) (q:List Yw) (deep:Int) (not_:Bool),0<=deep->deep<n->q.length+1<=(Ks n Y ci ch q deep not_).1.length/\((Ks n Y ci ch q deep not_).1.length:Int)<=q.length+2*deep+1
 | 0,_,_,_,_,_,h0,h1=>by omega
 | n + 1,ci,ch,q,deep,not_,h0,h1=>by
   have ih:=Ts Y n;unfold Ks lt;by_cases hz:deep=0
   . rw[beq_iff_eq.2 hz];simp only[cond_true,zP,zM,zK];omega
   rw[beq_eq_false_iff_ne.2 hz];simp only[cond_false];generalize Zi Y ci ch 3=x;cases x.1 with
   | true=>
     simp only[cond_true,zP,zM,zK];omega
   | false=>
     simp only[cond_false];generalize Ql Y x.2.1 x.2.2 5=y;cases ((y.1==(0:Int))&&not_) with
     | true=>
       simp only[cond_true,zP,zM,zK];have:=ih y.2.1 y.2.2 q (deep-1) true (by omega) (by omega);omega
     | false=>
       simp only[cond_false];have h2:=ih y.2.1 y.2.2 q (deep-1) not_ (by omega) (by omega);generalize Ks n Y y.2.1 y.2.2 q (deep-1) not_=z at h2;have h3:=ih z.2.1 z.2.2 z.1 0 not_ (by omega) (by omega);generalize Ks n Y z.2.1 z.2.2 z.1 0 not_=u at h3;cases decide (y.1<(3:Int))<;>simp only[cond_true,cond_false,zP,zM,zK]<;>omega
theorem GL:∀(n_:Nat) (Y:List UInt8) (ci:Nat) (ch:Int) (q:List Yw) (deep:Int) (not:Bool) (hd:0<=deep) (hn:deep<(n_:Int)) (hq:(zF q:Int)+2*deep<=1000),AGive Tryz.prog 89 [.h Y,.i ((ci:Nat):Int),.i ch] [.o 63 q,.i deep,.b not] (.o 0 (((Ks n_ Y ci ch q deep not)).1)) [.h Y,.i ((((Ks n_ Y ci ch q deep not)).2.1:Nat):Int),.i (((Ks n_ Y ci ch q deep not)).2.2)]:=by
 intro n_
 induction n_ with
 | zero=>intro Y ci ch q deep not hd hn hq;exact (by omega:False).elim
 | succ n_ ih=>
  intro Y ci ch q deep not hd hn hq;refine V3 (tt:=tt) Qb Tryz.func89 (fn:=Tryz.f89) rfl (by unfold E9;kernel_rfl) (zD rfl) (zD rfl) rfl rfl λw0 F0 hG=> ?_
  refine su Qb [(8,.e 0)] [] [] [] p0 <| Qc <| Qc <| Xu (deep==(0:Int)) (λh1=> ?_) (λh1=> ?_)
  ·have h1d:=eq_of_beq h1;refine ru Qb [(16,.b true)] [] [] [] (pt 1 h1 p0) ?_;refine ckT ?_;obtain ⟨x2,hx2⟩:=nm (J6 Y ci ch);refine wT 1 0 (.own true 63) q (λhw3 hl4=> ?_);refine su Qb [(8,.one (.slc (.own true 1344) 7 ((eL q)++ [[.i x2.1.1,.i x2.1.2.1,.i x2.1.2.2.1,.s x2.1.2.2.2.1,.i x2.1.2.2.2.2.1,.i x2.1.2.2.2.2.2.1,.s x2.1.2.2.2.2.2.2]])))] [1,8,16] [(60000, [.h Y,.i (x2.2.1:Int),.i x2.2.2])] [60000] (po 2 (.give none (.a [.i x2.1.1,.i x2.1.2.1,.i x2.1.2.2.1,.s x2.1.2.2.2.1,.i x2.1.2.2.2.2.1,.i x2.1.2.2.2.2.2.1,.s x2.1.2.2.2.2.2.2]) [.h Y,.i (x2.2.1:Int),.i x2.2.2]) (px (Xk (hx2▸Rt Y ci ch)) (pa q [x2.1] p0))) <| eqn [(8,.o 1344 (q++ [x2.1]))] [8] [] [] (by rw[show ((eL q)++ [[.i x2.1.1,.i x2.1.2.1,.i x2.1.2.2.1,.s x2.1.2.2.2.1,.i x2.1.2.2.2.2.1,.i x2.1.2.2.2.2.2.1,.s x2.1.2.2.2.2.2.2]])=(eL (q++ [x2.1])) from Ju (rfl) (rfl)];first | done | kernel_rfl) ?_
   refine Qe ?_;have hE5:Ks (n_+1) Y ci ch q deep not=(q++ [x2.1],x2.2.1,x2.2.2):=Q4 h1 (Zt hx2 (rfl));exact B9 [] (congrArg (λz=>(.o 0 z.1:AV)) hE5.symm) (congrArg (λz=>([.h Y,.i (z.2.1:Int),.i z.2.2]:List C)) hE5.symm)
  have h1d:=Y4 h1;obtain ⟨x6,hx6⟩:=nm (Zi Y ci ch 3);refine rn Qb [0,1,2,3,8,16] [60000] (pf 1 h1 (po 4 (.give none (.b x6.1) [.h Y,.i (x6.2.1:Int),.i x6.2.2]) (px (Xk (hx6▸Vg Y ci ch 3)) p0))) ?_;refine ck x6.1 (λh7=> ?_) (λh7=> ?_)
  ·obtain ⟨x8,hx8⟩:=nm (J6 Y x6.2.1 x6.2.2);refine wT 1 0 (.own true 63) q (λhw9 hl10=> ?_);refine tu Qb [(8,.one (.slc (.own true 1344) 7 ((eL q)++ [[.i x8.1.1,.i x8.1.2.1,.i x8.1.2.2.1,.s x8.1.2.2.2.1,.i x8.1.2.2.2.2.1,.i x8.1.2.2.2.2.2.1,.s x8.1.2.2.2.2.2.2]])))] [1,8] [(60000, [.h Y,.i (x8.2.1:Int),.i x8.2.2])] [60000] (po 2 (.give none (.a [.i x8.1.1,.i x8.1.2.1,.i x8.1.2.2.1,.s x8.1.2.2.2.1,.i x8.1.2.2.2.2.1,.i x8.1.2.2.2.2.2.1,.s x8.1.2.2.2.2.2.2]) [.h Y,.i (x8.2.1:Int),.i x8.2.2]) (px (Xk (hx8▸Rt Y x6.2.1 x6.2.2)) (pa q [x8.1] p0))) <| eqn [(8,.o 1344 (q++ [x8.1]))] [8] [] [] (by rw[show ((eL q)++ [[.i x8.1.1,.i x8.1.2.1,.i x8.1.2.2.1,.s x8.1.2.2.2.1,.i x8.1.2.2.2.2.1,.i x8.1.2.2.2.2.2.1,.s x8.1.2.2.2.2.2.2]])=(eL (q++ [x8.1])) from Ju (rfl) (rfl)];first | done | kernel_rfl) ?_
   refine Qe ?_;have hE11:Ks (n_+1) Y ci ch q deep not=(q++ [x8.1],x8.2.1,x8.2.2):=Qi h1 (Zt hx6 (Q4 h7 (Zt hx8 (rfl))));exact B9 [] (congrArg (λz=>(.o 0 z.1:AV)) hE11.symm) (congrArg (λz=>([.h Y,.i (z.2.1:Int),.i z.2.2]:List C)) hE11.symm)
  refine Qg ?_;obtain ⟨x12,hx12⟩:=nm (Ql Y x6.2.1 x6.2.2 5);have hbx12:=hx12▸Q7 Y x6.2.1 x6.2.2 5;refine tn Qb [0,1,2,3,8,9] [60000] (po 1 (.give none (.i x12.1) [.h Y,.i (x12.2.1:Int),.i x12.2.2]) (px (Xk (hx12▸Xy Y x6.2.1 x6.2.2 5)) p0)) <| Qc <| Qc <| mz [(9,.i x12.1)] [] [(60000, [.h Y,.i (x12.2.1:Int),.i x12.2.2])] [60000] <| jn [(28,.b ((x12.1==(0:Int))&&not))] [] [] [] (x12.1==(0:Int)) (λh13=> ?_) (λh13=> ?_) ?_
  ·refine ru Qb [(28,.b not)] [] [] [] (pt 1 h13 p0) ?_;exact zA (by rw[h13]<;>kernel_rfl)
  ·refine ru Qb [(28,.b false)] [] [] [] (pf 1 h13 p0) ?_;exact zA (by rw[h13]<;>kernel_rfl)
  refine ck ((x12.1==(0:Int))&&not) (λh14=> ?_) (λh14=> ?_)
  ·have h14l:((x12.1==(0:Int)))=true:=XA h14;have h14ld:=eq_of_beq h14l;have h14r:(not)=true:=KC h14;obtain ⟨x15,hx15⟩:=nm (Ks n_ Y x12.2.1 x12.2.2 q (deep-1) true);have hbx15:=hx15▸Ts Y n_ x12.2.1 x12.2.2 q (deep-1) true (by omega) (by omega);refine sn Qb [0,1,2,3,8,9] [60000] (pe 3 (Jl (IntWalk.i64_in (deep-1) (by omega))) (pt 4 h14r (po 5 (.give (some 63) (.o 0 x15.1) [.h Y,.i (x15.2.1:Int),.i x15.2.2]) (px (Xk (hx15▸ih Y x12.2.1 x12.2.2 q (deep-1) true (by omega) (by omega) (by omega))) p0)))) <| wT 1 0 (.own true 2176) x15.1 (λhw16 hl17=> ?_)
   refine tu Qb [(8,.one (.slc (.own true 2624) 7 ((eL x15.1)++ [[.i 5,.i ((x15.1.length:Int)-1),.i 0,.s ⟨#[]⟩,.i 0,.i 0,.s ⟨#[]⟩]])))] [1,8,28] [(60000, [.h Y,.i (x15.2.1:Int),.i x15.2.2])] [60000] (pl 2 x15.1 (pe 3 (Jl (IntWalk.i64_in ((x15.1.length:Int)-1) (by omega))) (pa x15.1 [((5,((x15.1.length:Int)-1),0,⟨#[]⟩,(0,0,⟨#[]⟩)):Yw)] p0))) <| eqn [(8,.o 2624 (x15.1++ [((5,((x15.1.length:Int)-1),0,⟨#[]⟩,(0,0,⟨#[]⟩)):Yw)]))] [8] [] [] (by rw[show ((eL x15.1)++ [[.i 5,.i ((x15.1.length:Int)-1),.i 0,.s ⟨#[]⟩,.i 0,.i 0,.s ⟨#[]⟩]])=(eL (x15.1++ [((5,((x15.1.length:Int)-1),0,⟨#[]⟩,(0,0,⟨#[]⟩)):Yw)])) from Ju (rfl) (rfl)];first | done | kernel_rfl) ?_
   refine Qe ?_;have hE18:Ks (n_+1) Y ci ch q deep not=(x15.1++ [((5,((x15.1.length:Int)-1),0,⟨#[]⟩,(0,0,⟨#[]⟩)):Yw)],x15.2.1,x15.2.2):=Qi h1 (Zt hx6 (Qi h7 (Zt hx12 (Q4 h14 (Zt hx15 (rfl))))));exact B9 [] (congrArg (λz=>(.o 0 z.1:AV)) hE18.symm) (congrArg (λz=>([.h Y,.i (z.2.1:Int),.i z.2.2]:List C)) hE18.symm)
  refine Qg ?_;obtain ⟨x19,hx19⟩:=nm (Ks n_ Y x12.2.1 x12.2.2 q (deep-1) not);have hbx19:=hx19▸Ts Y n_ x12.2.1 x12.2.2 q (deep-1) not (by omega) (by omega);refine sn Qb [0,1,3,8,9] [60000] (pe 3 (Jl (IntWalk.i64_in (deep-1) (by omega))) (po 5 (.give (some 63) (.o 0 x19.1) [.h Y,.i (x19.2.1:Int),.i x19.2.2]) (px (Xk (hx19▸ih Y x12.2.1 x12.2.2 q (deep-1) not (by omega) (by omega) (by omega))) p0))) <| wT 1 0 (.own true 3008) x19.1 (λhw20 hl21=> ?_)
  refine tn Qb [0,1,3,8,9,10] [60000] (pl 1 x19.1 (pe 2 (Jl (IntWalk.i64_in ((x19.1.length:Int)-1) (by omega))) p0)) ?_;obtain ⟨x22,hx22⟩:=nm (Ks n_ Y x19.2.1 x19.2.2 x19.1 0 not);have hbx22:=hx22▸Ts Y n_ x19.2.1 x19.2.2 x19.1 0 not (by omega) (by omega);refine tu Qb [(1,.o 3456 x22.1),(10,.i ((x19.1.length:Int)-1))] [1,2,3,28] [(60000, [.h Y,.i (x22.2.1:Int),.i x22.2.2])] [60000] (po 3 (.give (some 3008) (.o 0 x22.1) [.h Y,.i (x22.2.1:Int),.i x22.2.2]) (px (Xk (hx22▸ih Y x19.2.1 x19.2.2 x19.1 0 not (by omega) (by omega) (by omega))) p0)) <| Qc <| sn Qb [0,1,8,10,56] [60000] p0 <| ck (decide (x12.1<(3:Int))) (λh23=> ?_) (λh23=> ?_)
  ·have h23d:=of_decide_eq_true h23;refine wT 1 0 (.own true 3456) x22.1 (λhw24 hl25=> ?_);refine tu Qb [(8,.one (.slc (.own true 4096) 7 ((eL x22.1)++ [[.i 6,.i ((x19.1.length:Int)-1),.i ((x22.1.length:Int)-1),.s ⟨#[]⟩,.i 0,.i 0,.s ⟨#[]⟩]])))] [1,8,9] [] [] (pl 3 x22.1 (pe 4 (Jl (IntWalk.i64_in ((x22.1.length:Int)-1) (by omega))) (pa x22.1 [((6,((x19.1.length:Int)-1),((x22.1.length:Int)-1),⟨#[]⟩,(0,0,⟨#[]⟩)):Yw)] p0))) <| eqn [(8,.o 4096 (x22.1++ [((6,((x19.1.length:Int)-1),((x22.1.length:Int)-1),⟨#[]⟩,(0,0,⟨#[]⟩)):Yw)]))] [8] [] [] (by rw[show ((eL x22.1)++ [[.i 6,.i ((x19.1.length:Int)-1),.i ((x22.1.length:Int)-1),.s ⟨#[]⟩,.i 0,.i 0,.s ⟨#[]⟩]])=(eL (x22.1++ [((6,((x19.1.length:Int)-1),((x22.1.length:Int)-1),⟨#[]⟩,(0,0,⟨#[]⟩)):Yw)])) from Ju (rfl) (rfl)];first | done | kernel_rfl) ?_
   refine Qe ?_;have hE26:Ks (n_+1) Y ci ch q deep not=(x22.1++ [((6,((x19.1.length:Int)-1),((x22.1.length:Int)-1),⟨#[]⟩,(0,0,⟨#[]⟩)):Yw)],x22.2.1,x22.2.2):=Qi h1 (Zt hx6 (Qi h7 (Zt hx12 (Qi h14 (Zt hx19 (Zt hx22 (Q4 h23 (rfl))))))));exact B9 [] (congrArg (λz=>(.o 0 z.1:AV)) hE26.symm) (congrArg (λz=>([.h Y,.i (z.2.1:Int),.i z.2.2]:List C)) hE26.symm)
  have h23d:=of_decide_eq_false h23;refine Qg <| wT 1 0 (.own true 3456) x22.1 (λhw27 hl28=> ?_)
  refine tu Qb [(8,.one (.slc (.own true 4608) 7 ((eL x22.1)++ [[.i 7,.i ((x19.1.length:Int)-1),.i ((x22.1.length:Int)-1),.s ⟨#[]⟩,.i 0,.i 0,.s ⟨#[]⟩]])))] [1,8,9,10] [] [] (pl 3 x22.1 (pe 4 (Jl (IntWalk.i64_in ((x22.1.length:Int)-1) (by omega))) (pa x22.1 [((7,((x19.1.length:Int)-1),((x22.1.length:Int)-1),⟨#[]⟩,(0,0,⟨#[]⟩)):Yw)] p0))) <| eqn [(8,.o 4608 (x22.1++ [((7,((x19.1.length:Int)-1),((x22.1.length:Int)-1),⟨#[]⟩,(0,0,⟨#[]⟩)):Yw)]))] [8] [] [] (by rw[show ((eL x22.1)++ [[.i 7,.i ((x19.1.length:Int)-1),.i ((x22.1.length:Int)-1),.s ⟨#[]⟩,.i 0,.i 0,.s ⟨#[]⟩]])=(eL (x22.1++ [((7,((x19.1.length:Int)-1),((x22.1.length:Int)-1),⟨#[]⟩,(0,0,⟨#[]⟩)):Yw)])) from Ju (rfl) (rfl)];first | done | kernel_rfl) ?_
  refine Qe ?_;have hE29:Ks (n_+1) Y ci ch q deep not=(x22.1++ [((7,((x19.1.length:Int)-1),((x22.1.length:Int)-1),⟨#[]⟩,(0,0,⟨#[]⟩)):Yw)],x22.2.1,x22.2.2):=Qi h1 (Zt hx6 (Qi h7 (Zt hx12 (Qi h14 (Zt hx19 (Zt hx22 (Qi h23 (rfl))))))));exact B9 [] (congrArg (λz=>(.o 0 z.1:AV)) hE29.symm) (congrArg (λz=>([.h Y,.i (z.2.1:Int),.i z.2.2]:List C)) hE29.symm)
def Yk (Y:List UInt8) (ci:Nat) (ch:Int):(List Yw)×Nat×Int:=(lt (Ql Y ci ch 4) (λx1=>(lt (Ks (zR x1.1+1) Y x1.2.1 x1.2.2 [] x1.1 true) (λx2=>(x2.1,x2.2.1,x2.2.2)))))
theorem JD (Y:List UInt8) (ci:Nat) (ch:Int):1<=(Yk Y ci ch).1.length/\(Yk Y ci ch).1.length<=7:=by
 unfold Yk lt;have hb:=Q7 Y ci ch 4;generalize Ql Y ci ch 4=x at hb;have h:=Ts Y (zR x.1+1) x.2.1 x.2.2 [] x.1 true (by omega) (by omega);simp only[zK] at h;simp only;omega
theorem Ci (Y:List UInt8) (ci:Nat) (ch:Int):AGive Tryz.prog 41 [.h Y,.i ((ci:Nat):Int),.i ch] [] (.o 0 (((Yk Y ci ch)).1)) [.h Y,.i ((((Yk Y ci ch)).2.1:Nat):Int),.i (((Yk Y ci ch)).2.2)]:=by
 refine V3 (tt:=tt) Qb Tryz.func41 (fn:=Tryz.f41) rfl (by unfold E9;kernel_rfl) (zD rfl) (zD rfl) rfl rfl λw0 F0 hG=> ?_
 refine sn Qb [0,2] [60000] p0 ?_;obtain ⟨x1,hx1⟩:=nm (Ql Y ci ch 4);have hbx1:=hx1▸Q7 Y ci ch 4;obtain ⟨x2,hx2⟩:=nm (Ks (zR x1.1+1) Y x1.2.1 x1.2.2 [] x1.1 true);have hbx2:=hx2▸Ts Y (zR x1.1+1) x1.2.1 x1.2.2 [] x1.1 true (by omega) (by omega);refine tn Qb [0,2] [60000] (po 2 (.give none (.i x1.1) [.h Y,.i (x1.2.1:Int),.i x1.2.2]) (px (Xk (hx1▸Xy Y ci ch 4)) (po 3 (.give none (.o 0 x2.1) [.h Y,.i (x2.2.1:Int),.i x2.2.2]) (px (Xk (hx2▸(GL (zR x1.1+1) Y x1.2.1 x1.2.2 [] x1.1 true (by omega) (by omega) (by first|omega|(simp;omega))).emp (m:=0) (by simp[AV.cells,C.key,C.bkeys,Tok.key]))) p0)))) <| Qe ?_
 have hE3:Yk Y ci ch=(x2.1,x2.2.1,x2.2.2):=Zt hx1 (Zt hx2 (rfl));exact B9 [] (congrArg (λz=>(.o 0 z.1:AV)) hE3.symm) (congrArg (λz=>([.h Y,.i (z.2.1:Int),.i z.2.2]:List C)) hE3.symm)
def Wv (Y:List UInt8) (s0:(List X0)×Int×Nat×Int):Rd ((List X0)×Nat×Int) ((List X0)×Int×Nat×Int) ((List X0)×Nat×Int):=(lt (Ql Y s0.2.2.1 s0.2.2.2 4) (λx1=>(bif decide (s0.2.1<(1+x1.1)) then (lt (Yk Y x1.2.1 x1.2.2) (λx4=>(.next (s0.1++ [((nth ([⟨#[100,97]⟩,⟨#[100,98]⟩,⟨#[100,99]⟩,⟨#[100,100]⟩]:Z) s0.2.1.toNat),x4.1)],(s0.2.1+1),x4.2.1,x4.2.2)))) else (.brk (s0.1,x1.2.1,x1.2.2)))))
def Uq (Y:List UInt8) (ci:Nat) (ch:Int):(List X0)×Nat×Int:=(Out.on (I0 (Wv Y) 5 ([],0,ci,ch)) (λy0=>(y0.1,y0.2.1,y0.2.2)))
theorem JE (Y:List UInt8) (ci:Nat) (ch:Int):(whl (Wv Y) 5 ([],0,ci,ch)).isSome=true:=
 Qc6 (λs=>s.2.1) 4 (λs s' h0 h=>by
  unfold Wv lt at h;have hb:=Q7 Y s.2.2.1 s.2.2.2 4;generalize Ql Y s.2.2.1 s.2.2.2 4=x at h hb;by_cases hc:s.2.1<1+x.1
  . simp only[decide_eq_true hc,cond_true] at h;have h:=Rd.next.inj h;rw[←h];exact ⟨by omega,rfl⟩
  simp only[decide_eq_false hc,cond_false] at h;cases h) 4 _ (by show (0:Int)<=0;decide) (by show (4:Int)<=0+4;decide)
theorem JF (Y:List UInt8) (ci:Nat) (ch:Int):AGive Tryz.prog 135 [.h Y,.i ((ci:Nat):Int),.i ch] [] (.o 0 (((Uq Y ci ch)).1)) [.h Y,.i ((((Uq Y ci ch)).2.1:Nat):Int),.i (((Uq Y ci ch)).2.2)]:=by
 refine V3 (tt:=tt) Qb Tryz.func135 (fn:=Tryz.f135) rfl (by unfold E9;kernel_rfl) (zD rfl) (zD rfl) rfl rfl λw0 F0 hG=> ?_
 refine sn Qb [0,2] [60000] p0 <| tn Qb [0,2,3] [60000] p0 <| Qc <| tu Qb [(2,.e 0),(3,.one (.slc (.own true 320) 2 [])),(4,.i 0)] [] [] [] p0 <| blw (λ(s0:(List X0)×Int×Nat×Int)=> [(3,.o 147202 s0.1),(4,.i s0.2.1)]) [3,4] (λs0=> [(60000, [.h Y,.i (s0.2.2.1:Int),.i s0.2.2.2])]) [60000] (λ(y0:(List X0)×Nat×Int)=> [(3,.o 147352 y0.1)]) [3,4] (λy0=> [(60000, [.h Y,.i (y0.2.1:Int),.i y0.2.2])]) [60000] (λ(k0:Nat) (s0:(List X0)×Int×Nat×Int)=>whl (Wv Y) k0 s0=some (I0 (Wv Y) 5 ([],0,ci,ch))/\0<=s0.2.1/\(zF s0.1:Int)<=s0.2.1) (λ(y0:(List X0)×Nat×Int)=>(I0 (Wv Y) 5 ([],0,ci,ch))= .brk y0) 5 ([],0,ci,ch) (Xg [(320,147202)] (by kernel_rfl)) ⟨Fl (JE Y ci ch),(by first|omega|(simp;done) | (dsimp only;omega)),(by first|omega|(simp;done) | (dsimp only;omega))⟩ (λ_ h=>G1 h.1) (λk0 s0 U=> ?_) (λy0 hD0=> ?_)
 ·have hA0_0:=U.2.1;have hA0_1:=U.2.2;refine Qc ?_;obtain ⟨x1,hx1⟩:=nm (Ql Y s0.2.2.1 s0.2.2.2 4);have hbx1:=hx1▸Q7 Y s0.2.2.1 s0.2.2.2 4;refine sn Qb [0,2,3,4,10] [60000] (po 2 (.give none (.i x1.1) [.h Y,.i (x1.2.1:Int),.i x1.2.2]) (px (Xk (hx1▸Xy Y s0.2.2.1 s0.2.2.2 4)) (pe 3 (Jl (IntWalk.i64_in (1+x1.1) (by omega))) p0))) <| ck (decide (s0.2.1<(1+x1.1))) (λh2=> ?_) (λh2=> ?_)
  ·have h2d:=of_decide_eq_true h2;refine Qg <| Qc <| Qv ?_
   have hx3:=ng ([⟨#[100,97]⟩,⟨#[100,98]⟩,⟨#[100,99]⟩,⟨#[100,100]⟩]:Z) s0.2.1.toNat (by simp only[zM,zK];omega);obtain ⟨x4,hx4⟩:=nm (Yk Y x1.2.1 x1.2.2);have hbx4:=hx4▸JD Y x1.2.1 x1.2.2;refine wT 3 0 (.own true 147202) s0.1 (λhw5 hl6=> ?_);refine qU Qb Zg [(3,.one (.slc (.own true 1408) 2 ((eL s0.1)++ [[.s (nth ([⟨#[100,97]⟩,⟨#[100,98]⟩,⟨#[100,99]⟩,⟨#[100,100]⟩]:Z) s0.2.1.toNat),.h x4.1]])))] [3] [(60000, [.h Y,.i (x4.2.1:Int),.i x4.2.2])] [60000] (pG 3 s0.2.1 hx3 (po 6 (.give none (.o 0 x4.1) [.h Y,.i (x4.2.1:Int),.i x4.2.2]) (px (Xk (hx4▸Ci Y x1.2.1 x1.2.2)) (pa s0.1 [((nth ([⟨#[100,97]⟩,⟨#[100,98]⟩,⟨#[100,99]⟩,⟨#[100,100]⟩]:Z) s0.2.1.toNat),x4.1)] p0)))) ?_;refine eqn [(3,.o 1408 (s0.1++ [((nth ([⟨#[100,97]⟩,⟨#[100,98]⟩,⟨#[100,99]⟩,⟨#[100,100]⟩]:Z) s0.2.1.toNat),x4.1)]))] [3] [] [] (by rw[show ((eL s0.1)++ [[.s (nth ([⟨#[100,97]⟩,⟨#[100,98]⟩,⟨#[100,99]⟩,⟨#[100,100]⟩]:Z) s0.2.1.toNat),.h x4.1]])=(eL (s0.1++ [((nth ([⟨#[100,97]⟩,⟨#[100,98]⟩,⟨#[100,99]⟩,⟨#[100,100]⟩]:Z) s0.2.1.toNat),x4.1)])) from Ju (rfl) (rfl)];first | done | kernel_rfl) ?_;refine rn Qb [0,2,3,4] [60000] (pe 1 (Jl (IntWalk.i64_in (s0.2.1+1) (by omega))) p0) ?_;exact zI (s0.1++ [((nth ([⟨#[100,97]⟩,⟨#[100,98]⟩,⟨#[100,99]⟩,⟨#[100,100]⟩]:Z) s0.2.1.toNat),x4.1)],(s0.2.1+1),x4.2.1,x4.2.2) (zL (Xg [(1408,147202)] (by kernel_rfl)) ⟨wn U.1 (Zt hx1 (Q4 h2 (Zt hx4 (rfl)))),(by first|omega|(simp;omega)),(by first|omega|(simp;omega))⟩)
  exact Q3 <| zI (s0.1,x1.2.1,x1.2.2) (zL (Xg [(147202,147352)] (by kernel_rfl)) (wb U.1 (Zt hx1 (Qi h2 (rfl)))))
 refine sn Qb [0,2] [60000] p0 <| Qe ?_
 have hE7:Uq Y ci ch=(y0.1,y0.2.1,y0.2.2):=Wk hD0 (rfl);exact B9 [] (congrArg (λz=>(.o 0 z.1:AV)) hE7.symm) (congrArg (λz=>([.h Y,.i (z.2.1:Int),.i z.2.2]:List C)) hE7.symm)
def Jw (s0:List X0):Rd ((List X0)×Nat×Int) (List X0) (List X0):=(bif (decide ((s0.length:Int)>(0:Int))&&(!(Ym s0))) then (.next (zH ((s0.length:Int)-1).toNat s0)) else (.brk s0))
def Ur (Y:List UInt8) (ci:Nat) (ch:Int):(List X0)×Nat×Int:=(lt (Uq Y ci ch) (λx1=>(Out.on (I0 Jw (zF x1.1+1) x1.1) (λy0=>(bif ((y0.length:Int)==(0:Int)) then ([((⟨#[100,97]⟩, [((1,0,0,⟨#[]⟩,(0,0,⟨#[]⟩)):Yw)]):X0)],x1.2.1,x1.2.2) else (y0,x1.2.1,x1.2.2))))))
theorem Ru (Y:List UInt8) (d:List X0):(whl Jw (zF d+1) d).isSome=true:=
 SN (λs=>zF s) (λs s' h=>by
  unfold Jw at h;by_cases hc:((s.length:Int)>0)
  . simp only[decide_eq_true hc,Bool.true_and,cond_true] at h;cases hs:Ym s<;>simp only[hs,zN,zS,cond_true,cond_false] at h
    . have h:=Rd.next.inj h;rw[←h,List.length_take];omega
    cases h
  simp only[decide_eq_false hc,yB,cond_false] at h;cases h) _ _ (Nat.lt_succ_self _)
theorem Qiw (Y:List UInt8) (ci:Nat) (ch:Int):0<(Ur Y ci ch).1.length:=by
 unfold Ur lt;generalize Uq Y ci ch=x
 obtain ⟨t,ht⟩:=Tp (f:=Jw) (λs r=>by
  unfold Jw;generalize (decide ((s.length:Int)>(0:Int))&&(!(Ym s)))=c;cases c<;>simp) (zF x.1+1) x.1
 simp only[ht,Out.on];by_cases h:(t.length:Int)=0
 . rw[beq_iff_eq.2 h];exact Nat.zero_lt_one
 rw[beq_eq_false_iff_ne.2 h];show 0<t.length;omega
theorem GM (Y:List UInt8) (ci:Nat) (ch:Int):AGive Tryz.prog 81 [.h Y,.i ((ci:Nat):Int),.i ch] [] (.h (((Ur Y ci ch)).1)) [.h Y,.i ((((Ur Y ci ch)).2.1:Nat):Int),.i (((Ur Y ci ch)).2.2)]:=by
 refine V3 (tt:=tt) Qb Tryz.func81 (fn:=Tryz.f81) rfl (by unfold E9;kernel_rfl) (zD rfl) (zD rfl) rfl rfl λw0 F0 hG=> ?_
 refine sn Qb [0,2] [60000] p0 ?_;obtain ⟨x1,hx1⟩:=nm (Uq Y ci ch);refine tn Qb [0,2,3] [60000] (po 1 (.give none (.o 0 x1.1) [.h Y,.i (x1.2.1:Int),.i x1.2.2]) (px (Xk (hx1▸JF Y ci ch)) p0)) <| Qc <| mz [(2,.e 0),(3,.o 320 x1.1)] [] [(60000, [.h Y,.i (x1.2.1:Int),.i x1.2.2])] [60000] <| blw (λ(s0:List X0)=> [(3,.h s0)]) [3] (λs0=> []) [] (λ(y0:List X0)=> [(3,.h y0)]) [3] (λy0=> []) [] (λ(k0:Nat) (s0:List X0)=>whl Jw k0 s0=some (I0 Jw (zF x1.1+1) x1.1)) (λ(y0:List X0)=>(I0 Jw (zF x1.1+1) x1.1)= .brk y0) (zF x1.1+1) x1.1 (Ao [] [320] [] [] (by kernel_rfl)) (Fl (Ru Y x1.1)) (λ_ h=>G1 h) (λk0 s0 U=> ?_) (λy0 hD0=> ?_)
 ·refine Qc <| Qc <| jn [(13,.b (decide ((s0.length:Int)>(0:Int))&&(!(Ym s0))))] [] [] [] (decide ((s0.length:Int)>(0:Int))) (λh2=> ?_) (λh2=> ?_) ?_
  ·refine rn Qb [0,2,3,13] [60000] (pl 1 s0 (pt 2 h2 (pc 5 (Ox s0) p0))) ?_;exact zA (by rw[h2]<;>kernel_rfl)
  ·refine rn Qb [0,2,3,13] [60000] (pl 1 s0 (pf 2 h2 p0)) ?_;exact zA (by rw[h2]<;>kernel_rfl)
  refine ck (decide ((s0.length:Int)>(0:Int))&&(!(Ym s0))) (λh3=> ?_) (λh3=> ?_)
  ·have h3l:(decide ((s0.length:Int)>(0:Int)))=true:=XA h3;have h3ld:=of_decide_eq_true h3l;refine Qg <| Qv <| wT 3 0 .sh s0 (λhw4 hl5=> ?_)
   refine rn Qb [0,2,3] [60000] (pl 2 s0 (pe 3 (Jl (IntWalk.i64_in ((s0.length:Int)-1) (by omega))) (pe 4 (KB .sh 2 ((s0.length:Int)-1).toNat ((s0.length:Int)-1) s0 rfl) (px (Ph (lo:=0) (hi:=((s0.length:Int)-1)) (n:=(zF (eL s0))) (IT (by omega) (by omega) (by omega))) p0)))) ?_;exact xw _ (wn U (Q4 h3 (rfl)))
  exact Q3 <| xw _ (wb U (Qi h3 (rfl)))
 refine Qc <| sn Qb [0,2,3,21] [60000] (pl 1 y0 p0) <| ck ((y0.length:Int)==(0:Int)) (λh6=> ?_) (λh6=> ?_)
 ·refine qn Qb [0,2,3] [60000] p0 ?_;refine tu Qb [(2,.o 1600 [((⟨#[100,97]⟩, [((1,0,0,⟨#[]⟩,(0,0,⟨#[]⟩)):Yw)]):X0)])] [2,3] [] [] p0 <| Qe ?_
  have hE7:Ur Y ci ch=([((⟨#[100,97]⟩, [((1,0,0,⟨#[]⟩,(0,0,⟨#[]⟩)):Yw)]):X0)],x1.2.1,x1.2.2):=Zt hx1 (Wk hD0 (Q4 h6 (rfl)));exact B9 [1600] (congrArg (λz=>(.h z.1:AV)) hE7.symm) (congrArg (λz=>([.h Y,.i (z.2.1:Int),.i z.2.2]:List C)) hE7.symm)
 refine Qg <| tn Qb [0,2] [60000] p0 <| Qe ?_
 have hE8:Ur Y ci ch=(y0,x1.2.1,x1.2.2):=Zt hx1 (Wk hD0 (Qi h6 (rfl)));exact B9 [] (congrArg (λz=>(.h z.1:AV)) hE8.symm) (congrArg (λz=>([.h Y,.i (z.2.1:Int),.i z.2.2]:List C)) hE8.symm)
def JG (Y:List UInt8) (k0:Nat) (s0:(List Int)×Nat×Int):Rd ((List Int)×Nat×Int) ((List Int)×Nat×Int) ((List Int)×Nat×Int):=(lt (Zi Y s0.2.1 s0.2.2 2) (λx1=>(bif x1.1 then (.next (s0.1++ [((k0+1:Nat):Int)],x1.2.1,x1.2.2)) else (.next (s0.1,x1.2.1,x1.2.2)))))
def JH (_:Nat) (s0:(List Int)×Nat×Int):(List Int)×Nat×Int:=(s0.1,s0.2.1,s0.2.2)
def Nh (Y:List UInt8) (ci:Nat) (ch:Int):(List Int)×Nat×Int:=(Out.on (Uy (JG Y) JH ((8:Int)-1).toNat 0 ([],ci,ch)) (λy0=>(y0.1,y0.2.1,y0.2.2)))
theorem NF (Y:List UInt8) (ci:Nat) (ch:Int):AGive Tryz.prog 82 [.h Y,.i ((ci:Nat):Int),.i ch] [] (.o 0 (((Nh Y ci ch)).1)) [.h Y,.i ((((Nh Y ci ch)).2.1:Nat):Int),.i (((Nh Y ci ch)).2.2)]:=by
 refine V3 (tt:=tt) Qb Tryz.func82 (fn:=Tryz.f82) rfl (by unfold E9;kernel_rfl) (zD rfl) (zD rfl) rfl rfl λw0 F0 hG=> ?_
 refine sn Qb [0,2] [60000] p0 <| tn Qb [0,2,3] [60000] p0 <| Qc <| tu Qb [(2,.e 0),(3,.one (.slc (.own true 320) 1 [])),(4,.i 1)] [] [] [] p0 <| Qc5 (JG Y) JH ((8:Int)-1).toNat ([],ci,ch) (λk0 s0=> [(3,.o 147202 s0.1),(4,.i ((k0+1:Nat):Int))]) [3,4] (λ_ s0=> [(60000, [.h Y,.i (s0.2.1:Int),.i s0.2.2])]) [60000] (λy0=> [(3,.o 147352 y0.1)]) [3,4] (λy0=> [(60000, [.h Y,.i (y0.2.1:Int),.i y0.2.2])]) [60000] (λk0 s0=>zF s0.1<=k0) (Xg [(320,147202)] (by kernel_rfl)) (by simp) (λk0 s0 hk0 U=> ?_) (λk0 s0 hk0 U=> ?_) (λy0 hD0=> ?_)
 ·have hA0_0:=U.2;refine Qc <| su Qb [(7,.b true)] [] [] [] (pe 1 (zB (((k0+1:Nat):Int)<(8:Int))) p0) <| ckT <| Qg <| Qc <| Qv ?_
  obtain ⟨x1,hx1⟩:=nm (Zi Y s0.2.1 s0.2.2 2);refine sn Qb [0,2,3,4,11] [60000] (po 1 (.give none (.b x1.1) [.h Y,.i (x1.2.1:Int),.i x1.2.2]) (px (Xk (hx1▸Vg Y s0.2.1 s0.2.2 2)) p0)) <| ck x1.1 (λh2=> ?_) (λh2=> ?_)
  ·refine wT 3 0 (.own true 147202) s0.1 (λhw3 hl4=> ?_);refine qu Qb [(3,.one (.slc (.own true 960) 1 ((eL s0.1)++ [[.i ((k0+1:Nat):Int)]])))] [3,7] [(60000, [.h Y,.i (x1.2.1:Int),.i x1.2.2])] [60000] (pa s0.1 [((k0+1:Nat):Int)] p0) ?_;refine eqn [(3,.o 960 (s0.1++ [((k0+1:Nat):Int)]))] [3] [] [] (by rw[show ((eL s0.1)++ [[.i ((k0+1:Nat):Int)]])=(eL (s0.1++ [((k0+1:Nat):Int)])) from Ju (rfl) (rfl)];first | done | kernel_rfl) ?_;refine rn Qb [0,2,3,4] [60000] (pe 1 (show .i (IntKind.i64.wrap (((k0+1:Nat):Int)+1))= .i ((k0+2:Nat):Int) from Jl ((IntWalk.i64_in _ (by omega)).trans (by omega))) p0) ?_;exact zI (s0.1++ [((k0+1:Nat):Int)],x1.2.1,x1.2.2) (zL (Xg [(960,147202)] (by kernel_rfl)) ⟨V2 hk0 (Zt hx1 (Q4 h2 (rfl))) U.1,by first|omega|(simp;omega) | simp⟩)
  refine Qg <| qn Qb [0,2,3,4] [60000] (pe 1 (show .i (IntKind.i64.wrap (((k0+1:Nat):Int)+1))= .i ((k0+2:Nat):Int) from Jl ((IntWalk.i64_in _ (by omega)).trans (by omega))) p0) ?_
  exact xw (s0.1,x1.2.1,x1.2.2) ⟨V2 hk0 (Zt hx1 (Qi h2 (rfl))) U.1,by first|omega|(simp;omega) | simp⟩
 ·have hA0_0:=U.2;exact Qc <| sn Qb [0,2,3,4,7] [60000] (pe 1 (zC (((k0+1:Nat):Int)<(8:Int))) p0) <| ckF <| Q3 <| zI _ (zL (Xg [(147202,147352)] (by kernel_rfl)) (Dc hk0 (rfl) U.1))
 refine sn Qb [0,2] [60000] p0 <| Qe ?_
 have hE5:Nh Y ci ch=(y0.1,y0.2.1,y0.2.2):=Wk hD0 (rfl);exact B9 [] (congrArg (λz=>(.o 0 z.1:AV)) hE5.symm) (congrArg (λz=>([.h Y,.i (z.2.1:Int),.i z.2.2]:List C)) hE5.symm)
def Z2 (Y:List UInt8) (ci:Nat) (ch:Int) (list:List Int):Int×Nat×Int:=(lt (Ql Y ci ch (list.length:Int)) (λx1=>((nth list x1.1.toNat),x1.2.1,x1.2.2)))
theorem W4 (Y:List UInt8) (ci:Nat) (ch:Int) (list:List Int) (hp:0<zF list):AGive Tryz.prog 35 [.h Y,.i ((ci:Nat):Int),.i ch] [.h list] (.i (((Z2 Y ci ch list)).1)) [.h Y,.i ((((Z2 Y ci ch list)).2.1:Nat):Int),.i (((Z2 Y ci ch list)).2.2)]:=by
 refine V3 (tt:=tt) Qb Tryz.func35 (fn:=Tryz.f35) rfl (by unfold E9;kernel_rfl) (zD rfl) (zD rfl) rfl rfl λw0 F0 hG=> ?_
 refine sn Qb [0,1,4] [60000] p0 ?_;obtain ⟨x1,hx1⟩:=nm (Ql Y ci ch (list.length:Int));have hbx1:=hx1▸Q7 Y ci ch (list.length:Int);refine wT 1 0 .sh list (λhw3 hl4=> ?_);have hx2:=ng list x1.1.toNat;refine tn Qb [0,4] [60000] (pl 3 list (po 4 (.give none (.i x1.1) [.h Y,.i (x1.2.1:Int),.i x1.2.2]) (px (Xk (hx1▸Xy Y ci ch (list.length:Int))) (pg 5 x1.1 hx2 p0)))) <| Qe ?_
 have hE5:Z2 Y ci ch list=((nth list x1.1.toNat),x1.2.1,x1.2.2):=Zt hx1 (rfl);exact B9 [] (congrArg (λz=>(.i z.1:AV)) hE5.symm) (congrArg (λz=>([.h Y,.i (z.2.1:Int),.i z.2.2]:List C)) hE5.symm)
def A5 (Y:List UInt8) (ci:Nat) (ch:Int):Int×Nat×Int:=(lt (Z2 Y ci ch [0,1,2,0,1,3,-1]) (λx1=>(x1.1,x1.2.1,x1.2.2)))
theorem Rv (Y:List UInt8) (ci:Nat) (ch:Int):AGive Tryz.prog 13 [.h Y,.i ((ci:Nat):Int),.i ch] [] (.i (((A5 Y ci ch)).1)) [.h Y,.i ((((A5 Y ci ch)).2.1:Nat):Int),.i (((A5 Y ci ch)).2.2)]:=by
 refine V3 (tt:=tt) Qb Tryz.func13 (fn:=Tryz.f13) rfl (by unfold E9;kernel_rfl) (zD rfl) (zD rfl) rfl rfl λw0 F0 hG=> ?_
 refine sn Qb [0,2] [60000] p0 ?_;obtain ⟨x1,hx1⟩:=nm (Z2 Y ci ch [0,1,2,0,1,3,-1]);refine tn Qb [0,2] [60000] (po 2 (.give none (.i x1.1) [.h Y,.i (x1.2.1:Int),.i x1.2.2]) (px (Xk (hx1▸W4 Y ci ch [0,1,2,0,1,3,-1] (zE _))) p0)) <| Qe ?_
 have hE2:A5 Y ci ch=(x1.1,x1.2.1,x1.2.2):=Zt hx1 (rfl);exact B9 [] (congrArg (λz=>(.i z.1:AV)) hE2.symm) (congrArg (λz=>([.h Y,.i (z.2.1:Int),.i z.2.2]:List C)) hE2.symm)
def stA (l:List Bl) (nm:ByteArray) (v:B3):List Bl:=(Yh (0,0,false,0,l) nm v).2.2.2.2
theorem Qbk (f:Xe) (nm:ByteArray) (v:B3):Yh f nm v=(f.1,f.2.1,f.2.2.1,f.2.2.2.1,stA f.2.2.2.2 nm v):=by
 obtain ⟨a,b,c,d,l⟩:=f;unfold stA Yh;dsimp only;rw[U2 (f:=L5 nm) (e:=C5) (p:=λa=> !(a.1.toList==nm.toList)) (g:=id) (λ_ _ _=>rfl)];simp only[Out.on];cases (v.1 !=(0:Int)) with
 | false=>rfl
 | true=>
   simp only[cond_true];generalize C5 _ _=l'
   obtain ⟨t,ht⟩:=KV (f:=C6 nm) (e:=L6) (λk a s r=>by
    unfold C6;generalize (Op.bytesLess a.1.toList nm.toList|| a.1.toList==nm.toList)=c;cases c<;>simp) l' 0 ()
   rw[ht]
def ints4:List Int:= [0,1,2,3]
def A1:List (List Bl):= []::ints4.map λn=>stA [] ⟨#[97]⟩ (Zc n)
def A2:List (List Bl):=A1++A1.flatMap λl=>ints4.map λn=>stA l ⟨#[98]⟩ (Zc n)
def A3:List (List Bl):=A2++A2.flatMap λl=>([⟨#[105,110,107]⟩,⟨#[115,101,97]⟩]:List ByteArray).map λs=>stA l ⟨#[110]⟩ (X5 s)
def A4:List (List Bl):=A3++A3.flatMap λl=>([⟨#[114,101,100]⟩,⟨#[98,108,117,101]⟩]:List ByteArray).map λs=>stA l ⟨#[116]⟩ (X5 s)
theorem in4 {x:Int} (h0:0<=x) (h1:x<4):x∈ints4:=by
 unfold ints4;simp only[List.mem_cons,List.not_mem_nil,or_false];omega
theorem TY (Y:List UInt8) (ci:Nat) (ch:Int) {list:List ByteArray} (hp:0<list.length):(X2 Y ci ch list).1∈list:=by
 unfold X2 lt;have hb:=Q7 Y ci ch (list.length:Int);generalize Ql Y ci ch (list.length:Int)=x at hb⊢;exact List.mem_of_getElem? (Wg (by omega))
structure FOk (id:Int) (S:List (List Bl)) (f:Xe):Prop where
 h1:f.1=id
 h2:0<=f.2.1
 h3:f.2.1<=2
 h4:0<=f.2.2.2.1
 h5:f.2.2.2.1<=6
 h6:f.2.2.2.2∈S
theorem GN {id:Int} {S S':List (List Bl)} {f:Xe} {nm:ByteArray} {v:B3} (h:FOk id S f) (hm:∀l,l∈S->stA l nm v∈S'):FOk id S' (Yh f nm v):=by
 rw[Qbk];exact ⟨h.h1,h.h2,h.h3,h.h4,h.h5,hm _ h.h6⟩
theorem GO {id:Int} {S S':List (List Bl)} {f:Xe} (h:FOk id S f) (hm:∀l,l∈S->l∈S'):FOk id S' f:=⟨h.h1,h.h2,h.h3,h.h4,h.h5,hm _ h.h6⟩
theorem Qm5 {x:Int} (h0:0<=x) (h1:x<4):∀l,l∈([[]]:List (List Bl))->stA l ⟨#[97]⟩ (Zc x)∈A1:=λl hl=>by
 rw[List.mem_singleton.1 hl];exact List.mem_cons_of_mem _ (zY.2 ⟨x,in4 h0 h1,rfl⟩)
theorem lf {id:Int} {S:List (List Bl)} {α:Type} {t:α} {f:α->Xe×Nat×Int} (Q:α->Prop) (h:Q t) (k:∀x,Q x->FOk id S (f x).1):FOk id S (lt t f).1:=k t h
theorem Qix (Y:List UInt8) (ci:Nat) (ch id:Int):FOk id A4 (X3 Y ci ch id).1:=by
 have bd:∀(ci:Nat) (ch:Int) (n:Int),0<n->0<=(Ql Y ci ch n).1/\(Ql Y ci ch n).1<n:=λci ch n h=>⟨(Q7 Y ci ch n).1,(Q7 Y ci ch n).2.1 h⟩
 unfold X3;refine lf (λx:Int×Nat×Int=>0<=x.1/\x.1<3) (bd ci ch 3 (by decide)) λx1 hx1=> ?_
 refine lf (λ_=>True) trivial λx2 _=> ?_
 refine lf (λ_=>True) trivial λx3 _=> ?_
 refine lf (λx:Int×Nat×Int=>0<=x.1/\x.1<=6) ?_ λx4 hx4=> ?_
 . cases x3.1 with
   | true=>simp only[cond_true];exact Qiu (P:=λx:Int×Nat×Int=>0<=x.1/\x.1<=6) (λx:Int×Nat×Int=>0<=x.1/\x.1<7) (bd _ _ 7 (by decide)) λx h=>⟨h.1,by have:=h.2;show x.1<=6;omega⟩
   | false=>exact ⟨Int.le_refl 0,by show (0:Int)<=6;decide⟩
 refine lf (λ_=>True) trivial λx7 _=> ?_
 have f0:FOk id [[]] (id,x1.1,x2.1,x4.1, []):=⟨rfl,hx1.1,by have:=hx1.2;show x1.1<=2;omega,hx4.1,hx4.2,by simp⟩;refine lf (λz:Xe×Nat×Int=>FOk id A1 z.1) ?_ λx8 hx8=> ?_
 . cases x7.1 with
   | true=>exact GO f0 λl hl=>by rw[List.mem_singleton.1 hl];exact List.mem_cons_self
   | false=>simp only[zS,cond_true];exact lf (S:=A1) (λx:Int×Nat×Int=>0<=x.1/\x.1<4) (bd _ _ 4 (by decide)) λy hy=>GN f0 (Qm5 hy.1 hy.2)
 refine lf (λ_=>True) trivial λx11 _=> ?_
 refine lf (λz:Xe×Nat×Int=>FOk id A2 z.1) ?_ λx12 hx12=> ?_
 . cases x11.1 with
   | false=>exact GO hx8 λl hl=>zU _ hl
   | true=>simp only[cond_true];exact lf (S:=A2) (λx:Int×Nat×Int=>0<=x.1/\x.1<4) (bd _ _ 4 (by decide)) λy hy=>GN hx8 λl hl=>zT _ (zW.2 ⟨l,hl,zY.2 ⟨y.1,in4 hy.1 hy.2,rfl⟩⟩)
 refine lf (λ_=>True) trivial λx15 _=> ?_
 refine lf (λz:Xe×Nat×Int=>FOk id A3 z.1) ?_ λx16 hx16=> ?_
 . cases x15.1 with
   | true=>exact GO hx12 λl hl=>zU _ hl
   | false=>simp only[zS,cond_true];exact lf (S:=A3) (λx:ByteArray×Nat×Int=>x.1∈([⟨#[105,110,107]⟩,⟨#[115,101,97]⟩]:List ByteArray)) (TY Y _ _ (zE _)) λy hy=>GN hx12 λl hl=>zT _ (zW.2 ⟨l,hl,zY.2 ⟨y.1,hy,rfl⟩⟩)
 refine lf (λ_=>True) trivial λx19 _=> ?_
 cases x19.1 with
 | false=>exact GO hx16 λl hl=>zU _ hl
 | true=>simp only[cond_true];exact lf (S:=A4) (λx:ByteArray×Nat×Int=>x.1∈([⟨#[114,101,100]⟩,⟨#[98,108,117,101]⟩]:List ByteArray)) (TY Y _ _ (zE _)) λy hy=>GN hx16 λl hl=>zT _ (zW.2 ⟨l,hl,zY.2 ⟨y.1,hy,rfl⟩⟩)
def Qe1 (l:List Bl):Bool:=match Xz (Jo Q5 (0,0,false,0,l)) V4 l 0 () with
 | .brk _=>true
 | .ret _=>false
theorem Ql1:A4.all Qe1=true:=by kernel_rfl
theorem TZ:K1 Q5=true:=by kernel_rfl
theorem Qe2 {id i:Int} {f:Xe} (h:FOk id A4 f) (h1:1<=i) (h2:i<=60):Yd Q5 (i,f.2)=true:=by
 obtain ⟨a,o,s,x,l⟩:=f;have hl:=List.all_eq_true.1 Ql1 l h.h6
 have e:Xz (Jo Q5 (i,o,s,x,l)) V4 l 0 ()= .brk ():=by
  have e2:Jo Q5 (i,o,s,x,l)=Jo Q5 (0,0,false,0,l):=rfl;rw[e2];unfold Qe1 at hl;split at hl
  . rename_i t ht;exact ht
  cases hl
 have h2':=h.h2;have h3':=h.h3;have h4':=h.h4;have h5':=h.h5;dsimp only at h2' h3' h4' h5';show Out.on (Xz (Jo Q5 (i,o,s,x,l)) V4 l 0 ()) _=true;rw[e];simp only[Out.on,TZ,Xf,Bool.true_and];rw[decide_eq_true (show i>=1 from h1),decide_eq_true (show i<=60 from h2),decide_eq_true (show o>=0 from h2'),decide_eq_true (show o<=2 from h3'),decide_eq_true (show x>=0 from h4'),decide_eq_true (show x<=60 by omega)];rfl
structure S5 (s:Qz):Prop where
 vs:VS s
 sch:s.1=Q5
 nx:s.2.2<=8+s.2.1.length
theorem Qkq {s:Qz} {id:Int} {f:Xe} (h:S5 s) (hl:s.2.1.length<12) (hf:FOk id A4 f):(Xx s f).1.2.1.length=s.2.1.length+1/\S5 (Xx s f).1:=by
 have hn:s.2.2<=60:=by have:=h.nx;omega
 have hv:Yd s.1 (s.2.2,f.2)=true:=by rw[h.sch];exact Qe2 hf h.vs.nx1 hn
 rw[Qei h.vs hl hn hv];exact ⟨by simp,Qeh h.vs hl hn hv,h.sch,by have:=h.nx;simp;omega⟩
theorem Qiy (Y:List UInt8) (ci:Nat) (ch:Int):S5 (Vy Y ci ch).1/\(Vy Y ci ch).1.2.1.length<=7:=by
 unfold Vy
 obtain ⟨t,ht⟩:=Tp (f:=Wd Y) (λs r=>by
  unfold Wd lt;dsimp only;generalize decide (_<IntKind.i64.wrap _)=c;cases c<;>simp) 8 (0,(K9 Q5),ci,ch)
 have hj:VS t.1/\t.1.1=Q5/\t.1.2.2<=8/\t.1.2.1.length<=7:=ZV (f:=Wd Y) (I:=λs=>VS s.2.1/\s.2.1.1=Q5/\s.2.1.2.2<=1+s.1/\(s.2.1.2.1.length:Int)<=s.1/\0<=s.1/\s.1<=7) (J:=λt=>VS t.1/\t.1.1=Q5/\t.1.2.2<=8/\t.1.2.1.length<=7) (λs s' hi h=>by
  unfold Wd lt at h;have hb:=Q7 Y s.2.2.1 s.2.2.2 7;generalize Ql Y s.2.2.1 s.2.2.2 7=x at h hb;have e:IntKind.i64.wrap (1+x.1)=1+x.1:=IntWalk.i64_in _ (by omega);simp only[e] at h;obtain ⟨i1,i2,i3,i4,i5,i6⟩:=hi;by_cases hc:s.1<1+x.1
  . simp only[decide_eq_true hc,cond_true] at h;have h:=Rd.next.inj h;have e3:IntKind.i64.wrap (s.1+1)=s.1+1:=IntWalk.i64_in _ (by omega);rw[←h,e3];obtain ⟨c1,c2,c3,c4,c5⟩:=LX (X3 Y x.2.1 x.2.2 1).1 i1;refine ⟨c1,c2.trans i2, ?_, ?_, ?_, ?_⟩<;>dsimp only<;>omega
  . simp only[decide_eq_false hc,cond_false] at h;cases h) (λs t hi h=>by
  unfold Wd lt at h;generalize Ql Y s.2.2.1 s.2.2.2 7=x at h;obtain ⟨i1,i2,i3,i4,i5,i6⟩:=hi;by_cases hc:s.1<IntKind.i64.wrap (1+x.1)
  . simp only[decide_eq_true hc,cond_true] at h;cases h
  . simp only[decide_eq_false hc,cond_false] at h;have h:=Rd.brk.inj h;rw[←h];exact ⟨i1,i2,by dsimp only;omega,by dsimp only;omega⟩) (by
  refine ⟨⟨TZ,by simp[K9],by simp[K9],by simp[K9],λi a h=>by simp[K9] at h,λi a b h=>by simp[K9] at h⟩,rfl, ?_, ?_, ?_, ?_⟩
  . show (1:Int)<=1+0;decide
  . show ((0:Nat):Int)<=0;decide
  . show (0:Int)<=0;decide
  show (0:Int)<=7;decide) (QF Y ci ch _) ht
 rw[ht];simp only[Out.on];obtain ⟨j1,j2,j3,j4⟩:=hj;have fin:S5 t.1/\t.1.2.1.length<=7:=⟨⟨j1,j2,by omega⟩,j4⟩;cases decide ((t.1.2.1.length:Int)>(2:Int)) with
 | false=>exact fin
 | true=>
   simp only[cond_true];refine Qiu (P:=λz:Qz×Nat×Int=>S5 z.1/\z.1.2.1.length<=7) (λ_=>True) trivial λx5 _=> ?_
   cases x5.1 with
   | false=>exact fin
   | true=>
     obtain ⟨d1,d2,d3,d4⟩:=LY ((nth t.1.2.1 1).1) j1;exact ⟨⟨d1,d2.trans j2,by show _<=_;dsimp only[cond_true];omega⟩,by dsimp only[cond_true];omega⟩
theorem Qkr:A4.all (λl=>decide (l.length<=4))=true:=by kernel_rfl
theorem Qks (Y:List UInt8) (ci:Nat) (ch id:Int):zF (X3 Y ci ch id).1.2.2.2.2<=4:=of_decide_eq_true (List.all_eq_true.1 Qkr _ (Qix Y ci ch id).h6)
theorem Qe3 (Y:List UInt8) (ci:Nat) (ch:Int):1<=(Uq Y ci ch).1.length/\(Uq Y ci ch).1.length<=4:=by
 unfold Uq
 obtain ⟨t,ht⟩:=Tp (f:=Wv Y) (λs r=>by
  unfold Wv lt;generalize Ql Y s.2.2.1 s.2.2.2 4=x;simp only;generalize decide (s.2.1<1+x.1)=c;cases c<;>simp) 5 ([],0,ci,ch)
 have:=ZV (f:=Wv Y) (I:=λs=>(s.1.length:Int)=s.2.1/\s.2.1<=4) (J:=λt=>1<=t.1.length/\t.1.length<=4) (λs s' hi h=>by
  unfold Wv lt at h;have hb:=Q7 Y s.2.2.1 s.2.2.2 4;generalize Ql Y s.2.2.1 s.2.2.2 4=x at h hb;by_cases hc:s.2.1<1+x.1
  . simp only[decide_eq_true hc,cond_true] at h;have h:=Rd.next.inj h;rw[←h];refine ⟨?_, ?_⟩
    . simp;omega
    show s.2.1+1<=4;omega
  . simp only[decide_eq_false hc,cond_false] at h;cases h) (λs t hi h=>by
  unfold Wv lt at h;have hb:=Q7 Y s.2.2.1 s.2.2.2 4;generalize Ql Y s.2.2.1 s.2.2.2 4=x at h hb;by_cases hc:s.2.1<1+x.1
  . simp only[decide_eq_true hc,cond_true] at h;cases h
  simp only[decide_eq_false hc,cond_false] at h;have h:=Rd.brk.inj h;rw[←h];dsimp only;omega) (n:=5) (s:=([],0,ci,ch)) (t:=t) ⟨rfl,by show (0:Int)<=4;decide⟩ (JE Y ci ch) ht
 rw[ht];exact this
open GoE (enc wide)
def Ad (Y:List UInt8) (ci:Nat) (ch:Int):B3×Nat×Int:=(lt (Ql Y ci ch 5) (λx1=>(bif (x1.1==(0:Int)) then ((0,0,⟨#[]⟩),x1.2.1,x1.2.2) else (lt (α:=Bool) (bif (x1.1==(1:Int)) then (x1.1==(1:Int)) else (x1.1==(2:Int))) (λx4=>(bif x4 then (lt (Ql Y x1.2.1 x1.2.2 5) (λx7=>((Zc x7.1),x7.2.1,x7.2.2))) else (lt (X2 Y x1.2.1 x1.2.2 [⟨#[114,101,100]⟩,⟨#[98,108,117,101]⟩,⟨#[105,110,107]⟩]) (λx9=>((X5 x9.1),x9.2.1,x9.2.2)))))))))
theorem CJ (Y:List UInt8) (ci:Nat) (ch:Int):AGive Tryz.prog 226 [.h Y,.i ((ci:Nat):Int),.i ch] [] (.a [.i ((((Ad Y ci ch)).1).1),.i ((((Ad Y ci ch)).1).2.1),.s ((((Ad Y ci ch)).1).2.2)]) [.h Y,.i ((((Ad Y ci ch)).2.1:Nat):Int),.i (((Ad Y ci ch)).2.2)]:=by
 refine V3 (tt:=tt) Qb Tryz.func226 (fn:=Tryz.f226) rfl (by unfold E9;kernel_rfl) (zD rfl) (zD rfl) rfl rfl λw0 F0 hG=> ?_
 refine sn Qb [0,2] [2,60000] p0 <| Qc ?_
 obtain ⟨x1,hx1⟩:=nm (Ql Y ci ch 5);have hbx1:=hx1▸Q7 Y ci ch 5;refine tn Qb [0,2,4] [2,60000] (po 1 (.give none (.i x1.1) [.h Y,.i (x1.2.1:Int),.i x1.2.2]) (px (Xk (hx1▸Xy Y ci ch 5)) p0)) <| Qv <| tu Qb [(2,.p 2 0),(4,.i x1.1),(5,.b (x1.1==(0:Int)))] [] [(2, [.i 0,.i 0,.s ⟨#[]⟩]),(60000, [.h Y,.i (x1.2.1:Int),.i x1.2.2])] [60000] p0 <| ck (x1.1==(0:Int)) (λh2=> ?_) (λh2=> ?_)
 ·refine su Qb [] [4,5] [] [] p0 <| Qe ?_
  have hE3:Ad Y ci ch=((0,0,⟨#[]⟩),x1.2.1,x1.2.2):=Zt hx1 (Q4 h2 (rfl));exact B9 [] (congrArg (λz=>(.a [.i z.1.1,.i z.1.2.1,.s z.1.2.2]:AV)) hE3.symm) (congrArg (λz=>([.h Y,.i (z.2.1:Int),.i z.2.2]:List C)) hE3.symm)
 refine Qc <| sn Qb [0,2,4,8] [2,60000] p0 <| mz [(8,.b (x1.1==(1:Int)))] [5] [] [] ?_
 obtain ⟨x4,hx4⟩:=nm ((bif (x1.1==(1:Int)) then (x1.1==(1:Int)) else (x1.1==(2:Int))));refine jn [(8,.b x4)] [4,8] [] [] (x1.1==(1:Int)) (λh5=> ?_) (λh5=> ?_) ?_
 ·refine ckt h5 ?_;refine Qg ?_;obtain rfl:x4=(x1.1==(1:Int)):=hx4.symm.trans (show (bif (x1.1==(1:Int)) then (x1.1==(1:Int)) else (x1.1==(2:Int)))=(x1.1==(1:Int)) from Q4 h5 (rfl));exact zA (by kernel_rfl)
 ·refine ckf h5 ?_;refine rn Qb [0,2,8] [2,60000] p0 ?_;obtain rfl:x4=(x1.1==(2:Int)):=hx4.symm.trans (show (bif (x1.1==(1:Int)) then (x1.1==(1:Int)) else (x1.1==(2:Int)))=(x1.1==(2:Int)) from Qi h5 (rfl));exact zA (by kernel_rfl)
 refine ck x4 (λh6=> ?_) (λh6=> ?_)
 ·obtain ⟨x7,hx7⟩:=nm (Ql Y x1.2.1 x1.2.2 5);have hbx7:=hx7▸Q7 Y x1.2.1 x1.2.2 5;refine sn Qb [0,2] [2,60000] (po 1 (.give none (.i x7.1) [.h Y,.i (x7.2.1:Int),.i x7.2.2]) (px (Xk (hx7▸Xy Y x1.2.1 x1.2.2 5)) (pc 2 (C4 x7.1) p0))) <| Qe ?_
  have hE8:Ad Y ci ch=((Zc x7.1),x7.2.1,x7.2.2):=Zt hx1 (Qi h2 (Zt hx4 (Q4 h6 (Zt hx7 (rfl)))));exact B9 [] (congrArg (λz=>(.a [.i z.1.1,.i z.1.2.1,.s z.1.2.2]:AV)) hE8.symm) (congrArg (λz=>([.h Y,.i (z.2.1:Int),.i z.2.2]:List C)) hE8.symm)
 refine Qg ?_;obtain ⟨x9,hx9⟩:=nm (X2 Y x1.2.1 x1.2.2 [⟨#[114,101,100]⟩,⟨#[98,108,117,101]⟩,⟨#[105,110,107]⟩]);refine sn Qb [0,2] [2,60000] (po 2 (.give none (.s x9.1) [.h Y,.i (x9.2.1:Int),.i x9.2.2]) (px (Xk (hx9▸Vh Y x1.2.1 x1.2.2 [⟨#[114,101,100]⟩,⟨#[98,108,117,101]⟩,⟨#[105,110,107]⟩] (zE _))) (pc 3 (Ch x9.1) p0))) <| Qe ?_
 have hE10:Ad Y ci ch=((X5 x9.1),x9.2.1,x9.2.2):=Zt hx1 (Qi h2 (Zt hx4 (Qi h6 (Zt hx9 (rfl)))));exact B9 [] (congrArg (λz=>(.a [.i z.1.1,.i z.1.2.1,.s z.1.2.2]:AV)) hE10.symm) (congrArg (λz=>([.h Y,.i (z.2.1:Int),.i z.2.2]:List C)) hE10.symm)
def Al (Y:List UInt8) (ci:Nat) (ch:Int):B3×Nat×Int:=(lt (Ad Y ci ch) (λx1=>(lt (Ql Y x1.2.1 x1.2.2 10) (λx2=>(bif (x2.1==(0:Int)) then (lt (Ql Y x2.2.1 x2.2.2 5) (λx4=>(((x4.1-1),x1.1.2.1,x1.1.2.2),x4.2.1,x4.2.2))) else (bif (x2.1==(1:Int)) then (lt (Z2 Y x2.2.1 x2.2.2 [-1,0,999,1000,9223372036854775807]) (λx7=>((x1.1.1,x7.1,x1.1.2.2),x7.2.1,x7.2.2))) else (bif (x2.1==(2:Int)) then (lt (X2 Y x2.2.1 x2.2.2 [⟨#[]⟩,⟨#[65]⟩,⟨#[97,98,99,100,101,102,103]⟩,⟨#[97,98,99,100,101,102]⟩,⟨#[97,32,98]⟩]) (λx10=>((x1.1.1,x1.1.2.1,x10.1),x10.2.1,x10.2.2))) else (x1.1,x2.2.1,x2.2.2))))))))
theorem WD (Y:List UInt8) (ci:Nat) (ch:Int):AGive Tryz.prog 185 [.h Y,.i ((ci:Nat):Int),.i ch] [] (.a [.i ((((Al Y ci ch)).1).1),.i ((((Al Y ci ch)).1).2.1),.s ((((Al Y ci ch)).1).2.2)]) [.h Y,.i ((((Al Y ci ch)).2.1:Nat):Int),.i (((Al Y ci ch)).2.2)]:=by
 refine V3 (tt:=tt) Qb Tryz.func185 (fn:=Tryz.f185) rfl (by unfold E9;kernel_rfl) (zD rfl) (zD rfl) rfl rfl λw0 F0 hG=> ?_
 refine sn Qb [0,2] [2,60000] p0 ?_;obtain ⟨x1,hx1⟩:=nm (Ad Y ci ch);refine tn Qb [0,2,3] [2,3,60000] (po 1 (.give none (.a [.i x1.1.1,.i x1.1.2.1,.s x1.1.2.2]) [.h Y,.i (x1.2.1:Int),.i x1.2.2]) (px (Xk (hx1▸CJ Y ci ch)) p0)) <| Qc ?_
 obtain ⟨x2,hx2⟩:=nm (Ql Y x1.2.1 x1.2.2 10);have hbx2:=hx2▸Q7 Y x1.2.1 x1.2.2 10;refine tu Qb [(2,.p 2 0),(3,.p 3 0),(7,.i x2.1)] [] [(2, [.i 0,.i 0,.s ⟨#[]⟩]),(3, [.i x1.1.1,.i x1.1.2.1,.s x1.1.2.2]),(60000, [.h Y,.i (x2.2.1:Int),.i x2.2.2])] [60000] (po 1 (.give none (.i x2.1) [.h Y,.i (x2.2.1:Int),.i x2.2.2]) (px (Xk (hx2▸Xy Y x1.2.1 x1.2.2 10)) p0)) <| Qv <| sn Qb [0,2,3,7,8] [2,3,60000] p0 <| ck (x2.1==(0:Int)) (λh3=> ?_) (λh3=> ?_)
 ·have h3d:=eq_of_beq h3;obtain ⟨x4,hx4⟩:=nm (Ql Y x2.2.1 x2.2.2 5);have hbx4:=hx4▸Q7 Y x2.2.1 x2.2.2 5;refine qn Qb [0,2,3] [2,3,60000] (po 1 (.give none (.i x4.1) [.h Y,.i (x4.2.1:Int),.i x4.2.2]) (px (Xk (hx4▸Xy Y x2.2.1 x2.2.2 5)) (pe 2 (Jl (IntWalk.i64_in (x4.1-1) (by omega))) p0))) ?_;refine tu Qb [] [3,7] [(2, [.i (x4.1-1),.i x1.1.2.1,.s x1.1.2.2]),(60000, [.h Y,.i (x4.2.1:Int),.i x4.2.2])] [2,3,60000] p0 <| Qe ?_
  have hE5:Al Y ci ch=(((x4.1-1),x1.1.2.1,x1.1.2.2),x4.2.1,x4.2.2):=Zt hx1 (Zt hx2 (Q4 h3 (Zt hx4 (rfl))));exact B9 [] (congrArg (λz=>(.a [.i z.1.1,.i z.1.2.1,.s z.1.2.2]:AV)) hE5.symm) (congrArg (λz=>([.h Y,.i (z.2.1:Int),.i z.2.2]:List C)) hE5.symm)
 refine tn Qb [0,2,3,7,14] [2,3,60000] p0 <| ck (x2.1==(1:Int)) (λh6=> ?_) (λh6=> ?_)
 ·obtain ⟨x7,hx7⟩:=nm (Z2 Y x2.2.1 x2.2.2 [-1,0,999,1000,9223372036854775807]);refine qu Qb [] [7] [(3, [.i x1.1.1,.i x7.1,.s x1.1.2.2]),(60000, [.h Y,.i (x7.2.1:Int),.i x7.2.2])] [3,60000] (po 2 (.give none (.i x7.1) [.h Y,.i (x7.2.1:Int),.i x7.2.2]) (px (Xk (hx7▸W4 Y x2.2.1 x2.2.2 [-1,0,999,1000,9223372036854775807] (zE _))) p0)) ?_;refine sn Qb [0,2] [2,60000] p0 <| Qe ?_
  have hE8:Al Y ci ch=((x1.1.1,x7.1,x1.1.2.2),x7.2.1,x7.2.2):=Zt hx1 (Zt hx2 (Qi h3 (Q4 h6 (Zt hx7 (rfl)))));exact B9 [] (congrArg (λz=>(.a [.i z.1.1,.i z.1.2.1,.s z.1.2.2]:AV)) hE8.symm) (congrArg (λz=>([.h Y,.i (z.2.1:Int),.i z.2.2]:List C)) hE8.symm)
 refine tu Qb [(20,.b (x2.1==(2:Int)))] [7] [] [] p0 <| ck (x2.1==(2:Int)) (λh9=> ?_) (λh9=> ?_)
 ·obtain ⟨x10,hx10⟩:=nm (X2 Y x2.2.1 x2.2.2 [⟨#[]⟩,⟨#[65]⟩,⟨#[97,98,99,100,101,102,103]⟩,⟨#[97,98,99,100,101,102]⟩,⟨#[97,32,98]⟩]);refine rn Qb [0,2,3] [2,3,60000] (po 2 (.give none (.s x10.1) [.h Y,.i (x10.2.1:Int),.i x10.2.2]) (px (Xk (hx10▸Vh Y x2.2.1 x2.2.2 [⟨#[]⟩,⟨#[65]⟩,⟨#[97,98,99,100,101,102,103]⟩,⟨#[97,98,99,100,101,102]⟩,⟨#[97,32,98]⟩] (zE _))) p0)) ?_;refine tn Qb [0,2] [2,60000] p0 <| Qe ?_
  have hE11:Al Y ci ch=((x1.1.1,x1.1.2.1,x10.1),x10.2.1,x10.2.2):=Zt hx1 (Zt hx2 (Qi h3 (Qi h6 (Q4 h9 (Zt hx10 (rfl))))));exact B9 [] (congrArg (λz=>(.a [.i z.1.1,.i z.1.2.1,.s z.1.2.2]:AV)) hE11.symm) (congrArg (λz=>([.h Y,.i (z.2.1:Int),.i z.2.2]:List C)) hE11.symm)
 refine Qg <| sn Qb [0,2] [2,60000] p0 <| Qe ?_
 have hE12:Al Y ci ch=(x1.1,x2.2.1,x2.2.2):=Zt hx1 (Zt hx2 (Qi h3 (Qi h6 (Qi h9 (rfl)))));exact B9 [] (congrArg (λz=>(.a [.i z.1.1,.i z.1.2.1,.s z.1.2.2]:AV)) hE12.symm) (congrArg (λz=>([.h Y,.i (z.2.1:Int),.i z.2.2]:List C)) hE12.symm)
def D8 (Y:List UInt8) (ci:Nat) (ch:Int):ByteArray×Nat×Int:=(lt (X2 Y ci ch [⟨#[97]⟩,⟨#[98]⟩,⟨#[110]⟩,⟨#[116]⟩,⟨#[97]⟩,⟨#[98]⟩,⟨#[116]⟩,⟨#[122]⟩,⟨#[65]⟩,⟨#[]⟩]) (λx1=>(x1.1,x1.2.1,x1.2.2)))
theorem JI (Y:List UInt8) (ci:Nat) (ch:Int):AGive Tryz.prog 186 [.h Y,.i ((ci:Nat):Int),.i ch] [] (.s (((D8 Y ci ch)).1)) [.h Y,.i ((((D8 Y ci ch)).2.1:Nat):Int),.i (((D8 Y ci ch)).2.2)]:=by
 refine V3 (tt:=tt) Qb Tryz.func186 (fn:=Tryz.f186) rfl (by unfold E9;kernel_rfl) (zD rfl) (zD rfl) rfl rfl λw0 F0 hG=> ?_
 refine sn Qb [0,2] [60000] p0 ?_;obtain ⟨x1,hx1⟩:=nm (X2 Y ci ch [⟨#[97]⟩,⟨#[98]⟩,⟨#[110]⟩,⟨#[116]⟩,⟨#[97]⟩,⟨#[98]⟩,⟨#[116]⟩,⟨#[122]⟩,⟨#[65]⟩,⟨#[]⟩]);refine tn Qb [0,2] [60000] (po 2 (.give none (.s x1.1) [.h Y,.i (x1.2.1:Int),.i x1.2.2]) (px (Xk (hx1▸Vh Y ci ch [⟨#[97]⟩,⟨#[98]⟩,⟨#[110]⟩,⟨#[116]⟩,⟨#[97]⟩,⟨#[98]⟩,⟨#[116]⟩,⟨#[122]⟩,⟨#[65]⟩,⟨#[]⟩] (zE _))) p0)) <| Qe ?_
 have hE2:D8 Y ci ch=(x1.1,x1.2.1,x1.2.2):=Zt hx1 (rfl);exact B9 [] (congrArg (λz=>(.s z.1:AV)) hE2.symm) (congrArg (λz=>([.h Y,.i (z.2.1:Int),.i z.2.2]:List C)) hE2.symm)
def Cj (Y:List UInt8) (ci:Nat) (ch:Int):(List Jf)×Nat×Int:=(lt (Ql Y ci ch 8) (λx1=>(bif (x1.1==(0:Int)) then (lt (Ql Y x1.2.1 x1.2.2 4) (λx3=>(zH x3.1.toNat Q5,x3.2.1,x3.2.2))) else (bif (x1.1==(1:Int)) then (lt (Ql Y x1.2.1 x1.2.2 4) (λx8=>(lt (Ql Y x8.2.1 x8.2.2 5) (λx9=>(zG Q5 x8.1.toNat ((nth Q5 x8.1.toNat).1,(x9.1-1)),x9.2.1,x9.2.2))))) else (bif (x1.1==(2:Int)) then (lt (Ql Y x1.2.1 x1.2.2 4) (λx15=>(lt (D8 Y x15.2.1 x15.2.2) (λx16=>(zG Q5 x15.1.toNat (x16.1,(nth Q5 x15.1.toNat).2),x16.2.1,x16.2.2))))) else (bif (x1.1==(3:Int)) then (lt (X2 Y x1.2.1 x1.2.2 [⟨#[117]⟩,⟨#[122]⟩,⟨#[97]⟩]) (λx22=>(Q5++ [((x22.1,1):Jf)],x22.2.1,x22.2.2))) else (bif (x1.1==(4:Int)) then (Q5++ [((⟨#[117]⟩,1):Jf),((⟨#[118]⟩,2):Jf)],x1.2.1,x1.2.2) else (Q5,x1.2.1,x1.2.2))))))))
theorem NG (Y:List UInt8) (ci:Nat) (ch:Int):AGive Tryz.prog 138 [.h Y,.i ((ci:Nat):Int),.i ch] [] (.h (((Cj Y ci ch)).1)) [.h Y,.i ((((Cj Y ci ch)).2.1:Nat):Int),.i (((Cj Y ci ch)).2.2)]:=by
 refine V3 (tt:=tt) Qb Tryz.func138 (fn:=Tryz.f138) rfl (by unfold E9;kernel_rfl) (zD rfl) (zD rfl) rfl rfl λw0 F0 hG=> ?_
 have hu4:zF Q5=4:=rfl;refine sn Qb [0,2] [60000] p0 <| tn Qb [0,2,3] [60000] (pc 0 (QE) p0) <| Qc ?_
 obtain ⟨x1,hx1⟩:=nm (Ql Y ci ch 8);have hbx1:=hx1▸Q7 Y ci ch 8;refine tu Qb [(2,.e 0),(3,.o 256 Q5),(6,.i x1.1)] [] [(60000, [.h Y,.i (x1.2.1:Int),.i x1.2.2])] [60000] (po 1 (.give none (.i x1.1) [.h Y,.i (x1.2.1:Int),.i x1.2.2]) (px (Xk (hx1▸Xy Y ci ch 8)) p0)) <| Qv <| sn Qb [0,2,3,6,7] [60000] p0 <| ck (x1.1==(0:Int)) (λh2=> ?_) (λh2=> ?_)
 ·have h2d:=eq_of_beq h2;obtain ⟨x3,hx3⟩:=nm (Ql Y x1.2.1 x1.2.2 4);have hbx3:=hx3▸Q7 Y x1.2.1 x1.2.2 4;refine wT 3 0 (.own true 256) Q5 (λhw4 hl5=> ?_);refine qn Qb [0,2,3] [60000] (po 2 (.give none (.i x3.1) [.h Y,.i (x3.2.1:Int),.i x3.2.2]) (px (Xk (hx3▸Xy Y x1.2.1 x1.2.2 4)) (pe 3 (KB (.vw 256) 2 x3.1.toNat x3.1 Q5 rfl) (px (Ph (lo:=0) (hi:=x3.1) (n:=(zF (eL Q5))) (IT (by omega) (by omega) (by omega))) p0)))) ?_;refine tu Qb [(2,.v 256 (zH x3.1.toNat Q5))] [2,3,6] [(60000, [.h Y,.i (x3.2.1:Int),.i x3.2.2])] [60000] p0 <| Qe ?_
  have hE6:Cj Y ci ch=(zH x3.1.toNat Q5,x3.2.1,x3.2.2):=Zt hx1 (Q4 h2 (Zt hx3 (rfl)));exact B9 [256] (congrArg (λz=>(.h z.1:AV)) hE6.symm) (congrArg (λz=>([.h Y,.i (z.2.1:Int),.i z.2.2]:List C)) hE6.symm)
 have h2d:=Y4 h2;refine tn Qb [0,2,3,6,13] [60000] p0 <| ck (x1.1==(1:Int)) (λh7=> ?_) (λh7=> ?_)
 ·have h7d:=eq_of_beq h7;obtain ⟨x8,hx8⟩:=nm (Ql Y x1.2.1 x1.2.2 4);have hbx8:=hx8▸Q7 Y x1.2.1 x1.2.2 4;obtain ⟨x9,hx9⟩:=nm (Ql Y x8.2.1 x8.2.2 5);have hbx9:=hx9▸Q7 Y x8.2.1 x8.2.2 5;refine wT 3 0 (.own true 256) Q5 (λhw11 hl12=> ?_);have hx10:=ng Q5 x8.1.toNat;refine qu Qb [(3,.one (.slc (.own true 256) 2 (setRow (eL Q5) x8.1.toNat 1 [.i (x9.1-1)])))] [3,6] [(60000, [.h Y,.i (x9.2.1:Int),.i x9.2.2])] [60000] (po 2 (.give none (.i x8.1) [.h Y,.i (x8.2.1:Int),.i x8.2.2]) (px (Xk (hx8▸Xy Y x1.2.1 x1.2.2 4)) (po 4 (.give none (.i x9.1) [.h Y,.i (x9.2.1:Int),.i x9.2.2]) (px (Xk (hx9▸Xy Y x8.2.1 x8.2.2 5)) (pe 5 (Jl (IntWalk.i64_in (x9.1-1) (by omega))) (pG 6 x8.1 hx10 p0)))))) ?_;refine eqn [(3,.o 256 (zG Q5 x8.1.toNat ((nth Q5 x8.1.toNat).1,(x9.1-1))))] [3] [] [] (by rw[Jm (y:=((nth Q5 x8.1.toNat).1,(x9.1-1))) hx10 rfl]<;>kernel_rfl) ?_;refine sn Qb [0,2] [60000] p0 <| Qe ?_
  have hE13:Cj Y ci ch=(zG Q5 x8.1.toNat ((nth Q5 x8.1.toNat).1,(x9.1-1)),x9.2.1,x9.2.2):=Zt hx1 (Qi h2 (Q4 h7 (Zt hx8 (Zt hx9 (rfl)))));exact B9 [256] (congrArg (λz=>(.h z.1:AV)) hE13.symm) (congrArg (λz=>([.h Y,.i (z.2.1:Int),.i z.2.2]:List C)) hE13.symm)
 have h7d:=Y4 h7;refine tu Qb [(23,.b (x1.1==(2:Int)))] [] [] [] p0 <| ck (x1.1==(2:Int)) (λh14=> ?_) (λh14=> ?_)
 ·have h14d:=eq_of_beq h14;obtain ⟨x15,hx15⟩:=nm (Ql Y x1.2.1 x1.2.2 4);have hbx15:=hx15▸Q7 Y x1.2.1 x1.2.2 4;obtain ⟨x16,hx16⟩:=nm (D8 Y x15.2.1 x15.2.2);refine wT 3 0 (.own true 256) Q5 (λhw18 hl19=> ?_);have hx17:=ng Q5 x15.1.toNat;refine ru Qb [(3,.one (.slc (.own true 256) 2 (setRow (eL Q5) x15.1.toNat 0 [.s x16.1])))] [3,6,23] [(60000, [.h Y,.i (x16.2.1:Int),.i x16.2.2])] [60000] (po 2 (.give none (.i x15.1) [.h Y,.i (x15.2.1:Int),.i x15.2.2]) (px (Xk (hx15▸Xy Y x1.2.1 x1.2.2 4)) (po 4 (.give none (.s x16.1) [.h Y,.i (x16.2.1:Int),.i x16.2.2]) (px (Xk (hx16▸JI Y x15.2.1 x15.2.2)) (pG 5 x15.1 hx17 p0))))) ?_;refine eqn [(3,.o 256 (zG Q5 x15.1.toNat (x16.1,(nth Q5 x15.1.toNat).2)))] [3] [] [] (by rw[Jm (y:=(x16.1,(nth Q5 x15.1.toNat).2)) hx17 rfl]<;>kernel_rfl) ?_;refine sn Qb [0,2] [60000] p0 <| Qe ?_
  have hE20:Cj Y ci ch=(zG Q5 x15.1.toNat (x16.1,(nth Q5 x15.1.toNat).2),x16.2.1,x16.2.2):=Zt hx1 (Qi h2 (Qi h7 (Q4 h14 (Zt hx15 (Zt hx16 (rfl))))));exact B9 [256] (congrArg (λz=>(.h z.1:AV)) hE20.symm) (congrArg (λz=>([.h Y,.i (z.2.1:Int),.i z.2.2]:List C)) hE20.symm)
 have h14d:=Y4 h14;refine sn Qb [0,2,3,6,32] [60000] p0 <| ck (x1.1==(3:Int)) (λh21=> ?_) (λh21=> ?_)
 ·have h21d:=eq_of_beq h21;obtain ⟨x22,hx22⟩:=nm (X2 Y x1.2.1 x1.2.2 [⟨#[117]⟩,⟨#[122]⟩,⟨#[97]⟩]);refine wT 3 0 (.own true 256) Q5 (λhw23 hl24=> ?_);refine qu Qb [(3,.one (.slc (.own true 2560) 2 ((eL Q5)++ [[.s x22.1,.i 1]])))] [3,6,23] [(60000, [.h Y,.i (x22.2.1:Int),.i x22.2.2])] [60000] (po 3 (.give none (.s x22.1) [.h Y,.i (x22.2.1:Int),.i x22.2.2]) (px (Xk (hx22▸Vh Y x1.2.1 x1.2.2 [⟨#[117]⟩,⟨#[122]⟩,⟨#[97]⟩] (zE _))) (pa Q5 [((x22.1,1):Jf)] p0))) ?_;refine eqn [(3,.o 2560 (Q5++ [((x22.1,1):Jf)]))] [3] [] [] (by rw[show ((eL Q5)++ [[.s x22.1,.i 1]])=(eL (Q5++ [((x22.1,1):Jf)])) from Ju (rfl) (rfl)];first | done | kernel_rfl) ?_;refine sn Qb [0,2] [60000] p0 <| Qe ?_
  have hE25:Cj Y ci ch=(Q5++ [((x22.1,1):Jf)],x22.2.1,x22.2.2):=Zt hx1 (Qi h2 (Qi h7 (Qi h14 (Q4 h21 (Zt hx22 (rfl))))));exact B9 [2560] (congrArg (λz=>(.h z.1:AV)) hE25.symm) (congrArg (λz=>([.h Y,.i (z.2.1:Int),.i z.2.2]:List C)) hE25.symm)
 have h21d:=Y4 h21;refine tn Qb [0,2,3,41] [60000] p0 <| ck (x1.1==(4:Int)) (λh26=> ?_) (λh26=> ?_)
 ·have h26d:=eq_of_beq h26;refine wT 3 0 (.own true 256) Q5 (λhw27 hl28=> ?_);refine qu Qb [(3,.one (.slc (.own true 3008) 2 ((eL Q5)++ [[.s ⟨#[117]⟩,.i 1], [.s ⟨#[118]⟩,.i 2]])))] [3,6,23] [] [] (pa Q5 [((⟨#[117]⟩,1):Jf),((⟨#[118]⟩,2):Jf)] p0) ?_;refine eqn [(3,.o 3008 (Q5++ [((⟨#[117]⟩,1):Jf),((⟨#[118]⟩,2):Jf)]))] [3] [] [] (by rw[show ((eL Q5)++ [[.s ⟨#[117]⟩,.i 1], [.s ⟨#[118]⟩,.i 2]])=(eL (Q5++ [((⟨#[117]⟩,1):Jf),((⟨#[118]⟩,2):Jf)])) from Ju (rfl) (rfl)];first | done | kernel_rfl) ?_;refine sn Qb [0,2] [60000] p0 <| Qe ?_
  have hE29:Cj Y ci ch=(Q5++ [((⟨#[117]⟩,1):Jf),((⟨#[118]⟩,2):Jf)],x1.2.1,x1.2.2):=Zt hx1 (Qi h2 (Qi h7 (Qi h14 (Qi h21 (Q4 h26 (rfl))))));exact B9 [3008] (congrArg (λz=>(.h z.1:AV)) hE29.symm) (congrArg (λz=>([.h Y,.i (z.2.1:Int),.i z.2.2]:List C)) hE29.symm)
 refine Qg <| tu Qb [(2,.o 256 Q5)] [2,3,6,23] [] [] p0 <| Qe ?_
 have hE30:Cj Y ci ch=(Q5,x1.2.1,x1.2.2):=Zt hx1 (Qi h2 (Qi h7 (Qi h14 (Qi h21 (Qi h26 (rfl))))));exact B9 [256] (congrArg (λz=>(.h z.1:AV)) hE30.symm) (congrArg (λz=>([.h Y,.i (z.2.1:Int),.i z.2.2]:List C)) hE30.symm)
def U8 (Y:List UInt8) (ci:Nat) (ch:Int):Xe×Nat×Int:=(lt (Ql Y ci ch 7) (λx1=>(lt (X3 Y x1.2.1 x1.2.2 (1+x1.1)) (λx2=>(lt (Ql Y x2.2.1 x2.2.2 14) (λx3=>(bif (x3.1==(0:Int)) then (lt (Z2 Y x3.2.1 x3.2.2 [0,60,61,-1]) (λx5=>((x5.1,x2.1.2.1,x2.1.2.2.1,x2.1.2.2.2.1,x2.1.2.2.2.2),x5.2.1,x5.2.2))) else (bif (x3.1==(1:Int)) then (lt (Z2 Y x3.2.1 x3.2.2 [-1,2,3]) (λx8=>((x2.1.1,x8.1,x2.1.2.2.1,x2.1.2.2.2.1,x2.1.2.2.2.2),x8.2.1,x8.2.2))) else (bif (x3.1==(2:Int)) then (lt (Z2 Y x3.2.1 x3.2.2 [-1,60,61,9223372036854775807]) (λx11=>((x2.1.1,x2.1.2.1,x2.1.2.2.1,x11.1,x2.1.2.2.2.2),x11.2.1,x11.2.2))) else (bif (x3.1==(3:Int)) then (lt (D8 Y x3.2.1 x3.2.2) (λx14=>(lt (Al Y x14.2.1 x14.2.2) (λx15=>((x2.1.1,x2.1.2.1,x2.1.2.2.1,x2.1.2.2.2.1,x2.1.2.2.2.2++ [(x14.1,x15.1)]),x15.2.1,x15.2.2))))) else (bif (x3.1==(4:Int)) then ((Yh x2.1 ⟨#[97]⟩ (X5 ⟨#[114,101,100]⟩)),x3.2.1,x3.2.2) else (x2.1,x3.2.1,x3.2.2))))))))))))
theorem NH (Y:List UInt8) (ci:Nat) (ch:Int):AGive Tryz.prog 137 [.h Y,.i ((ci:Nat):Int),.i ch] [] (.a [.i ((((U8 Y ci ch)).1).1),.i ((((U8 Y ci ch)).1).2.1),.b ((((U8 Y ci ch)).1).2.2.1),.i ((((U8 Y ci ch)).1).2.2.2.1),.o 0 ((((U8 Y ci ch)).1).2.2.2.2)]) [.h Y,.i ((((U8 Y ci ch)).2.1:Nat):Int),.i (((U8 Y ci ch)).2.2)]:=by
 refine V3 (tt:=tt) Qb Tryz.func137 (fn:=Tryz.f137) rfl (by unfold E9;kernel_rfl) (zD rfl) (zD rfl) rfl rfl λw0 F0 hG=> ?_
 refine sn Qb [0,2] [2,60000] p0 ?_;obtain ⟨x1,hx1⟩:=nm (Ql Y ci ch 7);have hbx1:=hx1▸Q7 Y ci ch 7;obtain ⟨x2,hx2⟩:=nm (X3 Y x1.2.1 x1.2.2 (1+x1.1));have hlx2:=Qks Y x1.2.1 x1.2.2 (1+x1.1);rw[hx2] at hlx2;refine tn Qb [0,2,3] [2,3,60000] (po 2 (.give none (.i x1.1) [.h Y,.i (x1.2.1:Int),.i x1.2.2]) (px (Xk (hx1▸Xy Y ci ch 7)) (pe 3 (Jl (IntWalk.i64_in (1+x1.1) (by omega))) (po 4 (.give none (.a [.i x2.1.1,.i x2.1.2.1,.b x2.1.2.2.1,.i x2.1.2.2.2.1,.o 0 x2.1.2.2.2.2]) [.h Y,.i (x2.2.1:Int),.i x2.2.2]) (px (Xk (hx2▸Cv Y x1.2.1 x1.2.2 (1+x1.1))) p0))))) <| Qc ?_
 obtain ⟨x3,hx3⟩:=nm (Ql Y x2.2.1 x2.2.2 14);have hbx3:=hx3▸Q7 Y x2.2.1 x2.2.2 14;refine tu Qb [(2,.p 2 0),(3,.p 3 0),(10,.i x3.1)] [] [(2, [.i 0,.i 0,.b false,.i 0,.e 4]),(3, [.i x2.1.1,.i x2.1.2.1,.b x2.1.2.2.1,.i x2.1.2.2.2.1,.o 512 x2.1.2.2.2.2]),(60000, [.h Y,.i (x3.2.1:Int),.i x3.2.2])] [60000] (po 1 (.give none (.i x3.1) [.h Y,.i (x3.2.1:Int),.i x3.2.2]) (px (Xk (hx3▸Xy Y x2.2.1 x2.2.2 14)) p0)) <| Qv <| sn Qb [0,2,3,10,11] [2,3,60000] p0 <| ck (x3.1==(0:Int)) (λh4=> ?_) (λh4=> ?_)
 ·obtain ⟨x5,hx5⟩:=nm (Z2 Y x3.2.1 x3.2.2 [0,60,61,-1]);refine qn Qb [0,2,3] [2,3,60000] (po 2 (.give none (.i x5.1) [.h Y,.i (x5.2.1:Int),.i x5.2.2]) (px (Xk (hx5▸W4 Y x3.2.1 x3.2.2 [0,60,61,-1] (zE _))) p0)) ?_;refine tu Qb [] [3,10] [(2, [.i x5.1,.i x2.1.2.1,.b x2.1.2.2.1,.i x2.1.2.2.2.1,.o 512 x2.1.2.2.2.2]),(60000, [.h Y,.i (x5.2.1:Int),.i x5.2.2])] [2,3,60000] p0 <| Qe ?_
  have hE6:U8 Y ci ch=((x5.1,x2.1.2.1,x2.1.2.2.1,x2.1.2.2.2.1,x2.1.2.2.2.2),x5.2.1,x5.2.2):=Zt hx1 (Zt hx2 (Zt hx3 (Q4 h4 (Zt hx5 (rfl)))));exact B9 [] (congrArg (λz=>(.a [.i z.1.1,.i z.1.2.1,.b z.1.2.2.1,.i z.1.2.2.2.1,.o 0 z.1.2.2.2.2]:AV)) hE6.symm) (congrArg (λz=>([.h Y,.i (z.2.1:Int),.i z.2.2]:List C)) hE6.symm)
 have h4d:=Y4 h4;refine tn Qb [0,2,3,10,17] [2,3,60000] p0 <| ck (x3.1==(1:Int)) (λh7=> ?_) (λh7=> ?_)
 ·obtain ⟨x8,hx8⟩:=nm (Z2 Y x3.2.1 x3.2.2 [-1,2,3]);refine qu Qb [] [10] [(3, [.i x2.1.1,.i x8.1,.b x2.1.2.2.1,.i x2.1.2.2.2.1,.o 512 x2.1.2.2.2.2]),(60000, [.h Y,.i (x8.2.1:Int),.i x8.2.2])] [3,60000] (po 2 (.give none (.i x8.1) [.h Y,.i (x8.2.1:Int),.i x8.2.2]) (px (Xk (hx8▸W4 Y x3.2.1 x3.2.2 [-1,2,3] (zE _))) p0)) ?_;refine sn Qb [0,2] [2,60000] p0 <| Qe ?_
  have hE9:U8 Y ci ch=((x2.1.1,x8.1,x2.1.2.2.1,x2.1.2.2.2.1,x2.1.2.2.2.2),x8.2.1,x8.2.2):=Zt hx1 (Zt hx2 (Zt hx3 (Qi h4 (Q4 h7 (Zt hx8 (rfl))))));exact B9 [] (congrArg (λz=>(.a [.i z.1.1,.i z.1.2.1,.b z.1.2.2.1,.i z.1.2.2.2.1,.o 0 z.1.2.2.2.2]:AV)) hE9.symm) (congrArg (λz=>([.h Y,.i (z.2.1:Int),.i z.2.2]:List C)) hE9.symm)
 have h7d:=Y4 h7;refine tu Qb [(23,.b (x3.1==(2:Int)))] [] [] [] p0 <| ck (x3.1==(2:Int)) (λh10=> ?_) (λh10=> ?_)
 ·obtain ⟨x11,hx11⟩:=nm (Z2 Y x3.2.1 x3.2.2 [-1,60,61,9223372036854775807]);refine rn Qb [0,2,3] [2,3,60000] (po 2 (.give none (.i x11.1) [.h Y,.i (x11.2.1:Int),.i x11.2.2]) (px (Xk (hx11▸W4 Y x3.2.1 x3.2.2 [-1,60,61,9223372036854775807] (zE _))) p0)) ?_;refine tn Qb [0,2] [2,60000] p0 <| Qe ?_
  have hE12:U8 Y ci ch=((x2.1.1,x2.1.2.1,x2.1.2.2.1,x11.1,x2.1.2.2.2.2),x11.2.1,x11.2.2):=Zt hx1 (Zt hx2 (Zt hx3 (Qi h4 (Qi h7 (Q4 h10 (Zt hx11 (rfl)))))));exact B9 [] (congrArg (λz=>(.a [.i z.1.1,.i z.1.2.1,.b z.1.2.2.1,.i z.1.2.2.2.1,.o 0 z.1.2.2.2.2]:AV)) hE12.symm) (congrArg (λz=>([.h Y,.i (z.2.1:Int),.i z.2.2]:List C)) hE12.symm)
 have h10d:=Y4 h10;refine sn Qb [0,2,3,10,29] [2,3,60000] p0 <| ck (x3.1==(3:Int)) (λh13=> ?_) (λh13=> ?_)
 ·have h13d:=eq_of_beq h13;obtain ⟨x14,hx14⟩:=nm (D8 Y x3.2.1 x3.2.2);obtain ⟨x15,hx15⟩:=nm (Al Y x14.2.1 x14.2.2);refine wB 3 4 (.own true 512) x2.1.2.2.2.2 (λhw16 hl17=> ?_);refine qU Qb Zg [] [10,23] [(3, [.i x2.1.1,.i x2.1.2.1,.b x2.1.2.2.1,.i x2.1.2.2.2.1,.slc (.own true 2496) 4 ((eL x2.1.2.2.2.2)++ [[.s x14.1,.i x15.1.1,.i x15.1.2.1,.s x15.1.2.2]])]),(60000, [.h Y,.i (x15.2.1:Int),.i x15.2.2])] [3,60000] (po 3 (.give none (.s x14.1) [.h Y,.i (x14.2.1:Int),.i x14.2.2]) (px (Xk (hx14▸JI Y x3.2.1 x3.2.2)) (po 5 (.give none (.a [.i x15.1.1,.i x15.1.2.1,.s x15.1.2.2]) [.h Y,.i (x15.2.1:Int),.i x15.2.2]) (px (Xk (hx15▸WD Y x14.2.1 x14.2.2)) (pa x2.1.2.2.2.2 [(x14.1,x15.1)] p0))))) ?_;refine eqn [] [] [(3, [.i x2.1.1,.i x2.1.2.1,.b x2.1.2.2.1,.i x2.1.2.2.2.1,.o 2496 (x2.1.2.2.2.2++ [(x14.1,x15.1)])])] [3] (by rw[show ((eL x2.1.2.2.2.2)++ [[.s x14.1,.i x15.1.1,.i x15.1.2.1,.s x15.1.2.2]])=(eL (x2.1.2.2.2.2++ [(x14.1,x15.1)])) from Ju (rfl) (rfl)];first | done | kernel_rfl) ?_;refine sn Qb [0,2] [2,60000] p0 <| Qe ?_
  have hE18:U8 Y ci ch=((x2.1.1,x2.1.2.1,x2.1.2.2.1,x2.1.2.2.2.1,x2.1.2.2.2.2++ [(x14.1,x15.1)]),x15.2.1,x15.2.2):=Zt hx1 (Zt hx2 (Zt hx3 (Qi h4 (Qi h7 (Qi h10 (Q4 h13 (Zt hx14 (Zt hx15 (rfl)))))))));exact B9 [] (congrArg (λz=>(.a [.i z.1.1,.i z.1.2.1,.b z.1.2.2.1,.i z.1.2.2.2.1,.o 0 z.1.2.2.2.2]:AV)) hE18.symm) (congrArg (λz=>([.h Y,.i (z.2.1:Int),.i z.2.2]:List C)) hE18.symm)
 have h13d:=Y4 h13;refine tn Qb [0,2,3,41] [2,3,60000] p0 <| ck (x3.1==(4:Int)) (λh19=> ?_) (λh19=> ?_)
 ·have h19d:=eq_of_beq h19;refine qU Qb Zg [] [10,23] [(3, [.i ((Yh x2.1 ⟨#[97]⟩ (X5 ⟨#[114,101,100]⟩)).1),.i ((Yh x2.1 ⟨#[97]⟩ (X5 ⟨#[114,101,100]⟩)).2.1),.b ((Yh x2.1 ⟨#[97]⟩ (X5 ⟨#[114,101,100]⟩)).2.2.1),.i ((Yh x2.1 ⟨#[97]⟩ (X5 ⟨#[114,101,100]⟩)).2.2.2.1),.o 2880 ((Yh x2.1 ⟨#[97]⟩ (X5 ⟨#[114,101,100]⟩)).2.2.2.2)])] [3] (pc 1 (Ch ⟨#[114,101,100]⟩) (pc 2 (Ix x2.1 ⟨#[97]⟩ (X5 ⟨#[114,101,100]⟩) (by first|omega|(simp;done) | (simp;omega))) p0)) ?_;refine sn Qb [0,2] [2,60000] p0 <| Qe ?_
  have hE20:U8 Y ci ch=((Yh x2.1 ⟨#[97]⟩ (X5 ⟨#[114,101,100]⟩)),x3.2.1,x3.2.2):=Zt hx1 (Zt hx2 (Zt hx3 (Qi h4 (Qi h7 (Qi h10 (Qi h13 (Q4 h19 (rfl))))))));exact B9 [] (congrArg (λz=>(.a [.i z.1.1,.i z.1.2.1,.b z.1.2.2.1,.i z.1.2.2.2.1,.o 0 z.1.2.2.2.2]:AV)) hE20.symm) (congrArg (λz=>([.h Y,.i (z.2.1:Int),.i z.2.2]:List C)) hE20.symm)
 refine Qg <| tu Qb [] [3,10,23] [(2, [.i x2.1.1,.i x2.1.2.1,.b x2.1.2.2.1,.i x2.1.2.2.2.1,.o 512 x2.1.2.2.2.2])] [2,3] p0 <| Qe ?_
 have hE21:U8 Y ci ch=(x2.1,x3.2.1,x3.2.2):=Zt hx1 (Zt hx2 (Zt hx3 (Qi h4 (Qi h7 (Qi h10 (Qi h13 (Qi h19 (rfl))))))));exact B9 [] (congrArg (λz=>(.a [.i z.1.1,.i z.1.2.1,.b z.1.2.2.1,.i z.1.2.2.2.1,.o 0 z.1.2.2.2.2]:AV)) hE21.symm) (congrArg (λz=>([.h Y,.i (z.2.1:Int),.i z.2.2]:List C)) hE21.symm)
def Et (Y:List UInt8) (s0:Qz×Nat×Int):Rd (Qz×Nat×Int) (Qz×Nat×Int) (Qz×Nat×Int):=(bif decide ((s0.1.2.1.length:Int)<(12:Int)) then (lt (X3 Y s0.2.1 s0.2.2 1) (λx16=>(.next ((((Xx s0.1 x16.1)).1),x16.2.1,x16.2.2)))) else (.brk (s0.1,s0.2.1,s0.2.2)))
def Bh (Y:List UInt8) (ci:Nat) (ch:Int):Qz×Nat×Int:=(lt (Vy Y ci ch) (λx1=>(lt (Ql Y x1.2.1 x1.2.2 14) (λx2=>(bif (x2.1==(0:Int)) then (lt (Z2 Y x2.2.1 x2.2.2 [0,60,61,62]) (λx4=>((x1.1.1,x1.1.2.1,x4.1),x4.2.1,x4.2.2))) else (bif (x2.1==(1:Int)) then (lt (U8 Y x2.2.1 x2.2.2) (λx7=>((x1.1.1,x1.1.2.1++ [x7.1],x1.1.2.2),x7.2.1,x7.2.2))) else (bif (x2.1==(2:Int)) then (lt (Cj Y x2.2.1 x2.2.2) (λx12=>((x12.1,x1.1.2.1,x1.1.2.2),x12.2.1,x12.2.2))) else (bif (x2.1==(3:Int)) then (Out.on (I0 (Et Y) 13 (x1.1,x2.2.1,x2.2.2)) (λy0=>(y0.1,y0.2.1,y0.2.2))) else (x1.1,x2.2.1,x2.2.2)))))))))
theorem NI (Y:List UInt8) (ci:Nat) (ch:Int) {s:Qz} (h:S5 s):(whl (Et Y) 13 (s,ci,ch)).isSome=true:=
 PS (λs=>S5 s.1) (λs=>(s.1.2.1.length:Int)) 12 (λs s' hi h=>by
  unfold Et lt at h;by_cases hc:(s.1.2.1.length:Int)<12
  . simp only[decide_eq_true hc,cond_true] at h;have h:=Rd.next.inj h;obtain ⟨h1,h2⟩:=Qkq hi (by omega) (Qix Y s.2.1 s.2.2 1);rw[←h];exact ⟨hc,by dsimp only;omega,h2⟩
  simp only[decide_eq_false hc,cond_false] at h;cases h) 12 _ h (by show (12:Int)<=(s.2.1.length:Int)+12;omega)
theorem NJ (Y:List UInt8) (ci:Nat) (ch:Int):AGive Tryz.prog 84 [.h Y,.i ((ci:Nat):Int),.i ch] [] (.a [.h ((((Bh Y ci ch)).1).1),.q 0 ((((Bh Y ci ch)).1).2.1),.i ((((Bh Y ci ch)).1).2.2)]) [.h Y,.i ((((Bh Y ci ch)).2.1:Nat):Int),.i (((Bh Y ci ch)).2.2)]:=by
 refine V3 (tt:=tt) Qb Tryz.func84 (fn:=Tryz.f84) rfl (by unfold E9;kernel_rfl) (zD rfl) (zD rfl) rfl rfl λw0 F0 hG=> ?_
 refine sn Qb [0,2] [2,60000] p0 ?_;obtain ⟨x1,hx1⟩:=nm (Vy Y ci ch);have hsx1:=Qiy Y ci ch;rw[hx1] at hsx1;refine tn Qb [0,2,3] [2,3,60000] (po 1 (.give none (.a [.o 0 x1.1.1,.q 1 x1.1.2.1,.i x1.1.2.2]) [.h Y,.i (x1.2.1:Int),.i x1.2.2]) (px (Xk (hx1▸QG Y ci ch)) p0)) <| Qc ?_
 obtain ⟨x2,hx2⟩:=nm (Ql Y x1.2.1 x1.2.2 14);have hbx2:=hx2▸Q7 Y x1.2.1 x1.2.2 14;refine tu Qb [(2,.p 2 0),(3,.p 3 0),(7,.i x2.1)] [] [(2, [.e 2,.e 5,.i 0]),(3, [.o 320 x1.1.1,.q 321 x1.1.2.1,.i x1.1.2.2]),(60000, [.h Y,.i (x2.2.1:Int),.i x2.2.2])] [60000] (po 1 (.give none (.i x2.1) [.h Y,.i (x2.2.1:Int),.i x2.2.2]) (px (Xk (hx2▸Xy Y x1.2.1 x1.2.2 14)) p0)) <| Qv <| sn Qb [0,2,3,7,8] [2,3,60000] p0 <| ck (x2.1==(0:Int)) (λh3=> ?_) (λh3=> ?_)
 ·obtain ⟨x4,hx4⟩:=nm (Z2 Y x2.2.1 x2.2.2 [0,60,61,62]);refine qn Qb [0,2,3] [2,3,60000] (po 2 (.give none (.i x4.1) [.h Y,.i (x4.2.1:Int),.i x4.2.2]) (px (Xk (hx4▸W4 Y x2.2.1 x2.2.2 [0,60,61,62] (zE _))) p0)) ?_;refine tu Qb [] [3,7] [(2, [.o 320 x1.1.1,.q 321 x1.1.2.1,.i x4.1]),(60000, [.h Y,.i (x4.2.1:Int),.i x4.2.2])] [2,3,60000] p0 <| Qe ?_
  have hE5:Bh Y ci ch=((x1.1.1,x1.1.2.1,x4.1),x4.2.1,x4.2.2):=Zt hx1 (Zt hx2 (Q4 h3 (Zt hx4 (rfl))));exact B9 [320] (congrArg (λz=>(.a [.h z.1.1,.q 0 z.1.2.1,.i z.1.2.2]:AV)) hE5.symm) (congrArg (λz=>([.h Y,.i (z.2.1:Int),.i z.2.2]:List C)) hE5.symm)
 have h3d:=Y4 h3;refine tn Qb [0,2,3,7,14] [2,3,60000] p0 <| ck (x2.1==(1:Int)) (λh6=> ?_) (λh6=> ?_)
 ·have h6d:=eq_of_beq h6;obtain ⟨x7,hx7⟩:=nm (U8 Y x2.2.1 x2.2.2);refine wB 3 1 (.own false 321) x1.1.2.1 (λhw8 hl9=> ?_);refine qU Qb Zg [] [7] [(3, [.o 320 x1.1.1,.slc (.own false 1344) 5 ((eL x1.1.2.1)++ [[.i x7.1.1,.i x7.1.2.1,.b x7.1.2.2.1,.i x7.1.2.2.2.1,.h x7.1.2.2.2.2]]),.i x1.1.2.2]),(60000, [.h Y,.i (x7.2.1:Int),.i x7.2.2])] [3,60000] (po 3 (.give none (.a [.i x7.1.1,.i x7.1.2.1,.b x7.1.2.2.1,.i x7.1.2.2.2.1,.o 0 x7.1.2.2.2.2]) [.h Y,.i (x7.2.1:Int),.i x7.2.2]) (px (Xk (hx7▸NH Y x2.2.1 x2.2.2)) (pa x1.1.2.1 [x7.1] p0))) ?_;refine eqn [] [] [(3, [.o 320 x1.1.1,.q 1344 (x1.1.2.1++ [x7.1]),.i x1.1.2.2])] [3] (by rw[show ((eL x1.1.2.1)++ [[.i x7.1.1,.i x7.1.2.1,.b x7.1.2.2.1,.i x7.1.2.2.2.1,.h x7.1.2.2.2.2]])=(eL (x1.1.2.1++ [x7.1])) from Ju (rfl) (rfl)];first | done | kernel_rfl) ?_;refine sn Qb [0,2] [2,60000] p0 <| Qe ?_
  have hE10:Bh Y ci ch=((x1.1.1,x1.1.2.1++ [x7.1],x1.1.2.2),x7.2.1,x7.2.2):=Zt hx1 (Zt hx2 (Qi h3 (Q4 h6 (Zt hx7 (rfl)))));exact B9 [320] (congrArg (λz=>(.a [.h z.1.1,.q 0 z.1.2.1,.i z.1.2.2]:AV)) hE10.symm) (congrArg (λz=>([.h Y,.i (z.2.1:Int),.i z.2.2]:List C)) hE10.symm)
 refine tu Qb [(23,.b (x2.1==(2:Int)))] [] [] [] p0 <| ck (x2.1==(2:Int)) (λh11=> ?_) (λh11=> ?_)
 ·obtain ⟨x12,hx12⟩:=nm (Cj Y x2.2.1 x2.2.2);refine rn Qb [0,2,3] [2,3,60000] (po 1 (.give none (.h x12.1) [.h Y,.i (x12.2.1:Int),.i x12.2.2]) (px (Xk (hx12▸NG Y x2.2.1 x2.2.2)) p0)) ?_;refine tn Qb [0,2] [2,60000] p0 <| Qe ?_
  have hE13:Bh Y ci ch=((x12.1,x1.1.2.1,x1.1.2.2),x12.2.1,x12.2.2):=Zt hx1 (Zt hx2 (Qi h3 (Qi h6 (Q4 h11 (Zt hx12 (rfl))))));exact B9 [] (congrArg (λz=>(.a [.h z.1.1,.q 0 z.1.2.1,.i z.1.2.2]:AV)) hE13.symm) (congrArg (λz=>([.h Y,.i (z.2.1:Int),.i z.2.2]:List C)) hE13.symm)
 refine sn Qb [0,2,3,28] [2,3,60000] p0 <| ck (x2.1==(3:Int)) (λh14=> ?_) (λh14=> ?_)
 ·refine mz [(28,.b (x2.1==(3:Int)))] [7,23] [] [] <| blw (λ(s0:Qz×Nat×Int)=> []) [28] (λs0=> [(3, [.o 147206 s0.1.1,.q 147207 s0.1.2.1,.i s0.1.2.2]),(60000, [.h Y,.i (s0.2.1:Int),.i s0.2.2])]) [3,60000] (λ(y0:Qz×Nat×Int)=> []) [28] (λy0=> [(3, [.o 147356 y0.1.1,.q 147357 y0.1.2.1,.i y0.1.2.2]),(60000, [.h Y,.i (y0.2.1:Int),.i y0.2.2])]) [3,60000] (λ(k0:Nat) (s0:Qz×Nat×Int)=>whl (Et Y) k0 s0=some (I0 (Et Y) 13 (x1.1,x2.2.1,x2.2.2))) (λ(y0:Qz×Nat×Int)=>(I0 (Et Y) 13 (x1.1,x2.2.1,x2.2.2))= .brk y0) 13 (x1.1,x2.2.1,x2.2.2) (Xg [(320,147206),(321,147207)] (by kernel_rfl)) (Fl (NI Y _ _ hsx1.1)) (λ_ h=>G1 h) (λk0 s0 U=> ?_) (λy0 hD0=> ?_)
  ·refine Qc <| sn Qb [0,2,3,33] [2,3,60000] (pl 2 s0.1.2.1 p0) <| ck (decide ((s0.1.2.1.length:Int)<(12:Int))) (λh15=> ?_) (λh15=> ?_)
   ·refine Qg <| Qv ?_
    obtain ⟨x16,hx16⟩:=nm (X3 Y s0.2.1 s0.2.2 1);refine qN Qb Zg [0,2,3] [2,3,60000] (po 2 (.give none (.a [.i x16.1.1,.i x16.1.2.1,.b x16.1.2.2.1,.i x16.1.2.2.2.1,.o 0 x16.1.2.2.2.2]) [.h Y,.i (x16.2.1:Int),.i x16.2.2]) (px (Xk (hx16▸Cv Y s0.2.1 s0.2.2 1)) (pc 3 (Mp s0.1 x16.1) p0))) ?_;exact zI ((((Xx s0.1 x16.1)).1),x16.2.1,x16.2.2) (zL (Ao [] [] [2433] [(2432,147206),(2433,147207)] (by kernel_rfl)) (wn U (Q4 h15 (Zt hx16 (rfl)))))
   exact Q3 <| zI _ (zL (Xg [(147206,147356),(147207,147357)] (by kernel_rfl)) (wb U (Qi h15 (rfl))))
  refine sn Qb [0,2] [2,60000] p0 <| Qe ?_
  have hE17:Bh Y ci ch=(y0.1,y0.2.1,y0.2.2):=Zt hx1 (Zt hx2 (Qi h3 (Qi h6 (Qi h11 (Q4 h14 (Wk hD0 (rfl)))))));exact B9 [147356] (congrArg (λz=>(.a [.h z.1.1,.q 0 z.1.2.1,.i z.1.2.2]:AV)) hE17.symm) (congrArg (λz=>([.h Y,.i (z.2.1:Int),.i z.2.2]:List C)) hE17.symm)
 refine Qg <| tn Qb [0,2] [2,60000] p0 <| Qe ?_
 have hE18:Bh Y ci ch=(x1.1,x2.2.1,x2.2.2):=Zt hx1 (Zt hx2 (Qi h3 (Qi h6 (Qi h11 (Qi h14 (rfl))))));exact B9 [320] (congrArg (λz=>(.a [.h z.1.1,.q 0 z.1.2.1,.i z.1.2.2]:AV)) hE18.symm) (congrArg (λz=>([.h Y,.i (z.2.1:Int),.i z.2.2]:List C)) hE18.symm)
def Bi (Y:List UInt8) (ci:Nat) (ch:Int):(List Yw)×Nat×Int:=(lt (Yk Y ci ch) (λx1=>(lt (Ql Y x1.2.1 x1.2.2 (x1.1.length:Int)) (λx2=>(lt (Ql Y x2.2.1 x2.2.2 10) (λx3=>(bif (x3.1==(0:Int)) then (lt (Ql Y x3.2.1 x3.2.2 12) (λx5=>(zG x1.1 x2.1.toNat ((x5.1-1),(nth x1.1 x2.1.toNat).2.1,(nth x1.1 x2.1.toNat).2.2.1,(nth x1.1 x2.1.toNat).2.2.2.1,((nth x1.1 x2.1.toNat).2.2.2.2.1,(nth x1.1 x2.1.toNat).2.2.2.2.2.1,(nth x1.1 x2.1.toNat).2.2.2.2.2.2)),x5.2.1,x5.2.2))) else (bif (x3.1==(1:Int)) then (lt (Z2 Y x3.2.1 x3.2.2 [-1,0,x2.1,8,9223372036854775807]) (λx11=>(zG x1.1 x2.1.toNat ((nth x1.1 x2.1.toNat).1,x11.1,(nth x1.1 x2.1.toNat).2.2.1,(nth x1.1 x2.1.toNat).2.2.2.1,((nth x1.1 x2.1.toNat).2.2.2.2.1,(nth x1.1 x2.1.toNat).2.2.2.2.2.1,(nth x1.1 x2.1.toNat).2.2.2.2.2.2)),x11.2.1,x11.2.2))) else (bif (x3.1==(2:Int)) then (lt (X2 Y x3.2.1 x3.2.2 [⟨#[]⟩,⟨#[97]⟩,⟨#[100,97]⟩,⟨#[97,98,99,100,101,102,103]⟩,⟨#[65]⟩]) (λx17=>(zG x1.1 x2.1.toNat ((nth x1.1 x2.1.toNat).1,(nth x1.1 x2.1.toNat).2.1,(nth x1.1 x2.1.toNat).2.2.1,x17.1,((nth x1.1 x2.1.toNat).2.2.2.2.1,(nth x1.1 x2.1.toNat).2.2.2.2.2.1,(nth x1.1 x2.1.toNat).2.2.2.2.2.2)),x17.2.1,x17.2.2))) else (bif (x3.1==(3:Int)) then (lt (J6 Y x3.2.1 x3.2.2) (λx23=>(x1.1++ [x23.1],x23.2.1,x23.2.2))) else (bif (x3.1==(4:Int)) then (lt (Al Y x3.2.1 x3.2.2) (λx28=>(zG x1.1 x2.1.toNat ((nth x1.1 x2.1.toNat).1,(nth x1.1 x2.1.toNat).2.1,(nth x1.1 x2.1.toNat).2.2.1,(nth x1.1 x2.1.toNat).2.2.2.1,x28.1),x28.2.1,x28.2.2))) else (bif (x3.1==(5:Int)) then ([],x3.2.1,x3.2.2) else (x1.1,x3.2.1,x3.2.2)))))))))))))
theorem NK (Y:List UInt8) (ci:Nat) (ch:Int):AGive Tryz.prog 136 [.h Y,.i ((ci:Nat):Int),.i ch] [] (.o 0 (((Bi Y ci ch)).1)) [.h Y,.i ((((Bi Y ci ch)).2.1:Nat):Int),.i (((Bi Y ci ch)).2.2)]:=by
 refine V3 (tt:=tt) Qb Tryz.func136 (fn:=Tryz.f136) rfl (by unfold E9;kernel_rfl) (zD rfl) (zD rfl) rfl rfl λw0 F0 hG=> ?_
 refine sn Qb [0,2] [60000] p0 ?_;obtain ⟨x1,hx1⟩:=nm (Yk Y ci ch);have hbx1:=hx1▸JD Y ci ch;refine tn Qb [0,2,3] [60000] (po 1 (.give none (.o 0 x1.1) [.h Y,.i (x1.2.1:Int),.i x1.2.2]) (px (Xk (hx1▸Ci Y ci ch)) p0)) ?_;obtain ⟨x2,hx2⟩:=nm (Ql Y x1.2.1 x1.2.2 (x1.1.length:Int));have hbx2:=hx2▸Q7 Y x1.2.1 x1.2.2 (x1.1.length:Int);refine tu Qb [(2,.e 0),(3,.o 384 x1.1),(4,.i x2.1)] [] [(60000, [.h Y,.i (x2.2.1:Int),.i x2.2.2])] [60000] (pl 2 x1.1 (po 3 (.give none (.i x2.1) [.h Y,.i (x2.2.1:Int),.i x2.2.2]) (px (Xk (hx2▸Xy Y x1.2.1 x1.2.2 (x1.1.length:Int))) p0))) <| Qc ?_
 obtain ⟨x3,hx3⟩:=nm (Ql Y x2.2.1 x2.2.2 10);have hbx3:=hx3▸Q7 Y x2.2.1 x2.2.2 10;refine sn Qb [0,2,3,4,12] [60000] (po 1 (.give none (.i x3.1) [.h Y,.i (x3.2.1:Int),.i x3.2.2]) (px (Xk (hx3▸Xy Y x2.2.1 x2.2.2 10)) p0)) <| Qv <| tn Qb [0,2,3,4,12,13] [60000] p0 <| ck (x3.1==(0:Int)) (λh4=> ?_) (λh4=> ?_)
 ·have h4d:=eq_of_beq h4;obtain ⟨x5,hx5⟩:=nm (Ql Y x3.2.1 x3.2.2 12);have hbx5:=hx5▸Q7 Y x3.2.1 x3.2.2 12;refine wT 3 0 (.own true 384) x1.1 (λhw7 hl8=> ?_);have hx6:=ng x1.1 x2.1.toNat;refine qu Qb [(3,.one (.slc (.own true 384) 7 (setRow (eL x1.1) x2.1.toNat 0 [.i (x5.1-1)])))] [3,4] [(60000, [.h Y,.i (x5.2.1:Int),.i x5.2.2])] [60000] (po 3 (.give none (.i x5.1) [.h Y,.i (x5.2.1:Int),.i x5.2.2]) (px (Xk (hx5▸Xy Y x3.2.1 x3.2.2 12)) (pe 4 (Jl (IntWalk.i64_in (x5.1-1) (by omega))) (pG 5 x2.1 hx6 p0)))) ?_;refine eqn [(3,.o 384 (zG x1.1 x2.1.toNat ((x5.1-1),(nth x1.1 x2.1.toNat).2.1,(nth x1.1 x2.1.toNat).2.2.1,(nth x1.1 x2.1.toNat).2.2.2.1,((nth x1.1 x2.1.toNat).2.2.2.2.1,(nth x1.1 x2.1.toNat).2.2.2.2.2.1,(nth x1.1 x2.1.toNat).2.2.2.2.2.2))))] [3] [] [] (by rw[Jm (y:=((x5.1-1),(nth x1.1 x2.1.toNat).2.1,(nth x1.1 x2.1.toNat).2.2.1,(nth x1.1 x2.1.toNat).2.2.2.1,((nth x1.1 x2.1.toNat).2.2.2.2.1,(nth x1.1 x2.1.toNat).2.2.2.2.2.1,(nth x1.1 x2.1.toNat).2.2.2.2.2.2))) hx6 rfl]<;>kernel_rfl) ?_;refine sn Qb [0,2] [60000] p0 <| Qe ?_
  have hE9:Bi Y ci ch=(zG x1.1 x2.1.toNat ((x5.1-1),(nth x1.1 x2.1.toNat).2.1,(nth x1.1 x2.1.toNat).2.2.1,(nth x1.1 x2.1.toNat).2.2.2.1,((nth x1.1 x2.1.toNat).2.2.2.2.1,(nth x1.1 x2.1.toNat).2.2.2.2.2.1,(nth x1.1 x2.1.toNat).2.2.2.2.2.2)),x5.2.1,x5.2.2):=Zt hx1 (Zt hx2 (Zt hx3 (Q4 h4 (Zt hx5 (rfl)))));exact B9 [] (congrArg (λz=>(.o 0 z.1:AV)) hE9.symm) (congrArg (λz=>([.h Y,.i (z.2.1:Int),.i z.2.2]:List C)) hE9.symm)
 have h4d:=Y4 h4;refine tu Qb [(12,.i x3.1),(22,.b (x3.1==(1:Int)))] [] [(60000, [.h Y,.i (x3.2.1:Int),.i x3.2.2])] [60000] p0 <| ck (x3.1==(1:Int)) (λh10=> ?_) (λh10=> ?_)
 ·have h10d:=eq_of_beq h10;obtain ⟨x11,hx11⟩:=nm (Z2 Y x3.2.1 x3.2.2 [-1,0,x2.1,8,9223372036854775807]);refine wT 3 0 (.own true 384) x1.1 (λhw13 hl14=> ?_);have hx12:=ng x1.1 x2.1.toNat;refine ru Qb [(3,.one (.slc (.own true 384) 7 (setRow (eL x1.1) x2.1.toNat 1 [.i x11.1])))] [3,4,12,22] [(60000, [.h Y,.i (x11.2.1:Int),.i x11.2.2])] [60000] (po 5 (.give none (.i x11.1) [.h Y,.i (x11.2.1:Int),.i x11.2.2]) (px (Xk (hx11▸W4 Y x3.2.1 x3.2.2 [-1,0,x2.1,8,9223372036854775807] (zE _))) (pG 6 x2.1 hx12 p0))) ?_;refine eqn [(3,.o 384 (zG x1.1 x2.1.toNat ((nth x1.1 x2.1.toNat).1,x11.1,(nth x1.1 x2.1.toNat).2.2.1,(nth x1.1 x2.1.toNat).2.2.2.1,((nth x1.1 x2.1.toNat).2.2.2.2.1,(nth x1.1 x2.1.toNat).2.2.2.2.2.1,(nth x1.1 x2.1.toNat).2.2.2.2.2.2))))] [3] [] [] (by rw[Jm (y:=((nth x1.1 x2.1.toNat).1,x11.1,(nth x1.1 x2.1.toNat).2.2.1,(nth x1.1 x2.1.toNat).2.2.2.1,((nth x1.1 x2.1.toNat).2.2.2.2.1,(nth x1.1 x2.1.toNat).2.2.2.2.2.1,(nth x1.1 x2.1.toNat).2.2.2.2.2.2))) hx12 rfl]<;>kernel_rfl) ?_;refine sn Qb [0,2] [60000] p0 <| Qe ?_
  have hE15:Bi Y ci ch=(zG x1.1 x2.1.toNat ((nth x1.1 x2.1.toNat).1,x11.1,(nth x1.1 x2.1.toNat).2.2.1,(nth x1.1 x2.1.toNat).2.2.2.1,((nth x1.1 x2.1.toNat).2.2.2.2.1,(nth x1.1 x2.1.toNat).2.2.2.2.2.1,(nth x1.1 x2.1.toNat).2.2.2.2.2.2)),x11.2.1,x11.2.2):=Zt hx1 (Zt hx2 (Zt hx3 (Qi h4 (Q4 h10 (Zt hx11 (rfl))))));exact B9 [] (congrArg (λz=>(.o 0 z.1:AV)) hE15.symm) (congrArg (λz=>([.h Y,.i (z.2.1:Int),.i z.2.2]:List C)) hE15.symm)
 have h10d:=Y4 h10;refine sn Qb [0,2,3,4,12,32] [60000] p0 <| ck (x3.1==(2:Int)) (λh16=> ?_) (λh16=> ?_)
 ·have h16d:=eq_of_beq h16;obtain ⟨x17,hx17⟩:=nm (X2 Y x3.2.1 x3.2.2 [⟨#[]⟩,⟨#[97]⟩,⟨#[100,97]⟩,⟨#[97,98,99,100,101,102,103]⟩,⟨#[65]⟩]);refine wT 3 0 (.own true 384) x1.1 (λhw19 hl20=> ?_);have hx18:=ng x1.1 x2.1.toNat;refine qu Qb [(3,.one (.slc (.own true 384) 7 (setRow (eL x1.1) x2.1.toNat 3 [.s x17.1])))] [3,4,12,22] [(60000, [.h Y,.i (x17.2.1:Int),.i x17.2.2])] [60000] (po 4 (.give none (.s x17.1) [.h Y,.i (x17.2.1:Int),.i x17.2.2]) (px (Xk (hx17▸Vh Y x3.2.1 x3.2.2 [⟨#[]⟩,⟨#[97]⟩,⟨#[100,97]⟩,⟨#[97,98,99,100,101,102,103]⟩,⟨#[65]⟩] (zE _))) (pG 5 x2.1 hx18 p0))) ?_;refine eqn [(3,.o 384 (zG x1.1 x2.1.toNat ((nth x1.1 x2.1.toNat).1,(nth x1.1 x2.1.toNat).2.1,(nth x1.1 x2.1.toNat).2.2.1,x17.1,((nth x1.1 x2.1.toNat).2.2.2.2.1,(nth x1.1 x2.1.toNat).2.2.2.2.2.1,(nth x1.1 x2.1.toNat).2.2.2.2.2.2))))] [3] [] [] (by rw[Jm (y:=((nth x1.1 x2.1.toNat).1,(nth x1.1 x2.1.toNat).2.1,(nth x1.1 x2.1.toNat).2.2.1,x17.1,((nth x1.1 x2.1.toNat).2.2.2.2.1,(nth x1.1 x2.1.toNat).2.2.2.2.2.1,(nth x1.1 x2.1.toNat).2.2.2.2.2.2))) hx18 rfl]<;>kernel_rfl) ?_;refine sn Qb [0,2] [60000] p0 <| Qe ?_
  have hE21:Bi Y ci ch=(zG x1.1 x2.1.toNat ((nth x1.1 x2.1.toNat).1,(nth x1.1 x2.1.toNat).2.1,(nth x1.1 x2.1.toNat).2.2.1,x17.1,((nth x1.1 x2.1.toNat).2.2.2.2.1,(nth x1.1 x2.1.toNat).2.2.2.2.2.1,(nth x1.1 x2.1.toNat).2.2.2.2.2.2)),x17.2.1,x17.2.2):=Zt hx1 (Zt hx2 (Zt hx3 (Qi h4 (Qi h10 (Q4 h16 (Zt hx17 (rfl)))))));exact B9 [] (congrArg (λz=>(.o 0 z.1:AV)) hE21.symm) (congrArg (λz=>([.h Y,.i (z.2.1:Int),.i z.2.2]:List C)) hE21.symm)
 have h16d:=Y4 h16;refine tn Qb [0,2,3,4,12,41] [60000] p0 <| ck (x3.1==(3:Int)) (λh22=> ?_) (λh22=> ?_)
 ·have h22d:=eq_of_beq h22;obtain ⟨x23,hx23⟩:=nm (J6 Y x3.2.1 x3.2.2);refine wT 3 0 (.own true 384) x1.1 (λhw24 hl25=> ?_);refine qu Qb [(3,.one (.slc (.own true 3008) 7 ((eL x1.1)++ [[.i x23.1.1,.i x23.1.2.1,.i x23.1.2.2.1,.s x23.1.2.2.2.1,.i x23.1.2.2.2.2.1,.i x23.1.2.2.2.2.2.1,.s x23.1.2.2.2.2.2.2]])))] [3,4,12,22] [(60000, [.h Y,.i (x23.2.1:Int),.i x23.2.2])] [60000] (po 2 (.give none (.a [.i x23.1.1,.i x23.1.2.1,.i x23.1.2.2.1,.s x23.1.2.2.2.1,.i x23.1.2.2.2.2.1,.i x23.1.2.2.2.2.2.1,.s x23.1.2.2.2.2.2.2]) [.h Y,.i (x23.2.1:Int),.i x23.2.2]) (px (Xk (hx23▸Rt Y x3.2.1 x3.2.2)) (pa x1.1 [x23.1] p0))) ?_;refine eqn [(3,.o 3008 (x1.1++ [x23.1]))] [3] [] [] (by rw[show ((eL x1.1)++ [[.i x23.1.1,.i x23.1.2.1,.i x23.1.2.2.1,.s x23.1.2.2.2.1,.i x23.1.2.2.2.2.1,.i x23.1.2.2.2.2.2.1,.s x23.1.2.2.2.2.2.2]])=(eL (x1.1++ [x23.1])) from Ju (rfl) (rfl)];first | done | kernel_rfl) ?_;refine sn Qb [0,2] [60000] p0 <| Qe ?_
  have hE26:Bi Y ci ch=(x1.1++ [x23.1],x23.2.1,x23.2.2):=Zt hx1 (Zt hx2 (Zt hx3 (Qi h4 (Qi h10 (Qi h16 (Q4 h22 (Zt hx23 (rfl))))))));exact B9 [] (congrArg (λz=>(.o 0 z.1:AV)) hE26.symm) (congrArg (λz=>([.h Y,.i (z.2.1:Int),.i z.2.2]:List C)) hE26.symm)
 have h22d:=Y4 h22;refine tu Qb [(48,.b (x3.1==(4:Int)))] [22] [] [] p0 <| ck (x3.1==(4:Int)) (λh27=> ?_) (λh27=> ?_)
 ·have h27d:=eq_of_beq h27;obtain ⟨x28,hx28⟩:=nm (Al Y x3.2.1 x3.2.2);refine wT 3 0 (.own true 384) x1.1 (λhw30 hl31=> ?_);have hx29:=ng x1.1 x2.1.toNat;refine ru Qb [(3,.one (.slc (.own true 384) 7 (setRow (eL x1.1) x2.1.toNat 4 [.i x28.1.1,.i x28.1.2.1,.s x28.1.2.2])))] [3,4,12,48] [(60000, [.h Y,.i (x28.2.1:Int),.i x28.2.2])] [60000] (po 3 (.give none (.a [.i x28.1.1,.i x28.1.2.1,.s x28.1.2.2]) [.h Y,.i (x28.2.1:Int),.i x28.2.2]) (px (Xk (hx28▸WD Y x3.2.1 x3.2.2)) (pG 4 x2.1 hx29 p0))) ?_;refine eqn [(3,.o 384 (zG x1.1 x2.1.toNat ((nth x1.1 x2.1.toNat).1,(nth x1.1 x2.1.toNat).2.1,(nth x1.1 x2.1.toNat).2.2.1,(nth x1.1 x2.1.toNat).2.2.2.1,x28.1)))] [3] [] [] (by rw[Jm (y:=((nth x1.1 x2.1.toNat).1,(nth x1.1 x2.1.toNat).2.1,(nth x1.1 x2.1.toNat).2.2.1,(nth x1.1 x2.1.toNat).2.2.2.1,x28.1)) hx29 rfl]<;>kernel_rfl) ?_;refine sn Qb [0,2] [60000] p0 <| Qe ?_
  have hE32:Bi Y ci ch=(zG x1.1 x2.1.toNat ((nth x1.1 x2.1.toNat).1,(nth x1.1 x2.1.toNat).2.1,(nth x1.1 x2.1.toNat).2.2.1,(nth x1.1 x2.1.toNat).2.2.2.1,x28.1),x28.2.1,x28.2.2):=Zt hx1 (Zt hx2 (Zt hx3 (Qi h4 (Qi h10 (Qi h16 (Qi h22 (Q4 h27 (Zt hx28 (rfl)))))))));exact B9 [] (congrArg (λz=>(.o 0 z.1:AV)) hE32.symm) (congrArg (λz=>([.h Y,.i (z.2.1:Int),.i z.2.2]:List C)) hE32.symm)
 refine sn Qb [0,2,3,56] [60000] p0 <| ck (x3.1==(5:Int)) (λh33=> ?_) (λh33=> ?_)
 ·refine qn Qb [0,2,3] [60000] p0 ?_;refine tu Qb [] [3,4,12,48] [] [] p0 <| opn [(false,2,0,true,384000,7)] ?_
  refine Qe ?_;have hE34:Bi Y ci ch=([],x3.2.1,x3.2.2):=Zt hx1 (Zt hx2 (Zt hx3 (Qi h4 (Qi h10 (Qi h16 (Qi h22 (Qi h27 (Q4 h33 (rfl)))))))));exact B9 [] (congrArg (λz=>(.o 0 z.1:AV)) hE34.symm) (congrArg (λz=>([.h Y,.i (z.2.1:Int),.i z.2.2]:List C)) hE34.symm)
 refine Qg <| tn Qb [0,2] [60000] p0 <| Qe ?_
 have hE35:Bi Y ci ch=(x1.1,x3.2.1,x3.2.2):=Zt hx1 (Zt hx2 (Zt hx3 (Qi h4 (Qi h10 (Qi h16 (Qi h22 (Qi h27 (Qi h33 (rfl)))))))));exact B9 [] (congrArg (λz=>(.o 0 z.1:AV)) hE35.symm) (congrArg (λz=>([.h Y,.i (z.2.1:Int),.i z.2.2]:List C)) hE35.symm)
def Eu (Y:List UInt8) (s0:(List X0)×Nat×Int):Rd ((List X0)×Nat×Int) ((List X0)×Nat×Int) ((List X0)×Nat×Int):=(lt (Ql Y s0.2.1 s0.2.2 2) (λx17=>(bif decide ((s0.1.length:Int)<(5+x17.1)) then (lt (Yk Y x17.2.1 x17.2.2) (λx20=>(.next (s0.1++ [((nth ([⟨#[100,97]⟩,⟨#[100,98]⟩,⟨#[100,99]⟩,⟨#[100,100]⟩,⟨#[100,101]⟩,⟨#[100,102]⟩]:Z) (s0.1.length:Int).toNat),x20.1)],x20.2.1,x20.2.2)))) else (.brk (s0.1,x17.2.1,x17.2.2)))))
def C7 (Y:List UInt8) (ci:Nat) (ch:Int):(List X0)×Nat×Int:=(lt (Uq Y ci ch) (λx1=>(lt (Ql Y x1.2.1 x1.2.2 (x1.1.length:Int)) (λx2=>(lt (Ql Y x2.2.1 x2.2.2 10) (λx3=>(bif (x3.1==(0:Int)) then (lt (X2 Y x3.2.1 x3.2.2 [⟨#[]⟩,⟨#[65]⟩,⟨#[122,122]⟩,⟨#[97,98,99,100,101,102,103]⟩]) (λx5=>(zG x1.1 x2.1.toNat (x5.1,(nth x1.1 x2.1.toNat).2),x5.2.1,x5.2.2))) else (bif (x3.1==(1:Int)) then (lt (Bi Y x3.2.1 x3.2.2) (λx11=>(zG x1.1 x2.1.toNat ((nth x1.1 x2.1.toNat).1,x11.1),x11.2.1,x11.2.2))) else (bif (x3.1==(2:Int)) then (Out.on (I0 (Eu Y) 7 (x1.1,x3.2.1,x3.2.2)) (λy0=>(y0.1,y0.2.1,y0.2.2))) else (bif (x3.1==(3:Int)) then ([],x3.2.1,x3.2.2) else (x1.1,x3.2.1,x3.2.2)))))))))))
theorem NL (Y:List UInt8) (d:List X0) (ci:Nat) (ch:Int):(whl (Eu Y) 7 (d,ci,ch)).isSome=true:=
 PS (λ_=>True) (λs=>(s.1.length:Int)) 6 (λs s' _ h=>by
  unfold Eu lt at h;have hb:=Q7 Y s.2.1 s.2.2 2;generalize Ql Y s.2.1 s.2.2 2=x at h hb;by_cases hc:(s.1.length:Int)<5+x.1
  . simp only[decide_eq_true hc,cond_true] at h;have h:=Rd.next.inj h;rw[←h];refine ⟨by omega,by simp,trivial⟩
  simp only[decide_eq_false hc,cond_false] at h;cases h) 6 _ trivial (by show (6:Int)<=(d.length:Int)+6;omega)
theorem NM (Y:List UInt8) (ci:Nat) (ch:Int):AGive Tryz.prog 83 [.h Y,.i ((ci:Nat):Int),.i ch] [] (.o 0 (((C7 Y ci ch)).1)) [.h Y,.i ((((C7 Y ci ch)).2.1:Nat):Int),.i (((C7 Y ci ch)).2.2)]:=by
 refine V3 (tt:=tt) Qb Tryz.func83 (fn:=Tryz.f83) rfl (by unfold E9;kernel_rfl) (zD rfl) (zD rfl) rfl rfl λw0 F0 hG=> ?_
 refine sn Qb [0,2] [60000] p0 ?_;obtain ⟨x1,hx1⟩:=nm (Uq Y ci ch);have hlx1:=Qe3 Y ci ch;rw[hx1] at hlx1;refine tn Qb [0,2,3] [60000] (po 1 (.give none (.o 0 x1.1) [.h Y,.i (x1.2.1:Int),.i x1.2.2]) (px (Xk (hx1▸JF Y ci ch)) p0)) ?_;obtain ⟨x2,hx2⟩:=nm (Ql Y x1.2.1 x1.2.2 (x1.1.length:Int));have hbx2:=hx2▸Q7 Y x1.2.1 x1.2.2 (x1.1.length:Int);refine tu Qb [(2,.e 0),(3,.o 384 x1.1),(4,.i x2.1)] [] [(60000, [.h Y,.i (x2.2.1:Int),.i x2.2.2])] [60000] (pl 2 x1.1 (po 3 (.give none (.i x2.1) [.h Y,.i (x2.2.1:Int),.i x2.2.2]) (px (Xk (hx2▸Xy Y x1.2.1 x1.2.2 (x1.1.length:Int))) p0))) <| Qc ?_
 obtain ⟨x3,hx3⟩:=nm (Ql Y x2.2.1 x2.2.2 10);have hbx3:=hx3▸Q7 Y x2.2.1 x2.2.2 10;refine sn Qb [0,2,3,4,12] [60000] (po 1 (.give none (.i x3.1) [.h Y,.i (x3.2.1:Int),.i x3.2.2]) (px (Xk (hx3▸Xy Y x2.2.1 x2.2.2 10)) p0)) <| Qv <| tn Qb [0,2,3,4,12,13] [60000] p0 <| ck (x3.1==(0:Int)) (λh4=> ?_) (λh4=> ?_)
 ·have h4d:=eq_of_beq h4;obtain ⟨x5,hx5⟩:=nm (X2 Y x3.2.1 x3.2.2 [⟨#[]⟩,⟨#[65]⟩,⟨#[122,122]⟩,⟨#[97,98,99,100,101,102,103]⟩]);refine wT 3 0 (.own true 384) x1.1 (λhw7 hl8=> ?_);have hx6:=ng x1.1 x2.1.toNat;refine qu Qb [(3,.one (.slc (.own true 384) 2 (setRow (eL x1.1) x2.1.toNat 0 [.s x5.1])))] [3,4] [(60000, [.h Y,.i (x5.2.1:Int),.i x5.2.2])] [60000] (po 4 (.give none (.s x5.1) [.h Y,.i (x5.2.1:Int),.i x5.2.2]) (px (Xk (hx5▸Vh Y x3.2.1 x3.2.2 [⟨#[]⟩,⟨#[65]⟩,⟨#[122,122]⟩,⟨#[97,98,99,100,101,102,103]⟩] (zE _))) (pG 5 x2.1 hx6 p0))) ?_;refine eqn [(3,.o 384 (zG x1.1 x2.1.toNat (x5.1,(nth x1.1 x2.1.toNat).2)))] [3] [] [] (by rw[Jm (y:=(x5.1,(nth x1.1 x2.1.toNat).2)) hx6 rfl]<;>kernel_rfl) ?_;refine sn Qb [0,2] [60000] p0 <| Qe ?_
  have hE9:C7 Y ci ch=(zG x1.1 x2.1.toNat (x5.1,(nth x1.1 x2.1.toNat).2),x5.2.1,x5.2.2):=Zt hx1 (Zt hx2 (Zt hx3 (Q4 h4 (Zt hx5 (rfl)))));exact B9 [] (congrArg (λz=>(.o 0 z.1:AV)) hE9.symm) (congrArg (λz=>([.h Y,.i (z.2.1:Int),.i z.2.2]:List C)) hE9.symm)
 have h4d:=Y4 h4;refine tu Qb [(12,.i x3.1),(22,.b (x3.1==(1:Int)))] [] [(60000, [.h Y,.i (x3.2.1:Int),.i x3.2.2])] [60000] p0 <| ck (x3.1==(1:Int)) (λh10=> ?_) (λh10=> ?_)
 ·have h10d:=eq_of_beq h10;obtain ⟨x11,hx11⟩:=nm (Bi Y x3.2.1 x3.2.2);refine wT 3 0 (.own true 384) x1.1 (λhw13 hl14=> ?_);have hx12:=ng x1.1 x2.1.toNat;refine ru Qb [(3,.one (.slc (.own true 384) 2 (setRow (eL x1.1) x2.1.toNat 1 [.h x11.1])))] [3,4,12,22] [(60000, [.h Y,.i (x11.2.1:Int),.i x11.2.2])] [60000] (po 3 (.give none (.o 0 x11.1) [.h Y,.i (x11.2.1:Int),.i x11.2.2]) (px (Xk (hx11▸NK Y x3.2.1 x3.2.2)) (pG 4 x2.1 hx12 p0))) ?_;refine eqn [(3,.o 384 (zG x1.1 x2.1.toNat ((nth x1.1 x2.1.toNat).1,x11.1)))] [3] [] [] (by rw[Jm (y:=((nth x1.1 x2.1.toNat).1,x11.1)) hx12 rfl]<;>kernel_rfl) ?_;refine sn Qb [0,2] [60000] p0 <| Qe ?_
  have hE15:C7 Y ci ch=(zG x1.1 x2.1.toNat ((nth x1.1 x2.1.toNat).1,x11.1),x11.2.1,x11.2.2):=Zt hx1 (Zt hx2 (Zt hx3 (Qi h4 (Q4 h10 (Zt hx11 (rfl))))));exact B9 [] (congrArg (λz=>(.o 0 z.1:AV)) hE15.symm) (congrArg (λz=>([.h Y,.i (z.2.1:Int),.i z.2.2]:List C)) hE15.symm)
 have h10d:=Y4 h10;refine sn Qb [0,2,3,12,30] [60000] p0 <| ck (x3.1==(2:Int)) (λh16=> ?_) (λh16=> ?_)
 ·have h16d:=eq_of_beq h16;refine mz [(30,.b (x3.1==(2:Int)))] [4,22] [] [] <| blw (λ(s0:(List X0)×Nat×Int)=> [(3,.o 147202 s0.1)]) [3,12,30] (λs0=> [(60000, [.h Y,.i (s0.2.1:Int),.i s0.2.2])]) [60000] (λ(y0:(List X0)×Nat×Int)=> [(3,.o 147352 y0.1)]) [3,12,30] (λy0=> [(60000, [.h Y,.i (y0.2.1:Int),.i y0.2.2])]) [60000] (λ(k0:Nat) (s0:(List X0)×Nat×Int)=>whl (Eu Y) k0 s0=some (I0 (Eu Y) 7 (x1.1,x3.2.1,x3.2.2))) (λ(y0:(List X0)×Nat×Int)=>(I0 (Eu Y) 7 (x1.1,x3.2.1,x3.2.2))= .brk y0) 7 (x1.1,x3.2.1,x3.2.2) (Xg [(384,147202)] (by kernel_rfl)) (Fl (NL Y _ _ _)) (λ_ h=>G1 h) (λk0 s0 U=> ?_) (λy0 hD0=> ?_)
  ·refine Qc ?_;obtain ⟨x17,hx17⟩:=nm (Ql Y s0.2.1 s0.2.2 2);have hbx17:=hx17▸Q7 Y s0.2.1 s0.2.2 2;refine sn Qb [0,2,3,37] [60000] (pl 1 s0.1 (po 3 (.give none (.i x17.1) [.h Y,.i (x17.2.1:Int),.i x17.2.2]) (px (Xk (hx17▸Xy Y s0.2.1 s0.2.2 2)) (pe 4 (Jl (IntWalk.i64_in (5+x17.1) (by omega))) p0)))) <| ck (decide ((s0.1.length:Int)<(5+x17.1))) (λh18=> ?_) (λh18=> ?_)
   ·have h18d:=of_decide_eq_true h18;refine Qg <| Qv ?_
    have hx19:=ng ([⟨#[100,97]⟩,⟨#[100,98]⟩,⟨#[100,99]⟩,⟨#[100,100]⟩,⟨#[100,101]⟩,⟨#[100,102]⟩]:Z) (s0.1.length:Int).toNat (by simp only[zM,zK];omega);obtain ⟨x20,hx20⟩:=nm (Yk Y x17.2.1 x17.2.2);have hbx20:=hx20▸JD Y x17.2.1 x17.2.2;refine wT 3 0 (.own true 147202) s0.1 (λhw21 hl22=> ?_);refine qU Qb Zg [(3,.one (.slc (.own true 3072) 2 ((eL s0.1)++ [[.s (nth ([⟨#[100,97]⟩,⟨#[100,98]⟩,⟨#[100,99]⟩,⟨#[100,100]⟩,⟨#[100,101]⟩,⟨#[100,102]⟩]:Z) (s0.1.length:Int).toNat),.h x20.1]])))] [3] [(60000, [.h Y,.i (x20.2.1:Int),.i x20.2.2])] [60000] (pl 3 s0.1 (pG 4 (s0.1.length:Int) hx19 (po 7 (.give none (.o 0 x20.1) [.h Y,.i (x20.2.1:Int),.i x20.2.2]) (px (Xk (hx20▸Ci Y x17.2.1 x17.2.2)) (pa s0.1 [((nth ([⟨#[100,97]⟩,⟨#[100,98]⟩,⟨#[100,99]⟩,⟨#[100,100]⟩,⟨#[100,101]⟩,⟨#[100,102]⟩]:Z) (s0.1.length:Int).toNat),x20.1)] p0))))) ?_;exact zI (s0.1++ [((nth ([⟨#[100,97]⟩,⟨#[100,98]⟩,⟨#[100,99]⟩,⟨#[100,100]⟩,⟨#[100,101]⟩,⟨#[100,102]⟩]:Z) (s0.1.length:Int).toNat),x20.1)],x20.2.1,x20.2.2) (zL (Xg [(3072,147202)] (by rw[show ((eL s0.1)++ [[.s (nth ([⟨#[100,97]⟩,⟨#[100,98]⟩,⟨#[100,99]⟩,⟨#[100,100]⟩,⟨#[100,101]⟩,⟨#[100,102]⟩]:Z) (s0.1.length:Int).toNat),.h x20.1]])=(eL (s0.1++ [((nth ([⟨#[100,97]⟩,⟨#[100,98]⟩,⟨#[100,99]⟩,⟨#[100,100]⟩,⟨#[100,101]⟩,⟨#[100,102]⟩]:Z) (s0.1.length:Int).toNat),x20.1)])) from Ju (rfl) (rfl)];first | done | kernel_rfl)) (wn U (Zt hx17 (Q4 h18 (Zt hx20 (rfl))))))
   exact Q3 <| zI (s0.1,x17.2.1,x17.2.2) (zL (Xg [(147202,147352)] (by kernel_rfl)) (wb U (Zt hx17 (Qi h18 (rfl)))))
  refine sn Qb [0,2] [60000] p0 <| Qe ?_
  have hE23:C7 Y ci ch=(y0.1,y0.2.1,y0.2.2):=Zt hx1 (Zt hx2 (Zt hx3 (Qi h4 (Qi h10 (Q4 h16 (Wk hD0 (rfl)))))));exact B9 [] (congrArg (λz=>(.o 0 z.1:AV)) hE23.symm) (congrArg (λz=>([.h Y,.i (z.2.1:Int),.i z.2.2]:List C)) hE23.symm)
 refine tn Qb [0,2,3,49] [60000] p0 <| ck (x3.1==(3:Int)) (λh24=> ?_) (λh24=> ?_)
 ·refine qu Qb [(3,.e 0)] [3,4,12,22] [] [] p0 ?_;refine su Qb [] [3] [] [] p0 <| opn [(false,2,0,true,384000,2)] ?_
  refine Qe ?_;have hE25:C7 Y ci ch=([],x3.2.1,x3.2.2):=Zt hx1 (Zt hx2 (Zt hx3 (Qi h4 (Qi h10 (Qi h16 (Q4 h24 (rfl)))))));exact B9 [] (congrArg (λz=>(.o 0 z.1:AV)) hE25.symm) (congrArg (λz=>([.h Y,.i (z.2.1:Int),.i z.2.2]:List C)) hE25.symm)
 refine Qg <| tu Qb [(2,.o 384 x1.1)] [2,3,4,12,22] [] [] p0 <| Qe ?_
 have hE26:C7 Y ci ch=(x1.1,x3.2.1,x3.2.2):=Zt hx1 (Zt hx2 (Zt hx3 (Qi h4 (Qi h10 (Qi h16 (Qi h24 (rfl)))))));exact B9 [] (congrArg (λz=>(.o 0 z.1:AV)) hE26.symm) (congrArg (λz=>([.h Y,.i (z.2.1:Int),.i z.2.2]:List C)) hE26.symm)
def Py (Y:List UInt8) (ci:Nat) (ch:Int):Int×Nat×Int:=(lt (Z2 Y ci ch [1,2,3,4,5,2,3,9,0,-1,9223372036854775807]) (λx1=>(x1.1,x1.2.1,x1.2.2)))
theorem RM (Y:List UInt8) (ci:Nat) (ch:Int):AGive Tryz.prog 37 [.h Y,.i ((ci:Nat):Int),.i ch] [] (.i (((Py Y ci ch)).1)) [.h Y,.i ((((Py Y ci ch)).2.1:Nat):Int),.i (((Py Y ci ch)).2.2)]:=by
 refine V3 (tt:=tt) Qb Tryz.func37 (fn:=Tryz.f37) rfl (by unfold E9;kernel_rfl) (zD rfl) (zD rfl) rfl rfl λw0 F0 hG=> ?_
 refine sn Qb [0,2] [60000] p0 ?_;obtain ⟨x1,hx1⟩:=nm (Z2 Y ci ch [1,2,3,4,5,2,3,9,0,-1,9223372036854775807]);refine tn Qb [0,2] [60000] (po 2 (.give none (.i x1.1) [.h Y,.i (x1.2.1:Int),.i x1.2.2]) (px (Xk (hx1▸W4 Y ci ch [1,2,3,4,5,2,3,9,0,-1,9223372036854775807] (zE _))) p0)) <| Qe ?_
 have hE2:Py Y ci ch=(x1.1,x1.2.1,x1.2.2):=Zt hx1 (rfl);exact B9 [] (congrArg (λz=>(.i z.1:AV)) hE2.symm) (congrArg (λz=>([.h Y,.i (z.2.1:Int),.i z.2.2]:List C)) hE2.symm)
def K5 (Y:List UInt8) (ci:Nat) (ch:Int):ByteArray×Nat×Int:=(lt (X2 Y ci ch [⟨#[100,97]⟩,⟨#[100,98]⟩,⟨#[100,99]⟩,⟨#[100,100]⟩,⟨#[100,101]⟩,⟨#[122,122]⟩,⟨#[]⟩]) (λx1=>(x1.1,x1.2.1,x1.2.2)))
theorem JJ (Y:List UInt8) (ci:Nat) (ch:Int):AGive Tryz.prog 42 [.h Y,.i ((ci:Nat):Int),.i ch] [] (.s (((K5 Y ci ch)).1)) [.h Y,.i ((((K5 Y ci ch)).2.1:Nat):Int),.i (((K5 Y ci ch)).2.2)]:=by
 refine V3 (tt:=tt) Qb Tryz.func42 (fn:=Tryz.f42) rfl (by unfold E9;kernel_rfl) (zD rfl) (zD rfl) rfl rfl λw0 F0 hG=> ?_
 refine sn Qb [0,2] [60000] p0 ?_;obtain ⟨x1,hx1⟩:=nm (X2 Y ci ch [⟨#[100,97]⟩,⟨#[100,98]⟩,⟨#[100,99]⟩,⟨#[100,100]⟩,⟨#[100,101]⟩,⟨#[122,122]⟩,⟨#[]⟩]);refine tn Qb [0,2] [60000] (po 2 (.give none (.s x1.1) [.h Y,.i (x1.2.1:Int),.i x1.2.2]) (px (Xk (hx1▸Vh Y ci ch [⟨#[100,97]⟩,⟨#[100,98]⟩,⟨#[100,99]⟩,⟨#[100,100]⟩,⟨#[100,101]⟩,⟨#[122,122]⟩,⟨#[]⟩] (zE _))) p0)) <| Qe ?_
 have hE2:K5 Y ci ch=(x1.1,x1.2.1,x1.2.2):=Zt hx1 (rfl);exact B9 [] (congrArg (λz=>(.s z.1:AV)) hE2.symm) (congrArg (λz=>([.h Y,.i (z.2.1:Int),.i z.2.2]:List C)) hE2.symm)
open GoE (enc wide)
def Kb (s_:Qz) (d:List X0):X4×Bool:=(bif (!(((Js s_ d)).2)) then ((([], [],0), [], []),false) else (((Qh s_),(V1 d),((Js s_ d)).1),true))
theorem WT (s_:Qz) (d:List X0):ACalls Tryz.prog 79 [.a [.h s_.1,.h s_.2.1,.i s_.2.2],.h d] (.tup [(true, [.o 0 ((((Kb s_ d)).1).1.1),.o 1 ((((Kb s_ d)).1).1.2.1),.i ((((Kb s_ d)).1).1.2.2),.o 2 ((((Kb s_ d)).1).2.1),.o 3 ((((Kb s_ d)).1).2.2)]),(false, [.b (((Kb s_ d)).2)])]):=by
 refine en Qb Tryz.func79 λw0 F0 hG=> ?_
 refine sn Qb [1,2,4,5] [2,4] p0 <| tn Qb [1,2,4,5,6,7] [2,4] (pc 2 (O6 s_ d) p0) <| Qc <| tu Qb [(2,.p 2 0),(4,.p 4 0),(5,.b false),(6,.o 704 (((Js s_ d)).1)),(15,.b (!(((Js s_ d)).2)))] [0] [(2, [.h s_.1,.h s_.2.1,.i s_.2.2]),(4, [.e 2,.e 5,.i 0,.e 2,.e 2])] [] p0 <| ck (!(((Js s_ d)).2)) (λh1=> ?_) (λh1=> ?_)
 ·refine su Qb [] [15] [] [] p0 <| opn [(true,4,0,true,384000,2),(true,4,1,true,384001,5),(true,4,3,true,384002,2),(true,4,4,true,384003,2)] ?_
  exact Qe <| pz [] (show Kb s_ d=_ from Q4 h1 (rfl)) (λz=> .tup [(true, [.o 0 z.1.1.1,.o 1 z.1.1.2.1,.i z.1.1.2.2,.o 2 z.1.2.1,.o 3 z.1.2.2]),(false, [.b z.2])])
 exact Qg <| sn Qb [4,5] [4] (pc 1 (Io s_) (pc 3 (Aa d) p0)) <| Qe <| pz [] (show Kb s_ d=_ from Qi h1 (rfl)) (λz=> .tup [(true, [.o 0 z.1.1.1,.o 1 z.1.1.2.1,.i z.1.1.2.2,.o 2 z.1.2.1,.o 3 z.1.2.2]),(false, [.b z.2])])
def W7 (Y:List UInt8) (ci:Nat) (ch:Int):X4×Nat×Int:=(lt (Vy Y ci ch) (λx1=>(lt (Ur Y x1.2.1 x1.2.2) (λx2=>((((Kb x1.1 x2.1)).1),x2.2.1,x2.2.2)))))
theorem JK (Y:List UInt8) (ci:Nat) (ch:Int):AGive Tryz.prog 32 [.h Y,.i ((ci:Nat):Int),.i ch] [] (.a [.o 0 ((((W7 Y ci ch)).1).1.1),.o 1 ((((W7 Y ci ch)).1).1.2.1),.i ((((W7 Y ci ch)).1).1.2.2),.o 2 ((((W7 Y ci ch)).1).2.1),.o 3 ((((W7 Y ci ch)).1).2.2)]) [.h Y,.i ((((W7 Y ci ch)).2.1:Nat):Int),.i (((W7 Y ci ch)).2.2)]:=by
 refine V3 (tt:=tt) Qb Tryz.func32 (fn:=Tryz.f32) rfl (by unfold E9;kernel_rfl) (zD rfl) (zD rfl) rfl rfl λw0 F0 hG=> ?_
 refine sn Qb [0,2] [2,60000] p0 ?_;obtain ⟨x1,hx1⟩:=nm (Vy Y ci ch);obtain ⟨x2,hx2⟩:=nm (Ur Y x1.2.1 x1.2.2);have hbx2:=hx2▸Qiw Y x1.2.1 x1.2.2;refine tn Qb [0,2,3] [2,3,60000] (po 1 (.give none (.a [.o 0 x1.1.1,.q 1 x1.1.2.1,.i x1.1.2.2]) [.h Y,.i (x1.2.1:Int),.i x1.2.2]) (px (Xk (hx1▸QG Y ci ch)) (po 3 (.give none (.h x2.1) [.h Y,.i (x2.2.1:Int),.i x2.2.2]) (px (Xk (hx2▸GM Y x1.2.1 x1.2.2)) (pc 4 (WT x1.1 x2.1) p0))))) <| tu Qb [(2,.p 2 0)] [] [(2, [.o 640 ((((Kb x1.1 x2.1)).1).1.1),.o 641 ((((Kb x1.1 x2.1)).1).1.2.1),.i ((((Kb x1.1 x2.1)).1).1.2.2),.o 642 ((((Kb x1.1 x2.1)).1).2.1),.o 643 ((((Kb x1.1 x2.1)).1).2.2)]),(60000, [.h Y,.i (x2.2.1:Int),.i x2.2.2])] [60000] p0 <| Qe ?_
 have hE3:W7 Y ci ch=((((Kb x1.1 x2.1)).1),x2.2.1,x2.2.2):=Zt hx1 (Zt hx2 (rfl));exact B9 [] (congrArg (λz=>(.a [.o 0 z.1.1.1,.o 1 z.1.1.2.1,.i z.1.1.2.2,.o 2 z.1.2.1,.o 3 z.1.2.2]:AV)) hE3.symm) (congrArg (λz=>([.h Y,.i (z.2.1:Int),.i z.2.2]:List C)) hE3.symm)
theorem NN {s:Qz} {d:List X0} (hs:((Qx d)).2=true) (hv:Qj s=true):(Yu s d).2=true:=by
 unfold Yu Yn;rw[hs,hv];simp only[zN,Bool.or_false,cond_false]
 obtain ⟨h1,h2⟩:=Oi (L:=((Qx d)).1) (on:=onD d (Xv d)) (fs:=s.2.1) (g:=D1 [] (Xv d)) (f:=Jq [] (Xv d)) (e:=Ki) (d:=d) (λk a s=>by
  unfold Jq D1;cases Qr (Xv d) a.1<;>rfl) (λj _ hj=>by unfold onD at hj;unfold D1;rw[hj];rfl)
 rw[h1]
 have key:∀(n k:Nat) (o:List Qm) (p:Int),EvS d ((Qx d)).1 (onD d (Xv d)) s.2.1 (((k:Nat)):Int) o->∃o' p',Uy (Jr s d (Xv d)) Be n k (o,p)= .brk (o',p')/\EvS d ((Qx d)).1 (onD d (Xv d)) s.2.1 (((k+n:Nat)):Int) o':=by
  intro n
  induction n with
  | zero=>intro k o p ho;exact ⟨o,p,rfl,ho⟩
  | succ n ih=>
    intro k o p ho;obtain ⟨o1,p1,g1,g2⟩:=Cs (p:=p) hs ho;obtain ⟨o2,p2,g3,g4⟩:=ih (k+1) o1 p1 (by rw[Int.natCast_add];exact g2);refine ⟨o2,p2, ?_,by rw[show k+(n+1)=k+1+n by omega];exact g4⟩;simp only[Uy];unfold Jr I0;rw[g1];exact g3
 obtain ⟨o,p,g1,g2⟩:=key (zR (Vp d+1)) 0 _ 0 h2;simp only[Out.on,Ki];rw[g1]
theorem RN {s:Qz} {d:List X0} (h:(Yu s d).2=true):(Yu s d).1.length=d.length:=by
 have:=congrArg zF (Ro h).2.2.1;simpa using this
theorem Qe4 (Y:List UInt8) (ci:Nat) (ch:Int):Ym (Ur Y ci ch).1=true:=by
 unfold Ur lt;generalize Uq Y ci ch=x
 obtain ⟨t,ht⟩:=Tp (f:=Jw) (λs r=>by
  unfold Jw;generalize (decide ((s.length:Int)>(0:Int))&&(!(Ym s)))=c;cases c<;>simp) (zF x.1+1) x.1
 have hj:=ZV (f:=Jw) (I:=λ_=>True) (J:=λt=>t.length=0\/Ym t=true) (λ_ _ _ _=>trivial) (λs t _ h=>by
  unfold Jw at h;cases hs:Ym s with
  | true=>
    rw[hs] at h;simp only[zN,Bool.and_false,cond_false] at h;have h:=Rd.brk.inj h;rw[←h];exact .inr hs
  | false=>
    rw[hs] at h;by_cases h0:(s.length:Int)>0
    . rw[decide_eq_true h0] at h;simp at h
    rw[decide_eq_false h0] at h;simp only[yB,cond_false] at h;have h:=Rd.brk.inj h;rw[←h];exact .inl (by omega)) (n:=zF x.1+1) (s:=x.1) (t:=t) trivial (Ru Y x.1) ht
 simp only[ht,Out.on];by_cases h0:(t.length:Int)=0
 . rw[beq_iff_eq.2 h0];show Ym [((⟨#[100,97]⟩, [((1,0,0,⟨#[]⟩,(0,0,⟨#[]⟩)):Yw)]):X0)]=true
   kernel_rfl
 rw[beq_eq_false_iff_ne.2 h0];show Ym t=true;exact hj.resolve_left (by omega)
theorem Qkt (Y:List UInt8) (ci:Nat) (ch:Int):(Ur Y ci ch).1.length<=4:=by
 unfold Ur lt;have h11:=(Qe3 Y ci ch).2;generalize Uq Y ci ch=x at h11⊢
 obtain ⟨t,ht⟩:=Tp (f:=Jw) (λs r=>by
  unfold Jw;generalize (decide ((s.length:Int)>(0:Int))&&(!(Ym s)))=c;cases c<;>simp) (zF x.1+1) x.1
 have hj:=ZV (f:=Jw) (I:=λs=>s.length<=4) (J:=λt=>t.length<=4) (λs s' hi h=>by
  unfold Jw at h;revert h;generalize (decide ((s.length:Int)>(0:Int))&&(!(Ym s)))=c;intro h;cases c with
  | true=>
    simp only[cond_true] at h;have h:=Rd.next.inj h;rw[←h,List.length_take];omega
  | false=>simp at h) (λs t hi h=>by
  unfold Jw at h;revert h;generalize (decide ((s.length:Int)>(0:Int))&&(!(Ym s)))=c;intro h;cases c with
  | true=>simp at h
  | false=>
    simp only[cond_false] at h;have h:=Rd.brk.inj h;rw[←h];exact hi) (n:=zF x.1+1) (s:=x.1) (t:=t) h11 (Ru Y x.1) ht
 simp only[ht,Out.on];cases ((t.length:Int)==0) with
 | true=>show (1:Nat)<=4;decide
 | false=>exact hj
theorem Ql2 (d:List X0):V1 d=d:=by
 unfold V1;rw[Bk (f:=Lz) (e:=L3) (g:=id) (λ_ _ _=>rfl),yE];rfl
theorem Ql3 (Y:List UInt8) (ci:Nat) (ch:Int):0<(W7 Y ci ch).1.2.2.length/\(W7 Y ci ch).1.2.1.length<=4:=by
 unfold W7 lt;have h5:=(Qiy Y ci ch).1;generalize Vy Y ci ch=x1 at h5⊢;dsimp only;have hst:=Qe4 Y x1.2.1 x1.2.2;have hne:=Qiw Y x1.2.1 x1.2.2;have hle:=Qkt Y x1.2.1 x1.2.2;generalize Ur Y x1.2.1 x1.2.2=x2 at hst hne hle⊢;have hs:(Qx x2.1).2=true:=by rw[←W8];exact hst
 have he:=NN (s:=x1.1) hs (by rw[←Bo];exact Ot h5.vs);have hl:=RN he;unfold Kb;rw[Rn,he,Ql2];simp only[zN,cond_false];omega
open GoE (enc wide)
def Am (Y:List UInt8) (ci:Nat) (ch:Int):X4×Nat×Int:=(lt (W7 Y ci ch) (λx1=>(lt (Ql Y x1.2.1 x1.2.2 12) (λx2=>(bif (x2.1==(0:Int)) then (lt (Nh Y x2.2.1 x2.2.2) (λx4=>((x1.1.1,x1.1.2.1,zG x1.1.2.2 0 ((nth x1.1.2.2 0).1,x4.1)),x4.2.1,x4.2.2))) else (bif (x2.1==(1:Int)) then (lt (C7 Y x2.2.1 x2.2.2) (λx10=>((x1.1.1,x10.1,x1.1.2.2),x10.2.1,x10.2.2))) else (bif (x2.1==(2:Int)) then (lt (Bh Y x2.2.1 x2.2.2) (λx13=>((x13.1,x1.1.2.1,x1.1.2.2),x13.2.1,x13.2.2))) else (x1.1,x2.2.1,x2.2.2))))))))
theorem NO (Y:List UInt8) (ci:Nat) (ch:Int):AGive Tryz.prog 34 [.h Y,.i ((ci:Nat):Int),.i ch] [] (.a [.h ((((Am Y ci ch)).1).1.1),.q 0 ((((Am Y ci ch)).1).1.2.1),.i ((((Am Y ci ch)).1).1.2.2),.o 1 ((((Am Y ci ch)).1).2.1),.o 2 ((((Am Y ci ch)).1).2.2)]) [.h Y,.i ((((Am Y ci ch)).2.1:Nat):Int),.i (((Am Y ci ch)).2.2)]:=by
 refine V3 (tt:=tt) Qb Tryz.func34 (fn:=Tryz.f34) rfl (by unfold E9;kernel_rfl) (zD rfl) (zD rfl) rfl rfl λw0 F0 hG=> ?_
 refine sn Qb [0,2] [2,60000] p0 ?_;obtain ⟨x1,hx1⟩:=nm (W7 Y ci ch);have hcx1:=Ql3 Y ci ch;rw[hx1] at hcx1;refine tn Qb [0,2,3] [2,3,60000] (po 1 (.give none (.a [.o 0 x1.1.1.1,.o 1 x1.1.1.2.1,.i x1.1.1.2.2,.o 2 x1.1.2.1,.o 3 x1.1.2.2]) [.h Y,.i (x1.2.1:Int),.i x1.2.2]) (px (Xk (hx1▸JK Y ci ch)) p0)) <| Qc ?_
 obtain ⟨x2,hx2⟩:=nm (Ql Y x1.2.1 x1.2.2 12);have hbx2:=hx2▸Q7 Y x1.2.1 x1.2.2 12;refine tu Qb [(2,.p 2 0),(3,.p 3 0),(7,.i x2.1)] [] [(2, [.e 2,.e 5,.i 0,.e 2,.e 2]),(3, [.o 320 x1.1.1.1,.o 321 x1.1.1.2.1,.i x1.1.1.2.2,.o 322 x1.1.2.1,.o 323 x1.1.2.2]),(60000, [.h Y,.i (x2.2.1:Int),.i x2.2.2])] [60000] (po 1 (.give none (.i x2.1) [.h Y,.i (x2.2.1:Int),.i x2.2.2]) (px (Xk (hx2▸Xy Y x1.2.1 x1.2.2 12)) p0)) <| Qv <| sn Qb [0,2,3,7,8] [2,3,60000] p0 <| ck (x2.1==(0:Int)) (λh3=> ?_) (λh3=> ?_)
 ·have h3d:=eq_of_beq h3;obtain ⟨x4,hx4⟩:=nm (Nh Y x2.2.1 x2.2.2);refine wB 3 4 (.own true 323) x1.1.2.2 (λhw6 hl7=> ?_);have hx5:=ng x1.1.2.2 0;refine qU Qb Zg [] [7] [(3, [.o 320 x1.1.1.1,.o 321 x1.1.1.2.1,.i x1.1.1.2.2,.o 322 x1.1.2.1,.slc (.own true 323) 2 (setRow (eL x1.1.2.2) 0 1 [.h x4.1])]),(60000, [.h Y,.i (x4.2.1:Int),.i x4.2.2])] [3,60000] (po 3 (.give none (.o 0 x4.1) [.h Y,.i (x4.2.1:Int),.i x4.2.2]) (px (Xk (hx4▸NF Y x2.2.1 x2.2.2)) (pG 4 0 hx5 p0))) ?_;refine eqn [] [] [(3, [.o 320 x1.1.1.1,.o 321 x1.1.1.2.1,.i x1.1.1.2.2,.o 322 x1.1.2.1,.o 323 (zG x1.1.2.2 0 ((nth x1.1.2.2 0).1,x4.1))])] [3] (by rw[Jm (y:=((nth x1.1.2.2 0).1,x4.1)) hx5 rfl]<;>kernel_rfl) ?_;refine sn Qb [0,2] [2,60000] p0 <| Hr [321] rfl ?_
  refine Qe ?_;have hE8:Am Y ci ch=((x1.1.1,x1.1.2.1,zG x1.1.2.2 0 ((nth x1.1.2.2 0).1,x4.1)),x4.2.1,x4.2.2):=Zt hx1 (Zt hx2 (Q4 h3 (Zt hx4 (rfl))));exact B9 [320] (congrArg (λz=>(.a [.h z.1.1.1,.q 0 z.1.1.2.1,.i z.1.1.2.2,.o 1 z.1.2.1,.o 2 z.1.2.2]:AV)) hE8.symm) (congrArg (λz=>([.h Y,.i (z.2.1:Int),.i z.2.2]:List C)) hE8.symm)
 refine tn Qb [0,2,3,7,16] [2,3,60000] p0 <| ck (x2.1==(1:Int)) (λh9=> ?_) (λh9=> ?_)
 ·obtain ⟨x10,hx10⟩:=nm (C7 Y x2.2.1 x2.2.2);refine qu Qb [] [7] [(3, [.o 320 x1.1.1.1,.o 321 x1.1.1.2.1,.i x1.1.1.2.2,.o 1216 x10.1,.o 323 x1.1.2.2]),(60000, [.h Y,.i (x10.2.1:Int),.i x10.2.2])] [3,60000] (po 1 (.give none (.o 0 x10.1) [.h Y,.i (x10.2.1:Int),.i x10.2.2]) (px (Xk (hx10▸NM Y x2.2.1 x2.2.2)) p0)) ?_;refine sn Qb [0,2] [2,60000] p0 <| Hr [321] rfl ?_
  refine Qe ?_;have hE11:Am Y ci ch=((x1.1.1,x10.1,x1.1.2.2),x10.2.1,x10.2.2):=Zt hx1 (Zt hx2 (Qi h3 (Q4 h9 (Zt hx10 (rfl)))));exact B9 [320] (congrArg (λz=>(.a [.h z.1.1.1,.q 0 z.1.1.2.1,.i z.1.1.2.2,.o 1 z.1.2.1,.o 2 z.1.2.2]:AV)) hE11.symm) (congrArg (λz=>([.h Y,.i (z.2.1:Int),.i z.2.2]:List C)) hE11.symm)
 refine tu Qb [(21,.b (x2.1==(2:Int)))] [7] [] [] p0 <| ck (x2.1==(2:Int)) (λh12=> ?_) (λh12=> ?_)
 ·obtain ⟨x13,hx13⟩:=nm (Bh Y x2.2.1 x2.2.2);refine rn Qb [0,2,3] [2,3,60000] (po 1 (.give none (.a [.h x13.1.1,.q 0 x13.1.2.1,.i x13.1.2.2]) [.h Y,.i (x13.2.1:Int),.i x13.2.2]) (px (Xk (hx13▸NJ Y x2.2.1 x2.2.2)) p0)) ?_;refine tn Qb [0,2] [2,60000] p0 <| Qe ?_
  have hE14:Am Y ci ch=((x13.1,x1.1.2.1,x1.1.2.2),x13.2.1,x13.2.2):=Zt hx1 (Zt hx2 (Qi h3 (Qi h9 (Q4 h12 (Zt hx13 (rfl))))));exact B9 [] (congrArg (λz=>(.a [.h z.1.1.1,.q 0 z.1.1.2.1,.i z.1.1.2.2,.o 1 z.1.2.1,.o 2 z.1.2.2]:AV)) hE14.symm) (congrArg (λz=>([.h Y,.i (z.2.1:Int),.i z.2.2]:List C)) hE14.symm)
 refine Qg <| sn Qb [0,2] [2,60000] p0 <| Hr [321] rfl ?_
 refine Qe ?_;have hE15:Am Y ci ch=(x1.1,x2.2.1,x2.2.2):=Zt hx1 (Zt hx2 (Qi h3 (Qi h9 (Qi h12 (rfl)))));exact B9 [320] (congrArg (λz=>(.a [.h z.1.1.1,.q 0 z.1.1.2.1,.i z.1.1.2.2,.o 1 z.1.2.1,.o 2 z.1.2.2]:AV)) hE15.symm) (congrArg (λz=>([.h Y,.i (z.2.1:Int),.i z.2.2]:List C)) hE15.symm)
def N3 (u:Int) (_:Nat) (a0:Xe) (s0:List Int):Rd (List Int) (List Int) (List Int):=(bif (a0.2.1==u) then (.next (s0++ [a0.1])) else (.next s0))
def N4 (_:Nat) (s0:List Int):(List Int):=s0
def Y9 (s_:Qz) (u:Int):(List Int):=(Out.on (Xz (N3 u) N4 s_.2.1 0 []) (λy0=>y0))
theorem JL (s_:Qz) (u:Int):ACalls Tryz.prog 36 [.a [.h s_.1,.h s_.2.1,.i s_.2.2],.i u] (.o 0 (Y9 s_ u)):=by
 refine en Qb Tryz.func36 λw0 F0 hG=> ?_
 refine sn Qb [1,2,4] [2] p0 <| tn Qb [1,2,4,5] [2] p0 <| Qc <| tu Qb [(2,.p 2 0),(4,.e 0),(5,.one (.slc (.own true 448) 1 [])),(6,.i 0)] [0] [(2, [.h s_.1,.h s_.2.1,.i s_.2.2])] [] p0 <| wB 2 1 .sh s_.2.1 (λhw1 hl2=> ?_)
 refine YP (N3 u) N4 s_.2.1 [] (λk0 s0=> [(5,.o 147203 s0),(6,.i (k0:Int))]) [5,6] (λ_ _=> []) [] (λy0=> [(5,.o 147353 y0)]) [1,2,5,6] (λ_=> []) [2] (λk0 s0=>zF s0<=k0) (Xg [(448,147203)] (by kernel_rfl)) (by simp) (λk0 s0 hk0 U=> ?_) (λk0 s0 hk0 U=> ?_) (λy0 hD0=> ?_)
 ·have hA0_0:=U.2;obtain ⟨a0,hx0⟩:=Xm (l:=s_.2.1) (i:=k0) hk0;refine Qc <| sn Qb [1,2,4,5,6,12] [2] (pl 3 s_.2.1 (pe 4 (zB ((k0:Int)<(s_.2.1.length:Int))) p0)) <| ckT <| Qg <| Qc <| Qv <| tn Qb [1,2,4,5,6,22] [2] (pn 3 hx0 p0) <| ck (a0.2.1==u) (λh3=> ?_) (λh3=> ?_)
  ·have h3d:=eq_of_beq h3;refine wT 5 0 (.own true 147203) s0 (λhw4 hl5=> ?_);refine qu Qb [(5,.one (.slc (.own true 1984) 1 ((eL s0)++ [[.i a0.1]])))] [5] [] [] (pn 4 hx0 (pa s0 [a0.1] p0)) ?_;refine eqn [(5,.o 1984 (s0++ [a0.1]))] [5] [] [] (by rw[show ((eL s0)++ [[.i a0.1]])=(eL (s0++ [a0.1])) from Ju (rfl) (rfl)];first | done | kernel_rfl) ?_;refine rn Qb [1,2,4,5,6] [2] (pe 1 (Jl (Qo k0 (by omega))) p0) ?_;exact zI (s0++ [a0.1]) (zL (Xg [(1984,147203)] (by kernel_rfl)) ⟨Qt hx0 (Q4 h3 (rfl)) U.1,by first|omega|(simp;omega) | simp⟩)
  have h3d:=Y4 h3;refine Qg <| qu Qb [(6,.i ((k0+1:Nat):Int))] [6] [] [] (pe 1 (Jl (Qo k0 (by omega))) p0) ?_
  exact xw s0 ⟨Qt hx0 (Qi h3 (rfl)) U.1,by first|omega|(simp;omega) | simp⟩
 ·have hA0_0:=U.2;exact Qc <| sn Qb [1,2,4,5,6,12] [2] (pl 3 s_.2.1 (pe 4 (zC ((k0:Int)<(s_.2.1.length:Int))) p0)) <| ckF <| Q3 <| zI _ (zL (Xg [(147203,147353)] (by kernel_rfl)) (Xn hk0 (rfl) U.1))
 exact sn Qb [4] [] p0 <| Qe <| po0 [] (Wk hD0 (rfl))
def Hx (Y:List UInt8) (ci:Nat) (ch:Int):X4×Int×Nat×Int:=(lt (W7 Y ci ch) (λx1=>(lt (Zi Y x1.2.1 x1.2.2 16) (λx2=>(bif x2.1 then (lt (Am Y x2.2.1 x2.2.2) (λx4=>(lt (A5 Y x4.2.1 x4.2.2) (λx5=>(x4.1,x5.1,x5.2.1,x5.2.2))))) else (lt (A5 Y x2.2.1 x2.2.2) (λx7=>(x1.1,x7.1,x7.2.1,x7.2.2))))))))
theorem GP (Y:List UInt8) (ci:Nat) (ch:Int):AGive Tryz.prog 12 [.h Y,.i ((ci:Nat):Int),.i ch] [] (.tup [(true, [.h ((((Hx Y ci ch)).1).1.1),.q 0 ((((Hx Y ci ch)).1).1.2.1),.i ((((Hx Y ci ch)).1).1.2.2),.o 1 ((((Hx Y ci ch)).1).2.1),.o 2 ((((Hx Y ci ch)).1).2.2)]),(false, [.i (((Hx Y ci ch)).2.1)])]) [.h Y,.i ((((Hx Y ci ch)).2.2.1:Nat):Int),.i (((Hx Y ci ch)).2.2.2)]:=by
 refine V3 (tt:=tt) Qb Tryz.func12 (fn:=Tryz.f12) rfl (by unfold E9;kernel_rfl) (zD rfl) (zD rfl) rfl rfl λw0 F0 hG=> ?_
 refine sn Qb [0,2,3] [2,60000] p0 ?_;obtain ⟨x1,hx1⟩:=nm (W7 Y ci ch);refine tn Qb [0,2,3,4] [2,4,60000] (po 1 (.give none (.a [.o 0 x1.1.1.1,.o 1 x1.1.1.2.1,.i x1.1.1.2.2,.o 2 x1.1.2.1,.o 3 x1.1.2.2]) [.h Y,.i (x1.2.1:Int),.i x1.2.2]) (px (Xk (hx1▸JK Y ci ch)) p0)) <| Qc ?_
 obtain ⟨x2,hx2⟩:=nm (Zi Y x1.2.1 x1.2.2 16);refine tu Qb [(2,.p 2 0),(3,.i 0),(4,.p 4 0),(8,.b x2.1)] [] [(2, [.e 2,.e 5,.i 0,.e 2,.e 2]),(4, [.o 384 x1.1.1.1,.o 385 x1.1.1.2.1,.i x1.1.1.2.2,.o 386 x1.1.2.1,.o 387 x1.1.2.2]),(60000, [.h Y,.i (x2.2.1:Int),.i x2.2.2])] [60000] (po 1 (.give none (.b x2.1) [.h Y,.i (x2.2.1:Int),.i x2.2.2]) (px (Xk (hx2▸Vg Y x1.2.1 x1.2.2 16)) p0)) <| ck x2.1 (λh3=> ?_) (λh3=> ?_)
 ·obtain ⟨x4,hx4⟩:=nm (Am Y x2.2.1 x2.2.2);refine rn Qb [0,2,3,4] [2,4,60000] (po 1 (.give none (.a [.h x4.1.1.1,.q 0 x4.1.1.2.1,.i x4.1.1.2.2,.o 1 x4.1.2.1,.o 2 x4.1.2.2]) [.h Y,.i (x4.2.1:Int),.i x4.2.2]) (px (Xk (hx4▸NO Y x2.2.1 x2.2.2)) p0)) ?_;obtain ⟨x5,hx5⟩:=nm (A5 Y x4.2.1 x4.2.2);refine tN Qb Zg [0,2,3] [2,60000] (po 2 (.give none (.i x5.1) [.h Y,.i (x5.2.1:Int),.i x5.2.2]) (px (Xk (hx5▸Rv Y x4.2.1 x4.2.2)) p0)) <| Qe ?_
  have hE6:Hx Y ci ch=(x4.1,x5.1,x5.2.1,x5.2.2):=Zt hx1 (Zt hx2 (Q4 h3 (Zt hx4 (Zt hx5 (rfl)))));exact B9 [] (congrArg (λz=>(.tup [(true, [.h z.1.1.1,.q 0 z.1.1.2.1,.i z.1.1.2.2,.o 1 z.1.2.1,.o 2 z.1.2.2]),(false, [.i z.2.1])]:AV)) hE6.symm) (congrArg (λz=>([.h Y,.i (z.2.2.1:Int),.i z.2.2.2]:List C)) hE6.symm)
 refine Qg ?_;obtain ⟨x7,hx7⟩:=nm (A5 Y x2.2.1 x2.2.2);refine sN Qb Zg [0,2,3] [2,60000] (po 2 (.give none (.i x7.1) [.h Y,.i (x7.2.1:Int),.i x7.2.2]) (px (Xk (hx7▸Rv Y x2.2.1 x2.2.2)) p0)) <| Hr [385] rfl ?_
 refine Qe ?_;have hE8:Hx Y ci ch=(x1.1,x7.1,x7.2.1,x7.2.2):=Zt hx1 (Zt hx2 (Qi h3 (Zt hx7 (rfl))));exact B9 [384] (congrArg (λz=>(.tup [(true, [.h z.1.1.1,.q 0 z.1.1.2.1,.i z.1.1.2.2,.o 1 z.1.2.1,.o 2 z.1.2.2]),(false, [.i z.2.1])]:AV)) hE8.symm) (congrArg (λz=>([.h Y,.i (z.2.2.1:Int),.i z.2.2.2]:List C)) hE8.symm)
def Uz (Y:List UInt8) (ci:Nat) (ch:Int) (l:X4) (u:Int):E3×Nat×Int:=(lt (Z2 Y ci ch [1,1,2,2,2,3,4,4,5]) (λx1=>(lt (Py Y x1.2.1 x1.2.2) (λx2=>(bif decide (((Y9 l.1 u).length:Int)>(0:Int)) then (lt (Zi Y x2.2.1 x2.2.2 5) (λx4=>(lt (α:=Int×Nat×Int) (bif (!x4.1) then (lt (Ql Y x4.2.1 x4.2.2 ((Y9 l.1 u).length:Int)) (λx5=>((nth (Y9 l.1 u) x5.1.toNat),x5.2.1,x5.2.2))) else (x2.1,x4.2.1,x4.2.2)) (λx5=>(lt (α:=E3×Nat×Int) (bif (x1.1==(1:Int)) then (lt (X3 Y x5.2.1 x5.2.2 1) (λx11=>((x1.1,(x11.1.1,u,x11.1.2.2.1,x11.1.2.2.2.1,x11.1.2.2.2.2),0,(⟨#[]⟩, [])),x11.2.1,x11.2.2))) else (bif (x1.1==(2:Int)) then (lt (X3 Y x5.2.1 x5.2.2 x5.1) (λx13=>((x1.1,(x13.1.1,u,x13.1.2.2.1,x13.1.2.2.2.1,x13.1.2.2.2.2),0,(⟨#[]⟩, [])),x13.2.1,x13.2.2))) else (bif (x1.1==(3:Int)) then ((x1.1,(0,0,false,0, []),x5.1,(⟨#[]⟩, [])),x5.2.1,x5.2.2) else (bif (x1.1==(4:Int)) then (lt (X2 Y x5.2.1 x5.2.2 [⟨#[100,97]⟩,⟨#[100,98]⟩,⟨#[100,99]⟩,⟨#[100,100]⟩]) (λx16=>(lt (Yk Y x16.2.1 x16.2.2) (λx17=>((x1.1,(0,0,false,0, []),0,(x16.1,x17.1)),x17.2.1,x17.2.2))))) else (lt (K5 Y x5.2.1 x5.2.2) (λx18=>((x1.1,(0,0,false,0, []),0,(x18.1, [])),x18.2.1,x18.2.2))))))) (λx11=>(lt (Zi Y x11.2.1 x11.2.2 16) (λx21=>(lt (α:=Int×Nat×Int) (bif x21.1 then (lt (Ql Y x21.2.1 x21.2.2 8) (λx22=>(IntKind.i64.wrap (x22.1-1),x22.2.1,x22.2.2))) else (x11.1.1,x21.2.1,x21.2.2)) (λx22=>(lt (Zi Y x22.2.1 x22.2.2 20) (λx25=>(bif x25.1 then (lt (Ql Y x25.2.1 x25.2.2 4) (λx27=>((x22.1,(x11.1.2.1.1,x27.1,x11.1.2.1.2.2.1,x11.1.2.1.2.2.2.1,x11.1.2.1.2.2.2.2),x11.1.2.2.1,x11.1.2.2.2),x27.2.1,x27.2.2))) else ((x22.1,x11.1.2.1,x11.1.2.2.1,x11.1.2.2.2),x25.2.1,x25.2.2)))))))))))))) else (lt (α:=E3×Nat×Int) (bif (x1.1==(1:Int)) then (lt (X3 Y x2.2.1 x2.2.2 1) (λx30=>((x1.1,(x30.1.1,u,x30.1.2.2.1,x30.1.2.2.2.1,x30.1.2.2.2.2),0,(⟨#[]⟩, [])),x30.2.1,x30.2.2))) else (bif (x1.1==(2:Int)) then (lt (X3 Y x2.2.1 x2.2.2 x2.1) (λx32=>((x1.1,(x32.1.1,u,x32.1.2.2.1,x32.1.2.2.2.1,x32.1.2.2.2.2),0,(⟨#[]⟩, [])),x32.2.1,x32.2.2))) else (bif (x1.1==(3:Int)) then ((x1.1,(0,0,false,0, []),x2.1,(⟨#[]⟩, [])),x2.2.1,x2.2.2) else (bif (x1.1==(4:Int)) then (lt (X2 Y x2.2.1 x2.2.2 [⟨#[100,97]⟩,⟨#[100,98]⟩,⟨#[100,99]⟩,⟨#[100,100]⟩]) (λx35=>(lt (Yk Y x35.2.1 x35.2.2) (λx36=>((x1.1,(0,0,false,0, []),0,(x35.1,x36.1)),x36.2.1,x36.2.2))))) else (lt (K5 Y x2.2.1 x2.2.2) (λx37=>((x1.1,(0,0,false,0, []),0,(x37.1, [])),x37.2.1,x37.2.2))))))) (λx30=>(lt (Zi Y x30.2.1 x30.2.2 16) (λx40=>(lt (α:=Int×Nat×Int) (bif x40.1 then (lt (Ql Y x40.2.1 x40.2.2 8) (λx41=>(IntKind.i64.wrap (x41.1-1),x41.2.1,x41.2.2))) else (x30.1.1,x40.2.1,x40.2.2)) (λx41=>(lt (Zi Y x41.2.1 x41.2.2 20) (λx44=>(bif x44.1 then (lt (Ql Y x44.2.1 x44.2.2 4) (λx46=>((x41.1,(x30.1.2.1.1,x46.1,x30.1.2.1.2.2.1,x30.1.2.1.2.2.2.1,x30.1.2.1.2.2.2.2),x30.1.2.2.1,x30.1.2.2.2),x46.2.1,x46.2.2))) else ((x41.1,x30.1.2.1,x30.1.2.2.1,x30.1.2.2.2),x44.2.1,x44.2.2)))))))))))))))
theorem RO (Y:List UInt8) (ci:Nat) (ch:Int) (l:X4) (u:Int):AGive Tryz.prog 14 [.h Y,.i ((ci:Nat):Int),.i ch] [.a [.h l.1.1,.h l.1.2.1,.i l.1.2.2,.h l.2.1,.h l.2.2],.i u] (.a [.i ((((Uz Y ci ch l u)).1).1),.i ((((Uz Y ci ch l u)).1).2.1.1),.i ((((Uz Y ci ch l u)).1).2.1.2.1),.b ((((Uz Y ci ch l u)).1).2.1.2.2.1),.i ((((Uz Y ci ch l u)).1).2.1.2.2.2.1),.o 0 ((((Uz Y ci ch l u)).1).2.1.2.2.2.2),.i ((((Uz Y ci ch l u)).1).2.2.1),.s ((((Uz Y ci ch l u)).1).2.2.2.1),.o 1 ((((Uz Y ci ch l u)).1).2.2.2.2)]) [.h Y,.i ((((Uz Y ci ch l u)).2.1:Nat):Int),.i (((Uz Y ci ch l u)).2.2)]:=by
 refine V3 (tt:=tt) Qb Tryz.func14 (fn:=Tryz.f14) rfl (by unfold E9;kernel_rfl) (zD rfl) (zD rfl) rfl rfl λw0 F0 hG=> ?_
 refine sn Qb [0,2,4,6] [4,6,60000] p0 ?_;obtain ⟨x1,hx1⟩:=nm (Z2 Y ci ch [1,1,2,2,2,3,4,4,5]);refine tn Qb [0,2,4,6,7] [4,6,7,60000] (po 2 (.give none (.i x1.1) [.h Y,.i (x1.2.1:Int),.i x1.2.2]) (px (Xk (hx1▸W4 Y ci ch [1,1,2,2,2,3,4,4,5] (zE _))) p0)) <| tu Qb [(6,.p 6 0),(7,.p 7 0),(8,.o 1088 (Y9 l.1 u))] [1] [(6, [.i 0,.i 0,.i 0,.b false,.i 0,.e 4,.i 0,.s ⟨#[]⟩,.e 7]),(7, [.i x1.1,.i 0,.i 0,.b false,.i 0,.e 4,.i 0,.s ⟨#[]⟩,.e 7]),(60000, [.h Y,.i (x1.2.1:Int),.i x1.2.2])] [60000] (pc 3 (JL l.1 u) p0) ?_
 obtain ⟨x2,hx2⟩:=nm (Py Y x1.2.1 x1.2.2);refine sn Qb [0,2,6,7,8,9] [6,7,60000] (po 1 (.give none (.i x2.1) [.h Y,.i (x2.2.1:Int),.i x2.2.2]) (px (Xk (hx2▸RM Y x1.2.1 x1.2.2)) p0)) <| Qc <| Qc <| Xu (decide (((Y9 l.1 u).length:Int)>(0:Int))) (λh3=> ?_) (λh3=> ?_)
 ·have h3d:=of_decide_eq_true h3;obtain ⟨x4,hx4⟩:=nm (Zi Y x2.2.1 x2.2.2 5);refine qn Qb [0,2,6,7,8,9,27] [6,7,60000] (pl 1 (Y9 l.1 u) (pt 2 h3 (po 5 (.give none (.b x4.1) [.h Y,.i (x4.2.1:Int),.i x4.2.2]) (px (Xk (hx4▸Vg Y x2.2.1 x2.2.2 5)) p0)))) ?_;refine mz [(9,.i x2.1),(27,.b (!x4.1))] [] [(60000, [.h Y,.i (x4.2.1:Int),.i x4.2.2])] [60000] ?_;obtain ⟨x5,hx5⟩:=nm ((bif (!x4.1) then (lt (Ql Y x4.2.1 x4.2.2 ((Y9 l.1 u).length:Int)) (λx5=>((nth (Y9 l.1 u) x5.1.toNat),x5.2.1,x5.2.2))) else (x2.1,x4.2.1,x4.2.2)));refine jn [(9,.i x5.1)] [8,9,27] [(60000, [.h Y,.i (x5.2.1:Int),.i x5.2.2])] [60000] (!x4.1) (λh6=> ?_) (λh6=> ?_) ?_
  ·refine ckt h6 ?_;obtain ⟨x7,hx7⟩:=nm (Ql Y x4.2.1 x4.2.2 ((Y9 l.1 u).length:Int));have hbx7:=hx7▸Q7 Y x4.2.1 x4.2.2 ((Y9 l.1 u).length:Int);refine wT 8 0 (.own true 1088) (Y9 l.1 u) (λhw9 hl10=> ?_);have hx8:=ng (Y9 l.1 u) x7.1.toNat;refine rn Qb [0,2,6,7,9] [6,7,60000] (pl 3 (Y9 l.1 u) (po 4 (.give none (.i x7.1) [.h Y,.i (x7.2.1:Int),.i x7.2.2]) (px (Xk (hx7▸Xy Y x4.2.1 x4.2.2 ((Y9 l.1 u).length:Int))) (pG 5 x7.1 hx8 p0)))) ?_;obtain rfl:x5=((nth (Y9 l.1 u) x7.1.toNat),x7.2.1,x7.2.2):=hx5.symm.trans (show (bif (!x4.1) then (lt (Ql Y x4.2.1 x4.2.2 ((Y9 l.1 u).length:Int)) (λx5=>((nth (Y9 l.1 u) x5.1.toNat),x5.2.1,x5.2.2))) else (x2.1,x4.2.1,x4.2.2))=((nth (Y9 l.1 u) x7.1.toNat),x7.2.1,x7.2.2) from Q4 h6 (Zt hx7 (rfl)));exact zA (by kernel_rfl)
  ·refine ckf h6 ?_;refine Qg ?_;obtain rfl:x5=(x2.1,x4.2.1,x4.2.2):=hx5.symm.trans (show (bif (!x4.1) then (lt (Ql Y x4.2.1 x4.2.2 ((Y9 l.1 u).length:Int)) (λx5=>((nth (Y9 l.1 u) x5.1.toNat),x5.2.1,x5.2.2))) else (x2.1,x4.2.1,x4.2.2))=(x2.1,x4.2.1,x4.2.2) from Qi h6 (rfl));exact zA (by kernel_rfl)
  refine Qc <| su Qb [(36,.i x1.1)] [] [] [] p0 <| Qv <| sn Qb [0,2,6,7,9,36,41] [6,7,60000] p0 <| mz [(41,.b (x1.1==(1:Int)))] [] [] [] ?_
  obtain ⟨x11,hx11⟩:=nm ((bif (x1.1==(1:Int)) then (lt (X3 Y x5.2.1 x5.2.2 1) (λx11=>((x1.1,(x11.1.1,u,x11.1.2.2.1,x11.1.2.2.2.1,x11.1.2.2.2.2),0,(⟨#[]⟩, [])),x11.2.1,x11.2.2))) else (bif (x1.1==(2:Int)) then (lt (X3 Y x5.2.1 x5.2.2 x5.1) (λx13=>((x1.1,(x13.1.1,u,x13.1.2.2.1,x13.1.2.2.2.1,x13.1.2.2.2.2),0,(⟨#[]⟩, [])),x13.2.1,x13.2.2))) else (bif (x1.1==(3:Int)) then ((x1.1,(0,0,false,0, []),x5.1,(⟨#[]⟩, [])),x5.2.1,x5.2.2) else (bif (x1.1==(4:Int)) then (lt (X2 Y x5.2.1 x5.2.2 [⟨#[100,97]⟩,⟨#[100,98]⟩,⟨#[100,99]⟩,⟨#[100,100]⟩]) (λx16=>(lt (Yk Y x16.2.1 x16.2.2) (λx17=>((x1.1,(0,0,false,0, []),0,(x16.1,x17.1)),x17.2.1,x17.2.2))))) else (lt (K5 Y x5.2.1 x5.2.2) (λx18=>((x1.1,(0,0,false,0, []),0,(x18.1, [])),x18.2.1,x18.2.2))))))));refine jn [] [2,9,36,41] [(7, [.i x11.1.1,.i x11.1.2.1.1,.i x11.1.2.1.2.1,.b x11.1.2.1.2.2.1,.i x11.1.2.1.2.2.2.1,.o 449088 x11.1.2.1.2.2.2.2,.i x11.1.2.2.1,.s x11.1.2.2.2.1,.o 449280 x11.1.2.2.2.2]),(60000, [.h Y,.i (x11.2.1:Int),.i x11.2.2])] [7,60000] (x1.1==(1:Int)) (λh12=> ?_) (λh12=> ?_) ?_
  ·refine ckt h12 ?_;obtain ⟨x13,hx13⟩:=nm (X3 Y x5.2.1 x5.2.2 1);refine sn Qb [0,2,6,7] [6,7,60000] (po 1 (.give none (.a [.i x13.1.1,.i x13.1.2.1,.b x13.1.2.2.1,.i x13.1.2.2.2.1,.o 0 x13.1.2.2.2.2]) [.h Y,.i (x13.2.1:Int),.i x13.2.2]) (px (Xk (hx13▸Cv Y x5.2.1 x5.2.2 1)) p0)) <| qn Qb [0,6,7] [6,7,60000] p0 ?_
   obtain rfl:x11=((x1.1,(x13.1.1,u,x13.1.2.2.1,x13.1.2.2.2.1,x13.1.2.2.2.2),0,(⟨#[]⟩, [])),x13.2.1,x13.2.2):=hx11.symm.trans (show (bif (x1.1==(1:Int)) then (lt (X3 Y x5.2.1 x5.2.2 1) (λx11=>((x1.1,(x11.1.1,u,x11.1.2.2.1,x11.1.2.2.2.1,x11.1.2.2.2.2),0,(⟨#[]⟩, [])),x11.2.1,x11.2.2))) else (bif (x1.1==(2:Int)) then (lt (X3 Y x5.2.1 x5.2.2 x5.1) (λx13=>((x1.1,(x13.1.1,u,x13.1.2.2.1,x13.1.2.2.2.1,x13.1.2.2.2.2),0,(⟨#[]⟩, [])),x13.2.1,x13.2.2))) else (bif (x1.1==(3:Int)) then ((x1.1,(0,0,false,0, []),x5.1,(⟨#[]⟩, [])),x5.2.1,x5.2.2) else (bif (x1.1==(4:Int)) then (lt (X2 Y x5.2.1 x5.2.2 [⟨#[100,97]⟩,⟨#[100,98]⟩,⟨#[100,99]⟩,⟨#[100,100]⟩]) (λx16=>(lt (Yk Y x16.2.1 x16.2.2) (λx17=>((x1.1,(0,0,false,0, []),0,(x16.1,x17.1)),x17.2.1,x17.2.2))))) else (lt (K5 Y x5.2.1 x5.2.2) (λx18=>((x1.1,(0,0,false,0, []),0,(x18.1, [])),x18.2.1,x18.2.2)))))))=((x1.1,(x13.1.1,u,x13.1.2.2.1,x13.1.2.2.2.1,x13.1.2.2.2.2),0,(⟨#[]⟩, [])),x13.2.1,x13.2.2) from Q4 h12 (Zt hx13 (rfl)));exact ⟨rfl,Ao [(true,7,8,true,320008,7)] [] [] [(2816,449088),(320008,449280)] (by kernel_rfl)⟩
  ·refine ckf h12 ?_;refine sn Qb [0,2,6,7,9,36,49] [6,7,60000] p0 <| ck (x1.1==(2:Int)) (λh14=> ?_) (λh14=> ?_)
   ·obtain ⟨x15,hx15⟩:=nm (X3 Y x5.2.1 x5.2.2 x5.1);refine tn Qb [0,2,6,7] [6,7,60000] (po 2 (.give none (.a [.i x15.1.1,.i x15.1.2.1,.b x15.1.2.2.1,.i x15.1.2.2.2.1,.o 0 x15.1.2.2.2.2]) [.h Y,.i (x15.2.1:Int),.i x15.2.2]) (px (Xk (hx15▸Cv Y x5.2.1 x5.2.2 x5.1)) p0)) <| qu Qb [] [2,9,36,41] [(7, [.i x1.1,.i x15.1.1,.i u,.b x15.1.2.2.1,.i x15.1.2.2.2.1,.o 3392 x15.1.2.2.2.2,.i 0,.s ⟨#[]⟩,.e 7]),(60000, [.h Y,.i (x15.2.1:Int),.i x15.2.2])] [7,60000] p0 ?_
    obtain rfl:x11=((x1.1,(x15.1.1,u,x15.1.2.2.1,x15.1.2.2.2.1,x15.1.2.2.2.2),0,(⟨#[]⟩, [])),x15.2.1,x15.2.2):=hx11.symm.trans (show (bif (x1.1==(1:Int)) then (lt (X3 Y x5.2.1 x5.2.2 1) (λx11=>((x1.1,(x11.1.1,u,x11.1.2.2.1,x11.1.2.2.2.1,x11.1.2.2.2.2),0,(⟨#[]⟩, [])),x11.2.1,x11.2.2))) else (bif (x1.1==(2:Int)) then (lt (X3 Y x5.2.1 x5.2.2 x5.1) (λx13=>((x1.1,(x13.1.1,u,x13.1.2.2.1,x13.1.2.2.2.1,x13.1.2.2.2.2),0,(⟨#[]⟩, [])),x13.2.1,x13.2.2))) else (bif (x1.1==(3:Int)) then ((x1.1,(0,0,false,0, []),x5.1,(⟨#[]⟩, [])),x5.2.1,x5.2.2) else (bif (x1.1==(4:Int)) then (lt (X2 Y x5.2.1 x5.2.2 [⟨#[100,97]⟩,⟨#[100,98]⟩,⟨#[100,99]⟩,⟨#[100,100]⟩]) (λx16=>(lt (Yk Y x16.2.1 x16.2.2) (λx17=>((x1.1,(0,0,false,0, []),0,(x16.1,x17.1)),x17.2.1,x17.2.2))))) else (lt (K5 Y x5.2.1 x5.2.2) (λx18=>((x1.1,(0,0,false,0, []),0,(x18.1, [])),x18.2.1,x18.2.2)))))))=((x1.1,(x15.1.1,u,x15.1.2.2.1,x15.1.2.2.2.1,x15.1.2.2.2.2),0,(⟨#[]⟩, [])),x15.2.1,x15.2.2) from Qi h12 (Q4 h14 (Zt hx15 (rfl))));exact ⟨rfl,Ao [(true,7,8,true,320008,7)] [] [] [(3392,449088),(320008,449280)] (by kernel_rfl)⟩
   refine tn Qb [0,6,7,9,36,58] [6,7,60000] p0 <| ck (x1.1==(3:Int)) (λh16=> ?_) (λh16=> ?_)
   ·refine qu Qb [] [2,9,36,41] [(7, [.i x1.1,.i 0,.i 0,.b false,.i 0,.e 4,.i x5.1,.s ⟨#[]⟩,.e 7])] [7] p0 ?_;obtain rfl:x11=((x1.1,(0,0,false,0, []),x5.1,(⟨#[]⟩, [])),x5.2.1,x5.2.2):=hx11.symm.trans (show (bif (x1.1==(1:Int)) then (lt (X3 Y x5.2.1 x5.2.2 1) (λx11=>((x1.1,(x11.1.1,u,x11.1.2.2.1,x11.1.2.2.2.1,x11.1.2.2.2.2),0,(⟨#[]⟩, [])),x11.2.1,x11.2.2))) else (bif (x1.1==(2:Int)) then (lt (X3 Y x5.2.1 x5.2.2 x5.1) (λx13=>((x1.1,(x13.1.1,u,x13.1.2.2.1,x13.1.2.2.2.1,x13.1.2.2.2.2),0,(⟨#[]⟩, [])),x13.2.1,x13.2.2))) else (bif (x1.1==(3:Int)) then ((x1.1,(0,0,false,0, []),x5.1,(⟨#[]⟩, [])),x5.2.1,x5.2.2) else (bif (x1.1==(4:Int)) then (lt (X2 Y x5.2.1 x5.2.2 [⟨#[100,97]⟩,⟨#[100,98]⟩,⟨#[100,99]⟩,⟨#[100,100]⟩]) (λx16=>(lt (Yk Y x16.2.1 x16.2.2) (λx17=>((x1.1,(0,0,false,0, []),0,(x16.1,x17.1)),x17.2.1,x17.2.2))))) else (lt (K5 Y x5.2.1 x5.2.2) (λx18=>((x1.1,(0,0,false,0, []),0,(x18.1, [])),x18.2.1,x18.2.2)))))))=((x1.1,(0,0,false,0, []),x5.1,(⟨#[]⟩, [])),x5.2.1,x5.2.2) from Qi h12 (Qi h14 (Q4 h16 (rfl))));exact ⟨rfl,Ao [(true,7,5,true,320008,4),(true,7,8,true,320009,7)] [] [] [(320008,449088),(320009,449280)] (by kernel_rfl)⟩
   refine tu Qb [(62,.b (x1.1==(4:Int)))] [2,9,36,41] [] [] p0 <| ck (x1.1==(4:Int)) (λh17=> ?_) (λh17=> ?_)
   ·obtain ⟨x18,hx18⟩:=nm (X2 Y x5.2.1 x5.2.2 [⟨#[100,97]⟩,⟨#[100,98]⟩,⟨#[100,99]⟩,⟨#[100,100]⟩]);obtain ⟨x19,hx19⟩:=nm (Yk Y x18.2.1 x18.2.2);have hbx19:=hx19▸JD Y x18.2.1 x18.2.2;refine rn Qb [0,6,7] [6,7,60000] (po 2 (.give none (.s x18.1) [.h Y,.i (x18.2.1:Int),.i x18.2.2]) (px (Xk (hx18▸Vh Y x5.2.1 x5.2.2 [⟨#[100,97]⟩,⟨#[100,98]⟩,⟨#[100,99]⟩,⟨#[100,100]⟩] (zE _))) (po 4 (.give none (.o 0 x19.1) [.h Y,.i (x19.2.1:Int),.i x19.2.2]) (px (Xk (hx19▸Ci Y x18.2.1 x18.2.2)) p0)))) ?_;obtain rfl:x11=((x1.1,(0,0,false,0, []),0,(x18.1,x19.1)),x19.2.1,x19.2.2):=hx11.symm.trans (show (bif (x1.1==(1:Int)) then (lt (X3 Y x5.2.1 x5.2.2 1) (λx11=>((x1.1,(x11.1.1,u,x11.1.2.2.1,x11.1.2.2.2.1,x11.1.2.2.2.2),0,(⟨#[]⟩, [])),x11.2.1,x11.2.2))) else (bif (x1.1==(2:Int)) then (lt (X3 Y x5.2.1 x5.2.2 x5.1) (λx13=>((x1.1,(x13.1.1,u,x13.1.2.2.1,x13.1.2.2.2.1,x13.1.2.2.2.2),0,(⟨#[]⟩, [])),x13.2.1,x13.2.2))) else (bif (x1.1==(3:Int)) then ((x1.1,(0,0,false,0, []),x5.1,(⟨#[]⟩, [])),x5.2.1,x5.2.2) else (bif (x1.1==(4:Int)) then (lt (X2 Y x5.2.1 x5.2.2 [⟨#[100,97]⟩,⟨#[100,98]⟩,⟨#[100,99]⟩,⟨#[100,100]⟩]) (λx16=>(lt (Yk Y x16.2.1 x16.2.2) (λx17=>((x1.1,(0,0,false,0, []),0,(x16.1,x17.1)),x17.2.1,x17.2.2))))) else (lt (K5 Y x5.2.1 x5.2.2) (λx18=>((x1.1,(0,0,false,0, []),0,(x18.1, [])),x18.2.1,x18.2.2)))))))=((x1.1,(0,0,false,0, []),0,(x18.1,x19.1)),x19.2.1,x19.2.2) from Qi h12 (Qi h14 (Qi h16 (Q4 h17 (Zt hx18 (Zt hx19 (rfl)))))));exact ⟨rfl,Ao [(true,7,5,true,320008,4)] [] [] [(320008,449088),(4352,449280)] (by kernel_rfl)⟩
   obtain ⟨x20,hx20⟩:=nm (K5 Y x5.2.1 x5.2.2);refine rn Qb [0,6,7] [6,7,60000] (po 1 (.give none (.s x20.1) [.h Y,.i (x20.2.1:Int),.i x20.2.2]) (px (Xk (hx20▸JJ Y x5.2.1 x5.2.2)) p0)) ?_;obtain rfl:x11=((x1.1,(0,0,false,0, []),0,(x20.1, [])),x20.2.1,x20.2.2):=hx11.symm.trans (show (bif (x1.1==(1:Int)) then (lt (X3 Y x5.2.1 x5.2.2 1) (λx11=>((x1.1,(x11.1.1,u,x11.1.2.2.1,x11.1.2.2.2.1,x11.1.2.2.2.2),0,(⟨#[]⟩, [])),x11.2.1,x11.2.2))) else (bif (x1.1==(2:Int)) then (lt (X3 Y x5.2.1 x5.2.2 x5.1) (λx13=>((x1.1,(x13.1.1,u,x13.1.2.2.1,x13.1.2.2.2.1,x13.1.2.2.2.2),0,(⟨#[]⟩, [])),x13.2.1,x13.2.2))) else (bif (x1.1==(3:Int)) then ((x1.1,(0,0,false,0, []),x5.1,(⟨#[]⟩, [])),x5.2.1,x5.2.2) else (bif (x1.1==(4:Int)) then (lt (X2 Y x5.2.1 x5.2.2 [⟨#[100,97]⟩,⟨#[100,98]⟩,⟨#[100,99]⟩,⟨#[100,100]⟩]) (λx16=>(lt (Yk Y x16.2.1 x16.2.2) (λx17=>((x1.1,(0,0,false,0, []),0,(x16.1,x17.1)),x17.2.1,x17.2.2))))) else (lt (K5 Y x5.2.1 x5.2.2) (λx18=>((x1.1,(0,0,false,0, []),0,(x18.1, [])),x18.2.1,x18.2.2)))))))=((x1.1,(0,0,false,0, []),0,(x20.1, [])),x20.2.1,x20.2.2) from Qi h12 (Qi h14 (Qi h16 (Qi h17 (Zt hx20 (rfl))))));exact ⟨rfl,Ao [(true,7,5,true,320008,4),(true,7,8,true,320009,7)] [] [] [(320008,449088),(320009,449280)] (by kernel_rfl)⟩
  refine Qc ?_;obtain ⟨x21,hx21⟩:=nm (Zi Y x11.2.1 x11.2.2 16);refine sn Qb [0,6,7,72] [6,7,60000] (po 1 (.give none (.b x21.1) [.h Y,.i (x21.2.1:Int),.i x21.2.2]) (px (Xk (hx21▸Vg Y x11.2.1 x11.2.2 16)) p0)) <| mz [(72,.b x21.1)] [] [(60000, [.h Y,.i (x21.2.1:Int),.i x21.2.2])] [60000] ?_
  obtain ⟨x22,hx22⟩:=nm ((bif x21.1 then (lt (Ql Y x21.2.1 x21.2.2 8) (λx22=>(IntKind.i64.wrap (x22.1-1),x22.2.1,x22.2.2))) else (x11.1.1,x21.2.1,x21.2.2)));refine jn [] [72] [(7, [.i x22.1,.i x11.1.2.1.1,.i x11.1.2.1.2.1,.b x11.1.2.1.2.2.1,.i x11.1.2.1.2.2.2.1,.o 449088 x11.1.2.1.2.2.2.2,.i x11.1.2.2.1,.s x11.1.2.2.2.1,.o 449280 x11.1.2.2.2.2]),(60000, [.h Y,.i (x22.2.1:Int),.i x22.2.2])] [7,60000] x21.1 (λh23=> ?_) (λh23=> ?_) ?_
  ·refine ckt h23 ?_;obtain ⟨x24,hx24⟩:=nm (Ql Y x21.2.1 x21.2.2 8);have hbx24:=hx24▸Q7 Y x21.2.1 x21.2.2 8;refine rn Qb [0,6,7] [6,7,60000] (po 1 (.give none (.i x24.1) [.h Y,.i (x24.2.1:Int),.i x24.2.2]) (px (Xk (hx24▸Xy Y x21.2.1 x21.2.2 8)) p0)) ?_;obtain rfl:x22=(IntKind.i64.wrap (x24.1-1),x24.2.1,x24.2.2):=hx22.symm.trans (show (bif x21.1 then (lt (Ql Y x21.2.1 x21.2.2 8) (λx22=>(IntKind.i64.wrap (x22.1-1),x22.2.1,x22.2.2))) else (x11.1.1,x21.2.1,x21.2.2))=(IntKind.i64.wrap (x24.1-1),x24.2.1,x24.2.2) from Q4 h23 (Zt hx24 (rfl)));exact zA (by kernel_rfl)
  ·refine ckf h23 ?_;refine Qg ?_;obtain rfl:x22=(x11.1.1,x21.2.1,x21.2.2):=hx22.symm.trans (show (bif x21.1 then (lt (Ql Y x21.2.1 x21.2.2 8) (λx22=>(IntKind.i64.wrap (x22.1-1),x22.2.1,x22.2.2))) else (x11.1.1,x21.2.1,x21.2.2))=(x11.1.1,x21.2.1,x21.2.2) from Qi h23 (rfl));exact zA (by kernel_rfl)
  refine Qc ?_;obtain ⟨x25,hx25⟩:=nm (Zi Y x22.2.1 x22.2.2 20);refine sn Qb [0,6,7,78] [6,7,60000] (po 1 (.give none (.b x25.1) [.h Y,.i (x25.2.1:Int),.i x25.2.2]) (px (Xk (hx25▸Vg Y x22.2.1 x22.2.2 20)) p0)) <| ck x25.1 (λh26=> ?_) (λh26=> ?_)
  ·obtain ⟨x27,hx27⟩:=nm (Ql Y x25.2.1 x25.2.2 4);have hbx27:=hx27▸Q7 Y x25.2.1 x25.2.2 4;refine qn Qb [0,6,7] [6,7,60000] (po 1 (.give none (.i x27.1) [.h Y,.i (x27.2.1:Int),.i x27.2.2]) (px (Xk (hx27▸Xy Y x25.2.1 x25.2.2 4)) p0)) ?_;refine tu Qb [] [7] [(6, [.i x22.1,.i x11.1.2.1.1,.i x27.1,.b x11.1.2.1.2.2.1,.i x11.1.2.1.2.2.2.1,.o 449088 x11.1.2.1.2.2.2.2,.i x11.1.2.2.1,.s x11.1.2.2.2.1,.o 449280 x11.1.2.2.2.2]),(60000, [.h Y,.i (x27.2.1:Int),.i x27.2.2])] [6,7,60000] p0 <| Qe ?_
   have hE28:Uz Y ci ch l u=((x22.1,(x11.1.2.1.1,x27.1,x11.1.2.1.2.2.1,x11.1.2.1.2.2.2.1,x11.1.2.1.2.2.2.2),x11.1.2.2.1,x11.1.2.2.2),x27.2.1,x27.2.2):=Zt hx1 (Zt hx2 (Q4 h3 (Zt hx4 (Zt hx5 (Zt hx11 (Zt hx21 (Zt hx22 (Zt hx25 (Q4 h26 (Zt hx27 (rfl)))))))))));exact B9 [] (congrArg (λz=>(.a [.i z.1.1,.i z.1.2.1.1,.i z.1.2.1.2.1,.b z.1.2.1.2.2.1,.i z.1.2.1.2.2.2.1,.o 0 z.1.2.1.2.2.2.2,.i z.1.2.2.1,.s z.1.2.2.2.1,.o 1 z.1.2.2.2.2]:AV)) hE28.symm) (congrArg (λz=>([.h Y,.i (z.2.1:Int),.i z.2.2]:List C)) hE28.symm)
  refine Qg <| tn Qb [0,6] [6,60000] p0 <| Qe ?_
  have hE29:Uz Y ci ch l u=((x22.1,x11.1.2.1,x11.1.2.2.1,x11.1.2.2.2),x25.2.1,x25.2.2):=Zt hx1 (Zt hx2 (Q4 h3 (Zt hx4 (Zt hx5 (Zt hx11 (Zt hx21 (Zt hx22 (Zt hx25 (Qi h26 (rfl))))))))));exact B9 [] (congrArg (λz=>(.a [.i z.1.1,.i z.1.2.1.1,.i z.1.2.1.2.1,.b z.1.2.1.2.2.1,.i z.1.2.1.2.2.2.1,.o 0 z.1.2.1.2.2.2.2,.i z.1.2.2.1,.s z.1.2.2.2.1,.o 1 z.1.2.2.2.2]:AV)) hE29.symm) (congrArg (λz=>([.h Y,.i (z.2.1:Int),.i z.2.2]:List C)) hE29.symm)
 refine qn Qb [0,2,6,7,8,9,27] [6,7,60000] (pl 1 (Y9 l.1 u) (pf 2 h3 p0)) ?_;refine ckF <| Qg <| Qc <| tu Qb [(9,.i x2.1),(36,.i x1.1)] [8] [(60000, [.h Y,.i (x2.2.1:Int),.i x2.2.2])] [60000] p0 <| Qv <| sn Qb [0,2,6,7,9,36,41] [6,7,60000] p0 <| mz [(41,.b (x1.1==(1:Int)))] [] [] [] ?_
 obtain ⟨x30,hx30⟩:=nm ((bif (x1.1==(1:Int)) then (lt (X3 Y x2.2.1 x2.2.2 1) (λx30=>((x1.1,(x30.1.1,u,x30.1.2.2.1,x30.1.2.2.2.1,x30.1.2.2.2.2),0,(⟨#[]⟩, [])),x30.2.1,x30.2.2))) else (bif (x1.1==(2:Int)) then (lt (X3 Y x2.2.1 x2.2.2 x2.1) (λx32=>((x1.1,(x32.1.1,u,x32.1.2.2.1,x32.1.2.2.2.1,x32.1.2.2.2.2),0,(⟨#[]⟩, [])),x32.2.1,x32.2.2))) else (bif (x1.1==(3:Int)) then ((x1.1,(0,0,false,0, []),x2.1,(⟨#[]⟩, [])),x2.2.1,x2.2.2) else (bif (x1.1==(4:Int)) then (lt (X2 Y x2.2.1 x2.2.2 [⟨#[100,97]⟩,⟨#[100,98]⟩,⟨#[100,99]⟩,⟨#[100,100]⟩]) (λx35=>(lt (Yk Y x35.2.1 x35.2.2) (λx36=>((x1.1,(0,0,false,0, []),0,(x35.1,x36.1)),x36.2.1,x36.2.2))))) else (lt (K5 Y x2.2.1 x2.2.2) (λx37=>((x1.1,(0,0,false,0, []),0,(x37.1, [])),x37.2.1,x37.2.2))))))));refine jn [] [2,9,36,41] [(7, [.i x30.1.1,.i x30.1.2.1.1,.i x30.1.2.1.2.1,.b x30.1.2.1.2.2.1,.i x30.1.2.1.2.2.2.1,.o 449088 x30.1.2.1.2.2.2.2,.i x30.1.2.2.1,.s x30.1.2.2.2.1,.o 449280 x30.1.2.2.2.2]),(60000, [.h Y,.i (x30.2.1:Int),.i x30.2.2])] [7,60000] (x1.1==(1:Int)) (λh31=> ?_) (λh31=> ?_) ?_
 ·refine ckt h31 ?_;obtain ⟨x32,hx32⟩:=nm (X3 Y x2.2.1 x2.2.2 1);refine sn Qb [0,2,6,7] [6,7,60000] (po 1 (.give none (.a [.i x32.1.1,.i x32.1.2.1,.b x32.1.2.2.1,.i x32.1.2.2.2.1,.o 0 x32.1.2.2.2.2]) [.h Y,.i (x32.2.1:Int),.i x32.2.2]) (px (Xk (hx32▸Cv Y x2.2.1 x2.2.2 1)) p0)) <| qn Qb [0,6,7] [6,7,60000] p0 ?_
  obtain rfl:x30=((x1.1,(x32.1.1,u,x32.1.2.2.1,x32.1.2.2.2.1,x32.1.2.2.2.2),0,(⟨#[]⟩, [])),x32.2.1,x32.2.2):=hx30.symm.trans (show (bif (x1.1==(1:Int)) then (lt (X3 Y x2.2.1 x2.2.2 1) (λx30=>((x1.1,(x30.1.1,u,x30.1.2.2.1,x30.1.2.2.2.1,x30.1.2.2.2.2),0,(⟨#[]⟩, [])),x30.2.1,x30.2.2))) else (bif (x1.1==(2:Int)) then (lt (X3 Y x2.2.1 x2.2.2 x2.1) (λx32=>((x1.1,(x32.1.1,u,x32.1.2.2.1,x32.1.2.2.2.1,x32.1.2.2.2.2),0,(⟨#[]⟩, [])),x32.2.1,x32.2.2))) else (bif (x1.1==(3:Int)) then ((x1.1,(0,0,false,0, []),x2.1,(⟨#[]⟩, [])),x2.2.1,x2.2.2) else (bif (x1.1==(4:Int)) then (lt (X2 Y x2.2.1 x2.2.2 [⟨#[100,97]⟩,⟨#[100,98]⟩,⟨#[100,99]⟩,⟨#[100,100]⟩]) (λx35=>(lt (Yk Y x35.2.1 x35.2.2) (λx36=>((x1.1,(0,0,false,0, []),0,(x35.1,x36.1)),x36.2.1,x36.2.2))))) else (lt (K5 Y x2.2.1 x2.2.2) (λx37=>((x1.1,(0,0,false,0, []),0,(x37.1, [])),x37.2.1,x37.2.2)))))))=((x1.1,(x32.1.1,u,x32.1.2.2.1,x32.1.2.2.2.1,x32.1.2.2.2.2),0,(⟨#[]⟩, [])),x32.2.1,x32.2.2) from Q4 h31 (Zt hx32 (rfl)));exact ⟨rfl,Ao [(true,7,8,true,320008,7)] [] [] [(2816,449088),(320008,449280)] (by kernel_rfl)⟩
 ·refine ckf h31 ?_;refine sn Qb [0,2,6,7,9,36,49] [6,7,60000] p0 <| ck (x1.1==(2:Int)) (λh33=> ?_) (λh33=> ?_)
  ·obtain ⟨x34,hx34⟩:=nm (X3 Y x2.2.1 x2.2.2 x2.1);refine tn Qb [0,2,6,7] [6,7,60000] (po 2 (.give none (.a [.i x34.1.1,.i x34.1.2.1,.b x34.1.2.2.1,.i x34.1.2.2.2.1,.o 0 x34.1.2.2.2.2]) [.h Y,.i (x34.2.1:Int),.i x34.2.2]) (px (Xk (hx34▸Cv Y x2.2.1 x2.2.2 x2.1)) p0)) <| qu Qb [] [2,9,36,41] [(7, [.i x1.1,.i x34.1.1,.i u,.b x34.1.2.2.1,.i x34.1.2.2.2.1,.o 3392 x34.1.2.2.2.2,.i 0,.s ⟨#[]⟩,.e 7]),(60000, [.h Y,.i (x34.2.1:Int),.i x34.2.2])] [7,60000] p0 ?_
   obtain rfl:x30=((x1.1,(x34.1.1,u,x34.1.2.2.1,x34.1.2.2.2.1,x34.1.2.2.2.2),0,(⟨#[]⟩, [])),x34.2.1,x34.2.2):=hx30.symm.trans (show (bif (x1.1==(1:Int)) then (lt (X3 Y x2.2.1 x2.2.2 1) (λx30=>((x1.1,(x30.1.1,u,x30.1.2.2.1,x30.1.2.2.2.1,x30.1.2.2.2.2),0,(⟨#[]⟩, [])),x30.2.1,x30.2.2))) else (bif (x1.1==(2:Int)) then (lt (X3 Y x2.2.1 x2.2.2 x2.1) (λx32=>((x1.1,(x32.1.1,u,x32.1.2.2.1,x32.1.2.2.2.1,x32.1.2.2.2.2),0,(⟨#[]⟩, [])),x32.2.1,x32.2.2))) else (bif (x1.1==(3:Int)) then ((x1.1,(0,0,false,0, []),x2.1,(⟨#[]⟩, [])),x2.2.1,x2.2.2) else (bif (x1.1==(4:Int)) then (lt (X2 Y x2.2.1 x2.2.2 [⟨#[100,97]⟩,⟨#[100,98]⟩,⟨#[100,99]⟩,⟨#[100,100]⟩]) (λx35=>(lt (Yk Y x35.2.1 x35.2.2) (λx36=>((x1.1,(0,0,false,0, []),0,(x35.1,x36.1)),x36.2.1,x36.2.2))))) else (lt (K5 Y x2.2.1 x2.2.2) (λx37=>((x1.1,(0,0,false,0, []),0,(x37.1, [])),x37.2.1,x37.2.2)))))))=((x1.1,(x34.1.1,u,x34.1.2.2.1,x34.1.2.2.2.1,x34.1.2.2.2.2),0,(⟨#[]⟩, [])),x34.2.1,x34.2.2) from Qi h31 (Q4 h33 (Zt hx34 (rfl))));exact ⟨rfl,Ao [(true,7,8,true,320008,7)] [] [] [(3392,449088),(320008,449280)] (by kernel_rfl)⟩
  refine tn Qb [0,6,7,9,36,58] [6,7,60000] p0 <| ck (x1.1==(3:Int)) (λh35=> ?_) (λh35=> ?_)
  ·refine qu Qb [] [2,9,36,41] [(7, [.i x1.1,.i 0,.i 0,.b false,.i 0,.e 4,.i x2.1,.s ⟨#[]⟩,.e 7])] [7] p0 ?_;obtain rfl:x30=((x1.1,(0,0,false,0, []),x2.1,(⟨#[]⟩, [])),x2.2.1,x2.2.2):=hx30.symm.trans (show (bif (x1.1==(1:Int)) then (lt (X3 Y x2.2.1 x2.2.2 1) (λx30=>((x1.1,(x30.1.1,u,x30.1.2.2.1,x30.1.2.2.2.1,x30.1.2.2.2.2),0,(⟨#[]⟩, [])),x30.2.1,x30.2.2))) else (bif (x1.1==(2:Int)) then (lt (X3 Y x2.2.1 x2.2.2 x2.1) (λx32=>((x1.1,(x32.1.1,u,x32.1.2.2.1,x32.1.2.2.2.1,x32.1.2.2.2.2),0,(⟨#[]⟩, [])),x32.2.1,x32.2.2))) else (bif (x1.1==(3:Int)) then ((x1.1,(0,0,false,0, []),x2.1,(⟨#[]⟩, [])),x2.2.1,x2.2.2) else (bif (x1.1==(4:Int)) then (lt (X2 Y x2.2.1 x2.2.2 [⟨#[100,97]⟩,⟨#[100,98]⟩,⟨#[100,99]⟩,⟨#[100,100]⟩]) (λx35=>(lt (Yk Y x35.2.1 x35.2.2) (λx36=>((x1.1,(0,0,false,0, []),0,(x35.1,x36.1)),x36.2.1,x36.2.2))))) else (lt (K5 Y x2.2.1 x2.2.2) (λx37=>((x1.1,(0,0,false,0, []),0,(x37.1, [])),x37.2.1,x37.2.2)))))))=((x1.1,(0,0,false,0, []),x2.1,(⟨#[]⟩, [])),x2.2.1,x2.2.2) from Qi h31 (Qi h33 (Q4 h35 (rfl))));exact ⟨rfl,Ao [(true,7,5,true,320008,4),(true,7,8,true,320009,7)] [] [] [(320008,449088),(320009,449280)] (by kernel_rfl)⟩
  refine tu Qb [(62,.b (x1.1==(4:Int)))] [2,9,36,41] [] [] p0 <| ck (x1.1==(4:Int)) (λh36=> ?_) (λh36=> ?_)
  ·obtain ⟨x37,hx37⟩:=nm (X2 Y x2.2.1 x2.2.2 [⟨#[100,97]⟩,⟨#[100,98]⟩,⟨#[100,99]⟩,⟨#[100,100]⟩]);obtain ⟨x38,hx38⟩:=nm (Yk Y x37.2.1 x37.2.2);have hbx38:=hx38▸JD Y x37.2.1 x37.2.2;refine rn Qb [0,6,7] [6,7,60000] (po 2 (.give none (.s x37.1) [.h Y,.i (x37.2.1:Int),.i x37.2.2]) (px (Xk (hx37▸Vh Y x2.2.1 x2.2.2 [⟨#[100,97]⟩,⟨#[100,98]⟩,⟨#[100,99]⟩,⟨#[100,100]⟩] (zE _))) (po 4 (.give none (.o 0 x38.1) [.h Y,.i (x38.2.1:Int),.i x38.2.2]) (px (Xk (hx38▸Ci Y x37.2.1 x37.2.2)) p0)))) ?_;obtain rfl:x30=((x1.1,(0,0,false,0, []),0,(x37.1,x38.1)),x38.2.1,x38.2.2):=hx30.symm.trans (show (bif (x1.1==(1:Int)) then (lt (X3 Y x2.2.1 x2.2.2 1) (λx30=>((x1.1,(x30.1.1,u,x30.1.2.2.1,x30.1.2.2.2.1,x30.1.2.2.2.2),0,(⟨#[]⟩, [])),x30.2.1,x30.2.2))) else (bif (x1.1==(2:Int)) then (lt (X3 Y x2.2.1 x2.2.2 x2.1) (λx32=>((x1.1,(x32.1.1,u,x32.1.2.2.1,x32.1.2.2.2.1,x32.1.2.2.2.2),0,(⟨#[]⟩, [])),x32.2.1,x32.2.2))) else (bif (x1.1==(3:Int)) then ((x1.1,(0,0,false,0, []),x2.1,(⟨#[]⟩, [])),x2.2.1,x2.2.2) else (bif (x1.1==(4:Int)) then (lt (X2 Y x2.2.1 x2.2.2 [⟨#[100,97]⟩,⟨#[100,98]⟩,⟨#[100,99]⟩,⟨#[100,100]⟩]) (λx35=>(lt (Yk Y x35.2.1 x35.2.2) (λx36=>((x1.1,(0,0,false,0, []),0,(x35.1,x36.1)),x36.2.1,x36.2.2))))) else (lt (K5 Y x2.2.1 x2.2.2) (λx37=>((x1.1,(0,0,false,0, []),0,(x37.1, [])),x37.2.1,x37.2.2)))))))=((x1.1,(0,0,false,0, []),0,(x37.1,x38.1)),x38.2.1,x38.2.2) from Qi h31 (Qi h33 (Qi h35 (Q4 h36 (Zt hx37 (Zt hx38 (rfl)))))));exact ⟨rfl,Ao [(true,7,5,true,320008,4)] [] [] [(320008,449088),(4352,449280)] (by kernel_rfl)⟩
  obtain ⟨x39,hx39⟩:=nm (K5 Y x2.2.1 x2.2.2);refine rn Qb [0,6,7] [6,7,60000] (po 1 (.give none (.s x39.1) [.h Y,.i (x39.2.1:Int),.i x39.2.2]) (px (Xk (hx39▸JJ Y x2.2.1 x2.2.2)) p0)) ?_;obtain rfl:x30=((x1.1,(0,0,false,0, []),0,(x39.1, [])),x39.2.1,x39.2.2):=hx30.symm.trans (show (bif (x1.1==(1:Int)) then (lt (X3 Y x2.2.1 x2.2.2 1) (λx30=>((x1.1,(x30.1.1,u,x30.1.2.2.1,x30.1.2.2.2.1,x30.1.2.2.2.2),0,(⟨#[]⟩, [])),x30.2.1,x30.2.2))) else (bif (x1.1==(2:Int)) then (lt (X3 Y x2.2.1 x2.2.2 x2.1) (λx32=>((x1.1,(x32.1.1,u,x32.1.2.2.1,x32.1.2.2.2.1,x32.1.2.2.2.2),0,(⟨#[]⟩, [])),x32.2.1,x32.2.2))) else (bif (x1.1==(3:Int)) then ((x1.1,(0,0,false,0, []),x2.1,(⟨#[]⟩, [])),x2.2.1,x2.2.2) else (bif (x1.1==(4:Int)) then (lt (X2 Y x2.2.1 x2.2.2 [⟨#[100,97]⟩,⟨#[100,98]⟩,⟨#[100,99]⟩,⟨#[100,100]⟩]) (λx35=>(lt (Yk Y x35.2.1 x35.2.2) (λx36=>((x1.1,(0,0,false,0, []),0,(x35.1,x36.1)),x36.2.1,x36.2.2))))) else (lt (K5 Y x2.2.1 x2.2.2) (λx37=>((x1.1,(0,0,false,0, []),0,(x37.1, [])),x37.2.1,x37.2.2)))))))=((x1.1,(0,0,false,0, []),0,(x39.1, [])),x39.2.1,x39.2.2) from Qi h31 (Qi h33 (Qi h35 (Qi h36 (Zt hx39 (rfl))))));exact ⟨rfl,Ao [(true,7,5,true,320008,4),(true,7,8,true,320009,7)] [] [] [(320008,449088),(320009,449280)] (by kernel_rfl)⟩
 refine Qc ?_;obtain ⟨x40,hx40⟩:=nm (Zi Y x30.2.1 x30.2.2 16);refine sn Qb [0,6,7,72] [6,7,60000] (po 1 (.give none (.b x40.1) [.h Y,.i (x40.2.1:Int),.i x40.2.2]) (px (Xk (hx40▸Vg Y x30.2.1 x30.2.2 16)) p0)) <| mz [(72,.b x40.1)] [] [(60000, [.h Y,.i (x40.2.1:Int),.i x40.2.2])] [60000] ?_
 obtain ⟨x41,hx41⟩:=nm ((bif x40.1 then (lt (Ql Y x40.2.1 x40.2.2 8) (λx41=>(IntKind.i64.wrap (x41.1-1),x41.2.1,x41.2.2))) else (x30.1.1,x40.2.1,x40.2.2)));refine jn [] [72] [(7, [.i x41.1,.i x30.1.2.1.1,.i x30.1.2.1.2.1,.b x30.1.2.1.2.2.1,.i x30.1.2.1.2.2.2.1,.o 449088 x30.1.2.1.2.2.2.2,.i x30.1.2.2.1,.s x30.1.2.2.2.1,.o 449280 x30.1.2.2.2.2]),(60000, [.h Y,.i (x41.2.1:Int),.i x41.2.2])] [7,60000] x40.1 (λh42=> ?_) (λh42=> ?_) ?_
 ·refine ckt h42 ?_;obtain ⟨x43,hx43⟩:=nm (Ql Y x40.2.1 x40.2.2 8);have hbx43:=hx43▸Q7 Y x40.2.1 x40.2.2 8;refine rn Qb [0,6,7] [6,7,60000] (po 1 (.give none (.i x43.1) [.h Y,.i (x43.2.1:Int),.i x43.2.2]) (px (Xk (hx43▸Xy Y x40.2.1 x40.2.2 8)) p0)) ?_;obtain rfl:x41=(IntKind.i64.wrap (x43.1-1),x43.2.1,x43.2.2):=hx41.symm.trans (show (bif x40.1 then (lt (Ql Y x40.2.1 x40.2.2 8) (λx41=>(IntKind.i64.wrap (x41.1-1),x41.2.1,x41.2.2))) else (x30.1.1,x40.2.1,x40.2.2))=(IntKind.i64.wrap (x43.1-1),x43.2.1,x43.2.2) from Q4 h42 (Zt hx43 (rfl)));exact zA (by kernel_rfl)
 ·refine ckf h42 ?_;refine Qg ?_;obtain rfl:x41=(x30.1.1,x40.2.1,x40.2.2):=hx41.symm.trans (show (bif x40.1 then (lt (Ql Y x40.2.1 x40.2.2 8) (λx41=>(IntKind.i64.wrap (x41.1-1),x41.2.1,x41.2.2))) else (x30.1.1,x40.2.1,x40.2.2))=(x30.1.1,x40.2.1,x40.2.2) from Qi h42 (rfl));exact zA (by kernel_rfl)
 refine Qc ?_;obtain ⟨x44,hx44⟩:=nm (Zi Y x41.2.1 x41.2.2 20);refine sn Qb [0,6,7,78] [6,7,60000] (po 1 (.give none (.b x44.1) [.h Y,.i (x44.2.1:Int),.i x44.2.2]) (px (Xk (hx44▸Vg Y x41.2.1 x41.2.2 20)) p0)) <| ck x44.1 (λh45=> ?_) (λh45=> ?_)
 ·obtain ⟨x46,hx46⟩:=nm (Ql Y x44.2.1 x44.2.2 4);have hbx46:=hx46▸Q7 Y x44.2.1 x44.2.2 4;refine qn Qb [0,6,7] [6,7,60000] (po 1 (.give none (.i x46.1) [.h Y,.i (x46.2.1:Int),.i x46.2.2]) (px (Xk (hx46▸Xy Y x44.2.1 x44.2.2 4)) p0)) ?_;refine tu Qb [] [7] [(6, [.i x41.1,.i x30.1.2.1.1,.i x46.1,.b x30.1.2.1.2.2.1,.i x30.1.2.1.2.2.2.1,.o 449088 x30.1.2.1.2.2.2.2,.i x30.1.2.2.1,.s x30.1.2.2.2.1,.o 449280 x30.1.2.2.2.2]),(60000, [.h Y,.i (x46.2.1:Int),.i x46.2.2])] [6,7,60000] p0 <| Qe ?_
  have hE47:Uz Y ci ch l u=((x41.1,(x30.1.2.1.1,x46.1,x30.1.2.1.2.2.1,x30.1.2.1.2.2.2.1,x30.1.2.1.2.2.2.2),x30.1.2.2.1,x30.1.2.2.2),x46.2.1,x46.2.2):=Zt hx1 (Zt hx2 (Qi h3 (Zt hx30 (Zt hx40 (Zt hx41 (Zt hx44 (Q4 h45 (Zt hx46 (rfl)))))))));exact B9 [] (congrArg (λz=>(.a [.i z.1.1,.i z.1.2.1.1,.i z.1.2.1.2.1,.b z.1.2.1.2.2.1,.i z.1.2.1.2.2.2.1,.o 0 z.1.2.1.2.2.2.2,.i z.1.2.2.1,.s z.1.2.2.2.1,.o 1 z.1.2.2.2.2]:AV)) hE47.symm) (congrArg (λz=>([.h Y,.i (z.2.1:Int),.i z.2.2]:List C)) hE47.symm)
 refine Qg <| tn Qb [0,6] [6,60000] p0 <| Qe ?_
 have hE48:Uz Y ci ch l u=((x41.1,x30.1.2.1,x30.1.2.2.1,x30.1.2.2.2),x44.2.1,x44.2.2):=Zt hx1 (Zt hx2 (Qi h3 (Zt hx30 (Zt hx40 (Zt hx41 (Zt hx44 (Qi h45 (rfl))))))));exact B9 [] (congrArg (λz=>(.a [.i z.1.1,.i z.1.2.1.1,.i z.1.2.1.2.1,.b z.1.2.1.2.2.1,.i z.1.2.1.2.2.2.1,.o 0 z.1.2.1.2.2.2.2,.i z.1.2.2.1,.s z.1.2.2.2.1,.o 1 z.1.2.2.2.2]:AV)) hE48.symm) (congrArg (λz=>([.h Y,.i (z.2.1:Int),.i z.2.2]:List C)) hE48.symm)
def Qa (Y:List UInt8):X4×Int×E3×Int:=(lt (Px Y) (λx1=>(lt (Hx Y x1.1 x1.2) (λx2=>(lt (A5 Y x2.2.2.1 x2.2.2.2) (λx5=>(lt (Uz Y x5.2.1 x5.2.2 x2.1 x2.2.1) (λx6=>(x2.1,x5.1,x6.1,x2.2.1)))))))))
theorem N5 (Y:List UInt8):ACalls Tryz.prog 5 [.h Y] (.tup [(true, [.h ((((Qa Y)).1).1.1),.h ((((Qa Y)).1).1.2.1),.i ((((Qa Y)).1).1.2.2),.h ((((Qa Y)).1).2.1),.h ((((Qa Y)).1).2.2)]),(false, [.i (((Qa Y)).2.1)]),(true, [.i ((((Qa Y)).2.2.1).1),.i ((((Qa Y)).2.2.1).2.1.1),.i ((((Qa Y)).2.2.1).2.1.2.1),.b ((((Qa Y)).2.2.1).2.1.2.2.1),.i ((((Qa Y)).2.2.1).2.1.2.2.2.1),.o 0 ((((Qa Y)).2.2.1).2.1.2.2.2.2),.i ((((Qa Y)).2.2.1).2.2.1),.s ((((Qa Y)).2.2.1).2.2.2.1),.o 1 ((((Qa Y)).2.2.1).2.2.2.2)]),(false, [.i (((Qa Y)).2.2.2)])]):=by
 refine en Qb Tryz.func5 λw0 F0 hG=> ?_
 refine sn Qb [0,2,3,4,5] [2,4] p0 ?_;obtain ⟨x1,hx1⟩:=nm (Px Y);refine tn Qb [2,3,4,5,6] [2,4,10] (po 1 (.new [.h Y,.i (x1.1:Int),.i x1.2]) (px (Qlc (hx1▸ND Y)) p0)) ?_;obtain ⟨x2,hx2⟩:=nm (Hx Y x1.1 x1.2);refine tu Qb [(2,.p 2 0),(3,.i 0),(4,.p 4 0),(5,.i 0),(6,.p 10 0),(7,.p 7 0),(8,.i x2.2.1)] [0] [(2, [.e 2,.e 5,.i 0,.e 2,.e 2]),(4, [.i 0,.i 0,.i 0,.b false,.i 0,.e 4,.i 0,.s ⟨#[]⟩,.e 7]),(7, [.h x2.1.1.1,.q 832 x2.1.1.2.1,.i x2.1.1.2.2,.o 833 x2.1.2.1,.o 834 x2.1.2.2]),(10, [.h Y,.i (x2.2.2.1:Int),.i x2.2.2.2])] [] (po 1 (.give none (.tup [(true, [.h x2.1.1.1,.q 0 x2.1.1.2.1,.i x2.1.1.2.2,.o 1 x2.1.2.1,.o 2 x2.1.2.2]),(false, [.i x2.2.1])]) [.h Y,.i (x2.2.2.1:Int),.i x2.2.2.2]) (px (Xk (hx2▸GP Y x1.1 x1.2)) p0)) ?_;obtain ⟨x3,hx3⟩:=nm (A5 Y x2.2.2.1 x2.2.2.2);obtain ⟨x4,hx4⟩:=nm (Uz Y x3.2.1 x3.2.2 x2.1 x2.2.1);refine P9 (Fx [832,833,834] rfl) ?_;obtain ⟨x5,hx5⟩:=nm (A5 Y x2.2.2.1 x2.2.2.2);obtain ⟨x6,hx6⟩:=nm (Uz Y x5.2.1 x5.2.2 x2.1 x2.2.1);exact sN Qb Zg [2,3,4,5] [2,4] (po 2 (.give none (.i x5.1) [.h Y,.i (x5.2.1:Int),.i x5.2.2]) (px (Xk (hx5▸Rv Y x2.2.2.1 x2.2.2.2)) (po 6 (.give none (.a [.i x6.1.1,.i x6.1.2.1.1,.i x6.1.2.1.2.1,.b x6.1.2.1.2.2.1,.i x6.1.2.1.2.2.2.1,.o 0 x6.1.2.1.2.2.2.2,.i x6.1.2.2.1,.s x6.1.2.2.2.1,.o 1 x6.1.2.2.2.2]) [.h Y,.i (x6.2.1:Int),.i x6.2.2]) (px (Xk (hx6▸RO Y x5.2.1 x5.2.2 x2.1 x2.2.1)) p0)))) <| Qe <| pz [] (show Qa Y=_ from Zt hx1 (Zt hx2 (Zt hx5 (Zt hx6 (rfl))))) (λz=> .tup [(true, [.h z.1.1.1,.h z.1.1.2.1,.i z.1.1.2.2,.h z.1.2.1,.h z.1.2.2]),(false, [.i z.2.1]),(true, [.i z.2.2.1.1,.i z.2.2.1.2.1.1,.i z.2.2.1.2.1.2.1,.b z.2.2.1.2.1.2.2.1,.i z.2.2.1.2.1.2.2.2.1,.o 0 z.2.2.1.2.1.2.2.2.2,.i z.2.2.1.2.2.1,.s z.2.2.1.2.2.2.1,.o 1 z.2.2.1.2.2.2.2]),(false, [.i z.2.2.2])])
open GoE (enc wide)
def Hl (s2_:Z) (k0:Nat) (a0:ByteArray) (_:Unit):Rd (Bool) (Unit) (Unit):=(bif (!(a0.toList==(nth s2_ k0).toList)) then (.ret false) else (.next ()))
def Bw (_:Nat) (_:Unit):Unit:=()
def Wo (s1_:Z) (s2_:Z):Bool:=(bif ((s1_.length:Int) !=(s2_.length:Int)) then false else (Out.on (Xz (Hl s2_) Bw s1_ 0 ()) (λ_=>true)))
theorem Tv (s1_:Z) (s2_:Z):ACalls Tryz.prog 16 [.h s1_,.h s2_] (.b (Wo s1_ s2_)):=by
 refine en Qb Tryz.func16 λw0 F0 hG=> ?_
 refine sn Qb [0,1,4] [] p0 <| Qc <| tn Qb [0,1,4,10] [] (pl 1 s1_ (pl 3 s2_ p0)) <| ck ((s1_.length:Int) !=(s2_.length:Int)) (λh1=> ?_) (λh1=> ?_)
 ·exact tu Qb [(4,.b false)] [] [] [] p0 <| Qe <| pb [] (Q4 h1 (rfl))
 have h1d:=Vi h1;refine Qg <| Qc <| tu Qb [(4,.b false),(12,.i (s1_.length:Int)),(13,.i 0)] [] [] [] (pl 1 s1_ p0) <| wT 0 0 .sh s1_ (λhw2 hl3=> ?_)
 refine P0 (Hl s2_) Bw s1_ () (λk0 _=> [(13,.i (k0:Int))]) [13] (λ_=> []) [0,1,12,13] wf0 (λk0 s0 hk0 U=> ?_) (λk0 s0 hk0 U=> ?_) (λy0 hD0=> ?_)
 ·obtain ⟨a0,hx0⟩:=Xm (l:=s1_) (i:=k0) hk0;refine su Qb [(14,.b true)] [] [] [] (pe 0 (zB ((k0:Int)<(s1_.length:Int))) p0) <| Qc <| ckT <| Qg <| Qc <| Qv <| sn Qb [0,1,4,5,12,13] [] p0 <| wT 1 0 .sh s2_ (λhw5 hl6=> ?_)
  have hx4:=ng s2_ k0;refine tN Qb Zg [0,1,4,12,13,24] [] (pn 2 hx0 (pn 6 hx4 p0)) <| ck (!(a0.toList==(nth s2_ k0).toList)) (λh7=> ?_) (λh7=> ?_)
  ·refine tu Qb [] [14] [] [] p0 <| Qe ?_
   have hr8:(Xz (Hl s2_) Bw s1_ 0 ())= .ret false:=Jv hx0 (Q4 h7 (rfl)) U;exact pb [] (Qi h1 (Pd hr8))
  refine Qg <| qu Qb [(13,.i ((k0+1:Nat):Int))] [13,14] [] [] (pe 0 (Jl (Qo k0 (by omega))) p0) ?_
  exact xw _ (Qt hx0 (Qi h7 (rfl)) U)
 ·exact sn Qb [0,1,4,12,13,14] [] (pe 0 (zC ((k0:Int)<(s1_.length:Int))) p0) <| Qc <| ckF <| Q3 <| xw _ (Xn hk0 (rfl) U)
 exact sn Qb [4] [] p0 <| Qe <| pb [] (Qi h1 (Wk hD0 (rfl)))
def Z4 (c:X4) (user:Int) (x:E3) (by_:Int):Bool:=(((Q0 c by_ x)).2.2&&(Wo (K8 c.1 c.2.1 user) (K8 ((((Q0 c by_ x)).1).1.1,(((Q0 c by_ x)).1).1.2.1,(((Q0 c by_ x)).1).1.2.2) ((((Q0 c by_ x)).1).2.1) user)))
theorem Rw (c:X4) (user:Int) (x:E3) (by_:Int):ACalls Tryz.prog 6 [.a [.h c.1.1,.h c.1.2.1,.i c.1.2.2,.h c.2.1,.h c.2.2],.i user,.a [.i x.1,.i x.2.1.1,.i x.2.1.2.1,.b x.2.1.2.2.1,.i x.2.1.2.2.2.1,.h x.2.1.2.2.2.2,.i x.2.2.1,.s x.2.2.2.1,.h x.2.2.2.2],.i by_] (.b (Z4 c user x by_)):=by
 refine en Qb Tryz.func6 λw0 F0 hG=> ?_
 refine sn Qb [1,3,4,6,8] [4,6] p0 <| tn Qb [1,4,8,9,11] [4,9] (pc 3 (KS c by_ x) p0) <| Qc <| mz [(4,.p 4 0),(8,.b false),(9,.p 9 0),(11,.b (((Q0 c by_ x)).2.2))] [0,2,3] [(4, [.h c.1.1,.h c.1.2.1,.i c.1.2.2,.h c.2.1,.h c.2.2]),(9, [.o 1024 ((((Q0 c by_ x)).1).1.1),.o 1025 ((((Q0 c by_ x)).1).1.2.1),.i ((((Q0 c by_ x)).1).1.2.2),.o 1026 ((((Q0 c by_ x)).1).2.1),.o 1027 ((((Q0 c by_ x)).1).2.2)])] [] <| jn [(8,.b (((Q0 c by_ x)).2.2&&(Wo (K8 c.1 c.2.1 user) (K8 ((((Q0 c by_ x)).1).1.1,(((Q0 c by_ x)).1).1.2.1,(((Q0 c by_ x)).1).1.2.2) ((((Q0 c by_ x)).1).2.1) user))))] [1,4,8,9,11] [] [4,9] (((Q0 c by_ x)).2.2) (λh1=> ?_) (λh1=> ?_) ?_
 ·refine rN Qb Zg [8] [] (pt 0 h1 (pc 7 (R5 c.1 c.2.1 user) (pc 13 (R5 ((((Q0 c by_ x)).1).1.1,(((Q0 c by_ x)).1).1.2.1,(((Q0 c by_ x)).1).1.2.2) ((((Q0 c by_ x)).1).2.1) user) (pc 14 (Tv (K8 c.1 c.2.1 user) (K8 ((((Q0 c by_ x)).1).1.1,(((Q0 c by_ x)).1).1.2.1,(((Q0 c by_ x)).1).1.2.2) ((((Q0 c by_ x)).1).2.1) user)) p0)))) ?_;exact zA (by rw[h1]<;>kernel_rfl)
 ·refine rN Qb Zg [8] [] (pf 0 h1 p0) ?_;exact zA (by rw[h1]<;>kernel_rfl)
 exact Qe <| pb [] (show Z4 c user x by_=(((Q0 c by_ x)).2.2&&(Wo (K8 c.1 c.2.1 user) (K8 ((((Q0 c by_ x)).1).1.1,(((Q0 c by_ x)).1).1.2.1,(((Q0 c by_ x)).1).1.2.2) ((((Q0 c by_ x)).1).2.1) user))) from rfl)
def Iy (b:Z) (k0:Nat) (a0:ByteArray) (_:Unit):Rd (Bool) (Unit) (Unit):=(bif (!(a0.toList==(nth b k0).toList)) then (.ret false) else (.next ()))
def Iz (_:Nat) (_:Unit):Unit:=()
def Gr (a_:Z) (b:Z):Bool:=(bif ((a_.length:Int) !=(b.length:Int)) then false else (Out.on (Xz (Iy b) Iz a_ 0 ()) (λ_=>true)))
theorem CK (a_:Z) (b:Z):ACalls Tryz.prog 18 [.h a_,.h b] (.b (Gr a_ b)):=by
 refine en Qb Tryz.func18 λw0 F0 hG=> ?_
 refine sn Qb [0,1,4] [] p0 <| Qc <| tn Qb [0,1,4,10] [] (pl 1 a_ (pl 3 b p0)) <| ck ((a_.length:Int) !=(b.length:Int)) (λh1=> ?_) (λh1=> ?_)
 ·exact tu Qb [(4,.b false)] [] [] [] p0 <| Qe <| pb [] (Q4 h1 (rfl))
 have h1d:=Vi h1;refine Qg <| Qc <| tu Qb [(4,.b false),(5,.i 0)] [] [] [] p0 <| wT 0 0 .sh a_ (λhw2 hl3=> ?_)
 refine P0 (Iy b) Iz a_ () (λk0 _=> [(5,.i (k0:Int))]) [5] (λ_=> []) [0,1,5] wf0 (λk0 s0 hk0 U=> ?_) (λk0 s0 hk0 U=> ?_) (λy0 hD0=> ?_)
 ·obtain ⟨a0,hx0⟩:=Xm (l:=a_) (i:=k0) hk0;refine Qc <| sn Qb [0,1,4,5,14] [] (pl 2 a_ (pe 3 (zB ((k0:Int)<(a_.length:Int))) p0)) <| ckT <| Qg <| Qc <| Qv <| wT 1 0 .sh b (λhw5 hl6=> ?_)
  have hx4:=ng b k0;refine tN Qb Zg [0,1,4,5,25] [] (pn 2 hx0 (pn 6 hx4 p0)) <| ck (!(a0.toList==(nth b k0).toList)) (λh7=> ?_) (λh7=> ?_)
  ·refine tu Qb [] [] [] [] p0 <| Qe ?_
   have hr8:(Xz (Iy b) Iz a_ 0 ())= .ret false:=Jv hx0 (Q4 h7 (rfl)) U;exact pb [] (Qi h1 (Pd hr8))
  refine Qg <| qu Qb [(5,.i ((k0+1:Nat):Int))] [5] [] [] (pe 1 (Jl (Qo k0 (by omega))) p0) ?_
  exact xw _ (Qt hx0 (Qi h7 (rfl)) U)
 ·exact Qc <| sn Qb [0,1,4,5,14] [] (pl 2 a_ (pe 3 (zC ((k0:Int)<(a_.length:Int))) p0)) <| ckF <| Q3 <| xw _ (Xn hk0 (rfl) U)
 exact sn Qb [4] [] p0 <| Qe <| pb [] (Qi h1 (Wk hD0 (rfl)))
def Ud (l:X4) (u:Int) (o:E3) (by_:Int):Bool:=(((Qs l by_ o)).2.2&&(Gr (Wu l.1 l.2.1 u) (Wu ((((Qs l by_ o)).1).1.1,(((Qs l by_ o)).1).1.2.1,(((Qs l by_ o)).1).1.2.2) ((((Qs l by_ o)).1).2.1) u)))
theorem Rx (l:X4) (u:Int) (o:E3) (by_:Int):ACalls Tryz.prog 7 [.a [.h l.1.1,.h l.1.2.1,.i l.1.2.2,.h l.2.1,.h l.2.2],.i u,.a [.i o.1,.i o.2.1.1,.i o.2.1.2.1,.b o.2.1.2.2.1,.i o.2.1.2.2.2.1,.h o.2.1.2.2.2.2,.i o.2.2.1,.s o.2.2.2.1,.h o.2.2.2.2],.i by_] (.b (Ud l u o by_)):=by
 refine en Qb Tryz.func7 λw0 F0 hG=> ?_
 refine sn Qb [1,3,4,6,8] [4,6] p0 <| tn Qb [1,4,8,9,11] [4,9] (pc 3 (Pv l by_ o) p0) <| Qc <| mz [(4,.p 4 0),(8,.b false),(9,.p 9 0),(11,.b (((Qs l by_ o)).2.2))] [0,2,3] [(4, [.h l.1.1,.h l.1.2.1,.i l.1.2.2,.h l.2.1,.h l.2.2]),(9, [.h ((((Qs l by_ o)).1).1.1),.h ((((Qs l by_ o)).1).1.2.1),.i ((((Qs l by_ o)).1).1.2.2),.h ((((Qs l by_ o)).1).2.1),.h ((((Qs l by_ o)).1).2.2)])] [] <| jn [(8,.b (((Qs l by_ o)).2.2&&(Gr (Wu l.1 l.2.1 u) (Wu ((((Qs l by_ o)).1).1.1,(((Qs l by_ o)).1).1.2.1,(((Qs l by_ o)).1).1.2.2) ((((Qs l by_ o)).1).2.1) u))))] [1,4,8,9,11] [] [4,9] (((Qs l by_ o)).2.2) (λh1=> ?_) (λh1=> ?_) ?_
 ·refine rN Qb Zg [8] [] (pt 0 h1 (pc 7 (R6 l.1 l.2.1 u) (pc 13 (R6 ((((Qs l by_ o)).1).1.1,(((Qs l by_ o)).1).1.2.1,(((Qs l by_ o)).1).1.2.2) ((((Qs l by_ o)).1).2.1) u) (pc 14 (CK (Wu l.1 l.2.1 u) (Wu ((((Qs l by_ o)).1).1.1,(((Qs l by_ o)).1).1.2.1,(((Qs l by_ o)).1).1.2.2) ((((Qs l by_ o)).1).2.1) u)) p0)))) ?_;exact zA (by rw[h1]<;>kernel_rfl)
 ·refine rN Qb Zg [8] [] (pf 0 h1 p0) ?_;exact zA (by rw[h1]<;>kernel_rfl)
 exact Qe <| pb [] (show Ud l u o by_=(((Qs l by_ o)).2.2&&(Gr (Wu l.1 l.2.1 u) (Wu ((((Qs l by_ o)).1).1.1,(((Qs l by_ o)).1).1.2.1,(((Qs l by_ o)).1).1.2.2) ((((Qs l by_ o)).1).2.1) u))) from rfl)
theorem Qbl (a b:List ByteArray):Gr a b=Wo a b:=by
 unfold Gr Wo;rw[Ed (f:=Iy b) (g:=Hl b) (e:=Iz) (e':=Bw) (λ_ _ _=>rfl) (λ_ _=>rfl)]
theorem NP (c:X4) (u:Int) (x:E3) (w:Int):Ud c u x w=Z4 c u x w:=by
 have A:=QC c w x;unfold Ud Z4;rw[A.ok,A.cat,JA,JA,Qbl]
open GoE (enc wide)
def Mu (b:List Jf) (k0:Nat) (a0:Jf) (_:Unit):Rd (Bool) (Unit) (Unit):=(bif (!((a0.1.toList==((nth b k0).1).toList)&&((a0.2==(nth b k0).2)&&true))) then (.ret false) else (.next ()))
def Mv (_:Nat) (_:Unit):Unit:=()
def Hd (a_:List Jf) (b:List Jf):Bool:=(bif ((a_.length:Int) !=(b.length:Int)) then false else (Out.on (Xz (Mu b) Mv a_ 0 ()) (λ_=>true)))
theorem N6 (a_:List Jf) (b:List Jf):ACalls Tryz.prog 77 [.h a_,.h b] (.b (Hd a_ b)):=by
 refine en Qb Tryz.func77 λw0 F0 hG=> ?_
 refine sn Qb [0,1,4] [] p0 <| Qc <| tn Qb [0,1,4,10] [] (pl 1 a_ (pl 3 b p0)) <| ck ((a_.length:Int) !=(b.length:Int)) (λh1=> ?_) (λh1=> ?_)
 ·exact tu Qb [(4,.b false)] [] [] [] p0 <| Qe <| pb [] (Q4 h1 (rfl))
 have h1d:=Vi h1;refine Qg <| Qc <| tu Qb [(4,.b false),(5,.i 0)] [] [] [] p0 <| wT 0 0 .sh a_ (λhw2 hl3=> ?_)
 refine P0 (Mu b) Mv a_ () (λk0 _=> [(5,.i (k0:Int))]) [5] (λ_=> []) [0,1,5] wf0 (λk0 s0 hk0 U=> ?_) (λk0 s0 hk0 U=> ?_) (λy0 hD0=> ?_)
 ·obtain ⟨a0,hx0⟩:=Xm (l:=a_) (i:=k0) hk0;refine Qc <| sn Qb [0,1,4,5,14] [] (pl 2 a_ (pe 3 (zB ((k0:Int)<(a_.length:Int))) p0)) <| ckT <| Qg <| Qc <| Qv <| wT 1 0 .sh b (λhw5 hl6=> ?_)
  have hx4:=ng b k0;refine tN Qb Zg [0,1,4,5,25] [] (pn 2 hx0 (pn 6 hx4 p0)) <| ck (!((a0.1.toList==((nth b k0).1).toList)&&((a0.2==(nth b k0).2)&&true))) (λh7=> ?_) (λh7=> ?_)
  ·refine tu Qb [] [] [] [] p0 <| Qe ?_
   have hr8:(Xz (Mu b) Mv a_ 0 ())= .ret false:=Jv hx0 (Q4 h7 (rfl)) U;exact pb [] (Qi h1 (Pd hr8))
  have h7n:((a0.1.toList==((nth b k0).1).toList)&&((a0.2==(nth b k0).2)&&true))=true:=Za h7;have h7nr:(((a0.2==(nth b k0).2)&&true))=true:=KC h7n;have h7nrl:((a0.2==(nth b k0).2))=true:=XA h7nr;have h7nrld:=eq_of_beq h7nrl;refine Qg <| qu Qb [(5,.i ((k0+1:Nat):Int))] [5] [] [] (pe 1 (Jl (Qo k0 (by omega))) p0) ?_
  exact xw _ (Qt hx0 (Qi h7 (rfl)) U)
 ·exact Qc <| sn Qb [0,1,4,5,14] [] (pl 2 a_ (pe 3 (zC ((k0:Int)<(a_.length:Int))) p0)) <| ckF <| Q3 <| xw _ (Xn hk0 (rfl) U)
 exact sn Qb [4] [] p0 <| Qe <| pb [] (Qi h1 (Wk hD0 (rfl)))
def Ev (b:Xe) (k0:Nat) (a0:Bl) (_:Unit):Rd (Bool) (Unit) (Unit):=(bif (!((a0.1.toList==((nth b.2.2.2.2 k0).1).toList)&&((a0.2.1==(nth b.2.2.2.2 k0).2.1)&&((a0.2.2.1==(nth b.2.2.2.2 k0).2.2.1)&&((a0.2.2.2.toList==((nth b.2.2.2.2 k0).2.2.2).toList)&&true))))) then (.ret false) else (.next ()))
def Ew (_:Nat) (_:Unit):Unit:=()
def C8 (a_:Xe) (b:Xe):Bool:=(bif ((a_.1 !=b.1)|| ((a_.2.1 !=b.2.1)|| ((!(a_.2.2.1==b.2.2.1))|| ((a_.2.2.2.1 !=b.2.2.2.1)|| ((a_.2.2.2.2.length:Int) !=(b.2.2.2.2.length:Int)))))) then false else (Out.on (Xz (Ev b) Ew a_.2.2.2.2 0 ()) (λ_=>true)))
theorem WU (a_:Xe) (b:Xe):ACalls Tryz.prog 78 [.a [.i a_.1,.i a_.2.1,.b a_.2.2.1,.i a_.2.2.2.1,.h a_.2.2.2.2],.a [.i b.1,.i b.2.1,.b b.2.2.1,.i b.2.2.2.1,.h b.2.2.2.2]] (.b (C8 a_ b)):=by
 refine en Qb Tryz.func78 λw0 F0 hG=> ?_
 refine sn Qb [2,3,4] [2,3] p0 <| Qc <| Qc <| mz [(2,.p 2 0),(3,.p 3 0),(4,.b false)] [0,1] [(2, [.i a_.1,.i a_.2.1,.b a_.2.2.1,.i a_.2.2.2.1,.h a_.2.2.2.2]),(3, [.i b.1,.i b.2.1,.b b.2.2.1,.i b.2.2.2.1,.h b.2.2.2.2])] [] <| jn [(40,.b ((a_.1 !=b.1)|| ((a_.2.1 !=b.2.1)|| ((!(a_.2.2.1==b.2.2.1))|| ((a_.2.2.2.1 !=b.2.2.2.1)|| ((a_.2.2.2.2.length:Int) !=(b.2.2.2.2.length:Int)))))))] [] [] [] (a_.1 !=b.1) (λh1=> ?_) (λh1=> ?_) ?_
 ·refine rn Qb [2,3,4,40] [2,3] (pt 4 h1 p0) ?_;exact zA (by rw[h1]<;>kernel_rfl)
 ·refine Xu (a_.2.1 !=b.2.1) (λh2=> ?_) (λh2=> ?_)
  ·refine rn Qb [2,3,4,40] [2,3] (pf 4 h1 (pt 10 h2 p0)) ?_;exact zA (by rw[h1,h2]<;>kernel_rfl)
  refine Xu (!(a_.2.2.1==b.2.2.1)) (λh3=> ?_) (λh3=> ?_)
  ·refine rn Qb [2,3,4,40] [2,3] (pf 4 h1 (pf 10 h2 (pt 17 h3 p0))) ?_;exact zA (by rw[h1,h2,h3]<;>kernel_rfl)
  refine Xu (a_.2.2.2.1 !=b.2.2.2.1) (λh4=> ?_) (λh4=> ?_)
  ·refine rn Qb [2,3,4,40] [2,3] (pf 4 h1 (pf 10 h2 (pf 17 h3 (pt 24 h4 p0)))) ?_;exact zA (by rw[h1,h2,h3,h4]<;>kernel_rfl)
  refine rn Qb [2,3,4,40] [2,3] (pf 4 h1 (pf 10 h2 (pf 17 h3 (pf 24 h4 (pl 29 a_.2.2.2.2 (pl 32 b.2.2.2.2 p0)))))) ?_;exact zA (by rw[h1,h2,h3,h4]<;>kernel_rfl)
 refine ck ((a_.1 !=b.1)|| ((a_.2.1 !=b.2.1)|| ((!(a_.2.2.1==b.2.2.1))|| ((a_.2.2.2.1 !=b.2.2.2.1)|| ((a_.2.2.2.2.length:Int) !=(b.2.2.2.2.length:Int)))))) (λh5=> ?_) (λh5=> ?_)
 ·exact su Qb [] [40] [] [] p0 <| Qe <| pb [] (Q4 h5 (rfl))
 have h5l:((a_.1 !=b.1))=false:=Re h5;have h5ld:=Vi h5l;have h5r:(((a_.2.1 !=b.2.1)|| ((!(a_.2.2.1==b.2.2.1))|| ((a_.2.2.2.1 !=b.2.2.2.1)|| ((a_.2.2.2.2.length:Int) !=(b.2.2.2.2.length:Int))))))=false:=Pz h5;have h5rl:((a_.2.1 !=b.2.1))=false:=Re h5r;have h5rld:=Vi h5rl;have h5rr:(((!(a_.2.2.1==b.2.2.1))|| ((a_.2.2.2.1 !=b.2.2.2.1)|| ((a_.2.2.2.2.length:Int) !=(b.2.2.2.2.length:Int)))))=false:=Pz h5r;have h5rrl:((!(a_.2.2.1==b.2.2.1)))=false:=Re h5rr;have h5rrln:(a_.2.2.1==b.2.2.1)=true:=Za h5rrl;have h5rrlnd:=eq_of_beq h5rrln;have h5rrr:(((a_.2.2.2.1 !=b.2.2.2.1)|| ((a_.2.2.2.2.length:Int) !=(b.2.2.2.2.length:Int))))=false:=Pz h5rr;have h5rrrl:((a_.2.2.2.1 !=b.2.2.2.1))=false:=Re h5rrr;have h5rrrld:=Vi h5rrrl;have h5rrrr:(((a_.2.2.2.2.length:Int) !=(b.2.2.2.2.length:Int)))=false:=Pz h5rrr;have h5rrrrd:=Vi h5rrrr;refine Qg <| Qc <| sn Qb [2,3,4,5] [2,3] p0 <| mz [(5,.i 0)] [40] [] [] <| wB 2 4 .sh a_.2.2.2.2 (λhw6 hl7=> ?_)
 refine Qgj (Ev b) Ew a_.2.2.2.2 () (λk0 _=> [(5,.i (k0:Int))]) [5] (λ_ _=> []) [] (λ_=> []) [2,3,5] (λ_=> []) [2,3] wf0 (λk0 s0 hk0 U=> ?_) (λk0 s0 hk0 U=> ?_) (λy0 hD0=> ?_)
 ·obtain ⟨a0,hx0⟩:=Xm (l:=a_.2.2.2.2) (i:=k0) hk0;refine Qc <| sn Qb [2,3,4,5,45] [2,3] (pl 3 a_.2.2.2.2 (pe 4 (zB ((k0:Int)<(a_.2.2.2.2.length:Int))) p0)) <| ckT <| Qg <| Qc <| Qv <| wB 3 4 .sh b.2.2.2.2 (λhw9 hl10=> ?_)
  have hx8:=ng b.2.2.2.2 k0;refine tN Qb Zg [2,3,4,5,58] [2,3] (pn 3 hx0 (pn 8 hx8 p0)) <| ck (!((a0.1.toList==((nth b.2.2.2.2 k0).1).toList)&&((a0.2.1==(nth b.2.2.2.2 k0).2.1)&&((a0.2.2.1==(nth b.2.2.2.2 k0).2.2.1)&&((a0.2.2.2.toList==((nth b.2.2.2.2 k0).2.2.2).toList)&&true))))) (λh11=> ?_) (λh11=> ?_)
  ·refine tu Qb [] [] [] [] p0 <| Qe ?_
   have hr12:(Xz (Ev b) Ew a_.2.2.2.2 0 ())= .ret false:=Jv hx0 (Q4 h11 (rfl)) U;exact pb [] (Qi h5 (Pd hr12))
  have h11n:((a0.1.toList==((nth b.2.2.2.2 k0).1).toList)&&((a0.2.1==(nth b.2.2.2.2 k0).2.1)&&((a0.2.2.1==(nth b.2.2.2.2 k0).2.2.1)&&((a0.2.2.2.toList==((nth b.2.2.2.2 k0).2.2.2).toList)&&true))))=true:=Za h11;have h11nr:(((a0.2.1==(nth b.2.2.2.2 k0).2.1)&&((a0.2.2.1==(nth b.2.2.2.2 k0).2.2.1)&&((a0.2.2.2.toList==((nth b.2.2.2.2 k0).2.2.2).toList)&&true))))=true:=KC h11n;have h11nrl:((a0.2.1==(nth b.2.2.2.2 k0).2.1))=true:=XA h11nr;have h11nrld:=eq_of_beq h11nrl;have h11nrr:(((a0.2.2.1==(nth b.2.2.2.2 k0).2.2.1)&&((a0.2.2.2.toList==((nth b.2.2.2.2 k0).2.2.2).toList)&&true)))=true:=KC h11nr;have h11nrrl:((a0.2.2.1==(nth b.2.2.2.2 k0).2.2.1))=true:=XA h11nrr;have h11nrrld:=eq_of_beq h11nrrl;refine Qg <| qu Qb [(5,.i ((k0+1:Nat):Int))] [5] [] [] (pe 1 (Jl (Qo k0 (by omega))) p0) ?_
  exact xw _ (Qt hx0 (Qi h11 (rfl)) U)
 ·exact Qc <| sn Qb [2,3,4,5,45] [2,3] (pl 3 a_.2.2.2.2 (pe 4 (zC ((k0:Int)<(a_.2.2.2.2.length:Int))) p0)) <| ckF <| Q3 <| xw _ (Xn hk0 (rfl) U)
 exact sn Qb [4] [] p0 <| Qe <| pb [] (Qi h5 (Wk hD0 (rfl)))
def Dm (b:Qz) (k0:Nat) (a0:Xe) (_:Unit):Rd (Bool) (Unit) (Unit):=(bif (!(C8 a0 (nth b.2.1 k0))) then (.ret false) else (.next ()))
def Dn (_:Nat) (_:Unit):Unit:=()
def D9 (a_:Qz) (b:Qz):Bool:=(bif ((!(Hd a_.1 b.1))|| ((a_.2.2 !=b.2.2)|| ((a_.2.1.length:Int) !=(b.2.1.length:Int)))) then false else (Out.on (Xz (Dm b) Dn a_.2.1 0 ()) (λ_=>true)))
theorem VD (a_:Qz) (b:Qz):ACalls Tryz.prog 31 [.a [.h a_.1,.h a_.2.1,.i a_.2.2],.a [.h b.1,.h b.2.1,.i b.2.2]] (.b (D9 a_ b)):=by
 refine en Qb Tryz.func31 λw0 F0 hG=> ?_
 refine sn Qb [2,3,4] [2,3] p0 <| Qc <| Qc <| mz [(2,.p 2 0),(3,.p 3 0),(4,.b false)] [0,1] [(2, [.h a_.1,.h a_.2.1,.i a_.2.2]),(3, [.h b.1,.h b.2.1,.i b.2.2])] [] <| jn [(27,.b ((!(Hd a_.1 b.1))|| ((a_.2.2 !=b.2.2)|| ((a_.2.1.length:Int) !=(b.2.1.length:Int)))))] [] [] [] (!(Hd a_.1 b.1)) (λh1=> ?_) (λh1=> ?_) ?_
 ·have h1n:(Hd a_.1 b.1)=false:=Vj h1;refine rn Qb [2,3,4,27] [2,3] (pc 4 (cb h1n (N6 a_.1 b.1)) (pe 5 (show .b (!false)= .b true from rfl) p0)) ?_;exact zA (by rw[h1]<;>kernel_rfl)
 ·have h1n:(Hd a_.1 b.1)=true:=Za h1;refine Xu (a_.2.2 !=b.2.2) (λh2=> ?_) (λh2=> ?_)
  ·refine rn Qb [2,3,4,27] [2,3] (pc 4 (cb h1n (N6 a_.1 b.1)) (pe 5 (show .b (!true)= .b false from rfl) (pt 11 h2 p0))) ?_;exact zA (by rw[h1,h2]<;>kernel_rfl)
  refine rn Qb [2,3,4,27] [2,3] (pc 4 (cb h1n (N6 a_.1 b.1)) (pe 5 (show .b (!true)= .b false from rfl) (pf 11 h2 (pl 16 a_.2.1 (pl 19 b.2.1 p0))))) ?_;exact zA (by rw[h1,h2]<;>kernel_rfl)
 refine ck ((!(Hd a_.1 b.1))|| ((a_.2.2 !=b.2.2)|| ((a_.2.1.length:Int) !=(b.2.1.length:Int)))) (λh3=> ?_) (λh3=> ?_)
 ·exact su Qb [] [27] [] [] p0 <| Qe <| pb [] (Q4 h3 (rfl))
 have h3r:(((a_.2.2 !=b.2.2)|| ((a_.2.1.length:Int) !=(b.2.1.length:Int))))=false:=Pz h3;have h3rl:((a_.2.2 !=b.2.2))=false:=Re h3r;have h3rld:=Vi h3rl;have h3rr:(((a_.2.1.length:Int) !=(b.2.1.length:Int)))=false:=Pz h3r;have h3rrd:=Vi h3rr;refine Qg <| Qc <| sn Qb [2,3,4,5] [2,3] p0 <| mz [(5,.i 0)] [27] [] [] <| wB 2 1 .sh a_.2.1 (λhw4 hl5=> ?_)
 refine Qgj (Dm b) Dn a_.2.1 () (λk0 _=> [(5,.i (k0:Int))]) [5] (λ_ _=> []) [] (λ_=> []) [2,3,5] (λ_=> []) [2,3] wf0 (λk0 s0 hk0 U=> ?_) (λk0 s0 hk0 U=> ?_) (λy0 hD0=> ?_)
 ·obtain ⟨a0,hx0⟩:=Xm (l:=a_.2.1) (i:=k0) hk0;refine Qc <| sn Qb [2,3,4,5,32] [2,3] (pl 3 a_.2.1 (pe 4 (zB ((k0:Int)<(a_.2.1.length:Int))) p0)) <| ckT <| Qg <| Qc <| Qv <| wB 3 1 .sh b.2.1 (λhw7 hl8=> ?_)
  have hx6:=ng b.2.1 k0;refine tN Qb Zg [2,3,4,5,46] [2,3] (pn 3 hx0 (pn 8 hx6 (pc 10 (WU a0 (nth b.2.1 k0)) p0))) <| ck (!(C8 a0 (nth b.2.1 k0))) (λh9=> ?_) (λh9=> ?_)
  ·refine tu Qb [] [] [] [] p0 <| Qe ?_
   have hr10:(Xz (Dm b) Dn a_.2.1 0 ())= .ret false:=Jv hx0 (Q4 h9 (rfl)) U;exact pb [] (Qi h3 (Pd hr10))
  refine Qg <| qu Qb [(5,.i ((k0+1:Nat):Int))] [5] [] [] (pe 1 (Jl (Qo k0 (by omega))) p0) ?_
  exact xw _ (Qt hx0 (Qi h9 (rfl)) U)
 ·exact Qc <| sn Qb [2,3,4,5,32] [2,3] (pl 3 a_.2.1 (pe 4 (zC ((k0:Int)<(a_.2.1.length:Int))) p0)) <| ckF <| Q3 <| xw _ (Xn hk0 (rfl) U)
 exact sn Qb [4] [] p0 <| Qe <| pb [] (Qi h3 (Wk hD0 (rfl)))
def Hy (a_:Qz) (b:Qz) (u:Int):Bool:=(D9 ((Q9 a_ u).1,(Q9 a_ u).2.1,0) ((Q9 b u).1,(Q9 b u).2.1,0))
theorem JM (a_:Qz) (b:Qz) (u:Int):ACalls Tryz.prog 10 [.a [.h a_.1,.h a_.2.1,.i a_.2.2],.a [.h b.1,.h b.2.1,.i b.2.2],.i u] (.b (Hy a_ b u)):=by
 refine en Qb Tryz.func10 λw0 F0 hG=> ?_
 exact sn Qb [2,3,4,6] [3,4] p0 <| tn Qb [2,4,6,7] [4,7] (pc 2 (Dk a_ u) p0) <| tu Qb [(6,.b false),(7,.p 7 0),(8,.p 8 0)] [0,1,2] [(7, [.o 704 ((Q9 a_ u).1),.o 705 ((Q9 a_ u).2.1),.i ((Q9 a_ u).2.2)]),(8, [.o 896 ((Q9 b u).1),.o 897 ((Q9 b u).2.1),.i ((Q9 b u).2.2)])] [] (pc 2 (Dk b u) p0) <| sn Qb [6,7,8] [7,8] p0 <| tn Qb [6,7,8] [7,8] p0 <| tu Qb [(6,.b (D9 ((Q9 a_ u).1,(Q9 a_ u).2.1,0) ((Q9 b u).1,(Q9 b u).2.1,0)))] [6,7,8] [] [7,8] (pc 2 (VD ((Q9 a_ u).1,(Q9 a_ u).2.1,0) ((Q9 b u).1,(Q9 b u).2.1,0)) p0) <| Qe <| pb [] (show Hy a_ b u=(D9 ((Q9 a_ u).1,(Q9 a_ u).2.1,0) ((Q9 b u).1,(Q9 b u).2.1,0)) from rfl)
def Vt (s_:Qz) (id:Int):Xe:=(((Xa s_ id)).1)
theorem NQ (s_:Qz) (id:Int):ACalls Tryz.prog 8 [.a [.h s_.1,.h s_.2.1,.i s_.2.2],.i id] (.a [.i ((Vt s_ id).1),.i ((Vt s_ id).2.1),.b ((Vt s_ id).2.2.1),.i ((Vt s_ id).2.2.2.1),.o 0 ((Vt s_ id).2.2.2.2)]):=by
 refine en Qb Tryz.func8 λw0 F0 hG=> ?_
 exact sn Qb [1,2,4] [2,4] p0 <| tn Qb [4,5] [4,5] (pc 2 (Fj s_ id) p0) <| tu Qb [(4,.p 4 0)] [0,1] [(4, [.i ((((Xa s_ id)).1).1),.i ((((Xa s_ id)).1).2.1),.b ((((Xa s_ id)).1).2.2.1),.i ((((Xa s_ id)).1).2.2.2.1),.o 640 ((((Xa s_ id)).1).2.2.2.2)])] [] p0 <| Qe <| pz [] (show Vt s_ id=(((Xa s_ id)).1) from rfl) (λz=> .a [.i z.1,.i z.2.1,.b z.2.2.1,.i z.2.2.2.1,.o 0 z.2.2.2.2])
theorem Qiz {α : Type} [Inhabited α] {p:α->α->Bool} {f:Nat->α->Unit->Rd Bool Unit Unit} {e:Nat->Unit->Unit} {b:List α} (hf:∀k a,f k a ()=(bif !(p a (nth b k)) then .ret false else .next ())):
 ∀(l:List α) (k:Nat),Out.on (Xz f e l k ()) (λ_=>true)=true↔∀(i:Nat) (a:α),l[i]? =some a->p a (nth b (k+i))=true
 | [],k=>by simp[Xz,Out.on]
 | x :: l, k => by
   simp only[Xz,hf];cases hp:p x (nth b k) with
   | false=>
     simp only[zS,cond_true,Out.on];refine ⟨λh=>(by cases h),λh=> ?_⟩;have:=h 0 x rfl;rw[Nat.add_zero,hp] at this;exact this
   | true=>
     simp only[zN,cond_false];rw[Qiz hf l (k+1)];refine ⟨λh i a hi=> ?_,λh i a hi=> ?_⟩
     . cases i with
       | zero => have hi:x=a:=by simpa using hi
                 subst hi;exact hp
       | succ i => have:=h i a (by simpa using hi)
                   rw[show k+(i+1)=k+1+i by omega];exact this
     have:=h (i+1) a (by simpa using hi);rw[show k+1+i=k+(i+1) by omega];exact this
theorem RP {α:Type} [Inhabited α] {p:α->α->Bool} (hp:∀a b,p a b=true↔a=b) {f:Nat->α->Unit->Rd Bool Unit Unit} {e:Nat->Unit->Unit} {l b:List α} (hf:∀k a,f k a ()=(bif !(p a (nth b k)) then .ret false else .next ())):
 (bif ((l.length:Int) !=(b.length:Int)) then false else Out.on (Xz f e l 0 ()) (λ_=>true))=true↔l=b:=by
 by_cases hl:l.length=b.length
 . have hn:((l.length:Int) !=(b.length:Int))=false:=by simp[hl]
   rw[hn,cond_false,Qiz hf];refine ⟨λh=>List.ext_getElem? λi=> ?_,λh i a hi=> ?_⟩
   . by_cases hi:i<l.length
     . rw[Wg hi,Wg (by omega:i<b.length)];have:=h i _ (Wg hi);rw[yD] at this;rw[(hp _ _).1 this]
     rw[yA (by omega),yA (by omega)]
   subst h;rw[yD,Od hi];exact (hp _ _).2 rfl
 have hn:((l.length:Int) !=(b.length:Int))=true:=by simpa using λe:(l.length:Int)=(b.length:Int)=>hl (by omega)
 rw[hn,cond_true];exact ⟨λh=>(by cases h),λh=>(hl (congrArg zF h)).elim⟩
theorem Qe5 (a b:ByteArray):(a.toList==b.toList)=true↔a=b:=by rw[toList_inj,decide_eq_true_eq]
theorem Qe6 (a b:ByteArray):a.toList=b.toList↔a=b:=by rw[←Qe5,beq_iff_eq]
theorem BR (a b:List Jf):Hd a b=true↔a=b:=
 RP (p:=λx y=>(x.1.toList==y.1.toList)&&((x.2==y.2)&&true)) (λx y=>by
  simp only[zO,beq_iff_eq,Qe6,and_true];exact ⟨λh=>zV h.1 h.2,λh=>by rw[h];exact ⟨rfl,rfl⟩⟩) (λ_ _=>rfl)
def Qku (x y:Bl):Bool:=(x.1.toList==y.1.toList)&&((x.2.1==y.2.1)&&((x.2.2.1==y.2.2.1)&&((x.2.2.2.toList==y.2.2.2.toList)&&true)))
theorem Qe7 (x y:Bl):Qku x y=true↔x=y:=by
 unfold Qku;simp only[zO,beq_iff_eq,Qe6,and_true];exact ⟨λh=>zV h.1 (zV h.2.1 (zV h.2.2.1 h.2.2.2)),λh=>by rw[h];exact ⟨rfl,rfl,rfl,rfl⟩⟩
theorem Qe8 (a b:Xe):C8 a b=true↔a=b:=by
 have key:=RP (p:=Qku) Qe7 (f:=Ev b) (e:=Ew) (l:=a.2.2.2.2) (b:=b.2.2.2.2) (λ_ _=>rfl);unfold C8;by_cases h1:a.1=b.1
 . by_cases h2:a.2.1=b.2.1
   . by_cases h3:a.2.2.1=b.2.2.1
     . by_cases h4:a.2.2.2.1=b.2.2.2.1
       . simp only[h1,h2,h3,h4,bne_self_eq_false,beq_self_eq_true,zN,Bool.false_or];rw[key];exact ⟨λh=>zV h1 (zV h2 (zV h3 (zV h4 h))),λh=>by rw[h]⟩
       simp[h4];exact λe=>h4 (by rw[e])
     simp[h3];exact λe=>h3 (by rw[e])
   simp[h2];exact λe=>h2 (by rw[e])
 simp[h1];exact λe=>h1 (by rw[e])
theorem Qbm (a b:Qz) (u:Int):Hy a b u=true↔(Qy a u).1=(Qy b u).1/\(Qy a u).2.1=(Qy b u).2.1:=by
 unfold Hy D9;rw[Nf,Nf];generalize Qy a u=x;generalize Qy b u=y;have key:=RP (p:=C8) Qe8 (f:=Dm (y.1,y.2.1,0)) (e:=Dn) (l:=x.2.1) (b:=y.2.1) (λ_ _=>rfl);by_cases h:x.1=y.1
 . have h0:=(BR x.1 y.1).2 h;simp only[h0,bne_self_eq_false,zN,Bool.false_or];rw[key];exact ⟨λh2=>⟨h,h2⟩,λh2=>h2.2⟩
 have h0:Hd x.1 y.1=false:=by
  cases hc:Hd x.1 y.1 with
  | false=>rfl
  | true=>exact (h ((BR _ _).1 hc)).elim
 simp only[h0,zS,Bool.true_or,cond_true];exact ⟨λh2=>(by cases h2),λh2=>(h h2.1).elim⟩
theorem Qe9 {a b:Qz} {u:Int} (ha:Qj a=true) (hb:Qj b=true) (h1:(Qy a u).1=(Qy b u).1) (h2:(Qy a u).2.1=(Qy b u).2.1) (d:List X0) (n:ByteArray):Uc a d u n=Uc b d u n:=by
 have hn:∀(s t:Qz) (ids:List Int),s.2.1=t.2.1->Z1 s ids=Z1 t ids:=by
  rintro ⟨s1,s2,s3⟩ ⟨t1,t2,t3⟩ ids h
  obtain rfl:s2=t2:=h;rfl
 unfold Uc;rw[MY ha hb h2,hn _ _ _ h2]
theorem RQ {a b:Qz} {u:Int} (ha:Qj a=true) (hb:Qj b=true) (h1:(Qy a u).1=(Qy b u).1) (h2:(Qy a u).2.1=(Qy b u).2.1) (d:List X0):K8 a d u=K8 b d u:=by
 unfold K8
 rw[MW ha hb (Nc ha u) (Nc hb u) h2,Ed (f:=U7 a d u) (g:=U7 b d u) (e:=Cg) (e':=Cg) (λk x t=>by
  unfold U7;rw[Qe9 ha hb h1 h2]) (λ_ _=>rfl)]
theorem Qi0 {a b:Qz} {u:Int} (h1:a.1=b.1) (hf:(a.2.1.filter λf=>J3 f u)=b.2.1.filter λf=>J3 f u):(Qy a u).1=(Qy b u).1/\(Qy a u).2.1=(Qy b u).2.1:=by
 have e:Kr a=Kr b:=by funext k x s;rfl
 unfold Qy;rw[U2 (f:=V9 u) (e:=Vc) (p:=λa=>J3 a u) (g:=id) (λ_ _ _=>rfl) a.2.1,U2 (f:=V9 u) (e:=Vc) (p:=λa=>J3 a u) (g:=id) (λ_ _ _=>rfl) b.2.1];simp only[Out.on,Vc,List.nil_append,yE];rw[hf,e];generalize Xz (Kr b) U5 _ 0 _=o;cases o with
 | ret r=>exact ⟨rfl,rfl⟩
 | brk y=>exact ⟨h1,rfl⟩
theorem BS {f:Xe} {u w:Int} (hs:f.2.2.1=false) (ho:f.2.1=w) (hne:u≠w):J3 f u=false:=by
 unfold J3;rw[hs,ho,beq_eq_false_iff_ne.2 (Ne.symm hne)];simp
theorem VE {α:Type} {p:α->Bool} {f:α} (hf:p f=false):∀(l:List α) (k:Nat) (a:α),l[k]? =some a->p a=false->(l.set k f).filter p=l.filter p
 | [],k,a,h,_=>by simp at h
 | b::l,0,a,h,ha=>by
   obtain rfl:b=a:=by simpa using h
   rw[List.set_cons_zero,zJ (by simp[hf]),zJ (by simp[ha])]
 | b::l,k+1,a,h,ha=>by
   have h:l[k]? =some a:=by simpa using h
   rw[List.set_cons_succ];cases hb:p b with
   | true=>rw[zX hb,zX hb,VE hf l k a h ha]
   | false=>rw[zJ (by simp[hb]),zJ (by simp[hb]),VE hf l k a h ha]
theorem NR {s:Qz} {f:Xe} (h:(X6 s f).2.2=true):(X6 s f).1.1=s.1/\(X6 s f).1.2.1=s.2.1++ [(s.2.2,f.2)]:=by
 unfold X6 at h⊢;rw[Cm] at h⊢;generalize ((!(Qj s))|| _:Bool)=c at h⊢;cases c with
 | true=>simp at h
 | false=>exact ⟨rfl,rfl⟩
theorem GQ {s:Qz} {f:Xe} (h:(Xr s f).2=true):0<=Xw s f.1/\(Xr s f).1.1=s.1/\(Xr s f).1.2.1=s.2.1.set (zR (Xw s f.1)) f:=by
 unfold Xr at h⊢;rw[Cm] at h⊢;by_cases hc:Xw s f.1<0
 . rw[decide_eq_true hc] at h;simp at h
 refine ⟨by omega, ?_⟩;generalize ((!(Qj s))|| _:Bool)=c at h⊢;cases c with
 | true=>simp at h
 | false=>exact ⟨rfl,rfl⟩
theorem Qfa {c:X4} {f:Xe} (h:(Zw c f).2.2.2=true):Xo c=true/\(X6 c.1 f).2.2=true/\(Zw c f).1.1=(X6 c.1 f).1/\(Zw c f).1.2.1=c.2.1:=by
 unfold Zw at h⊢;rw[Gp] at h⊢;cases hc:Xo c with
 | false=>rw[hc] at h;simp at h
 | true=>
   cases hk:(X6 c.1 f).2.2 with
   | false=>rw[hc,hk] at h;simp at h
   | true=>
     obtain ⟨_,_,t3,t4⟩:=XS (c:=c) (names:=Xv c.2.1) (C3 hc) (Rs f (W9 hc).2);exact ⟨rfl,rfl,t3,t4⟩
theorem Qfb {c:X4} {f:Xe} (h:(Zo c f).2.2=true):Xo c=true/\(Xr c.1 f).2=true/\(Zo c f).1.1=(Xr c.1 f).1/\(Zo c f).1.2.1=c.2.1:=by
 unfold Zo at h⊢;rw[Gp] at h⊢;cases hc:Xo c with
 | false=>rw[hc] at h;simp at h
 | true=>
   cases hk:(Xr c.1 f).2 with
   | false=>rw[hc,hk] at h;simp at h
   | true=>
     obtain ⟨_,_,t3,t4⟩:=XS (c:=c) (names:=Vn c.2.1 (Qn c.1 f.1).1 f) (C3 hc) (O9 f (W9 hc).2);exact ⟨rfl,rfl,t3,t4⟩
structure Unseen (c y:X4) (u:Int):Prop where
 v1:Qj c.1=true
 v2:Qj y.1=true
 dirs:y.2.1=c.2.1
 sch:(Qy c.1 u).1=(Qy y.1 u).1
 files:(Qy c.1 u).2.1=(Qy y.1 u).2.1
theorem Qbn {c:X4} {f:Xe} {u w:Int} (h:(Zw c f).2.2.2=true) (ho:f.2.1=w) (hs:f.2.2.1=false) (hne:u≠w):Unseen c (Zw c f).1 u:=by
 obtain ⟨h1,h2,h3,h4⟩:=Qfa h;obtain ⟨g1,g2⟩:=NR h2;have hv:=(W9 h1).2
 have hf:(c.1.2.1.filter λf=>J3 f u)=(Zw c f).1.1.2.1.filter λf=>J3 f u:=by
  rw[h3,g2,List.filter_append];have hn:J3 (c.1.2.2,f.2) u=false:=BS hs ho hne;rw[zJ (by simp[hn])];simp
 obtain ⟨v1,v2⟩:=Qi0 (u:=u) (a:=c.1) (b:=(Zw c f).1.1) (by rw[h3,g1]) hf;exact ⟨hv,by rw[h3];exact Rs f hv,h4,v1,v2⟩
theorem Qbo {c:X4} {f:Xe} {u w:Int} (h:(Zo c f).2.2=true) (ho:f.2.1=w) (hs:f.2.2.1=false) (hq:(Qn c.1 f.1).1.2.1=w) (hr:(Qn c.1 f.1).1.2.2.1=false) (hne:u≠w):Unseen c (Zo c f).1 u:=by
 obtain ⟨h1,h2,h3,h4⟩:=Qfb h;obtain ⟨g0,g1,g2⟩:=GQ h2;have hv:=(W9 h1).2;have hl:=T5 c.1 f.1;have hold:=Wg (l:=c.1.2.1) (i:=zR (Xw c.1 f.1)) (by omega)
 have he:(Qn c.1 f.1).1=nth c.1.2.1 (zR (Xw c.1 f.1)):=by
  unfold Qn;rw[decide_eq_true (show Xw c.1 f.1>=0 from g0)];rfl
 rw[he] at hq hr
 have hf:(c.1.2.1.filter λf=>J3 f u)=(Zo c f).1.1.2.1.filter λf=>J3 f u:=by
  rw[h3,g2];exact (VE (p:=λf=>J3 f u) (BS hs ho hne) _ _ _ hold (BS hr hq hne)).symm
 obtain ⟨v1,v2⟩:=Qi0 (u:=u) (a:=c.1) (b:=(Zo c f).1.1) (by rw[h3,g1]) hf;exact ⟨hv,by rw[h3];exact O9 f hv,h4,v1,v2⟩
theorem Qbp {kd:Int} {o n:Bool} (h:(bif (kd==(2:Int)) then (bif (!o) then (!n) else ((kd==(1:Int))&&(!n))) else ((kd==(1:Int))&&(!n)))=true):(kd=2/\o=false/\n=false)\/(kd=1/\n=false):=by
 by_cases h2:kd=2
 . subst h2
   left
   have e:((2:Int)==1)=false:=rfl;simp only[beq_self_eq_true,cond_true,e,yB] at h;cases o<;>cases n<;>simp at h⊢
 right
 rw[beq_eq_false_iff_ne.2 h2] at h;simp only[cond_false,zO,beq_iff_eq,Bool.not_eq_true'] at h;exact h
theorem NS {c:X4} {u w:Int} {x:E3} (hok:(Q0 c w x).2.2=true) (hne:u≠w) (hp:(x.1=2/\(Qn c.1 x.2.1.1).1.2.2.1=false/\x.2.1.2.2.1=false)\/(x.1=1/\x.2.1.2.2.1=false)):Unseen c (Q0 c w x).1 u:=by
 obtain ⟨kd,f,id,dir⟩:=x;dsimp only at hp;unfold Q0 at hok⊢;rw[Gp] at hok⊢;generalize ((!(Je w))|| (!(Xo c)))=b0 at hok⊢;cases b0 with
 | true=>simp at hok
 | false =>
   rcases hp with ⟨rfl,h1,h2⟩ | ⟨rfl,h2⟩
   . have e1:((2:Int)==1)=false:=rfl;simp only[cond_false,cond_true,beq_self_eq_true,e1] at hok⊢;cases hb:((Qn c.1 f.1).2&&(Wn (Qn c.1 f.1).1 w&&(f.2.1==w))) with
     | false=>rw[hb] at hok;simp at hok
     | true=>
       rw[hb] at hok;simp only[cond_true] at hok⊢;simp only[zO,beq_iff_eq] at hb
       have hq:(Qn c.1 f.1).1.2.1=w:=by
        have:=hb.2.1;unfold Wn at this;simp only[zO,beq_iff_eq] at this;exact this.2
       exact Qbo hok hb.2.2 h2 hq h1 hne
   simp only[cond_false,cond_true,beq_self_eq_true] at hok⊢;cases hb:(f.2.1==w) with
   | false=>rw[hb] at hok;simp at hok
   | true=>
     rw[hb] at hok;simp only[cond_true] at hok⊢;exact Qbn hok (eq_of_beq hb) h2 hne
theorem WV {c:X4} {u w:Int} {x:E3} (hok:(Q0 c w x).2.2=true) (h:Unseen c (Q0 c w x).1 u):Z4 c u x w=true/\Hy c.1 (Q0 c w x).1.1 u=true:=by
 refine ⟨?_,(Qbm _ _ _).2 ⟨h.sch,h.files⟩⟩;unfold Z4;rw[hok,h.dirs,RQ h.v1 h.v2 h.sch h.files]
 have e:∀l:List ByteArray,Wo l l=true:=λl=>by
  unfold Wo
  rw[Rg l 0 (λi a hi=>by
   unfold Hl;rw[yD,Od hi];simp)]
  simp[Out.on]
 rw[e];rfl
open GoE (enc wide)
def BT (Y:List UInt8):Bool:=decide ((Y.length:Int)>(1048576:Int))
theorem Qfc (Y:List UInt8):ACalls Tryz.prog 4 [.h Y] (.b (BT Y)):=by
 refine en Qb Tryz.func4 λw0 F0 hG=> ?_
 exact sn Qb [0,2] [] p0 <| tn Qb [2] [] (pl 1 Y p0) <| Qe <| pb [] (show BT Y=decide ((Y.length:Int)>(1048576:Int)) from rfl)
def E8 (Y:List UInt8):Bool:=(bif (BT Y) then true else (bif (!((Z4 (((Qa Y)).1) (((Qa Y)).2.1) (((Qa Y)).2.2.1) (((Qa Y)).2.2.2))==(Ud (((Qa Y)).1) (((Qa Y)).2.1) (((Qa Y)).2.2.1) (((Qa Y)).2.2.2)))) then false else ((!(((Qs (((Qa Y)).1) (((Qa Y)).2.2.2) (((Qa Y)).2.2.1))).2.2))|| ((((Qa Y)).2.1==((Qa Y)).2.2.2)|| (decide (((Qa Y)).2.1<(0:Int))|| (decide (((Qa Y)).2.1>(2:Int))|| ((!(bif ((((Qa Y)).2.2.1).1==(2:Int)) then (bif (!((Vt ((((Qa Y)).1).1.1,(((Qa Y)).1).1.2.1,(((Qa Y)).1).1.2.2) ((((Qa Y)).2.2.1).2.1.1)).2.2.1)) then (!((((Qa Y)).2.2.1).2.1.2.2.1)) else (((((Qa Y)).2.2.1).1==(1:Int))&&(!((((Qa Y)).2.2.1).2.1.2.2.1)))) else (((((Qa Y)).2.2.1).1==(1:Int))&&(!((((Qa Y)).2.2.1).2.1.2.2.1)))))|| ((Z4 (((Qa Y)).1) (((Qa Y)).2.1) (((Qa Y)).2.2.1) (((Qa Y)).2.2.2))&&(Hy ((((Qa Y)).1).1.1,(((Qa Y)).1).1.2.1,(((Qa Y)).1).1.2.2) ((((Qs (((Qa Y)).1) (((Qa Y)).2.2.2) (((Qa Y)).2.2.1))).1).1.1,(((Qs (((Qa Y)).1) (((Qa Y)).2.2.2) (((Qa Y)).2.2.1))).1).1.2.1,(((Qs (((Qa Y)).1) (((Qa Y)).2.2.2) (((Qa Y)).2.2.1))).1).1.2.2) (((Qa Y)).2.1))))))))))
theorem Sb (Y:List UInt8):ACalls Tryz.prog 3 [.h Y] (.b (E8 Y)):=by
 refine en Qb Tryz.func3 λw0 F0 hG=> ?_
 refine sn Qb [0,2] [] p0 <| Qc <| tn Qb [0,2,14] [] (pc 1 (Qfc Y) p0) <| ck (BT Y) (λh1=> ?_) (λh1=> ?_)
 ·exact tu Qb [(2,.b true)] [] [] [] p0 <| Qe <| pb [] (Q4 h1 (rfl))
 refine Qg <| tu Qb [(2,.b false),(3,.p 3 0),(4,.i (((Qa Y)).2.1)),(5,.p 5 0),(6,.i (((Qa Y)).2.2.2))] [0] [(3, [.h ((((Qa Y)).1).1.1),.h ((((Qa Y)).1).1.2.1),.i ((((Qa Y)).1).1.2.2),.h ((((Qa Y)).1).2.1),.h ((((Qa Y)).1).2.2)]),(5, [.i ((((Qa Y)).2.2.1).1),.i ((((Qa Y)).2.2.1).2.1.1),.i ((((Qa Y)).2.2.1).2.1.2.1),.b ((((Qa Y)).2.2.1).2.1.2.2.1),.i ((((Qa Y)).2.2.1).2.1.2.2.2.1),.o 1088 ((((Qa Y)).2.2.1).2.1.2.2.2.2),.i ((((Qa Y)).2.2.1).2.2.1),.s ((((Qa Y)).2.2.1).2.2.2.1),.o 1089 ((((Qa Y)).2.2.1).2.2.2.2)])] [] (pc 1 (N5 Y) p0) <| sn Qb [2,3,4,5,6,7] [3,5] (pc 4 (Rw (((Qa Y)).1) (((Qa Y)).2.1) (((Qa Y)).2.2.1) (((Qa Y)).2.2.2)) p0) <| Qc <| tn Qb [2,3,4,5,6,7,33] [3,5] (pc 5 (Rx (((Qa Y)).1) (((Qa Y)).2.1) (((Qa Y)).2.2.1) (((Qa Y)).2.2.2)) p0) <| ck (!((Z4 (((Qa Y)).1) (((Qa Y)).2.1) (((Qa Y)).2.2.1) (((Qa Y)).2.2.2))==(Ud (((Qa Y)).1) (((Qa Y)).2.1) (((Qa Y)).2.2.1) (((Qa Y)).2.2.2)))) (λh2=> ?_) (λh2=> ?_)
 ·exact tu Qb [(7,.b (Z4 (((Qa Y)).1) (((Qa Y)).2.1) (((Qa Y)).2.2.1) (((Qa Y)).2.2.2)))] [] [] [] p0 <| Qe <| pb [] (Qi h1 (Q4 h2 (rfl)))
 refine Qg <| tu Qb [(7,.b (Z4 (((Qa Y)).1) (((Qa Y)).2.1) (((Qa Y)).2.2.1) (((Qa Y)).2.2.2))),(8,.p 8 0)] [] [(8, [.i ((Vt ((((Qa Y)).1).1.1,(((Qa Y)).1).1.2.1,(((Qa Y)).1).1.2.2) ((((Qa Y)).2.2.1).2.1.1)).1),.i ((Vt ((((Qa Y)).1).1.1,(((Qa Y)).1).1.2.1,(((Qa Y)).1).1.2.2) ((((Qa Y)).2.2.1).2.1.1)).2.1),.b ((Vt ((((Qa Y)).1).1.1,(((Qa Y)).1).1.2.1,(((Qa Y)).1).1.2.2) ((((Qa Y)).2.2.1).2.1.1)).2.2.1),.i ((Vt ((((Qa Y)).1).1.1,(((Qa Y)).1).1.2.1,(((Qa Y)).1).1.2.2) ((((Qa Y)).2.2.1).2.1.1)).2.2.2.1),.o 2496 ((Vt ((((Qa Y)).1).1.1,(((Qa Y)).1).1.2.1,(((Qa Y)).1).1.2.2) ((((Qa Y)).2.2.1).2.1.1)).2.2.2.2)])] [] (pc 5 (NQ ((((Qa Y)).1).1.1,(((Qa Y)).1).1.2.1,(((Qa Y)).1).1.2.2) ((((Qa Y)).2.2.1).2.1.1)) p0) <| sn Qb [2,3,4,5,6,7,8,9,11] [3,5,8,9] (pc 3 (Pv (((Qa Y)).1) (((Qa Y)).2.2.2) (((Qa Y)).2.2.1)) p0) <| Qc <| mz [(9,.p 9 0),(11,.b (((Qs (((Qa Y)).1) (((Qa Y)).2.2.2) (((Qa Y)).2.2.1))).2.2))] [] [(5, [.i ((((Qa Y)).2.2.1).1),.i ((((Qa Y)).2.2.1).2.1.1),.i ((((Qa Y)).2.2.1).2.1.2.1),.b ((((Qa Y)).2.2.1).2.1.2.2.1),.i ((((Qa Y)).2.2.1).2.1.2.2.2.1),.h ((((Qa Y)).2.2.1).2.1.2.2.2.2),.i ((((Qa Y)).2.2.1).2.2.1),.s ((((Qa Y)).2.2.1).2.2.2.1),.h ((((Qa Y)).2.2.1).2.2.2.2)]),(9, [.h ((((Qs (((Qa Y)).1) (((Qa Y)).2.2.2) (((Qa Y)).2.2.1))).1).1.1),.h ((((Qs (((Qa Y)).1) (((Qa Y)).2.2.2) (((Qa Y)).2.2.1))).1).1.2.1),.i ((((Qs (((Qa Y)).1) (((Qa Y)).2.2.2) (((Qa Y)).2.2.1))).1).1.2.2),.h ((((Qs (((Qa Y)).1) (((Qa Y)).2.2.2) (((Qa Y)).2.2.1))).1).2.1),.h ((((Qs (((Qa Y)).1) (((Qa Y)).2.2.2) (((Qa Y)).2.2.1))).1).2.2)])] [5] <| jn [(12,.b (bif ((((Qa Y)).2.2.1).1==(2:Int)) then (bif (!((Vt ((((Qa Y)).1).1.1,(((Qa Y)).1).1.2.1,(((Qa Y)).1).1.2.2) ((((Qa Y)).2.2.1).2.1.1)).2.2.1)) then (!((((Qa Y)).2.2.1).2.1.2.2.1)) else (((((Qa Y)).2.2.1).1==(1:Int))&&(!((((Qa Y)).2.2.1).2.1.2.2.1)))) else (((((Qa Y)).2.2.1).1==(1:Int))&&(!((((Qa Y)).2.2.1).2.1.2.2.1)))))] [5,8] [] [5,8] ((((Qa Y)).2.2.1).1==(2:Int)) (λh3=> ?_) (λh3=> ?_) ?_
 ·refine Xu (!((Vt ((((Qa Y)).1).1.1,(((Qa Y)).1).1.2.1,(((Qa Y)).1).1.2.2) ((((Qa Y)).2.2.1).2.1.1)).2.2.1)) (λh4=> ?_) (λh4=> ?_)
  ·have h4n:((Vt ((((Qa Y)).1).1.1,(((Qa Y)).1).1.2.1,(((Qa Y)).1).1.2.2) ((((Qa Y)).2.2.1).2.1.1)).2.2.1)=false:=Vj h4;refine Xu (!((((Qa Y)).2.2.1).2.1.2.2.1)) (λh5=> ?_) (λh5=> ?_)
   ·have h5n:((((Qa Y)).2.2.1).2.1.2.2.1)=false:=Vj h5;refine ru Qb [(12,.b true)] [5,8] [] [5,8] (pt 2 h3 (pf 5 h4n (pe 6 (show .b (!false)= .b true from rfl) (pf 11 h5n (pe 12 (show .b (!false)= .b true from rfl) p0))))) ?_;exact zA (by rw[h3,h4,h5]<;>kernel_rfl)
   have h5n:((((Qa Y)).2.2.1).2.1.2.2.1)=true:=Za h5;refine Xu ((((Qa Y)).2.2.1).1==(1:Int)) (λh6=> ?_) (λh6=> ?_)
   ·refine ru Qb [(12,.b false)] [5,8] [] [5,8] (pt 2 h3 (pf 5 h4n (pe 6 (show .b (!false)= .b true from rfl) (pt 11 h5n (pe 12 (show .b (!true)= .b false from rfl) (pt 17 h6 (pt 21 h5n (pe 22 (show .b (!true)= .b false from rfl) p0)))))))) ?_;exact zA (by rw[h3,h4,h5,h6]<;>kernel_rfl)
   refine ru Qb [(12,.b false)] [5,8] [] [5,8] (pt 2 h3 (pf 5 h4n (pe 6 (show .b (!false)= .b true from rfl) (pt 11 h5n (pe 12 (show .b (!true)= .b false from rfl) (pf 17 h6 p0)))))) ?_;exact zA (by rw[h3,h4,h5,h6]<;>kernel_rfl)
  have h4n:((Vt ((((Qa Y)).1).1.1,(((Qa Y)).1).1.2.1,(((Qa Y)).1).1.2.2) ((((Qa Y)).2.2.1).2.1.1)).2.2.1)=true:=Za h4;refine Xu ((((Qa Y)).2.2.1).1==(1:Int)) (λh7=> ?_) (λh7=> ?_)
  ·refine rn Qb [2,3,4,6,7,9,11,12] [3,9] (pt 2 h3 (pt 5 h4n (pe 6 (show .b (!true)= .b false from rfl) (pt 17 h7 p0)))) ?_;exact zA (by rw[h3,h4,h7]<;>kernel_rfl)
  refine ru Qb [(12,.b false)] [5,8] [] [5,8] (pt 2 h3 (pt 5 h4n (pe 6 (show .b (!true)= .b false from rfl) (pf 17 h7 p0)))) ?_;exact zA (by rw[h3,h4,h7]<;>kernel_rfl)
 ·refine Xu ((((Qa Y)).2.2.1).1==(1:Int)) (λh8=> ?_) (λh8=> ?_)
  ·refine rn Qb [2,3,4,6,7,9,11,12] [3,9] (pf 2 h3 (pt 17 h8 p0)) ?_;exact zA (by rw[h3,h8]<;>kernel_rfl)
  refine ru Qb [(12,.b false)] [5,8] [] [5,8] (pf 2 h3 (pf 17 h8 p0)) ?_;exact zA (by rw[h3,h8]<;>kernel_rfl)
 refine Qc <| jn [(2,.b ((!(((Qs (((Qa Y)).1) (((Qa Y)).2.2.2) (((Qa Y)).2.2.1))).2.2))|| ((((Qa Y)).2.1==((Qa Y)).2.2.2)|| (decide (((Qa Y)).2.1<(0:Int))|| (decide (((Qa Y)).2.1>(2:Int))|| ((!(bif ((((Qa Y)).2.2.1).1==(2:Int)) then (bif (!((Vt ((((Qa Y)).1).1.1,(((Qa Y)).1).1.2.1,(((Qa Y)).1).1.2.2) ((((Qa Y)).2.2.1).2.1.1)).2.2.1)) then (!((((Qa Y)).2.2.1).2.1.2.2.1)) else (((((Qa Y)).2.2.1).1==(1:Int))&&(!((((Qa Y)).2.2.1).2.1.2.2.1)))) else (((((Qa Y)).2.2.1).1==(1:Int))&&(!((((Qa Y)).2.2.1).2.1.2.2.1)))))|| ((Z4 (((Qa Y)).1) (((Qa Y)).2.1) (((Qa Y)).2.2.1) (((Qa Y)).2.2.2))&&(Hy ((((Qa Y)).1).1.1,(((Qa Y)).1).1.2.1,(((Qa Y)).1).1.2.2) ((((Qs (((Qa Y)).1) (((Qa Y)).2.2.2) (((Qa Y)).2.2.1))).1).1.1,(((Qs (((Qa Y)).1) (((Qa Y)).2.2.2) (((Qa Y)).2.2.1))).1).1.2.1,(((Qs (((Qa Y)).1) (((Qa Y)).2.2.2) (((Qa Y)).2.2.1))).1).1.2.2) (((Qa Y)).2.1)))))))))] [2,3,4,6,7,9,11,12] [] [3,9] (!(((Qs (((Qa Y)).1) (((Qa Y)).2.2.2) (((Qa Y)).2.2.1))).2.2)) (λh9=> ?_) (λh9=> ?_) ?_
 ·have h9n:(((Qs (((Qa Y)).1) (((Qa Y)).2.2.2) (((Qa Y)).2.2.1))).2.2)=false:=Vj h9;refine rn Qb [2] [] (pf 0 h9n (pe 1 (show .b (!false)= .b true from rfl) p0)) ?_;exact zA (by rw[h9]<;>kernel_rfl)
 ·have h9n:(((Qs (((Qa Y)).1) (((Qa Y)).2.2.2) (((Qa Y)).2.2.1))).2.2)=true:=Za h9;refine Xu (((Qa Y)).2.1==((Qa Y)).2.2.2) (λh10=> ?_) (λh10=> ?_)
  ·refine rn Qb [2] [] (pt 0 h9n (pe 1 (show .b (!true)= .b false from rfl) (pt 5 h10 p0))) ?_;exact zA (by rw[h9,h10]<;>kernel_rfl)
  refine Xu (decide (((Qa Y)).2.1<(0:Int))) (λh11=> ?_) (λh11=> ?_)
  ·refine rn Qb [2] [] (pt 0 h9n (pe 1 (show .b (!true)= .b false from rfl) (pf 5 h10 (pt 9 h11 p0)))) ?_;exact zA (by rw[h9,h10,h11]<;>kernel_rfl)
  refine Xu (decide (((Qa Y)).2.1>(2:Int))) (λh12=> ?_) (λh12=> ?_)
  ·refine rn Qb [2] [] (pt 0 h9n (pe 1 (show .b (!true)= .b false from rfl) (pf 5 h10 (pf 9 h11 (pt 13 h12 p0))))) ?_;exact zA (by rw[h9,h10,h11,h12]<;>kernel_rfl)
  refine Xu (!(bif ((((Qa Y)).2.2.1).1==(2:Int)) then (bif (!((Vt ((((Qa Y)).1).1.1,(((Qa Y)).1).1.2.1,(((Qa Y)).1).1.2.2) ((((Qa Y)).2.2.1).2.1.1)).2.2.1)) then (!((((Qa Y)).2.2.1).2.1.2.2.1)) else (((((Qa Y)).2.2.1).1==(1:Int))&&(!((((Qa Y)).2.2.1).2.1.2.2.1)))) else (((((Qa Y)).2.2.1).1==(1:Int))&&(!((((Qa Y)).2.2.1).2.1.2.2.1))))) (λh13=> ?_) (λh13=> ?_)
  ·have h13n:(bif ((((Qa Y)).2.2.1).1==(2:Int)) then (bif (!((Vt ((((Qa Y)).1).1.1,(((Qa Y)).1).1.2.1,(((Qa Y)).1).1.2.2) ((((Qa Y)).2.2.1).2.1.1)).2.2.1)) then (!((((Qa Y)).2.2.1).2.1.2.2.1)) else (((((Qa Y)).2.2.1).1==(1:Int))&&(!((((Qa Y)).2.2.1).2.1.2.2.1)))) else (((((Qa Y)).2.2.1).1==(1:Int))&&(!((((Qa Y)).2.2.1).2.1.2.2.1))))=false:=Vj h13;refine rn Qb [2] [] (pt 0 h9n (pe 1 (show .b (!true)= .b false from rfl) (pf 5 h10 (pf 9 h11 (pf 13 h12 (pf 16 h13n (pe 17 (show .b (!false)= .b true from rfl) p0))))))) ?_;exact zA (by rw[h9,h10,h11,h12,h13]<;>kernel_rfl)
  have h13n:(bif ((((Qa Y)).2.2.1).1==(2:Int)) then (bif (!((Vt ((((Qa Y)).1).1.1,(((Qa Y)).1).1.2.1,(((Qa Y)).1).1.2.2) ((((Qa Y)).2.2.1).2.1.1)).2.2.1)) then (!((((Qa Y)).2.2.1).2.1.2.2.1)) else (((((Qa Y)).2.2.1).1==(1:Int))&&(!((((Qa Y)).2.2.1).2.1.2.2.1)))) else (((((Qa Y)).2.2.1).1==(1:Int))&&(!((((Qa Y)).2.2.1).2.1.2.2.1))))=true:=Za h13;refine Xu (Z4 (((Qa Y)).1) (((Qa Y)).2.1) (((Qa Y)).2.2.1) (((Qa Y)).2.2.2)) (λh14=> ?_) (λh14=> ?_)
  ·refine rn Qb [2] [] (pt 0 h9n (pe 1 (show .b (!true)= .b false from rfl) (pf 5 h10 (pf 9 h11 (pf 13 h12 (pt 16 h13n (pe 17 (show .b (!true)= .b false from rfl) (pt 20 h14 (pc 27 (JM ((((Qa Y)).1).1.1,(((Qa Y)).1).1.2.1,(((Qa Y)).1).1.2.2) ((((Qs (((Qa Y)).1) (((Qa Y)).2.2.2) (((Qa Y)).2.2.1))).1).1.1,(((Qs (((Qa Y)).1) (((Qa Y)).2.2.2) (((Qa Y)).2.2.1))).1).1.2.1,(((Qs (((Qa Y)).1) (((Qa Y)).2.2.2) (((Qa Y)).2.2.1))).1).1.2.2) (((Qa Y)).2.1)) p0))))))))) ?_;exact zA (by rw[h9,h10,h11,h12,h13,h14]<;>kernel_rfl)
  refine rn Qb [2] [] (pt 0 h9n (pe 1 (show .b (!true)= .b false from rfl) (pf 5 h10 (pf 9 h11 (pf 13 h12 (pt 16 h13n (pe 17 (show .b (!true)= .b false from rfl) (pf 20 h14 p0)))))))) ?_;exact zA (by rw[h9,h10,h11,h12,h13,h14]<;>kernel_rfl)
 exact Qe <| pb [] (Qi h1 (Qi h2 (rfl)))
theorem Pb (Y:List UInt8):E8 Y=true:=by
 unfold E8 Vt;cases BT Y with
 | true=>rfl
 | false =>
   generalize Qa Y=z;obtain ⟨c,u,x,w⟩:=z;have e:((c.1.1,c.1.2.1,c.1.2.2):Qz)=c.1:=rfl;have A:=QC c w x;dsimp only;rw[NP,beq_self_eq_true];simp only[cond_false,zN];have e2:(((Qs c w x).1.1.1,(Qs c w x).1.1.2.1,(Qs c w x).1.1.2.2):Qz)=(Q0 c w x).1.1:=by rw[A.cat]
   rw[e2,A.ok,e,UJ];cases hok:(Q0 c w x).2.2 with
   | false=>rfl
   | true =>
     cases hu:(u==w) with
     | true=>simp
     | false=>
       cases hP:(bif (x.1==(2:Int)) then (bif (!((Qn c.1 x.2.1.1).1.2.2.1)) then (!(x.2.1.2.2.1)) else ((x.1==(1:Int))&&(!(x.2.1.2.2.1)))) else ((x.1==(1:Int))&&(!(x.2.1.2.2.1)))) with
       | false=>simp
       | true=>
         obtain ⟨h1,h2⟩:=WV hok (NS hok (λe=>by rw[beq_eq_false_iff_ne] at hu;exact hu e) (Qbp hP));rw[h1,h2];simp
open GoD (rd own)
set_option maxRecDepth 1000000 in
theorem VF (w:World) (v:Value) (a:List UInt8) (h:rd w [v] a) (hbig:¬a.length<=1048576):Calls Tryz.prog 3 #[v] w (Ret w (.bool true)):=by
 obtain ⟨oa,cap,rfl⟩:=QI h;have hln:=Qc9 h;clear h;have hbi:1048576<(a.length:Int):=by omega
 go_enter Tryz.func3,Tryz.ntmps3
 go_wp2_with (first | (go_at_call 4;go_in))
 go_ret
 exact ⟨rfl,by go_grown⟩
theorem VG (w:World) (v:Value) (a:List UInt8) (h:rd w [v] a) (ht:tabOk w):Calls Tryz.prog 3 #[v] w (Ret w (.bool true)):=by
 by_cases hbig:a.length<=1048576
 . haveI:Good Tryz.prog w:=Good.one ht
   have hc:=(Sb a).run (.cons (Qjs h ⟨by omega,λ_ _=>trivial⟩) .nil);rw[Pb] at hc;exact hc.mono λ_ _ h=>Qf8 h
 exact VF w v a h hbig
end Go.Proofs.YtgmlioidliojkaaGreatDoor
