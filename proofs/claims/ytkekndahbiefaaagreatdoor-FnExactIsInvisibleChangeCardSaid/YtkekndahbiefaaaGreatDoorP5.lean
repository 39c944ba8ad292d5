/- Texts of this proof, put together by a program: Eva, Evb, Tw, Clr, Inr, Ins, Df, Eua, Eub, Enp, Wk, Vf, Cgs, Cga, Cgb, Cgc. -/
import Derived.Test.YtkekndahbiefaaaGreatDoorP4
import Derived.KernelRfl
import Derived.Laws.Externs
import Derived.Lib.AppendZerosOnto
import Derived.Deep.RegionLaw
set_option linter.unusedVariables false
set_option linter.unusedSimpArgs false
namespace Go.Proofs.YtkekndahbiefaaaGreatDoor
open Go.RowKit
open GoE (enc wide)
def L8 (_:Nat) (a0:Xw) (s0:(List ByteArray)):Rd ((List ByteArray)) ((List ByteArray)) ((List ByteArray)):=(.next (s0++ [a0.1]))
def L9 (_:Nat) (s0:(List ByteArray)):(List ByteArray):=s0
def X1 (d:(List Xw)):(List ByteArray):=(Out.on (Xp L8 L9 d 0 []) (fun y0=>y0))
theorem G3 (d:(List Xw)):ACalls Tryz.prog 134 [.h d] (.o 0 (X1 d)):=by
 refine en Qa Tryz.func134 fun w0 F0 hG=> ?_
 refine sn Qa [0,2] [] (p0) <| tn Qa [0,2,3] [] (p0) <| Qc <| tu Qa [(2, .e 0),(3, .one (.slc (.own true 384) 1 [])),(7, .h d),(8, .i (d.length:Int)),(9, .i 0)] [0] [] [] (pl 1 d p0) <| wT 7 0 .sh d (fun hw1 hl2=> ?_)
 refine XY L8 L9 d [] (fun k0 s0=> [(3, .o 147201 s0),(9, .i ((k0:Nat):Int))]) [3,9] (fun y0=> [(3, .o 147351 y0)]) [3,7,8,9] (fun k0 s0=>List.length s0<=k0) (Xl [(384,147201)] (by kernel_rfl)) (by simp) (fun k0 s0 hk0 hI0=> ?_) (fun k0 s0 hk0 hI0=> ?_) (fun y0 hD0=> ?_)
 ·
  have hA0_0:=hI0.2;obtain ⟨a0,hx0⟩:=Xh (l:=d) (i:=k0) hk0;refine sn Qa [2,3,7,8,9,10] [] (pe 0 (Qp (decide_eq_true (p:=((k0:Nat):Int)<(d.length:Int)) (by omega))) p0) <| Qc <| ckT <| Qf <| Qc <| Qu <| tn Qa [2,3,5,7,8,9] [5] (pn 0 hx0 p0) <| wT 3 0 (.own true 147201) s0 (fun hw3 hl4=> ?_)
  refine qu Qa [(3, .one (.slc (.own true 1088) 1 ((eL s0)++ [[.s a0.1]])))] [3] [] [] (pa s0 [a0.1] p0) ?_;refine eqn [(3, .o 1088 (s0++ [a0.1]))] [3] [] [] (by rw[show ((eL s0)++ [[.s a0.1]])=(eL (s0++ [a0.1])) from Ks (rfl) (rfl)];first | done | kernel_rfl) ?_;refine rn Qa [2,3,7,8,9] [] (pe 0 (Jh (Ql k0 (by omega))) p0) ?_;exact Exists.intro (s0++ [a0.1]) (And.intro (Xl [(1088,147201)] (by kernel_rfl)) ⟨Qr hx0 (rfl) hI0.1,by first | omega | (simp;omega) | simp⟩)
 ·
  have hA0_0:=hI0.2;exact sn Qa [2,3,7,8,9,10] [] (pe 0 (Qp (decide_eq_false (p:=((k0:Nat):Int)<(d.length:Int)) (by omega))) p0) <| Qc <| ckF <| Q2 <| Exists.intro _ (And.intro (Xl [(147201,147351)] (by kernel_rfl)) (Xi hk0 (rfl) hI0.1))
 exact sn Qa [2] [] (p0) <| Qg <| po0 [] (Wj hD0 (rfl))
def Ua (v:ByteArray) (k0:Nat) (a0:ByteArray) (_:Unit):Rd (Int) (Unit) (Unit):=(bif (v.toList==a0.toList) then (.ret ((k0:Nat):Int)) else (.next ()))
def Ab (_:Nat) (_:Unit):Unit:=()
def B0 (s_:(List ByteArray)) (v:ByteArray):Int:=(Out.on (Xp (Ua v) Ab s_ 0 ()) (fun _=> -1))
theorem Ro (s_:(List ByteArray)) (v:ByteArray):ACalls Tryz.prog 212 [.h s_, .s v] (.i (B0 s_ v)):=by
 refine en Qa Tryz.func212 fun w0 F0 hG=> ?_
 refine sn Qa [0,1,4] [] (p0) <| Qc <| tn Qa [0,1,4,7,8] [] (pl 1 s_ p0) <| mz [(4, .i 0),(7, .i (s_.length:Int)),(8, .i 0)] [] [] [] <| wT 0 0 .sh s_ (fun hw1 hl2=> ?_)
 refine Ox (Ua v) Ab s_ () (fun k0 _=> [(8, .i ((k0:Nat):Int))]) [8] (fun _=> []) [0,1,7,8] wf0 (fun k0 s0 hk0 hI0=> ?_) (fun k0 s0 hk0 hI0=> ?_) (fun y0 hD0=> ?_)
 ·
  obtain ⟨a0,hx0⟩:=Xh (l:=s_) (i:=k0) hk0;refine sn Qa [0,1,4,7,8,9] [] (pe 0 (Qp (decide_eq_true (p:=((k0:Nat):Int)<(s_.length:Int)) (by omega))) p0) <| Qc <| ckT <| Qf <| Qc <| Qu <| tn Qa [0,1,4,5,7,8] [] (p0) <| tu Qa [(5, .i ((k0:Nat):Int)),(16, .b (v.toList==a0.toList))] [] [] [] (pn 3 hx0 p0) <| ck (v.toList==a0.toList) (fun h3=> ?_) (fun h3=> ?_)
  ·
   refine sn Qa [0,1,4,7,8] [] (p0) <| Qg ?_
   have hr4:(Xp (Ua v) Ab s_ 0 ())= .ret ((k0:Nat):Int):=Jg hx0 (Xf h3 (rfl)) hI0;exact pi [] (Oa hr4)
  refine Qf <| rn Qa [0,1,4,7,8] [] (pe 0 (Jh (Ql k0 (by omega))) p0) ?_
  exact xw _ (Qr hx0 (Qs h3 (rfl)) hI0)
 ·
  exact sn Qa [0,1,4,7,8,9] [] (pe 0 (Qp (decide_eq_false (p:=((k0:Nat):Int)<(s_.length:Int)) (by omega))) p0) <| Qc <| ckF <| Q2 <| xw _ (Xi hk0 (rfl) hI0)
 exact sn Qa [4] [] (p0) <| Qg <| pi [] (Wj hD0 (rfl))
def Qm (s_:(List ByteArray)) (v:ByteArray):Bool:=decide ((B0 s_ v)>=(0:Int))
theorem Vf (s_:(List ByteArray)) (v:ByteArray):ACalls Tryz.prog 149 [.h s_, .s v] (.b (Qm s_ v)):=by
 refine en Qa Tryz.func149 fun w0 F0 hG=> ?_
 exact sn Qa [0,1,4] [] (p0) <| tn Qa [4] [] (pc 2 (Ro s_ v) p0) <| Qg <| pb [] (show Qm s_ v=decide ((B0 s_ v)>=(0:Int)) from rfl)
def H3 (x:(List Int)) (k0:Nat) (s0:Int):Rd (Int) (Int) (Int):=(.next (max s0 (nth x (k0+1))))
def D0 (_:Nat) (s0:Int):Int:=s0
def Lc (x:(List Int)):Int:=(Out.on (Wu (H3 x) D0 (x.length-1) 0 (nth x 0)) (fun y0=>y0))
theorem WC (x:(List Int)) (hp:0<x.length):ACalls Tryz.prog 278 [.h x] (.i (Lc x)):=by
 refine en Qa Tryz.func278 fun w0 F0 hG=> ?_
 refine sn Qa [0,2] [] (p0) <| Qc <| tn Qa [0,2,7] [] (pl 1 x (pe 2 (show .b (decide ((x.length:Int)<(1:Int)))= .b false from Qp (decide_eq_false (by omega))) p0)) <| ckF <| Qf <| wT 0 0 .sh x (fun hw2 hl3=> ?_)
 have hx1:=ng x 0;refine tu Qa [(2, .i 0),(3, .i (nth x 0))] [] [] [] (pg 1 0 hx1 p0) <| Qc <| sn Qa [0,2,3,4] [] (p0) <| mz [(4, .i 1)] [] [] [] <| Qkv (H3 x) D0 (x.length-1) (nth x 0) (fun k0 s0=> [(3, .i s0),(4, .i ((k0+1:Nat):Int))]) [3,4] (fun y0=> [(3, .i y0)]) [0,3,4] wf0 (fun k0 s0 hk0 hI0=> ?_) (fun k0 s0 hk0 hI0=> ?_) (fun y0 hD0=> ?_)
 ·
  refine Qc <| sn Qa [0,2,3,4,15] [] (pl 2 x (pe 3 (Qp (decide_eq_true (p:=((k0+1:Nat):Int)<(x.length:Int)) (by omega))) p0)) <| ckT <| Qf <| Qc <| Qu ?_
  have hx4:=ng x (k0+1);refine qn Qa [0,2,3,4] [] (pg 3 ((k0+1:Nat):Int) hx4 p0) ?_;refine qu Qa [(3, .i (max s0 (nth x (k0+1)))),(4, .i ((k0+2:Nat):Int))] [3,4] [] [] (pe 1 (show .i (IntKind.i64.wrap (((k0+1:Nat):Int)+1))= .i ((k0+2:Nat):Int) from Jh ((IntWalk.i64_in _ (by omega)).trans (by omega))) p0) ?_;exact xw _ (Vi hk0 (rfl) hI0)
 ·
  exact Qc <| sn Qa [0,2,3,4,15] [] (pl 2 x (pe 3 (Qp (decide_eq_false (p:=((k0+1:Nat):Int)<(x.length:Int)) (by omega))) p0)) <| ckF <| Q2 <| xw _ (Cw hk0 (rfl) hI0)
 exact sn Qa [2] [] (p0) <| Qg <| pi [] (Wj hD0 (rfl))
def Va (d:(List Xw)):Int:=(bif ((!(((Qt d)).2))|| (((((Qt d)).1).length:Int)==(0:Int))) then-1 else (Lc (((Qt d)).1)))
theorem O0 (d:(List Xw)):ACalls Tryz.prog 240 [.h d] (.i (Va d)):=by
 refine en Qa Tryz.func240 fun w0 F0 hG=> ?_
 refine sn Qa [0,2] [] (p0) <| tn Qa [2,3,4] [] (pc 1 (Pq d) p0) <| Qc <| Qc <| mz [(2, .i 0),(3, .o 448 (((Qt d)).1)),(4, .b (((Qt d)).2))] [0] [] [] <| jn [(16, .b ((!(((Qt d)).2))|| (((((Qt d)).1).length:Int)==(0:Int))))] [4] [] [] (!(((Qt d)).2)) (fun h1=> ?_) (fun h1=> ?_) ?_
 ·
  have h1n:(((Qt d)).2)=false:=Vd h1;refine rn Qa [2,3,16] [] (pf 0 h1n (pe 1 (show .b (!false)= .b true from rfl) p0)) ?_;exact ⟨rfl,Qd (by rw[h1]<;>kernel_rfl)⟩
 ·
  have h1n:(((Qt d)).2)=true:=Y3 h1;refine rn Qa [2,3,16] [] (pt 0 h1n (pe 1 (show .b (!true)= .b false from rfl) (pl 4 (((Qt d)).1) p0))) ?_;exact ⟨rfl,Qd (by rw[h1]<;>kernel_rfl)⟩
 refine ck ((!(((Qt d)).2))|| (((((Qt d)).1).length:Int)==(0:Int))) (fun h2=> ?_) (fun h2=> ?_)
 ·
  exact sn Qa [2,3] [] (p0) <| Qg <| pi [] (Xf h2 (rfl))
 have h2l:((!(((Qt d)).2)))=false:=Rc h2;have h2ln:(((Qt d)).2)=true:=Y3 h2l;have h2r:((((((Qt d)).1).length:Int)==(0:Int)))=false:=Re h2;have h2rd:=Z2 h2r;exact Qf <| sn Qa [2] [] (pc 1 (WC (((Qt d)).1) (by first | omega | (simp_all;omega))) p0) <| Qg <| pi [] (Qs h2 (rfl))
def Ac (s2_:(List Int)) (k0:Nat) (a0:Int) (_:Unit):Rd (Bool) (Unit) (Unit):=(bif (a0 !=(nth s2_ k0)) then (.ret false) else (.next ()))
def B1 (_:Nat) (_:Unit):Unit:=()
def Kj (s1_:(List Int)) (s2_:(List Int)):Bool:=(bif ((s1_.length:Int) !=(s2_.length:Int)) then false else (Out.on (Xp (Ac s2_) B1 s1_ 0 ()) (fun _=>true)))
theorem Ns (s1_:(List Int)) (s2_:(List Int)):ACalls Tryz.prog 191 [.h s1_, .h s2_] (.b (Kj s1_ s2_)):=by
 refine en Qa Tryz.func191 fun w0 F0 hG=> ?_
 refine sn Qa [0,1,4] [] (p0) <| Qc <| tn Qa [0,1,4,10] [] (pl 1 s1_ (pl 3 s2_ p0)) <| ck ((s1_.length:Int) !=(s2_.length:Int)) (fun h1=> ?_) (fun h1=> ?_)
 ·
  exact tu Qa [(4, .b false)] [] [] [] (p0) <| Qg <| pb [] (Xf h1 (rfl))
 have h1d:=Wt h1;refine Qf <| Qc <| tu Qa [(4, .b false),(12, .i (s1_.length:Int)),(13, .i 0)] [] [] [] (pl 1 s1_ p0) <| wT 0 0 .sh s1_ (fun hw2 hl3=> ?_)
 refine Ox (Ac s2_) B1 s1_ () (fun k0 _=> [(13, .i ((k0:Nat):Int))]) [13] (fun _=> []) [0,1,12,13] wf0 (fun k0 s0 hk0 hI0=> ?_) (fun k0 s0 hk0 hI0=> ?_) (fun y0 hD0=> ?_)
 ·
  obtain ⟨a0,hx0⟩:=Xh (l:=s1_) (i:=k0) hk0;refine su Qa [(14, .b true)] [] [] [] (pe 0 (Qp (decide_eq_true (p:=((k0:Nat):Int)<(s1_.length:Int)) (by omega))) p0) <| Qc <| ckT <| Qf <| Qc <| Qu <| sn Qa [0,1,4,5,12,13] [] (p0) <| wT 1 0 .sh s2_ (fun hw5 hl6=> ?_)
  have hx4:=ng s2_ k0;refine tN Qa Zh [0,1,4,12,13,24] [] (pn 2 hx0 (pn 6 hx4 p0)) <| ck (a0 !=(nth s2_ k0)) (fun h7=> ?_) (fun h7=> ?_)
  ·
   refine tu Qa [] [14] [] [] (p0) <| Qg ?_
   have hr8:(Xp (Ac s2_) B1 s1_ 0 ())= .ret false:=Jg hx0 (Xf h7 (rfl)) hI0;exact pb [] (Qs h1 (Oa hr8))
  have h7d:=Wt h7;refine Qf <| qu Qa [(13, .i ((k0+1:Nat):Int))] [13,14] [] [] (pe 0 (Jh (Ql k0 (by omega))) p0) ?_
  exact xw _ (Qr hx0 (Qs h7 (rfl)) hI0)
 ·
  exact sn Qa [0,1,4,12,13,14] [] (pe 0 (Qp (decide_eq_false (p:=((k0:Nat):Int)<(s1_.length:Int)) (by omega))) p0) <| Qc <| ckF <| Q2 <| xw _ (Xi hk0 (rfl) hI0)
 exact sn Qa [4] [] (p0) <| Qg <| pb [] (Qs h1 (Wj hD0 (rfl)))
def Jn (r:(List Qh)) (names:(List ByteArray)) (_:Nat) (a0:Xw) (s0:(List Qh)):Rd ((List Qh)×Int×Bool) ((List Qh)) ((List Qh)):=(bif (!(Qm names a0.1)) then (.next (s0++ [(a0.1,(Q9 r a0.1))])) else (.next (s0++ [((a0.1, []):Qh)])))
def Kk (_:Nat) (s0:(List Qh)):(List Qh):=s0
def Wn (s_:Qz) (d:(List Xw)) (names:(List ByteArray)) (k1:Nat) (k3:Nat) (a3:Xw) (s3:(List Qh)×Bool):Rd (Rd (Rd ((List Qh)×Int×Bool) ((List Qh)×Int) ((List Qh)×Int)) ((List Qh)×Int×Bool) ((List Qh)×Int)) ((List Qh)×Bool) ((List Qh)×Bool):=(bif (((nth (((Qt d)).1) k3) !=((k1:Nat):Int))|| (!(Qm names a3.1))) then (.next (s3.1,s3.2)) else (bif (!(Kj (Zg s_ a3.2 s3.1) ((nth s3.1 k3).2))) then (.next (List.set s3.1 k3 ((nth s3.1 k3).1,(Zg s_ a3.2 s3.1)),true)) else (.next (s3.1,s3.2))))
def Bk (_:Nat) (s3:(List Qh)×Bool):(List Qh)×Bool:=(s3.1,s3.2)
def Kl (s_:Qz) (d:(List Xw)) (names:(List ByteArray)) (k1:Nat) (s2:(List Qh)×Int×Bool):Rd (Rd ((List Qh)×Int×Bool) ((List Qh)×Int) ((List Qh)×Int)) ((List Qh)×Int×Bool) ((List Qh)×Int):=(bif s2.2.2 then (Out.on (Xp (Wn s_ d names k1) Bk d 0 (s2.1,false)) (fun y3=>(.next (y3.1,IntKind.i64.wrap (s2.2.1+1),y3.2)))) else (.brk (s2.1,s2.2.1)))
def Vb (s_:Qz) (d:(List Xw)) (names:(List ByteArray)) (k1:Nat) (s1:(List Qh)×Int):Rd ((List Qh)×Int×Bool) ((List Qh)×Int) ((List Qh)×Int):=(Out.on (Nj (Kl s_ d names k1) (List.length d*List.length s_.2.1+2) (s1.1,s1.2,true)) (fun y2=>(.next (y2.1,y2.2))))
def Bl (_:Nat) (s1:(List Qh)×Int):(List Qh)×Int:=(s1.1,s1.2)
def Yn (s_:Qz) (d:(List Xw)) (r:(List Qh)) (names:(List ByteArray)):(List Qh)×Int×Bool:=(bif ((!(((Qt d)).2))|| (!(Qq s_))) then ([],0,false) else (Out.on (Xp (Jn r names) Kk d 0 []) (fun y0=>(Out.on (Wu (Vb s_ d names) Bl (Int.toNat ((Va d)+1)) 0 (y0,0)) (fun y1=>(y1.1,y1.2,true))))))
theorem Qha {B:Int} {x:List Int} (hx:∀a,a∈x->a<=B) (hB:0<=B):∀(n k:Nat) (s:Int),s<=B->∃t,Wu (H3 x) D0 n k s= .brk t/\t<=B
 | 0,k,s,h=>⟨s,rfl,h⟩
 | n +1,k,s,h=>by
   obtain ⟨t,h1,h2⟩:=Qha hx hB n (k+1) (max s (nth x (k+1))) (by
    by_cases hk:k+1<x.length
    . have:=hx _ (LU hk);omega
    rw[S4 (by omega)];omega)
   exact ⟨t,by simp only[Wu,H3];exact h1,h2⟩
theorem QM {d:List Xw} (h:((Qt d)).2=true):List.length ((Qt d)).1=List.length d/\List.length d<=5/\Va d<=5:=by
 obtain ⟨h1,h2,h3⟩:=Ex h;refine ⟨h1,h2, ?_⟩;unfold Va;rw[h];simp only[Bool.not_true,Bool.false_or];cases hl:(((((Qt d)).1).length:Int)==(0:Int)) with
 | true=>simp only[cond_true];omega
 | false=>
  simp only[cond_false];have hp:0<(((Qt d)).1).length:=by have:=Z2 hl;omega
  unfold Lc;obtain ⟨t,e,ht⟩:=Qha (B:=5) (x:=((Qt d)).1) (fun a ha=>(h3 a ha).2) (by omega) ((((Qt d)).1).length-1) 0 (nth ((Qt d)).1 0) (h3 _ (LU hp)).2;rw[e];exact ht
theorem Qhb (b:List Int):∀(l:List Int) (k:Nat),l.length=(b.drop k).length->Out.on (Xp (Ac b) B1 l k ()) (fun _=>true)=decide (l=b.drop k)
 | [],k,h=>by
   have:b.drop k= []:=List.eq_nil_of_length_eq_zero (by rw[←h];rfl);rw[this];rfl
 | a ::l,k,h=>by
   have hk:k<b.length:=by simp only[List.length_cons,List.length_drop] at h;omega
   have hd:b.drop k=nth b k::b.drop (k+1):=by
    rw[List.drop_eq_getElem_cons hk,show nth b k=b[k] by simp[nth,List.getD,hk]]
   rw[hd] at h⊢;simp only[Xp,Ac];by_cases e:a=nth b k
   . rw[show (a !=nth b k)=false by simp[e],cond_false,Qhb b l (k+1) (by simpa using h)];simp[e]
   rw[show (a !=nth b k)=true by simp[e],cond_true];simp[e,Out.on]
theorem Qj9 (a b:List Int) (h:a.length=b.length):Kj a b=decide (a=b):=by
 unfold Kj;rw[show ((a.length:Int) !=(b.length:Int))=false by simp[h],cond_false,Qhb b a 0 (by simpa using h),List.drop_zero]
theorem MA (a b:List Int):Kj a b=decide (a=b):=by
 by_cases h:a.length=b.length
 . exact Qj9 a b h
 have hb:((a.length:Int) !=(b.length:Int))=true:=by simpa using fun e:(a.length:Int)=(b.length:Int)=>h (by omega)
 unfold Kj;rw[hb,decide_eq_false (fun e=>h (congrArg List.length e))];rfl
def onD (d:List Xw) (names:List ByteArray) (j:Nat):Bool:=Qm names (nth d j).1
theorem R1 (s_:Qz) (d:List Xw) (names:List ByteArray) (k1:Nat):Qb3 s_ d (Qt d).1 (onD d names) (k1:Int) (Wn s_ d names k1):=by
 intro k a o c hk;have ha:nth d k=a:=Ow hk;unfold Wn FW onD;rw[ha,MA];simp only[bne];cases (nth (Qt d).1 k==(k1:Int))<;>cases Qm names a.1<;>rfl
section
variable {s_:Qz} {d:List Xw} {names:List ByteArray} {k1:Nat} {o:List Qh} {p:Int}
theorem Cz (hS:((Qt d)).2=true) (h:EvS d ((Qt d)).1 (onD d names) s_.2.1 (k1:Int) o):∃o' p',whl (Kl s_ d names k1) (List.length d*List.length s_.2.1+2) (o,p,true)=some (.brk (o',p'))/\EvS d ((Qt d)).1 (onD d names) s_.2.1 ((k1:Int)+1) o':=
 Qg9 (f:=Wn s_ d names k1) (e:=Bk) (R1 s_ d names k1) (fun _ _=>rfl) (fun _=>rfl) (Prod.ext rfl hS) h p
theorem MB (hS:((Qt d)).2=true) (h:EvS d ((Qt d)).1 (onD d names) s_.2.1 (((k1:Nat)):Int) o):(whl (Kl s_ d names k1) (List.length d*List.length s_.2.1+2) (o,p,true)).isSome=true:=by
 obtain ⟨o',p',h1,_⟩:=Cz (p:=p) hS h;rw[h1];rfl
theorem G4 {y:List Qh×Int} (hS:((Qt d)).2=true) (h:EvS d ((Qt d)).1 (onD d names) s_.2.1 (((k1:Nat)):Int) o) (hy:Nj (Kl s_ d names k1) (List.length d*List.length s_.2.1+2) (o,p,true)= .brk y):EvS d ((Qt d)).1 (onD d names) s_.2.1 ((((k1+1):Nat)):Int) y.1:=by
 obtain ⟨o',p',h1,h2⟩:=Cz (p:=p) hS h;unfold Nj at hy;rw[h1] at hy;have e:(o',p')=y:=by simpa using hy
 rw[←e,Int.natCast_add];exact h2
def Ey (r:List Qh) (names:List ByteArray) (a:Xw):List Int:=bif (!(Qm names a.1)) then (Q9 r a.1) else []
theorem Ub {r:List Qh} (hy:Xp (Jn r names) Kk d 0 []= .brk o):EvS d ((Qt d)).1 (onD d names) s_.2.1 (((0:Nat)):Int) o:=by
 obtain ⟨h1,h2⟩:=Ol (L:=((Qt d)).1) (on:=onD d names) (fs:=s_.2.1) (g:=Ey r names) (f:=Jn r names) (e:=Kk) (d:=d) (fun k a s=>by
  unfold Jn Ey;cases Qm names a.1<;>rfl) (fun j _ hj=>by unfold onD at hj;unfold Ey;rw[hj];rfl)
 rw[h1] at hy;have e:(d.map fun a=>((a.1,Ey r names a):Qh))=o:=Out.brk.inj hy;rw[←e];exact h2
end
theorem Ps (s_:Qz) (d:(List Xw)) (r:(List Qh)) (names:(List ByteArray)):ACalls Tryz.prog 188 [.a [.h s_.1, .h s_.2.1, .i s_.2.2], .h d, .h r, .h names] (.tup [(false, [.o 0 (((Yn s_ d r names)).1)]),(false, [.i (((Yn s_ d r names)).2.1)]),(false, [.b (((Yn s_ d r names)).2.2)])]):=by
 refine en Qa Tryz.func188 fun w0 F0 hG=> ?_
 refine sn Qa [1,2,3,4,8,9,10] [4] (p0) <| tn Qa [1,2,3,4,8,9,10,11,12] [4] (pc 1 (Pq d) p0) <| Qc <| Qc <| mz [(4, .p 4 0),(8, .e 0),(9, .i 0),(10, .b false),(11, .o 1600 (((Qt d)).1)),(12, .b (((Qt d)).2))] [0] [(4, [.h s_.1, .h s_.2.1, .i s_.2.2])] [] <| jn [(34, .b ((!(((Qt d)).2))|| (!(Qq s_))))] [12] [] [] (!(((Qt d)).2)) (fun h1=> ?_) (fun h1=> ?_) ?_
 ·
  have h1n:(((Qt d)).2)=false:=Vd h1;refine ru Qa [(34, .b true)] [12] [] [] (pf 0 h1n (pe 1 (show .b (!false)= .b true from rfl) p0)) ?_;exact ⟨rfl,Qd (by rw[h1]<;>kernel_rfl)⟩
 ·
  have h1n:(((Qt d)).2)=true:=Y3 h1;have h1nsf:=QM h1n;refine rn Qa [1,2,3,4,8,9,10,11,34] [4] (pt 0 h1n (pe 1 (show .b (!true)= .b false from rfl) (pc 4 (Jp s_) p0))) ?_;exact ⟨rfl,Qd (by rw[h1]<;>kernel_rfl)⟩
 refine ck ((!(((Qt d)).2))|| (!(Qq s_))) (fun h2=> ?_) (fun h2=> ?_)
 ·
  refine su Qa [] [34] [] [] (p0) <| opn [(false,8,0,true,384000,2)] ?_
  exact Qg <| pz [] (show Yn s_ d r names=_ from Xf h2 (rfl)) (fun z=> .tup [(false, [.o 0 z.1]),(false, [.i z.2.1]),(false, [.b z.2.2])])
 have h2l:((!(((Qt d)).2)))=false:=Rc h2;have h2ln:(((Qt d)).2)=true:=Y3 h2l;have h2lnsf:=QM h2ln;have h2r:((!(Qq s_)))=false:=Re h2;have h2rn:(Qq s_)=true:=Y3 h2r;refine Qf <| sn Qa [1,2,3,4,8,9,10,11,13] [4] (p0) <| Qc <| tn Qa [1,2,3,4,8,9,10,11,13,36,37,38] [4] (pl 1 d p0) <| mz [(13, .one (.slc (.own true 2240) 2 [])),(36, .h d),(37, .i (d.length:Int)),(38, .i 0)] [34] [] [] <| wT 1 0 .sh d (fun hw3 hl4=> ?_)
 refine XY (Jn r names) Kk d [] (fun k0 s0=> [(13, .o 147208 s0),(38, .i ((k0:Nat):Int))]) [13,38] (fun y0=> [(13, .o 147358 y0)]) [2,13,36,37,38] (fun k0 s0=>List.length s0<=k0) (Xl [(2240,147208)] (by kernel_rfl)) (by simp) (fun k0 s0 hk0 hI0=> ?_) (fun k0 s0 hk0 hI0=> ?_) (fun y0 hD0=> ?_)
 ·
  have hA0_0:=hI0.2;obtain ⟨a0,hx0⟩:=Xh (l:=d) (i:=k0) hk0;refine su Qa [(39, .b true)] [] [] [] (pe 0 (Qp (decide_eq_true (p:=((k0:Nat):Int)<(d.length:Int)) (by omega))) p0) <| Qc <| ckT <| Qf <| Qc <| Qu <| su Qa [(15, .p 15 0)] [39] [(15, [.s a0.1, .h a0.2])] [] (pn 0 hx0 p0) <| su Qa [(16, .p 16 0)] [] [(16, [.s a0.1, .e 1])] [] (p0) <| Qc <| su Qa [(49, .b (!(Qm names a0.1)))] [] [] [] (pc 3 (Vf names a0.1) p0) <| ck (!(Qm names a0.1)) (fun h5=> ?_) (fun h5=> ?_)
  ·
   have h5n:(Qm names a0.1)=false:=Vd h5;refine rn Qa [1,2,3,4,8,9,10,11,13,16,36,37,38] [4,16] (pc 3 (Cj r a0.1) p0) ?_;refine wT 13 0 (.own true 147208) s0 (fun hw6 hl7=> ?_);refine qu Qa [(13, .one (.slc (.own true 3712) 2 ((eL s0)++ [[.s a0.1, .h (Q9 r a0.1)]])))] [13,15,16,49] [] [15,16] (pa s0 [(a0.1,(Q9 r a0.1))] p0) ?_;refine eqn [(13, .o 3712 (s0++ [(a0.1,(Q9 r a0.1))]))] [13] [] [] (by rw[show ((eL s0)++ [[.s a0.1, .h (Q9 r a0.1)]])=(eL (s0++ [(a0.1,(Q9 r a0.1))])) from Ks (rfl) (rfl)];first | done | kernel_rfl) ?_;refine ru Qa [(38, .i ((k0+1:Nat):Int))] [38] [] [] (pe 0 (Jh (Ql k0 (by omega))) p0) ?_;exact Exists.intro (s0++ [(a0.1,(Q9 r a0.1))]) (And.intro (Xl [(3712,147208)] (by kernel_rfl)) ⟨Qr hx0 (Xf h5 (rfl)) hI0.1,by first | omega | (simp;omega) | simp⟩)
  have h5n:(Qm names a0.1)=true:=Y3 h5;refine Qf <| wT 13 0 (.own true 147208) s0 (fun hw8 hl9=> ?_)
  refine ru Qa [(13, .one (.slc (.own true 3712) 2 ((eL s0)++ [[.s a0.1, .slc 1 []]])))] [13,15,16,49] [] [15,16] (pa s0 [((a0.1, []):Qh)] p0) ?_;refine eqn [(13, .o 3712 (s0++ [((a0.1, []):Qh)]))] [13] [] [] (by rw[show ((eL s0)++ [[.s a0.1, .slc 1 []]])=(eL (s0++ [((a0.1, []):Qh)])) from Ks (rfl) (rfl)];first | done | kernel_rfl) ?_;refine ru Qa [(38, .i ((k0+1:Nat):Int))] [38] [] [] (pe 0 (Jh (Ql k0 (by omega))) p0) ?_;exact Exists.intro (s0++ [((a0.1, []):Qh)]) (And.intro (Xl [(3712,147208)] (by kernel_rfl)) ⟨Qr hx0 (Qs h5 (rfl)) hI0.1,by first | omega | (simp;omega) | simp⟩)
 ·
  have hA0_0:=hI0.2;exact su Qa [(39, .b false)] [] [] [] (pe 0 (Qp (decide_eq_false (p:=((k0:Nat):Int)<(d.length:Int)) (by omega))) p0) <| Qc <| ckF <| Q2 <| Exists.intro _ (And.intro (Xl [(147208,147358)] (by kernel_rfl)) (Xi hk0 (rfl) hI0.1))
 refine su Qa [(17, .i 0)] [] [] [] (p0) <| Qc <| su Qa [(18, .i 0)] [] [] [] (p0) <| Qeo (Vb s_ d names) Bl (Int.toNat ((Va d)+1)) (y0,0) (fun k1 s1=> [(13, .o 147358 s1.1),(17, .i s1.2),(18, .i ((k1:Nat):Int))]) [13,17,18] (fun _ _=> []) [] (fun y1=> [(13, .o 147358 y1.1),(17, .i y1.2)]) [1,3,4,11,13,17,18] (fun _=> []) [4] (fun k1 s1=>EvS d ((Qt d)).1 (onD d names) s_.2.1 (((k1:Nat)):Int) s1.1/\List.length s1.1=List.length d) wf0 ⟨(by first | exact Ub hD0 | exact Ub hD0.1 | exact Br (fs:=s_.2.1) (Ub hD0) | exact Br (fs:=s_.2.1) (Ub hD0.1)),(by first | exact Ub hD0 | exact Ub hD0.1 | exact Br (fs:=s_.2.1) (Ub hD0) | exact Br (fs:=s_.2.1) (Ub hD0.1))⟩ (fun k1 s1 hk1 hI1=> ?_) (fun k1 s1 hk1 hI1=> ?_) (fun y1 hD1=> ?_)
 ·
  have hA1_0:=hI1.2.1;have hA1_1:=hI1.2.2;refine Qc <| su Qa [(63, .b true)] [] [] [] (pc 2 (O0 d) (pe 3 (Qp (decide_eq_true (p:=((k1:Nat):Int)<=(Va d)) (by omega))) p0)) <| ckT <| Qf <| Qc <| Qu <| su Qa [(19, .b true)] [63] [] [] (p0) <| blw (fun (s2:(List Qh)×Int×Bool)=> [(13, .o 147358 s2.1),(17, .i s2.2.1),(19, .b s2.2.2)]) [13,17,19] (fun s2=> []) [] (fun (y2:(List Qh)×Int)=> [(13, .o 147358 y2.1),(17, .i y2.2)]) [13,17,19] (fun y2=> []) [] (fun (k2:Nat) (s2:(List Qh)×Int×Bool)=>whl (Kl s_ d names k1) k2 s2=some (Nj (Kl s_ d names k1) (List.length d*List.length s_.2.1+2) (s1.1,s1.2,true))/\List.length s2.1=List.length d) (fun (y2:(List Qh)×Int)=>(Nj (Kl s_ d names k1) (List.length d*List.length s_.2.1+2) (s1.1,s1.2,true))= .brk y2) (List.length d*List.length s_.2.1+2) (s1.1,s1.2,true) wf0 ⟨Oc (MB (by assumption) (by assumption)),(by assumption)⟩ (fun _ h=>P9 h.1) (fun k2 s2 hI2=> ?_) (fun y2 hD2=> ?_)
  ·
   have hA2_0:=hI2.2;refine Qc <| su Qa [(66, .b s2.2.2)] [] [] [] (p0) <| ck s2.2.2 (fun h10=> ?_) (fun h10=> ?_)
   ·
    refine Qf <| Qu <| su Qa [(19, .b false)] [19,66] [] [] (p0) <| sn Qa [1,3,4,8,9,10,11,13,17,18,19] [4] (p0) <| tn Qa [1,3,4,8,9,10,11,13,17,18,19,69,70,71] [4] (pl 1 d p0) <| mz [(17, .i (IntKind.i64.wrap (s2.2.1+1))),(69, .h d),(70, .i (d.length:Int)),(71, .i 0)] [17] [] [] <| Qa5 (Wn s_ d names k1) Bk d (s2.1,false) (fun k3 s3=> [(13, .o 147358 s3.1),(19, .b s3.2),(71, .i ((k3:Nat):Int))]) [13,19,71] (fun y3=> [(13, .o 147358 y3.1),(19, .b y3.2)]) [13,19,69,70,71] (fun _ s3=>List.length s3.1=List.length s2.1) (fun y3=>List.length y3.1=List.length s2.1) wf0 (by simp) (fun k3 s3 hk3 hI3=> ?_) (fun k3 s3 hk3 hI3=> ?_) (fun y3 hD3=> ?_)
    ·
     have hA3_0:=hI3.2;obtain ⟨a3,hx3⟩:=Xh (l:=d) (i:=k3) hk3;refine su Qa [(72, .b true)] [] [] [] (pe 0 (Qp (decide_eq_true (p:=((k3:Nat):Int)<(d.length:Int)) (by omega))) p0) <| Qc <| ckT <| Qf <| Qc <| Qu <| sn Qa [1,3,4,8,9,10,11,13,17,18,19,20,21,69,70,71] [4,21] (pn 1 hx3 p0) <| Qc <| Qc <| mz [(20, .i ((k3:Nat):Int)),(21, .p 21 0)] [72] [(21, [.s a3.1, .h a3.2])] [] <| jn [(88, .b (((nth (((Qt d)).1) k3) !=((k1:Nat):Int))|| (!(Qm names a3.1))))] [] [] [] ((nth (((Qt d)).1) k3) !=((k1:Nat):Int)) (fun h11=> ?_) (fun h11=> ?_) ?_
     ·
      have h11d:=T2 h11;refine wT 11 0 (.own true 1600) (((Qt d)).1) (fun hw13 hl14=> ?_);have hx12:=ng (((Qt d)).1) k3;refine ru Qa [(88, .b true)] [] [] [] (pN 2 hx12 (pt 5 h11 p0)) ?_;exact ⟨rfl,Qd (by rw[h11]<;>kernel_rfl)⟩
     ·
      have h11d:=Wt h11;refine wT 11 0 (.own true 1600) (((Qt d)).1) (fun hw16 hl17=> ?_);have hx15:=ng (((Qt d)).1) k3;refine ru Qa [(88, .b (!(Qm names a3.1)))] [] [] [] (pN 2 hx15 (pf 5 h11 (pc 10 (Vf names a3.1) p0))) ?_;exact ⟨rfl,Qd (by rw[h11]<;>kernel_rfl)⟩
     refine ck (((nth (((Qt d)).1) k3) !=((k1:Nat):Int))|| (!(Qm names a3.1))) (fun h18=> ?_) (fun h18=> ?_)
     ·
      refine Q2 <| rn Qa [1,3,4,8,9,10,11,13,17,18,19,69,70,71] [4] (pe 0 (Jh (Ql k3 (by omega))) p0) ?_
      exact xw (s3.1,s3.2) ⟨Qr hx3 (Xf h18 (rfl)) hI3.1,(by first | omega | (simp only[List.length_set];omega))⟩
     have h18l:(((nth (((Qt d)).1) k3) !=((k1:Nat):Int)))=false:=Rc h18;have h18ld:=Wt h18l;have h18r:((!(Qm names a3.1)))=false:=Re h18;have h18rn:(Qm names a3.1)=true:=Y3 h18r;refine Qf <| su Qa [(22, .o 5952 (Zg s_ a3.2 s3.1))] [21,88] [] [21] (pc 4 (YF s_ a3.2 s3.1) p0) <| wT 13 0 (.own true 147358) s3.1 (fun hw20 hl21=> ?_)
     have hx19:=ng s3.1 k3;refine sn Qa [1,3,4,8,9,10,11,13,17,18,19,20,22,69,70,71,101] [4] (pN 3 hx19 (pc 6 (Ns (Zg s_ a3.2 s3.1) ((nth s3.1 k3).2)) p0)) <| ck (!(Kj (Zg s_ a3.2 s3.1) ((nth s3.1 k3).2))) (fun h22=> ?_) (fun h22=> ?_)
     ·
      have h22n:(Kj (Zg s_ a3.2 s3.1) ((nth s3.1 k3).2))=false:=Vd h22;refine tu Qa [(13, .one (.slc (.own true 147358) 2 (setRow (eL s3.1) k3 1 [.h (Zg s_ a3.2 s3.1)])))] [13,20,22] [] [] (pN 3 hx19 p0) <| eqn [(13, .o 147358 (List.set s3.1 k3 ((nth s3.1 k3).1,(Zg s_ a3.2 s3.1))))] [13] [] [] (by rw[Kh (y:=((nth s3.1 k3).1,(Zg s_ a3.2 s3.1))) hx19 rfl]<;>kernel_rfl) ?_
      refine ru Qa [(19, .b true)] [19] [] [] (p0) ?_;refine ru Qa [(71, .i ((k3+1:Nat):Int))] [71] [] [] (pe 0 (Jh (Ql k3 (by omega))) p0) ?_;exact xw (List.set s3.1 k3 ((nth s3.1 k3).1,(Zg s_ a3.2 s3.1)),true) ⟨Qr hx3 (Qs h18 (Xf h22 (rfl))) hI3.1,(by first | omega | (simp only[List.length_set];omega))⟩
     have h22n:(Kj (Zg s_ a3.2 s3.1) ((nth s3.1 k3).2))=true:=Y3 h22;refine Qf <| qu Qa [(71, .i ((k3+1:Nat):Int))] [20,22,71] [] [] (pe 0 (Jh (Ql k3 (by omega))) p0) ?_
     exact xw (s3.1,s3.2) ⟨Qr hx3 (Qs h18 (Qs h22 (rfl))) hI3.1,(by first | omega | (simp only[List.length_set];omega))⟩
    ·
     have hA3_0:=hI3.2;exact su Qa [(72, .b false)] [] [] [] (pe 0 (Qp (decide_eq_false (p:=((k3:Nat):Int)<(d.length:Int)) (by omega))) p0) <| Qc <| ckF <| Q2 <| xw (s3.1,s3.2) ⟨Xi hk3 (rfl) hI3.1,by first | omega | (simp only[List.length_set];omega)⟩
    have hD3_0:=hD3.2;exact xw (y3.1,IntKind.i64.wrap (s2.2.1+1),y3.2) ⟨wn hI2.1 (Xf h10 (Wj hD3.1 (rfl))),(by first | omega | (simp only[List.length_set];omega))⟩
   exact Q2 <| xw _ (wb hI2.1 (Qs h10 (rfl)))
  refine rn Qa [1,3,4,8,9,10,11,13,17,18] [4] (pe 1 (Jh (Ql k1 (by omega))) p0) ?_;exact xw (y2.1,y2.2) ⟨Vi hk1 (Wj hD2 (rfl)) hI1.1,(by first | exact G4 (by assumption) (by assumption) (by assumption) | exact Br (fs:=s_.2.1) (G4 (by assumption) (by assumption) (by assumption))),(by first | exact G4 (by assumption) (by assumption) (by assumption) | exact Br (fs:=s_.2.1) (G4 (by assumption) (by assumption) (by assumption)))⟩
 ·
  have hA1_0:=hI1.2.1;have hA1_1:=hI1.2.2;exact Qc <| su Qa [(63, .b false)] [] [] [] (pc 2 (O0 d) (pe 3 (Qp (decide_eq_false (p:=((k1:Nat):Int)<=(Va d)) (by omega))) p0)) <| ckF <| Q2 <| xw _ (Cw hk1 (rfl) hI1.1)
 exact sn Qa [8,9,10] [] (p0) <| Qg <| pz [] (show Yn s_ d r names=_ from Qs h2 (Wj hD0 (Wj hD1 (rfl)))) (fun z=> .tup [(false, [.o 0 z.1]),(false, [.i z.2.1]),(false, [.b z.2.2])])
def Y6 (s_:Qz) (d:(List Xw)):(List Qh)×Bool:=(((Yn s_ d [] (X1 d))).1,((Yn s_ d [] (X1 d))).2.2)
theorem R3 (s_:Qz) (d:(List Xw)):ACalls Tryz.prog 128 [.a [.h s_.1, .h s_.2.1, .i s_.2.2], .h d] (.tup [(false, [.o 0 (((Y6 s_ d)).1)]),(false, [.b (((Y6 s_ d)).2)])]):=by
 refine en Qa Tryz.func128 fun w0 F0 hG=> ?_
 exact sn Qa [1,2,4,5] [2] (p0) <| tN Qa Zh [4,5,6,8] [] (pc 3 (G3 d) (pc 4 (LZ (.cons (ArgLe.rfl _) ( .cons (ArgLe.rfl _) ( .cons (ArgLe.nil 2) ( .cons (ArgLe.rfl _) (.nil))))) (Ps s_ d [] (X1 d))) p0)) <| tu Qa [(4, .o 896 (((Yn s_ d [] (X1 d))).1)),(5, .b (((Yn s_ d [] (X1 d))).2.2))] [0,1] [] [] (p0) <| Qg <| pz [] (show Y6 s_ d=(((Yn s_ d [] (X1 d))).1,((Yn s_ d [] (X1 d))).2.2) from rfl) (fun z=> .tup [(false, [.o 0 z.1]),(false, [.b z.2])])
def Hc (_:Nat) (a0:Int) (s0:Int):Rd (Int) (Int) (Int):=(bif decide (a0>s0) then (.next a0) else (.next s0))
def C0 (_:Nat) (s0:Int):Int:=s0
def Kp (d:(List Xw)):Int:=(Out.on (Xp Hc C0 (((Q8 d)).1) 0 (-1)) (fun y0=>y0))
theorem D1 (d:(List Xw)):ACalls Tryz.prog 227 [.h d] (.i (Kp d)):=by
 refine en Qa Tryz.func227 fun w0 F0 hG=> ?_
 refine sn Qa [0,2] [] (p0) <| tn Qa [2,3] [] (pc 1 (Ml d) p0) <| tu Qa [(2, .i 0),(3, .o 576 (((Q8 d)).1)),(5, .i (-1))] [0] [] [] (p0) <| Qc <| sn Qa [2,3,5,6] [] (p0) <| mz [(6, .i 0)] [] [] [] <| wT 3 0 (.own true 576) (((Q8 d)).1) (fun hw1 hl2=> ?_)
 refine Ox Hc C0 (((Q8 d)).1) (-1) (fun k0 s0=> [(5, .i s0),(6, .i ((k0:Nat):Int))]) [5,6] (fun y0=> [(5, .i y0)]) [3,5,6] wf0 (fun k0 s0 hk0 hI0=> ?_) (fun k0 s0 hk0 hI0=> ?_) (fun y0 hD0=> ?_)
 ·
  obtain ⟨a0,hx0⟩:=Xh (l:=((Q8 d)).1) (i:=k0) hk0;refine Qc <| sn Qa [2,3,5,6,15] [] (pl 2 (((Q8 d)).1) (pe 3 (Qp (decide_eq_true (p:=((k0:Nat):Int)<((((Q8 d)).1).length:Int)) (by omega))) p0)) <| ckT <| Qf <| Qc <| Qu <| tn Qa [2,3,5,6,23] [] (pN 2 hx0 p0) <| ck (decide (a0>s0)) (fun h3=> ?_) (fun h3=> ?_)
  ·
   have h3d:=of_decide_eq_true h3;refine qu Qa [(5, .i a0)] [5] [] [] (pN 2 hx0 p0) ?_;refine rn Qa [2,3,5,6] [] (pe 1 (Jh (Ql k0 (by omega))) p0) ?_;exact xw _ (Qr hx0 (Xf h3 (rfl)) hI0)
  have h3d:=of_decide_eq_false h3;refine Qf <| qu Qa [(6, .i ((k0+1:Nat):Int))] [6] [] [] (pe 1 (Jh (Ql k0 (by omega))) p0) ?_
  exact xw _ (Qr hx0 (Qs h3 (rfl)) hI0)
 ·
  exact Qc <| sn Qa [2,3,5,6,15] [] (pl 2 (((Q8 d)).1) (pe 3 (Qp (decide_eq_false (p:=((k0:Nat):Int)<((((Q8 d)).1).length:Int)) (by omega))) p0)) <| ckF <| Q2 <| xw _ (Xi hk0 (rfl) hI0)
 exact sn Qa [2] [] (p0) <| Qg <| pi [] (Wj hD0 (rfl))
def C1 (_:Nat) (a0:Xw) (s0:(List Qh)):Rd ((List Qh)×Int×Bool) ((List Qh)) ((List Qh)):=(.next (s0++ [((a0.1, []):Qh)]))
def Fs (_:Nat) (s0:(List Qh)):(List Qh):=s0
def Ad (s_:Qz) (d:(List Xw)) (k1:Nat) (k3:Nat) (a3:Xw) (s3:(List Qh)×Bool):Rd (Rd (Rd ((List Qh)×Int×Bool) ((List Qh)×Int) ((List Qh)×Int)) ((List Qh)×Int×Bool) ((List Qh)×Int)) ((List Qh)×Bool) ((List Qh)×Bool):=(bif ((nth (((Q8 d)).1) k3) !=((k1:Nat):Int)) then (.next (s3.1,s3.2)) else (bif (!(Kd (Yk s_ a3.2 s3.1) ((nth s3.1 k3).2))) then (.next (List.set s3.1 k3 ((nth s3.1 k3).1,(Yk s_ a3.2 s3.1)),true)) else (.next (s3.1,s3.2))))
def Ld (_:Nat) (s3:(List Qh)×Bool):(List Qh)×Bool:=(s3.1,s3.2)
def U1 (s_:Qz) (d:(List Xw)) (k1:Nat) (s2:(List Qh)×Int×Bool):Rd (Rd ((List Qh)×Int×Bool) ((List Qh)×Int) ((List Qh)×Int)) ((List Qh)×Int×Bool) ((List Qh)×Int):=(bif s2.2.2 then (Out.on (Xp (Ad s_ d k1) Ld d 0 (s2.1,false)) (fun y3=>(.next (y3.1,IntKind.i64.wrap (s2.2.1+1),y3.2)))) else (.brk (s2.1,s2.2.1)))
def Le (s_:Qz) (d:(List Xw)) (k1:Nat) (s1:(List Qh)×Int):Rd ((List Qh)×Int×Bool) ((List Qh)×Int) ((List Qh)×Int):=(Out.on (Nj (U1 s_ d k1) (List.length d*List.length s_.2.1+2) (s1.1,s1.2,true)) (fun y2=>(.next (y2.1,y2.2))))
def QN (_:Nat) (s1:(List Qh)×Int):(List Qh)×Int:=(s1.1,s1.2)
def Hd (s_:Qz) (d:(List Xw)):(List Qh)×Int×Bool:=(bif ((!(((Q8 d)).2))|| (!(Q4 s_))) then ([],0,false) else (Out.on (Xp C1 Fs d 0 []) (fun y0=>(Out.on (Wu (Le s_ d) QN (Int.toNat ((Kp d)+1)) 0 (y0,0)) (fun y1=>(y1.1,y1.2,true))))))
theorem MC {B:Int}:∀(x:List Int) (k:Nat) (s:Int),(∀a,a∈x->a<=B)->s<=B->∃t,Xp Hc C0 x k s= .brk t/\t<=B
 | [],k,s,_,h=>⟨s,rfl,h⟩
 | a::x,k,s,hx,h=>by
  simp only[Xp,Hc];cases hc:decide (a>s) with
  | true=>exact MC x (k+1) a (fun b hb=>hx b (List.mem_cons_of_mem _ hb)) (hx a (List.mem_cons_self ..))
  | false=>exact MC x (k+1) s (fun b hb=>hx b (List.mem_cons_of_mem _ hb)) h
theorem Lg {d:List Xw} (h:((Q8 d)).2=true):List.length ((Q8 d)).1=List.length d/\List.length d<=5/\Kp d<=5:=by
 have h':=h;rw[Wm] at h';obtain ⟨h1,h2,h3⟩:=Ex h';unfold Kp;rw[Wm];obtain ⟨t,e,ht⟩:=MC (B:=5) ((Qt d)).1 0 (-1) (fun a ha=>(h3 a ha).2) (by omega);refine ⟨h1,h2, ?_⟩;rw[e];exact ht
theorem MD (s_:Qz) (d:List Xw) (k1:Nat):Qb3 s_ d (Qt d).1 (fun _=>true) (k1:Int) (Ad s_ d k1):=by
 intro k a o c hk;unfold Ad FW;rw[JU,Wm,←VY];simp only[bne];cases (nth (Qt d).1 k==(k1:Int))<;>rfl
section
variable {s_:Qz} {d:List Xw} {k1:Nat} {o:List Qh} {p:Int}
theorem BB (hS:((Q8 d)).2=true) (h:EvS d ((Q8 d)).1 (fun _=>true) s_.2.1 (k1:Int) o):∃o' p',whl (U1 s_ d k1) (List.length d*List.length s_.2.1+2) (o,p,true)=some (.brk (o',p'))/\EvS d ((Q8 d)).1 (fun _=>true) s_.2.1 ((k1:Int)+1) o':=by
 rw[Wm] at hS h⊢;exact Qg9 (f:=Ad s_ d k1) (e:=Ld) (MD s_ d k1) (fun _ _=>rfl) (fun _=>rfl) (Prod.ext rfl hS) h p
theorem Qfb (hS:((Q8 d)).2=true) (h:EvS d ((Q8 d)).1 (fun _=>true) s_.2.1 (((k1:Nat)):Int) o):(whl (U1 s_ d k1) (List.length d*List.length s_.2.1+2) (o,p,true)).isSome=true:=by
 obtain ⟨o',p',h1,_⟩:=BB (p:=p) hS h;rw[h1];rfl
theorem Om {y:List Qh×Int} (hS:((Q8 d)).2=true) (h:EvS d ((Q8 d)).1 (fun _=>true) s_.2.1 (((k1:Nat)):Int) o) (hy:Nj (U1 s_ d k1) (List.length d*List.length s_.2.1+2) (o,p,true)= .brk y):EvS d ((Q8 d)).1 (fun _=>true) s_.2.1 ((((k1+1):Nat)):Int) y.1:=by
 obtain ⟨o',p',h1,h2⟩:=BB (p:=p) hS h;unfold Nj at hy;rw[h1] at hy;have e:(o',p')=y:=by simpa using hy
 rw[←e,Int.natCast_add];exact h2
theorem A7 (hy:Xp C1 Fs d 0 []= .brk o):EvS d ((Q8 d)).1 (fun _=>true) s_.2.1 (((0:Nat)):Int) o:=by
 obtain ⟨h1,h2⟩:=Ol (L:=((Q8 d)).1) (on:=fun _=>true) (fs:=s_.2.1) (g:=fun _=> []) (f:=C1) (e:=Fs) (d:=d) (fun k a s=>rfl) (fun j _ hj=>rfl);rw[h1] at hy;have e:(d.map fun a=>((a.1,([]:List Int)):Qh))=o:=Out.brk.inj hy;rw[←e];exact h2
end
theorem FX (s_:Qz) (d:(List Xw)):ACalls Tryz.prog 170 [.a [.h s_.1, .h s_.2.1, .i s_.2.2], .h d] (.tup [(false, [.o 0 (((Hd s_ d)).1)]),(false, [.i (((Hd s_ d)).2.1)]),(false, [.b (((Hd s_ d)).2.2)])]):=by
 refine en Qa Tryz.func170 fun w0 F0 hG=> ?_
 refine sn Qa [1,2,4,5,6] [2] (p0) <| tn Qa [1,2,4,5,6,7,8] [2] (pc 1 (Ml d) p0) <| Qc <| Qc <| mz [(2, .p 2 0),(4, .e 0),(5, .i 0),(6, .b false),(7, .o 1152 (((Q8 d)).1)),(8, .b (((Q8 d)).2))] [0] [(2, [.h s_.1, .h s_.2.1, .i s_.2.2])] [] <| jn [(27, .b ((!(((Q8 d)).2))|| (!(Q4 s_))))] [8] [] [] (!(((Q8 d)).2)) (fun h1=> ?_) (fun h1=> ?_) ?_
 ·
  have h1n:(((Q8 d)).2)=false:=Vd h1;refine ru Qa [(27, .b true)] [8] [] [] (pf 0 h1n (pe 1 (show .b (!false)= .b true from rfl) p0)) ?_;exact ⟨rfl,Qd (by rw[h1]<;>kernel_rfl)⟩
 ·
  have h1n:(((Q8 d)).2)=true:=Y3 h1;have h1nsf:=Lg h1n;refine rn Qa [1,2,4,5,6,7,27] [2] (pt 0 h1n (pe 1 (show .b (!true)= .b false from rfl) (pc 4 (Jq s_) p0))) ?_;exact ⟨rfl,Qd (by rw[h1]<;>kernel_rfl)⟩
 refine ck ((!(((Q8 d)).2))|| (!(Q4 s_))) (fun h2=> ?_) (fun h2=> ?_)
 ·
  exact sn Qa [1,2,4,5,6,7] [2] (p0) <| Qg <| pz [] (show Hd s_ d=_ from Xf h2 (rfl)) (fun z=> .tup [(false, [.o 0 z.1]),(false, [.i z.2.1]),(false, [.b z.2.2])])
 have h2l:((!(((Q8 d)).2)))=false:=Rc h2;have h2ln:(((Q8 d)).2)=true:=Y3 h2l;have h2lnsf:=Lg h2ln;have h2r:((!(Q4 s_)))=false:=Re h2;have h2rn:(Q4 s_)=true:=Y3 h2r;refine Qf <| sn Qa [1,2,4,5,6,7,9] [2] (p0) <| Qc <| tn Qa [1,2,4,5,6,7,9,10] [2] (p0) <| mz [(9, .one (.slc (.own true 1856) 2 [])),(10, .i 0)] [27] [] [] <| wT 1 0 .sh d (fun hw3 hl4=> ?_)
 refine XY C1 Fs d [] (fun k0 s0=> [(9, .o 147206 s0),(10, .i ((k0:Nat):Int))]) [9,10] (fun y0=> [(9, .o 147356 y0)]) [9,10] (fun k0 s0=>List.length s0<=k0) (Xl [(1856,147206)] (by kernel_rfl)) (by simp) (fun k0 s0 hk0 hI0=> ?_) (fun k0 s0 hk0 hI0=> ?_) (fun y0 hD0=> ?_)
 ·
  have hA0_0:=hI0.2;obtain ⟨a0,hx0⟩:=Xh (l:=d) (i:=k0) hk0;refine Qc <| su Qa [(33, .b true)] [] [] [] (pl 2 d (pe 3 (Qp (decide_eq_true (p:=((k0:Nat):Int)<(d.length:Int)) (by omega))) p0)) <| ckT <| Qf <| Qc <| Qu <| wT 9 0 (.own true 147206) s0 (fun hw5 hl6=> ?_)
  refine ru Qa [(9, .one (.slc (.own true 2880) 2 ((eL s0)++ [[.s a0.1, .slc 1 []]])))] [9,33] [] [] (pn 3 hx0 (pa s0 [((a0.1, []):Qh)] p0)) ?_;refine eqn [(9, .o 2880 (s0++ [((a0.1, []):Qh)]))] [9] [] [] (by rw[show ((eL s0)++ [[.s a0.1, .slc 1 []]])=(eL (s0++ [((a0.1, []):Qh)])) from Ks (rfl) (rfl)];first | done | kernel_rfl) ?_;refine rn Qa [1,2,4,5,6,7,9,10] [2] (pe 1 (Jh (Ql k0 (by omega))) p0) ?_;exact Exists.intro (s0++ [((a0.1, []):Qh)]) (And.intro (Xl [(2880,147206)] (by kernel_rfl)) ⟨Qr hx0 (rfl) hI0.1,by first | omega | (simp;omega) | simp⟩)
 ·
  have hA0_0:=hI0.2;exact Qc <| su Qa [(33, .b false)] [] [] [] (pl 2 d (pe 3 (Qp (decide_eq_false (p:=((k0:Nat):Int)<(d.length:Int)) (by omega))) p0)) <| ckF <| Q2 <| Exists.intro _ (And.intro (Xl [(147206,147356)] (by kernel_rfl)) (Xi hk0 (rfl) hI0.1))
 refine su Qa [(11, .i 0)] [] [] [] (p0) <| Qc <| su Qa [(12, .i 0)] [] [] [] (p0) <| Qeo (Le s_ d) QN (Int.toNat ((Kp d)+1)) (y0,0) (fun k1 s1=> [(9, .o 147356 s1.1),(11, .i s1.2),(12, .i ((k1:Nat):Int))]) [9,11,12] (fun _ _=> []) [] (fun y1=> [(9, .o 147356 y1.1),(11, .i y1.2)]) [1,2,7,9,11,12] (fun _=> []) [2] (fun k1 s1=>EvS d ((Q8 d)).1 (fun _=>true) s_.2.1 (((k1:Nat)):Int) s1.1/\List.length s1.1=List.length d) wf0 ⟨(by first | exact A7 hD0 | exact A7 hD0.1 | exact Br (fs:=s_.2.1) (A7 hD0) | exact Br (fs:=s_.2.1) (A7 hD0.1)),(by first | exact A7 hD0 | exact A7 hD0.1 | exact Br (fs:=s_.2.1) (A7 hD0) | exact Br (fs:=s_.2.1) (A7 hD0.1))⟩ (fun k1 s1 hk1 hI1=> ?_) (fun k1 s1 hk1 hI1=> ?_) (fun y1 hD1=> ?_)
 ·
  have hA1_0:=hI1.2.1;have hA1_1:=hI1.2.2;refine Qc <| su Qa [(49, .b true)] [] [] [] (pc 2 (D1 d) (pe 3 (Qp (decide_eq_true (p:=((k1:Nat):Int)<=(Kp d)) (by omega))) p0)) <| ckT <| Qf <| Qc <| Qu <| su Qa [(13, .b true)] [49] [] [] (p0) <| blw (fun (s2:(List Qh)×Int×Bool)=> [(9, .o 147356 s2.1),(11, .i s2.2.1),(13, .b s2.2.2)]) [9,11,13] (fun s2=> []) [] (fun (y2:(List Qh)×Int)=> [(9, .o 147356 y2.1),(11, .i y2.2)]) [9,11,13] (fun y2=> []) [] (fun (k2:Nat) (s2:(List Qh)×Int×Bool)=>whl (U1 s_ d k1) k2 s2=some (Nj (U1 s_ d k1) (List.length d*List.length s_.2.1+2) (s1.1,s1.2,true))/\List.length s2.1=List.length d) (fun (y2:(List Qh)×Int)=>(Nj (U1 s_ d k1) (List.length d*List.length s_.2.1+2) (s1.1,s1.2,true))= .brk y2) (List.length d*List.length s_.2.1+2) (s1.1,s1.2,true) wf0 ⟨Oc (Qfb (by assumption) (by assumption)),(by assumption)⟩ (fun _ h=>P9 h.1) (fun k2 s2 hI2=> ?_) (fun y2 hD2=> ?_)
  ·
   have hA2_0:=hI2.2;refine Qc <| su Qa [(52, .b s2.2.2)] [] [] [] (p0) <| ck s2.2.2 (fun h7=> ?_) (fun h7=> ?_)
   ·
    refine Qf <| Qu <| su Qa [(13, .b false)] [13,52] [] [] (p0) <| sn Qa [1,2,4,5,6,7,9,11,12,13] [2] (p0) <| tn Qa [1,2,4,5,6,7,9,11,12,13,14] [2] (p0) <| mz [(11, .i (IntKind.i64.wrap (s2.2.1+1))),(14, .i 0)] [11] [] [] <| Qa5 (Ad s_ d k1) Ld d (s2.1,false) (fun k3 s3=> [(9, .o 147356 s3.1),(13, .b s3.2),(14, .i ((k3:Nat):Int))]) [9,13,14] (fun y3=> [(9, .o 147356 y3.1),(13, .b y3.2)]) [9,13,14] (fun _ s3=>List.length s3.1=List.length s2.1) (fun y3=>List.length y3.1=List.length s2.1) wf0 (by simp) (fun k3 s3 hk3 hI3=> ?_) (fun k3 s3 hk3 hI3=> ?_) (fun y3 hD3=> ?_)
    ·
     have hA3_0:=hI3.2;obtain ⟨a3,hx3⟩:=Xh (l:=d) (i:=k3) hk3;refine Qc <| su Qa [(58, .b true)] [] [] [] (pl 2 d (pe 3 (Qp (decide_eq_true (p:=((k3:Nat):Int)<(d.length:Int)) (by omega))) p0)) <| ckT <| Qf <| Qc <| Qu <| Qc <| wT 7 0 (.own true 1152) (((Q8 d)).1) (fun hw9 hl10=> ?_)
     have hx8:=ng (((Q8 d)).1) k3;refine sn Qa [1,2,4,5,6,7,9,11,12,13,14,66] [2] (pN 2 hx8 p0) <| ck ((nth (((Q8 d)).1) k3) !=((k1:Nat):Int)) (fun h11=> ?_) (fun h11=> ?_)
     ·
      have h11d:=T2 h11;refine Q2 <| qn Qa [1,2,4,5,6,7,9,11,12,13,14] [2] (pe 1 (Jh (Ql k3 (by omega))) p0) ?_
      exact xw (s3.1,s3.2) ⟨Qr hx3 (Xf h11 (rfl)) hI3.1,(by first | omega | (simp only[List.length_set];omega))⟩
     have h11d:=Wt h11;refine Qf <| tN Qa Zh [1,2,4,5,6,7,9,11,12,13,14,15] [2] (pn 3 hx3 (pc 7 (Nr s_ a3.2 s3.1) p0)) <| wT 9 0 (.own true 147356) s3.1 (fun hw13 hl14=> ?_)
     have hx12:=ng s3.1 k3;refine tu Qa [(15, .o 4736 (Yk s_ a3.2 s3.1)),(82, .b (!(Kd (Yk s_ a3.2 s3.1) ((nth s3.1 k3).2))))] [58] [] [] (pN 3 hx12 (pc 6 (I9 (Yk s_ a3.2 s3.1) ((nth s3.1 k3).2)) p0)) <| ck (!(Kd (Yk s_ a3.2 s3.1) ((nth s3.1 k3).2))) (fun h15=> ?_) (fun h15=> ?_)
     ·
      have h15n:(Kd (Yk s_ a3.2 s3.1) ((nth s3.1 k3).2))=false:=Vd h15;refine su Qa [(9, .one (.slc (.own true 147356) 2 (setRow (eL s3.1) k3 1 [.h (Yk s_ a3.2 s3.1)])))] [9,15,82] [] [] (pN 3 hx12 p0) <| eqn [(9, .o 147356 (List.set s3.1 k3 ((nth s3.1 k3).1,(Yk s_ a3.2 s3.1))))] [9] [] [] (by rw[Kh (y:=((nth s3.1 k3).1,(Yk s_ a3.2 s3.1))) hx12 rfl]<;>kernel_rfl) ?_
      refine ru Qa [(13, .b true)] [13] [] [] (p0) ?_;refine rn Qa [1,2,4,5,6,7,9,11,12,13,14] [2] (pe 1 (Jh (Ql k3 (by omega))) p0) ?_;exact xw (List.set s3.1 k3 ((nth s3.1 k3).1,(Yk s_ a3.2 s3.1)),true) ⟨Qr hx3 (Qs h11 (Xf h15 (rfl))) hI3.1,(by first | omega | (simp only[List.length_set];omega))⟩
     have h15n:(Kd (Yk s_ a3.2 s3.1) ((nth s3.1 k3).2))=true:=Y3 h15;refine Qf <| rn Qa [1,2,4,5,6,7,9,11,12,13,14] [2] (pe 1 (Jh (Ql k3 (by omega))) p0) ?_
     exact xw (s3.1,s3.2) ⟨Qr hx3 (Qs h11 (Qs h15 (rfl))) hI3.1,(by first | omega | (simp only[List.length_set];omega))⟩
    ·
     have hA3_0:=hI3.2;exact Qc <| su Qa [(58, .b false)] [] [] [] (pl 2 d (pe 3 (Qp (decide_eq_false (p:=((k3:Nat):Int)<(d.length:Int)) (by omega))) p0)) <| ckF <| Q2 <| xw (s3.1,s3.2) ⟨Xi hk3 (rfl) hI3.1,by first | omega | (simp only[List.length_set];omega)⟩
    have hD3_0:=hD3.2;exact xw (y3.1,IntKind.i64.wrap (s2.2.1+1),y3.2) ⟨wn hI2.1 (Xf h7 (Wj hD3.1 (rfl))),(by first | omega | (simp only[List.length_set];omega))⟩
   exact Q2 <| xw _ (wb hI2.1 (Qs h7 (rfl)))
  refine rn Qa [1,2,4,5,6,7,9,11,12] [2] (pe 1 (Jh (Ql k1 (by omega))) p0) ?_;exact xw (y2.1,y2.2) ⟨Vi hk1 (Wj hD2 (rfl)) hI1.1,(by first | exact Om (by assumption) (by assumption) (by assumption) | exact Br (fs:=s_.2.1) (Om (by assumption) (by assumption) (by assumption))),(by first | exact Om (by assumption) (by assumption) (by assumption) | exact Br (fs:=s_.2.1) (Om (by assumption) (by assumption) (by assumption)))⟩
 ·
  have hA1_0:=hI1.2.1;have hA1_1:=hI1.2.2;exact Qc <| su Qa [(49, .b false)] [] [] [] (pc 2 (D1 d) (pe 3 (Qp (decide_eq_false (p:=((k1:Nat):Int)<=(Kp d)) (by omega))) p0)) <| ckF <| Q2 <| xw _ (Cw hk1 (rfl) hI1.1)
 exact sn Qa [4,5,6] [] (p0) <| Qg <| pz [] (show Hd s_ d=_ from Qs h2 (Wj hD0 (Wj hD1 (rfl)))) (fun z=> .tup [(false, [.o 0 z.1]),(false, [.i z.2.1]),(false, [.b z.2.2])])
def Kb (s_:Qz) (d:(List Xw)):(List Qh)×Bool:=(((Hd s_ d)).1,((Hd s_ d)).2.2)
theorem R4 (s_:Qz) (d:(List Xw)):ACalls Tryz.prog 101 [.a [.h s_.1, .h s_.2.1, .i s_.2.2], .h d] (.tup [(false, [.o 0 (((Kb s_ d)).1)]),(false, [.b (((Kb s_ d)).2)])]):=by
 refine en Qa Tryz.func101 fun w0 F0 hG=> ?_
 exact sn Qa [1,2,4,5] [2] (p0) <| tn Qa [4,5,6,8] [] (pc 2 (FX s_ d) p0) <| tu Qa [(4, .o 768 (((Hd s_ d)).1)),(5, .b (((Hd s_ d)).2.2))] [0,1] [] [] (p0) <| Qg <| pz [] (show Kb s_ d=(((Hd s_ d)).1,((Hd s_ d)).2.2) from rfl) (fun z=> .tup [(false, [.o 0 z.1]),(false, [.b z.2])])
end Go.Proofs.YtkekndahbiefaaaGreatDoor
namespace Go.Proofs.YtkekndahbiefaaaGreatDoor
open Go.RowKit
theorem Ae (v:ByteArray) (l:List ByteArray):Qm l v=true↔v∈l:=by
 unfold Qm B0
 have key:∀(l:List ByteArray) (k:Nat),(0:Int)<=((Xp (Ua v) Ab l k ()).on fun _=> -1)↔v∈l:=by
  intro l
  induction l with
  | nil=>intro k;simp[Xp,Out.on]
  | cons a l ih=>
    intro k;simp only[Xp,Ua];have hab:(v.toList==a.toList)=decide (v=a):=toList_inj;cases hc:(v.toList==a.toList) with
    | true=>
      obtain rfl:v=a:=by rw[hc] at hab;exact of_decide_eq_true hab.symm
      simp[Out.on]
    | false=>
      have h:v≠a:=by rw[hc] at hab;exact of_decide_eq_false hab.symm
      simp only[cond_false];refine (ih (k+1)).trans ?_;simp[h]
 exact decide_eq_true_iff.trans (key l 0)
theorem Ta (d:List Xw):X1 d=d.map (·.1):=by
 unfold X1;rw[Au (f:=L8) (g:=fun a:Xw=>a.1) (fun _ _ _=>rfl)];simp[Out.on,L9]
theorem Pt {d:List Xw} {i:Nat} {a:Xw} (h:d[i]? =some a):Qm (X1 d) a.1=true:=by
 rw[Ae,Ta];exact List.mem_map.2 ⟨a,List.mem_of_getElem? h,rfl⟩
theorem OX (x:List Int):∀(n k:Nat) (s:Int),k+1+n=x.length->Wu (H3 x) D0 n k s= .brk ((x.drop (k+1)).foldl max s)
 | 0,k,s,h=>by rw[List.drop_eq_nil_of_le (by omega)];rfl
 | n+1,k,s,h=>by
   have hg:x[k+1]? =some (nth x (k+1)):=V7 (by omega);rw[Su hg];simp only[Wu,H3,List.foldl_cons];exact OX x n (k+1) _ (by omega)
theorem WD:∀(x:List Int) (k:Nat) (s:Int),Xp Hc C0 x k s= .brk (x.foldl max s)
 | [],k,s=>rfl
 | a::x,k,s=>by
   simp only[Xp,Hc,List.foldl_cons];by_cases h:a>s
   . rw[decide_eq_true h,cond_true,show max s a=a by omega];exact WD x (k+1) a
   rw[decide_eq_false h,cond_false,show max s a=s by omega];exact WD x (k+1) s
theorem QO (d:List Xw):Kp d=Va d:=by
 unfold Kp Va;rw[Wm,WD];simp only[Out.on];cases hs:(Qt d).2 with
 | false=>
   have :(Qt d).1= []:=by
    unfold Qt at hs⊢;cases hv:Qo d with
    | false=>rfl
    | true=>
      rw[hv] at hs;simp only[Bool.not_true,cond_false] at hs⊢;have h5:=W8 hv;have hw:=L6 (d:=d) (f:=Uz d) (e:=U0) (F:=Wa d) (fun _ _ _=>rfl) (fun _ _=>rfl) (fun _=>rfl) (by omega) (d.length*d.length+3) (List.replicate d.length 0) true (Bx _).1 (Bx _).2
      have hsome:(QA (Jf d) d.length d.length (d.length*d.length+3) (true,List.replicate d.length 0)).isSome=true:=by
       have:=Ew d h5;rw[Int.toNat_natCast,hw,Option.isSome_map] at this;exact this
      obtain ⟨r,hr⟩:=Option.isSome_iff_exists.1 hsome;unfold Nj at hs⊢;rw[Int.toNat_natCast,hw,hr] at hs⊢;cases r with
      | none=>rfl
      | some M=>simp[Qjo,Out.on] at hs
   rw[this];rfl
 | true=>
   obtain ⟨h1,h2,h3⟩:=Ex hs;simp only[Bool.not_true,Bool.false_or];generalize (Qt d).1=x at h3;cases x with
   | nil=>rfl
   | cons a x=>
     have h0:=(h3 a (List.mem_cons_self ..)).1
     have e:((((a::x).length:Nat):Int)==(0:Int))=false:=by
      rw[beq_eq_false_iff_ne,List.length_cons];omega
     rw[e,cond_false];unfold Lc;rw[OX _ _ _ _ (by simp;omega)];simp only[Out.on,List.foldl_cons,Nat.zero_add,List.drop_succ_cons,List.drop_zero];have e2:nth (a::x) 0=a:=rfl;rw[show max (-1) a=a by omega,e2]
theorem Qka (s:Qz) (d:List Xw) (k1 k:Nat) (a:Xw) (t:List Qh×Bool) (h:d[k]? =some a):Ad s d k1 k a t=Wn s d (X1 d) k1 k a t:=by
 unfold Ad Wn;rw[Pt h,Wm,←VY,JU,MA];simp
theorem Qkb (s:Qz) (d:List Xw) (k1:Nat):U1 s d k1=Kl s d (X1 d) k1:=by
 funext t
 unfold U1 Kl;rw[Nl (f:=Ad s d k1) (g:=Wn s d (X1 d) k1) (e:=Ld) (e':=Bk) (fun _ _=>rfl) d 0 _ (fun i a t h=>by rw[Nat.zero_add];exact Qka s d k1 i a t h)]
theorem Qkc (s:Qz) (d:List Xw):Hd s d=Yn s d [] (X1 d):=by
 unfold Hd Yn;rw[Wm,By,QO];rw[Nl (f:=C1) (g:=Jn [] (X1 d)) (e:=Fs) (e':=Kk) (fun _ _=>rfl) d 0 _ (fun i a t h=>by unfold C1 Jn;rw[Pt h];rfl)]
 congr 1
 congr 1
 funext y
 rw[show Le s d=Vb s d (X1 d) from by funext k t;unfold Le Vb;rw[Qkb]];rfl
theorem Tb (s:Qz) (d:List Xw):Kb s d=Y6 s d:=by
 unfold Kb Y6;rw[Qkc]
theorem FY {s:Qz} {d:List Xw} {names:List ByteArray} {r:List Qh} (h:(Yn s d r names).2.2=true):List.length d<=5/\Qq s=true/\(Yn s d r names).1.map (·.1)=d.map (·.1)/\∀j,j<d.length->onD d names j=true->∃p:Xc->Bool,(nth (Yn s d r names).1 j).2=sel s.2.1 (fun f=>f.1) p:=by
 unfold Yn at h⊢;cases hc:((!(((Qt d)).2))|| (!(Qq s))) with
 | true=>rw[hc] at h;simp at h
 | false=>
   have hs:((Qt d)).2=true:=Y3 (Rc hc);have hv:Qq s=true:=Y3 (Re hc);simp only[cond_false]
   obtain ⟨h1,h2⟩:=Ol (L:=((Qt d)).1) (on:=onD d names) (fs:=s.2.1) (g:=Ey r names) (f:=Jn r names) (e:=Kk) (d:=d) (fun k a s=>by
    unfold Jn Ey;cases Qm names a.1<;>rfl) (fun j _ hj=>by unfold onD at hj;unfold Ey;rw[hj];rfl)
   rw[h1]
   have key:∀(n k:Nat) (o:List Qh) (p:Int),EvS d ((Qt d)).1 (onD d names) s.2.1 (((k:Nat)):Int) o->∃o' p',Wu (Vb s d names) Bl n k (o,p)= .brk (o',p')/\EvS d ((Qt d)).1 (onD d names) s.2.1 (((k+n:Nat)):Int) o':=by
    intro n
    induction n with
    | zero=>intro k o p ho;exact ⟨o,p,rfl,ho⟩
    | succ n ih=>
      intro k o p ho;obtain ⟨o1,p1,g1,g2⟩:=Cz (p:=p) hs ho;obtain ⟨o2,p2,g3,g4⟩:=ih (k+1) o1 p1 (by rw[Int.natCast_add];exact g2);refine ⟨o2,p2, ?_,by rw[show k+(n+1)=k+1+n by omega];exact g4⟩;simp only[Wu];unfold Vb Nj;rw[g1];exact g3
   obtain ⟨o,p,g1,g2⟩:=key (Int.toNat (Va d+1)) 0 _ 0 h2;simp only[Out.on,Kk];rw[g1];exact ⟨(Ex hs).2.1,hv,g2.names,fun j hj hon=>g2.some_ j hj hon⟩
theorem Tc {s:Qz} {d:List Xw} (h:(Y6 s d).2=true):List.length d<=5/\Qq s=true/\(Y6 s d).1.map (·.1)=d.map (·.1)/\∀x,x∈(Y6 s d).1->∃p:Xc->Bool,x.2=sel s.2.1 (fun f=>f.1) p:=by
 unfold Y6 at h⊢;obtain ⟨h1,h2,h3,h4⟩:=FY h;refine ⟨h1,h2,h3,fun x hx=> ?_⟩;obtain ⟨i,hi⟩:=List.getElem?_of_mem hx;have hlen:(Yn s d [] (X1 d)).1.length=d.length:=by have:=congrArg List.length h3;simpa using this
 have hi':i<(Yn s d [] (X1 d)).1.length:=(List.getElem?_eq_some_iff.1 hi).1;have hil:i<d.length:=by omega
 have:=h4 i hil (by unfold onD;exact Pt (V7 hil));rw[Ow hi] at this;exact this
theorem ME {s:Qz} {d:List Xw} (h:(Y6 s d).2=false):(Y6 s d).1= []:=by
 unfold Y6 at h⊢;unfold Yn at h⊢;cases hc:((!(((Qt d)).2))|| (!(Qq s))) with
 | true=>rfl
 | false=>
   exfalso;have hs:((Qt d)).2=true:=Y3 (Rc hc);rw[hc] at h;simp only[cond_false] at h
   obtain ⟨h1,h2⟩:=Ol (L:=((Qt d)).1) (on:=onD d (X1 d)) (fs:=s.2.1) (g:=Ey [] (X1 d)) (f:=Jn [] (X1 d)) (e:=Kk) (d:=d) (fun k a s=>by
    unfold Jn Ey;cases Qm (X1 d) a.1<;>rfl) (fun j _ hj=>by unfold onD at hj;unfold Ey;rw[hj];rfl)
   rw[h1] at h
   have key:∀(n k:Nat) (o:List Qh) (p:Int),EvS d ((Qt d)).1 (onD d (X1 d)) s.2.1 (((k:Nat)):Int) o->∃y,Wu (Vb s d (X1 d)) Bl n k (o,p)= .brk y:=by
    intro n
    induction n with
    | zero=>intro k o p ho;exact ⟨_,rfl⟩
    | succ n ih=>
      intro k o p ho;obtain ⟨o1,p1,g1,g2⟩:=Cz (p:=p) hs ho;obtain ⟨y,g3⟩:=ih (k+1) o1 p1 (by rw[Int.natCast_add];exact g2);refine ⟨y, ?_⟩;simp only[Wu];unfold Vb Nj;rw[g1];exact g3
   obtain ⟨y,g1⟩:=key (Int.toNat (Va d+1)) 0 _ 0 h2;simp only[Out.on,Kk] at h;rw[g1] at h;cases h
def BC (G:Nat->Prop) (L:List Nat):Inj:=⟨G,fun k=>if k=63 then L else [],fun _=>0⟩
theorem Qfc {P:Program} {tt:List (Nat×TI)} (htt:Me P tt=true) {f:Nat} {fn:Func} {c:Code} (hf:P.funcs[f]? =some fn) (hb:fn.body=some c) (hok:My P f) {n:Nat} {l l':List (List PV)} {args:List AV}
 (hn:args.length+1<=fn.ntmps) (hk:∀x,x∈args->∀c,c∈x.cells->c.key=none/\c.bkeys= []) {t:Nat} (hr:fn.results.toList= [.tmp t])
 (h:∀w0 F0,GoodAt P w0->AWP P fn.ntmps w0 F0 c (fun e s=>(e= .ret\/e= .normal)/\∃k,get s.tm t=some (.one (.slc (.own false k) n l'))) (LF (.one (.slc (.own false 63) n l)::args))):ATake P f n l args true false l':=by
 refine ⟨hok,fun w F G L v vals hgood hFG hGF hGs hnd hLG hrow hargs=>calls_of_wp hf hb ?_⟩;have hlen:=hargs.length;have hGF:=hGF rfl;have hL0:(BC G L).L 63=L:=by show (if 63=63 then L else [])=L;simp
 refine wp_mono (h ⟨w,fun b=>b∈L,none⟩ G hgood (BC G L) _ w ?_) ?_
 . have hLk:∀k b,b∈(BC G L).L k->k=63/\b∈L:=fun k b hm=>by
    have hm:b∈(if k=63 then L else []):=hm;split at hm
    . rename_i e;exact ⟨e,hm⟩
    simp at hm
   refine {below:=Base.Keeps.refl _,nodef:=rfl,size:= ?_,fl:=fun b hb=>⟨hGs b hb, .inl hb⟩,f0:=fun b hb=>hb,nd:=fun k=> ?_,lo:=fun k b hb=>⟨.inr (hLk k b hb).2,hLG b (hLk k b hb).2⟩,dj:=fun k k' b hb hb'=>(hLk k b hb).1.trans (hLk k' b hb').1.symm,bo:=fun k c hc=>by simp[LF,get] at hc,nb:= .inl rfl,cb:=(fun b hb=>by cases hb),bi:=fun k k' c c' hc=>by simp[LF,get] at hc,tm:=fun t v' hv=> ?_}
   . simp;omega
   . show (if k=63 then L else []:List Nat).Nodup;split
     . exact hnd
     exact List.nodup_nil
   obtain ⟨_,ht⟩:=KW hv
   have hall:All2 (AR (BC G L) w) (v::vals) (.one (.slc (.own false 63) n l)::args):=by
    refine .cons ?_ ?_
    . show OwnTop G ((BC G L).L 63) w v n l;rw[hL0];exact OwnTop.keep hrow (fun b hb=>⟨hFG b hb,rfl⟩) fun _ _=>rfl
    have key:∀{vs:List Value} {ys:List AV},All2 (AR (JJ G) w) vs ys->(∀x,x∈ys->∀c,c∈x.cells->c.key=none/\c.bkeys= [])->All2 (AR (BC G L) w) vs ys:=by
     intro vs ys ha
     induction ha with
     | nil=>intro _;exact .nil
     | cons h1 _ ih=>
       intro hx;refine .cons (h1.keep fun c hc=> ?_) (ih fun x hm=>hx x (List.mem_cons_of_mem _ hm));obtain ⟨e1,e2⟩:=hx _ (List.mem_cons_self ..) c hc;exact ⟨fun b hb=>⟨hb,rfl⟩,(fun k hk=>by rw[e1] at hk;cases hk),(fun k hk=>by rw[e2] at hk;simp at hk)⟩
    exact key hargs hk
   obtain ⟨u,hu,hr⟩:=hall.get' ht;have hlt:t<(v::vals).length:=(List.getElem?_eq_some_iff.1 hu).1
   have:((v::vals).toArray++Array.replicate (fn.ntmps-(v::vals).toArray.size) undef).getD t undef=u:=by
    rw[Array.getD_eq_getD_getElem?,Array.getElem?_append_left (by simpa using hlt)];simp at hu⊢;rw[hu];rfl
   rw[this];exact hr
 rintro e a' w' ⟨J',s',hR,he,k,hkk⟩
 have hres:∃u,(results fn a'.tmps).run P w'= .ok u w'/\AR J' w' u (.one (.slc (.own false k) n l')):=by
  obtain ⟨us,hrun,hall⟩:=JM (P:=P) htt hR (rs:= [.tmp t]) (vs:= [.one (.slc (.own false k) n l')]) (by simp[ES,hkk]);rw[←hr] at hrun
  have hm:(fn.results.mapM (HZ a'.tmps)).run P w'= .ok us.toArray w':=by
   rw[Array.mapM_eq_mapM_toList];simp[hrun]
  have hgen:(results fn a'.tmps).run P w'= .ok (if h:us.toArray.size=1 then us.toArray[0] else .tuple us.toArray) w':=by
   rw[AA];simp only[Sem.run_bind,hm,Result.andThen_ok,Sem.run_pure]
  cases hall with
  | cons h1 h2=>
    cases h2
    exact ⟨_,by rw[hgen];simp,h1⟩
 obtain ⟨u,h1,h2⟩:=hres
 have hT:Qkt F L w n false l' (.returned u) w':=by
  refine ⟨u,rfl,fun m hm hmL=>⟨hR.below.os,hR.below.tape,hR.below.output,hR.below.size,fun j hj=>hR.below.block j (by show j<w.heap.size;omega) fun hx=>by have:=hmL j hx;omega⟩,fun b hb hn=>hR.below.block b hb hn,J'.L k,hR.nd k,fun b hb=> ?_, ?_⟩
  . obtain ⟨h3,h4,_⟩:=hR.lo k b hb;exact ⟨h4,h3⟩
  have h2:OwnTop J'.F (J'.L k) w' u n l':=h2;refine OwnTop.keep h2 (fun b hb=>⟨?_,rfl⟩) fun _ _=>rfl
  obtain ⟨h3,h4⟩:=hR.fl b hb;rcases h4 with h4 | h4 | h4
  . exact .inl (hGF b h4)
  . exact .inr ⟨.inl h4,h3,fun hm=>(hR.lo k b hm).2.2 hb⟩
  exact .inr ⟨.inr h4,h3,fun hm=>(hR.lo k b hm).2.2 hb⟩
 rcases he with rfl | rfl
 . exact ⟨hR.nodef,u,h1,hT⟩
 exact ⟨hR.nodef,u,h1,hT⟩
theorem Ij {a:Act} {t u:Nat} {v:Value} (ht:t<a.tmps.size):(a.put (some t) v).tmps.getD u undef=if u=t then v else a.tmps.getD u undef:=by
 simp only[Act.put,Array.getD_eq_getD_getElem?,Array.getElem?_setIfInBounds];by_cases h:u=t
 . subst h;simp[ht]
 simp[h,Ne.symm h]
theorem RZ {a b:Nat}:Nat.beq a b=false↔¬a=b:=by
 cases h:Nat.beq a b with
 | true=>simp[Nat.eq_of_beq_eq_true h]
 | false=>simp;exact Nat.ne_of_beq_eq_false h
theorem Qfd {a:Act} {t:Nat} {v:Value} (h:a.tmps.getD t undef=v) (ht:t<a.tmps.size):a.put (some t) v=a:=by
 have e:a.tmps.setIfInBounds t v=a.tmps:=by
  apply Array.ext
  . simp
  intro i h1 h2;rw[Array.getElem_setIfInBounds];split
  . rename_i e;subst e;rw[←h,Array.getD_eq_getD_getElem?,Array.getElem?_eq_getElem ht];rfl
  rfl
 show ({a with tmps:=a.tmps.setIfInBounds t v}:Act)=a;rw[e]
theorem OY:∀{vs:List Value} {cs:List C},Hg vs cs=true->∃ps:List PV,ps.length=vs.length/\∀(X:Nat->Prop) (w:World),VC X w vs ps
 | [], [],_=>⟨[],rfl,fun _ _=> .nil⟩
 | [],_::_,h=>by simp[Hg] at h
 | _::_, [],h=>by simp[Hg] at h
 | v ::vs,c::cs,h=>by
   simp only[Hg,Bool.and_eq_true] at h;obtain ⟨ps,h1,h2⟩:=OY h.2;have hz:=h.1;unfold KB at hz;split at hz
   . rename_i k _ _ _;simp only[Bool.and_eq_true,decide_eq_true_eq] at hz;obtain ⟨⟨rfl,rfl⟩,rfl⟩:=hz;exact ⟨.int k 0::ps,by simp[h1],fun X w=> .cons (.int (by cases k<;>simp[InR,IntKind.min,IntKind.max,IntKind.bits,IntKind.signed])) (h2 X w)⟩
   . rename_i b _;exact ⟨.bool b::ps,by simp[h1],fun X w=> .cons (.bool b) (h2 X w)⟩
   . rename_i s _;have hs:s.size=0:=by simp only[Bool.and_eq_true] at hz;exact Nat.eq_of_beq_eq_true hz.1
     exact ⟨.str s::ps,by simp[h1],fun X w=> .cons (.str (by rw[hs];exact Nat.zero_le _)) (h2 X w)⟩
   . rename_i n;exact ⟨.slc n []::ps,by simp[h1],fun X w=> .cons (.emp none n (Nat.zero_le _)) (h2 X w)⟩
   cases hz
theorem OZ {X:Nat->Prop} {w:World} {n:Nat} {vs:List Value} {ps:List PV} (h:VC X w vs ps) (hn:ps.length=n):∀m,VR X w n (List.replicate m vs).flatten (List.replicate m ps)
 | 0=> .nil n
 | m+1=>by
   rw[List.replicate_succ,List.replicate_succ,List.flatten_cons];exact .cons h hn (OZ h hn m)
theorem SA {z:Array Value} {m:Nat}:(Builtin.zeroCells z m).toList=(List.replicate m z.toList).flatten:=by
 have key:∀(l:List Value) (m:Nat),(List.range (m*l.length)).map (fun i=>l[i % l.length]!)=(List.replicate m l).flatten:=by
  intro l m
  induction m with
  | zero=>simp
  | succ m ih=>
    rw[Nat.succ_mul,List.range_add,List.map_append,ih,List.replicate_succ',List.flatten_append]
    congr 1
    simp only[List.map_map,List.flatten_cons,List.flatten_nil,List.append_nil];apply List.ext_getElem
    . simp
    intro i h1 h2;simp only[List.length_map,List.length_range] at h1;simp[Nat.mul_add_mod_self_right,Nat.mod_eq_of_lt h1,h2]
 rw[←key z.toList m];unfold Builtin.zeroCells;rw[Array.toList_map,Array.toList_range];apply List.map_congr_left;intro i _;simp only[Array.length_toList,getElem!_def,Array.getElem?_toList]
theorem Qfe {vs:List Value} {cs:List C} (h:Hg vs cs=true):∀v,v∈vs->v.oneCell'=true:=by
 induction vs generalizing cs with
 | nil=>intro v hv;simp at hv
 | cons v vs ih=>
   cases cs with
   | nil=>simp[Hg] at h
   | cons c cs=>
     simp only[Hg,Bool.and_eq_true] at h;intro u hu;rcases List.mem_cons.1 hu with rfl | hu
     . have hz:=h.1;unfold KB at hz;split at hz<;>first | rfl | cases hz
     exact ih h.2 u hu
section
variable {P:Program} {N:Nat} {w0:Base} {F0:Nat->Prop} {J:Inj} {a:Act} {w:World} {s:St} {Q:Exit->St->Prop}
theorem Rel.aside (h:Rel N w0 F0 J a w s) {d:Nat} (hd:d<N) (hn:get s.tm d=none) (v:Value):Rel N w0 F0 J (a.put (some d) v) w s:=
 (h.pure (some d) (fun d' e=>by cases e;exact hd) (.one .dead) v (fun _=>trivial)).less (fun t x hx=>by
  show get (ins d _ s.tm) t=some x;rw[Sg,if_neg (fun e=>by subst e;rw[hn] at hx;cases hx)];exact hx) (fun _ _ h=>h)
theorem FZ {tt:List (Nat×TI)} (htt:Me P tt=true) {sty ety z1:Nat} {z2:List C} {z3:List LK} {ti:TI} (g1:get tt sty=some ⟨.sli ety,z1,z2,z3⟩) (g2:get tt ety=some ti)
 {g cap m i n:Nat} {cur:Array Value} {e:TypeId} (hn:ti.size=n) (hg:w.heap[g]? =some (.cells cur e (0,0))) (hs:cur.size=cap*n) (hi:i<m) (hm:m<=cap) (ty:TypeId):
 ∃ zs:List Value,∃ps:List PV,zs.length=n/\ps.length=n/\(∀(X:Nat->Prop) (w:World),VC X w zs ps)/\
   (Builtin.clear_ #[sty] ty #[.slice (some ⟨g,i*n,none⟩) (m-i) (cap-i)]).run P w= .ok (.tuple #[]) (w.setRow g (cur.toList.take (i*n)++(List.replicate (m-i) zs).flatten++cur.toList.drop (i*n+(m-i)*n)).toArray):=by
 obtain ⟨inf,z,hI,hsz,_,hz,hzs,hzo⟩:=(Zl htt g2).info;obtain ⟨ps,p1,p2⟩:=OY hzo;have hu:=(Zl htt g1).sli;have hzl:z.cells.toList.length=n:=by simpa [hn] using hzs
 refine ⟨z.cells.toList,ps,hzl,by rw[p1,hzl],p2, ?_⟩;obtain ⟨q,hq⟩:∃q,m-i=q+1:=⟨m-i-1,by omega⟩
 have hfl:((List.replicate (m-i) z.cells.toList).flatten).length=(m-i)*n:=by
  rw[List.length_flatten,List.map_replicate,hzl];simp
 have h3:i*n+(m-i)*n<=cap*n:=by rw[←Nat.add_mul];exact Nat.mul_le_mul_right n (by omega)
 have hst:=run_storeCells_at P g (i*n) e ((List.replicate (m-i) z.cells.toList).flatten) 0 cur w hg (by rw[hfl,hs];simpa using h3) (fun v hv=>by
  obtain ⟨l,hl,hv⟩:=List.mem_flatten.1 hv;rw[List.eq_of_mem_replicate hl] at hv;exact Qfe hzo v hv)
 simp only[Nat.add_zero,hfl] at hst;rw[hq] at hst⊢;simp[Builtin.clear_,run_underlying hu,zeroValue,U6 hI,hz,SA,hst]
theorem Qb4 {tt:List (Nat×TI)} (htt:Me P tt=true) {id:Nat} {ops:Array Oper} {t0 t5 d1 d2 d3 sty ety z1:Nat} {z2:List C} {z3:List LK} {ti:TI} {y1 y2 y3 y4:TypeId} {q1 q2 q3 q4:String} {f1 f2 f3 f4:Array Edge}
 (hops:ops= #[⟨some d1, .move (.tmp t0),y1,q1,f1,none⟩,⟨some d2, .move (.tmp t5),y2,q2,f2,none⟩,⟨some d3, .slice sty (.tmp d1) (some (.tmp d2)) none none,y3,q3,f3,none⟩,⟨none, .call {callee:= .builtin .clear,args:= #[.tmp d3],argTypes:= #[sty]},y4,q4,f4,none⟩])
 (hN:(Nat.blt d1 N&&Nat.blt d2 N&&Nat.blt d3 N&&Nat.blt t0 N&& !(Nat.beq d1 t0)&& !(Nat.beq d1 t5)&& !(Nat.beq d2 t0)&& !(Nat.beq d2 t5)&& !(Nat.beq d3 t0)&& !(Nat.beq d3 t5)&& !(Nat.beq d1 d2)&& !(Nat.beq t0 t5))=true)
 (g1:get tt sty=some ⟨.sli ety,z1,z2,z3⟩) (g2:get tt ety=some ti) {k n:Nat} {l:List (List PV)} (hk:get s.tm t0=some (.one (.slc (.own false k) n l))) (hn:ti.size=n) {i:Int} (hi:get s.tm t5=some (.one (.int .i64 i))) (h0:0<=i) (hl:i<l.length)
 (hQ:∀l',l'.length=l.length->l'.take i.toNat=l.take i.toNat->Q .normal ⟨[(t0, .one (.slc (.own false (64*t0)) n l')),(t5, .one (.int .i64 i))], []⟩):AWP P N w0 F0 (.region id ops false) Q s:=fun J a w hr=>by
 simp only[Bool.and_eq_true,Nat.blt_eq,Bool.not_eq_true',RZ] at hN;obtain ⟨⟨⟨⟨⟨⟨⟨⟨⟨⟨⟨m1,m2⟩,m3⟩,m0⟩,n1⟩,n2⟩,n3⟩,n4⟩,n5⟩,n6⟩,n7⟩,n8⟩:=hN;obtain ⟨j,rfl⟩:∃j:Nat,i=(j:Int):=⟨i.toNat,by omega⟩;have hj:j<l.length:=by omega
 have e0:CR J w (a.tmps.getD t0 undef) (.slc (.own false k) n l):=hr.tm t0 _ hk;have e5:CR J w (a.tmps.getD t5 undef) (.int .i64 (j:Int)):=hr.tm t5 _ hi;obtain ⟨e5,_⟩:=e5;rcases (show OwnTop J.F (J.L k) w _ n l from e0) with ⟨e,_⟩ | ⟨g,cap,cur,e,hL,e0,hg,hs,hvr,hlc,hcap⟩
 . rw[e] at hj;simp at hj
 obtain ⟨zs,ps,hzl,hpl,hzv,hrun⟩:=FZ (P:=P) (w:=w) htt g1 g2 hn hg hs hj hlc y4;have hu:=(Zl htt g1).sli;have hsz:=Ax (P:=P) (Zl htt g2) w;rw[hn] at hsz
 have hr5:Rel N w0 F0 J a w ⟨[(t5, .one (.int .i64 (j:Int)))], []⟩:=hr.less (fun t v hv=>by
  simp only[get] at hv;split at hv
  . rename_i e;subst e;rw[hi];exact hv
  cases hv) (fun k c hc=>by cases hc)
 have no:∀d,¬d=t5->get (⟨[(t5, .one (.int .i64 (j:Int)))], []⟩:St).tm d=none:=fun d hd=>by
  show (if t5=d then _ else _)=none;rw[if_neg (fun e=>hd e.symm)];rfl
 have s0:=hr.size;have hr1:=(hr5.aside m1 (no _ n2) (.slice (some ⟨g,0,none⟩) l.length cap)).aside m2 (no _ n4) (.int .i64 (j:Int));have hr3:=hr1.aside m3 (no _ n6) (.slice (some ⟨g,0+j*n,none⟩) (l.length-j) (cap-j));subst hops;refine wp_region ?_;show wpOps P _ (QX N w0 F0 Q) [0,1,2,3] a w;rw[wpOps_cons];unfold wpOp;simp only[List.getElem?_toArray,List.getElem?_cons_zero];rw[if_pos (by simp[Region.wanted])];refine .inl (Us (v:= .slice (some ⟨g,0,none⟩) l.length cap) (w':=w) (by simp[execOp,e0,Act.eval]) ?_);rw[wpOps_cons];unfold wpOp;simp only[List.getElem?_toArray,List.getElem?_cons_succ,List.getElem?_cons_zero];rw[if_pos (by simp[Region.wanted])];have e5':(a.put (some d1) (.slice (some ⟨g,0,none⟩) l.length cap)).tmps.getD t5 undef= .int .i64 (j:Int):=(Ij (by omega)).trans ((if_neg (fun e=>n2 e.symm)).trans e5);refine .inl (Us (v:= .int .i64 (j:Int)) (w':=w) (by simp[execOp,e5',Act.eval]) ?_);rw[wpOps_cons];unfold wpOp;simp only[List.getElem?_toArray,List.getElem?_cons_succ,List.getElem?_cons_zero];rw[if_pos (by simp[Region.wanted])];have hs1:(a.put (some d1) (.slice (some ⟨g,0,none⟩) l.length cap)).tmps.size=N:=by simp[Act.put,s0]
 have ea:((a.put (some d1) (.slice (some ⟨g,0,none⟩) l.length cap)).put (some d2) (.int .i64 (j:Int))).eval (.tmp d1)= .slice (some ⟨g,0,none⟩) l.length cap:=(Ij (by omega)).trans ((if_neg n7).trans ((Ij (by omega)).trans (if_pos rfl)));have eb:((a.put (some d1) (.slice (some ⟨g,0,none⟩) l.length cap)).put (some d2) (.int .i64 (j:Int))).eval (.tmp d2)= .int .i64 (j:Int):=(Ij (by omega)).trans (if_pos rfl)
 have hsb:(Instr.sliceBounds true l.length cap (some (.int .i64 (j:Int))) none none).run P w= .ok (j,l.length,cap) w:=by
  have e4:∀c,(Instr.sliceBound (.int .i64 (j:Int)) l.length c).run P w= .ok j w:=fun c=>by
   have:=P5 (P:=P) (w:=w) (k:= .i64) (lo:=(j:Int)) (code:=c) (y:=l.length) (by omega) (by omega);simpa using this
  unfold Instr.sliceBounds;simp only[Sem.run_bind,Sem.run_pure,Result.andThen_ok];simp[e4]
 refine .inl (Us (v:= .slice (some ⟨g,0+j*n,none⟩) (l.length-j) (cap-j)) (w':=w) (by
  have hca:cap≠j:=by omega
  simp[execOp,ea,eb,Instr.sliceAt,run_underlying hu,Instr.slice,hsb,hsz,hca,Addr.add_lit]) ?_)
 rw[wpOps_cons];unfold wpOp;simp only[List.getElem?_toArray,List.getElem?_cons_succ,List.getElem?_cons_zero];rw[if_pos (by simp[Region.wanted])];generalize ha2:((a.put (some d1) (.slice (some ⟨g,0,none⟩) l.length cap)).put (some d2) (.int .i64 (j:Int)))=a2 at*;have s2:a2.tmps.size=N:=hr1.size;have ec:(a2.put (some d3) (.slice (some ⟨g,0+j*n,none⟩) (l.length-j) (cap-j))).eval (.tmp d3)= .slice (some ⟨g,j*n,none⟩) (l.length-j) (cap-j):=(Ij (by omega)).trans ((if_pos rfl).trans (by simp));have ec:=ec;simp only[Nat.zero_add] at ec
 refine .inl (Us (v:= .tuple #[]) (w':=w.setRow g (cur.toList.take (j*n)++(List.replicate (l.length-j) zs).flatten++cur.toList.drop (j*n+(l.length-j)*n)).toArray) (by
  simp[execOp,resolve,invoke,builtin,ec,hrun]) ?_)
 generalize ha3:a2.put (some d3) (.slice (some ⟨g,0+j*n,none⟩) (l.length-j) (cap-j))=a3 at*;show QX N w0 F0 Q .normal a3 _
 have e03:a3.tmps.getD t0 undef= .slice (some ⟨g,0,none⟩) l.length cap:=by
  rw[←ha3];refine (Ij (by omega)).trans ((if_neg (fun e=>n5 e.symm)).trans ?_);rw[←ha2];exact (Ij (by omega)).trans ((if_neg (fun e=>n3 e.symm)).trans ((Ij (by omega)).trans ((if_neg (fun e=>n1 e.symm)).trans e0)))
 have hgk:g∈J.L k:=by rw[hL];exact List.mem_cons_self
 have hgF:¬J.F g:=(hr.lo k g hgk).2.2;generalize hw':w.setRow g (cur.toList.take (j*n)++(List.replicate (l.length-j) zs).flatten++cur.toList.drop (j*n+(l.length-j)*n)).toArray=w';have hgw:w'.heap[g]? =some (.cells (cur.toList.take (j*n)++(List.replicate (l.length-j) zs).flatten++cur.toList.drop (j*n+(l.length-j)*n)).toArray e (0,0)):=by rw[←hw'];exact setRow_heap w g cur _ e (0,0) hg
 have hother:∀b,b≠g->w'.heap[b]? =w.heap[b]? :=fun b hb=>by rw[←hw'];exact setRow_other w g b _ hb
 have hsize:w'.heap.size=w.heap.size:=by rw[←hw'];simp[World.setRow]
 have hbelow:w0.Keeps w':=by
  refine hr.below.step (by rw[←hw'];rfl) (by rw[←hw'];rfl) (by rw[←hw'];rfl) (by omega) fun b _ hnl=>hother b fun e=> ?_
  exact hnl (e▸(hr.lo k g hgk).1)
 have hfl:((List.replicate (l.length-j) zs).flatten).length=(l.length-j)*n:=by
  rw[List.length_flatten,List.map_replicate,hzl];simp
 have hsum:j*n+(l.length-j)*n=l.length*n:=by rw[←Nat.add_mul];congr 1;omega
 have hle:l.length*n<=cap*n:=Nat.mul_le_mul_right n hlc;have hcl:cur.toList.length=cap*n:=by simpa using hs
 have hjn:j*n<=cap*n:=Nat.mul_le_mul_right n (by omega);have htl:(l.take j++List.replicate (l.length-j) ps).length=l.length:=by simp;omega
 have hown:OwnTop (Ts J w w' (64*t0) k [] [g]).F [g] w' (.slice (some ⟨g,0,none⟩) l.length cap) n (l.take j++List.replicate (l.length-j) ps):=by
  refine .inr ⟨g,cap,_,e,rfl,by rw[htl],hgw, ?_, ?_,by rw[htl];exact hlc,by rw[htl];exact hcap⟩
  . simp only[List.size_toArray,List.length_append,hfl,List.length_take,List.length_drop,hcl];omega
  rw[htl]
  have:((cur.toList.take (j*n)++(List.replicate (l.length-j) zs).flatten++cur.toList.drop (j*n+(l.length-j)*n)).toArray.toList.take (l.length*n))=cur.toList.take (j*n)++(List.replicate (l.length-j) zs).flatten:=by
   show ((_:List Value)++_++_).take _=_
   have hln:(cur.toList.take (j*n)++(List.replicate (l.length-j) zs).flatten).length=l.length*n:=by
    simp only[List.length_append,hfl,List.length_take,hcl];omega
   rw[List.take_append_of_le_length (by omega),List.take_of_length_le (by omega)]
  rw[this];refine VR.append (OZ (hzv _ _) hpl _) (VR.keep (X:=J.F) (w:=w) (fun b hb=>⟨.inl hb,hother b fun e=>hgF (e▸hb)⟩) ?_);have h3:=hvr.take j
  rwa [List.take_take,Nat.min_eq_left (by omega)] at h3
 have hR:=KP hr3 (t:=t0) (k:=k) (n:=n) m0 (frz:= []) (L':= [g]) (by simp) (w':=w') (u:= .slice (some ⟨g,0,none⟩) l.length cap) (l':=l.take j++List.replicate (l.length-j) ps) (d:=false) hbelow (by omega) (fun b hb hn=>hother b fun e=>hn (e▸hgk)) (by simp) (fun b hb=>by
  obtain rfl:=List.mem_singleton.1 hb
  exact ⟨by have:=(hr.lo k b hgk).2.1;omega, .inr hgk⟩) (by
   show OwnTop _ ((Ts J w w' (64*t0) k [] [g]).L (64*t0)) _ _ _ _;rw[show (Ts J w w' (64*t0) k [] [g]).L (64*t0)= [g] from if_pos rfl];exact hown)
 rw[Qfd e03 (by rw[hr3.size];exact m0)] at hR;refine ⟨_,_,hR.less (s':=⟨[(t0, .one (.slc (.own false (64*t0)) n (l.take j++List.replicate (l.length-j) ps))),(t5, .one (.int .i64 (j:Int)))], []⟩) (fun t v hv=> ?_) (fun k c hc=>by cases hc),hQ _ htl (by simp[List.take_append,List.take_take];omega)⟩;show get (ins t0 _ [(t5,AV.one (.int .i64 (j:Int)))]) t=some v;rw[Sg];simp only[get] at hv⊢;exact hv
end
end Go.Proofs.YtkekndahbiefaaaGreatDoor
namespace Go.Proofs.YtkekndahbiefaaaGreatDoor
open Go.RowKit
section
variable {P:Program}
theorem JV (w:World) (dT sT ty elem:TypeId) (inf:TypeInfo) (b o dLen dCap:Nat) (a:Addr) (sLen sCap:Nat) (cs:List Value) (hu:P.underlying dT=some (.slice elem)) (hi:P.info? elem=some inf)
 (hn:cs.length=Nat.min sLen dLen*inf.size) (hsrc:∀j v,cs[j]? =some v->w.cell? (a.add j)=some v) {cur:Array Value} {e:TypeId} (hg:w.heap[b]? =some (.cells cur e (0,0))) (hfit:o+cs.length<=cur.size) (h1:∀v∈cs,v.oneCell'=true):
 (Builtin.copy_ #[dT,sT] ty #[.slice (some ⟨b,o,none⟩) dLen dCap, .slice (some a) sLen sCap]).run P w= .ok (goInt (Nat.min sLen dLen)) (w.setCells b o cs):=by
 have hl:=run_loadCells_list (P:=P) w a cs hsrc
 have hc:∀j,j<cs.length->(w.cell? ⟨b,o+j,none⟩).isSome=true:=fun j hj=>by
  have:o+j<cur.size:=by omega
  simp[World.cell?,hg,this]
 have hf:∀j,j<cs.length->w.frozen? ⟨b,o+j,none⟩=false:=fun j hj=>by simp[World.frozen?,hg]
 have hst:=run_storeCells_cells (P:=P) b o cs 0 w (by simpa using hc) (by simpa using hf) h1;simp[Builtin.copy_,run_underlying hu,Builtin.lenOf,Builtin.firstCells,sizeOf,typeInfo,hi,←hn,hl,hst]
theorem GA (w:World) (tS tR e:TypeId) (ht:P.underlying tS=some (.slice e)) (size:Nat) (hz:∀w,(Go.sizeOf e).run P w= .ok size w) (a b:Addr) (la ca lb cb:Nat) (hne:a.block≠b.block)
 {arrA:Array Value} {tA:TypeId} {frA:Nat×Nat} (hA:w.heap[a.block]? =some (.cells arrA tA frA)) {arrB:Array Value} {tB:TypeId} (hB:w.heap[b.block]? =some (.cells arrB tB (0,0))) (hpos:0<arrB.size) (hposA:0<arrA.size):
 (Extern.SlicesOverlaps.overlaps #[tS,tS] #[tR] #[.slice (some a) la ca, .slice (some b) lb cb]).run P w= .ok (.bool false) w:=by
 have hsa:w.shape? a.block=some (tA,arrA.size):=by simp[World.shape?,hA]
 have hsb:w.shape? b.block=some (tB,arrB.size):=by simp[World.shape?,hB]
 have hfb:∀o,w.frozen? ⟨b.block,o,none⟩=false:=fun o=>by simp[World.frozen?,hB]
 have hfb':w.frozen? b=false:=by simp[World.frozen?,hB]
 have hnb:(a.block !=b.block)=true:=by simpa using hne
 have hnb':(a.block==b.block)=false:=by simpa using hne
 obtain ⟨kb,hkb⟩:∃kb,arrB.size=kb+1:=⟨arrB.size-1,by omega⟩;rw[hkb] at hsb;obtain ⟨ka,hka⟩:∃ka,arrA.size=ka+1:=⟨arrA.size-1,by omega⟩;rw[hka] at hsa
 change Sem.run P (α:=Value) (do
  let some t := (#[tS, tS] : Array TypeId)[0]? | stuck "slices.overlaps: no parameter types"
  let .slice elem ← underlying t | stuck "slices.overlaps: slice type expected"
  let size←sizeOf elem
  match (some a:Option Addr),(some b:Option Addr) with
  | some a,some b=>
    if la=0\/lb=0\/size=0 then pure (Value.bool false)
    else if a.block !=b.block&&(←frozen a)&&(←frozen b) then unsupported .addressObserved
    else do
     if a.block !=b.block then do
      noView a;noView b
      if ← mayBeOne a b then return Value.bool ((← choose (.extern "sameAddr.stringBytes" 2)) == 1)
     pure (Value.bool (a.block==b.block&&a.off<b.off+lb*size&&b.off<a.off+la*size))
  | _,_=>pure (Value.bool false)) w=_
 by_cases h0:la=0\/lb=0\/size=0
 . simp[run_underlying ht,hz,h0]
 cases hfa:w.frozen? a with
 | true=>simp[run_underlying ht,hz,h0,hnb,hnb',frozen,noView,viewAt,mayBeOne,stringish,shape,Sem.run,hsa,hsb,hfa,hfb,hfb']
 | false=>
   cases hfa2:w.frozen? {block:=a.block,off:=ka+1} with
   | true=>simp[run_underlying ht,hz,h0,hnb,hnb',frozen,noView,viewAt,mayBeOne,stringish,shape,Sem.run,hsa,hsb,hfa,hfb,hfb',hfa2]
   | false=>simp[run_underlying ht,hz,h0,hnb,hnb',frozen,noView,viewAt,mayBeOne,stringish,shape,Sem.run,hsa,hsb,hfa,hfb,hfb',hfa2]
structure RowAt (w:World) (n:Nat) (oa:Option Addr) (m cap:Nat) (olds:List Value):Prop where
 len:olds.length=m*n
 row:(oa=oa/\m=0/\cap=0)\/∃g cur e,oa=some ⟨g,0,none⟩/\w.heap[g]? =some (.cells cur e (0,0))/\cur.size=cap*n/\cur.toList.take (m*n)=olds
 le:m<=cap
 cap:cap<=maxLen
 lim:m<1073741824
 ones:∀u,u∈olds->u.oneCell'=true
structure Turned (w w':World) (n:Nat) (oa:Option Addr) (cap:Nat) (u:Value) (m':Nat) (news:List Value):Prop where
 os:w'.os=w.os
 tape:w'.tape=w.tape
 output:w'.output=w.output
 size:w.heap.size<=w'.heap.size
 row:∃g' cap' cur' e',u= .slice (some ⟨g',0,none⟩) m' cap'/\w'.heap[g']? =some (.cells cur' e' (0,0))/\cur'.size=cap'*n/\cur'.toList.take (m'*n)=news/\m'<=cap'/\cap'<=maxLen/\
  ((oa=some ⟨g',0,none⟩/\0<cap/\∀b,b≠g'->w'.heap[b]? =w.heap[b]?)\/(w.heap.size<=g'/\g'<w'.heap.size/\∀b,b<w.heap.size->w'.heap[b]? =w.heap[b]?))
def SB (w:World) (n i:Nat) (oa:Option Addr) (m cap:Nat) (olds vs:List Value) (e:Ending) (w':World):Prop:=
 ∃u,e= .returned u/\Turned w w' n oa cap u (m+1) (olds.take (i*n)++vs++olds.drop (i*n))
structure OneAt (w:World) (n:Nat) (oa:Option Addr) (cap:Nat) (vb voff:Nat) (vs:List Value):Prop where
 len:vs.length=n
 cells:∀j u,vs[j]? =some u->w.cell? ⟨vb,voff+j,none⟩=some u
 ones:∀u,u∈vs->u.oneCell'=true
 ne:∀g,oa=some ⟨g,0,none⟩->0<cap->vb≠g
theorem Qhc {F:Nat->Prop} {L:List Nat} {w:World} {v:Value} {n:Nat} {l:List (List PV)} (h:OwnTop F L w v n l) (hl:l.length<1073741824):
 ∃oa cap olds,v= .slice oa l.length cap/\RowAt w n oa l.length cap olds/\VR F w n olds l/\(0<cap->∃g,oa=some ⟨g,0,none⟩/\L= [g]):=by
 rcases h with ⟨rfl,oa,rfl⟩ | ⟨g,cap,cur,e,rfl,rfl,hg,hs,hr,h1,h2⟩
 . exact ⟨oa,0, [],rfl,⟨by simp, .inl ⟨rfl,rfl,rfl⟩,Nat.le_refl _,Nat.zero_le _,by simp,by simp⟩, .nil n,fun h=>by omega⟩
 exact ⟨some ⟨g,0,none⟩,cap,_,rfl,⟨hr.length, .inr ⟨g,cur,e,rfl,hg,hs,rfl⟩,h1,h2.1,hl,hr.ones⟩,hr,fun _=>⟨g,rfl,rfl⟩⟩
theorem Turned.ret {F G:Nat->Prop} {L:List Nat} {w w':World} {n:Nat} {oa:Option Addr} {cap:Nat} {u:Value} {m':Nat} {news:List Value} (h:Turned w w' n oa cap u m' news) (hF:∀b,F b->b<w.heap.size/\b∉L) (hL:0<cap->∃g,oa=some ⟨g,0,none⟩/\L= [g]) (hLs:∀b,b∈L->b<w.heap.size)
 {l':List (List PV)} (hv:VR F w n news l') (hm:l'.length=m') (hlim:m'<=1073741824):Qkt F L w n false l' (.returned u) w':=by
 obtain ⟨g',cap',cur',e',rfl,hg,hs,ht,h1,h2,h3⟩:=h.row
 have hsame:∀b,b<w.heap.size->b∉L->w'.heap[b]? =w.heap[b]? :=fun b hb hn=>by
  rcases h3 with ⟨h3,hc,h4⟩ | ⟨_,_,h4⟩
  . obtain ⟨g,h5,rfl⟩:=hL hc;rw[h3] at h5;obtain rfl:g'=g:=by simpa using h5
    exact h4 b fun e=>hn (by simp[e])
  exact h4 b hb
 refine ⟨_,rfl,fun m hm hmL=>⟨h.os,h.tape,h.output,h.size,fun b hb=>hsame b (by omega) fun hx=>by have:=hmL b hx;omega⟩,hsame, [g'],by simp,fun b hb=> ?_, ?_⟩
 . obtain rfl:=List.mem_singleton.1 hb;refine ⟨Xn hg, ?_⟩;rcases h3 with ⟨h3,hc,_⟩ | ⟨h3,_,_⟩
   . obtain ⟨g,h5,rfl⟩:=hL hc;rw[h3] at h5;obtain rfl:b=g:=by simpa using h5
     exact .inr (by simp)
   exact .inl h3
 refine .inr ⟨g',cap',cur',e',rfl,by rw[hm],hg,hs, ?_,by rw[hm];exact h1,h2,by rw[hm];exact hlim⟩;rw[hm,ht];exact hv.keep fun b hb=>⟨.inl hb,hsame b (hF b hb).1 (hF b hb).2⟩
theorem Qb5 {f n:Nat} (hok:My P f) (h0:0<n)
 (hrun:∀w oa m cap olds i vb voff vc vs,RowAt w n oa m cap olds->OneAt w n oa cap vb voff vs->i<=m->Calls P f #[.slice oa m cap, .int .i64 (i:Int), .slice (some ⟨vb,voff,none⟩) 1 vc] w (SB w n i oa m cap olds vs))
 {l:List (List PV)} {x:List PV} {i:Int} {j:Nat} (hij:i=(j:Int)) (hj:j<=l.length) (hl:l.length<1073741824):ATake P f n l [.one (.int .i64 i), .one (.slc .sh n [x])] true false (l.take j++ [x]++l.drop j):=by
 subst hij;refine ⟨hok,fun w F G L v vals _ hFG hGF hGs hnd hLG hrow hargs=> ?_⟩;have hGF:=hGF rfl;cases hargs with
 | cons a1 ha=>
 cases ha with
 | cons a2 ha=>
 cases ha
 obtain ⟨rfl,_⟩:_=Value.int .i64 (j:Int)/\InR .i64 (j:Int):=a1;have a2:VV G w _ (.slc n [x]):=a2;obtain ⟨oa,cap,olds,rfl,hR,hV,hL⟩:=Qhc hrow hl;generalize hp:PV.slc n [x]=p at a2;cases a2 with
 | int | bool | str | any=>cases hp
 | emp=>cases hp
 | @slc vb voff vc n' cs l1 hb hc hr h1 h2=>
   obtain ⟨rfl,rfl⟩:n=n'/\ [x]=l1:=by simpa using hp
   have hcl:cs.length=n:=by rw[hr.length];simp
   have hone:OneAt w n oa cap vb voff cs:=⟨hcl,hc,hr.ones,fun g hg hcap e=>by
    obtain ⟨g',h5,rfl⟩:=hL hcap;rw[hg] at h5;obtain rfl:g=g':=by simpa using h5
    exact (hLG g (by simp)).2 (e▸hb)⟩
   refine (hrun w oa l.length cap olds j vb voff vc cs hR hone hj).mono ?_
   rintro e w' ⟨u,rfl,hT⟩
   refine hT.ret (G:=G) (fun b hb=>⟨hGs b (hFG b hb),fun hm=>(hLG b hm).2 (hFG b hb)⟩) hL (fun b hb=>(hLG b hb).1) ?_ ?_ (by omega)
   . exact VR.append (hV.drop j) (VR.append (hr.keep fun b hb=>⟨hGF b hb,rfl⟩) (hV.take j))
   simp;omega
def MF (w:World) (n i:Nat) (oa:Option Addr) (m cap:Nat) (olds:List Value) (e:Ending) (w':World):Prop:=
 ∃u,e= .returned u/\Turned w w' n oa cap u (m-1) (olds.take (i*n)++olds.drop ((i+1)*n))
theorem Qb6 {f n:Nat} (hok:My P f)
 (hrun:∀w oa m cap olds i,RowAt w n oa m cap olds->i<m->Calls P f #[.slice oa m cap, .int .i64 (i:Int), .int .i64 ((i:Int)+1)] w (MF w n i oa m cap olds))
 {l:List (List PV)} {i k:Int} {j:Nat} (hij:i=(j:Int)) (hk:k=(j:Int)+1) (hj:j<l.length) (hl:l.length<1073741824):ATake P f n l [.one (.int .i64 i), .one (.int .i64 k)] true false (l.take j++l.drop (j+1)):=by
 subst hij;subst hk;refine ⟨hok,fun w F G L v vals _ hFG hGF hGs hnd hLG hrow hargs=> ?_⟩;cases hargs with
 | cons a1 ha=>
 cases ha with
 | cons a2 ha=>
 cases ha
 obtain ⟨rfl,_⟩:_=Value.int .i64 (j:Int)/\InR .i64 (j:Int):=a1;obtain ⟨rfl,_⟩:_=Value.int .i64 ((j:Int)+1)/\InR .i64 ((j:Int)+1):=a2;obtain ⟨oa,cap,olds,rfl,hR,hV,hL⟩:=Qhc hrow hl;refine (hrun w oa l.length cap olds j hR hj).mono ?_
 rintro e w' ⟨u,rfl,hT⟩
 refine hT.ret (G:=G) (fun b hb=>⟨hGs b (hFG b hb),fun hm=>(hLG b hm).2 (hFG b hb)⟩) hL (fun b hb=>(hLG b hb).1) ?_ ?_ (by omega)
 . exact VR.append (hV.drop (j+1)) (hV.take j)
 simp;omega
end
end Go.Proofs.YtkekndahbiefaaaGreatDoor
namespace Go.Proofs.YtkekndahbiefaaaGreatDoor
open Go.RowKit
section
variable {P:Program} {t e:TypeId} {ei:TI} {w:World} {oa:Option Addr} {m cap i vb voff vc:Nat} {olds vs:List Value}
theorem Qiz {i m n:Nat} (hi:i<m):(i+1)*n=i*n+n/\i*n+n<=m*n/\(m-i)*n=m*n-i*n/\(m+1)*n=m*n+n:=by
 have h1:(i+1)*n<=m*n:=Nat.mul_le_mul_right n (by omega);have h2:(i+1)*n=i*n+n:=by rw[Nat.add_mul,Nat.one_mul]
 exact ⟨h2,by omega,Nat.sub_mul ..,by rw[Nat.add_mul,Nat.one_mul]⟩
theorem OneAt.block {n:Nat} (h:OneAt w n oa cap vb voff vs) (h0:0<n):vb<w.heap.size/\∃arr tA fr,w.heap[vb]? =some (.cells arr tA fr)/\0<arr.size:=by
 have hl:0<vs.length:=by rw[h.len];exact h0
 have hc:=h.cells 0 vs[0] (List.getElem?_eq_getElem hl);unfold World.cell? at hc;split at hc
 . rename_i arr tA fr hh;refine ⟨Xn hh,arr,tA,fr,hh, ?_⟩;have hc:arr[voff+0]? =some vs[0]:=by simpa using hc
   have:=(Array.getElem?_eq_some_iff.1 hc).1;omega
 cases hc
theorem R5 {w:World} {ops:Array Oper} {rest:List Oper} {o:Oper} {a:Act} {Q:Exit->Act->World->Prop} (hgd:o.guard=none) (d s:Operand) (t t':TypeId)
 (ho:o.op= .call {callee:= .builtin .copy,args:= #[d,s],argTypes:= #[t,t']}) (v u:Value) (hd:a.eval d=v) (hs:a.eval s=u) {v':Value} {w':World}
 (hr:(Builtin.copy_ #[t,t'] o.type #[v,u]).run P w= .ok v' w') (h:wpList P ops Q rest (a.put o.dst v') w'):wpList P ops Q (o::rest) a w:=
 wpList_plain hgd fun K hK=>by
  unfold Oper.wp execOp;simp only[ho,resolve,invoke,builtin,Sem.run_bind,Sem.run_pure,Result.andThen_ok,List.map_toArray,List.map_cons,List.map_nil,hd,hs,hr];exact hK _ _ h
theorem ZI {w:World} {ops:Array Oper} {o:Oper} {a:Act} {K:Act->World->Prop} {Q:Exit->Act->World->Prop} {E:Prop}
 (hg:o.guard=none) (d x:Operand) (dT sT:TypeId) (hop:o.op= .call {callee:= .builtin .copy,args:= #[d,x],argTypes:= #[dT,sT]})
 (v u:Value) (hd:a.eval d=v) (hx:a.eval x=u) {v':Value} {w':World} (hr:(Builtin.copy_ #[dT,sT] o.type #[v,u]).run P w= .ok v' w') (hK:K (a.put o.dst v') w'):
 if Region.wanted o (yielded ops a.tmps)=true then Oper.wp P o a w K Q else E:=by
 rw[if_pos (by simp[Region.wanted,hg])];unfold Oper.wp execOp;simp only[hop,resolve,invoke,builtin,Sem.run_bind,Sem.run_pure,Result.andThen_ok,List.map_toArray,List.map_cons,List.map_nil,hd,hx,hr];exact hK
theorem G5 {w:World} {ops:Array Oper} {o:Oper} {a:Act} {K:Act->World->Prop} {Q:Exit->Act->World->Prop} {E:Prop}
 (hg:o.guard=none) (d x:Operand) (dT sT:TypeId) (hop:o.op= .call {callee:= .builtin .append,args:= #[d,x],argTypes:= #[dT,sT]})
 (v u:Value) (hd:a.eval d=v) (hx:a.eval x=u) {v':Value} {w':World} (hr:(Builtin.append_ #[dT,sT] o.type #[v,u]).run P w= .ok v' w') (hK:K (a.put o.dst v') w'):
 if Region.wanted o (yielded ops a.tmps)=true then Oper.wp P o a w K Q else E:=by
 rw[if_pos (by simp[Region.wanted,hg])];unfold Oper.wp execOp;simp only[hop,resolve,invoke,builtin,Sem.run_bind,Sem.run_pure,Result.andThen_ok,List.map_toArray,List.map_cons,List.map_nil,hd,hx,hr];exact hK
theorem Mm (g:Nat):∀(vs:List Value) (o:Nat) (w:World),(w.drew.setCells g o vs).heap=(w.setCells g o vs).heap
 | [],_,_=>rfl
 | v::vs,o,w=>Mm g vs (o+1) (w.setCell ⟨g,o,none⟩ v)
theorem Qi0 (hu:P.underlying t=some (.slice e)) (hO:OneAt w ei.size oa cap vb voff vs):Src P ei.size t (.slice (some ⟨vb,voff,none⟩) 1 vc) 1 vs w:=
 Src.ofSlice w hu _ _ _ _ (by rw[hO.len];omega) (fun j u hj=>by rw[Addr.add_lit];exact hO.cells j u hj) hO.ones
theorem Qff (hu:P.underlying t=some (.slice e)) (hei:TiOk P e ei) (hn:0<ei.size) (hR:RowAt w ei.size oa m cap olds) (hO:OneAt w ei.size oa cap vb voff vs):
 ∃u w',(∀ty,(Builtin.append_ #[t,t] ty #[.slice oa m cap, .slice (some ⟨vb,voff,none⟩) 1 vc]).run P w= .ok u w')/\SB w ei.size m oa m cap olds vs (.returned u) w':=by
 have hold:∀ad,oa=some ad->∀(j:Nat) (u:Value),olds[j]? =some u->w.cell? (ad.add j)=some u:=fun ad had j u hj=>by
  rcases hR.row with ⟨_,h0,_⟩ | ⟨g,cur,e0,h1,h2,h3,h4⟩
  . have:=hR.len;rw[h0,Nat.zero_mul] at this;rw[List.length_eq_zero_iff.1 this] at hj;simp at hj
  rw[had] at h1;obtain rfl:=Option.some.inj h1;rw[←h4] at hj;exact Nh h2 _ j u hj
 obtain ⟨g',cap',cur',e',w',hr,h1,h2,h3,h4,h5,h6,h7,h8,h9,h10⟩:=HK (ty:=0) hu hei hn hR.len hold (fun h=>by
  rcases hR.row with ⟨_,h0,_⟩ | ⟨g,cur,e0,h1,_⟩
  . exact h0
  rw[h] at h1;cases h1) (hR.row.imp (fun h=>h.2.2) fun h=>h) hR.le (Qi0 (vc:=vc) hu hO) (by have:=hR.lim;omega) (fun _=>by omega) hR.cap
 refine ⟨_,w',fun ty=>hr,_,rfl,⟨h6,h7,h8,h9,g',cap',cur',e',rfl,h1,h2, ?_,h4,h5, ?_⟩⟩
 . rw[h3,List.take_of_length_le (by rw[hR.len];omega),List.drop_of_length_le (by rw[hR.len];omega),List.append_nil]
 exact h10.imp (fun ⟨cur,e0,h1,h2,h3,h4⟩=>⟨h1,by omega,h4⟩) fun ⟨h1,h2,h3⟩=>⟨by omega,h2,h3⟩
variable {g:Nat} {cur:Array Value} {e0:TypeId}
theorem WE (hg:w.heap[g]? =some (.cells cur e0 (0,0))) (htk:cur.toList.take (m*ei.size)=olds) {k:Nat}:∀(j:Nat) (u:Value),(olds.drop k)[j]? =some u->w.cell? ((⟨g,k,none⟩:Addr).add j)=some u:=fun j u hj=>by
 rw[List.getElem?_drop,←htk] at hj;have:=Nh hg _ _ u hj;rw[Addr.add_lit,Nat.zero_add] at this;rw[Addr.add_lit];exact this
theorem H4 (g:Nat):∀(vs:List Value) (o:Nat) (w:World),(w.setCells g o vs).os=w.os/\(w.setCells g o vs).tape=w.tape/\(w.setCells g o vs).output=w.output
 | [],_,_=>⟨rfl,rfl,rfl⟩
 | v::vs,o,w=>H4 g vs (o+1) (w.setCell ⟨g,o,none⟩ v)
theorem GB (hu:P.underlying t=some (.slice e)) (hei:TiOk P e ei) (hn:0<ei.size) (hg:w.heap[g]? =some (.cells cur e0 (0,0))) (hcs:cur.size=cap*ei.size) (htk:cur.toList.take (m*ei.size)=olds)
 (hR:RowAt w ei.size (some ⟨g,0,none⟩) m cap olds) (hO:OneAt w ei.size (some ⟨g,0,none⟩) cap vb voff vs) (hi:i<m) (hroom:m+1<=cap):
 (∀ty dc sc,(Builtin.copy_ #[t,t] ty #[.slice (some ⟨g,(i+1)*ei.size,none⟩) (m+1-(i+1)) dc, .slice (some ⟨g,i*ei.size,none⟩) (m+1-i) sc]).run P w= .ok (goInt (Nat.min (m+1-i) (m+1-(i+1)))) (w.setCells g ((i+1)*ei.size) (olds.drop (i*ei.size))))/\
 (∀W:World,W.heap=(w.setCells g ((i+1)*ei.size) (olds.drop (i*ei.size))).heap->∀ty dc,(Builtin.copy_ #[t,t] ty #[.slice (some ⟨g,i*ei.size,none⟩) (m+1-i) dc, .slice (some ⟨vb,voff,none⟩) 1 vc]).run P W= .ok (goInt (Nat.min 1 (m+1-i))) (W.setCells g (i*ei.size) vs))/\
 (∀W:World,W.heap=(w.setCells g ((i+1)*ei.size) (olds.drop (i*ei.size))).heap->W.os=w.os->W.tape=w.tape->W.output=w.output->SB w ei.size i (some ⟨g,0,none⟩) m cap olds vs (.returned (.slice (some ⟨g,0,none⟩) (m+1) cap)) (W.setCells g (i*ei.size) vs)):=by
 obtain ⟨inf,z,hI,hsz,_⟩:=hei.info;obtain ⟨k1,k2,k3,k4⟩:=Qiz (n:=ei.size) hi;have k5:m*ei.size+ei.size<=cap*ei.size:=by rw[←k4];exact Nat.mul_le_mul_right _ hroom
 have hdl:(olds.drop (i*ei.size)).length=(m-i)*ei.size:=by rw[List.length_drop,hR.len,k3]
 have hfit1:(i+1)*ei.size+(olds.drop (i*ei.size)).length<=cur.size:=by rw[hdl];omega
 have hmin:Nat.min (m+1-i) (m+1-(i+1))=m-i:=by simp only[Nat.min_def];split<;>omega
 have hmin1:Nat.min 1 (m+1-i)=1:=by simp only[Nat.min_def];split<;>omega
 have hvb:vb≠g:=hO.ne g rfl (by omega);have hg1:=Wk g (olds.drop (i*ei.size)) ((i+1)*ei.size) w hg;have hfit2:i*ei.size+vs.length<=(putCells cur ((i+1)*ei.size) (olds.drop (i*ei.size))).size:=by rw[V6,hO.len];omega
 refine ⟨fun ty dc sc=> ?_,fun W hW ty dc=> ?_,fun W hW ho ht hu'=> ?_⟩
 . exact JV w t t ty e inf g _ _ dc ⟨g,i*ei.size,none⟩ _ sc _ hu hI (by rw[hmin,hdl,hsz]) (WE hg htk) hg hfit1 fun v hv=>hR.ones v (List.mem_of_mem_drop hv)
 . refine JV W t t ty e inf g _ _ dc ⟨vb,voff,none⟩ _ vc _ hu hI (by rw[hmin1,hO.len,hsz,Nat.one_mul]) (fun j v hj=> ?_) (hW▸hg1) hfit2 hO.ones;rw[Addr.add_lit,World.cell?_of_block (w:=w) (by rw[hW];exact K9 g hvb _ _ _)];exact hO.cells j v hj
 obtain ⟨p1,p2,p3⟩:=H4 g vs (i*ei.size) W;have hg2:=Wk g vs (i*ei.size) W (hW▸hg1);refine ⟨_,rfl,⟨p1.trans ho,p2.trans ht,p3.trans hu', ?_,g,cap,_,e0,rfl,hg2,by rw[V6,V6];exact hcs, ?_,hroom,hR.cap, .inl ⟨rfl,by omega,fun b hb=> ?_⟩⟩⟩
 . rw[Ba,hW,Ba];exact Nat.le_refl _
 . have hci:cur.toList.take (i*ei.size)=olds.take (i*ei.size):=by
    rw[←htk,List.take_take];congr 1;omega
   have hA:((cur.toList.take ((i+1)*ei.size)++olds.drop (i*ei.size))++cur.toList.drop ((i+1)*ei.size+(olds.drop (i*ei.size)).length)).take (i*ei.size)=olds.take (i*ei.size):=by
    have hl:(cur.toList.take ((i+1)*ei.size)).length=(i+1)*ei.size:=by rw[List.length_take,Array.length_toList];omega
    rw[List.append_assoc,List.take_append_of_le_length (by rw[hl];omega),List.take_take,←hci];congr 1;omega
   have hB:((cur.toList.take ((i+1)*ei.size)++olds.drop (i*ei.size))++cur.toList.drop ((i+1)*ei.size+(olds.drop (i*ei.size)).length)).drop (i*ei.size+vs.length)=olds.drop (i*ei.size)++cur.toList.drop ((i+1)*ei.size+(olds.drop (i*ei.size)).length):=by
    have hl:(cur.toList.take ((i+1)*ei.size)).length=i*ei.size+vs.length:=by rw[List.length_take,Array.length_toList,hO.len];omega
    rw[List.append_assoc,←hl,List.drop_left]
   rw[H7 hfit2,H7 hfit1,hA,hB]
   have hl3:(olds.take (i*ei.size)++vs++olds.drop (i*ei.size)).length=(m+1)*ei.size:=by
    rw[List.length_append,List.length_append,hdl,hO.len,List.length_take,hR.len,k3];omega
   rw[←List.append_assoc,←hl3,List.take_left]
 rw[K9 g hb,hW,K9 g hb]
theorem Qb7 {tn:TypeId} (hu:P.underlying t=some (.slice e)) (htn:P.underlying tn=some (.int .i64)) (hei:TiOk P e ei) (hn:0<ei.size) (hg:w.heap[g]? =some (.cells cur e0 (0,0))) (hcs:cur.size=cap*ei.size) (htk:cur.toList.take (m*ei.size)=olds)
 (hR:RowAt w ei.size (some ⟨g,0,none⟩) m cap olds) (hO:OneAt w ei.size (some ⟨g,0,none⟩) cap vb voff vs) (hvw:vb<w.heap.size) (hi:i<m) (hroom:cap<m+1):
 ∃G W1,m+1<=G/\G<=maxLen/\(∀ty k,k=((m+1-i:Nat):Int)->(Builtin.append_ #[t,tn] ty #[.slice (some ⟨g,0,none⟩) i cap, .int .i64 k]).run P w= .ok (.slice (some ⟨w.heap.size,0,none⟩) (m+1) G) W1)/\
 (∀W:World,W.heap=W1.heap->∀ty dc,(Builtin.copy_ #[t,t] ty #[.slice (some ⟨w.heap.size,i*ei.size,none⟩) (m+1-i) dc, .slice (some ⟨vb,voff,none⟩) 1 vc]).run P W= .ok (goInt (Nat.min 1 (m+1-i))) (W.setCells w.heap.size (i*ei.size) vs))/\
 (∀W:World,W.heap=(W1.setCells w.heap.size (i*ei.size) vs).heap->∀ty dc sc,(Builtin.copy_ #[t,t] ty #[.slice (some ⟨w.heap.size,(i+1)*ei.size,none⟩) (m+1-(i+1)) dc, .slice (some ⟨g,i*ei.size,none⟩) (m-i) sc]).run P W= .ok (goInt (Nat.min (m-i) (m+1-(i+1)))) (W.setCells w.heap.size ((i+1)*ei.size) (olds.drop (i*ei.size))))/\
 (∀W:World,W.heap=(W1.setCells w.heap.size (i*ei.size) vs).heap->W.os=w.os->W.tape=w.tape->W.output=w.output->SB w ei.size i (some ⟨g,0,none⟩) m cap olds vs (.returned (.slice (some ⟨w.heap.size,0,none⟩) (m+1) G)) (W.setCells w.heap.size ((i+1)*ei.size) (olds.drop (i*ei.size))))/\
 W1.os=w.os/\W1.tape=w.tape/\W1.output=w.output:=by
 obtain ⟨inf,z,hI,hsz,hby,hz,hzs,_⟩:=hei.info;obtain ⟨k1,k2,k3,k4⟩:=Qiz (n:=ei.size) hi;have hlim:=hR.lim;have hle:=hR.le;have hgw:g<w.heap.size:=Xn hg;have hdl:(olds.drop (i*ei.size)).length=(m-i)*ei.size:=by rw[List.length_drop,hR.len,k3]
 have htl:(olds.take (i*ei.size)).length=i*ei.size:=by rw[List.length_take,hR.len];omega
 have hmin:Nat.min (m-i) (m+1-(i+1))=m-i:=by simp only[Nat.min_def];split<;>omega
 have hmin1:Nat.min 1 (m+1-i)=1:=by simp only[Nat.min_def];split<;>omega
 have hold:(Builtin.firstCells inf.size i (.slice (some ⟨g,0,none⟩) i cap)).run P w.drew= .ok (olds.take (i*ei.size)).toArray w.drew:=by
  refine run_firstCells_some w.drew inf.size i ⟨g,0,none⟩ i cap _ (by rw[htl,hsz]) fun j u hj=> ?_
  rw[List.getElem?_take] at hj;split at hj
  . rw[←htk] at hj;exact Nh hg _ j u hj
  cases hj
 have hik:i+(m+1-i)=m+1:=by omega
 have hbytes:((m+1)+(m+1) / 4+192)*inf.bytes<=281474976710656:=Nat.le_trans (Nat.mul_le_mul (show _<=1342177472 by omega) hby) (by decide);have hkb:(m+1-i)*inf.bytes<=281474976710656:=Nat.le_trans (Nat.mul_le_mul_right _ (by omega)) hbytes
 have hap:∀ty,(Builtin.append_ #[t,tn] ty #[.slice (some ⟨g,0,none⟩) i cap, .int .i64 ((m+1-i:Nat):Int)]).run P w=_:=fun ty=>
  Lib.run_append_grow_zeros w t tn ty e inf z .i64 .i64 hu htn hI hz (some ⟨g,0,none⟩) i cap (olds.take (i*ei.size)) hold (m+1-i) (by omega) (by omega) (by omega) (by omega) hkb (by rw[hik];exact growslice_fits_wide hroom hbytes)
 rw[hik] at hap;obtain ⟨G,hG⟩:∃G,G=grownCap w (m+1) cap e:=⟨_,rfl⟩;have hGn:m+1<=G:=by rw[hG];exact grownCap_ge w _ _ _
 have hGm:G<=maxLen:=by rw[hG];exact grownCap_le_maxLen w _ _ _ (by unfold maxLen;omega)
 rw[←hG] at hap;obtain ⟨ROW,hROW⟩:∃ROW:Array Value,ROW=(olds.take (i*ei.size)).toArray++Builtin.zeroCells z.cells (m+1-i)++Builtin.zeroCells z.cells (G-(m+1)):=⟨_,rfl⟩;rw[←hROW] at hap
 have hRs:ROW.size=G*ei.size:=by
  rw[hROW];simp only[Array.size_append,List.size_toArray,size_zeroCells,hzs,htl,←Nat.add_mul]
  congr 1
  omega
 have hRt:ROW.toList.take (i*ei.size)=olds.take (i*ei.size):=by
  rw[hROW,Array.toList_append,Array.toList_append,List.append_assoc];show (olds.take (i*ei.size)++_).take _=_;rw[List.take_append_of_le_length (by rw[htl];omega),List.take_of_length_le (by rw[htl];omega)]
 have hGe:(m+1)*ei.size<=G*ei.size:=Nat.mul_le_mul_right _ hGn;obtain ⟨W1,hW1⟩:∃W1,W1=w.drew.alloc (.cells ROW e):=⟨_,rfl⟩;rw[←hW1] at hap;have hn1:W1.heap[w.heap.size]? =some (.cells ROW e (0,0)):=by rw[hW1];exact heap_alloc_new w.drew _
 have ho1:∀b,b<w.heap.size->W1.heap[b]? =w.heap[b]? :=fun b hb=>by rw[hW1];exact heap_alloc_old w.drew _ hb
 have hs1:W1.heap.size=w.heap.size+1:=by rw[hW1];simp
 have hfitA:i*ei.size+vs.length<=ROW.size:=by rw[hO.len,hRs];omega
 have hg2:=Wk w.heap.size vs (i*ei.size) W1 hn1;have hfitB:(i+1)*ei.size+(olds.drop (i*ei.size)).length<=(putCells ROW (i*ei.size) vs).size:=by rw[V6,hdl,hRs];omega
 refine ⟨G,W1,hGn,hGm,fun ty k hk=>by subst hk;exact hap ty,fun W hW ty dc=> ?_,fun W hW ty dc sc=> ?_,fun W hW ho ht hu'=> ?_,by rw[hW1];rfl,by rw[hW1];rfl,by rw[hW1];rfl⟩
 . refine JV W t t ty e inf _ _ _ dc ⟨vb,voff,none⟩ _ vc _ hu hI (by rw[hmin1,hO.len,hsz,Nat.one_mul]) (fun j v hj=> ?_) (hW▸hn1) hfitA hO.ones;rw[Addr.add_lit,World.cell?_of_block (w:=w) (by rw[hW];exact ho1 _ hvw)];exact hO.cells j v hj
 . refine JV W t t ty e inf _ _ _ dc ⟨g,i*ei.size,none⟩ _ sc _ hu hI (by rw[hmin,hdl,hsz]) (fun j v hj=> ?_) (hW▸hg2) hfitB fun v hv=>hR.ones v (List.mem_of_mem_drop hv)
   have:=WE hg htk j v hj;rw[Addr.add_lit] at this⊢;rw[World.cell?_of_block (w:=w) (by rw[hW];exact (K9 w.heap.size (show g≠w.heap.size by omega) _ _ _).trans (ho1 _ hgw))];exact this
 obtain ⟨p1,p2,p3⟩:=H4 w.heap.size (olds.drop (i*ei.size)) ((i+1)*ei.size) W;have hg3:=Wk w.heap.size (olds.drop (i*ei.size)) ((i+1)*ei.size) W (hW▸hg2);have hsz3:(W.setCells w.heap.size ((i+1)*ei.size) (olds.drop (i*ei.size))).heap.size=w.heap.size+1:=by rw[Ba,hW,Ba,hs1]
 refine ⟨_,rfl,⟨p1.trans ho,p2.trans ht,p3.trans hu',by omega,w.heap.size,G,_,e,rfl,hg3,by rw[V6,V6];exact hRs, ?_,hGn,hGm, .inr ⟨Nat.le_refl _,by omega,fun b hb=> ?_⟩⟩⟩
 . rw[H7 hfitB,H7 hfitA,hRt];have hl:(olds.take (i*ei.size)++vs).length=(i+1)*ei.size:=by rw[List.length_append,htl,hO.len];omega
   rw[show ((olds.take (i*ei.size)++vs++ROW.toList.drop (i*ei.size+vs.length)).take ((i+1)*ei.size))=olds.take (i*ei.size)++vs from by rw[←hl,List.take_left]]
   have hl3:(olds.take (i*ei.size)++vs++olds.drop (i*ei.size)).length=(m+1)*ei.size:=by
    rw[List.length_append,List.length_append,hdl,hO.len,htl,k3];omega
   rw[←hl3,List.take_left]
 rw[K9 _ (show b≠w.heap.size by omega),hW,K9 _ (show b≠w.heap.size by omega)];exact ho1 b hb
theorem PA {z1:Nat} {z2:List C} {z3:List LK} {tt:List (Nat×TI)} (htt:Me P tt=true) (g1:get tt t=some ⟨.sli e,z1,z2,z3⟩) (g2:get tt e=some ei) (hn:0<ei.size) (hg:w.heap[g]? =some (.cells cur e0 (0,0))) (hcs:cur.size=cap*ei.size) (htk:cur.toList.take (m*ei.size)=olds)
 (hR:RowAt w ei.size (some ⟨g,0,none⟩) m cap olds) (hi:i<m):
 ∃W1,(∀ty ad,(cap=i+1\/ad=⟨g,(i+1)*ei.size,none⟩)->(Builtin.append_ #[t,t] ty #[.slice (some ⟨g,0,none⟩) i cap, .slice (some ad) (m-(i+1)) (cap-(i+1))]).run P w= .ok (.slice (some ⟨g,0,none⟩) (m-1) cap) W1)/\W1.os=w.os/\W1.tape=w.tape/\W1.output=w.output/\
 ∀ W:World,W.heap=W1.heap->W.os=w.os->W.tape=w.tape->W.output=w.output->∃W2:World,(∀ty,(Builtin.clear_ #[t] ty #[.slice (some ⟨g,(m-1)*ei.size,none⟩) (m-(m-1)) (cap-(m-1))]).run P W= .ok (.tuple #[]) W2)/\
   ∀W3:World,W3.heap=W2.heap->W3.os=W2.os->W3.tape=W2.tape->W3.output=W2.output->MF w ei.size i (some ⟨g,0,none⟩) m cap olds (.returned (.slice (some ⟨g,0,none⟩) (m-1) cap)) W3:=by
 have hei:=Zl htt g2;have hu:=(Zl htt g1).sli;obtain ⟨inf,z,hI,hsz,hby,hz,hzs,_⟩:=hei.info;obtain ⟨k1,k2,k3,k4⟩:=Qiz (n:=ei.size) hi;have hle:=hR.le;have hlim:=hR.lim;have k6:m*ei.size<=cap*ei.size:=Nat.mul_le_mul_right _ hle;have k7:(m-1)*ei.size=m*ei.size-ei.size:=by rw[Nat.sub_mul,Nat.one_mul]
 have k8:(m-(i+1))*ei.size=m*ei.size-(i+1)*ei.size:=Nat.sub_mul ..;have hdl:(olds.drop ((i+1)*ei.size)).length=(m-(i+1))*ei.size:=by rw[List.length_drop,hR.len,k8]
 have hfit:i*ei.size+(olds.drop ((i+1)*ei.size)).length<=cur.size:=by rw[hdl,hcs];omega
 have hg1:=Wk g (olds.drop ((i+1)*ei.size)) (i*ei.size) w hg;have hcs1:(putCells cur (i*ei.size) (olds.drop ((i+1)*ei.size))).size=cap*ei.size:=by rw[V6];exact hcs
 obtain ⟨q1,q2,q3⟩:=H4 g (olds.drop ((i+1)*ei.size)) (i*ei.size) w
 have hlist:(putCells cur (i*ei.size) (olds.drop ((i+1)*ei.size))).toList.take ((m-1)*ei.size)=olds.take (i*ei.size)++olds.drop ((i+1)*ei.size):=by
  have hci:cur.toList.take (i*ei.size)=olds.take (i*ei.size):=by
   rw[←htk,List.take_take];congr 1;omega
  have hl:(olds.take (i*ei.size)++olds.drop ((i+1)*ei.size)).length=(m-1)*ei.size:=by
   rw[List.length_append,hdl,List.length_take,hR.len];omega
  rw[H7 hfit,hci,←hl,List.take_left]
 refine ⟨w.setCells g (i*ei.size) (olds.drop ((i+1)*ei.size)),fun ty ad had=> ?_,q1,q2,q3,fun W hW ho ht hu'=> ?_⟩
 . have hs:Src P inf.size t (.slice (some ad) (m-(i+1)) (cap-(i+1))) (m-(i+1)) (olds.drop ((i+1)*ei.size)) w:=by
    refine Src.ofSlice w hu _ _ _ _ (by rw[hdl,hsz]) (fun j u hj=> ?_) fun u hu=>hR.ones u (List.mem_of_mem_drop hu)
    rcases had with had | rfl
    . have:(olds.drop ((i+1)*ei.size)).length=0:=by rw[hdl,show m-(i+1)=0 by omega,Nat.zero_mul]
      rw[List.length_eq_zero_iff.1 this] at hj;simp at hj
    exact WE hg htk j u hj
   have hr:=run_append_room_src (P:=P) w t t ty e inf hu hI g 0 i cap _ _ _ hs (by omega) (fun j hj=>by
    rw[hsz];have:0+i*ei.size+j<cur.size:=by omega
    simp only[World.cell?,hg,Array.getElem?_eq_getElem this];rfl) (fun j hj=>by simp[World.frozen?,hg])
   rw[hsz,Nat.zero_add,show i+(m-(i+1))=m-1 by omega] at hr;exact hr
 obtain ⟨zs,ps,hzl,hpl,hzv,hrun⟩:=FZ (P:=P) (w:=W) (m:=m) (i:=m-1) htt g1 g2 rfl (hW▸hg1) hcs1 (by omega) hle 0;refine ⟨_,fun ty=>hrun,fun W3 h3 o3 t3 u3=> ?_⟩;have hgw:=setRow_heap W g _ ((putCells cur (i*ei.size) (olds.drop ((i+1)*ei.size))).toList.take ((m-1)*ei.size)++(List.replicate (m-(m-1)) zs).flatten++(putCells cur (i*ei.size) (olds.drop ((i+1)*ei.size))).toList.drop ((m-1)*ei.size+(m-(m-1))*ei.size)).toArray e0 (0,0) (hW▸hg1);rw[←h3] at hgw
 have hfl:((List.replicate (m-(m-1)) zs).flatten).length=(m-(m-1))*ei.size:=by
  rw[List.length_flatten,List.map_replicate,hzl];simp
 have h5:(m-(m-1))*ei.size=ei.size:=by rw[show m-(m-1)=1 by omega,Nat.one_mul]
 refine ⟨_,rfl,⟨o3.trans ho,t3.trans ht,u3.trans hu', ?_,g,cap,_,e0,rfl,hgw, ?_, ?_,by omega,hR.cap, .inl ⟨rfl,by omega,fun b hb=> ?_⟩⟩⟩
 . rw[h3];simp only[World.setRow,Array.size_modify];rw[hW,Ba];exact Nat.le_refl _
 . simp only[List.size_toArray,List.length_append,hfl,List.length_take,List.length_drop,Array.length_toList,hcs1];omega
 . show ((_:List Value)++_++_).take _=_
   have hl:((putCells cur (i*ei.size) (olds.drop ((i+1)*ei.size))).toList.take ((m-1)*ei.size)).length=(m-1)*ei.size:=by
    rw[List.length_take,Array.length_toList,hcs1];omega
   rw[List.append_assoc,List.take_append_of_le_length (by rw[hl];omega),List.take_of_length_le (by rw[hl];omega),hlist]
 rw[h3,setRow_other W g b _ hb,hW,K9 g hb]
def Mf {α:Type} (l:List α) (j:Nat) (y:α):List α:=l.take j++ [y]++l.drop j
def UR {α:Type} (l:List α) (j:Nat):List α:=l.take j++l.drop (j+1)
theorem SC {α:Type} [GoE α] {f n:Nat} (hok:My P f) (h0:0<n)
 (hrun:∀w oa m cap olds i vb voff vc vs,RowAt w n oa m cap olds->OneAt w n oa cap vb voff vs->i<=m->Calls P f #[.slice oa m cap, .int .i64 (i:Int), .slice (some ⟨vb,voff,none⟩) 1 vc] w (SB w n i oa m cap olds vs))
 (l:List α) (y:α) {i:Int} (hi:0<=i) (hj:i<=l.length) (hl:l.length<1073741824):ATake P f n (eL l) [.one (.int .i64 i), .one (.slc .sh n (eL [y]))] true false (eL (Mf l i.toNat y)):=by
 have h:=Qb5 hok h0 hrun (l:=eL l) (x:=GoE.enc y) (i:=i) (j:=i.toNat) (by omega) (by simp[eL];omega) (by simpa [eL] using hl);rw[show eL (Mf l i.toNat y)=(eL l).take i.toNat++ [GoE.enc y]++(eL l).drop i.toNat by simp[Mf,eL,List.map_take,List.map_drop]];exact h
theorem BD {α:Type} [GoE α] {f n:Nat} (hok:My P f)
 (hrun:∀w oa m cap olds i,RowAt w n oa m cap olds->i<m->Calls P f #[.slice oa m cap, .int .i64 (i:Int), .int .i64 ((i:Int)+1)] w (MF w n i oa m cap olds))
 (l:List α) {i k:Int} (hi:0<=i) (hk:k=i+1) (hj:i<l.length) (hl:l.length<1073741824):ATake P f n (eL l) [.one (.int .i64 i), .one (.int .i64 k)] true false (eL (UR l i.toNat)):=by
 have h:=Qb6 hok hrun (l:=eL l) (i:=i) (k:=k) (j:=i.toNat) (by omega) (by omega) (by simp[eL];omega) (by simpa [eL] using hl);rw[show eL (UR l i.toNat)=(eL l).take i.toNat++(eL l).drop (i.toNat+1) by simp[UR,eL,List.map_take,List.map_drop]];exact h
end
end Go.Proofs.YtkekndahbiefaaaGreatDoor
namespace Go.Proofs.YtkekndahbiefaaaGreatDoor
open Go.RowKit
theorem SD {P:Program} {f n:Nat} {l l':List (List PV)} {args:List AV} (h:ATake P f n l args true false l') (hf:Gy l'):ATake P f n l args false false l':=by
 refine ⟨h.1,fun w F G L v vals hok hFG _ hGs hnd hLG hrow hargs=> ?_⟩;refine (h.2 w G G L v vals hok (fun _ h=>h) (fun _ _ h=>h) hGs hnd hLG (OwnTop.keep hrow (fun b hb=>⟨hFG b hb,rfl⟩) fun _ _=>rfl) hargs).mono ?_
 rintro e w' ⟨u,rfl,h1,h2,L',h3,h4,h5⟩
 refine ⟨u,rfl,h1,h2,L',h3,h4, ?_⟩;rcases h5 with h5 | ⟨g,cap,cur,e,rfl,rfl,hg,hs,hr,h5,h6⟩
 . exact .inl h5
 exact .inr ⟨g,cap,cur,e,rfl,rfl,hg,hs,OR.vr (VR.orr (w':=w') hr hf) fun b hb=>(by simp at hb),h5,h6⟩
theorem Qkd {n:Nat} {hi:Int} (h0:0<=hi) (h1:hi<=(n:Int)):(0:Int)<=0/\0<=hi/\hi<=(n:Int):=⟨Int.le_refl _,h0,h1⟩
section
variable {α:Type} {p:α->Bool}
def ixF (p:α->Bool):List α->Int
 | []=> -1
 | a::l=>bif p a then 0 else bif ixF p l== -1 then-1 else ixF p l+1
theorem ZJ (p:α->Bool):∀l:List α,-1<=ixF p l/\ixF p l<l.length
 | []=>by simp[ixF]
 | a ::l=>by
   have ih:=ZJ p l;simp only[ixF,List.length_cons];cases p a with
   | true=>simp only[cond_true];omega
   | false=>
     simp only[cond_false];cases h:(ixF p l== -1) with
     | true=>simp only[cond_true];omega
     | false=>simp only[cond_false];omega
theorem Qhd {f:Nat->α->Unit->Rd Int Unit Unit} {e:Nat->Unit->Unit} (hf:∀k a s,f k a s=bif p a then .ret ((k:Nat):Int) else .next ()):∀(l:List α) (k:Nat),Xp f e l k ()=bif ixF p l== -1 then .brk () else .ret ((k:Int)+ixF p l)
 | [],k=>rfl
 | a :: l,k=>by
   simp only[Xp,hf,ixF];cases p a with
   | true=>simp only[cond_true];rw[show ((0:Int)== -1)=false from rfl,cond_false,Int.add_zero]
   | false=>
     simp only[cond_false];rw[Qhd hf l (k+1)];have hb:=ZJ p l;cases h:(ixF p l== -1) with
     | true=>simp only[cond_true];rfl
     | false=>
       have hne:ixF p l≠-1:=by simpa using h
       simp only[cond_false];rw[show (ixF p l+1== -1)=false by simp;omega,cond_false]
       congr 1;omega
theorem Qb8 {f:Nat->α->Unit->Rd Int Unit Unit} {e:Nat->Unit->Unit} (hf:∀k a s,f k a s=bif p a then .ret ((k:Nat):Int) else .next ()) (l:List α):Out.on (Xp f e l 0 ()) (fun _=> -1)=ixF p l:=by
 rw[Qhd hf];cases h:(ixF p l== -1) with
 | true=>simp only[cond_true,Out.on];exact (by simpa using h:ixF p l= -1).symm
 | false=>simp only[cond_false,Out.on];omega
theorem Qfg {l :List α} (h:ixF p l= -1):∀a,a∈l->p a=false:=by
 induction l with
 | nil=>intro a ha;simp at ha
 | cons b l ih =>
   intro a ha;have hb:=ZJ p l;simp only[ixF] at h;cases hp:p b with
   | true=>rw[hp] at h;simp at h
   | false=>
     rw[hp] at h;simp only[cond_false] at h;cases h2:(ixF p l== -1) with
     | true => rcases List.mem_cons.1 ha with rfl | ha
               . exact hp
               exact ih (by simpa using h2) a ha
     | false=>rw[h2] at h;simp only[cond_false] at h;omega
theorem Qfh {l:List α} {i:Nat} (h:ixF p l=(i:Int)):(l.take i).filter (fun a=> !p a)=l.take i/\∃a,l[i]? =some a/\p a=true:=by
 induction l generalizing i with
 | nil=>simp[ixF] at h
 | cons b l ih=>
   have hb:=ZJ p l;simp only[ixF] at h;cases hp:p b with
   | true=>
     rw[hp] at h;simp only[cond_true] at h;obtain rfl:i=0:=by omega
     exact ⟨rfl,b,rfl,hp⟩
   | false=>
     rw[hp] at h;simp only[cond_false] at h;cases h2:(ixF p l== -1) with
     | true=>rw[h2] at h;simp only[cond_true] at h;omega
     | false=>
       rw[h2] at h;simp only[cond_false] at h;have:ixF p l≠-1:=by simpa using h2
       obtain ⟨j,rfl⟩:∃j,i=j+1:=⟨i-1,by omega⟩;obtain ⟨h3,a,h4,h5⟩:=ih (i:=j) (by omega);exact ⟨by simp[hp,h3],a,by simpa using h4,h5⟩
theorem PB {R S T:Type} {f:S->Rd R S T}:∀{n m:Nat} {s:S} {x:Out R T},whl f n s=some x->n<=m->whl f m s=some x
 | 0,_,_,_,h,_=>by simp[whl] at h
 | n+1,0,_,_,_,hm=>absurd hm (Nat.not_succ_le_zero n)
 | n+1,m+1,s,x,h,hm=>by
   simp only[whl] at h⊢;cases hf:f s with
   | brk t=>rw[hf] at h;exact h
   | ret r=>rw[hf] at h;exact h
   | next s'=>rw[hf] at h;exact PB h (by omega)
variable [Inhabited α]
def WF {R:Type} (f:List α×Int×Int->Rd R (List α×Int×Int) (List α×Int)) (p:α->Bool):Prop:=
 ∀(s:List α) (i j:Nat),i<j->j<=1073741824->f (s,(i:Int),(j:Int))=bif decide ((j:Int)<(s.length:Int)) then (bif p (nth s j) then .next (s,(i:Int),((j+1:Nat):Int)) else .next (s.set i (nth s j),((i+1:Nat):Int),((j+1:Nat):Int))) else .brk (s,(i:Int))
theorem MG {R:Type} {f:List α×Int×Int->Rd R (List α×Int×Int) (List α×Int)} (hf:WF f p) (o:List α) (ho:o.length<=1073741824):∀(n:Nat) (s:List α) (i j:Nat),j+n=o.length->i<j->s.length=o.length->s.take i=(o.take j).filter (fun a=> !p a)->s.drop j=o.drop j->
 ∃s' i',whl f (n+1) (s,(i:Int),(j:Int))=some (.brk (s',((i':Nat):Int)))/\s'.take i'=o.filter (fun a=> !p a)/\i'<o.length/\s'.length=o.length
 | 0,s,i,j,hn,hij,hl,ht,hd=>by
   refine ⟨s,i, ?_, ?_,by omega,hl⟩
   . simp only[whl,hf s i j hij (by omega)];rw[decide_eq_false (by omega)];rfl
   rw[ht,List.take_of_length_le (by omega)]
 | n +1,s,i,j,hn,hij,hl,ht,hd=>by
   have hj:j<s.length:=by omega
   have hjo:j<o.length:=by omega
   have hx:nth s j=o[j]:=by
    have h1:s[j]? =o[j]? :=by
     have:=congrArg (fun l=>l[0]?) hd;simpa [List.getElem?_drop] using this
    rw[List.getElem?_eq_getElem hjo] at h1;simp[nth,List.getD,h1]
   have htj:o.take (j+1)=o.take j++ [o[j]]:=by rw[List.take_add_one,List.getElem?_eq_getElem hjo];rfl
   have hd1:∀s2:List α,s2.drop (j+1)=s.drop (j+1)->s2.drop (j+1)=o.drop (j+1):=fun s2 h2=>by
    have:=congrArg (List.drop 1) hd;rw[List.drop_drop,List.drop_drop] at this;exact h2.trans this
   have hst:f (s,(i:Int),(j:Int))=_:=hf s i j hij (by omega);rw[decide_eq_true (by omega),hx] at hst;simp only[cond_true] at hst;cases hp:p o[j] with
   | true=>
     rw[hp] at hst;simp only[whl,hst,cond_true];exact MG hf o ho n s i (j+1) (by omega) (by omega) hl (by rw[ht,htj,List.filter_append];simp[hp]) (hd1 s rfl)
   | false=>
     rw[hp] at hst;simp only[whl,hst,cond_false];refine MG hf o ho n (s.set i o[j]) (i+1) (j+1) (by omega) (by omega) (by simpa using hl) ?_ (hd1 _ (List.drop_set_of_lt (by omega)));rw[htj,List.filter_append,←ht];rw[List.take_add_one,List.take_set_of_le (Nat.le_refl i),List.getElem?_set_self (by omega)];simp[hp]
theorem PC {R:Type} {f:List α×Int×Int->Rd R (List α×Int×Int) (List α×Int)} (hf:WF f p) {o:List α} (ho:o.length<=1073741824) {ix:Int} (hix:ix=ixF p o) (hne:ix≠-1):
 ∃s' i',whl f (o.length+1) (o,ix,ix+1)=some (.brk (s',((i':Nat):Int)))/\s'.take i'=o.filter (fun a=> !p a)/\i'<o.length/\s'.length=o.length:=by
 have hb:=ZJ p o;obtain ⟨i,hi⟩:∃i:Nat,ix=(i:Int):=⟨ix.toNat,by omega⟩;obtain ⟨h1,a,h2,h3⟩:=Qfh (p:=p) (l:=o) (i:=i) (by omega);have hio:i<o.length:=by omega
 obtain ⟨s',i',h4,h5⟩:=MG hf o ho (o.length-(i+1)) o i (i+1) (by omega) (by omega) rfl (by
  rw[List.take_add_one,h2,List.filter_append,h1];simp[h3]) rfl
 refine ⟨s',i', ?_,h5⟩;subst hi;exact PB h4 (by omega)
theorem Qfi {R:Type} {f:List α×Int×Int->Rd R (List α×Int×Int) (List α×Int)} (hf:WF f p) {o:List α} (ho:o.length<=1073741824) {ix:Int} (hix:ix=ixF p o) (hne:ix≠-1):(whl f (o.length+1) (o,ix,ix+1)).isSome=true:=by
 obtain ⟨s',i',h,_⟩:=PC hf ho hix hne;rw[h];rfl
theorem Qke {f:List α×Int×Int->Rd (List α) (List α×Int×Int) (List α×Int)} (hf:WF f p) {o:List α} (ho:o.length<=1073741824) {ix:Int} (hix:ix=ixF p o):
 (bif (ix==(-1:Int)) then o else Out.on (Nj f (o.length+1) (o,ix,ix+1)) (fun y=>List.take (Int.toNat y.2) y.1))=o.filter (fun a=> !p a):=by
 cases h:(ix==(-1:Int)) with
 | true=>
   have h:ix= -1:=by simpa using h
   simp only[cond_true];exact (List.filter_eq_self.2 fun a ha=>by simp[Qfg (hix▸h) a ha]).symm
 | false=>
   obtain ⟨s',i',h1,h2,_⟩:=PC hf ho hix (by simpa using h);simp only[cond_false,Nj,h1];simpa [Out.on] using h2
end
open GoE (enc wide)
def Bf (f:Xc) (user:Int):Bool:=((Zz user)&&((f.2.1==user)|| f.2.2.1))
theorem DA (f:Xc) (user:Int):ACalls Tryz.prog 216 [.a [.i f.1, .i f.2.1, .b f.2.2.1, .i f.2.2.2.1, .h f.2.2.2.2], .i user] (.b (Bf f user)):=by
 refine en Qa Tryz.func216 fun w0 F0 hG=> ?_
 refine sn Qa [1,2,4] [2] (p0) <| Qc <| mz [(2, .p 2 0),(4, .b false)] [0] [(2, [.i f.1, .i f.2.1, .b f.2.2.1, .i f.2.2.2.1, .h f.2.2.2.2])] [] <| jn [(4, .b ((Zz user)&&((f.2.1==user)|| f.2.2.1)))] [1,2,4] [] [2] (Zz user) (fun h1=> ?_) (fun h1=> ?_) ?_
 ·
  refine X5 (f.2.1==user) (fun h2=> ?_) (fun h2=> ?_)
  ·
   refine rn Qa [4] [] (pc 1 (cb h1 (W9 user)) (pt 6 h2 p0)) ?_;exact ⟨rfl,Qd (by rw[h1,h2]<;>kernel_rfl)⟩
  refine rn Qa [4] [] (pc 1 (cb h1 (W9 user)) (pf 6 h2 p0)) ?_;exact ⟨rfl,Qd (by rw[h1,h2]<;>kernel_rfl)⟩
 ·
  refine rn Qa [4] [] (pc 1 (cb h1 (W9 user)) p0) ?_;exact ⟨rfl,Qd (by rw[h1]<;>kernel_rfl)⟩
 exact Qg <| pb [] (show Bf f user=((Zz user)&&((f.2.1==user)|| f.2.2.1)) from rfl)
def Qj (f:Xc):Xc:=f
theorem Dn (f:Xc):ACalls Tryz.prog 136 [.a [.i f.1, .i f.2.1, .b f.2.2.1, .i f.2.2.2.1, .h f.2.2.2.2]] (.a [.i ((Qj f).1), .i ((Qj f).2.1), .b ((Qj f).2.2.1), .i ((Qj f).2.2.2.1), .o 0 ((Qj f).2.2.2.2)]):=by
 refine en Qa Tryz.func136 fun w0 F0 hG=> ?_
 exact sn Qa [1,2] [1,2] (p0) <| tn Qa [1,2] [1,2] (pc 2 (LO f.2.2.2.2) p0) <| tu Qa [(2, .p 2 0)] [0] [(2, [.i f.1, .i f.2.1, .b f.2.2.1, .i f.2.2.2.1, .o 320 f.2.2.2.2])] [] (p0) <| Qg <| pz [] (show Qj f=f from rfl) (fun z=> .a [.i z.1, .i z.2.1, .b z.2.2.1, .i z.2.2.2.1, .o 0 z.2.2.2.2])
def A8 (f:Xc) (q0:Int):Bool:=(f.1==q0)
theorem UT (f:Xc) (q0:Int):ACalls Tryz.prog 198 [.a [.i f.1, .i f.2.1, .b f.2.2.1, .i f.2.2.2.1, .h f.2.2.2.2], .one (.rptr .sh [.i q0])] (.b (A8 f q0)):=by
 refine en Qa Tryz.func198 fun w0 F0 hG=> ?_
 exact sn Qa [1,2,3] [2] (p0) <| tn Qa [3] [] (p0) <| Qg <| pb [] (show A8 f q0=(f.1==q0) from rfl)
def Yg (c0:Int) (k0:Nat) (a0:Xc) (_:Unit):Rd (Int) (Unit) (Unit):=(bif (A8 a0 c0) then (.ret ((k0:Nat):Int)) else (.next ()))
def Y8 (_:Nat) (_:Unit):Unit:=()
def Jr (s_:(List Xc)) (c0:Int):Int:=(Out.on (Xp (Yg c0) Y8 s_ 0 ()) (fun _=> -1))
theorem Ee (s_:(List Xc)) (c0:Int):ACalls Tryz.prog 197 [.h s_, .one (.fnr 198 [[.i c0]])] (.i (Jr s_ c0)):=by
 refine en Qa Tryz.func197 fun w0 F0 hG=> ?_
 refine sn Qa [0,1,4] [] (p0) <| Qc <| tn Qa [0,1,4,7,8] [] (pl 1 s_ p0) <| mz [(4, .i 0),(7, .i (s_.length:Int)),(8, .i 0)] [] [] [] <| wT 0 0 .sh s_ (fun hw1 hl2=> ?_)
 refine Ox (Yg c0) Y8 s_ () (fun k0 _=> [(8, .i ((k0:Nat):Int))]) [8] (fun _=> []) [0,1,7,8] wf0 (fun k0 s0 hk0 hI0=> ?_) (fun k0 s0 hk0 hI0=> ?_) (fun y0 hD0=> ?_)
 ·
  obtain ⟨a0,hx0⟩:=Xh (l:=s_) (i:=k0) hk0;refine sn Qa [0,1,4,7,8,9] [] (pe 0 (Qp (decide_eq_true (p:=((k0:Nat):Int)<(s_.length:Int)) (by omega))) p0) <| Qc <| ckT <| Qf <| Qc <| Qu <| tn Qa [0,1,4,5,7,8] [] (p0) <| tu Qa [(5, .i ((k0:Nat):Int)),(16, .b (A8 a0 c0))] [] [] [] (pn 3 hx0 (pc 5 (UT a0 c0) p0)) <| ck (A8 a0 c0) (fun h3=> ?_) (fun h3=> ?_)
  ·
   refine sn Qa [0,1,4,7,8] [] (p0) <| Qg ?_
   have hr4:(Xp (Yg c0) Y8 s_ 0 ())= .ret ((k0:Nat):Int):=Jg hx0 (Xf h3 (rfl)) hI0;exact pi [] (Oa hr4)
  refine Qf <| rn Qa [0,1,4,7,8] [] (pe 0 (Jh (Ql k0 (by omega))) p0) ?_
  exact xw _ (Qr hx0 (Qs h3 (rfl)) hI0)
 ·
  exact sn Qa [0,1,4,7,8,9] [] (pe 0 (Qp (decide_eq_false (p:=((k0:Nat):Int)<(s_.length:Int)) (by omega))) p0) <| Qc <| ckF <| Q2 <| xw _ (Xi hk0 (rfl) hI0)
 exact sn Qa [4] [] (p0) <| Qg <| pi [] (Wj hD0 (rfl))
def Xv (s_:Qz) (id:Int):Int:=(Jr s_.2.1 id)
theorem Mn (s_:Qz) (id:Int):ACalls Tryz.prog 135 [.a [.h s_.1, .h s_.2.1, .i s_.2.2], .i id] (.i (Xv s_ id)):=by
 refine en Qa Tryz.func135 fun w0 F0 hG=> ?_
 exact sn Qa [2,3,4] [2,3] (p0) <| tn Qa [4] [] (pc 3 (Ee s_.2.1 id) p0) <| Qg <| pi [] (show Xv s_ id=(Jr s_.2.1 id) from rfl)
def Wx (user:Int) (_:Nat) (a0:Xc) (s0:(List Xc)):Rd (Qz) ((List Xc)) ((List Xc)):=(bif (Bf a0 user) then (.next (s0++ [(Qj a0)])) else (.next s0))
def Wy (_:Nat) (s0:(List Xc)):(List Xc):=s0
def V0 (s_:Qz) (k1:Nat) (_:Xc) (s1:(List Xc)):Rd (Qz) ((List Xc)) ((List Xc)):=(bif decide ((Xv (s_.1,s1,s_.2.2) ((nth s1 k1).2.2.2.1))<(0:Int)) then (.next (List.set s1 k1 ((nth s1 k1).1,(nth s1 k1).2.1,(nth s1 k1).2.2.1,0,(nth s1 k1).2.2.2.2))) else (.next s1))
def Hm (_:Nat) (s1:(List Xc)):(List Xc):=s1
def Xu (s_:Qz) (user:Int):Qz:=(Out.on (Xp (Wx user) Wy s_.2.1 0 []) (fun y0=>(Out.on (Xp (V0 s_) Hm y0 0 y0) (fun y1=>(s_.1,y1,s_.2.2)))))
theorem Mo (s_:Qz) (user:Int):ACalls Tryz.prog 152 [.a [.h s_.1, .h s_.2.1, .i s_.2.2], .i user] (.a [.o 0 ((Xu s_ user).1), .o 1 ((Xu s_ user).2.1), .i ((Xu s_ user).2.2)]):=by
 refine en Qa Tryz.func152 fun w0 F0 hG=> ?_
 refine sn Qa [1,2,4] [2,4] (p0) <| tN Qa Zh [1,2,4,5] [2,4,5] (pc 2 (ZD s_.1) p0) <| Qc <| tu Qa [(4, .p 4 0),(5, .p 5 0),(17, .h s_.2.1),(18, .i (s_.2.1.length:Int)),(19, .i 0)] [0] [(4, [.e 2, .e 5, .i 0]),(5, [.o 768 s_.1, .e 5, .i s_.2.2])] [] (pl 2 s_.2.1 p0) <| wT 17 0 .sh s_.2.1 (fun hw1 hl2=> ?_)
 refine XZ (Wx user) Wy s_.2.1 [] (fun k0 _=> [(19, .i ((k0:Nat):Int))]) [19] (fun _ s0=> [(5, [.o 768 s_.1, .o 147210 s0, .i s_.2.2])]) [5] (fun _=> []) [1,17,18,19] (fun y0=> [(5, [.o 768 s_.1, .o 147360 y0, .i s_.2.2])]) [5] (fun k0 s0=>List.length s0<=k0) (M2 [(true,5,1,true,320008,5)] [] [] [(320008,147210)] (by kernel_rfl)) (by simp) (fun k0 s0 hk0 hI0=> ?_) (fun k0 s0 hk0 hI0=> ?_) (fun y0 hD0=> ?_)
 ·
  have hA0_0:=hI0.2;obtain ⟨a0,hx0⟩:=Xh (l:=s_.2.1) (i:=k0) hk0;refine su Qa [(20, .b true)] [] [] [] (pe 0 (Qp (decide_eq_true (p:=((k0:Nat):Int)<(s_.2.1.length:Int)) (by omega))) p0) <| Qc <| ckT <| Qf <| Qc <| Qu <| sn Qa [1,4,5,7,17,18,19] [4,5,7] (pn 0 hx0 p0) <| tn Qa [1,4,5,7,17,18,19,25] [4,5,7] (pc 2 (DA a0 user) p0) <| ck (Bf a0 user) (fun h3=> ?_) (fun h3=> ?_)
  ·
   refine wB 5 1 (.own true 147210) s0 (fun hw4 hl5=> ?_);refine qU Qa Zh [] [20] [(5, [.o 768 s_.1, .slc (.own true 1984) 5 ((eL s0)++ [[.i ((Qj a0).1), .i ((Qj a0).2.1), .b ((Qj a0).2.2.1), .i ((Qj a0).2.2.2.1), .h ((Qj a0).2.2.2.2)]]), .i s_.2.2])] [5] (pc 3 (Dn a0) (pa s0 [(Qj a0)] p0)) ?_;refine eqn [] [] [(5, [.o 768 s_.1, .o 1984 (s0++ [(Qj a0)]), .i s_.2.2])] [5] (by rw[show ((eL s0)++ [[.i ((Qj a0).1), .i ((Qj a0).2.1), .b ((Qj a0).2.2.1), .i ((Qj a0).2.2.2.1), .h ((Qj a0).2.2.2.2)]])=(eL (s0++ [(Qj a0)])) from Ks (rfl) (rfl)];first | done | kernel_rfl) ?_;refine rn Qa [1,4,5,17,18,19] [4,5] (pe 0 (Jh (Ql k0 (by omega))) p0) ?_;exact Exists.intro (s0++ [(Qj a0)]) (And.intro (Xl [(1984,147210)] (by kernel_rfl)) ⟨Qr hx0 (Xf h3 (rfl)) hI0.1,by first | omega | (simp;omega) | simp⟩)
  refine Qf <| qu Qa [(19, .i ((k0+1:Nat):Int))] [19,20] [] [] (pe 0 (Jh (Ql k0 (by omega))) p0) ?_
  exact xw s0 ⟨Qr hx0 (Qs h3 (rfl)) hI0.1,by first | omega | (simp;omega) | simp⟩
 ·
  have hA0_0:=hI0.2;exact su Qa [(20, .b false)] [] [] [] (pe 0 (Qp (decide_eq_false (p:=((k0:Nat):Int)<(s_.2.1.length:Int)) (by omega))) p0) <| Qc <| ckF <| Q2 <| Exists.intro _ (And.intro (Xl [(147210,147360)] (by kernel_rfl)) (Xi hk0 (rfl) hI0.1))
 refine Qc <| sn Qa [4,5,35,36,37] [4,5] (pl 2 y0 p0) <| mz [(35, .o 147360 y0),(36, .i (y0.length:Int)),(37, .i 0)] [] [] [] <| wT 35 0 (.own true 147360) y0 (fun hw6 hl7=> ?_)
 refine XZ (V0 s_) Hm y0 y0 (fun k1 s1=> [(35, .o 147360 s1),(37, .i ((k1:Nat):Int))]) [35,37] (fun _ s1=> [(5, [.o 768 s_.1, .o 147360 s1, .i s_.2.2])]) [5] (fun _=> []) [35,36,37] (fun y1=> [(5, [.o 768 s_.1, .o 147360 y1, .i s_.2.2])]) [5] (fun _ s1=>List.length s1=List.length y0) wf0 (by simp) (fun k1 s1 hk1 hI1=> ?_) (fun k1 s1 hk1 hI1=> ?_) (fun y1 hD1=> ?_)
 ·
  have hA1_0:=hI1.2;obtain ⟨a1,hx1⟩:=Xh (l:=y0) (i:=k1) hk1;refine su Qa [(38, .b true)] [] [] [] (pe 0 (Qp (decide_eq_true (p:=((k1:Nat):Int)<(y0.length:Int)) (by omega))) p0) <| Qc <| ckT <| Qf <| Qc <| Qu <| wT 35 0 (.own true 147360) s1 (fun hw9 hl10=> ?_)
  have hx8:=ng s1 k1;refine sn Qa [4,5,8,9,35,36,37] [4,5,9] (pN 1 hx8 p0) <| tn Qa [4,5,8,35,36,37,46] [4,5] (pc 3 (Mn (s_.1,s1,s_.2.2) ((nth s1 k1).2.2.2.1)) p0) <| ck (decide ((Xv (s_.1,s1,s_.2.2) ((nth s1 k1).2.2.2.1))<(0:Int))) (fun h11=> ?_) (fun h11=> ?_)
  ·
   have h11d:=of_decide_eq_true h11;refine qu Qa [(35, .one (.slc (.own true 147360) 5 (setRow (eL s1) k1 3 [.i 0])))] [35,38] [(5, [.o 768 s_.1, .slc (.own true 147360) 5 (setRow (eL s1) k1 3 [.i 0]), .i s_.2.2])] [5] (pN 3 hx8 p0) ?_;refine eqn [(35, .o 147360 (List.set s1 k1 ((nth s1 k1).1,(nth s1 k1).2.1,(nth s1 k1).2.2.1,0,(nth s1 k1).2.2.2.2)))] [35] [(5, [.o 768 s_.1, .o 147360 (List.set s1 k1 ((nth s1 k1).1,(nth s1 k1).2.1,(nth s1 k1).2.2.1,0,(nth s1 k1).2.2.2.2)), .i s_.2.2])] [5] (by rw[Kh (y:=((nth s1 k1).1,(nth s1 k1).2.1,(nth s1 k1).2.2.1,0,(nth s1 k1).2.2.2.2)) hx8 rfl]<;>kernel_rfl) ?_;refine rn Qa [4,5,35,36,37] [4,5] (pe 0 (Jh (Ql k1 (by omega))) p0) ?_;exact xw (List.set s1 k1 ((nth s1 k1).1,(nth s1 k1).2.1,(nth s1 k1).2.2.1,0,(nth s1 k1).2.2.2.2)) ⟨Qr hx1 (Xf h11 (rfl)) hI1.1,(by first | omega | (simp only[List.length_set];omega))⟩
  have h11d:=of_decide_eq_false h11;refine Qf <| qu Qa [(37, .i ((k1+1:Nat):Int))] [37,38] [] [] (pe 0 (Jh (Ql k1 (by omega))) p0) ?_
  exact xw s1 ⟨Qr hx1 (Qs h11 (rfl)) hI1.1,(by first | omega | (simp only[List.length_set];omega))⟩
 ·
  have hA1_0:=hI1.2;exact su Qa [(38, .b false)] [] [] [] (pe 0 (Qp (decide_eq_false (p:=((k1:Nat):Int)<(y0.length:Int)) (by omega))) p0) <| Qc <| ckF <| Q2 <| xw _ (Xi hk1 (rfl) hI1.1)
 exact sn Qa [4] [4] (p0) <| Qg <| pz [] (show Xu s_ user=_ from Wj hD0 (Wj hD1 (rfl))) (fun z=> .a [.o 0 z.1, .o 1 z.2.1, .i z.2.2])
def X6 (s_:Qz) (d:(List Xw)) (user:Int):(List Qh)×Bool:=(bif ((!(Qq s_))|| (!(Zz user))) then ([],false) else (((Y6 (Xu s_ user) d)).1,((Y6 (Xu s_ user) d)).2))
theorem Ik (s_:Qz) (d:(List Xw)) (user:Int):ACalls Tryz.prog 78 [.a [.h s_.1, .h s_.2.1, .i s_.2.2], .h d, .i user] (.tup [(false, [.o 0 (((X6 s_ d user)).1)]),(false, [.b (((X6 s_ d user)).2)])]):=by
 refine en Qa Tryz.func78 fun w0 F0 hG=> ?_
 refine sn Qa [1,2,3,6,7] [3] (p0) <| Qc <| Qc <| mz [(3, .p 3 0),(6, .e 0),(7, .b false)] [0] [(3, [.h s_.1, .h s_.2.1, .i s_.2.2])] [] <| jn [(15, .b ((!(Qq s_))|| (!(Zz user))))] [] [] [] (!(Qq s_)) (fun h1=> ?_) (fun h1=> ?_) ?_
 ·
  have h1n:(Qq s_)=false:=Vd h1;refine rn Qa [1,2,3,6,7,15] [3] (pc 1 (cb h1n (Jp s_)) (pe 2 (show .b (!false)= .b true from rfl) p0)) ?_;exact ⟨rfl,Qd (by rw[h1]<;>kernel_rfl)⟩
 ·
  have h1n:(Qq s_)=true:=Y3 h1;refine rn Qa [1,2,3,6,7,15] [3] (pc 1 (cb h1n (Jp s_)) (pe 2 (show .b (!true)= .b false from rfl) (pc 5 (W9 user) p0))) ?_;exact ⟨rfl,Qd (by rw[h1]<;>kernel_rfl)⟩
 refine ck ((!(Qq s_))|| (!(Zz user))) (fun h2=> ?_) (fun h2=> ?_)
 ·
  refine su Qa [] [15] [] [] (p0) <| opn [(false,6,0,true,384000,2)] ?_
  exact Qg <| pz [] (show X6 s_ d user=_ from Xf h2 (rfl)) (fun z=> .tup [(false, [.o 0 z.1]),(false, [.b z.2])])
 exact Qf <| sn Qa [6,7] [] (pc 2 (Mo s_ user) (pc 4 (R3 (Xu s_ user) d) p0)) <| Qg <| pz [] (show X6 s_ d user=_ from Qs h2 (rfl)) (fun z=> .tup [(false, [.o 0 z.1]),(false, [.b z.2])])
def Z7 (s_:Qz) (d:(List Xw)) (user:Int) (name:ByteArray):(List Int):=(Q9 (((X6 s_ d user)).1) name)
theorem DB (s_:Qz) (d:(List Xw)) (user:Int) (name:ByteArray):ACalls Tryz.prog 154 [.a [.h s_.1, .h s_.2.1, .i s_.2.2], .h d, .i user, .s name] (.o 0 (Z7 s_ d user name)):=by
 refine en Qa Tryz.func154 fun w0 F0 hG=> ?_
 exact sn Qa [1,2,3,4,8] [4] (p0) <| tn Qa [3,8,9] [] (pc 3 (Ik s_ d user) p0) <| tu Qa [(8, .o 1280 (Q9 (((X6 s_ d user)).1) name))] [0,1,2,3] [] [] (pc 2 (Cj (((X6 s_ d user)).1) name) p0) <| Qg <| po0 [] (show Z7 s_ d user name=(Q9 (((X6 s_ d user)).1) name) from rfl)
def On (f:Xc) (u:Int):Bool:=((Q6 u 0 2)&&((f.2.1==u)|| f.2.2.1))
theorem DC (f:Xc) (u:Int):ACalls Tryz.prog 113 [.a [.i f.1, .i f.2.1, .b f.2.2.1, .i f.2.2.2.1, .h f.2.2.2.2], .i u] (.b (On f u)):=by
 refine en Qa Tryz.func113 fun w0 F0 hG=> ?_
 refine sn Qa [1,2,4] [2] (p0) <| Qc <| mz [(2, .p 2 0),(4, .b false)] [0] [(2, [.i f.1, .i f.2.1, .b f.2.2.1, .i f.2.2.2.1, .h f.2.2.2.2])] [] <| jn [(4, .b ((Q6 u 0 2)&&((f.2.1==u)|| f.2.2.1)))] [1,2,4] [] [2] (Q6 u 0 2) (fun h1=> ?_) (fun h1=> ?_) ?_
 ·
  have h1w:=Cc.1 h1;refine X5 (f.2.1==u) (fun h2=> ?_) (fun h2=> ?_)
  ·
   refine rn Qa [4] [] (pc 1 (cb h1 (Zo u 0 2)) (pt 6 h2 p0)) ?_;exact ⟨rfl,Qd (by rw[h1,h2]<;>kernel_rfl)⟩
  refine rn Qa [4] [] (pc 1 (cb h1 (Zo u 0 2)) (pf 6 h2 p0)) ?_;exact ⟨rfl,Qd (by rw[h1,h2]<;>kernel_rfl)⟩
 ·
  refine rn Qa [4] [] (pc 1 (cb h1 (Zo u 0 2)) p0) ?_;exact ⟨rfl,Qd (by rw[h1]<;>kernel_rfl)⟩
 exact Qg <| pb [] (show On f u=((Q6 u 0 2)&&((f.2.1==u)|| f.2.2.1)) from rfl)
def Qn (f:Xc):Xc:=f
theorem Ft (f:Xc):ACalls Tryz.prog 97 [.a [.i f.1, .i f.2.1, .b f.2.2.1, .i f.2.2.2.1, .h f.2.2.2.2]] (.a [.i ((Qn f).1), .i ((Qn f).2.1), .b ((Qn f).2.2.1), .i ((Qn f).2.2.2.1), .o 0 ((Qn f).2.2.2.2)]):=by
 refine en Qa Tryz.func97 fun w0 F0 hG=> ?_
 refine sn Qa [1,2] [1,2] (p0) <| wB 1 4 .sh f.2.2.2.2 (fun hw1 hl2=> ?_)
 exact tn Qa [1,2] [1,2] (po 3 (.flat) (px (Ff (n:=(([]:List (List PV)).length+((eL f.2.2.2.2):List (List PV)).length)) (Ig (rfl) (Zj f.2.2.2.2) (by first | omega | (simp only[List.length_cons,List.length_nil];omega) | (simp;omega) | simp))) (px (Dg (Ca f.2.2.2.2)) p0))) <| tu Qa [(2, .p 2 0)] [0] [(2, [.i f.1, .i f.2.1, .b f.2.2.1, .i f.2.2.2.1, .o 384 f.2.2.2.2])] [] (p0) <| Qg <| pz [] (show Qn f=f from rfl) (fun z=> .a [.i z.1, .i z.2.1, .b z.2.2.1, .i z.2.2.2.1, .o 0 z.2.2.2.2])
def Fu (id:Int) (k0:Nat) (a0:Xc) (_:Unit):Rd (Int) (Unit) (Unit):=(bif (a0.1==id) then (.ret ((k0:Nat):Int)) else (.next ()))
def Fv (_:Nat) (_:Unit):Unit:=()
def Q5 (s_:Qz) (id:Int):Int:=(Out.on (Xp (Fu id) Fv s_.2.1 0 ()) (fun _=> -1))
theorem YH (s_:Qz) (id:Int): -1<=Q5 s_ id/\Q5 s_ id<(List.length s_.2.1:Int):=by
 unfold Q5;rw[Qb8 (p:=fun a:Xc=>a.1==id) (f:=Fu id) (e:=Fv) (fun _ _ _=>rfl)];exact ZJ _ _
theorem G6 (s_:Qz) (id:Int):ACalls Tryz.prog 96 [.a [.h s_.1, .h s_.2.1, .i s_.2.2], .i id] (.i (Q5 s_ id)):=by
 refine en Qa Tryz.func96 fun w0 F0 hG=> ?_
 refine sn Qa [1,2,4] [2] (p0) <| Qc <| tn Qa [1,2,4,5] [2] (p0) <| mz [(2, .p 2 0),(4, .i 0),(5, .i 0)] [0] [(2, [.h s_.1, .h s_.2.1, .i s_.2.2])] [] <| wB 2 1 .sh s_.2.1 (fun hw1 hl2=> ?_)
 refine Qj2 (Fu id) Fv s_.2.1 () (fun k0 _=> [(5, .i ((k0:Nat):Int))]) [5] (fun _ _=> []) [] (fun _=> []) [1,2,5] (fun _=> []) [2] wf0 (fun k0 s0 hk0 hI0=> ?_) (fun k0 s0 hk0 hI0=> ?_) (fun y0 hD0=> ?_)
 ·
  obtain ⟨a0,hx0⟩:=Xh (l:=s_.2.1) (i:=k0) hk0;refine Qc <| sn Qa [1,2,4,5,10] [2] (pl 3 s_.2.1 (pe 4 (Qp (decide_eq_true (p:=((k0:Nat):Int)<(s_.2.1.length:Int)) (by omega))) p0)) <| ckT <| Qf <| Qc <| Qu <| tn Qa [1,2,4,5,20] [2] (pn 3 hx0 p0) <| ck (a0.1==id) (fun h3=> ?_) (fun h3=> ?_)
  ·
   refine tu Qa [(4, .i ((k0:Nat):Int))] [4] [] [] (p0) <| Qg ?_
   have hr4:(Xp (Fu id) Fv s_.2.1 0 ())= .ret ((k0:Nat):Int):=Jg hx0 (Xf h3 (rfl)) hI0;exact pi [] (Oa hr4)
  have h3d:=Z2 h3;refine Qf <| qu Qa [(5, .i ((k0+1:Nat):Int))] [5] [] [] (pe 1 (Jh (Ql k0 (by omega))) p0) ?_
  exact xw _ (Qr hx0 (Qs h3 (rfl)) hI0)
 ·
  exact Qc <| sn Qa [1,2,4,5,10] [2] (pl 3 s_.2.1 (pe 4 (Qp (decide_eq_false (p:=((k0:Nat):Int)<(s_.2.1.length:Int)) (by omega))) p0)) <| ckF <| Q2 <| xw _ (Xi hk0 (rfl) hI0)
 exact sn Qa [4] [] (p0) <| Qg <| pi [] (Wj hD0 (rfl))
def Ef (u:Int) (_:Nat) (a0:Xc) (s0:(List Xc)):Rd (Qz) ((List Xc)) ((List Xc)):=(bif (On a0 u) then (.next (s0++ [(Qn a0)])) else (.next s0))
def Eg (_:Nat) (s0:(List Xc)):(List Xc):=s0
def Eh (s_:Qz) (k1:Nat) (s1:(List Xc)):Rd (Qz) ((List Xc)) ((List Xc)):=(bif decide ((Q5 (s_.1,s1,s_.2.2) ((nth s1 k1).2.2.2.1))<(0:Int)) then (.next (List.set s1 k1 ((nth s1 k1).1,(nth s1 k1).2.1,(nth s1 k1).2.2.1,0,(nth s1 k1).2.2.2.2))) else (.next s1))
def Ei (_:Nat) (s1:(List Xc)):(List Xc):=s1
def Ys (s_:Qz) (u:Int):Qz:=(Out.on (Xp (Ef u) Eg s_.2.1 0 []) (fun y0=>(Out.on (Wu (Eh s_) Ei (List.length y0) 0 y0) (fun y1=>(s_.1,y1,s_.2.2)))))
theorem Mp (s_:Qz) (u:Int):ACalls Tryz.prog 52 [.a [.h s_.1, .h s_.2.1, .i s_.2.2], .i u] (.a [.o 0 ((Ys s_ u).1), .o 1 ((Ys s_ u).2.1), .i ((Ys s_ u).2.2)]):=by
 refine en Qa Tryz.func52 fun w0 F0 hG=> ?_
 refine sn Qa [1,2,4] [2,4] (p0) <| wB 2 0 .sh s_.1 (fun hw1 hl2=> ?_)
 refine tN Qa Zh [1,2,4,5] [2,4,5] (po 3 (.flat) (px (Ff (n:=(([]:List (List PV)).length+((eL s_.1):List (List PV)).length)) (Ig (rfl) (Zj s_.1) (by first | omega | (simp only[List.length_cons,List.length_nil];omega) | (simp;omega) | simp))) (px (Dg (Ca s_.1)) p0))) <| Qc <| tu Qa [(2, .p 2 0),(4, .p 4 0),(5, .p 5 0),(6, .i 0)] [0] [(2, [.h s_.1, .h s_.2.1, .i s_.2.2]),(4, [.e 2, .e 5, .i 0]),(5, [.o 704 s_.1, .e 5, .i s_.2.2])] [] (p0) <| wB 2 1 .sh s_.2.1 (fun hw3 hl4=> ?_)
 refine XZ (Ef u) Eg s_.2.1 [] (fun k0 _=> [(6, .i ((k0:Nat):Int))]) [6] (fun _ s0=> [(5, [.o 704 s_.1, .o 147212 s0, .i s_.2.2])]) [5] (fun _=> []) [1,2,6] (fun y0=> [(5, [.o 704 s_.1, .o 147362 y0, .i s_.2.2])]) [2,5] (fun k0 s0=>List.length s0<=k0) (M2 [(true,5,1,true,320008,5)] [] [] [(320008,147212)] (by kernel_rfl)) (by simp) (fun k0 s0 hk0 hI0=> ?_) (fun k0 s0 hk0 hI0=> ?_) (fun y0 hD0=> ?_)
 ·
  have hA0_0:=hI0.2;obtain ⟨a0,hx0⟩:=Xh (l:=s_.2.1) (i:=k0) hk0;refine Qc <| su Qa [(19, .b true)] [] [] [] (pl 3 s_.2.1 (pe 4 (Qp (decide_eq_true (p:=((k0:Nat):Int)<(s_.2.1.length:Int)) (by omega))) p0)) <| ckT <| Qf <| Qc <| Qu <| sn Qa [1,2,4,5,6,28] [2,4,5] (pn 3 hx0 (pc 6 (DC a0 u) p0)) <| ck (On a0 u) (fun h5=> ?_) (fun h5=> ?_)
  ·
   refine wB 5 1 (.own true 147212) s0 (fun hw6 hl7=> ?_);refine qU Qa Zh [] [19] [(5, [.o 704 s_.1, .slc (.own true 2432) 5 ((eL s0)++ [[.i ((Qn a0).1), .i ((Qn a0).2.1), .b ((Qn a0).2.2.1), .i ((Qn a0).2.2.2.1), .h ((Qn a0).2.2.2.2)]]), .i s_.2.2])] [5] (pn 5 hx0 (pc 7 (Ft a0) (pa s0 [(Qn a0)] p0))) ?_;refine eqn [] [] [(5, [.o 704 s_.1, .o 2432 (s0++ [(Qn a0)]), .i s_.2.2])] [5] (by rw[show ((eL s0)++ [[.i ((Qn a0).1), .i ((Qn a0).2.1), .b ((Qn a0).2.2.1), .i ((Qn a0).2.2.2.1), .h ((Qn a0).2.2.2.2)]])=(eL (s0++ [(Qn a0)])) from Ks (rfl) (rfl)];first | done | kernel_rfl) ?_;refine rn Qa [1,2,4,5,6] [2,4,5] (pe 1 (Jh (Ql k0 (by omega))) p0) ?_;exact Exists.intro (s0++ [(Qn a0)]) (And.intro (Xl [(2432,147212)] (by kernel_rfl)) ⟨Qr hx0 (Xf h5 (rfl)) hI0.1,by first | omega | (simp;omega) | simp⟩)
  refine Qf <| qn Qa [1,2,4,5,6] [2,4,5] (pe 1 (Jh (Ql k0 (by omega))) p0) ?_
  exact xw s0 ⟨Qr hx0 (Qs h5 (rfl)) hI0.1,by first | omega | (simp;omega) | simp⟩
 ·
  have hA0_0:=hI0.2;exact Qc <| su Qa [(19, .b false)] [] [] [] (pl 3 s_.2.1 (pe 4 (Qp (decide_eq_false (p:=((k0:Nat):Int)<(s_.2.1.length:Int)) (by omega))) p0)) <| ckF <| Q2 <| Exists.intro _ (And.intro (Xl [(147212,147362)] (by kernel_rfl)) (Xi hk0 (rfl) hI0.1))
 refine Qc <| sn Qa [4,5,7] [4,5] (p0) <| mz [(7, .i 0)] [] [] [] <| Qle (Eh s_) Ei (List.length y0) y0 (fun k1 _=> [(7, .i ((k1:Nat):Int))]) [7] (fun _ s1=> [(5, [.o 704 s_.1, .o 147362 s1, .i s_.2.2])]) [5] (fun _=> []) [7] (fun y1=> [(5, [.o 704 s_.1, .o 147362 y1, .i s_.2.2])]) [5] (fun _ s1=>List.length s1=List.length y0) (fun y1=>List.length y1=List.length y0) wf0 (by simp) (fun k1 s1 hk1 hI1=> ?_) (fun k1 s1 hk1 hI1=> ?_) (fun y1 hD1=> ?_)
 ·
  have hA1_0:=hI1.2;refine Qc <| sn Qa [4,5,7,44] [4,5] (pl 3 s1 (pe 4 (Qp (decide_eq_true (p:=((k1:Nat):Int)<(s1.length:Int)) (by omega))) p0)) <| ckT <| Qf <| Qc <| Qu <| wB 5 1 (.own true 147362) s1 (fun hw9 hl10=> ?_)
  have hx8:=ng s1 k1;refine tN Qa Zh [4,5,7,55] [4,5] (pN 4 hx8 (pc 7 (G6 (s_.1,s1,s_.2.2) ((nth s1 k1).2.2.2.1)) p0)) <| ck (decide ((Q5 (s_.1,s1,s_.2.2) ((nth s1 k1).2.2.2.1))<(0:Int))) (fun h11=> ?_) (fun h11=> ?_)
  ·
   have h11d:=of_decide_eq_true h11;refine qu Qa [] [] [(5, [.o 704 s_.1, .slc (.own true 147362) 5 (setRow (eL s1) k1 3 [.i 0]), .i s_.2.2])] [5] (pN 3 hx8 p0) ?_;refine eqn [] [] [(5, [.o 704 s_.1, .o 147362 (List.set s1 k1 ((nth s1 k1).1,(nth s1 k1).2.1,(nth s1 k1).2.2.1,0,(nth s1 k1).2.2.2.2)), .i s_.2.2])] [5] (by rw[Kh (y:=((nth s1 k1).1,(nth s1 k1).2.1,(nth s1 k1).2.2.1,0,(nth s1 k1).2.2.2.2)) hx8 rfl]<;>kernel_rfl) ?_;refine rn Qa [4,5,7] [4,5] (pe 1 (Jh (Ql k1 (by omega))) p0) ?_;exact xw (List.set s1 k1 ((nth s1 k1).1,(nth s1 k1).2.1,(nth s1 k1).2.2.1,0,(nth s1 k1).2.2.2.2)) ⟨Vi hk1 (Xf h11 (rfl)) hI1.1,(by first | omega | (simp only[List.length_set];omega))⟩
  have h11d:=of_decide_eq_false h11;refine Qf <| qu Qa [(7, .i ((k1+1:Nat):Int))] [7] [] [] (pe 1 (Jh (Ql k1 (by omega))) p0) ?_
  exact xw s1 ⟨Vi hk1 (Qs h11 (rfl)) hI1.1,(by first | omega | (simp only[List.length_set];omega))⟩
 ·
  have hA1_0:=hI1.2;exact Qc <| sn Qa [4,5,7,44] [4,5] (pl 3 s1 (pe 4 (Qp (decide_eq_false (p:=((k1:Nat):Int)<(s1.length:Int)) (by omega))) p0)) <| ckF <| Q2 <| xw s1 ⟨Cw hk1 (rfl) hI1.1,by first | omega | (simp only[List.length_set];omega)⟩
 have hD1_0:=hD1.2;exact sn Qa [4] [4] (p0) <| Qg <| pz [] (show Ys s_ u=_ from Wj hD0 (Wj hD1.1 (rfl))) (fun z=> .a [.o 0 z.1, .o 1 z.2.1, .i z.2.2])
def Zb (s_:Qz) (d:(List Xw)) (u:Int):(List Qh)×Bool:=(bif ((!(Q6 u 0 2))|| (!(Q4 s_))) then ([],false) else (((Kb (Ys s_ u) d)).1,((Kb (Ys s_ u) d)).2))
theorem Il (s_:Qz) (d:(List Xw)) (u:Int):ACalls Tryz.prog 59 [.a [.h s_.1, .h s_.2.1, .i s_.2.2], .h d, .i u] (.tup [(false, [.o 0 (((Zb s_ d u)).1)]),(false, [.b (((Zb s_ d u)).2)])]):=by
 refine en Qa Tryz.func59 fun w0 F0 hG=> ?_
 refine sn Qa [1,2,3,6,7] [3] (p0) <| Qc <| Qc <| mz [(3, .p 3 0),(6, .e 0),(7, .b false)] [0] [(3, [.h s_.1, .h s_.2.1, .i s_.2.2])] [] <| jn [(15, .b ((!(Q6 u 0 2))|| (!(Q4 s_))))] [] [] [] (!(Q6 u 0 2)) (fun h1=> ?_) (fun h1=> ?_) ?_
 ·
  have h1n:(Q6 u 0 2)=false:=Vd h1;refine rn Qa [1,2,3,6,7,15] [3] (pc 1 (cb h1n (Zo u 0 2)) (pe 2 (show .b (!false)= .b true from rfl) p0)) ?_;exact ⟨rfl,Qd (by rw[h1]<;>kernel_rfl)⟩
 ·
  have h1n:(Q6 u 0 2)=true:=Y3 h1;have h1nw:=Cc.1 h1n;refine rn Qa [1,2,3,6,7,15] [3] (pc 1 (cb h1n (Zo u 0 2)) (pe 2 (show .b (!true)= .b false from rfl) (pc 5 (Jq s_) p0))) ?_;exact ⟨rfl,Qd (by rw[h1]<;>kernel_rfl)⟩
 refine ck ((!(Q6 u 0 2))|| (!(Q4 s_))) (fun h2=> ?_) (fun h2=> ?_)
 ·
  exact sn Qa [1,2,3,6,7] [3] (p0) <| Qg <| pz [] (show Zb s_ d u=_ from Xf h2 (rfl)) (fun z=> .tup [(false, [.o 0 z.1]),(false, [.b z.2])])
 have h2l:((!(Q6 u 0 2)))=false:=Rc h2;have h2ln:(Q6 u 0 2)=true:=Y3 h2l;have h2lnw:=Cc.1 h2ln;exact Qf <| sn Qa [6,7] [] (pc 2 (Mp s_ u) (pc 4 (R4 (Ys s_ u) d) p0)) <| Qg <| pz [] (show Zb s_ d u=_ from Qs h2 (rfl)) (fun z=> .tup [(false, [.o 0 z.1]),(false, [.b z.2])])
def K5 (s_:Qz) (d:(List Xw)) (u:Int) (name:ByteArray):(List Int):=(Xd (((Zb s_ d u)).1) name)
theorem DD (s_:Qz) (d:(List Xw)) (u:Int) (name:ByteArray):ACalls Tryz.prog 122 [.a [.h s_.1, .h s_.2.1, .i s_.2.2], .h d, .i u, .s name] (.o 0 (K5 s_ d u name)):=by
 refine en Qa Tryz.func122 fun w0 F0 hG=> ?_
 exact sn Qa [1,2,3,4,8] [4] (p0) <| tn Qa [3,8,9] [] (pc 3 (Il s_ d u) p0) <| tu Qa [(8, .o 1280 (Xd (((Zb s_ d u)).1) name))] [0,1,2,3] [] [] (pc 2 (Cl (((Zb s_ d u)).1) name) p0) <| Qg <| po0 [] (show K5 s_ d u name=(Xd (((Zb s_ d u)).1) name) from rfl)
theorem GC {α R S T:Type} {f:Nat->α->S->Rd R S T} {g:Nat->S->Rd R S T} {e e':Nat->S->T} (hf:∀k a s,f k a s=g k s) (he:∀k s,e k s=e' k s):∀(l:List α) (k:Nat) (s:S),Xp f e l k s=Wu g e' l.length k s
 | [],k,s=>by simp[Xp,Wu,he]
 | a::l,k,s=>by
   simp only[Xp,Wu,List.length_cons,hf];cases g k s with
   | next s'=>exact GC hf he l (k+1) s'
   | brk t=>rfl
   | ret r=>rfl
theorem Rj (s:Qz) (u:Int):Ys s u=Xu s u:=by
 unfold Ys Xu;rw[Nl (f:=Ef u) (g:=Wx u) (e:=Eg) (e':=Wy) (fun _ _=>rfl) s.2.1 0 _ (fun i a t _=>rfl)]
 congr 1
 funext y
 rw[GC (f:=V0 s) (g:=Eh s) (e:=Hm) (e':=Ei) (fun _ _ _=>rfl) (fun _ _=>rfl)]
theorem Td (s:Qz) (d:List Xw) (u:Int):Zb s d u=X6 s d u:=by
 unfold Zb X6;rw[By,Rj,Tb];have h:Q6 u 0 2=Zz u:=rfl;rw[h,Bool.or_comm]
theorem YI (s:Qz) (d:List Xw) (u:Int) (n:ByteArray):K5 s d u n=Z7 s d u n:=by
 unfold K5 Z7;rw[Td];rfl
theorem YJ {s:Qz} (h:Qq s=true):s.2.1.length<=12:=by
 unfold Qq at h;cases hf:Xp (Yq s) Jv s.2.1 0 () with
 | brk t=>
   rw[hf] at h;simp only[Out.on,Bool.and_eq_true,decide_eq_true_eq] at h;omega
 | ret r=>
   rw[hf] at h;obtain rfl:r=true:=h;exfalso
   have key:∀(l:List Xc) k,Xp (Yq s) Jv l k ()≠ .ret true:=by
    intro l
    induction l with
    | nil=>intro k h;simp[Xp] at h
    | cons a l ih=>
      intro k h;simp only[Xp] at h;unfold Yq at h;split at h
      . rename_i hf;exact ih _ h
      . cases h
      rename_i r hf;cases h;revert hf;generalize (_|| _:Bool)=c;cases c<;>simp
   exact key _ _ hf
theorem Qkf {fs:List Xc} {p:Xc->Bool} {x:Int} (h:x∈sel fs (fun f=>f.1) p):∃f,f∈fs/\f.1=x:=by
 obtain ⟨f,hf,e⟩:=List.mem_map.1 h;exact ⟨f,(List.mem_filter.1 hf).1,e⟩
theorem Qb9 {s:Qz} (h:Qq s=true) {f:Xc} (hf:f∈s.2.1):1<=f.1/\f.1<=60:=by
 have hv:X3 s.1 f=true:=by
  unfold Qq at h;obtain ⟨i,hi⟩:=List.getElem?_of_mem hf;cases hl:Xp (Yq s) Jv s.2.1 0 () with
  | brk t=>
    have:=I6 (fun k a t=>by unfold Yq;generalize (_|| _:Bool)=c;cases c<;>simp) hl i f hi;unfold Yq at this;cases hv:X3 s.1 f with
    | true=>rfl
    | false=>rw[hv] at this;simp at this
  | ret r=>
    rw[hl] at h;obtain rfl:r=true:=h;exfalso
    have key:∀(l:List Xc) k,Xp (Yq s) Jv l k ()≠ .ret true:=by
     intro l
     induction l with
     | nil=>intro k h;simp[Xp] at h
     | cons a l ih=>
       intro k h;simp only[Xp] at h;unfold Yq at h;split at h
       . rename_i hf;exact ih _ h
       . cases h
       rename_i r hf;cases h;revert hf;generalize (_|| _:Bool)=c;cases c<;>simp
    exact key _ _ hl
 unfold X3 at hv;cases hl:Xp (Zd s.1 f) K0 f.2.2.2.2 0 () with
 | brk t=>
   rw[hl] at hv;simp only[Out.on] at hv;cases hw:Zm f.1 1 60 with
   | true=>exact Nn.1 hw
   | false=>rw[hw] at hv;simp at hv
 | ret r=>
   rw[hl] at hv;obtain rfl:r=true:=hv;exfalso
   have key:∀(l:List E6) k,Xp (Zd s.1 f) K0 l k ()≠ .ret true:=by
    intro l
    induction l with
    | nil=>intro k h;simp[Xp] at h
    | cons a l ih=>
      intro k h;simp only[Xp] at h;unfold Zd at h;split at h
      . rename_i hf;exact ih _ h
      . cases h
      rename_i r hf;cases h;revert hf;generalize (bif decide (((k:Nat):Int)>(0:Int)) then _ else _:Bool)=c;cases c<;>simp
   exact key _ _ hl
theorem Qca (s:Qz) (d:List Xw) (u:Int):((X6 s d u)).1.length<=5/\∀x,x∈((X6 s d u)).1->x.2.length<=12/\∀n,n∈x.2->1<=n/\n<=60:=by
 unfold X6;cases hc:((!(Qq s))|| (!(Zz u))) with
 | true=>exact ⟨Nat.zero_le _,fun x hx=>by simp at hx⟩
 | false=>
   simp only[cond_false];cases he:(Y6 (Xu s u) d).2 with
   | false=>rw[ME he];exact ⟨Nat.zero_le _,fun x hx=>by simp at hx⟩
   | true=>
     obtain ⟨h1,h2,h3,h4⟩:=Tc he;have h5:=YJ h2;have hlen:=congrArg List.length h3;rw[List.length_map,List.length_map] at hlen;refine ⟨by omega,fun x hx=> ?_⟩;obtain ⟨p,hp⟩:=h4 x hx;refine ⟨by rw[hp];exact Nat.le_trans (Qbu _ _ _) h5,fun n hn=> ?_⟩;rw[hp] at hn;obtain ⟨f,hf,rfl⟩:=Qkf hn;exact Qb9 h2 hf
theorem DE (nm:ByteArray):∀(o:List Qh) (k:Nat),Xp (Vt nm) Uo o k ()= .brk ()\/∃x,x∈o/\Xp (Vt nm) Uo o k ()= .ret x.2
 | [],_=> .inl rfl
 | b ::o,k=>by
   simp only[Xp,Vt];cases (b.1.toList==nm.toList) with
   | true=>exact .inr ⟨b,List.mem_cons_self ..,rfl⟩
   | false=>
     simp only[cond_false];rcases DE nm o (k+1) with h | ⟨x,hx,h⟩
     . exact .inl h
     exact .inr ⟨x,List.mem_cons_of_mem _ hx,h⟩
theorem DF (s:Qz) (d:List Xw) (u:Int) (n:ByteArray):(Z7 s d u n).length<=12:=by
 unfold Z7 Q9;rcases DE n (X6 s d u).1 0 with h | ⟨x,hx,h⟩
 . rw[h];exact Nat.zero_le _
 rw[h];exact ((Qca s d u).2 x hx).1
theorem Oo (s:Qz) (d:List Xw) (u:Int) (n:ByteArray):∀x,x∈Z7 s d u n->1<=x/\x<=60:=by
 unfold Z7 Q9;rcases DE n (X6 s d u).1 0 with h | ⟨x,hx,h⟩
 . rw[h];intro x hx;simp[Out.on] at hx
 rw[h];exact ((Qca s d u).2 x hx).2
theorem PD (s:Qz) (n:Int):Q5 s n=Xv s n:=rfl
theorem Qhe (n:Int):∀(l:List Xc) (k:Nat),Xp (Yg n) Y8 l k ()= .brk ()\/∃i:Nat,i<l.length/\Xp (Yg n) Y8 l k ()= .ret (((k+i:Nat)):Int)
 | [],_=> .inl rfl
 | a ::l,k=>by
   simp only[Xp,Yg];cases (A8 a n) with
   | true=>exact .inr ⟨0,by simp,rfl⟩
   | false=>
     simp only[cond_false];rcases Qhe n l (k+1) with h | ⟨i,hi,h⟩
     . exact .inl h
     exact .inr ⟨i+1,by simpa using hi,by rw[h,show k+1+i=k+(i+1) by omega]⟩
theorem QP (s:Qz) (n:Int): -1<=Xv s n/\Xv s n<(List.length s.2.1:Int):=by
 unfold Xv Jr;rcases Qhe n s.2.1 0 with h | ⟨i,hi,h⟩
 . rw[h];simp only[Out.on];omega
 rw[h];simp only[Out.on];omega
end Go.Proofs.YtkekndahbiefaaaGreatDoor
namespace Go.Proofs.YtkekndahbiefaaaGreatDoor
theorem JW {α:Type} [DecidableEq α]:∀{l N:List α},l.Nodup->(∀x,x∈l->x∈N)->l.length<=N.length
 | [],_,_,_=>Nat.zero_le _
 | a::l,N,hn,hs=>by
   have hn':=List.nodup_cons.1 hn;have ha:=hs a (List.mem_cons_self ..);have h:=JW (l:=l) (N:=N.erase a) hn'.2 fun x hx=>(List.mem_erase_of_ne (fun e:x=a=>hn'.1 (by rw[←e];exact hx))).2 (hs x (List.mem_cons_of_mem _ hx))
   rw[List.length_erase_of_mem ha] at h;have:0<N.length:=List.length_pos_of_mem ha;rw[List.length_cons];omega
def Fresh {α:Type} (N out out':List α):Prop:=∃new:List α,out'=out++new/\new.Nodup/\∀x,x∈new->x∉out/\x∈N
theorem Fresh.refl {α:Type} (N out:List α):Fresh N out out:=⟨[],by simp,List.nodup_nil,by simp⟩
theorem Fresh.one {α:Type} {N out:List α} {x:α} (h1:x∉out) (h2:x∈N):Fresh N out (out++ [x]):=⟨[x],rfl,by simp,by simp[h1,h2]⟩
theorem Fresh.trans {α:Type} {N a b c:List α} (h:Fresh N a b) (k:Fresh N b c):Fresh N a c:=by
 obtain ⟨p,rfl,h1,h2⟩:=h;obtain ⟨q,rfl,k1,k2⟩:=k;refine ⟨p++q,by rw[List.append_assoc],List.nodup_append.2 ⟨h1,k1,fun x hx y hy e=> ?_⟩,fun x hx=> ?_⟩
 . subst e;exact (k2 _ hy).1 (List.mem_append_right _ hx)
 rcases List.mem_append.1 hx with hx | hx
 . exact h2 x hx
 exact ⟨fun h=>(k2 x hx).1 (List.mem_append_left _ h),(k2 x hx).2⟩
theorem GD {α:Type} [DecidableEq α] {N a b:List α} (h:Fresh N a b):b.length<=a.length+N.length:=by
 obtain ⟨new,rfl,h1,h2⟩:=h;have:=JW h1 fun x hx=>(h2 x hx).2
 rw[List.length_append];omega
theorem Qcb {α R T:Type} [DecidableEq α] {N names:List α} {f:List α×Int->Rd R (List α×Int) T}
 (hf:∀out i s',0<=i->out.length<=names.length+N.length->f (out,i)= .next s'->i<(out.length:Int)/\s'.2=i+1/\Fresh N out s'.1):∀(n:Nat) (out:List α) (i:Int),0<=i->Fresh N names out->(names.length:Int)+N.length<=i+n->(whl f (n+1) (out,i)).isSome=true
 | n, out,i,h0,hF,hn=>by
   simp only[whl];cases hc:f (out,i) with
   | brk t=>rfl
   | ret r=>rfl
   | next s'=>
     have hl:=GD hF;obtain ⟨h1,h2,h3⟩:=hf out i s' h0 hl hc;cases n with
     | zero=>omega
     | succ n=>
       obtain ⟨o',i'⟩:=s';obtain rfl:i'=i+1:=h2;exact Qcb hf n o' (i+1) (by omega) (hF.trans h3) (by omega)
theorem Qcc {α R T:Type} [DecidableEq α] {N names:List α} {f:List α×Int->Rd R (List α×Int) T}
 (hf:∀out i s',0<=i->out.length<=names.length+N.length->f (out,i)= .next s'->i<(out.length:Int)/\s'.2=i+1/\Fresh N out s'.1):(whl f (List.length names+List.length N+1) (names,0)).isSome=true:=
 Qcb hf _ names 0 (Int.le_refl 0) (Fresh.refl N names) (by omega)
theorem DG {l:List ByteArray} (h:∀i,i+1<l.length->bl (nth l i) (nth l (i+1))=true):YB l:=by
 have key:∀j i,i<j->j<l.length->bl (nth l i) (nth l j)=true:=by
  intro j
  induction j with
  | zero=>intro i hi;omega
  | succ j ih=>
    intro i hi hj;by_cases e:i=j
    . subst e;exact h i hj
    exact JP (ih i (by omega) (by omega)) (h j hj)
 unfold YB;rw[List.pairwise_iff_getElem];intro i j hi hj hij;have:=key j i hij hj;simpa [nth,List.getD,hi,hj] using this
theorem WG {l:List ByteArray} (h:YB l):l.Nodup:=h.imp fun {a b} hab e=>by
 subst e;rw[OJ] at hab;cases hab
theorem Qhf (n:ByteArray):∀(l:List Kt) (k:Nat),Out.on (Xp (Bj n) Dy l k ()) (fun _=>0)≠0->n∈l.map (·.1)
 | [],_,h=>by simp[Xp,Out.on] at h
 | a ::l,k,h=>by
   simp only[Xp,Bj] at h;cases hc:(a.1.toList==n.toList) with
   | true=>
     rw[toList_inj] at hc;have:a.1=n:=of_decide_eq_true hc;rw[←this];simp
   | false=>
     rw[hc] at h;simp only[cond_false] at h;exact List.mem_cons_of_mem _ (Qhf n l (k+1) h)
theorem Qi1 {s:List Kt} (h:Jm s=true):s.length<=5:=by
 unfold Jm at h;cases hf:Xp (Kv s) Wi s 0 () with
 | brk t=>
   rw[hf] at h;simp only[Out.on,decide_eq_true_eq] at h;omega
 | ret r=>
   rw[hf] at h;obtain rfl:r=true:=h;exfalso
   have key:∀(l:List Kt) k,Xp (Kv s) Wi l k ()≠ .ret true:=by
    intro l
    induction l with
    | nil=>intro k h;simp[Xp] at h
    | cons a l ih=>
      intro k h;simp only[Xp] at h;unfold Kv at h;split at h
      . rename_i hf;exact ih _ h
      . cases h
      rename_i r hf;cases h;revert hf;generalize (_|| _:Bool)=c;cases c<;>simp
   exact key _ _ hf
theorem GE {s:List Kt} {f:Xc} (h:X3 s f=true):(∃t,Xp (Zd s f) K0 f.2.2.2.2 0 ()= .brk t)/\Jm s=true:=by
 unfold X3 at h;cases hl:Xp (Zd s f) K0 f.2.2.2.2 0 () with
 | brk t=>
   rw[hl] at h;simp only[Out.on,Bool.and_eq_true] at h;exact ⟨⟨t,rfl⟩,h.2.2.2⟩
 | ret r=>
   rw[hl] at h;obtain rfl:r=true:=h;exfalso
   have key:∀(l:List E6) k,Xp (Zd s f) K0 l k ()≠ .ret true:=by
    intro l
    induction l with
    | nil=>intro k h;simp[Xp] at h
    | cons a l ih=>
      intro k h;simp only[Xp] at h;unfold Zd at h;split at h
      . rename_i hf;exact ih _ h
      . cases h
      rename_i r hf;cases h;revert hf;generalize (bif decide (((k:Nat):Int)>(0:Int)) then _ else _:Bool)=c;cases c<;>simp
   exact key _ _ hl
theorem Te {s:List Kt} {f:Xc} (h:X3 s f=true):List.length f.2.2.2.2<=5:=by
 obtain ⟨⟨t,hl⟩,hs⟩:=GE h
 have hat:∀i a,f.2.2.2.2[i]? =some a->(0<i->bl (nth f.2.2.2.2 (i-1)).1 a.1=true)/\Zf s a.1 a.2=true:=fun i a hi=>by
  have:=I6 (fun k a t=>by unfold Zd;generalize (bif decide (((k:Nat):Int)>(0:Int)) then _ else _:Bool)=c;cases c<;>simp) hl i a hi;rw[Nat.zero_add] at this;unfold Zd at this;cases hm:Zf s a.1 a.2 with
  | false=>rw[hm] at this;simp at this
  | true=>
    refine ⟨fun h0=> ?_,rfl⟩;rw[hm,decide_eq_true (show ((i:Nat):Int)>0 by omega)] at this;simp only[cond_true,Bool.not_true,Bool.or_false] at this;rw[show Int.toNat (((i:Nat):Int)-1)=i-1 by omega] at this;cases hb:bl (nth f.2.2.2.2 (i-1)).1 a.1 with
    | true=>rfl
    | false=>
      unfold bl at hb;rw[hb] at this;simp at this
 have hasc:YB (f.2.2.2.2.map (·.1)):=DG fun i hi=>by
  rw[List.length_map] at hi;have:=(hat (i+1) _ (V7 hi)).1 (by omega);have e:∀j,j<f.2.2.2.2.length->nth (f.2.2.2.2.map (·.1)) j=(nth f.2.2.2.2 j).1:=fun j hj=>by simp[nth,List.getD,hj]
  rw[e i (by omega),e (i+1) hi];exact this
 have hsub:∀x,x∈f.2.2.2.2.map (·.1)->x∈s.map (·.1):=fun x hx=>by
  obtain ⟨a,ha,rfl⟩:=List.mem_map.1 hx;obtain ⟨i,hi⟩:=List.getElem?_of_mem ha;have hm:=(hat i a hi).2;unfold Zf at hm;simp only[Bool.and_eq_true,bne_iff_ne,beq_iff_eq] at hm;exact Qhf a.1 s 0 fun e=>hm.2.1 (hm.2.2.trans e)
 have:=JW (WG hasc) hsub;rw[List.length_map,List.length_map] at this;have:=Qi1 hs;omega
theorem WH {s:Qz} (h:Qq s=true) {f:Xc} (hf:f∈s.2.1):X3 s.1 f=true:=by
 unfold Qq at h;obtain ⟨i,hi⟩:=List.getElem?_of_mem hf;cases hl:Xp (Yq s) Jv s.2.1 0 () with
 | brk t=>
   have:=I6 (fun k a t=>by unfold Yq;generalize (_|| _:Bool)=c;cases c<;>simp) hl i f hi;unfold Yq at this;cases hv:X3 s.1 f with
   | true=>rfl
   | false=>rw[hv] at this;simp at this
 | ret r=>
   rw[hl] at h;obtain rfl:r=true:=h;exfalso
   have key:∀(l:List Xc) k,Xp (Yq s) Jv l k ()≠ .ret true:=by
    intro l
    induction l with
    | nil=>intro k h;simp[Xp] at h
    | cons a l ih=>
      intro k h;simp only[Xp] at h;unfold Yq at h;split at h
      . rename_i hf;exact ih _ h
      . cases h
      rename_i r hf;cases h;revert hf;generalize (_|| _:Bool)=c;cases c<;>simp
   exact key _ _ hl
theorem ZK {s:Qz} (h:Qq s=true) {f:Xc} (hf:f∈s.2.1):List.length f.2.2.2.2<=5:=Te (WH h hf)
theorem Mq (l:List ByteArray):ACalls Tryz.prog 150 [.h l] (.h (Dh [] l)):=by
 have h:=Oy l;rw[show G1 l=Dh [] l from OL l] at h;exact h
open GoE (enc wide)
set_option maxRecDepth 100000 in
set_option maxHeartbeats 4000000 in
theorem SE (w:World) (oa:Option Addr) (m cap:Nat) (olds:List Value) (i vb voff vc:Nat) (vs:List Value) (hR:RowAt w 2 oa m cap olds) (hO:OneAt w 2 oa cap vb voff vs) (hi:i<=m):Calls Tryz.prog 204 #[.slice oa m cap, .int .i64 (i:Int), .slice (some ⟨vb,voff,none⟩) 1 vc] w (SB w 2 i oa m cap olds vs):=by
 have hei:=Zl Qa (t:=55) rfl;have hu:=(Zl Qa (t:=45) rfl).sli;have hui:=run_underlying (P:=Tryz.prog) hu;have hsz:∀w,(Go.sizeOf 55).run Tryz.prog w= .ok 2 w:=fun w=>Ax (Zl Qa (t:=55) rfl) w
 have hlim:=hR.lim;have hle:=hR.le;have hcm:cap<=9223372036854775807:=by have:=hR.cap;unfold maxLen at this;omega
 have mixed:=Zh;have hz1:¬((1:Int)=0):=by omega
 by_cases him:i=m
 . subst him;obtain ⟨u,w',hrun,u',h1,hT⟩:=Qff (vc:=vc) hu hei (by decide) hR hO;cases h1
   have hc:Calls Tryz.prog 204 #[.slice oa i cap, .int .i64 (i:Int), .slice (some ⟨vb,voff,none⟩) 1 vc] w (fun e w2=>e= .returned u/\w2=w'):=by
    clear hT hR hO hei;go_enter Tryz.func204,Tryz.ntmps204
    cases oa with
    | none=>
      go_wp2_with (at_builtin;refine Lib.wpList_append_run _ rfl _ _ _ _ rfl _ _ rfl rfl _ _ (hrun _) ?_)
      all_goals (go_ret;exact ⟨rfl,rfl⟩)
    | some a=>
      obtain ⟨ab,ao,asp⟩:=a;go_wp2_with (at_builtin;refine Lib.wpList_append_run _ rfl _ _ _ _ rfl _ _ rfl rfl _ _ (hrun _) ?_)
      all_goals (go_ret;exact ⟨rfl,rfl⟩)
   exact hc.mono (by rintro e w2 ⟨rfl,rfl⟩;exact ⟨_,rfl,hT⟩)
 rcases hR.row with ⟨_,h0,_⟩ | ⟨g,cur,e0,rfl,hg,hcs,htk⟩
 . omega
 have him2:i<m:=by omega
 have hz2:¬((i:Int)=(m:Int)):=by omega
 have hw1:IntKind.i64.wrap ((m:Int)+1)=(m:Int)+1:=by rw[IntKind.wrap_i64];omega
 have hw2:IntKind.i64.wrap ((i:Int)+1)=(i:Int)+1:=by rw[IntKind.wrap_i64];omega
 have htn:((i:Int)+1).toNat=i+1:=by omega
 have htm:((m:Int)+1).toNat=m+1:=by omega
 have hb1:(0:Int)<=(i:Int)+1:=by omega
 have hb3:(i:Int)<=(m:Int)+1:=by omega
 have hbm:(0:Int)<=(m:Int)+1:=by omega
 have hin:i<=m:=hi;obtain ⟨hvw,arrA,tA,frA,hA,hposA⟩:=hO.block (by decide);have hcp:0<cap:=by omega
 have hvg:vb≠g:=hO.ne g rfl hcp
 have hov:∀o lb cb,(callFunc 250 #[.slice (some ⟨vb,voff,none⟩) 1 vc, .slice (some ⟨g,o,none⟩) lb cb]).run Tryz.prog w= .ok (.value (.bool false)) w:=fun o lb cb=>by
  rw[run_callFunc_extern Tryz.func250 (by kernel_rfl) (by kernel_rfl) (by kernel_rfl) (e:=Extern.SlicesOverlaps.overlaps #[45,45] #[4]) (by kernel_rfl),GA w 45 4 55 hu 2 hsz ⟨vb,voff,none⟩ ⟨g,o,none⟩ 1 vc lb cb hvg hA hg (by omega) hposA];rfl
 by_cases hroom:m+1<=cap
 . obtain ⟨q1,q2,q3⟩:=GB (vc:=vc) (w:=w) hu hei (by decide) hg hcs htk hR hO him2 hroom;have hb2:¬(cap=i+1):=by omega
   have hb4:¬(cap=i):=by omega
   have hng:¬((cap:Int)<(m:Int)+1):=by omega
   have hmc:((m:Int)+1)<=(cap:Int):=by omega
   have hc:Calls Tryz.prog 204 #[.slice (some ⟨g,0,none⟩) m cap, .int .i64 (i:Int), .slice (some ⟨vb,voff,none⟩) 1 vc] w (fun e w2=>e= .returned (.slice (some ⟨g,0,none⟩) (m+1) cap)/\w2=(w.drew.setCells g ((i+1)*2) (olds.drop (i*2))).setCells g (i*2) vs):=by
    obtain ⟨q4,q5,q6⟩:=GB (vc:=vc) (w:=w.drew) hu hei (by decide) hg hcs htk ⟨hR.len,hR.row,hR.le,hR.cap,hR.lim,hR.ones⟩ ⟨hO.len,hO.cells,hO.ones,hO.ne⟩ him2 hroom;clear hR hO hei q1 q2 q3 q6 hg hA hcs htk;go_enter Tryz.func204,Tryz.ntmps204
    go_wp2_with (simp only[hov])
    go_region_law (refine ZI rfl _ _ 45 45 rfl (.slice (some ⟨g,(i+1)*2,none⟩) (m+1-(i+1)) (cap-(i+1))) (.slice (some ⟨g,i*2,none⟩) (m+1-i) (cap-i)) (by simp[Act.eval,Act.put]) (by simp[Act.eval,Act.put]) (q4 _ _ _) ?_)
    go_wp2_with (at_builtin;refine R5 rfl _ _ 45 45 rfl (.slice (some ⟨g,i*2,none⟩) (m+1-i) (cap-i)) _ (by simp[Act.eval,Act.put]) rfl (q5 _ rfl _ _) ?_)
    go_ret
    exact ⟨rfl,rfl⟩
   refine hc.mono ?_
   rintro e w2 ⟨rfl,rfl⟩
   obtain ⟨p1,p2,p3⟩:=H4 g (olds.drop (i*2)) ((i+1)*2) w.drew;exact q3 _ (Mm g _ _ w) p1 p2 p3
 obtain ⟨G,W1,hG1,hG2,qa,qb,qc,qd,o1,o2,o3⟩:=Qb7 (vc:=vc) (tn:=3) hu (by kernel_rfl) hei (by decide) hg hcs htk hR hO hvw him2 (by omega);have hG63:G<=9223372036854775807:=by unfold maxLen at hG2;omega
 have hGi:¬(G=i):=by omega
 have hGim:¬(G=i+1):=by omega
 have hci:¬(cap=i):=by omega
 have hlt:(cap:Int)<(m:Int)+1:=by omega
 have hw3:IntKind.i64.wrap ((m:Int)+1-(i:Int))=(m:Int)+1-(i:Int):=by rw[IntKind.wrap_i64];omega
 have hii:(i:Int)<=(m:Int):=by omega
 have hqa:∀ty,(Builtin.append_ #[45,3] ty #[.slice (some ⟨g,0,none⟩) i cap, .int .i64 ((m:Int)+1-(i:Int))]).run Tryz.prog w= .ok (.slice (some ⟨w.heap.size,0,none⟩) (m+1) G) W1:=fun ty=>qa ty _ (by omega)
 have hqb:=qb W1 rfl;have hqc:=qc (W1.setCells w.heap.size (i*2) vs).drew rfl
 have hc:Calls Tryz.prog 204 #[.slice (some ⟨g,0,none⟩) m cap, .int .i64 (i:Int), .slice (some ⟨vb,voff,none⟩) 1 vc] w (fun e w2=>e= .returned (.slice (some ⟨w.heap.size,0,none⟩) (m+1) G)/\w2=(W1.setCells w.heap.size (i*2) vs).drew.setCells w.heap.size ((i+1)*2) (olds.drop (i*2))):=by
  clear hR hO hei qa qb qc qd hg hA hcs htk hov hG1 hG2;go_enter Tryz.func204,Tryz.ntmps204
  go_wp2_with (first
   | (at_builtin;refine Lib.wpList_append_run _ rfl _ _ _ _ rfl _ _ rfl rfl _ _ (hqa _) ?_)
   | (at_builtin;refine R5 rfl _ _ 45 45 rfl (.slice (some ⟨w.heap.size,i*2,none⟩) (m+1-i) (G-i)) _ (by simp[Act.eval,Act.put]) rfl (hqb _ _) ?_))
  go_region_law (refine ZI rfl _ _ 45 45 rfl (.slice (some ⟨w.heap.size,(i+1)*2,none⟩) (m+1-(i+1)) (G-(i+1))) (.slice (some ⟨g,i*2,none⟩) (m-i) (cap-i)) (by simp[Act.eval,Act.put]) (by simp[Act.eval,Act.put]) (hqc _ _ _) ?_)
  go_wp2
  go_ret
  exact ⟨rfl,rfl⟩
 refine hc.mono ?_
 rintro e w2 ⟨rfl,rfl⟩
 obtain ⟨p1,p2,p3⟩:=H4 w.heap.size vs (i*2) W1;exact qd _ rfl (p1.trans o1) (p2.trans o2) (p3.trans o3)
theorem PE (l:List Xw) (y:Xw) {i:Int} (hi:0<=i) (hj:i<=l.length) (hl:l.length<1073741824):ATake Tryz.prog 204 2 (eL l) [.one (.int .i64 i), .one (.slc .sh 2 (eL [y]))] true false (eL (Mf l i.toNat y)):=
 SC (by unfold My;kernel_rfl) (by decide) (fun w oa m cap olds i vb voff vc vs=>SE w oa m cap olds i vb voff vc vs) l y hi hj hl
set_option maxRecDepth 100000 in
set_option maxHeartbeats 4000000 in
theorem SF (w:World) (oa:Option Addr) (m cap:Nat) (olds:List Value) (i:Nat) (hR:RowAt w 2 oa m cap olds) (hi:i<m):Calls Tryz.prog 144 #[.slice oa m cap, .int .i64 (i:Int), .int .i64 ((i:Int)+1)] w (MF w 2 i oa m cap olds):=by
 have hu:=(Zl Qa (t:=45) rfl).sli;have hui:=run_underlying (P:=Tryz.prog) hu;have hsz:∀w,(Go.sizeOf 55).run Tryz.prog w= .ok 2 w:=fun w=>Ax (Zl Qa (t:=55) rfl) w
 have hlim:=hR.lim;have hle:=hR.le;have hcm:cap<=9223372036854775807:=by have:=hR.cap;unfold maxLen at this;omega
 have mixed:=Zh;rcases hR.row with ⟨_,h0,_⟩ | ⟨g,cur,e0,rfl,hg,hcs,htk⟩
 . omega
 obtain ⟨W1,qa,o1,o2,o3,qw⟩:=PA (w:=w.drew) Qa (t:=45) (e:=55) rfl rfl (by decide) hg hcs htk ⟨hR.len,hR.row,hR.le,hR.cap,hR.lim,hR.ones⟩ hi;obtain ⟨W2,hcl,qd⟩:=qw W1 rfl o1 o2 o3
 have hd:MF w 2 i (some ⟨g,0,none⟩) m cap olds (.returned (.slice (some ⟨g,0,none⟩) (m-1) cap)) W2:=by
  obtain ⟨u,h1,h2⟩:=qd W2 rfl rfl rfl rfl;exact ⟨u,h1,⟨h2.os,h2.tape,h2.output,h2.size,h2.row⟩⟩
 have hz2:¬((i:Int)=(i:Int)+1):=by omega
 have htn:((i:Int)+1).toNat=i+1:=by omega
 have hb1:(0:Int)<=(i:Int)+1:=by omega
 have hb2:(i:Int)<=(i:Int)+1:=by omega
 have hb3:(i:Int)+1<=(m:Int):=by omega
 have hb4:(i:Int)<=(cap:Int):=by omega
 have hb5:(i:Int)+1<=(cap:Int):=by omega
 have hb6:(m:Int)<=(cap:Int):=by omega
 have hm1:((m-1:Nat):Int)=(m:Int)-1:=by omega
 have hb7:m-1<=m:=by omega
 have hb8:((m-1:Nat):Int)<=(m:Int):=by omega
 have hic:¬(cap=i):=by omega
 have hcm1:¬(cap=m-1):=by omega
 have hc:Calls Tryz.prog 144 #[.slice (some ⟨g,0,none⟩) m cap, .int .i64 (i:Int), .int .i64 ((i:Int)+1)] w (fun e w2=>e= .returned (.slice (some ⟨g,0,none⟩) (m-1) cap)/\w2=W2):=by
  by_cases hc1:cap=i+1
  . have hqa:∀ty,_:=fun ty=>qa ty ⟨g,0,none⟩ (.inl hc1)
    clear hR hg hcs htk qa qw qd hd hm1;subst hc1;go_enter Tryz.func144,Tryz.ntmps144
    go_wp2_with fail
    go_region_law (refine G5 rfl _ _ 45 45 rfl (.slice (some ⟨g,0,none⟩) i (i+1)) (.slice (some ⟨g,0,none⟩) (m-(i+1)) (i+1-(i+1))) (by simp[Act.eval,Act.put]) (by first | (simp[Act.eval,Act.put];done) | (simp[Act.eval,Act.put];omega)) (hqa _) ?_)
    go_wp2
    go_ret
    exact ⟨rfl,rfl⟩
  have hqa:∀ty,_:=fun ty=>qa ty ⟨g,(i+1)*2,none⟩ (.inr rfl)
  clear hR hg hcs htk qa qw qd hd hm1;go_enter Tryz.func144,Tryz.ntmps144
  go_wp2_with fail
  go_region_law (refine G5 rfl _ _ 45 45 rfl (.slice (some ⟨g,0,none⟩) i cap) (.slice (some ⟨g,(i+1)*2,none⟩) (m-(i+1)) (cap-(i+1))) (by simp[Act.eval,Act.put]) (by simp[Act.eval,Act.put,hc1]) (hqa _) ?_)
  go_wp2
  go_ret
  exact ⟨rfl,rfl⟩
 exact hc.mono (by rintro e w2 ⟨rfl,rfl⟩;exact hd)
theorem Qfj (l:List Xw) {i k:Int} (hi:0<=i) (hk:k=i+1) (hj:i<l.length) (hl:l.length<1073741824):ATake Tryz.prog 144 2 (eL l) [.one (.int .i64 i), .one (.int .i64 k)] true false (eL (UR l i.toNat)):=
 BD (by unfold My;kernel_rfl) (fun w oa m cap olds i=>SF w oa m cap olds i) l hi hk hj hl
set_option maxRecDepth 100000 in
set_option maxHeartbeats 4000000 in
theorem MH (w:World) (oa:Option Addr) (m cap:Nat) (olds:List Value) (i:Nat) (hR:RowAt w 5 oa m cap olds) (hi:i<m):Calls Tryz.prog 201 #[.slice oa m cap, .int .i64 (i:Int), .int .i64 ((i:Int)+1)] w (MF w 5 i oa m cap olds):=by
 have hu:=(Zl Qa (t:=42) rfl).sli;have hui:=run_underlying (P:=Tryz.prog) hu;have hsz:∀w,(Go.sizeOf 52).run Tryz.prog w= .ok 5 w:=fun w=>Ax (Zl Qa (t:=52) rfl) w
 have hlim:=hR.lim;have hle:=hR.le;have hcm:cap<=9223372036854775807:=by have:=hR.cap;unfold maxLen at this;omega
 have mixed:=Zh;rcases hR.row with ⟨_,h0,_⟩ | ⟨g,cur,e0,rfl,hg,hcs,htk⟩
 . omega
 obtain ⟨W1,qa,o1,o2,o3,qw⟩:=PA (w:=w.drew) Qa (t:=42) (e:=52) rfl rfl (by decide) hg hcs htk ⟨hR.len,hR.row,hR.le,hR.cap,hR.lim,hR.ones⟩ hi;obtain ⟨W2,hcl,qd⟩:=qw W1 rfl o1 o2 o3
 have hd:MF w 5 i (some ⟨g,0,none⟩) m cap olds (.returned (.slice (some ⟨g,0,none⟩) (m-1) cap)) W2:=by
  obtain ⟨u,h1,h2⟩:=qd W2 rfl rfl rfl rfl;exact ⟨u,h1,⟨h2.os,h2.tape,h2.output,h2.size,h2.row⟩⟩
 have hz2:¬((i:Int)=(i:Int)+1):=by omega
 have htn:((i:Int)+1).toNat=i+1:=by omega
 have hb1:(0:Int)<=(i:Int)+1:=by omega
 have hb2:(i:Int)<=(i:Int)+1:=by omega
 have hb3:(i:Int)+1<=(m:Int):=by omega
 have hb4:(i:Int)<=(cap:Int):=by omega
 have hb5:(i:Int)+1<=(cap:Int):=by omega
 have hb6:(m:Int)<=(cap:Int):=by omega
 have hm1:((m-1:Nat):Int)=(m:Int)-1:=by omega
 have hb7:m-1<=m:=by omega
 have hb8:((m-1:Nat):Int)<=(m:Int):=by omega
 have hic:¬(cap=i):=by omega
 have hcm1:¬(cap=m-1):=by omega
 have hc:Calls Tryz.prog 201 #[.slice (some ⟨g,0,none⟩) m cap, .int .i64 (i:Int), .int .i64 ((i:Int)+1)] w (fun e w2=>e= .returned (.slice (some ⟨g,0,none⟩) (m-1) cap)/\w2=W2):=by
  by_cases hc1:cap=i+1
  . have hqa:∀ty,_:=fun ty=>qa ty ⟨g,0,none⟩ (.inl hc1)
    clear hR hg hcs htk qa qw qd hd hm1;subst hc1;go_enter Tryz.func201,Tryz.ntmps201
    go_wp2_with fail
    go_region_law (refine G5 rfl _ _ 42 42 rfl (.slice (some ⟨g,0,none⟩) i (i+1)) (.slice (some ⟨g,0,none⟩) (m-(i+1)) (i+1-(i+1))) (by simp[Act.eval,Act.put]) (by first | (simp[Act.eval,Act.put];done) | (simp[Act.eval,Act.put];omega)) (hqa _) ?_)
    go_wp2
    go_ret
    exact ⟨rfl,rfl⟩
  have hqa:∀ty,_:=fun ty=>qa ty ⟨g,(i+1)*5,none⟩ (.inr rfl)
  clear hR hg hcs htk qa qw qd hd hm1;go_enter Tryz.func201,Tryz.ntmps201
  go_wp2_with fail
  go_region_law (refine G5 rfl _ _ 42 42 rfl (.slice (some ⟨g,0,none⟩) i cap) (.slice (some ⟨g,(i+1)*5,none⟩) (m-(i+1)) (cap-(i+1))) (by simp[Act.eval,Act.put]) (by simp[Act.eval,Act.put,hc1]) (hqa _) ?_)
  go_wp2
  go_ret
  exact ⟨rfl,rfl⟩
 exact hc.mono (by rintro e w2 ⟨rfl,rfl⟩;exact hd)
theorem Qcd (l:List Xc) {i k:Int} (hi:0<=i) (hk:k=i+1) (hj:i<l.length) (hl:l.length<1073741824):ATake Tryz.prog 201 5 (eL l) [.one (.int .i64 i), .one (.int .i64 k)] true false (eL (UR l i.toNat)):=
 BD (by unfold My;kernel_rfl) (fun w oa m cap olds i=>MH w oa m cap olds i) l hi hk hj hl
def Vu (id:Int) (q0:(List Int)):Bool:=(Vl q0 id)
theorem Pu (id:Int) (q0:(List Int)):ACalls Tryz.prog 288 [.i id, .one (.rptr .sh [.h q0])] (.b (Vu id q0)):=by
 refine en Qa Tryz.func288 fun w0 F0 hG=> ?_
 exact sn Qa [0,1,3] [] (p0) <| tn Qa [3] [] (pc 2 (I2 q0 id) p0) <| Qg <| pb [] (show Vu id q0=(Vl q0 id) from rfl)
def Vm (c0:(List Int)) (k0:Nat) (a0:Int) (_:Unit):Rd (Int) (Unit) (Unit):=(bif (Vu a0 c0) then (.ret ((k0:Nat):Int)) else (.next ()))
def Vn (_:Nat) (_:Unit):Unit:=()
def Qv (s_:(List Int)) (c0:(List Int)):Int:=(Out.on (Xp (Vm c0) Vn s_ 0 ()) (fun _=> -1))
theorem Vo (s_:(List Int)) (c0:(List Int)):Qv s_ c0=ixF (fun a=>Vu a c0) s_:=Qb8 (fun _ _ _=>rfl) s_
theorem Dp (s_:(List Int)) (c0:(List Int)): -1<=Qv s_ c0/\Qv s_ c0<(List.length s_:Int):=by rw[Vo];exact ZJ _ _
theorem Ej (s_:(List Int)) (c0:(List Int)):ACalls Tryz.prog 308 [.h s_, .one (.fnr 288 [[.h c0]])] (.i (Qv s_ c0)):=by
 refine en Qa Tryz.func308 fun w0 F0 hG=> ?_
 refine sn Qa [0,1,4] [] (p0) <| Qc <| tn Qa [0,1,4,7,8] [] (pl 1 s_ p0) <| mz [(4, .i 0),(7, .i (s_.length:Int)),(8, .i 0)] [] [] [] <| wT 0 0 .sh s_ (fun hw1 hl2=> ?_)
 refine Ox (Vm c0) Vn s_ () (fun k0 _=> [(8, .i ((k0:Nat):Int))]) [8] (fun _=> []) [0,1,7,8] wf0 (fun k0 s0 hk0 hI0=> ?_) (fun k0 s0 hk0 hI0=> ?_) (fun y0 hD0=> ?_)
 ·
  obtain ⟨a0,hx0⟩:=Xh (l:=s_) (i:=k0) hk0;refine sn Qa [0,1,4,7,8,9] [] (pe 0 (Qp (decide_eq_true (p:=((k0:Nat):Int)<(s_.length:Int)) (by omega))) p0) <| Qc <| ckT <| Qf <| Qc <| Qu <| tn Qa [0,1,4,5,7,8] [] (p0) <| tu Qa [(5, .i ((k0:Nat):Int)),(16, .b (Vu a0 c0))] [] [] [] (pn 3 hx0 (pc 5 (Pu a0 c0) p0)) <| ck (Vu a0 c0) (fun h3=> ?_) (fun h3=> ?_)
  ·
   refine sn Qa [0,1,4,7,8] [] (p0) <| Qg ?_
   have hr4:(Xp (Vm c0) Vn s_ 0 ())= .ret ((k0:Nat):Int):=Jg hx0 (Xf h3 (rfl)) hI0;exact pi [] (Oa hr4)
  refine Qf <| rn Qa [0,1,4,7,8] [] (pe 0 (Jh (Ql k0 (by omega))) p0) ?_
  exact xw _ (Qr hx0 (Qs h3 (rfl)) hI0)
 ·
  exact sn Qa [0,1,4,7,8,9] [] (pe 0 (Qp (decide_eq_false (p:=((k0:Nat):Int)<(s_.length:Int)) (by omega))) p0) <| Qc <| ckF <| Q2 <| xw _ (Xi hk0 (rfl) hI0)
 exact sn Qa [4] [] (p0) <| Qg <| pi [] (Wj hD0 (rfl))
def Y4 (c0:(List Int)) (s0:(List Int)×Int×Int):Rd ((List Int)) ((List Int)×Int×Int) ((List Int)×Int):=(bif decide (s0.2.2<(s0.1.length:Int)) then (bif (!(Vu (nth s0.1 (Int.toNat s0.2.2)) c0)) then (.next (List.set s0.1 (Int.toNat s0.2.1) (nth s0.1 (Int.toNat s0.2.2)),(s0.2.1+1),(s0.2.2+1))) else (.next (s0.1,s0.2.1,(s0.2.2+1)))) else (.brk (s0.1,s0.2.1)))
def Ya (s_:(List Int)) (c0:(List Int)):(List Int):=(bif ((Qv s_ c0)==(-1:Int)) then s_ else (Out.on (Nj (Y4 c0) (List.length s_+1) (s_,(Qv s_ c0),((Qv s_ c0)+1))) (fun y0=>List.take (Int.toNat y0.2) y0.1)))
theorem Uw (c0:(List Int)):WF (Y4 c0) (fun a=>Vu a c0):=by
 intro s i j hij hj;unfold Y4;by_cases h:(j:Int)<(s.length:Int)<;>cases hp:Vu (nth s j) c0<;>simp[h,hp]
theorem Dq (s_:(List Int)) (c0:(List Int)) (hp:List.length s_<=1073741824) (h:Qv s_ c0≠-1):(whl (Y4 c0) (List.length s_+1) (s_,Qv s_ c0,Qv s_ c0+1)).isSome=true:=Qfi (Uw c0) hp (Vo s_ c0) h
theorem Dj (s_:(List Int)) (c0:(List Int)) (hp:List.length s_<=1073741824):Ya s_ c0=s_.filter (fun a=> !(Vu a c0)):=by
 unfold Ya;exact Qke (Uw c0) hp (Vo s_ c0)
theorem Dk (s_:(List Int)) (c0:(List Int)) (hp:List.length s_<=1073741824):List.length (Ya s_ c0)<=List.length s_:=by rw[Dj _ _ hp];exact List.length_filter_le _ _
theorem Dr (s_:(List Int)) (c0:(List Int)):ATake Tryz.prog 287 1 (eL s_) [.one (.fnr 288 [[.h c0]])] true false (eL (Ya s_ c0)):=by
 refine Qfc (tt:=tt) Qa Tryz.func287 (fn:=Tryz.f287) rfl (by unfold My;kernel_rfl) (Nat.le_of_ble_eq_true rfl) (by simp[AV.cells,C.key,C.bkeys]) (t:=4) rfl fun w0 F0 hG=> ?_
 refine wT 0 0 (.own false 63) s_ (fun hw1 hl2=> ?_);have hix:=Dp s_ c0;refine sn Qa [0,1,4] [] (p0) <| tn Qa [0,1,4,5] [] (pc 2 (Ej s_ c0) p0) <| Qc <| tu Qa [(4, .e 0),(5, .i (Qv s_ c0)),(12, .b ((Qv s_ c0)==(-1:Int)))] [] [] [] (p0) <| ck ((Qv s_ c0)==(-1:Int)) (fun h3=> ?_) (fun h3=> ?_)
 ·
  refine sn Qa [0,1,4,5] [] (p0) <| Qg ?_
  have hE4:Ya s_ c0=s_:=Xf h3 (rfl);exact ⟨.inl rfl,63,by rw[hE4];kernel_rfl⟩
 have h3d:=Z2 h3;refine Qf <| Qc <| sn Qa [0,1,4,5,6] [] (pe 1 (Jh (IntWalk.i64_in ((Qv s_ c0)+1) (by omega))) p0) <| mz [(6, .i ((Qv s_ c0)+1))] [12] [] [] <| blw (fun (s0:(List Int)×Int×Int)=> [(0, .q 63 s0.1),(5, .i s0.2.1),(6, .i s0.2.2)]) [0,5,6] (fun s0=> []) [] (fun (y0:(List Int)×Int)=> [(0, .q 63 y0.1),(5, .i y0.2)]) [0,1,5,6] (fun y0=> []) [] (fun (k0:Nat) (s0:(List Int)×Int×Int)=>whl (Y4 c0) k0 s0=some (Nj (Y4 c0) (List.length s_+1) (s_,(Qv s_ c0),((Qv s_ c0)+1)))/\0<=s0.2.1/\s0.2.1<s0.2.2/\s0.2.2<=(List.length s0.1:Int)/\List.length s0.1=List.length s_) (fun (y0:(List Int)×Int)=>(Nj (Y4 c0) (List.length s_+1) (s_,(Qv s_ c0),((Qv s_ c0)+1)))= .brk y0/\0<=y0.2/\y0.2<(List.length y0.1:Int)/\List.length y0.1=List.length s_) (List.length s_+1) (s_,(Qv s_ c0),((Qv s_ c0)+1)) wf0 ⟨Oc (Dq s_ c0 hl2 h3d),(by first | omega | (dsimp only;omega) | rfl),(by first | omega | (dsimp only;omega) | rfl),(by first | omega | (dsimp only;omega) | rfl),(by first | omega | (dsimp only;omega) | rfl)⟩ (fun _ h=>P9 h.1) (fun k0 s0 hI0=> ?_) (fun y0 hD0=> ?_)
 ·
  have hA0_0:=hI0.2.1;have hA0_1:=hI0.2.2.1;have hA0_2:=hI0.2.2.2.1;have hA0_3:=hI0.2.2.2.2;refine Qc <| sn Qa [0,1,4,5,6,19] [] (pl 2 s0.1 p0) <| ck (decide (s0.2.2<(s0.1.length:Int))) (fun h5=> ?_) (fun h5=> ?_)
  ·
   have h5d:=of_decide_eq_true h5;refine Qf <| Qc <| Qu <| wT 0 0 (.own false 63) s0.1 (fun hw7 hl8=> ?_)
   have hx6:=ng s0.1 (Int.toNat s0.2.2);refine tn Qa [0,1,4,5,6,7] [] (pG 2 s0.2.2 hx6 p0) <| tu Qa [(7, .i (nth s0.1 (Int.toNat s0.2.2))),(29, .b (!(Vu (nth s0.1 (Int.toNat s0.2.2)) c0)))] [] [] [] (pc 2 (Pu (nth s0.1 (Int.toNat s0.2.2)) c0) p0) <| ck (!(Vu (nth s0.1 (Int.toNat s0.2.2)) c0)) (fun h9=> ?_) (fun h9=> ?_)
   ·
    have hx10:=ng s0.1 (Int.toNat s0.2.1);refine su Qa [(0, .one (.slc (.own false 63) 1 (setRow (eL s0.1) (Int.toNat s0.2.1) 0 [.i (nth s0.1 (Int.toNat s0.2.2))])))] [0,7,29] [] [] (pG 3 s0.2.1 hx10 p0) <| eqn [(0, .q 63 (List.set s0.1 (Int.toNat s0.2.1) (nth s0.1 (Int.toNat s0.2.2))))] [0] [] [] (by rw[Kh (y:=(nth s0.1 (Int.toNat s0.2.2))) hx10 rfl]<;>kernel_rfl) ?_
    refine rn Qa [0,1,4,5,6] [] (pe 1 (Jh (IntWalk.i64_in (s0.2.1+1) (by omega))) p0) ?_;refine qn Qa [0,1,4,5,6] [] (pe 1 (Jh (IntWalk.i64_in (s0.2.2+1) (by omega))) p0) ?_;exact xw (List.set s0.1 (Int.toNat s0.2.1) (nth s0.1 (Int.toNat s0.2.2)),(s0.2.1+1),(s0.2.2+1)) ⟨wn hI0.1 (Xf h5 (Xf h9 (rfl))),(by first | omega | (dsimp only;omega) | (simp only[List.length_set];omega)),(by first | omega | (dsimp only;omega) | (simp only[List.length_set];omega)),(by first | omega | (dsimp only;omega) | (simp only[List.length_set];omega)),(by first | omega | (dsimp only;omega) | (simp only[List.length_set];omega))⟩
   refine Qf <| rn Qa [0,1,4,5,6] [] (pe 1 (Jh (IntWalk.i64_in (s0.2.2+1) (by omega))) p0) ?_
   exact xw (s0.1,s0.2.1,(s0.2.2+1)) ⟨wn hI0.1 (Xf h5 (Qs h9 (rfl))),(by first | omega | (dsimp only;omega) | (simp only[List.length_set];omega)),(by first | omega | (dsimp only;omega) | (simp only[List.length_set];omega)),(by first | omega | (dsimp only;omega) | (simp only[List.length_set];omega)),(by first | omega | (dsimp only;omega) | (simp only[List.length_set];omega))⟩
  have h5d:=of_decide_eq_false h5;exact Q2 <| xw (s0.1,s0.2.1) ⟨wb hI0.1 (Qs h5 (rfl)),by first | omega | (simp only[List.length_set];omega),by first | omega | (simp only[List.length_set];omega),by first | omega | (simp only[List.length_set];omega)⟩
 have hD0_0:=hD0.2.1;have hD0_1:=hD0.2.2.1;have hD0_2:=hD0.2.2.2;refine Qc <| Qb4 Qa rfl (by kernel_rfl) rfl rfl rfl rfl rfl (by omega) (by rw[Zj];omega) (fun lc11 hllc11 htlc11=> ?_)
 refine sn Qa [4] [] (po 2 (.cut (eL (List.take (Int.toNat y0.2) y0.1))) (px (Qlb (show .one (.slc (.own false 0) 1 ((lc11.take (Int.toNat y0.2)).drop (Int.toNat 0)))= .q 0 (List.take (Int.toNat y0.2) y0.1) from (congrArg (fun z=>AV.one (.slc (.own false 0) 1 (z.drop (Int.toNat 0)))) htlc11).trans (LI (.own false 0) 1 (Int.toNat y0.2) y0.2 y0.1 rfl))) (px (Tw (lo:=0) (hi:=y0.2) (n:=(List.length lc11)) (Qkd (by omega) (by rw[hllc11,Zj];omega))) p0))) <| Qg ?_
 have hE12:Ya s_ c0=List.take (Int.toNat y0.2) y0.1:=Qs h3 (Wj hD0.1 (rfl));exact ⟨.inl rfl,0,by rw[hE12];kernel_rfl⟩
def Gm (a_:(List Int)) (b:(List Int)):(List Int):=Ya a_ b
theorem QQ (a_:(List Int)) (b:(List Int)):ACalls Tryz.prog 257 [.h a_, .h b] (.o 0 (Gm a_ b)):=by
 refine en Qa Tryz.func257 fun w0 F0 hG=> ?_
 refine sn Qa [0,3,4] [3] (p0) <| wT 0 0 .sh a_ (fun hw1 hl2=> ?_)
 have hq3:=Dk a_ b hl2;exact tn Qa [4] [] (pc 1 (YA a_) (po 3 (.take false false (eL (Ya a_ b))) (px (Sq (SD (Dr a_ b) (Ca _))) (px (Dg (Ca a_)) (px (Dg (Ca (Ya a_ b))) p0))))) <| Qg <| po0 [] (show Gm a_ b=Ya a_ b from rfl)
def Iu (_:Nat) (a0:Xc) (s0:(List Xc)):Rd ((List Xc)) ((List Xc)) ((List Xc)):=(.next (s0++ [(Qj a0)]))
def D2 (_:Nat) (s0:(List Xc)):(List Xc):=s0
def Fw (l:(List Xc)):(List Xc):=(Out.on (Xp Iu D2 l 0 []) (fun y0=>y0))
theorem WI (l:(List Xc)):ACalls Tryz.prog 193 [.h l] (.o 0 (Fw l)):=by
 refine en Qa Tryz.func193 fun w0 F0 hG=> ?_
 refine sn Qa [0,2] [] (p0) <| tn Qa [0,2,3] [] (p0) <| Qc <| tu Qa [(2, .e 0),(3, .one (.slc (.own true 384) 5 [])),(7, .h l),(8, .i (l.length:Int)),(9, .i 0)] [0] [] [] (pl 1 l p0) <| wT 7 0 .sh l (fun hw1 hl2=> ?_)
 refine XY Iu D2 l [] (fun k0 s0=> [(3, .o 147201 s0),(9, .i ((k0:Nat):Int))]) [3,9] (fun y0=> [(3, .o 147351 y0)]) [3,7,8,9] (fun k0 s0=>List.length s0<=k0) (Xl [(384,147201)] (by kernel_rfl)) (by simp) (fun k0 s0 hk0 hI0=> ?_) (fun k0 s0 hk0 hI0=> ?_) (fun y0 hD0=> ?_)
 ·
  have hA0_0:=hI0.2;obtain ⟨a0,hx0⟩:=Xh (l:=l) (i:=k0) hk0;refine sn Qa [2,3,7,8,9,10] [] (pe 0 (Qp (decide_eq_true (p:=((k0:Nat):Int)<(l.length:Int)) (by omega))) p0) <| Qc <| ckT <| Qf <| Qc <| Qu <| tn Qa [2,3,5,7,8,9] [5] (pn 0 hx0 p0) <| wT 3 0 (.own true 147201) s0 (fun hw3 hl4=> ?_)
  refine qu Qa [(3, .one (.slc (.own true 1088) 5 ((eL s0)++ [[.i ((Qj a0).1), .i ((Qj a0).2.1), .b ((Qj a0).2.2.1), .i ((Qj a0).2.2.2.1), .h ((Qj a0).2.2.2.2)]])))] [3] [] [] (pc 2 (Dn a0) (pa s0 [(Qj a0)] p0)) ?_;refine eqn [(3, .o 1088 (s0++ [(Qj a0)]))] [3] [] [] (by rw[show ((eL s0)++ [[.i ((Qj a0).1), .i ((Qj a0).2.1), .b ((Qj a0).2.2.1), .i ((Qj a0).2.2.2.1), .h ((Qj a0).2.2.2.2)]])=(eL (s0++ [(Qj a0)])) from Ks (rfl) (rfl)];first | done | kernel_rfl) ?_;refine rn Qa [2,3,7,8,9] [] (pe 0 (Jh (Ql k0 (by omega))) p0) ?_;exact Exists.intro (s0++ [(Qj a0)]) (And.intro (Xl [(1088,147201)] (by kernel_rfl)) ⟨Qr hx0 (rfl) hI0.1,by first | omega | (simp;omega) | simp⟩)
 ·
  have hA0_0:=hI0.2;exact sn Qa [2,3,7,8,9,10] [] (pe 0 (Qp (decide_eq_false (p:=((k0:Nat):Int)<(l.length:Int)) (by omega))) p0) <| Qc <| ckF <| Q2 <| Exists.intro _ (And.intro (Xl [(147201,147351)] (by kernel_rfl)) (Xi hk0 (rfl) hI0.1))
 exact sn Qa [2] [] (p0) <| Qg <| po0 [] (Wj hD0 (rfl))
def Q7 (s_:Qz):Qz:=(s_.1,(Fw s_.2.1),s_.2.2)
theorem ZL (l:List Xc):Fw l=l:=by
 unfold Fw;rw[Au (f:=Iu) (e:=D2) (g:=id) (fun k a s=>rfl) l 0 []];simp[Out.on,D2]
theorem Oq (s_:Qz):(Q7 s_).2.1.length=s_.2.1.length:=by unfold Q7;rw[ZL]
theorem Ez (s_:Qz):Q7 s_=s_:=by unfold Q7;rw[ZL]
theorem Cm (s_:Qz):ACalls Tryz.prog 130 [.a [.h s_.1, .h s_.2.1, .i s_.2.2]] (.a [.o 0 ((Q7 s_).1), .o 1 ((Q7 s_).2.1), .i ((Q7 s_).2.2)]):=by
 refine en Qa Tryz.func130 fun w0 F0 hG=> ?_
 exact sn Qa [1,2] [1,2] (p0) <| tN Qa Zh [2] [2] (pc 2 (ZD s_.1) (pc 5 (WI s_.2.1) p0)) <| Qg <| pz [] (show Q7 s_=(s_.1,(Fw s_.2.1),s_.2.2) from rfl) (fun z=> .a [.o 0 z.1, .o 1 z.2.1, .i z.2.2])
def Yh (s_:Qz) (f:Xc):Qz×Int×Bool:=(bif ((!(Qq s_))|| (decide ((s_.2.1.length:Int)>=(12:Int))|| (!(X3 s_.1 (s_.2.2,(Qj f).2.1,(Qj f).2.2.1,(Qj f).2.2.2.1,(Qj f).2.2.2.2))))) then ((Q7 s_),0,false) else (((Q7 s_).1,(Q7 s_).2.1++ [(s_.2.2,(Qj f).2.1,(Qj f).2.2.1,(Qj f).2.2.2.1,(Qj f).2.2.2.2)],IntKind.i64.wrap ((Q7 s_).2.2+1)),s_.2.2,true))
theorem ZR (s_:Qz) (f:Xc):ACalls Tryz.prog 133 [.a [.h s_.1, .h s_.2.1, .i s_.2.2], .a [.i f.1, .i f.2.1, .b f.2.2.1, .i f.2.2.2.1, .h f.2.2.2.2]] (.tup [(true, [.o 0 ((((Yh s_ f)).1).1), .o 1 ((((Yh s_ f)).1).2.1), .i ((((Yh s_ f)).1).2.2)]),(false, [.i (((Yh s_ f)).2.1)]),(false, [.b (((Yh s_ f)).2.2)])]):=by
 refine en Qa Tryz.func133 fun w0 F0 hG=> ?_
 have hcl:=Oq s_;refine sn Qa [2,3,4,5,6] [2,3,4] (p0) <| tn Qa [2,3,4,5,6,7] [2,3,4,7] (pc 1 (Cm s_) p0) <| tu Qa [(2, .p 2 0),(3, .p 3 0),(4, .p 4 0),(5, .i 0),(6, .b false),(7, .p 7 0)] [0,1] [(2, [.h s_.1, .h s_.2.1, .i s_.2.2]),(3, [.i ((Qj f).1), .i ((Qj f).2.1), .b ((Qj f).2.2.1), .i ((Qj f).2.2.2.1), .o 704 ((Qj f).2.2.2.2)]),(4, [.e 2, .e 5, .i 0]),(7, [.o 576 ((Q7 s_).1), .o 577 ((Q7 s_).2.1), .i ((Q7 s_).2.2)])] [] (pc 1 (Dn f) p0) <| sn Qa [2,3,4,5,6,7] [2,3,4,7] (p0) <| Qc <| Qc <| mz [] [] [(3, [.i s_.2.2, .i ((Qj f).2.1), .b ((Qj f).2.2.1), .i ((Qj f).2.2.2.1), .o 704 ((Qj f).2.2.2.2)])] [3] <| jn [(30, .b ((!(Qq s_))|| (decide ((s_.2.1.length:Int)>=(12:Int))|| (!(X3 s_.1 (s_.2.2,(Qj f).2.1,(Qj f).2.2.1,(Qj f).2.2.2.1,(Qj f).2.2.2.2))))))] [2] [] [2] (!(Qq s_)) (fun h1=> ?_) (fun h1=> ?_) ?_
 ·
  have h1n:(Qq s_)=false:=Vd h1;refine ru Qa [(30, .b true)] [2] [] [2] (pc 1 (cb h1n (Jp s_)) (pe 2 (show .b (!false)= .b true from rfl) p0)) ?_;exact ⟨rfl,Qd (by rw[h1]<;>kernel_rfl)⟩
 ·
  have h1n:(Qq s_)=true:=Y3 h1;refine X5 (decide ((s_.2.1.length:Int)>=(12:Int))) (fun h2=> ?_) (fun h2=> ?_)
  ·
   refine ru Qa [(30, .b true)] [2] [] [2] (pc 1 (cb h1n (Jp s_)) (pe 2 (show .b (!true)= .b false from rfl) (pl 6 s_.2.1 (pt 7 h2 p0)))) ?_;exact ⟨rfl,Qd (by rw[h1,h2]<;>kernel_rfl)⟩
  refine rn Qa [3,4,5,6,7,30] [3,4,7] (pc 1 (cb h1n (Jp s_)) (pe 2 (show .b (!true)= .b false from rfl) (pl 6 s_.2.1 (pf 7 h2 (pc 13 (U9 s_.1 (s_.2.2,(Qj f).2.1,(Qj f).2.2.1,(Qj f).2.2.2.1,(Qj f).2.2.2.2)) p0))))) ?_;exact ⟨rfl,Qd (by rw[h1,h2]<;>kernel_rfl)⟩
 refine ck ((!(Qq s_))|| (decide ((s_.2.1.length:Int)>=(12:Int))|| (!(X3 s_.1 (s_.2.2,(Qj f).2.1,(Qj f).2.2.1,(Qj f).2.2.2.1,(Qj f).2.2.2.2))))) (fun h3=> ?_) (fun h3=> ?_)
 ·
  exact sn Qa [3,4,5,6,7] [3,4,7] (p0) <| Qg <| pz [] (show Yh s_ f=_ from Xf h3 (rfl)) (fun z=> .tup [(true, [.o 0 z.1.1, .o 1 z.1.2.1, .i z.1.2.2]),(false, [.i z.2.1]),(false, [.b z.2.2])])
 have h3r:((decide ((s_.2.1.length:Int)>=(12:Int))|| (!(X3 s_.1 (s_.2.2,(Qj f).2.1,(Qj f).2.2.1,(Qj f).2.2.2.1,(Qj f).2.2.2.2)))))=false:=Re h3;have h3rl:(decide ((s_.2.1.length:Int)>=(12:Int)))=false:=Rc h3r;have h3rld:=of_decide_eq_false h3rl;refine Qf <| wB 7 1 (.own true 577) ((Q7 s_).2.1) (fun hw4 hl5=> ?_)
 refine su Qa [] [30] [(3, [.i s_.2.2, .i ((Qj f).2.1), .b ((Qj f).2.2.1), .i ((Qj f).2.2.2.1), .dead]),(7, [.o 576 ((Q7 s_).1), .slc (.own true 2304) 5 ((eL ((Q7 s_).2.1))++ [[.i s_.2.2, .i ((Qj f).2.1), .b ((Qj f).2.2.1), .i ((Qj f).2.2.2.1), .h ((Qj f).2.2.2.2)]]), .i ((Q7 s_).2.2)])] [3,7] (pa ((Q7 s_).2.1) [(s_.2.2,(Qj f).2.1,(Qj f).2.2.1,(Qj f).2.2.2.1,(Qj f).2.2.2.2)] p0) <| eqn [] [] [(7, [.o 576 ((Q7 s_).1), .o 2304 ((Q7 s_).2.1++ [(s_.2.2,(Qj f).2.1,(Qj f).2.2.1,(Qj f).2.2.2.1,(Qj f).2.2.2.2)]), .i ((Q7 s_).2.2)])] [7] (by rw[show ((eL ((Q7 s_).2.1))++ [[.i s_.2.2, .i ((Qj f).2.1), .b ((Qj f).2.2.1), .i ((Qj f).2.2.2.1), .h ((Qj f).2.2.2.2)]])=(eL ((Q7 s_).2.1++ [(s_.2.2,(Qj f).2.1,(Qj f).2.2.1,(Qj f).2.2.2.1,(Qj f).2.2.2.2)])) from Ks (rfl) (rfl)];first | done | kernel_rfl) ?_
 exact sn Qa [3,4,5,6,7] [3,4,7] (p0) <| tN Qa Zh [4,5,6] [4] (p0) <| Qg <| pz [] (show Yh s_ f=_ from Qs h3 (rfl)) (fun z=> .tup [(true, [.o 0 z.1.1, .o 1 z.1.2.1, .i z.1.2.2]),(false, [.i z.2.1]),(false, [.b z.2.2])])
def Qk (s_:Qz) (id:Int):Xc×Bool:=(bif decide ((Xv s_ id)>=(0:Int)) then ((Qj (nth s_.2.1 (Int.toNat (Xv s_ id)))),true) else ((0,0,false,0, []),false))
theorem BE {s:Qz} (h:Qq s=true) (id:Int):List.length (Qk s id).1.2.2.2.2<=5:=by
 unfold Qk;by_cases hc:Xv s id>=(0:Int)
 . rw[decide_eq_true hc,cond_true];have hl:=QP s id;exact ZK h (List.mem_of_getElem? (V7 (l:=s.2.1) (i:=Int.toNat (Xv s id)) (by omega)))
 rw[decide_eq_false hc,cond_false];exact Nat.zero_le _
theorem G7 (s_:Qz) (id:Int):ACalls Tryz.prog 70 [.a [.h s_.1, .h s_.2.1, .i s_.2.2], .i id] (.tup [(true, [.i ((((Qk s_ id)).1).1), .i ((((Qk s_ id)).1).2.1), .b ((((Qk s_ id)).1).2.2.1), .i ((((Qk s_ id)).1).2.2.2.1), .o 0 ((((Qk s_ id)).1).2.2.2.2)]),(false, [.b (((Qk s_ id)).2)])]):=by
 refine en Qa Tryz.func70 fun w0 F0 hG=> ?_
 refine sn Qa [1,2,4,5] [2,4] (p0) <| Qc <| tn Qa [2,4,5,6] [2,4] (pc 2 (Mn s_ id) p0) <| tu Qa [(2, .p 2 0),(4, .p 4 0),(5, .b false),(6, .i (Xv s_ id)),(11, .b (decide ((Xv s_ id)>=(0:Int))))] [0,1] [(2, [.h s_.1, .h s_.2.1, .i s_.2.2]),(4, [.i 0, .i 0, .b false, .i 0, .e 4])] [] (p0) <| ck (decide ((Xv s_ id)>=(0:Int))) (fun h1=> ?_) (fun h1=> ?_)
 ·
  have h1p:=QP s_ id;have h1d:=of_decide_eq_true h1;refine wB 2 1 .sh s_.2.1 (fun hw3 hl4=> ?_);have hx2:=ng s_.2.1 (Int.toNat (Xv s_ id));exact sn Qa [4,5] [4] (pg 3 (Xv s_ id) hx2 (pc 5 (Dn (nth s_.2.1 (Int.toNat (Xv s_ id)))) p0)) <| Qg <| pz [] (show Qk s_ id=_ from Xf h1 (rfl)) (fun z=> .tup [(true, [.i z.1.1, .i z.1.2.1, .b z.1.2.2.1, .i z.1.2.2.2.1, .o 0 z.1.2.2.2.2]),(false, [.b z.2])])
 refine Qf <| sn Qa [4,5] [4] (p0) <| opn [(true,4,4,true,384000,4)] ?_
 exact Qg <| pz [] (show Qk s_ id=_ from Qs h1 (rfl)) (fun z=> .tup [(true, [.i z.1.1, .i z.1.2.1, .b z.1.2.2.1, .i z.1.2.2.2.1, .o 0 z.1.2.2.2.2]),(false, [.b z.2])])
def Xy (s_:Qz) (f:Xc):Qz×Bool:=(bif ((!(Qq s_))|| (decide ((Xv s_ f.1)<(0:Int))|| (!(X3 s_.1 f)))) then ((Q7 s_),false) else (((Q7 s_).1,List.set ((Q7 s_).2.1) (Int.toNat (Xv s_ f.1)) (Qj f),(Q7 s_).2.2),true))
theorem BF {s:Qz} {f:Xc} (h:(Xy s f).2=true):Qq s=true/\List.length f.2.2.2.2<=5:=by
 unfold Xy at h;cases hv:Qq s with
 | false=>rw[hv] at h;simp at h
 | true=>
  refine ⟨rfl, ?_⟩;cases hf:X3 s.1 f with
  | true=>exact Te hf
  | false=>
   rw[hv,hf] at h;simp at h
theorem YK (s_:Qz) (f:Xc):ACalls Tryz.prog 137 [.a [.h s_.1, .h s_.2.1, .i s_.2.2], .a [.i f.1, .i f.2.1, .b f.2.2.1, .i f.2.2.2.1, .h f.2.2.2.2]] (.tup [(true, [.o 0 ((((Xy s_ f)).1).1), .o 1 ((((Xy s_ f)).1).2.1), .i ((((Xy s_ f)).1).2.2)]),(false, [.b (((Xy s_ f)).2)])]):=by
 refine en Qa Tryz.func137 fun w0 F0 hG=> ?_
 have hcl:=Oq s_;refine sn Qa [2,3,4,5] [2,3,4] (p0) <| tn Qa [2,3,4,5,6] [2,3,4,6] (pc 1 (Cm s_) p0) <| tu Qa [(2, .p 2 0),(3, .p 3 0),(4, .p 4 0),(5, .b false),(6, .p 6 0),(7, .i (Xv s_ f.1))] [0,1] [(2, [.h s_.1, .h s_.2.1, .i s_.2.2]),(3, [.i f.1, .i f.2.1, .b f.2.2.1, .i f.2.2.2.1, .h f.2.2.2.2]),(4, [.e 2, .e 5, .i 0]),(6, [.o 576 ((Q7 s_).1), .o 577 ((Q7 s_).2.1), .i ((Q7 s_).2.2)])] [] (pc 3 (Mn s_ f.1) p0) <| Qc <| Qc <| jn [(27, .b ((!(Qq s_))|| (decide ((Xv s_ f.1)<(0:Int))|| (!(X3 s_.1 f)))))] [2] [] [2] (!(Qq s_)) (fun h1=> ?_) (fun h1=> ?_) ?_
 ·
  have h1n:(Qq s_)=false:=Vd h1;refine ru Qa [(27, .b true)] [2] [] [2] (pc 1 (cb h1n (Jp s_)) (pe 2 (show .b (!false)= .b true from rfl) p0)) ?_;exact ⟨rfl,Qd (by rw[h1]<;>kernel_rfl)⟩
 ·
  have h1n:(Qq s_)=true:=Y3 h1;have h1ns:=YJ h1n;refine X5 (decide ((Xv s_ f.1)<(0:Int))) (fun h2=> ?_) (fun h2=> ?_)
  ·
   refine ru Qa [(27, .b true)] [2] [] [2] (pc 1 (cb h1n (Jp s_)) (pe 2 (show .b (!true)= .b false from rfl) (pt 5 h2 p0))) ?_;exact ⟨rfl,Qd (by rw[h1,h2]<;>kernel_rfl)⟩
  have h2p:=QP s_ f.1;refine rn Qa [3,4,5,6,7,27] [3,4,6] (pc 1 (cb h1n (Jp s_)) (pe 2 (show .b (!true)= .b false from rfl) (pf 5 h2 (pc 11 (U9 s_.1 f) p0)))) ?_;exact ⟨rfl,Qd (by rw[h1,h2]<;>kernel_rfl)⟩
 refine ck ((!(Qq s_))|| (decide ((Xv s_ f.1)<(0:Int))|| (!(X3 s_.1 f)))) (fun h3=> ?_) (fun h3=> ?_)
 ·
  exact sn Qa [3,4,5,6,7] [3,4,6] (p0) <| Qg <| pz [] (show Xy s_ f=_ from Xf h3 (rfl)) (fun z=> .tup [(true, [.o 0 z.1.1, .o 1 z.1.2.1, .i z.1.2.2]),(false, [.b z.2])])
 have h3l:((!(Qq s_)))=false:=Rc h3;have h3ln:(Qq s_)=true:=Y3 h3l;have h3lns:=YJ h3ln;have h3r:((decide ((Xv s_ f.1)<(0:Int))|| (!(X3 s_.1 f))))=false:=Re h3;have h3rl:(decide ((Xv s_ f.1)<(0:Int)))=false:=Rc h3r;have h3rlp:=QP s_ f.1;have h3rld:=of_decide_eq_false h3rl;refine Qf <| wB 6 1 (.own true 577) ((Q7 s_).2.1) (fun hw5 hl6=> ?_)
 have hx4:=ng ((Q7 s_).2.1) (Int.toNat (Xv s_ f.1));refine sU Qa Zh [] [3,7,27] [(6, [.o 576 ((Q7 s_).1), .slc (.own true 577) 5 (setRow (eL ((Q7 s_).2.1)) (Int.toNat (Xv s_ f.1)) 0 [.i ((Qj f).1), .i ((Qj f).2.1), .b ((Qj f).2.2.1), .i ((Qj f).2.2.2.1), .h ((Qj f).2.2.2.2)]), .i ((Q7 s_).2.2)])] [3,6] (pc 4 (Dn f) (pG 5 (Xv s_ f.1) hx4 p0)) <| eqn [] [] [(6, [.o 576 ((Q7 s_).1), .o 577 (List.set ((Q7 s_).2.1) (Int.toNat (Xv s_ f.1)) (Qj f)), .i ((Q7 s_).2.2)])] [6] (by rw[Kh (y:=(Qj f)) hx4 rfl]<;>kernel_rfl) ?_
 exact sn Qa [4,5] [4] (p0) <| Qg <| pz [] (show Xy s_ f=_ from Qs h3 (rfl)) (fun z=> .tup [(true, [.o 0 z.1.1, .o 1 z.1.2.1, .i z.1.2.2]),(false, [.b z.2])])
def Yt (s_:Qz) (id:Int):Qz×Bool:=(bif ((!(Qq s_))|| decide ((Xv s_ id)<(0:Int))) then ((Q7 s_),false) else (((Q7 s_).1,UR ((Q7 s_).2.1) (Int.toNat (Xv s_ id)),(Q7 s_).2.2),true))
theorem ZS (s_:Qz) (id:Int):ACalls Tryz.prog 139 [.a [.h s_.1, .h s_.2.1, .i s_.2.2], .i id] (.tup [(true, [.h ((((Yt s_ id)).1).1), .h ((((Yt s_ id)).1).2.1), .i ((((Yt s_ id)).1).2.2)]),(false, [.b (((Yt s_ id)).2)])]):=by
 refine en Qa Tryz.func139 fun w0 F0 hG=> ?_
 have hcl:=Oq s_;refine sn Qa [1,2,4,5] [2,4] (p0) <| tn Qa [1,2,4,5,6] [2,4,6] (pc 1 (Cm s_) p0) <| tu Qa [(2, .p 2 0),(4, .p 4 0),(5, .b false),(6, .p 6 0),(7, .i (Xv s_ id))] [0,1] [(2, [.h s_.1, .h s_.2.1, .i s_.2.2]),(4, [.e 2, .e 5, .i 0]),(6, [.o 576 ((Q7 s_).1), .o 577 ((Q7 s_).2.1), .i ((Q7 s_).2.2)])] [] (pc 2 (Mn s_ id) p0) <| Qc <| Qc <| jn [(19, .b ((!(Qq s_))|| decide ((Xv s_ id)<(0:Int))))] [2] [] [2] (!(Qq s_)) (fun h1=> ?_) (fun h1=> ?_) ?_
 ·
  have h1n:(Qq s_)=false:=Vd h1;refine rn Qa [4,5,6,7,19] [4,6] (pc 1 (cb h1n (Jp s_)) (pe 2 (show .b (!false)= .b true from rfl) p0)) ?_;exact ⟨rfl,Qd (by rw[h1]<;>kernel_rfl)⟩
 ·
  have h1n:(Qq s_)=true:=Y3 h1;have h1ns:=YJ h1n;refine rn Qa [4,5,6,7,19] [4,6] (pc 1 (cb h1n (Jp s_)) (pe 2 (show .b (!true)= .b false from rfl) p0)) ?_;exact ⟨rfl,Qd (by rw[h1]<;>kernel_rfl)⟩
 refine ck ((!(Qq s_))|| decide ((Xv s_ id)<(0:Int))) (fun h2=> ?_) (fun h2=> ?_)
 ·
  exact sn Qa [4,5,6,7] [4,6] (p0) <| Qg <| pz [576,577] (show Yt s_ id=_ from Xf h2 (rfl)) (fun z=> .tup [(true, [.h z.1.1, .h z.1.2.1, .i z.1.2.2]),(false, [.b z.2])])
 have h2l:((!(Qq s_)))=false:=Rc h2;have h2ln:(Qq s_)=true:=Y3 h2l;have h2lns:=YJ h2ln;have h2r:(decide ((Xv s_ id)<(0:Int)))=false:=Re h2;have h2rp:=QP s_ id;have h2rd:=of_decide_eq_false h2r;refine Qf <| Ge [577] rfl ?_
 refine wB 6 1 (.own false 577) ((Q7 s_).2.1) (fun hw3 hl4=> ?_);exact sn Qa [4,5,6] [4,6] (po 5 (.take true false (eL (UR ((Q7 s_).2.1) (Int.toNat (Xv s_ id))))) (px (Sq (Qcd ((Q7 s_).2.1) (i:=(Xv s_ id)) (k:=IntKind.i64.wrap ((Xv s_ id)+1)) (by omega) (by first | omega | exact IntWalk.i64_in _ (by omega)) (by omega) (by omega))) p0)) <| tn Qa [4,5] [4] (p0) <| Qg <| pz [576,1664] (show Yt s_ id=_ from Qs h2 (rfl)) (fun z=> .tup [(true, [.h z.1.1, .h z.1.2.1, .i z.1.2.2]),(false, [.b z.2])])
open GoE (enc wide)
def J3 (d:(List Xw)):Bool:=((Qt d)).2
theorem GF {d:List Xw} (h:J3 d=true):List.length d<=5:=(Ex (d:=d) h).2.1
theorem QR (d:(List Xw)):ACalls Tryz.prog 141 [.h d] (.b (J3 d)):=by
 refine en Qa Tryz.func141 fun w0 F0 hG=> ?_
 exact sn Qa [0,2] [] (p0) <| tn Qa [2,4] [] (pc 1 (Pq d) p0) <| tu Qa [(2, .b (((Qt d)).2))] [0] [] [] (p0) <| Qg <| pb [] (show J3 d=((Qt d)).2 from rfl)
def Yi (x:Xw):Xw:=x
theorem Lh (x:Xw):ACalls Tryz.prog 194 [.a [.s x.1, .h x.2]] (.a [.s ((Yi x).1), .o 0 ((Yi x).2)]):=by
 refine en Qa Tryz.func194 fun w0 F0 hG=> ?_
 exact sn Qa [1,2] [1,2] (p0) <| tn Qa [1,2] [1,2] (pc 2 (LQ x.2) p0) <| tu Qa [(2, .p 2 0)] [0] [(2, [.s x.1, .o 320 x.2])] [] (p0) <| Qg <| pz [] (show Yi x=x from rfl) (fun z=> .a [.s z.1, .o 0 z.2])
def Ma (_:Nat) (a0:Xw) (s0:(List Xw)):Rd ((List Xw)) ((List Xw)) ((List Xw)):=(.next (s0++ [(Yi a0)]))
def Pv (_:Nat) (s0:(List Xw)):(List Xw):=s0
def Xr (d:(List Xw)):(List Xw):=(Out.on (Xp Ma Pv d 0 []) (fun y0=>y0))
theorem Cn (d:List Xw):Xr d=d:=by
 unfold Xr;rw[Au (f:=Ma) (g:=id) (fun _ _ _=>rfl),List.map_id];rfl
theorem ZM (d:List Xw):(Xr d).length=d.length:=by rw[Cn]
theorem An (d:(List Xw)):ACalls Tryz.prog 131 [.h d] (.o 0 (Xr d)):=by
 refine en Qa Tryz.func131 fun w0 F0 hG=> ?_
 refine sn Qa [0,2] [] (p0) <| tn Qa [0,2,3] [] (p0) <| Qc <| tu Qa [(2, .e 0),(3, .one (.slc (.own true 384) 2 [])),(7, .h d),(8, .i (d.length:Int)),(9, .i 0)] [0] [] [] (pl 1 d p0) <| wT 7 0 .sh d (fun hw1 hl2=> ?_)
 refine XY Ma Pv d [] (fun k0 s0=> [(3, .o 147201 s0),(9, .i ((k0:Nat):Int))]) [3,9] (fun y0=> [(3, .o 147351 y0)]) [3,7,8,9] (fun k0 s0=>List.length s0<=k0) (Xl [(384,147201)] (by kernel_rfl)) (by simp) (fun k0 s0 hk0 hI0=> ?_) (fun k0 s0 hk0 hI0=> ?_) (fun y0 hD0=> ?_)
 ·
  have hA0_0:=hI0.2;obtain ⟨a0,hx0⟩:=Xh (l:=d) (i:=k0) hk0;refine sn Qa [2,3,7,8,9,10] [] (pe 0 (Qp (decide_eq_true (p:=((k0:Nat):Int)<(d.length:Int)) (by omega))) p0) <| Qc <| ckT <| Qf <| Qc <| Qu <| tn Qa [2,3,5,7,8,9] [5] (pn 0 hx0 p0) <| wT 3 0 (.own true 147201) s0 (fun hw3 hl4=> ?_)
  refine qu Qa [(3, .one (.slc (.own true 1088) 2 ((eL s0)++ [[.s ((Yi a0).1), .h ((Yi a0).2)]])))] [3] [] [] (pc 2 (Lh a0) (pa s0 [(Yi a0)] p0)) ?_;refine eqn [(3, .o 1088 (s0++ [(Yi a0)]))] [3] [] [] (by rw[show ((eL s0)++ [[.s ((Yi a0).1), .h ((Yi a0).2)]])=(eL (s0++ [(Yi a0)])) from Ks (rfl) (rfl)];first | done | kernel_rfl) ?_;refine rn Qa [2,3,7,8,9] [] (pe 0 (Jh (Ql k0 (by omega))) p0) ?_;exact Exists.intro (s0++ [(Yi a0)]) (And.intro (Xl [(1088,147201)] (by kernel_rfl)) ⟨Qr hx0 (rfl) hI0.1,by first | omega | (simp;omega) | simp⟩)
 ·
  have hA0_0:=hI0.2;exact sn Qa [2,3,7,8,9,10] [] (pe 0 (Qp (decide_eq_false (p:=((k0:Nat):Int)<(d.length:Int)) (by omega))) p0) <| Qc <| ckF <| Q2 <| Exists.intro _ (And.intro (Xl [(147201,147351)] (by kernel_rfl)) (Xi hk0 (rfl) hI0.1))
 exact sn Qa [2] [] (p0) <| Qg <| po0 [] (Wj hD0 (rfl))
def A9 (o:Xw) (q0:Xw):Bool:=(!(Op.bytesLess o.1.toList q0.1.toList|| o.1.toList==q0.1.toList))
theorem UU (o:Xw) (q0:Xw):ACalls Tryz.prog 203 [.a [.s o.1, .h o.2], .one (.rptr .sh [.s q0.1, .h q0.2])] (.b (A9 o q0)):=by
 refine en Qa Tryz.func203 fun w0 F0 hG=> ?_
 exact sn Qa [1,2,3] [2] (p0) <| tn Qa [3] [] (p0) <| Qg <| pb [] (show A9 o q0=(!(Op.bytesLess o.1.toList q0.1.toList|| o.1.toList==q0.1.toList)) from rfl)
def Zv (c0:Xw) (k0:Nat) (a0:Xw) (_:Unit):Rd (Int) (Unit) (Unit):=(bif (A9 a0 c0) then (.ret ((k0:Nat):Int)) else (.next ()))
def Z8 (_:Nat) (_:Unit):Unit:=()
def Q0 (s_:(List Xw)) (c0:Xw):Int:=(Out.on (Xp (Zv c0) Z8 s_ 0 ()) (fun _=> -1))
theorem Ek (s_:(List Xw)) (c0:Xw):Q0 s_ c0=ixF (fun a=>A9 a c0) s_:=Qb8 (fun _ _ _=>rfl) s_
theorem El (s_:(List Xw)) (c0:Xw): -1<=Q0 s_ c0/\Q0 s_ c0<(List.length s_:Int):=by rw[Ek];exact ZJ _ _
theorem E7 (s_:(List Xw)) (c0:Xw):ACalls Tryz.prog 202 [.h s_, .one (.fnr 203 [[.s c0.1, .h c0.2]])] (.i (Q0 s_ c0)):=by
 refine en Qa Tryz.func202 fun w0 F0 hG=> ?_
 refine sn Qa [0,1,4] [] (p0) <| Qc <| tn Qa [0,1,4,7,8] [] (pl 1 s_ p0) <| mz [(4, .i 0),(7, .i (s_.length:Int)),(8, .i 0)] [] [] [] <| wT 0 0 .sh s_ (fun hw1 hl2=> ?_)
 refine Ox (Zv c0) Z8 s_ () (fun k0 _=> [(8, .i ((k0:Nat):Int))]) [8] (fun _=> []) [0,1,7,8] wf0 (fun k0 s0 hk0 hI0=> ?_) (fun k0 s0 hk0 hI0=> ?_) (fun y0 hD0=> ?_)
 ·
  obtain ⟨a0,hx0⟩:=Xh (l:=s_) (i:=k0) hk0;refine sn Qa [0,1,4,7,8,9] [] (pe 0 (Qp (decide_eq_true (p:=((k0:Nat):Int)<(s_.length:Int)) (by omega))) p0) <| Qc <| ckT <| Qf <| Qc <| Qu <| tn Qa [0,1,4,5,7,8] [] (p0) <| tu Qa [(5, .i ((k0:Nat):Int)),(16, .b (A9 a0 c0))] [] [] [] (pn 3 hx0 (pc 5 (UU a0 c0) p0)) <| ck (A9 a0 c0) (fun h3=> ?_) (fun h3=> ?_)
  ·
   refine sn Qa [0,1,4,7,8] [] (p0) <| Qg ?_
   have hr4:(Xp (Zv c0) Z8 s_ 0 ())= .ret ((k0:Nat):Int):=Jg hx0 (Xf h3 (rfl)) hI0;exact pi [] (Oa hr4)
  refine Qf <| rn Qa [0,1,4,7,8] [] (pe 0 (Jh (Ql k0 (by omega))) p0) ?_
  exact xw _ (Qr hx0 (Qs h3 (rfl)) hI0)
 ·
  exact sn Qa [0,1,4,7,8,9] [] (pe 0 (Qp (decide_eq_false (p:=((k0:Nat):Int)<(s_.length:Int)) (by omega))) p0) <| Qc <| ckF <| Q2 <| xw _ (Xi hk0 (rfl) hI0)
 exact sn Qa [4] [] (p0) <| Qg <| pi [] (Wj hD0 (rfl))
def Yo (d:(List Xw)) (x:Xw):(List Xw)×Bool:=(bif decide ((Q1 d x.1)>=(0:Int)) then (bif ((!(Qo d))|| (!(Qo (List.set (Xr d) (Int.toNat (Q1 d x.1)) (Yi x))))) then ((Xr d),false) else (List.set (Xr d) (Int.toNat (Q1 d x.1)) (Yi x),true)) else (bif decide ((Q0 d x)<(0:Int)) then (bif ((!(Qo d))|| (!(Qo (Mf (Xr d) (Int.toNat (d.length:Int)) (Yi x))))) then ((Xr d),false) else (Mf (Xr d) (Int.toNat (d.length:Int)) (Yi x),true)) else (bif ((!(Qo d))|| (!(Qo (Mf (Xr d) (Int.toNat (Q0 d x)) (Yi x))))) then ((Xr d),false) else (Mf (Xr d) (Int.toNat (Q0 d x)) (Yi x),true))))
theorem GG (d:(List Xw)) (x:Xw) (hp:List.length d<1073741000):ACalls Tryz.prog 140 [.h d, .a [.s x.1, .h x.2]] (.tup [(false, [.h (((Yo d x)).1)]),(false, [.b (((Yo d x)).2)])]):=by
 refine en Qa Tryz.func140 fun w0 F0 hG=> ?_
 have hcl:=ZM d;have hbd:=El d x;refine sn Qa [0,3,4,5] [3] (p0) <| tn Qa [0,3,4,5,6] [3] (pc 1 (An d) p0) <| tu Qa [(3, .p 3 0),(4, .e 0),(5, .b false),(6, .o 576 (Xr d)),(7, .i (Q1 d x.1))] [1] [(3, [.s x.1, .h x.2])] [] (pc 3 (S7 d x.1) p0) <| Qc <| sn Qa [0,3,4,5,6,7,15] [3] (p0) <| ck (decide ((Q1 d x.1)>=(0:Int))) (fun h1=> ?_) (fun h1=> ?_)
 ·
  have h1p:=QH d x.1;have h1d:=of_decide_eq_true h1;refine wT 6 0 (.own true 576) (Xr d) (fun hw3 hl4=> ?_);have hx2:=ng (Xr d) (Int.toNat (Q1 d x.1));refine qu Qa [(6, .one (.slc (.own true 576) 2 (setRow (eL (Xr d)) (Int.toNat (Q1 d x.1)) 0 [.s ((Yi x).1), .h ((Yi x).2)])))] [3,6,7] [] [3] (pc 3 (Lh x) (pG 4 (Q1 d x.1) hx2 p0)) ?_;refine eqn [(6, .o 576 (List.set (Xr d) (Int.toNat (Q1 d x.1)) (Yi x)))] [6] [] [] (by rw[Kh (y:=(Yi x)) hx2 rfl]<;>kernel_rfl) ?_;refine Qc <| Qc <| jn [(41, .b ((!(Qo d))|| (!(Qo (List.set (Xr d) (Int.toNat (Q1 d x.1)) (Yi x))))))] [] [] [] (!(Qo d)) (fun h5=> ?_) (fun h5=> ?_) ?_
  ·
   have h5n:(Qo d)=false:=Vd h5;refine rn Qa [0,4,5,6,41] [] (pc 1 (cb h5n (Jl d)) (pe 2 (show .b (!false)= .b true from rfl) p0)) ?_;exact ⟨rfl,Qd (by rw[h5]<;>kernel_rfl)⟩
  ·
   have h5n:(Qo d)=true:=Y3 h5;refine rn Qa [0,4,5,6,41] [] (pc 1 (cb h5n (Jl d)) (pe 2 (show .b (!true)= .b false from rfl) (pc 5 (Jl (List.set (Xr d) (Int.toNat (Q1 d x.1)) (Yi x))) p0))) ?_;exact ⟨rfl,Qd (by rw[h5]<;>kernel_rfl)⟩
  refine ck ((!(Qo d))|| (!(Qo (List.set (Xr d) (Int.toNat (Q1 d x.1)) (Yi x))))) (fun h6=> ?_) (fun h6=> ?_)
  ·
   exact sn Qa [4,5,6] [] (pc 1 (An d) p0) <| Qg <| pz [2752] (show Yo d x=_ from Xf h1 (Xf h6 (rfl))) (fun z=> .tup [(false, [.h z.1]),(false, [.b z.2])])
  exact Qf <| sn Qa [4,5] [] (p0) <| Qg <| pz [576] (show Yo d x=_ from Xf h1 (Qs h6 (rfl))) (fun z=> .tup [(false, [.h z.1]),(false, [.b z.2])])
 have h1d:=of_decide_eq_false h1;refine tn Qa [0,3,4,5,6,7] [3] (pc 2 (E7 d x) p0) <| Qc <| tu Qa [(7, .i (Q0 d x)),(25, .b (decide ((Q0 d x)<(0:Int))))] [7] [] [] (p0) <| ck (decide ((Q0 d x)<(0:Int))) (fun h7=> ?_) (fun h7=> ?_)
 ·
  have h7d:=of_decide_eq_true h7;refine rn Qa [0,3,4,5,6,7] [3] (pl 1 d p0) ?_;refine mz [(7, .i (d.length:Int))] [7,25] [] [] <| Ge [576] rfl ?_
  refine wT 6 0 (.own false 576) (Xr d) (fun hw8 hl9=> ?_);refine rn Qa [0,4,5,6] [] (pc 3 (Lh x) (po 5 (.take true false (eL (Mf (Xr d) (Int.toNat (d.length:Int)) (Yi x)))) (px (Sq (PE (Xr d) (Yi x) (i:=(d.length:Int)) (by omega) (by omega) (by omega))) p0))) ?_;refine Qc <| Qc <| mz [(6, .q 2112 (Mf (Xr d) (Int.toNat (d.length:Int)) (Yi x)))] [3,6,7] [] [3] <| jn [(41, .b ((!(Qo d))|| (!(Qo (Mf (Xr d) (Int.toNat (d.length:Int)) (Yi x))))))] [] [] [] (!(Qo d)) (fun h10=> ?_) (fun h10=> ?_) ?_
  ·
   have h10n:(Qo d)=false:=Vd h10;refine rn Qa [0,4,5,6,41] [] (pc 1 (cb h10n (Jl d)) (pe 2 (show .b (!false)= .b true from rfl) p0)) ?_;exact ⟨rfl,Qd (by rw[h10]<;>kernel_rfl)⟩
  ·
   have h10n:(Qo d)=true:=Y3 h10;refine rn Qa [0,4,5,6,41] [] (pc 1 (cb h10n (Jl d)) (pe 2 (show .b (!true)= .b false from rfl) (pc 5 (Jl (Mf (Xr d) (Int.toNat (d.length:Int)) (Yi x))) p0))) ?_;exact ⟨rfl,Qd (by rw[h10]<;>kernel_rfl)⟩
  refine ck ((!(Qo d))|| (!(Qo (Mf (Xr d) (Int.toNat (d.length:Int)) (Yi x))))) (fun h11=> ?_) (fun h11=> ?_)
  ·
   exact sn Qa [4,5,6] [] (pc 1 (An d) p0) <| Qg <| pz [2752] (show Yo d x=_ from Qs h1 (Xf h7 (Xf h11 (rfl)))) (fun z=> .tup [(false, [.h z.1]),(false, [.b z.2])])
  exact Qf <| sn Qa [4,5] [] (p0) <| Qg <| pz [2112] (show Yo d x=_ from Qs h1 (Xf h7 (Qs h11 (rfl)))) (fun z=> .tup [(false, [.h z.1]),(false, [.b z.2])])
 have h7d:=of_decide_eq_false h7;refine Qf <| Ge [576] rfl ?_
 refine wT 6 0 (.own false 576) (Xr d) (fun hw12 hl13=> ?_);refine rn Qa [0,4,5,6] [] (pc 3 (Lh x) (po 5 (.take true false (eL (Mf (Xr d) (Int.toNat (Q0 d x)) (Yi x)))) (px (Sq (PE (Xr d) (Yi x) (i:=(Q0 d x)) (by omega) (by omega) (by omega))) p0))) ?_;refine Qc <| Qc <| mz [(6, .q 2112 (Mf (Xr d) (Int.toNat (Q0 d x)) (Yi x)))] [3,6,7,25] [] [3] <| jn [(41, .b ((!(Qo d))|| (!(Qo (Mf (Xr d) (Int.toNat (Q0 d x)) (Yi x))))))] [] [] [] (!(Qo d)) (fun h14=> ?_) (fun h14=> ?_) ?_
 ·
  have h14n:(Qo d)=false:=Vd h14;refine rn Qa [0,4,5,6,41] [] (pc 1 (cb h14n (Jl d)) (pe 2 (show .b (!false)= .b true from rfl) p0)) ?_;exact ⟨rfl,Qd (by rw[h14]<;>kernel_rfl)⟩
 ·
  have h14n:(Qo d)=true:=Y3 h14;refine rn Qa [0,4,5,6,41] [] (pc 1 (cb h14n (Jl d)) (pe 2 (show .b (!true)= .b false from rfl) (pc 5 (Jl (Mf (Xr d) (Int.toNat (Q0 d x)) (Yi x))) p0))) ?_;exact ⟨rfl,Qd (by rw[h14]<;>kernel_rfl)⟩
 refine ck ((!(Qo d))|| (!(Qo (Mf (Xr d) (Int.toNat (Q0 d x)) (Yi x))))) (fun h15=> ?_) (fun h15=> ?_)
 ·
  exact sn Qa [4,5,6] [] (pc 1 (An d) p0) <| Qg <| pz [2752] (show Yo d x=_ from Qs h1 (Qs h7 (Xf h15 (rfl)))) (fun z=> .tup [(false, [.h z.1]),(false, [.b z.2])])
 exact Qf <| sn Qa [4,5] [] (p0) <| Qg <| pz [2112] (show Yo d x=_ from Qs h1 (Qs h7 (Qs h15 (rfl)))) (fun z=> .tup [(false, [.h z.1]),(false, [.b z.2])])
def Zp (d:(List Xw)) (name:ByteArray):(List Xw)×Bool:=(bif ((!(Qo d))|| decide ((Q1 d name)<(0:Int))) then ((Xr d),false) else (UR (Xr d) (Int.toNat (Q1 d name)),true))
theorem WJ (d:(List Xw)) (name:ByteArray):ACalls Tryz.prog 75 [.h d, .s name] (.tup [(false, [.h (((Zp d name)).1)]),(false, [.b (((Zp d name)).2)])]):=by
 refine en Qa Tryz.func75 fun w0 F0 hG=> ?_
 have hcl:=ZM d;refine sn Qa [0,1,4,5] [] (p0) <| tn Qa [0,1,4,5,6] [] (pc 1 (An d) p0) <| tu Qa [(4, .e 0),(5, .b false),(6, .o 576 (Xr d)),(7, .i (Q1 d name))] [1] [] [] (pc 2 (S7 d name) p0) <| Qc <| Qc <| jn [(19, .b ((!(Qo d))|| decide ((Q1 d name)<(0:Int))))] [0] [] [] (!(Qo d)) (fun h1=> ?_) (fun h1=> ?_) ?_
 ·
  have h1n:(Qo d)=false:=Vd h1;refine rn Qa [4,5,6,7,19] [] (pc 1 (cb h1n (Jl d)) (pe 2 (show .b (!false)= .b true from rfl) p0)) ?_;exact ⟨rfl,Qd (by rw[h1]<;>kernel_rfl)⟩
 ·
  have h1n:(Qo d)=true:=Y3 h1;have h1ns:=W8 h1n;refine rn Qa [4,5,6,7,19] [] (pc 1 (cb h1n (Jl d)) (pe 2 (show .b (!true)= .b false from rfl) p0)) ?_;exact ⟨rfl,Qd (by rw[h1]<;>kernel_rfl)⟩
 refine ck ((!(Qo d))|| decide ((Q1 d name)<(0:Int))) (fun h2=> ?_) (fun h2=> ?_)
 ·
  exact sn Qa [4,5,6,7] [] (p0) <| Qg <| pz [576] (show Zp d name=_ from Xf h2 (rfl)) (fun z=> .tup [(false, [.h z.1]),(false, [.b z.2])])
 have h2l:((!(Qo d)))=false:=Rc h2;have h2ln:(Qo d)=true:=Y3 h2l;have h2lns:=W8 h2ln;have h2r:(decide ((Q1 d name)<(0:Int)))=false:=Re h2;have h2rp:=QH d name;have h2rd:=of_decide_eq_false h2r;refine Qf <| Ge [576] rfl ?_
 refine wT 6 0 (.own false 576) (Xr d) (fun hw3 hl4=> ?_);exact sn Qa [4,5] [] (po 4 (.take true false (eL (UR (Xr d) (Int.toNat (Q1 d name))))) (px (Sq (Qfj (Xr d) (i:=(Q1 d name)) (k:=IntKind.i64.wrap ((Q1 d name)+1)) (by omega) (by first | omega | exact IntWalk.i64_in _ (by omega)) (by omega) (by omega))) p0)) <| Qg <| pz [1600] (show Zp d name=_ from Qs h2 (rfl)) (fun z=> .tup [(false, [.h z.1]),(false, [.b z.2])])
def Iv (_:Nat) (a0:Yu) (s0:(List ByteArray)):Rd ((List ByteArray)) ((List ByteArray)) ((List ByteArray)):=(bif (Jc a0) then (.next (s0++ [a0.2.2.2.1])) else (.next s0))
def O1 (_:Nat) (s0:(List ByteArray)):(List ByteArray):=s0
def Vv (q:(List Yu)):(List ByteArray):=(Out.on (Xp Iv O1 q 0 []) (fun y0=>(Dh [] y0)))
theorem WK (q:(List Yu)):ACalls Tryz.prog 211 [.h q] (.h (Vv q)):=by
 refine en Qa Tryz.func211 fun w0 F0 hG=> ?_
 refine sn Qa [0,2] [] (p0) <| tn Qa [0,2,3] [] (p0) <| Qc <| tu Qa [(2, .e 0),(3, .one (.slc (.own true 384) 1 [])),(7, .h q),(8, .i (q.length:Int)),(9, .i 0)] [0] [] [] (pl 1 q p0) <| wT 7 0 .sh q (fun hw1 hl2=> ?_)
 refine XY Iv O1 q [] (fun k0 s0=> [(3, .o 147201 s0),(9, .i ((k0:Nat):Int))]) [3,9] (fun y0=> [(3, .o 147351 y0)]) [3,7,8,9] (fun k0 s0=>List.length s0<=k0) (Xl [(384,147201)] (by kernel_rfl)) (by simp) (fun k0 s0 hk0 hI0=> ?_) (fun k0 s0 hk0 hI0=> ?_) (fun y0 hD0=> ?_)
 ·
  have hA0_0:=hI0.2;obtain ⟨a0,hx0⟩:=Xh (l:=q) (i:=k0) hk0;refine sn Qa [2,3,7,8,9,10] [] (pe 0 (Qp (decide_eq_true (p:=((k0:Nat):Int)<(q.length:Int)) (by omega))) p0) <| Qc <| ckT <| Qf <| Qc <| Qu <| tn Qa [2,3,5,7,8,9] [5] (pn 0 hx0 p0) <| tu Qa [(5, .p 5 0),(14, .b (Jc a0))] [] [(5, [.i a0.1, .i a0.2.1, .i a0.2.2.1, .s a0.2.2.2.1, .i a0.2.2.2.2.1, .i a0.2.2.2.2.2.1, .s a0.2.2.2.2.2.2])] [] (pc 1 (M3 a0) p0) <| ck (Jc a0) (fun h3=> ?_) (fun h3=> ?_)
  ·
   refine wT 3 0 (.own true 147201) s0 (fun hw4 hl5=> ?_);refine ru Qa [(3, .one (.slc (.own true 1216) 1 ((eL s0)++ [[.s a0.2.2.2.1]])))] [3,5,14] [] [5] (pa s0 [a0.2.2.2.1] p0) ?_;refine eqn [(3, .o 1216 (s0++ [a0.2.2.2.1]))] [3] [] [] (by rw[show ((eL s0)++ [[.s a0.2.2.2.1]])=(eL (s0++ [a0.2.2.2.1])) from Ks (rfl) (rfl)];first | done | kernel_rfl) ?_;refine rn Qa [2,3,7,8,9] [] (pe 0 (Jh (Ql k0 (by omega))) p0) ?_;exact Exists.intro (s0++ [a0.2.2.2.1]) (And.intro (Xl [(1216,147201)] (by kernel_rfl)) ⟨Qr hx0 (Xf h3 (rfl)) hI0.1,by first | omega | (simp;omega) | simp⟩)
  refine Qf <| rn Qa [2,3,7,8,9] [] (pe 0 (Jh (Ql k0 (by omega))) p0) ?_
  exact xw s0 ⟨Qr hx0 (Qs h3 (rfl)) hI0.1,by first | omega | (simp;omega) | simp⟩
 ·
  have hA0_0:=hI0.2;exact sn Qa [2,3,7,8,9,10] [] (pe 0 (Qp (decide_eq_false (p:=((k0:Nat):Int)<(q.length:Int)) (by omega))) p0) <| Qc <| ckF <| Q2 <| Exists.intro _ (And.intro (Xl [(147201,147351)] (by kernel_rfl)) (Xi hk0 (rfl) hI0.1))
 exact sn Qa [2] [] (pc 1 (Mq y0) p0) <| Qg <| ph0 [] (Wj hD0 (rfl))
def A0 (name:ByteArray) (_:Nat) (a0:Xw) (s0:(List ByteArray)):Rd ((List ByteArray)) ((List ByteArray)) ((List ByteArray)):=(bif (Qm (Vv a0.2) name) then (.next (s0++ [a0.1])) else (.next s0))
def C2 (_:Nat) (s0:(List ByteArray)):(List ByteArray):=s0
def Ze (d:(List Xw)) (name:ByteArray):(List ByteArray):=(Out.on (Xp (A0 name) C2 d 0 []) (fun y0=>y0))
theorem ZT (d:(List Xw)) (name:ByteArray):ACalls Tryz.prog 148 [.h d, .s name] (.o 0 (Ze d name)):=by
 refine en Qa Tryz.func148 fun w0 F0 hG=> ?_
 refine sn Qa [0,1,4] [] (p0) <| tn Qa [0,1,4,5] [] (p0) <| Qc <| tu Qa [(4, .e 0),(5, .one (.slc (.own true 512) 1 [])),(9, .h d),(10, .i (d.length:Int)),(11, .i 0)] [0] [] [] (pl 1 d p0) <| wT 9 0 .sh d (fun hw1 hl2=> ?_)
 refine XY (A0 name) C2 d [] (fun k0 s0=> [(5, .o 147202 s0),(11, .i ((k0:Nat):Int))]) [5,11] (fun y0=> [(5, .o 147352 y0)]) [1,5,9,10,11] (fun k0 s0=>List.length s0<=k0) (Xl [(512,147202)] (by kernel_rfl)) (by simp) (fun k0 s0 hk0 hI0=> ?_) (fun k0 s0 hk0 hI0=> ?_) (fun y0 hD0=> ?_)
 ·
  have hA0_0:=hI0.2;obtain ⟨a0,hx0⟩:=Xh (l:=d) (i:=k0) hk0;refine su Qa [(12, .b true)] [] [] [] (pe 0 (Qp (decide_eq_true (p:=((k0:Nat):Int)<(d.length:Int)) (by omega))) p0) <| Qc <| ckT <| Qf <| Qc <| Qu <| sn Qa [1,4,5,7,9,10,11] [7] (pn 0 hx0 p0) <| tn Qa [1,4,5,7,9,10,11,19] [7] (pc 2 (WK a0.2) (pc 4 (Vf (Vv a0.2) name) p0)) <| ck (Qm (Vv a0.2) name) (fun h3=> ?_) (fun h3=> ?_)
  ·
   refine wT 5 0 (.own true 147202) s0 (fun hw4 hl5=> ?_);refine qu Qa [(5, .one (.slc (.own true 1536) 1 ((eL s0)++ [[.s a0.1]])))] [5,12] [] [] (pa s0 [a0.1] p0) ?_;refine eqn [(5, .o 1536 (s0++ [a0.1]))] [5] [] [] (by rw[show ((eL s0)++ [[.s a0.1]])=(eL (s0++ [a0.1])) from Ks (rfl) (rfl)];first | done | kernel_rfl) ?_;refine rn Qa [1,4,5,9,10,11] [] (pe 0 (Jh (Ql k0 (by omega))) p0) ?_;exact Exists.intro (s0++ [a0.1]) (And.intro (Xl [(1536,147202)] (by kernel_rfl)) ⟨Qr hx0 (Xf h3 (rfl)) hI0.1,by first | omega | (simp;omega) | simp⟩)
  refine Qf <| qu Qa [(11, .i ((k0+1:Nat):Int))] [11,12] [] [] (pe 0 (Jh (Ql k0 (by omega))) p0) ?_
  exact xw s0 ⟨Qr hx0 (Qs h3 (rfl)) hI0.1,by first | omega | (simp;omega) | simp⟩
 ·
  have hA0_0:=hI0.2;exact su Qa [(12, .b false)] [] [] [] (pe 0 (Qp (decide_eq_false (p:=((k0:Nat):Int)<(d.length:Int)) (by omega))) p0) <| Qc <| ckF <| Q2 <| Exists.intro _ (And.intro (Xl [(147202,147352)] (by kernel_rfl)) (Xi hk0 (rfl) hI0.1))
 exact sn Qa [4] [] (p0) <| Qg <| po0 [] (Wj hD0 (rfl))
def Z9 (_:Nat) (a1:ByteArray) (s1:(List ByteArray)):Rd (Rd ((List ByteArray)) ((List ByteArray)×Int) ((List ByteArray))) ((List ByteArray)) ((List ByteArray)):=(bif (!(Qm s1 a1)) then (.next (s1++ [a1])) else (.next s1))
def J7 (_:Nat) (s1:(List ByteArray)):(List ByteArray):=s1
def Yf (d:(List Xw)) (s0:(List ByteArray)×Int):Rd ((List ByteArray)) ((List ByteArray)×Int) ((List ByteArray)):=(bif decide (s0.2<(s0.1.length:Int)) then (Out.on (Xp Z9 J7 (Ze d (nth s0.1 (Int.toNat s0.2))) 0 s0.1) (fun y1=>(.next (y1,(s0.2+1))))) else (.brk s0.1))
def Xz (d:(List Xw)) (names:(List ByteArray)):(List ByteArray):=(Out.on (Nj (Yf d) (List.length names+List.length d+1) (names,0)) (fun y0=>(Dh [] y0)))
theorem C3 (nm:ByteArray):∀(l:List Xw) (k:Nat) (s:List ByteArray),∃s',Xp (A0 nm) C2 l k s= .brk s'/\s'.length<=s.length+l.length/\∀x,x∈s'->x∈s\/x∈l.map (·.1)
 | [],k,s=>⟨s,rfl,by simp,fun x hx=> .inl hx⟩
 | a :: l,k,s=>by
   simp only[Xp,A0];cases Qm (Vv a.2) nm with
   | true=>
     obtain ⟨s',h1,h2,h3⟩:=C3 nm l (k+1) (s++ [a.1]);refine ⟨s',h1,by simp at h2⊢;omega,fun x hx=> ?_⟩;rcases h3 x hx with h | h
     . rcases List.mem_append.1 h with h | h
       . exact .inl h
       exact .inr (by rw[List.mem_singleton.1 h];simp)
     exact .inr (List.mem_cons_of_mem _ h)
   | false=>
     obtain ⟨s',h1,h2,h3⟩:=C3 nm l (k+1) s;refine ⟨s',h1,by simp at h2⊢;omega,fun x hx=>(h3 x hx).imp id fun h=>List.mem_cons_of_mem _ h⟩
theorem QS (d:List Xw) (nm:ByteArray):List.length (Ze d nm)<=List.length d:=by
 obtain ⟨s',h1,h2,_⟩:=C3 nm d 0 [];unfold Ze;rw[h1];exact (by simpa using h2:s'.length<=d.length)
theorem Mr (d:List Xw) (nm:ByteArray):∀x,x∈Ze d nm->x∈d.map (·.1):=by
 obtain ⟨s',h1,_,h3⟩:=C3 nm d 0 [];unfold Ze;rw[h1];intro x hx;exact (h3 x hx).resolve_left (by simp)
theorem Wb (N:List ByteArray):∀(l:List ByteArray) (k:Nat) (s:List ByteArray),(∀x,x∈l->x∈N)->∃s',Xp Z9 J7 l k s= .brk s'/\Fresh N s s'
 | [],k,s,_=>⟨s,rfl,Fresh.refl N s⟩
 | a::l,k,s,h=>by
  simp only[Xp,Z9];cases hc:Qm s a with
  | true=>
   simp only[Bool.not_true,cond_false];exact Wb N l (k+1) s fun x hx=>h x (List.mem_cons_of_mem _ hx)
  | false=>
   simp only[Bool.not_false,cond_true];obtain ⟨s',h1,h2⟩:=Wb N l (k+1) (s++ [a]) fun x hx=>h x (List.mem_cons_of_mem _ hx)
   exact ⟨s',h1,(Fresh.one (fun hm=>by rw[(Ae a s).2 hm] at hc;cases hc) (h a (List.mem_cons_self ..))).trans h2⟩
theorem Wc {d:List Xw} {names out y:List ByteArray} {nm:ByteArray} (hF:Fresh (List.map (·.1) d) names out) (hD:Xp Z9 J7 (Ze d nm) 0 out= .brk y):Fresh (List.map (·.1) d) names y:=by
 obtain ⟨s',h1,h2⟩:=Wb (List.map (·.1) d) (Ze d nm) 0 out (Mr d nm);rw[h1] at hD;obtain rfl:s'=y:=by simpa using hD
 exact hF.trans h2
theorem Df (d:List Xw) (names:List ByteArray) (hp:(List.length names:Int)+List.length d<=1000000):(whl (Yf d) (List.length names+List.length d+1) (names,0)).isSome=true:=by
 have h:=Qcc (N:=List.map (·.1) d) (names:=names) (f:=Yf d) (fun out i s' h0 hl hs=>by
  rw[List.length_map] at hl;unfold Yf at hs;by_cases hc:i<(out.length:Int)
  . simp only[decide_eq_true hc,cond_true] at hs;obtain ⟨y,h1,h2⟩:=Wb (List.map (·.1) d) (Ze d (nth out (Int.toNat i))) 0 out (Mr d _);rw[h1] at hs;simp only[Out.on] at hs;have hs:=Rd.next.inj hs;rw[←hs];exact ⟨hc,by first | rfl | exact IntWalk.i64_in _ (by omega),h2⟩
  simp only[decide_eq_false hc,cond_false] at hs;cases hs)
 rwa [List.length_map] at h
theorem Hz (d:(List Xw)) (names:(List ByteArray)) (hp:(List.length names:Int)+List.length d<=1000000):ACalls Tryz.prog 77 [.h d, .h names] (.h (Xz d names)):=by
 refine en Qa Tryz.func77 fun w0 F0 hG=> ?_
 refine sn Qa [0,1,4] [] (p0) <| tn Qa [0,4,5] [] (pc 1 (T4 names) p0) <| Qc <| tu Qa [(4, .e 0),(5, .o 640 names),(6, .i 0)] [1] [] [] (p0) <| blw (fun (s0:(List ByteArray)×Int)=> [(5, .o 147202 s0.1),(6, .i s0.2)]) [5,6] (fun s0=> []) [] (fun (y0:(List ByteArray))=> [(5, .o 147352 y0)]) [0,5,6] (fun y0=> []) [] (fun (k0:Nat) (s0:(List ByteArray)×Int)=>whl (Yf d) k0 s0=some (Nj (Yf d) (List.length names+List.length d+1) (names,0))/\0<=s0.2/\Fresh (List.map (·.1) d) names s0.1) (fun (y0:(List ByteArray))=>(Nj (Yf d) (List.length names+List.length d+1) (names,0))= .brk y0/\List.length y0<=List.length names+List.length d) (List.length names+List.length d+1) (names,0) (Xl [(640,147202)] (by kernel_rfl)) ⟨Oc (Df d names hp),(by first | exact Fresh.refl _ _ | omega),(by first | exact Fresh.refl _ _ | omega)⟩ (fun _ h=>P9 h.1) (fun k0 s0 hI0=> ?_) (fun y0 hD0=> ?_)
 ·
  have hA0_0:=hI0.2.1;have hA0_1:=hI0.2.2;have hfl:=GD hA0_1;rw[List.length_map] at hfl;have hdl:=QS d (nth s0.1 (Int.toNat s0.2));refine Qc <| sn Qa [0,4,5,6,14] [] (pl 2 s0.1 p0) <| ck (decide (s0.2<(s0.1.length:Int))) (fun h1=> ?_) (fun h1=> ?_)
  ·
   have h1d:=of_decide_eq_true h1;refine Qf <| Qc <| Qu <| wT 5 0 (.own true 147202) s0.1 (fun hw3 hl4=> ?_)
   have hx2:=ng s0.1 (Int.toNat s0.2);refine tn Qa [0,4,5,6,22,23,24] [] (pG 3 s0.2 hx2 (pc 5 (ZT d (nth s0.1 (Int.toNat s0.2))) (pl 6 (Ze d (nth s0.1 (Int.toNat s0.2))) p0))) <| mz [(22, .o 1408 (Ze d (nth s0.1 (Int.toNat s0.2)))),(23, .i ((Ze d (nth s0.1 (Int.toNat s0.2))).length:Int)),(24, .i 0)] [] [] [] <| wT 22 0 (.own true 1408) (Ze d (nth s0.1 (Int.toNat s0.2))) (fun hw5 hl6=> ?_)
   refine XY Z9 J7 (Ze d (nth s0.1 (Int.toNat s0.2))) s0.1 (fun k1 s1=> [(5, .o 166402 s1),(24, .i ((k1:Nat):Int))]) [5,24] (fun y1=> [(5, .o 166552 y1)]) [5,22,23,24] (fun k1 s1=>List.length s1<=s0.1.length+k1) (Xl [(147202,166402)] (by kernel_rfl)) (by simp) (fun k1 s1 hk1 hI1=> ?_) (fun k1 s1 hk1 hI1=> ?_) (fun y1 hD1=> ?_)
   ·
    have hA1_0:=hI1.2;obtain ⟨a1,hx1⟩:=Xh (l:=Ze d (nth s0.1 (Int.toNat s0.2))) (i:=k1) hk1;refine su Qa [(25, .b true)] [] [] [] (pe 0 (Qp (decide_eq_true (p:=((k1:Nat):Int)<((Ze d (nth s0.1 (Int.toNat s0.2))).length:Int)) (by omega))) p0) <| Qc <| ckT <| Qf <| Qc <| Qu <| su Qa [(8, .s a1)] [25] [] [] (pN 0 hx1 p0) <| sn Qa [0,4,5,6,8,22,23,24,31] [] (pc 2 (Vf s1 a1) p0) <| ck (!(Qm s1 a1)) (fun h7=> ?_) (fun h7=> ?_)
    ·
     have h7n:(Qm s1 a1)=false:=Vd h7;refine wT 5 0 (.own true 166402) s1 (fun hw8 hl9=> ?_);refine qu Qa [(5, .one (.slc (.own true 2240) 1 ((eL s1)++ [[.s a1]])))] [5,8] [] [] (pa s1 [a1] p0) ?_;refine eqn [(5, .o 2240 (s1++ [a1]))] [5] [] [] (by rw[show ((eL s1)++ [[.s a1]])=(eL (s1++ [a1])) from Ks (rfl) (rfl)];first | done | kernel_rfl) ?_;refine rn Qa [0,4,5,6,22,23,24] [] (pe 0 (Jh (Ql k1 (by omega))) p0) ?_;exact Exists.intro (s1++ [a1]) (And.intro (Xl [(2240,166402)] (by kernel_rfl)) ⟨Qr hx1 (Xf h7 (rfl)) hI1.1,by first | omega | (simp;omega) | simp⟩)
    have h7n:(Qm s1 a1)=true:=Y3 h7;refine Qf <| qn Qa [0,4,5,6,22,23,24] [] (pe 0 (Jh (Ql k1 (by omega))) p0) ?_
    exact xw s1 ⟨Qr hx1 (Qs h7 (rfl)) hI1.1,by first | omega | (simp;omega) | simp⟩
   ·
    have hA1_0:=hI1.2;exact su Qa [(25, .b false)] [] [] [] (pe 0 (Qp (decide_eq_false (p:=((k1:Nat):Int)<((Ze d (nth s0.1 (Int.toNat s0.2))).length:Int)) (by omega))) p0) <| Qc <| ckF <| Q2 <| Exists.intro _ (And.intro (Xl [(166402,166552)] (by kernel_rfl)) (Xi hk1 (rfl) hI1.1))
   refine rn Qa [0,4,5,6] [] (pe 1 (Jh (IntWalk.i64_in (s0.2+1) (by omega))) p0) ?_;exact Exists.intro (y1,(s0.2+1)) (And.intro (Xl [(166552,147202)] (by kernel_rfl)) ⟨wn hI0.1 (Xf h1 (Wj hD1 (rfl))),(by first | omega | exact Wc (by assumption) hD1 | exact Wc (by assumption) hD1.1),(by first | omega | exact Wc (by assumption) hD1 | exact Wc (by assumption) hD1.1)⟩)
  have h1d:=of_decide_eq_false h1;exact Q2 <| Exists.intro s0.1 (And.intro (Xl [(147202,147352)] (by kernel_rfl)) ⟨wb hI0.1 (Qs h1 (rfl)),by first | omega | (simp only[List.length_set];omega)⟩)
 have hD0_0:=hD0.2;exact sn Qa [4] [] (pc 1 (Mq y0) p0) <| Qg <| ph0 [] (Wj hD0.1 (rfl))
def D3 (_:Nat) (a0:E6) (s0:(List ByteArray)):Rd ((List ByteArray)) ((List ByteArray)) ((List ByteArray)):=(.next (s0++ [a0.1]))
def Iw (_:Nat) (s0:(List ByteArray)):(List ByteArray):=s0
def Qi (f:Xc):(List ByteArray):=(Out.on (Xp D3 Iw f.2.2.2.2 0 []) (fun y0=>y0))
theorem QT (f:Xc):(Qi f).length=f.2.2.2.2.length:=by
 unfold Qi;rw[Au (f:=D3) (g:=fun a:E6=>a.1) (fun _ _ _=>rfl)];simp[Out.on,Iw]
theorem Pw (f:Xc):ACalls Tryz.prog 282 [.a [.i f.1, .i f.2.1, .b f.2.2.1, .i f.2.2.2.1, .h f.2.2.2.2]] (.o 0 (Qi f)):=by
 refine en Qa Tryz.func282 fun w0 F0 hG=> ?_
 refine sn Qa [1,2] [1] (p0) <| tn Qa [1,2,3] [1] (p0) <| Qc <| tu Qa [(2, .e 0),(3, .one (.slc (.own true 384) 1 [])),(8, .h f.2.2.2.2),(9, .i (f.2.2.2.2.length:Int)),(10, .i 0)] [0] [] [] (pl 2 f.2.2.2.2 p0) <| wT 8 0 .sh f.2.2.2.2 (fun hw1 hl2=> ?_)
 refine XY D3 Iw f.2.2.2.2 [] (fun k0 s0=> [(3, .o 147201 s0),(10, .i ((k0:Nat):Int))]) [3,10] (fun y0=> [(3, .o 147351 y0)]) [3,8,9,10] (fun k0 s0=>List.length s0<=k0) (Xl [(384,147201)] (by kernel_rfl)) (by simp) (fun k0 s0 hk0 hI0=> ?_) (fun k0 s0 hk0 hI0=> ?_) (fun y0 hD0=> ?_)
 ·
  have hA0_0:=hI0.2;obtain ⟨a0,hx0⟩:=Xh (l:=f.2.2.2.2) (i:=k0) hk0;refine sn Qa [2,3,8,9,10,11] [] (pe 0 (Qp (decide_eq_true (p:=((k0:Nat):Int)<(f.2.2.2.2.length:Int)) (by omega))) p0) <| Qc <| ckT <| Qf <| Qc <| Qu <| tn Qa [2,3,5,8,9,10] [5] (pn 0 hx0 p0) <| wT 3 0 (.own true 147201) s0 (fun hw3 hl4=> ?_)
  refine qu Qa [(3, .one (.slc (.own true 1152) 1 ((eL s0)++ [[.s a0.1]])))] [3] [] [] (pa s0 [a0.1] p0) ?_;refine eqn [(3, .o 1152 (s0++ [a0.1]))] [3] [] [] (by rw[show ((eL s0)++ [[.s a0.1]])=(eL (s0++ [a0.1])) from Ks (rfl) (rfl)];first | done | kernel_rfl) ?_;refine rn Qa [2,3,8,9,10] [] (pe 0 (Jh (Ql k0 (by omega))) p0) ?_;exact Exists.intro (s0++ [a0.1]) (And.intro (Xl [(1152,147201)] (by kernel_rfl)) ⟨Qr hx0 (rfl) hI0.1,by first | omega | (simp;omega) | simp⟩)
 ·
  have hA0_0:=hI0.2;exact sn Qa [2,3,8,9,10,11] [] (pe 0 (Qp (decide_eq_false (p:=((k0:Nat):Int)<(f.2.2.2.2.length:Int)) (by omega))) p0) <| Qc <| ckF <| Q2 <| Exists.intro _ (And.intro (Xl [(147201,147351)] (by kernel_rfl)) (Xi hk0 (rfl) hI0.1))
 exact sn Qa [2] [] (p0) <| Qg <| po0 [] (Wj hD0 (rfl))
def Em (a_:Xc) (b:Xc) (k0:Nat) (s0:(List ByteArray)):Rd ((List ByteArray)) ((List ByteArray)) ((List ByteArray)):=(bif (!(((Xa a_ (nth (Qi a_++(Qi b)) k0)).1==(Xa b (nth (Qi a_++(Qi b)) k0)).1)&&(((Xa a_ (nth (Qi a_++(Qi b)) k0)).2.1==(Xa b (nth (Qi a_++(Qi b)) k0)).2.1)&&((((Xa a_ (nth (Qi a_++(Qi b)) k0)).2.2).toList==((Xa b (nth (Qi a_++(Qi b)) k0)).2.2).toList)&&true)))) then (.next (s0++ [(nth (Qi a_++(Qi b)) k0)])) else (.next s0))
def En (_:Nat) (s0:(List ByteArray)):(List ByteArray):=s0
def J4 (a_:Xc) (b:Xc):(List ByteArray):=(Out.on (Wu (Em a_ b) En (Int.toNat (((Qi a_).length+(Qi b).length):Int)) 0 []) (fun y0=>(Dh [] y0)))
theorem QU (a_:Xc) (b:Xc) (hp:(List.length a_.2.2.2.2:Int)+List.length b.2.2.2.2<=1073741000):ACalls Tryz.prog 244 [.a [.i a_.1, .i a_.2.1, .b a_.2.2.1, .i a_.2.2.2.1, .h a_.2.2.2.2], .a [.i b.1, .i b.2.1, .b b.2.2.1, .i b.2.2.2.1, .h b.2.2.2.2]] (.h (J4 a_ b)):=by
 refine en Qa Tryz.func244 fun w0 F0 hG=> ?_
 have hn1:=QT a_;have hn2:=QT b;refine sn Qa [2,3,4] [2,3] (p0) <| tn Qa [2,3,4,5] [2,3] (p0) <| Qc <| tU Qa Zh [(2, .p 2 0),(3, .p 3 0),(4, .e 0),(5, .one (.slc (.own true 512) 1 [])),(13, .one (.slc (.own true 832) 1 ((eL (Qi a_))++(eL (Qi b))))),(14, .i (((Qi a_).length+(Qi b).length):Int)),(15, .i 0)] [0,1] [(2, [.i a_.1, .i a_.2.1, .b a_.2.2.1, .i a_.2.2.2.1, .h a_.2.2.2.2]),(3, [.i b.1, .i b.2.1, .b b.2.2.1, .i b.2.2.2.1, .h b.2.2.2.2])] [] (pc 1 (Pw a_) (pc 3 (Pw b) (pa (Qi a_) (Qi b) (pe 5 (show .i ((((eL (Qi a_))++(eL (Qi b))):List (List PV)).length:Int)= .i (((Qi a_).length+(Qi b).length):Int) from by simp[Zj]) p0)))) <| eqn [(13, .o 832 (Qi a_++(Qi b)))] [13] [] [] (by rw[show ((eL (Qi a_))++(eL (Qi b)))=(eL (Qi a_++(Qi b))) from Ks (rfl) (rfl)]<;>kernel_rfl) ?_
 refine Qeo (Em a_ b) En (Int.toNat (((Qi a_).length+(Qi b).length):Int)) [] (fun k0 s0=> [(5, .o 147203 s0),(15, .i ((k0:Nat):Int))]) [5,15] (fun _ _=> []) [] (fun y0=> [(5, .o 147353 y0)]) [2,3,5,13,14,15] (fun _=> []) [2,3] (fun k0 s0=>List.length s0<=k0) (Xl [(512,147203)] (by kernel_rfl)) (by simp) (fun k0 s0 hk0 hI0=> ?_) (fun k0 s0 hk0 hI0=> ?_) (fun y0 hD0=> ?_)
 ·
  have hA0_0:=hI0.2;refine su Qa [(16, .b true)] [] [] [] (pe 0 (Qp (decide_eq_true (p:=((k0:Nat):Int)<(((Qi a_).length+(Qi b).length):Int)) (by omega))) p0) <| Qc <| ckT <| Qf <| Qc <| Qu <| wT 13 0 (.own true 832) (Qi a_++(Qi b)) (fun hw2 hl3=> ?_)
  have hx1:=ng (Qi a_++(Qi b)) k0 (by first | omega | (rw[List.length_append];omega));refine sn Qa [2,3,4,5,7,13,14,15] [2,3] (pN 0 hx1 p0) <| tN Qa Zh [2,3,4,5,7,13,14,15,25] [2,3] (pc 2 (Cx a_ (nth (Qi a_++(Qi b)) k0)) (pc 5 (Cx b (nth (Qi a_++(Qi b)) k0)) p0)) <| ck (!(((Xa a_ (nth (Qi a_++(Qi b)) k0)).1==(Xa b (nth (Qi a_++(Qi b)) k0)).1)&&(((Xa a_ (nth (Qi a_++(Qi b)) k0)).2.1==(Xa b (nth (Qi a_++(Qi b)) k0)).2.1)&&((((Xa a_ (nth (Qi a_++(Qi b)) k0)).2.2).toList==((Xa b (nth (Qi a_++(Qi b)) k0)).2.2).toList)&&true)))) (fun h4=> ?_) (fun h4=> ?_)
  ·
   refine wT 5 0 (.own true 147203) s0 (fun hw5 hl6=> ?_);refine qu Qa [(5, .one (.slc (.own true 1856) 1 ((eL s0)++ [[.s (nth (Qi a_++(Qi b)) k0)]])))] [5,16] [] [] (pa s0 [(nth (Qi a_++(Qi b)) k0)] p0) ?_;refine eqn [(5, .o 1856 (s0++ [(nth (Qi a_++(Qi b)) k0)]))] [5] [] [] (by rw[show ((eL s0)++ [[.s (nth (Qi a_++(Qi b)) k0)]])=(eL (s0++ [(nth (Qi a_++(Qi b)) k0)])) from Ks (rfl) (rfl)];first | done | kernel_rfl) ?_;refine rn Qa [2,3,4,5,13,14,15] [2,3] (pe 0 (Jh (Ql k0 (by omega))) p0) ?_;exact Exists.intro (s0++ [(nth (Qi a_++(Qi b)) k0)]) (And.intro (Xl [(1856,147203)] (by kernel_rfl)) ⟨Vi hk0 (Xf h4 (rfl)) hI0.1,by first | omega | (simp;omega) | simp⟩)
  have h4n:(((Xa a_ (nth (Qi a_++(Qi b)) k0)).1==(Xa b (nth (Qi a_++(Qi b)) k0)).1)&&(((Xa a_ (nth (Qi a_++(Qi b)) k0)).2.1==(Xa b (nth (Qi a_++(Qi b)) k0)).2.1)&&((((Xa a_ (nth (Qi a_++(Qi b)) k0)).2.2).toList==((Xa b (nth (Qi a_++(Qi b)) k0)).2.2).toList)&&true)))=true:=Y3 h4;have h4nl:(((Xa a_ (nth (Qi a_++(Qi b)) k0)).1==(Xa b (nth (Qi a_++(Qi b)) k0)).1))=true:=UP h4n;have h4nld:=eq_of_beq h4nl;have h4nr:((((Xa a_ (nth (Qi a_++(Qi b)) k0)).2.1==(Xa b (nth (Qi a_++(Qi b)) k0)).2.1)&&((((Xa a_ (nth (Qi a_++(Qi b)) k0)).2.2).toList==((Xa b (nth (Qi a_++(Qi b)) k0)).2.2).toList)&&true)))=true:=CJ h4n;have h4nrl:(((Xa a_ (nth (Qi a_++(Qi b)) k0)).2.1==(Xa b (nth (Qi a_++(Qi b)) k0)).2.1))=true:=UP h4nr;have h4nrld:=eq_of_beq h4nrl;refine Qf <| qu Qa [(15, .i ((k0+1:Nat):Int))] [15,16] [] [] (pe 0 (Jh (Ql k0 (by omega))) p0) ?_
  exact xw s0 ⟨Vi hk0 (Qs h4 (rfl)) hI0.1,by first | omega | (simp;omega) | simp⟩
 ·
  have hA0_0:=hI0.2;exact su Qa [(16, .b false)] [] [] [] (pe 0 (Qp (decide_eq_false (p:=((k0:Nat):Int)<(((Qi a_).length+(Qi b).length):Int)) (by omega))) p0) <| Qc <| ckF <| Q2 <| Exists.intro _ (And.intro (Xl [(147203,147353)] (by kernel_rfl)) (Cw hk0 (rfl) hI0.1))
 exact sn Qa [4] [] (pc 1 (Mq y0) p0) <| Qg <| ph0 [] (Wj hD0 (rfl))
def Gn (_:Nat) (a0:Yu) (s0:(List ByteArray)):Rd ((List ByteArray)) ((List ByteArray)) ((List ByteArray)):=(bif ((a0.1==(2:Int))|| ((a0.1==(3:Int))|| (a0.1==(4:Int)))) then (.next (s0++ [a0.2.2.2.1])) else (.next s0))
def Nt (_:Nat) (s0:(List ByteArray)):(List ByteArray):=s0
def Vp (q:(List Yu)):(List ByteArray):=(Out.on (Xp Gn Nt q 0 []) (fun y0=>(Dh [] y0)))
theorem ZU (q:(List Yu)):ACalls Tryz.prog 245 [.h q] (.h (Vp q)):=by
 refine en Qa Tryz.func245 fun w0 F0 hG=> ?_
 refine sn Qa [0,2] [] (p0) <| tn Qa [0,2,3] [] (p0) <| Qc <| tu Qa [(2, .e 0),(3, .one (.slc (.own true 384) 1 [])),(7, .h q),(8, .i (q.length:Int)),(9, .i 0)] [0] [] [] (pl 1 q p0) <| wT 7 0 .sh q (fun hw1 hl2=> ?_)
 refine XY Gn Nt q [] (fun k0 s0=> [(3, .o 147201 s0),(9, .i ((k0:Nat):Int))]) [3,9] (fun y0=> [(3, .o 147351 y0)]) [3,7,8,9] (fun k0 s0=>List.length s0<=k0) (Xl [(384,147201)] (by kernel_rfl)) (by simp) (fun k0 s0 hk0 hI0=> ?_) (fun k0 s0 hk0 hI0=> ?_) (fun y0 hD0=> ?_)
 ·
  have hA0_0:=hI0.2;obtain ⟨a0,hx0⟩:=Xh (l:=q) (i:=k0) hk0;refine sn Qa [2,3,7,8,9,10] [] (pe 0 (Qp (decide_eq_true (p:=((k0:Nat):Int)<(q.length:Int)) (by omega))) p0) <| Qc <| ckT <| Qf <| Qc <| Qu <| tn Qa [2,3,5,7,8,9] [5] (pn 0 hx0 p0) <| Qc <| mz [(5, .p 5 0)] [] [(5, [.i a0.1, .i a0.2.1, .i a0.2.2.1, .s a0.2.2.2.1, .i a0.2.2.2.2.1, .i a0.2.2.2.2.2.1, .s a0.2.2.2.2.2.2])] [] <| jn [(25, .b ((a0.1==(2:Int))|| ((a0.1==(3:Int))|| (a0.1==(4:Int)))))] [] [] [] (a0.1==(2:Int)) (fun h3=> ?_) (fun h3=> ?_) ?_
  ·
   refine ru Qa [(25, .b true)] [] [] [] (pt 2 h3 p0) ?_;exact ⟨rfl,Qd (by rw[h3]<;>kernel_rfl)⟩
  ·
   refine X5 (a0.1==(3:Int)) (fun h4=> ?_) (fun h4=> ?_)
   ·
    refine ru Qa [(25, .b true)] [] [] [] (pf 2 h3 (pt 6 h4 p0)) ?_;exact ⟨rfl,Qd (by rw[h3,h4]<;>kernel_rfl)⟩
   refine rn Qa [2,3,5,7,8,9,25] [5] (pf 2 h3 (pf 6 h4 p0)) ?_;exact ⟨rfl,Qd (by rw[h3,h4]<;>kernel_rfl)⟩
  refine ck ((a0.1==(2:Int))|| ((a0.1==(3:Int))|| (a0.1==(4:Int)))) (fun h5=> ?_) (fun h5=> ?_)
  ·
   refine wT 3 0 (.own true 147201) s0 (fun hw6 hl7=> ?_);refine ru Qa [(3, .one (.slc (.own true 1920) 1 ((eL s0)++ [[.s a0.2.2.2.1]])))] [3,5,25] [] [5] (pa s0 [a0.2.2.2.1] p0) ?_;refine eqn [(3, .o 1920 (s0++ [a0.2.2.2.1]))] [3] [] [] (by rw[show ((eL s0)++ [[.s a0.2.2.2.1]])=(eL (s0++ [a0.2.2.2.1])) from Ks (rfl) (rfl)];first | done | kernel_rfl) ?_;refine rn Qa [2,3,7,8,9] [] (pe 0 (Jh (Ql k0 (by omega))) p0) ?_;exact Exists.intro (s0++ [a0.2.2.2.1]) (And.intro (Xl [(1920,147201)] (by kernel_rfl)) ⟨Qr hx0 (Xf h5 (rfl)) hI0.1,by first | omega | (simp;omega) | simp⟩)
  have h5l:((a0.1==(2:Int)))=false:=Rc h5;have h5ld:=Z2 h5l;have h5r:(((a0.1==(3:Int))|| (a0.1==(4:Int))))=false:=Re h5;have h5rl:((a0.1==(3:Int)))=false:=Rc h5r;have h5rld:=Z2 h5rl;have h5rr:((a0.1==(4:Int)))=false:=Re h5r;have h5rrd:=Z2 h5rr;refine Qf <| rn Qa [2,3,7,8,9] [] (pe 0 (Jh (Ql k0 (by omega))) p0) ?_
  exact xw s0 ⟨Qr hx0 (Qs h5 (rfl)) hI0.1,by first | omega | (simp;omega) | simp⟩
 ·
  have hA0_0:=hI0.2;exact sn Qa [2,3,7,8,9,10] [] (pe 0 (Qp (decide_eq_false (p:=((k0:Nat):Int)<(q.length:Int)) (by omega))) p0) <| Qc <| ckF <| Q2 <| Exists.intro _ (And.intro (Xl [(147201,147351)] (by kernel_rfl)) (Xi hk0 (rfl) hI0.1))
 exact sn Qa [2] [] (pc 1 (Mq y0) p0) <| Qg <| ph0 [] (Wj hD0 (rfl))
def Kz (name:ByteArray) (q0:(List ByteArray)):Bool:=(Qm q0 name)
theorem Nu (name:ByteArray) (q0:(List ByteArray)):ACalls Tryz.prog 247 [.s name, .one (.rptr .sh [.h q0])] (.b (Kz name q0)):=by
 refine en Qa Tryz.func247 fun w0 F0 hG=> ?_
 exact sn Qa [0,1,3] [] (p0) <| tn Qa [3] [] (pc 2 (Vf q0 name) p0) <| Qg <| pb [] (show Kz name q0=(Qm q0 name) from rfl)
def Js (c0:(List ByteArray)) (k0:Nat) (a0:ByteArray) (_:Unit):Rd (Int) (Unit) (Unit):=(bif (Kz a0 c0) then (.ret ((k0:Nat):Int)) else (.next ()))
def Jt (_:Nat) (_:Unit):Unit:=()
def J8 (s_:(List ByteArray)) (c0:(List ByteArray)):Int:=(Out.on (Xp (Js c0) Jt s_ 0 ()) (fun _=> -1))
theorem Ao (s_:(List ByteArray)) (c0:(List ByteArray)):ACalls Tryz.prog 283 [.h s_, .one (.fnr 247 [[.h c0]])] (.i (J8 s_ c0)):=by
 refine en Qa Tryz.func283 fun w0 F0 hG=> ?_
 refine sn Qa [0,1,4] [] (p0) <| Qc <| tn Qa [0,1,4,7,8] [] (pl 1 s_ p0) <| mz [(4, .i 0),(7, .i (s_.length:Int)),(8, .i 0)] [] [] [] <| wT 0 0 .sh s_ (fun hw1 hl2=> ?_)
 refine Ox (Js c0) Jt s_ () (fun k0 _=> [(8, .i ((k0:Nat):Int))]) [8] (fun _=> []) [0,1,7,8] wf0 (fun k0 s0 hk0 hI0=> ?_) (fun k0 s0 hk0 hI0=> ?_) (fun y0 hD0=> ?_)
 ·
  obtain ⟨a0,hx0⟩:=Xh (l:=s_) (i:=k0) hk0;refine sn Qa [0,1,4,7,8,9] [] (pe 0 (Qp (decide_eq_true (p:=((k0:Nat):Int)<(s_.length:Int)) (by omega))) p0) <| Qc <| ckT <| Qf <| Qc <| Qu <| tn Qa [0,1,4,5,7,8] [] (p0) <| tu Qa [(5, .i ((k0:Nat):Int)),(16, .b (Kz a0 c0))] [] [] [] (pn 3 hx0 (pc 5 (Nu a0 c0) p0)) <| ck (Kz a0 c0) (fun h3=> ?_) (fun h3=> ?_)
  ·
   refine sn Qa [0,1,4,7,8] [] (p0) <| Qg ?_
   have hr4:(Xp (Js c0) Jt s_ 0 ())= .ret ((k0:Nat):Int):=Jg hx0 (Xf h3 (rfl)) hI0;exact pi [] (Oa hr4)
  refine Qf <| rn Qa [0,1,4,7,8] [] (pe 0 (Jh (Ql k0 (by omega))) p0) ?_
  exact xw _ (Qr hx0 (Qs h3 (rfl)) hI0)
 ·
  exact sn Qa [0,1,4,7,8,9] [] (pe 0 (Qp (decide_eq_false (p:=((k0:Nat):Int)<(s_.length:Int)) (by omega))) p0) <| Qc <| ckF <| Q2 <| xw _ (Xi hk0 (rfl) hI0)
 exact sn Qa [4] [] (p0) <| Qg <| pi [] (Wj hD0 (rfl))
def Xs (s_:(List ByteArray)) (c0:(List ByteArray)):Bool:=decide ((J8 s_ c0)>=(0:Int))
theorem Hx (s_:(List ByteArray)) (c0:(List ByteArray)):ACalls Tryz.prog 246 [.h s_, .one (.fnr 247 [[.h c0]])] (.b (Xs s_ c0)):=by
 refine en Qa Tryz.func246 fun w0 F0 hG=> ?_
 exact sn Qa [0,1,4] [] (p0) <| tn Qa [4] [] (pc 2 (Ao s_ c0) p0) <| Qg <| pb [] (show Xs s_ c0=decide ((J8 s_ c0)>=(0:Int)) from rfl)
def Ja (n:Yu):Bool:=(n.1==(9:Int))
theorem Nv (n:Yu):ACalls Tryz.prog 249 [.a [.i n.1, .i n.2.1, .i n.2.2.1, .s n.2.2.2.1, .i n.2.2.2.2.1, .i n.2.2.2.2.2.1, .s n.2.2.2.2.2.2]] (.b (Ja n)):=by
 refine en Qa Tryz.func249 fun w0 F0 hG=> ?_
 exact sn Qa [1,2] [1] (p0) <| tn Qa [2] [] (p0) <| Qg <| pb [] (show Ja n=(n.1==(9:Int)) from rfl)
def Jw (k0:Nat) (a0:Yu) (_:Unit):Rd (Int) (Unit) (Unit):=(bif (Ja a0) then (.ret ((k0:Nat):Int)) else (.next ()))
def Jx (_:Nat) (_:Unit):Unit:=()
def Ke (s_:(List Yu)):Int:=(Out.on (Xp Jw Jx s_ 0 ()) (fun _=> -1))
theorem A3 (s_:(List Yu)):ACalls Tryz.prog 284 [.h s_, .one (.fnr 249 [])] (.i (Ke s_)):=by
 refine en Qa Tryz.func284 fun w0 F0 hG=> ?_
 refine sn Qa [0,1,4] [] (p0) <| Qc <| tn Qa [0,1,4,7,8] [] (pl 1 s_ p0) <| mz [(4, .i 0),(7, .i (s_.length:Int)),(8, .i 0)] [] [] [] <| wT 0 0 .sh s_ (fun hw1 hl2=> ?_)
 refine Ox Jw Jx s_ () (fun k0 _=> [(8, .i ((k0:Nat):Int))]) [8] (fun _=> []) [0,1,7,8] wf0 (fun k0 s0 hk0 hI0=> ?_) (fun k0 s0 hk0 hI0=> ?_) (fun y0 hD0=> ?_)
 ·
  obtain ⟨a0,hx0⟩:=Xh (l:=s_) (i:=k0) hk0;refine sn Qa [0,1,4,7,8,9] [] (pe 0 (Qp (decide_eq_true (p:=((k0:Nat):Int)<(s_.length:Int)) (by omega))) p0) <| Qc <| ckT <| Qf <| Qc <| Qu <| tn Qa [0,1,4,5,7,8] [] (p0) <| tu Qa [(5, .i ((k0:Nat):Int)),(16, .b (Ja a0))] [] [] [] (pn 3 hx0 (pc 5 (Nv a0) p0)) <| ck (Ja a0) (fun h3=> ?_) (fun h3=> ?_)
  ·
   refine sn Qa [0,1,4,7,8] [] (p0) <| Qg ?_
   have hr4:(Xp Jw Jx s_ 0 ())= .ret ((k0:Nat):Int):=Jg hx0 (Xf h3 (rfl)) hI0;exact pi [] (Oa hr4)
  refine Qf <| rn Qa [0,1,4,7,8] [] (pe 0 (Jh (Ql k0 (by omega))) p0) ?_
  exact xw _ (Qr hx0 (Qs h3 (rfl)) hI0)
 ·
  exact sn Qa [0,1,4,7,8,9] [] (pe 0 (Qp (decide_eq_false (p:=((k0:Nat):Int)<(s_.length:Int)) (by omega))) p0) <| Qc <| ckF <| Q2 <| xw _ (Xi hk0 (rfl) hI0)
 exact sn Qa [4] [] (p0) <| Qg <| pi [] (Wj hD0 (rfl))
def Xx (s_:(List Yu)):Bool:=decide ((Ke s_)>=(0:Int))
theorem Af (s_:(List Yu)):ACalls Tryz.prog 248 [.h s_, .one (.fnr 249 [])] (.b (Xx s_)):=by
 refine en Qa Tryz.func248 fun w0 F0 hG=> ?_
 exact sn Qa [0,1,4] [] (p0) <| tn Qa [4] [] (pc 2 (A3 s_) p0) <| Qg <| pb [] (show Xx s_=decide ((Ke s_)>=(0:Int)) from rfl)
def Vg (before:Xc) (after:Xc) (_:Nat) (a0:Xw) (s0:(List ByteArray)):Rd ((List ByteArray)) ((List ByteArray)) ((List ByteArray)):=(bif ((Xs (J4 before after) (Vp a0.2))|| ((Xx a0.2)&&(before.2.2.2.1 !=after.2.2.2.1))) then (.next (s0++ [a0.1])) else (.next s0))
def U2 (_:Nat) (s0:(List ByteArray)):(List ByteArray):=s0
def Kw (d:(List Xw)) (before:Xc) (after:Xc):(List ByteArray):=(bif (before.1 !=after.1) then (X1 d) else (Out.on (Xp (Vg before after) U2 d 0 []) (fun y0=>y0)))
theorem Tf (a b:Xc):∀(l:List Xw) (k:Nat) (s:List ByteArray),∃s',Xp (Vg a b) U2 l k s= .brk s'/\s'.length<=s.length+l.length
 | [],k,s=>⟨s,rfl,by simp⟩
 | x::l,k,s=>by
  simp only[Xp,Vg];generalize (_|| _:Bool)=c;cases c with
  | true=>obtain ⟨s',h1,h2⟩:=Tf a b l (k+1) (s++ [x.1]);exact ⟨s',h1,by simp at h2⊢;omega⟩
  | false=>obtain ⟨s',h1,h2⟩:=Tf a b l (k+1) s;exact ⟨s',h1,by simp at h2⊢;omega⟩
theorem ZN (d:List Xw) (a b:Xc):(Kw d a b).length<=d.length:=by
 unfold Kw;obtain ⟨s',h1,h2⟩:=Tf a b d 0 [];rw[h1,Ta];generalize (a.1 !=b.1)=c;cases c with
 | true=>simp
 | false=>exact (by simpa using h2:s'.length<=d.length)
theorem O5 (d:(List Xw)) (before:Xc) (after:Xc) (hp:(List.length before.2.2.2.2:Int)+List.length after.2.2.2.2<=1073741000):ACalls Tryz.prog 200 [.h d, .a [.i before.1, .i before.2.1, .b before.2.2.1, .i before.2.2.2.1, .h before.2.2.2.2], .a [.i after.1, .i after.2.1, .b after.2.2.1, .i after.2.2.2.1, .h after.2.2.2.2]] (.o 0 (Kw d before after)):=by
 refine en Qa Tryz.func200 fun w0 F0 hG=> ?_
 refine sn Qa [0,4,5,6] [4,5] (p0) <| Qc <| tn Qa [0,4,5,6,18] [4,5] (p0) <| ck (before.1 !=after.1) (fun h1=> ?_) (fun h1=> ?_)
 ·
  exact tu Qa [(4, .p 4 0),(5, .p 5 0),(6, .o 1280 (X1 d))] [1,2] [(4, [.i before.1, .i before.2.1, .b before.2.2.1, .i before.2.2.2.1, .h before.2.2.2.2]),(5, [.i after.1, .i after.2.1, .b after.2.2.1, .i after.2.2.2.1, .h after.2.2.2.2])] [] (pc 1 (G3 d) p0) <| Qg <| po0 [] (Xf h1 (rfl))
 have h1d:=Wt h1;refine Qf <| tu Qa [(4, .p 4 0),(5, .p 5 0),(6, .e 0),(7, .h (J4 before after))] [1,2] [(4, [.i before.1, .i before.2.1, .b before.2.2.1, .i before.2.2.2.1, .h before.2.2.2.2]),(5, [.i after.1, .i after.2.1, .b after.2.2.1, .i after.2.2.2.1, .h after.2.2.2.2])] [] (pc 2 (QU before after (by first | omega | (simp;omega))) p0) <| sn Qa [0,4,5,6,7,8] [4,5] (p0) <| Qc <| tn Qa [4,5,6,7,8,25,26,27] [4,5] (pl 1 d p0) <| mz [(8, .one (.slc (.own true 1536) 1 [])),(25, .h d),(26, .i (d.length:Int)),(27, .i 0)] [0] [] [] <| wT 25 0 .sh d (fun hw2 hl3=> ?_)
 refine XZ (Vg before after) U2 d [] (fun k0 s0=> [(8, .o 147204 s0),(27, .i ((k0:Nat):Int))]) [8,27] (fun _ _=> []) [] (fun y0=> [(8, .o 147354 y0)]) [4,5,7,8,25,26,27] (fun _=> []) [4,5] (fun k0 s0=>List.length s0<=k0) (Xl [(1536,147204)] (by kernel_rfl)) (by simp) (fun k0 s0 hk0 hI0=> ?_) (fun k0 s0 hk0 hI0=> ?_) (fun y0 hD0=> ?_)
 ·
  have hA0_0:=hI0.2;obtain ⟨a0,hx0⟩:=Xh (l:=d) (i:=k0) hk0;refine su Qa [(28, .b true)] [] [] [] (pe 0 (Qp (decide_eq_true (p:=((k0:Nat):Int)<(d.length:Int)) (by omega))) p0) <| Qc <| ckT <| Qf <| Qc <| Qu <| sn Qa [4,5,6,7,8,10,25,26,27] [4,5,10] (pn 0 hx0 p0) <| tn Qa [4,5,6,7,8,10,11,25,26,27] [4,5,10,11] (pc 2 (ZU a0.2) p0) <| tu Qa [(10, .p 10 0),(12, .b (Xs (J4 before after) (Vp a0.2)))] [28] [(10, [.s a0.1, .h a0.2])] [] (pc 2 (Hx (J4 before after) (Vp a0.2)) p0) <| sn Qa [4,5,6,7,8,10,12,13,25,26,27] [4,5,10] (pc 2 (Af a0.2) p0) <| Qc <| mz [(13, .b (Xx a0.2))] [] [] [] <| jn [(50, .b ((Xs (J4 before after) (Vp a0.2))|| ((Xx a0.2)&&(before.2.2.2.1 !=after.2.2.2.1))))] [12,13] [] [] (Xs (J4 before after) (Vp a0.2)) (fun h4=> ?_) (fun h4=> ?_) ?_
  ·
   refine ru Qa [(50, .b true)] [12,13] [] [] (pt 0 h4 p0) ?_;exact ⟨rfl,Qd (by rw[h4]<;>kernel_rfl)⟩
  ·
   refine X5 (Xx a0.2) (fun h5=> ?_) (fun h5=> ?_)
   ·
    refine rn Qa [4,5,6,7,8,10,25,26,27,50] [4,5,10] (pf 0 h4 (pt 2 h5 p0)) ?_;exact ⟨rfl,Qd (by rw[h4,h5]<;>kernel_rfl)⟩
   refine ru Qa [(50, .b false)] [12,13] [] [] (pf 0 h4 (pf 2 h5 p0)) ?_;exact ⟨rfl,Qd (by rw[h4,h5]<;>kernel_rfl)⟩
  refine ck ((Xs (J4 before after) (Vp a0.2))|| ((Xx a0.2)&&(before.2.2.2.1 !=after.2.2.2.1))) (fun h6=> ?_) (fun h6=> ?_)
  ·
   refine wT 8 0 (.own true 147204) s0 (fun hw7 hl8=> ?_);refine ru Qa [(8, .one (.slc (.own true 3520) 1 ((eL s0)++ [[.s a0.1]])))] [8,10,50] [] [10] (pa s0 [a0.1] p0) ?_;refine eqn [(8, .o 3520 (s0++ [a0.1]))] [8] [] [] (by rw[show ((eL s0)++ [[.s a0.1]])=(eL (s0++ [a0.1])) from Ks (rfl) (rfl)];first | done | kernel_rfl) ?_;refine rn Qa [4,5,6,7,8,25,26,27] [4,5] (pe 0 (Jh (Ql k0 (by omega))) p0) ?_;exact Exists.intro (s0++ [a0.1]) (And.intro (Xl [(3520,147204)] (by kernel_rfl)) ⟨Qr hx0 (Xf h6 (rfl)) hI0.1,by first | omega | (simp;omega) | simp⟩)
  refine Qf <| rn Qa [4,5,6,7,8,25,26,27] [4,5] (pe 0 (Jh (Ql k0 (by omega))) p0) ?_
  exact xw s0 ⟨Qr hx0 (Qs h6 (rfl)) hI0.1,by first | omega | (simp;omega) | simp⟩
 ·
  have hA0_0:=hI0.2;exact su Qa [(28, .b false)] [] [] [] (pe 0 (Qp (decide_eq_false (p:=((k0:Nat):Int)<(d.length:Int)) (by omega))) p0) <| Qc <| ckF <| Q2 <| Exists.intro _ (And.intro (Xl [(147204,147354)] (by kernel_rfl)) (Xi hk0 (rfl) hI0.1))
 exact sn Qa [6] [] (p0) <| Qg <| po0 [] (Qs h1 (Wj hD0 (rfl)))
def Vc (d:(List Xw)) (before:Xc) (after:Xc):(List ByteArray):=(Xz d (Kw d before after))
theorem QV (d:(List Xw)) (before:Xc) (after:Xc) (hp:(List.length before.2.2.2.2:Int)+List.length after.2.2.2.2<=1073741000) (hd:List.length d<=1000):ACalls Tryz.prog 138 [.h d, .a [.i before.1, .i before.2.1, .b before.2.2.1, .i before.2.2.2.1, .h before.2.2.2.2], .a [.i after.1, .i after.2.1, .b after.2.2.1, .i after.2.2.2.1, .h after.2.2.2.2]] (.h (Vc d before after)):=by
 refine en Qa Tryz.func138 fun w0 F0 hG=> ?_
 have hdl:=ZN d before after;exact sn Qa [0,4,5,6] [4,5] (p0) <| tn Qa [6] [] (pc 4 (O5 d before after (by first | omega | (simp;omega))) (pc 5 (Hz d (Kw d before after) (by first | omega | (simp;omega))) p0)) <| Qg <| ph0 [] (show Vc d before after=(Xz d (Kw d before after)) from rfl)
def Zw (a_:(List Int)) (b:(List Int)):(List Int)×(List Int):=((Gm b a_),(Gm a_ b))
theorem DH (a_:(List Int)) (b:(List Int)):ACalls Tryz.prog 209 [.h a_, .h b] (.tup [(false, [.o 0 (((Zw a_ b)).1)]),(false, [.o 1 (((Zw a_ b)).2)])]):=by
 refine en Qa Tryz.func209 fun w0 F0 hG=> ?_
 exact sn Qa [0,1,4,5] [] (p0) <| tn Qa [4,5] [] (pc 2 (QQ b a_) (pc 5 (QQ a_ b) p0)) <| Qg <| pz [] (show Zw a_ b=((Gm b a_),(Gm a_ b)) from rfl) (fun z=> .tup [(false, [.o 0 z.1]),(false, [.o 1 z.2])])
def Ms (a_:(List Qh)) (_:Nat) (a0:Qh) (s0:(List Gg)):Rd ((List Gg)) ((List Gg)) ((List Gg)):=(bif decide (IntKind.i64.wrap (((((Zw (Q9 a_ a0.1) a0.2)).1).length:Int)+((((Zw (Q9 a_ a0.1) a0.2)).2).length:Int))>(0:Int)) then (.next (s0++ [(a0.1,((Zw (Q9 a_ a0.1) a0.2)).1,((Zw (Q9 a_ a0.1) a0.2)).2)])) else (.next s0))
def Mt (_:Nat) (s0:(List Gg)):(List Gg):=s0
def Px (a_:(List Qh)) (b:(List Qh)):(List Gg):=(Out.on (Xp (Ms a_) Mt b 0 []) (fun y0=>y0))
theorem YL (a_:(List Qh)) (b:(List Qh)):ACalls Tryz.prog 146 [.h a_, .h b] (.o 0 (Px a_ b)):=by
 refine en Qa Tryz.func146 fun w0 F0 hG=> ?_
 refine sn Qa [0,1,4] [] (p0) <| tn Qa [0,1,4,5] [] (p0) <| Qc <| tu Qa [(4, .e 0),(5, .one (.slc (.own true 640) 3 [])),(11, .h b),(12, .i (b.length:Int)),(13, .i 0)] [1] [] [] (pl 1 b p0) <| wT 11 0 .sh b (fun hw1 hl2=> ?_)
 refine XY (Ms a_) Mt b [] (fun k0 s0=> [(5, .o 147202 s0),(13, .i ((k0:Nat):Int))]) [5,13] (fun y0=> [(5, .o 147352 y0)]) [0,5,11,12,13] (fun k0 s0=>List.length s0<=k0) (Xl [(640,147202)] (by kernel_rfl)) (by simp) (fun k0 s0 hk0 hI0=> ?_) (fun k0 s0 hk0 hI0=> ?_) (fun y0 hD0=> ?_)
 ·
  have hA0_0:=hI0.2;obtain ⟨a0,hx0⟩:=Xh (l:=b) (i:=k0) hk0;refine su Qa [(14, .b true)] [] [] [] (pe 0 (Qp (decide_eq_true (p:=((k0:Nat):Int)<(b.length:Int)) (by omega))) p0) <| Qc <| ckT <| Qf <| Qc <| Qu <| sn Qa [0,4,5,7,11,12,13] [7] (pn 0 hx0 p0) <| tN Qa Zh [0,4,5,7,8,9,11,12,13] [7] (pc 3 (Cj a_ a0.1) (pc 6 (DH (Q9 a_ a0.1) a0.2) p0)) <| tu Qa [(7, .p 7 0),(8, .o 1536 (((Zw (Q9 a_ a0.1) a0.2)).1)),(9, .o 1537 (((Zw (Q9 a_ a0.1) a0.2)).2)),(32, .b (decide (IntKind.i64.wrap (((((Zw (Q9 a_ a0.1) a0.2)).1).length:Int)+((((Zw (Q9 a_ a0.1) a0.2)).2).length:Int))>(0:Int))))] [14] [(7, [.s a0.1, .h a0.2])] [] (pl 1 (((Zw (Q9 a_ a0.1) a0.2)).1) (pl 3 (((Zw (Q9 a_ a0.1) a0.2)).2) p0)) <| ck (decide (IntKind.i64.wrap (((((Zw (Q9 a_ a0.1) a0.2)).1).length:Int)+((((Zw (Q9 a_ a0.1) a0.2)).2).length:Int))>(0:Int))) (fun h3=> ?_) (fun h3=> ?_)
  ·
   have h3d:=of_decide_eq_true h3;refine wT 5 0 (.own true 147202) s0 (fun hw4 hl5=> ?_);refine ru Qa [(5, .one (.slc (.own true 2560) 3 ((eL s0)++ [[.s a0.1, .h (((Zw (Q9 a_ a0.1) a0.2)).1), .h (((Zw (Q9 a_ a0.1) a0.2)).2)]])))] [5,7,8,9,32] [] [7] (pa s0 [(a0.1,((Zw (Q9 a_ a0.1) a0.2)).1,((Zw (Q9 a_ a0.1) a0.2)).2)] p0) ?_;refine eqn [(5, .o 2560 (s0++ [(a0.1,((Zw (Q9 a_ a0.1) a0.2)).1,((Zw (Q9 a_ a0.1) a0.2)).2)]))] [5] [] [] (by rw[show ((eL s0)++ [[.s a0.1, .h (((Zw (Q9 a_ a0.1) a0.2)).1), .h (((Zw (Q9 a_ a0.1) a0.2)).2)]])=(eL (s0++ [(a0.1,((Zw (Q9 a_ a0.1) a0.2)).1,((Zw (Q9 a_ a0.1) a0.2)).2)])) from Ks (rfl) (rfl)];first | done | kernel_rfl) ?_;refine rn Qa [0,4,5,11,12,13] [] (pe 0 (Jh (Ql k0 (by omega))) p0) ?_;exact Exists.intro (s0++ [(a0.1,((Zw (Q9 a_ a0.1) a0.2)).1,((Zw (Q9 a_ a0.1) a0.2)).2)]) (And.intro (Xl [(2560,147202)] (by kernel_rfl)) ⟨Qr hx0 (Xf h3 (rfl)) hI0.1,by first | omega | (simp;omega) | simp⟩)
  have h3d:=of_decide_eq_false h3;refine Qf <| rn Qa [0,4,5,11,12,13] [] (pe 0 (Jh (Ql k0 (by omega))) p0) ?_
  exact xw s0 ⟨Qr hx0 (Qs h3 (rfl)) hI0.1,by first | omega | (simp;omega) | simp⟩
 ·
  have hA0_0:=hI0.2;exact su Qa [(14, .b false)] [] [] [] (pe 0 (Qp (decide_eq_false (p:=((k0:Nat):Int)<(b.length:Int)) (by omega))) p0) <| Qc <| ckF <| Q2 <| Exists.intro _ (And.intro (Xl [(147202,147352)] (by kernel_rfl)) (Xi hk0 (rfl) hI0.1))
 exact sn Qa [4] [] (p0) <| Qg <| po0 [] (Wj hD0 (rfl))
def Uh (x:Qh) (y_:Qh):Bool:=((x.1.toList==y_.1.toList)&&(Kj x.2 y_.2))
theorem Rp (x:Qh) (y_:Qh):ACalls Tryz.prog 190 [.a [.s x.1, .h x.2], .a [.s y_.1, .h y_.2]] (.b (Uh x y_)):=by
 refine en Qa Tryz.func190 fun w0 F0 hG=> ?_
 refine sn Qa [2,3,4] [2,3] (p0) <| Qc <| mz [(2, .p 2 0),(3, .p 3 0),(4, .b false)] [0,1] [(2, [.s x.1, .h x.2]),(3, [.s y_.1, .h y_.2])] [] <| jn [(4, .b ((x.1.toList==y_.1.toList)&&(Kj x.2 y_.2)))] [2,3,4] [] [2,3] (x.1.toList==y_.1.toList) (fun h1=> ?_) (fun h1=> ?_) ?_
 ·
  refine rn Qa [4] [] (pt 4 h1 (pc 10 (Ns x.2 y_.2) p0)) ?_;exact ⟨rfl,Qd (by rw[h1]<;>kernel_rfl)⟩
 ·
  refine rn Qa [4] [] (pf 4 h1 p0) ?_;exact ⟨rfl,Qd (by rw[h1]<;>kernel_rfl)⟩
 exact Qg <| pb [] (show Uh x y_=((x.1.toList==y_.1.toList)&&(Kj x.2 y_.2)) from rfl)
def Zk (s2_:(List Qh)) (k0:Nat) (a0:Qh) (_:Unit):Rd (Bool) (Unit) (Unit):=(bif (!(Uh a0 (nth s2_ k0))) then (.ret false) else (.next ()))
def Z1 (_:Nat) (_:Unit):Unit:=()
def Jb (s1_:(List Qh)) (s2_:(List Qh)):Bool:=(bif ((s1_.length:Int) !=(s2_.length:Int)) then false else (Out.on (Xp (Zk s2_) Z1 s1_ 0 ()) (fun _=>true)))
theorem Bg (s1_:(List Qh)) (s2_:(List Qh)):ACalls Tryz.prog 189 [.h s1_, .h s2_, .one (.fnr 190 [])] (.b (Jb s1_ s2_)):=by
 refine en Qa Tryz.func189 fun w0 F0 hG=> ?_
 refine sn Qa [0,1,2,6] [] (p0) <| Qc <| tn Qa [0,1,2,6,14] [] (pl 1 s1_ (pl 3 s2_ p0)) <| ck ((s1_.length:Int) !=(s2_.length:Int)) (fun h1=> ?_) (fun h1=> ?_)
 ·
  exact tu Qa [(6, .b false)] [] [] [] (p0) <| Qg <| pb [] (Xf h1 (rfl))
 have h1d:=Wt h1;refine Qf <| Qc <| tu Qa [(6, .b false),(15, .h s1_),(16, .i (s1_.length:Int)),(17, .i 0)] [0] [] [] (pl 1 s1_ p0) <| wT 15 0 .sh s1_ (fun hw2 hl3=> ?_)
 refine Ox (Zk s2_) Z1 s1_ () (fun k0 _=> [(17, .i ((k0:Nat):Int))]) [17] (fun _=> []) [1,2,15,16,17] wf0 (fun k0 s0 hk0 hI0=> ?_) (fun k0 s0 hk0 hI0=> ?_) (fun y0 hD0=> ?_)
 ·
  obtain ⟨a0,hx0⟩:=Xh (l:=s1_) (i:=k0) hk0;refine su Qa [(18, .b true)] [] [] [] (pe 0 (Qp (decide_eq_true (p:=((k0:Nat):Int)<(s1_.length:Int)) (by omega))) p0) <| Qc <| ckT <| Qf <| Qc <| Qu <| sn Qa [1,2,6,7,8,15,16,17] [8] (pn 1 hx0 p0) <| wT 1 0 .sh s2_ (fun hw5 hl6=> ?_)
  have hx4:=ng s2_ k0;refine tn Qa [1,2,6,8,9,15,16,17] [8,9] (pn 2 hx4 p0) <| tu Qa [(30, .b (!(Uh a0 (nth s2_ k0))))] [18] [] [] (pc 3 (Rp a0 (nth s2_ k0)) p0) <| ck (!(Uh a0 (nth s2_ k0))) (fun h7=> ?_) (fun h7=> ?_)
  ·
   refine su Qa [] [30] [] [] (p0) <| Qg ?_
   have hr8:(Xp (Zk s2_) Z1 s1_ 0 ())= .ret false:=Jg hx0 (Xf h7 (rfl)) hI0;exact pb [] (Qs h1 (Oa hr8))
  refine Qf <| rn Qa [1,2,6,15,16,17] [] (pe 0 (Jh (Ql k0 (by omega))) p0) ?_
  exact xw _ (Qr hx0 (Qs h7 (rfl)) hI0)
 ·
  exact su Qa [(18, .b false)] [] [] [] (pe 0 (Qp (decide_eq_false (p:=((k0:Nat):Int)<(s1_.length:Int)) (by omega))) p0) <| Qc <| ckF <| Q2 <| xw _ (Xi hk0 (rfl) hI0)
 exact sn Qa [6] [] (p0) <| Qg <| pb [] (Qs h1 (Wj hD0 (rfl)))
def Uq (a_:(List Qh)) (b:(List Qh)):Bool:=(Jb a_ b)
theorem QW (a_:(List Qh)) (b:(List Qh)):ACalls Tryz.prog 129 [.h a_, .h b] (.b (Uq a_ b)):=by
 refine en Qa Tryz.func129 fun w0 F0 hG=> ?_
 exact sn Qa [0,1,4] [] (p0) <| tn Qa [4] [] (pc 2 (Bg a_ b) p0) <| Qg <| pb [] (show Uq a_ b=(Jb a_ b) from rfl)
def Xm (c:Xq):Bool:=(((Y6 c.1 c.2.1)).2&&(Uq (((Y6 c.1 c.2.1)).1) c.2.2))
theorem He {c:Xq} (h:Xm c=true):List.length c.2.1<=5/\Qq c.1=true:=by
 unfold Xm at h;cases he:(Y6 c.1 c.2.1).2 with
 | false=>rw[he] at h;simp at h
 | true=>obtain ⟨h1,h2,_⟩:=Tc he;exact ⟨h1,h2⟩
theorem A4 (c:Xq):ACalls Tryz.prog 67 [.a [.h c.1.1, .h c.1.2.1, .i c.1.2.2, .h c.2.1, .h c.2.2]] (.b (Xm c)):=by
 refine en Qa Tryz.func67 fun w0 F0 hG=> ?_
 refine sn Qa [1,2] [1] (p0) <| tn Qa [1,2,3,4] [1] (pc 4 (R3 c.1 c.2.1) p0) <| Qc <| mz [(1, .p 1 0),(2, .b false),(3, .o 640 (((Y6 c.1 c.2.1)).1)),(4, .b (((Y6 c.1 c.2.1)).2))] [0] [(1, [.h c.1.1, .h c.1.2.1, .i c.1.2.2, .h c.2.1, .h c.2.2])] [] <| jn [(2, .b (((Y6 c.1 c.2.1)).2&&(Uq (((Y6 c.1 c.2.1)).1) c.2.2)))] [1,2,3,4] [] [1] (((Y6 c.1 c.2.1)).2) (fun h1=> ?_) (fun h1=> ?_) ?_
 ·
  refine rn Qa [2] [] (pt 0 h1 (pc 5 (QW (((Y6 c.1 c.2.1)).1) c.2.2) p0)) ?_;exact ⟨rfl,Qd (by rw[h1]<;>kernel_rfl)⟩
 ·
  refine rn Qa [2] [] (pf 0 h1 p0) ?_;exact ⟨rfl,Qd (by rw[h1]<;>kernel_rfl)⟩
 exact Qg <| pb [] (show Xm c=(((Y6 c.1 c.2.1)).2&&(Uq (((Y6 c.1 c.2.1)).1) c.2.2)) from rfl)
open GoE (enc wide)
def Fx (_:Nat) (a0:Qh) (s0:(List Qh)):Rd ((List Qh)) ((List Qh)) ((List Qh)):=(.next (s0++ [a0]))
def Fy (_:Nat) (s0:(List Qh)):(List Qh):=s0
def Co (r:(List Qh)):(List Qh):=(Out.on (Xp Fx Fy r 0 []) (fun y0=>y0))
theorem YM (r:(List Qh)):ACalls Tryz.prog 132 [.h r] (.o 0 (Co r)):=by
 refine en Qa Tryz.func132 fun w0 F0 hG=> ?_
 refine sn Qa [0,2] [] (p0) <| tn Qa [0,2,3] [] (p0) <| Qc <| tu Qa [(2, .e 0),(3, .one (.slc (.own true 384) 2 [])),(7, .h r),(8, .i (r.length:Int)),(9, .i 0)] [0] [] [] (pl 1 r p0) <| wT 7 0 .sh r (fun hw1 hl2=> ?_)
 refine XY Fx Fy r [] (fun k0 s0=> [(3, .o 147201 s0),(9, .i ((k0:Nat):Int))]) [3,9] (fun y0=> [(3, .o 147351 y0)]) [3,7,8,9] (fun k0 s0=>List.length s0<=k0) (Xl [(384,147201)] (by kernel_rfl)) (by simp) (fun k0 s0 hk0 hI0=> ?_) (fun k0 s0 hk0 hI0=> ?_) (fun y0 hD0=> ?_)
 ·
  have hA0_0:=hI0.2;obtain ⟨a0,hx0⟩:=Xh (l:=r) (i:=k0) hk0;refine sn Qa [2,3,7,8,9,10] [] (pe 0 (Qp (decide_eq_true (p:=((k0:Nat):Int)<(r.length:Int)) (by omega))) p0) <| Qc <| ckT <| Qf <| Qc <| Qu <| tn Qa [2,3,5,7,8,9] [5] (pn 0 hx0 p0) <| wT 3 0 (.own true 147201) s0 (fun hw3 hl4=> ?_)
  refine qU Qa Zh [(3, .one (.slc (.own true 1344) 2 ((eL s0)++ [[.s a0.1, .h a0.2]])))] [3] [] [] (pc 5 (YA a0.2) (pa s0 [a0] p0)) ?_;refine eqn [(3, .o 1344 (s0++ [a0]))] [3] [] [] (by rw[show ((eL s0)++ [[.s a0.1, .h a0.2]])=(eL (s0++ [a0])) from Ks (rfl) (rfl)];first | done | kernel_rfl) ?_;refine rn Qa [2,3,7,8,9] [] (pe 0 (Jh (Ql k0 (by omega))) p0) ?_;exact Exists.intro (s0++ [a0]) (And.intro (Xl [(1344,147201)] (by kernel_rfl)) ⟨Qr hx0 (rfl) hI0.1,by first | omega | (simp;omega) | simp⟩)
 ·
  have hA0_0:=hI0.2;exact sn Qa [2,3,7,8,9,10] [] (pe 0 (Qp (decide_eq_false (p:=((k0:Nat):Int)<(r.length:Int)) (by omega))) p0) <| Qc <| ckF <| Q2 <| Exists.intro _ (And.intro (Xl [(147201,147351)] (by kernel_rfl)) (Xi hk0 (rfl) hI0.1))
 exact sn Qa [2] [] (p0) <| Qg <| po0 [] (Wj hD0 (rfl))
def X4 (c:Xq):Xq:=((Q7 c.1),(Xr c.2.1),(Co c.2.2))
theorem J9 (c:Xq):ACalls Tryz.prog 68 [.a [.h c.1.1, .h c.1.2.1, .i c.1.2.2, .h c.2.1, .h c.2.2]] (.a [.o 0 ((X4 c).1.1), .o 1 ((X4 c).1.2.1), .i ((X4 c).1.2.2), .o 2 ((X4 c).2.1), .o 3 ((X4 c).2.2)]):=by
 refine en Qa Tryz.func68 fun w0 F0 hG=> ?_
 exact sn Qa [1,2] [1,2] (p0) <| tN Qa Zh [2] [2] (pc 2 (Cm c.1) (pc 5 (An c.2.1) (pc 8 (YM c.2.2) p0))) <| Qg <| pz [] (show X4 c=((Q7 c.1),(Xr c.2.1),(Co c.2.2)) from rfl) (fun z=> .a [.o 0 z.1.1, .o 1 z.1.2.1, .i z.1.2.2, .o 2 z.2.1, .o 3 z.2.2])
def Vq (s_:Qz) (d:(List Xw)) (r:(List Qh)) (names:(List ByteArray)):(List Qh)×Bool:=(((Yn s_ d r names)).1,((Yn s_ d r names)).2.2)
theorem ZV (s_:Qz) (d:(List Xw)) (r:(List Qh)) (names:(List ByteArray)):ACalls Tryz.prog 145 [.a [.h s_.1, .h s_.2.1, .i s_.2.2], .h d, .h r, .h names] (.tup [(false, [.o 0 (((Vq s_ d r names)).1)]),(false, [.b (((Vq s_ d r names)).2)])]):=by
 refine en Qa Tryz.func145 fun w0 F0 hG=> ?_
 exact sn Qa [1,2,3,4,8,9] [4] (p0) <| tn Qa [8,9,10,12] [] (pc 4 (Ps s_ d r names) p0) <| tu Qa [(8, .o 1152 (((Yn s_ d r names)).1)),(9, .b (((Yn s_ d r names)).2.2))] [0,1,2,3] [] [] (p0) <| Qg <| pz [] (show Vq s_ d r names=(((Yn s_ d r names)).1,((Yn s_ d r names)).2.2) from rfl) (fun z=> .tup [(false, [.o 0 z.1]),(false, [.b z.2])])
def X8 (c:Xq) (s_:Qz) (d:(List Xw)) (names:(List ByteArray)):Xq×(List Gg)×Bool:=(bif (!(((Vq s_ d c.2.2 names)).2)) then ((X4 c), [],false) else (((Q7 s_),(Xr d),((Vq s_ d c.2.2 names)).1),(Px c.2.2 (((Vq s_ d c.2.2 names)).1)),true))
theorem Cp (c:Xq) (s_:Qz) (d:(List Xw)) (names:(List ByteArray)):ACalls Tryz.prog 76 [.a [.h c.1.1, .h c.1.2.1, .i c.1.2.2, .h c.2.1, .h c.2.2], .a [.h s_.1, .h s_.2.1, .i s_.2.2], .h d, .h names] (.tup [(true, [.o 0 ((((X8 c s_ d names)).1).1.1), .o 1 ((((X8 c s_ d names)).1).1.2.1), .i ((((X8 c s_ d names)).1).1.2.2), .o 2 ((((X8 c s_ d names)).1).2.1), .o 3 ((((X8 c s_ d names)).1).2.2)]),(false, [.o 4 (((X8 c s_ d names)).2.1)]),(false, [.b (((X8 c s_ d names)).2.2)])]):=by
 refine en Qa Tryz.func76 fun w0 F0 hG=> ?_
 refine sn Qa [2,3,4,5,8,9,10] [4,5,8] (p0) <| tn Qa [2,4,5,8,9,10,11,12] [4,5,8] (pc 5 (ZV s_ d c.2.2 names) p0) <| Qc <| tu Qa [(4, .p 4 0),(5, .p 5 0),(8, .p 8 0),(9, .e 0),(10, .b false),(11, .o 1216 (((Vq s_ d c.2.2 names)).1)),(23, .b (!(((Vq s_ d c.2.2 names)).2)))] [0,1,3] [(4, [.h c.1.1, .h c.1.2.1, .i c.1.2.2, .h c.2.1, .h c.2.2]),(5, [.h s_.1, .h s_.2.1, .i s_.2.2]),(8, [.e 2, .e 5, .i 0, .e 2, .e 2])] [] (p0) <| ck (!(((Vq s_ d c.2.2 names)).2)) (fun h1=> ?_) (fun h1=> ?_)
 ·
  refine sn Qa [2,4,5,8,9,10,11] [4,5,8] (pc 1 (J9 c) p0) <| opn [(false,9,0,true,384000,3)] ?_
  exact Qg <| pz [] (show X8 c s_ d names=_ from Xf h1 (rfl)) (fun z=> .tup [(true, [.o 0 z.1.1.1, .o 1 z.1.1.2.1, .i z.1.1.2.2, .o 2 z.1.2.1, .o 3 z.1.2.2]),(false, [.o 4 z.2.1]),(false, [.b z.2.2])])
 exact Qf <| sN Qa Zh [8,9,10] [8] (pc 1 (Cm s_) (pc 3 (An d) (pc 9 (YL c.2.2 (((Vq s_ d c.2.2 names)).1)) p0))) <| Qg <| pz [] (show X8 c s_ d names=_ from Qs h1 (rfl)) (fun z=> .tup [(true, [.o 0 z.1.1.1, .o 1 z.1.1.2.1, .i z.1.1.2.2, .o 2 z.1.2.1, .o 3 z.1.2.2]),(false, [.o 4 z.2.1]),(false, [.b z.2.2])])
def Z3 (c:Xq) (f:Xc):Xq×Int×(List Gg)×Bool:=(bif ((!(((Yh c.1 f)).2.2))|| (!(Xm c))) then ((X4 c),0, [],false) else ((((X8 c (((Yh c.1 f)).1) c.2.1 (X1 c.2.1))).1),((Yh c.1 f)).2.1,((X8 c (((Yh c.1 f)).1) c.2.1 (X1 c.2.1))).2.1,((X8 c (((Yh c.1 f)).1) c.2.1 (X1 c.2.1))).2.2))
theorem DI (c:Xq) (f:Xc):ACalls Tryz.prog 69 [.a [.h c.1.1, .h c.1.2.1, .i c.1.2.2, .h c.2.1, .h c.2.2], .a [.i f.1, .i f.2.1, .b f.2.2.1, .i f.2.2.2.1, .h f.2.2.2.2]] (.tup [(true, [.o 0 ((((Z3 c f)).1).1.1), .o 1 ((((Z3 c f)).1).1.2.1), .i ((((Z3 c f)).1).1.2.2), .o 2 ((((Z3 c f)).1).2.1), .o 3 ((((Z3 c f)).1).2.2)]),(false, [.i (((Z3 c f)).2.1)]),(false, [.o 4 (((Z3 c f)).2.2.1)]),(false, [.b (((Z3 c f)).2.2.2)])]):=by
 refine en Qa Tryz.func69 fun w0 F0 hG=> ?_
 refine sn Qa [2,3,4,5,6,7] [2,3,4] (p0) <| tn Qa [2,4,5,6,7,8,9,10] [2,4,8] (pc 3 (ZR c.1 f) p0) <| Qc <| Qc <| mz [(2, .p 2 0),(4, .p 4 0),(5, .i 0),(6, .e 0),(7, .b false),(8, .p 8 0),(9, .i (((Yh c.1 f)).2.1)),(10, .b (((Yh c.1 f)).2.2))] [0,1] [(2, [.h c.1.1, .h c.1.2.1, .i c.1.2.2, .h c.2.1, .h c.2.2]),(4, [.e 2, .e 5, .i 0, .e 2, .e 2]),(8, [.o 1088 ((((Yh c.1 f)).1).1), .o 1089 ((((Yh c.1 f)).1).2.1), .i ((((Yh c.1 f)).1).2.2)])] [] <| jn [(27, .b ((!(((Yh c.1 f)).2.2))|| (!(Xm c))))] [] [] [] (!(((Yh c.1 f)).2.2)) (fun h1=> ?_) (fun h1=> ?_) ?_
 ·
  have h1n:(((Yh c.1 f)).2.2)=false:=Vd h1;refine ru Qa [(27, .b true)] [] [] [] (pf 0 h1n (pe 1 (show .b (!false)= .b true from rfl) p0)) ?_;exact ⟨rfl,Qd (by rw[h1]<;>kernel_rfl)⟩
 ·
  have h1n:(((Yh c.1 f)).2.2)=true:=Y3 h1;refine rn Qa [2,4,5,6,7,8,9,10,27] [2,4,8] (pt 0 h1n (pe 1 (show .b (!true)= .b false from rfl) (pc 4 (A4 c) p0))) ?_;exact ⟨rfl,Qd (by rw[h1]<;>kernel_rfl)⟩
 refine ck ((!(((Yh c.1 f)).2.2))|| (!(Xm c))) (fun h2=> ?_) (fun h2=> ?_)
 ·
  refine sn Qa [2,4,5,6,7,8,9,10] [2,4,8] (pc 1 (J9 c) p0) <| opn [(false,6,0,true,384000,3)] ?_
  exact Qg <| pz [] (show Z3 c f=_ from Xf h2 (rfl)) (fun z=> .tup [(true, [.o 0 z.1.1.1, .o 1 z.1.1.2.1, .i z.1.1.2.2, .o 2 z.1.2.1, .o 3 z.1.2.2]),(false, [.i z.2.1]),(false, [.o 4 z.2.2.1]),(false, [.b z.2.2.2])])
 have h2r:((!(Xm c)))=false:=Re h2;have h2rn:(Xm c)=true:=Y3 h2r;have h2rnc:=He h2rn;exact Qf <| sN Qa Zh [4,5,6,7,9,10,11,12] [4,11] (pc 6 (G3 c.2.1) (pc 7 (Cp c (((Yh c.1 f)).1) c.2.1 (X1 c.2.1)) p0)) <| tn Qa [4,5,6,7] [4] (p0) <| Qg <| pz [] (show Z3 c f=_ from Qs h2 (rfl)) (fun z=> .tup [(true, [.o 0 z.1.1.1, .o 1 z.1.1.2.1, .i z.1.1.2.2, .o 2 z.1.2.1, .o 3 z.1.2.2]),(false, [.i z.2.1]),(false, [.o 4 z.2.2.1]),(false, [.b z.2.2.2])])
def Jd (c:Xq) (f:Xc):Xq×(List Gg)×Bool:=(bif ((!(((Xy c.1 f)).2))|| (!(Xm c))) then ((X4 c), [],false) else ((((X8 c (((Xy c.1 f)).1) c.2.1 (Vc c.2.1 (((Qk c.1 f.1)).1) f))).1),((X8 c (((Xy c.1 f)).1) c.2.1 (Vc c.2.1 (((Qk c.1 f.1)).1) f))).2.1,((X8 c (((Xy c.1 f)).1) c.2.1 (Vc c.2.1 (((Qk c.1 f.1)).1) f))).2.2))
theorem ZW (c:Xq) (f:Xc):ACalls Tryz.prog 72 [.a [.h c.1.1, .h c.1.2.1, .i c.1.2.2, .h c.2.1, .h c.2.2], .a [.i f.1, .i f.2.1, .b f.2.2.1, .i f.2.2.2.1, .h f.2.2.2.2]] (.tup [(true, [.o 0 ((((Jd c f)).1).1.1), .o 1 ((((Jd c f)).1).1.2.1), .i ((((Jd c f)).1).1.2.2), .o 2 ((((Jd c f)).1).2.1), .o 3 ((((Jd c f)).1).2.2)]),(false, [.o 4 (((Jd c f)).2.1)]),(false, [.b (((Jd c f)).2.2)])]):=by
 refine en Qa Tryz.func72 fun w0 F0 hG=> ?_
 refine sn Qa [2,3,4,5,6] [2,3,4] (p0) <| tn Qa [2,3,4,5,6,7,8] [2,3,4,7] (pc 3 (YK c.1 f) p0) <| Qc <| Qc <| mz [(2, .p 2 0),(3, .p 3 0),(4, .p 4 0),(5, .e 0),(6, .b false),(7, .p 7 0),(8, .b (((Xy c.1 f)).2))] [0,1] [(2, [.h c.1.1, .h c.1.2.1, .i c.1.2.2, .h c.2.1, .h c.2.2]),(3, [.i f.1, .i f.2.1, .b f.2.2.1, .i f.2.2.2.1, .h f.2.2.2.2]),(4, [.e 2, .e 5, .i 0, .e 2, .e 2]),(7, [.o 960 ((((Xy c.1 f)).1).1), .o 961 ((((Xy c.1 f)).1).2.1), .i ((((Xy c.1 f)).1).2.2)])] [] <| jn [(24, .b ((!(((Xy c.1 f)).2))|| (!(Xm c))))] [8] [] [] (!(((Xy c.1 f)).2)) (fun h1=> ?_) (fun h1=> ?_) ?_
 ·
  have h1n:(((Xy c.1 f)).2)=false:=Vd h1;refine ru Qa [(24, .b true)] [8] [] [] (pf 0 h1n (pe 1 (show .b (!false)= .b true from rfl) p0)) ?_;exact ⟨rfl,Qd (by rw[h1]<;>kernel_rfl)⟩
 ·
  have h1n:(((Xy c.1 f)).2)=true:=Y3 h1;have h1nr:=BF h1n;have h1nf:=BE h1nr.1 f.1;refine rn Qa [2,3,4,5,6,7,24] [2,3,4,7] (pt 0 h1n (pe 1 (show .b (!true)= .b false from rfl) (pc 4 (A4 c) p0))) ?_;exact ⟨rfl,Qd (by rw[h1]<;>kernel_rfl)⟩
 refine ck ((!(((Xy c.1 f)).2))|| (!(Xm c))) (fun h2=> ?_) (fun h2=> ?_)
 ·
  refine sn Qa [2,3,4,5,6,7] [2,3,4,7] (pc 1 (J9 c) p0) <| opn [(false,5,0,true,384000,3)] ?_
  exact Qg <| pz [] (show Jd c f=_ from Xf h2 (rfl)) (fun z=> .tup [(true, [.o 0 z.1.1.1, .o 1 z.1.1.2.1, .i z.1.1.2.2, .o 2 z.1.2.1, .o 3 z.1.2.2]),(false, [.o 4 z.2.1]),(false, [.b z.2.2])])
 have h2l:((!(((Xy c.1 f)).2)))=false:=Rc h2;have h2ln:(((Xy c.1 f)).2)=true:=Y3 h2l;have h2lnr:=BF h2ln;have h2lnf:=BE h2lnr.1 f.1;have h2r:((!(Xm c)))=false:=Re h2;have h2rn:(Xm c)=true:=Y3 h2r;have h2rnc:=He h2rn;exact Qf <| sn Qa [2,3,4,5,6,7,9] [2,3,4,7,9] (pc 4 (G7 c.1 f.1) p0) <| tN Qa Zh [4,5,6] [4] (pc 8 (QV c.2.1 (((Qk c.1 f.1)).1) f (by omega) (by omega)) (pc 9 (Cp c (((Xy c.1 f)).1) c.2.1 (Vc c.2.1 (((Qk c.1 f.1)).1) f)) p0)) <| Qg <| pz [] (show Jd c f=_ from Qs h2 (rfl)) (fun z=> .tup [(true, [.o 0 z.1.1.1, .o 1 z.1.1.2.1, .i z.1.1.2.2, .o 2 z.1.2.1, .o 3 z.1.2.2]),(false, [.o 4 z.2.1]),(false, [.b z.2.2])])
def Je (c:Xq) (id:Int):Xq×(List Gg)×Bool:=(bif ((!(((Yt c.1 id)).2))|| (!(Xm c))) then ((X4 c), [],false) else ((((X8 c (((Yt c.1 id)).1) c.2.1 (X1 c.2.1))).1),((X8 c (((Yt c.1 id)).1) c.2.1 (X1 c.2.1))).2.1,((X8 c (((Yt c.1 id)).1) c.2.1 (X1 c.2.1))).2.2))
theorem ZX (c:Xq) (id:Int):ACalls Tryz.prog 73 [.a [.h c.1.1, .h c.1.2.1, .i c.1.2.2, .h c.2.1, .h c.2.2], .i id] (.tup [(true, [.o 0 ((((Je c id)).1).1.1), .o 1 ((((Je c id)).1).1.2.1), .i ((((Je c id)).1).1.2.2), .o 2 ((((Je c id)).1).2.1), .o 3 ((((Je c id)).1).2.2)]),(false, [.o 4 (((Je c id)).2.1)]),(false, [.b (((Je c id)).2.2)])]):=by
 refine en Qa Tryz.func73 fun w0 F0 hG=> ?_
 refine sn Qa [1,2,4,5,6] [2,4] (p0) <| tn Qa [2,4,5,6,7,8] [2,4,7] (pc 3 (ZS c.1 id) p0) <| Qc <| Qc <| mz [(2, .p 2 0),(4, .p 4 0),(5, .e 0),(6, .b false),(7, .p 7 0),(8, .b (((Yt c.1 id)).2))] [0,1] [(2, [.h c.1.1, .h c.1.2.1, .i c.1.2.2, .h c.2.1, .h c.2.2]),(4, [.e 2, .e 5, .i 0, .e 2, .e 2]),(7, [.h ((((Yt c.1 id)).1).1), .h ((((Yt c.1 id)).1).2.1), .i ((((Yt c.1 id)).1).2.2)])] [] <| jn [(22, .b ((!(((Yt c.1 id)).2))|| (!(Xm c))))] [8] [] [] (!(((Yt c.1 id)).2)) (fun h1=> ?_) (fun h1=> ?_) ?_
 ·
  have h1n:(((Yt c.1 id)).2)=false:=Vd h1;refine ru Qa [(22, .b true)] [8] [] [] (pf 0 h1n (pe 1 (show .b (!false)= .b true from rfl) p0)) ?_;exact ⟨rfl,Qd (by rw[h1]<;>kernel_rfl)⟩
 ·
  have h1n:(((Yt c.1 id)).2)=true:=Y3 h1;refine rn Qa [2,4,5,6,7,22] [2,4,7] (pt 0 h1n (pe 1 (show .b (!true)= .b false from rfl) (pc 4 (A4 c) p0))) ?_;exact ⟨rfl,Qd (by rw[h1]<;>kernel_rfl)⟩
 refine ck ((!(((Yt c.1 id)).2))|| (!(Xm c))) (fun h2=> ?_) (fun h2=> ?_)
 ·
  refine sn Qa [2,4,5,6,7] [2,4,7] (pc 1 (J9 c) p0) <| opn [(false,5,0,true,384000,3)] ?_
  exact Qg <| pz [] (show Je c id=_ from Xf h2 (rfl)) (fun z=> .tup [(true, [.o 0 z.1.1.1, .o 1 z.1.1.2.1, .i z.1.1.2.2, .o 2 z.1.2.1, .o 3 z.1.2.2]),(false, [.o 4 z.2.1]),(false, [.b z.2.2])])
 have h2r:((!(Xm c)))=false:=Re h2;have h2rn:(Xm c)=true:=Y3 h2r;have h2rnc:=He h2rn;exact Qf <| sN Qa Zh [4,5,6] [4] (pc 6 (G3 c.2.1) (pc 7 (Cp c (((Yt c.1 id)).1) c.2.1 (X1 c.2.1)) p0)) <| Qg <| pz [] (show Je c id=_ from Qs h2 (rfl)) (fun z=> .tup [(true, [.o 0 z.1.1.1, .o 1 z.1.1.2.1, .i z.1.1.2.2, .o 2 z.1.2.1, .o 3 z.1.2.2]),(false, [.o 4 z.2.1]),(false, [.b z.2.2])])
def Jy (c:Xq) (x:Xw):Xq×(List Gg)×Bool:=(bif ((!(((Yo c.2.1 x)).2))|| ((!(Xm c))|| (!(J3 (((Yo c.2.1 x)).1))))) then ((X4 c), [],false) else ((((X8 c c.1 (((Yo c.2.1 x)).1) (Xz (((Yo c.2.1 x)).1) [x.1]))).1),((X8 c c.1 (((Yo c.2.1 x)).1) (Xz (((Yo c.2.1 x)).1) [x.1]))).2.1,((X8 c c.1 (((Yo c.2.1 x)).1) (Xz (((Yo c.2.1 x)).1) [x.1]))).2.2))
theorem WL (c:Xq) (x:Xw) (hp:List.length c.2.1<1073741000):ACalls Tryz.prog 74 [.a [.h c.1.1, .h c.1.2.1, .i c.1.2.2, .h c.2.1, .h c.2.2], .a [.s x.1, .h x.2]] (.tup [(true, [.o 0 ((((Jy c x)).1).1.1), .o 1 ((((Jy c x)).1).1.2.1), .i ((((Jy c x)).1).1.2.2), .o 2 ((((Jy c x)).1).2.1), .o 3 ((((Jy c x)).1).2.2)]),(false, [.o 4 (((Jy c x)).2.1)]),(false, [.b (((Jy c x)).2.2)])]):=by
 refine en Qa Tryz.func74 fun w0 F0 hG=> ?_
 refine sn Qa [2,3,4,5,6] [2,3,4] (p0) <| tn Qa [2,3,4,5,6,7,8] [2,3,4] (pc 3 (GG c.2.1 x (by first | omega | (simp;omega))) p0) <| Qc <| Qc <| mz [(2, .p 2 0),(3, .p 3 0),(4, .p 4 0),(5, .e 0),(6, .b false),(7, .h (((Yo c.2.1 x)).1)),(8, .b (((Yo c.2.1 x)).2))] [0,1] [(2, [.h c.1.1, .h c.1.2.1, .i c.1.2.2, .h c.2.1, .h c.2.2]),(3, [.s x.1, .h x.2]),(4, [.e 2, .e 5, .i 0, .e 2, .e 2])] [] <| jn [(27, .b ((!(((Yo c.2.1 x)).2))|| ((!(Xm c))|| (!(J3 (((Yo c.2.1 x)).1))))))] [8] [] [] (!(((Yo c.2.1 x)).2)) (fun h1=> ?_) (fun h1=> ?_) ?_
 ·
  have h1n:(((Yo c.2.1 x)).2)=false:=Vd h1;refine ru Qa [(27, .b true)] [8] [] [] (pf 0 h1n (pe 1 (show .b (!false)= .b true from rfl) p0)) ?_;exact ⟨rfl,Qd (by rw[h1]<;>kernel_rfl)⟩
 ·
  have h1n:(((Yo c.2.1 x)).2)=true:=Y3 h1;refine X5 (!(Xm c)) (fun h2=> ?_) (fun h2=> ?_)
  ·
   have h2n:(Xm c)=false:=Vd h2;refine ru Qa [(27, .b true)] [8] [] [] (pt 0 h1n (pe 1 (show .b (!true)= .b false from rfl) (pc 4 (cb h2n (A4 c)) (pe 5 (show .b (!false)= .b true from rfl) p0)))) ?_;exact ⟨rfl,Qd (by rw[h1,h2]<;>kernel_rfl)⟩
  have h2n:(Xm c)=true:=Y3 h2;have h2nc:=He h2n;refine rn Qa [2,3,4,5,6,7,27] [2,3,4] (pt 0 h1n (pe 1 (show .b (!true)= .b false from rfl) (pc 4 (cb h2n (A4 c)) (pe 5 (show .b (!true)= .b false from rfl) (pc 9 (QR (((Yo c.2.1 x)).1)) p0))))) ?_;exact ⟨rfl,Qd (by rw[h1,h2]<;>kernel_rfl)⟩
 refine ck ((!(((Yo c.2.1 x)).2))|| ((!(Xm c))|| (!(J3 (((Yo c.2.1 x)).1))))) (fun h3=> ?_) (fun h3=> ?_)
 ·
  refine sn Qa [2,3,4,5,6,7] [2,3,4] (pc 1 (J9 c) p0) <| opn [(false,5,0,true,384000,3)] ?_
  exact Qg <| pz [] (show Jy c x=_ from Xf h3 (rfl)) (fun z=> .tup [(true, [.o 0 z.1.1.1, .o 1 z.1.1.2.1, .i z.1.1.2.2, .o 2 z.1.2.1, .o 3 z.1.2.2]),(false, [.o 4 z.2.1]),(false, [.b z.2.2])])
 have h3r:(((!(Xm c))|| (!(J3 (((Yo c.2.1 x)).1)))))=false:=Re h3;have h3rl:((!(Xm c)))=false:=Rc h3r;have h3rln:(Xm c)=true:=Y3 h3rl;have h3rlnc:=He h3rln;have h3rr:((!(J3 (((Yo c.2.1 x)).1))))=false:=Re h3r;have h3rrn:(J3 (((Yo c.2.1 x)).1))=true:=Y3 h3rr;have h3rrnc:=GF h3rrn;exact Qf <| sN Qa Zh [4,5,6] [4] (pc 8 (Hz (((Yo c.2.1 x)).1) [x.1] (by first | omega | (simp;omega))) (pc 9 (Cp c c.1 (((Yo c.2.1 x)).1) (Xz (((Yo c.2.1 x)).1) [x.1])) p0)) <| Qg <| pz [] (show Jy c x=_ from Qs h3 (rfl)) (fun z=> .tup [(true, [.o 0 z.1.1.1, .o 1 z.1.1.2.1, .i z.1.1.2.2, .o 2 z.1.2.1, .o 3 z.1.2.2]),(false, [.o 4 z.2.1]),(false, [.b z.2.2])])
def Wo (f:Xc) (user:Int):Bool:=((Zz user)&&(f.2.1==user))
theorem M7 (f:Xc) (user:Int):ACalls Tryz.prog 71 [.a [.i f.1, .i f.2.1, .b f.2.2.1, .i f.2.2.2.1, .h f.2.2.2.2], .i user] (.b (Wo f user)):=by
 refine en Qa Tryz.func71 fun w0 F0 hG=> ?_
 refine sn Qa [1,2,4] [2] (p0) <| Qc <| mz [(2, .p 2 0),(4, .b false)] [0] [(2, [.i f.1, .i f.2.1, .b f.2.2.1, .i f.2.2.2.1, .h f.2.2.2.2])] [] <| jn [(4, .b ((Zz user)&&(f.2.1==user)))] [1,2,4] [] [2] (Zz user) (fun h1=> ?_) (fun h1=> ?_) ?_
 ·
  refine rn Qa [4] [] (pc 1 (cb h1 (W9 user)) p0) ?_;exact ⟨rfl,Qd (by rw[h1]<;>kernel_rfl)⟩
 ·
  refine rn Qa [4] [] (pc 1 (cb h1 (W9 user)) p0) ?_;exact ⟨rfl,Qd (by rw[h1]<;>kernel_rfl)⟩
 exact Qg <| pb [] (show Wo f user=((Zz user)&&(f.2.1==user)) from rfl)
def Qy (c:Xq) (user:Int) (x:Hh):Xq×(List Gg)×Bool:=(bif ((!(Zz user))|| (!(Xm c))) then ((X4 c), [],false) else (bif (x.1==(1:Int)) then (bif (x.2.1.2.1==user) then ((((Z3 c x.2.1)).1),((Z3 c x.2.1)).2.2.1,((Z3 c x.2.1)).2.2.2) else ((X4 c), [],false)) else (bif (x.1==(2:Int)) then (bif (((Qk c.1 x.2.1.1)).2&&((Wo (((Qk c.1 x.2.1.1)).1) user)&&(x.2.1.2.1==user))) then ((((Jd c x.2.1)).1),((Jd c x.2.1)).2.1,((Jd c x.2.1)).2.2) else ((X4 c), [],false)) else (bif (x.1==(3:Int)) then (bif (((Qk c.1 x.2.2.1)).2&&(Wo (((Qk c.1 x.2.2.1)).1) user)) then ((((Je c x.2.2.1)).1),((Je c x.2.2.1)).2.1,((Je c x.2.2.1)).2.2) else ((X4 c), [],false)) else (bif (x.1==(4:Int)) then ((((Jy c x.2.2.2)).1),((Jy c x.2.2.2)).2.1,((Jy c x.2.2.2)).2.2) else (bif (x.1==(5:Int)) then (bif ((Zp c.2.1 x.2.2.2.1)).2 then ((((X8 c c.1 (((Zp c.2.1 x.2.2.2.1)).1) (Xz c.2.1 [x.2.2.2.1]))).1),((X8 c c.1 (((Zp c.2.1 x.2.2.2.1)).1) (Xz c.2.1 [x.2.2.2.1]))).2.1,((X8 c c.1 (((Zp c.2.1 x.2.2.2.1)).1) (Xz c.2.1 [x.2.2.2.1]))).2.2) else ((X4 c), [],false)) else ((X4 c), [],false)))))))
theorem YN (c:Xq) (user:Int) (x:Hh):ACalls Tryz.prog 30 [.a [.h c.1.1, .h c.1.2.1, .i c.1.2.2, .h c.2.1, .h c.2.2], .i user, .a [.i x.1, .i x.2.1.1, .i x.2.1.2.1, .b x.2.1.2.2.1, .i x.2.1.2.2.2.1, .h x.2.1.2.2.2.2, .i x.2.2.1, .s x.2.2.2.1, .h x.2.2.2.2]] (.tup [(true, [.o 0 ((((Qy c user x)).1).1.1), .o 1 ((((Qy c user x)).1).1.2.1), .i ((((Qy c user x)).1).1.2.2), .o 2 ((((Qy c user x)).1).2.1), .o 3 ((((Qy c user x)).1).2.2)]),(false, [.o 4 (((Qy c user x)).2.1)]),(false, [.b (((Qy c user x)).2.2)])]):=by
 refine en Qa Tryz.func30 fun w0 F0 hG=> ?_
 refine sn Qa [1,3,5,6,7,8] [3,5,6] (p0) <| Qc <| Qc <| mz [(3, .p 3 0),(5, .p 5 0),(6, .p 6 0),(7, .e 0),(8, .b false)] [0,2] [(3, [.h c.1.1, .h c.1.2.1, .i c.1.2.2, .h c.2.1, .h c.2.2]),(5, [.i x.1, .i x.2.1.1, .i x.2.1.2.1, .b x.2.1.2.2.1, .i x.2.1.2.2.2.1, .h x.2.1.2.2.2.2, .i x.2.2.1, .s x.2.2.2.1, .h x.2.2.2.2]),(6, [.e 2, .e 5, .i 0, .e 2, .e 2])] [] <| jn [(26, .b ((!(Zz user))|| (!(Xm c))))] [] [] [] (!(Zz user)) (fun h1=> ?_) (fun h1=> ?_) ?_
 ·
  have h1n:(Zz user)=false:=Vd h1;refine ru Qa [(26, .b true)] [] [] [] (pc 1 (cb h1n (W9 user)) (pe 2 (show .b (!false)= .b true from rfl) p0)) ?_;exact ⟨rfl,Qd (by rw[h1]<;>kernel_rfl)⟩
 ·
  have h1n:(Zz user)=true:=Y3 h1;refine rn Qa [1,3,5,6,7,8,26] [3,5,6] (pc 1 (cb h1n (W9 user)) (pe 2 (show .b (!true)= .b false from rfl) (pc 5 (A4 c) p0))) ?_;exact ⟨rfl,Qd (by rw[h1]<;>kernel_rfl)⟩
 refine ck ((!(Zz user))|| (!(Xm c))) (fun h2=> ?_) (fun h2=> ?_)
 ·
  refine sn Qa [1,3,5,6,7,8] [3,5,6] (pc 1 (J9 c) p0) <| opn [(false,7,0,true,384000,3)] ?_
  exact Qg <| pz [] (show Qy c user x=_ from Xf h2 (rfl)) (fun z=> .tup [(true, [.o 0 z.1.1.1, .o 1 z.1.1.2.1, .i z.1.1.2.2, .o 2 z.1.2.1, .o 3 z.1.2.2]),(false, [.o 4 z.2.1]),(false, [.b z.2.2])])
 have h2r:((!(Xm c)))=false:=Re h2;have h2rn:(Xm c)=true:=Y3 h2r;have h2rnc:=He h2rn;refine Qf <| Qc <| su Qa [(30, .i x.1)] [26] [] [] (p0) <| Qu <| sn Qa [1,3,5,6,7,8,30,31] [3,5,6] (p0) <| ck (x.1==(1:Int)) (fun h3=> ?_) (fun h3=> ?_)
 ·
  refine tn Qa [3,5,6,7,8,37] [3,5,6] (p0) <| ck (x.2.1.2.1==user) (fun h4=> ?_) (fun h4=> ?_)
  ·
   exact tu Qa [(9, .p 9 0),(11, .o 2692 (((Z3 c x.2.1)).2.2.1)),(12, .b (((Z3 c x.2.1)).2.2.2))] [1,5,30] [(9, [.o 2688 ((((Z3 c x.2.1)).1).1.1), .o 2689 ((((Z3 c x.2.1)).1).1.2.1), .i ((((Z3 c x.2.1)).1).1.2.2), .o 2690 ((((Z3 c x.2.1)).1).2.1), .o 2691 ((((Z3 c x.2.1)).1).2.2)])] [5] (pc 3 (DI c x.2.1) p0) <| sn Qa [3,6,7,8] [3,6] (p0) <| Qg <| pz [] (show Qy c user x=_ from Qs h2 (Xf h3 (Xf h4 (rfl)))) (fun z=> .tup [(true, [.o 0 z.1.1.1, .o 1 z.1.1.2.1, .i z.1.1.2.2, .o 2 z.1.2.1, .o 3 z.1.2.2]),(false, [.o 4 z.2.1]),(false, [.b z.2.2])])
  refine Qf <| tu Qa [] [1,3,5,30] [(6, [.o 9024 ((X4 c).1.1), .o 9025 ((X4 c).1.2.1), .i ((X4 c).1.2.2), .o 9026 ((X4 c).2.1), .o 9027 ((X4 c).2.2)])] [3,5,6] (pc 1 (J9 c) p0) <| opn [(false,7,0,true,384000,3)] ?_
  exact Qg <| pz [] (show Qy c user x=_ from Qs h2 (Xf h3 (Qs h4 (rfl)))) (fun z=> .tup [(true, [.o 0 z.1.1.1, .o 1 z.1.1.2.1, .i z.1.1.2.2, .o 2 z.1.2.1, .o 3 z.1.2.2]),(false, [.o 4 z.2.1]),(false, [.b z.2.2])])
 have h3d:=Z2 h3;refine tn Qa [1,3,5,6,7,8,30,50] [3,5,6] (p0) <| ck (x.1==(2:Int)) (fun h5=> ?_) (fun h5=> ?_)
 ·
  refine tu Qa [(13, .p 13 0),(14, .b (((Qk c.1 x.2.1.1)).2))] [30] [(13, [.i ((((Qk c.1 x.2.1.1)).1).1), .i ((((Qk c.1 x.2.1.1)).1).2.1), .b ((((Qk c.1 x.2.1.1)).1).2.2.1), .i ((((Qk c.1 x.2.1.1)).1).2.2.2.1), .o 3712 ((((Qk c.1 x.2.1.1)).1).2.2.2.2)])] [] (pc 5 (G7 c.1 x.2.1.1) p0) <| Qc <| jn [(73, .b (((Qk c.1 x.2.1.1)).2&&((Wo (((Qk c.1 x.2.1.1)).1) user)&&(x.2.1.2.1==user))))] [1,13,14] [] [13] (((Qk c.1 x.2.1.1)).2) (fun h6=> ?_) (fun h6=> ?_) ?_
  ·
   refine X5 (Wo (((Qk c.1 x.2.1.1)).1) user) (fun h7=> ?_) (fun h7=> ?_)
   ·
    refine rn Qa [3,5,6,7,8,73] [3,5,6] (pt 0 h6 (pc 4 (cb h7 (M7 (((Qk c.1 x.2.1.1)).1) user)) p0)) ?_;exact ⟨rfl,Qd (by rw[h6,h7]<;>kernel_rfl)⟩
   refine rn Qa [3,5,6,7,8,73] [3,5,6] (pt 0 h6 (pc 4 (cb h7 (M7 (((Qk c.1 x.2.1.1)).1) user)) p0)) ?_;exact ⟨rfl,Qd (by rw[h6,h7]<;>kernel_rfl)⟩
  ·
   refine rn Qa [3,5,6,7,8,73] [3,5,6] (pf 0 h6 p0) ?_;exact ⟨rfl,Qd (by rw[h6]<;>kernel_rfl)⟩
  refine ck (((Qk c.1 x.2.1.1)).2&&((Wo (((Qk c.1 x.2.1.1)).1) user)&&(x.2.1.2.1==user))) (fun h8=> ?_) (fun h8=> ?_)
  ·
   exact sn Qa [3,6,7,8] [3,6] (pc 3 (ZW c x.2.1) p0) <| Qg <| pz [] (show Qy c user x=_ from Qs h2 (Qs h3 (Xf h5 (Xf h8 (rfl))))) (fun z=> .tup [(true, [.o 0 z.1.1.1, .o 1 z.1.1.2.1, .i z.1.1.2.2, .o 2 z.1.2.1, .o 3 z.1.2.2]),(false, [.o 4 z.2.1]),(false, [.b z.2.2])])
  refine Qf <| sn Qa [6,7,8] [6] (pc 1 (J9 c) p0) <| opn [(false,7,0,true,384000,3)] ?_
  exact Qg <| pz [] (show Qy c user x=_ from Qs h2 (Qs h3 (Xf h5 (Qs h8 (rfl))))) (fun z=> .tup [(true, [.o 0 z.1.1.1, .o 1 z.1.1.2.1, .i z.1.1.2.2, .o 2 z.1.2.1, .o 3 z.1.2.2]),(false, [.o 4 z.2.1]),(false, [.b z.2.2])])
 have h5d:=Z2 h5;refine tu Qa [(81, .b (x.1==(3:Int)))] [] [] [] (p0) <| ck (x.1==(3:Int)) (fun h9=> ?_) (fun h9=> ?_)
 ·
  refine sn Qa [1,3,5,6,7,8,15,16] [3,5,6,15] (pc 4 (G7 c.1 x.2.2.1) p0) <| Qc <| mz [(15, .p 15 0),(16, .b (((Qk c.1 x.2.2.1)).2))] [30,81] [(15, [.i ((((Qk c.1 x.2.2.1)).1).1), .i ((((Qk c.1 x.2.2.1)).1).2.1), .b ((((Qk c.1 x.2.2.1)).1).2.2.1), .i ((((Qk c.1 x.2.2.1)).1).2.2.2.1), .o 5632 ((((Qk c.1 x.2.2.1)).1).2.2.2.2)])] [] <| jn [(96, .b (((Qk c.1 x.2.2.1)).2&&(Wo (((Qk c.1 x.2.2.1)).1) user)))] [1,15,16] [] [15] (((Qk c.1 x.2.2.1)).2) (fun h10=> ?_) (fun h10=> ?_) ?_
  ·
   refine rn Qa [3,5,6,7,8,96] [3,5,6] (pt 0 h10 (pc 4 (M7 (((Qk c.1 x.2.2.1)).1) user) p0)) ?_;exact ⟨rfl,Qd (by rw[h10]<;>kernel_rfl)⟩
  ·
   refine rn Qa [3,5,6,7,8,96] [3,5,6] (pf 0 h10 p0) ?_;exact ⟨rfl,Qd (by rw[h10]<;>kernel_rfl)⟩
  refine ck (((Qk c.1 x.2.2.1)).2&&(Wo (((Qk c.1 x.2.2.1)).1) user)) (fun h11=> ?_) (fun h11=> ?_)
  ·
   exact sn Qa [3,6,7,8] [3,6] (pc 3 (ZX c x.2.2.1) p0) <| Qg <| pz [] (show Qy c user x=_ from Qs h2 (Qs h3 (Qs h5 (Xf h9 (Xf h11 (rfl)))))) (fun z=> .tup [(true, [.o 0 z.1.1.1, .o 1 z.1.1.2.1, .i z.1.1.2.2, .o 2 z.1.2.1, .o 3 z.1.2.2]),(false, [.o 4 z.2.1]),(false, [.b z.2.2])])
  refine Qf <| sn Qa [6,7,8] [6] (pc 1 (J9 c) p0) <| opn [(false,7,0,true,384000,3)] ?_
  exact Qg <| pz [] (show Qy c user x=_ from Qs h2 (Qs h3 (Qs h5 (Xf h9 (Qs h11 (rfl)))))) (fun z=> .tup [(true, [.o 0 z.1.1.1, .o 1 z.1.1.2.1, .i z.1.1.2.2, .o 2 z.1.2.1, .o 3 z.1.2.2]),(false, [.o 4 z.2.1]),(false, [.b z.2.2])])
 have h9d:=Z2 h9;refine sn Qa [3,5,6,7,8,30,104] [3,5,6] (p0) <| ck (x.1==(4:Int)) (fun h12=> ?_) (fun h12=> ?_)
 ·
  have h12d:=eq_of_beq h12;exact tn Qa [3,6,7,8] [3,6] (pc 3 (WL c x.2.2.2 (by first | omega | (simp;omega))) p0) <| Qg <| pz [] (show Qy c user x=_ from Qs h2 (Qs h3 (Qs h5 (Qs h9 (Xf h12 (rfl)))))) (fun z=> .tup [(true, [.o 0 z.1.1.1, .o 1 z.1.1.2.1, .i z.1.1.2.2, .o 2 z.1.2.1, .o 3 z.1.2.2]),(false, [.o 4 z.2.1]),(false, [.b z.2.2])])
 have h12d:=Z2 h12;refine tn Qa [3,5,6,7,8,113] [3,5,6] (p0) <| ck (x.1==(5:Int)) (fun h13=> ?_) (fun h13=> ?_)
 ·
  have h13d:=eq_of_beq h13;refine tu Qa [(17, .h (((Zp c.2.1 x.2.2.2.1)).1)),(18, .b (((Zp c.2.1 x.2.2.2.1)).2))] [1,30,81] [] [] (pc 5 (WJ c.2.1 x.2.2.2.1) p0) <| sn Qa [3,5,6,7,8,17,124] [3,5,6] (p0) <| ck (((Zp c.2.1 x.2.2.2.1)).2) (fun h14=> ?_) (fun h14=> ?_)
  ·
   exact tN Qa Zh [3,6,7,8] [3,6] (pc 10 (Hz c.2.1 [x.2.2.2.1] (by first | omega | (simp;omega))) (pc 11 (Cp c c.1 (((Zp c.2.1 x.2.2.2.1)).1) (Xz c.2.1 [x.2.2.2.1])) p0)) <| Qg <| pz [] (show Qy c user x=_ from Qs h2 (Qs h3 (Qs h5 (Qs h9 (Qs h12 (Xf h13 (Xf h14 (rfl)))))))) (fun z=> .tup [(true, [.o 0 z.1.1.1, .o 1 z.1.1.2.1, .i z.1.1.2.2, .o 2 z.1.2.1, .o 3 z.1.2.2]),(false, [.o 4 z.2.1]),(false, [.b z.2.2])])
  refine Qf <| tn Qa [6,7,8] [6] (pc 1 (J9 c) p0) <| opn [(false,7,0,true,384000,3)] ?_
  exact Qg <| pz [] (show Qy c user x=_ from Qs h2 (Qs h3 (Qs h5 (Qs h9 (Qs h12 (Xf h13 (Qs h14 (rfl)))))))) (fun z=> .tup [(true, [.o 0 z.1.1.1, .o 1 z.1.1.2.1, .i z.1.1.2.2, .o 2 z.1.2.1, .o 3 z.1.2.2]),(false, [.o 4 z.2.1]),(false, [.b z.2.2])])
 refine Qf <| tu Qa [] [1,3,5,30,81] [(6, [.o 9024 ((X4 c).1.1), .o 9025 ((X4 c).1.2.1), .i ((X4 c).1.2.2), .o 9026 ((X4 c).2.1), .o 9027 ((X4 c).2.2)])] [3,5,6] (pc 1 (J9 c) p0) <| opn [(false,7,0,true,384000,3)] ?_
 exact Qg <| pz [] (show Qy c user x=_ from Qs h2 (Qs h3 (Qs h5 (Qs h9 (Qs h12 (Qs h13 (rfl))))))) (fun z=> .tup [(true, [.o 0 z.1.1.1, .o 1 z.1.1.2.1, .i z.1.1.2.2, .o 2 z.1.2.1, .o 3 z.1.2.2]),(false, [.o 4 z.2.1]),(false, [.b z.2.2])])
end Go.Proofs.YtkekndahbiefaaaGreatDoor
