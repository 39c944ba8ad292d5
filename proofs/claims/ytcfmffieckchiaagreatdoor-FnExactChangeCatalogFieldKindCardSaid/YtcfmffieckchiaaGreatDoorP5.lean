/- Texts of this proof, put together by a program: Eva, Evb, Tw, Clr, Inr, Ins, Df, Eua, Eub, Enp, Wk, Vf, Cgs, Cga, Cgb, Cgc, Vsa, Vs, Ew, Cza, Su, Drl, Td, Cta, Ctb, Ctc, Cfa, Lw, Cfp, In, Fi, Fd. -/
import Derived.Test.YtcfmffieckchiaaGreatDoorP4
import Derived.KernelRfl
import Derived.Laws.Externs
import Derived.Lib.AppendZerosOnto
import Derived.Deep.RegionLaw
import Derived.Test.YtcfmffieckchiaaGreatDoorProg
import Derived.Outline
import Derived.Laws.IdiomStrings
import Derived.Lib.ItoaNum
import Derived.Lib.ConvBytes
import Derived.Lib.SlBytesRow
import Derived.Lib.SmallJoins
import Derived.Lib.Atoi
set_option linter.unusedVariables false
set_option linter.unusedSimpArgs false
namespace Go.Proofs.YtcfmffieckchiaaGreatDoor
section
open Go.RowKit
open GoE (enc wide)
def Ff (_:Nat) (a0:Y8) (s0:Z):Rd Z Z Z:=(.next (s0++ [a0.1]))
def Fg (_:Nat) (s0:Z):Z:=s0
def Yn (d:List Y8):Z:=(Out.on (Xp Ff Fg d 0 []) (λy0=>y0))
theorem Nx (d:List Y8):ACalls Tryz.prog 32 [.h d] (.o 0 (Yn d)):=by
 refine en Qb Tryz.func32 λw0 F0 hG=> ?_
 refine sn Qb [0,2] [] p0 <| tn Qb [0,2,3] [] p0 <| Qc <| tu Qb [(2,.e 0),(3,.one (.slc (.own true 384) 1 [])),(7,.h d),(8,.i (d.length:Int)),(9,.i 0)] [0] [] [] (pl 1 d p0) <| wT 7 0 .sh d (λhw1 hl2=> ?_)
 refine AK Ff Fg d [] (λk0 s0=> [(3,.o 147201 s0),(9,.i (k0:Int))]) [3,9] (λy0=> [(3,.o 147351 y0)]) [3,7,8,9] (λk0 s0=>List.length s0<=k0) (Yg [(384,147201)] (by kernel_rfl)) (by simp) (λk0 s0 hk0 U=> ?_) (λk0 s0 hk0 U=> ?_) (λy0 hD0=> ?_)
 ·have hA0_0:=U.2;obtain ⟨a0,V⟩:=Xs (l:=d) (i:=k0) hk0;refine sn Qb [2,3,7,8,9,10] [] (pe 0 (zB ((k0:Int)<(d.length:Int))) p0) <| Qc <| ckT <| Qi <| Qc <| Qx <| tn Qb [2,3,5,7,8,9] [5] (pn 0 V p0) <| wT 3 0 (.own true 147201) s0 (λhw3 hl4=> ?_)
  refine qu Qb [(3,.one (.slc (.own true 1088) 1 ((eL s0)++ [[.s a0.1]])))] [3] [] [] (pa s0 [a0.1] p0) ?_;refine eqn [(3,.o 1088 (s0++ [a0.1]))] [3] [] [] (by rw[show ((eL s0)++ [[.s a0.1]])=(eL (s0++ [a0.1])) from Uw (rfl) (rfl)];first | done | kernel_rfl) ?_;refine rn Qb [2,3,7,8,9] [] (pe 0 (Js (Qq k0 (by omega))) p0) ?_;exact Exists.intro (s0++ [a0.1]) (And.intro (Yg [(1088,147201)] (by kernel_rfl)) ⟨Qw V (rfl) U.1,by first|omega|(simp;omega) | simp⟩)
 ·have hA0_0:=U.2;exact sn Qb [2,3,7,8,9,10] [] (pe 0 (zC ((k0:Int)<(d.length:Int))) p0) <| Qc <| ckF <| Xe <| Exists.intro _ (And.intro (Yg [(147201,147351)] (by kernel_rfl)) (Xy hk0 (rfl) U.1))
 exact sn Qb [2] [] p0 <| Qk <| po0 [] (Ur hD0 (rfl))
def Vv (v:ByteArray) (k0:Nat) (a0:ByteArray) (_:Unit):Rd (Int) (Unit) (Unit):=(bif (v.toList==a0.toList) then (.ret (k0:Int)) else (.next ()))
def Ui (_:Nat) (_:Unit):Unit:=()
def Hy (s_:Z) (v:ByteArray):Int:=(Out.on (Xp (Vv v) Ui s_ 0 ()) (λ_=> -1))
theorem Nj (s_:Z) (v:ByteArray):ACalls Tryz.prog 191 [.h s_,.s v] (.i (Hy s_ v)):=by
 refine en Qb Tryz.func191 λw0 F0 hG=> ?_
 refine sn Qb [0,1,4] [] p0 <| Qc <| tn Qb [0,1,4,7,8] [] (pl 1 s_ p0) <| mz [(4,.i 0),(7,.i (s_.length:Int)),(8,.i 0)] [] [] [] <| wT 0 0 .sh s_ (λhw1 hl2=> ?_)
 refine M8 (Vv v) Ui s_ () (λk0 _=> [(8,.i (k0:Int))]) [8] (λ_=> []) [0,1,7,8] wf0 (λk0 s0 hk0 U=> ?_) (λk0 s0 hk0 U=> ?_) (λy0 hD0=> ?_)
 ·obtain ⟨a0,V⟩:=Xs (l:=s_) (i:=k0) hk0;refine sn Qb [0,1,4,7,8,9] [] (pe 0 (zB ((k0:Int)<(s_.length:Int))) p0) <| Qc <| ckT <| Qi <| Qc <| Qx <| tn Qb [0,1,4,5,7,8] [] p0 <| tu Qb [(5,.i (k0:Int)),(16,.b (v.toList==a0.toList))] [] [] [] (pn 3 V p0) <| ck (v.toList==a0.toList) (λh3=> ?_) (λh3=> ?_)
  ·refine sn Qb [0,1,4,7,8] [] p0 <| Qk ?_
   have hr4:(Xp (Vv v) Ui s_ 0 ())= .ret (k0:Int):=Z6 V (X6 h3 (rfl)) U;exact pi [] (M5 hr4)
  refine Qi <| rn Qb [0,1,4,7,8] [] (pe 0 (Js (Qq k0 (by omega))) p0) ?_
  exact xw _ (Qw V (Qy h3 (rfl)) U)
 ·exact sn Qb [0,1,4,7,8,9] [] (pe 0 (zC ((k0:Int)<(s_.length:Int))) p0) <| Qc <| ckF <| Xe <| xw _ (Xy hk0 (rfl) U)
 exact sn Qb [4] [] p0 <| Qk <| pi [] (Ur hD0 (rfl))
def Xd (s_:Z) (v:ByteArray):Bool:=decide ((Hy s_ v)>=(0:Int))
theorem C5 (s_:Z) (v:ByteArray):ACalls Tryz.prog 165 [.h s_,.s v] (.b (Xd s_ v)):=by
 refine en Qb Tryz.func165 λw0 F0 hG=> ?_
 exact sn Qb [0,1,4] [] p0 <| tn Qb [4] [] (pc 2 (Nj s_ v) p0) <| Qk <| pb [] (show Xd s_ v=decide ((Hy s_ v)>=(0:Int)) from rfl)
def W6 (x:List Int) (k0:Nat) (s0:Int):Rd (Int) (Int) (Int):=(.next (max s0 (nth x (k0+1))))
def Bq (_:Nat) (s0:Int):Int:=s0
def Ep (x:List Int):Int:=(Out.on (Wb (W6 x) Bq (x.length-1) 0 (nth x 0)) (λy0=>y0))
theorem XU (x:List Int) (hp:0<x.length):ACalls Tryz.prog 192 [.h x] (.i (Ep x)):=by
 refine en Qb Tryz.func192 λw0 F0 hG=> ?_
 refine sn Qb [0,2] [] p0 <| Qc <| tn Qb [0,2,7] [] (pl 1 x (pe 2 (show .b (decide ((x.length:Int)<(1:Int)))= .b false from Qs (decide_eq_false (by omega))) p0)) <| ckF <| Qi <| wT 0 0 .sh x (λhw2 hl3=> ?_)
 have hx1:=ng x 0;refine tu Qb [(2,.i 0),(3,.i (nth x 0))] [] [] [] (pg 1 0 hx1 p0) <| Qc <| sn Qb [0,2,3,4] [] p0 <| mz [(4,.i 1)] [] [] [] <| Qib (W6 x) Bq (x.length-1) (nth x 0) (λk0 s0=> [(3,.i s0),(4,.i ((k0+1:Nat):Int))]) [3,4] (λy0=> [(3,.i y0)]) [0,3,4] wf0 (λk0 s0 hk0 U=> ?_) (λk0 s0 hk0 U=> ?_) (λy0 hD0=> ?_)
 ·refine Qc <| sn Qb [0,2,3,4,15] [] (pl 2 x (pe 3 (zB (((k0+1:Nat):Int)<(x.length:Int))) p0)) <| ckT <| Qi <| Qc <| Qx ?_
  have hx4:=ng x (k0+1);refine qn Qb [0,2,3,4] [] (pg 3 ((k0+1:Nat):Int) hx4 p0) ?_;refine qu Qb [(3,.i (max s0 (nth x (k0+1)))),(4,.i ((k0+2:Nat):Int))] [3,4] [] [] (pe 1 (show .i (IntKind.i64.wrap (((k0+1:Nat):Int)+1))= .i ((k0+2:Nat):Int) from Js ((IntWalk.i64_in _ (by omega)).trans (by omega))) p0) ?_;exact xw _ (K1 hk0 (rfl) U)
 ·exact Qc <| sn Qb [0,2,3,4,15] [] (pl 2 x (pe 3 (zC (((k0+1:Nat):Int)<(x.length:Int))) p0)) <| ckF <| Xe <| xw _ (Cq hk0 (rfl) U)
 exact sn Qb [2] [] p0 <| Qk <| pi [] (Ur hD0 (rfl))
def Jh (d:List Y8):Int:=(bif ((!(((Qo d)).2))|| (((((Qo d)).1).length:Int)==(0:Int))) then-1 else (Ep (((Qo d)).1)))
theorem Le (d:List Y8):ACalls Tryz.prog 166 [.h d] (.i (Jh d)):=by
 refine en Qb Tryz.func166 λw0 F0 hG=> ?_
 refine sn Qb [0,2] [] p0 <| tn Qb [2,3,4] [] (pc 1 (S8 d) p0) <| Qc <| Qc <| mz [(2,.i 0),(3,.o 448 (((Qo d)).1)),(4,.b (((Qo d)).2))] [0] [] [] <| jn [(16,.b ((!(((Qo d)).2))|| (((((Qo d)).1).length:Int)==(0:Int))))] [4] [] [] (!(((Qo d)).2)) (λh1=> ?_) (λh1=> ?_) ?_
 ·have h1n:(((Qo d)).2)=false:=Ht h1;refine rn Qb [2,3,16] [] (pf 0 h1n (pe 1 (show .b (!false)= .b true from rfl) p0)) ?_;exact zA (by rw[h1]<;>kernel_rfl)
 ·have h1n:(((Qo d)).2)=true:=Ka h1;refine rn Qb [2,3,16] [] (pt 0 h1n (pe 1 (show .b (!true)= .b false from rfl) (pl 4 (((Qo d)).1) p0))) ?_;exact zA (by rw[h1]<;>kernel_rfl)
 refine ck ((!(((Qo d)).2))|| (((((Qo d)).1).length:Int)==(0:Int))) (λh2=> ?_) (λh2=> ?_)
 ·exact sn Qb [2,3] [] p0 <| Qk <| pi [] (X6 h2 (rfl))
 have h2l:((!(((Qo d)).2)))=false:=VL h2;have h2ln:(((Qo d)).2)=true:=Ka h2l;have h2r:((((((Qo d)).1).length:Int)==(0:Int)))=false:=UJ h2;have h2rd:=Zq h2r;exact Qi <| sn Qb [2] [] (pc 1 (XU (((Qo d)).1) (by first|omega|(simp_all;omega))) p0) <| Qk <| pi [] (Qy h2 (rfl))
def Uj (s2_:List Int) (k0:Nat) (a0:Int) (_:Unit):Rd (Bool) (Unit) (Unit):=(bif (a0 !=(nth s2_ k0)) then (.ret false) else (.next ()))
def Hz (_:Nat) (_:Unit):Unit:=()
def Jc (s1_:List Int) (s2_:List Int):Bool:=(bif ((s1_.length:Int) !=(s2_.length:Int)) then false else (Out.on (Xp (Uj s2_) Hz s1_ 0 ()) (λ_=>true)))
theorem G3 (s1_:List Int) (s2_:List Int):ACalls Tryz.prog 132 [.h s1_,.h s2_] (.b (Jc s1_ s2_)):=by
 refine en Qb Tryz.func132 λw0 F0 hG=> ?_
 refine sn Qb [0,1,4] [] p0 <| Qc <| tn Qb [0,1,4,10] [] (pl 1 s1_ (pl 3 s2_ p0)) <| ck ((s1_.length:Int) !=(s2_.length:Int)) (λh1=> ?_) (λh1=> ?_)
 ·exact tu Qb [(4,.b false)] [] [] [] p0 <| Qk <| pb [] (X6 h1 (rfl))
 have h1d:=W9 h1;refine Qi <| Qc <| tu Qb [(4,.b false),(12,.i (s1_.length:Int)),(13,.i 0)] [] [] [] (pl 1 s1_ p0) <| wT 0 0 .sh s1_ (λhw2 hl3=> ?_)
 refine M8 (Uj s2_) Hz s1_ () (λk0 _=> [(13,.i (k0:Int))]) [13] (λ_=> []) [0,1,12,13] wf0 (λk0 s0 hk0 U=> ?_) (λk0 s0 hk0 U=> ?_) (λy0 hD0=> ?_)
 ·obtain ⟨a0,V⟩:=Xs (l:=s1_) (i:=k0) hk0;refine su Qb [(14,.b true)] [] [] [] (pe 0 (zB ((k0:Int)<(s1_.length:Int))) p0) <| Qc <| ckT <| Qi <| Qc <| Qx <| sn Qb [0,1,4,5,12,13] [] p0 <| wT 1 0 .sh s2_ (λhw5 hl6=> ?_)
  have hx4:=ng s2_ k0;refine tN Qb Zf [0,1,4,12,13,24] [] (pn 2 V (pn 6 hx4 p0)) <| ck (a0 !=(nth s2_ k0)) (λh7=> ?_) (λh7=> ?_)
  ·refine tu Qb [] [14] [] [] p0 <| Qk ?_
   have hr8:(Xp (Uj s2_) Hz s1_ 0 ())= .ret false:=Z6 V (X6 h7 (rfl)) U;exact pb [] (Qy h1 (M5 hr8))
  have h7d:=W9 h7;refine Qi <| qu Qb [(13,.i ((k0+1:Nat):Int))] [13,14] [] [] (pe 0 (Js (Qq k0 (by omega))) p0) ?_
  exact xw _ (Qw V (Qy h7 (rfl)) U)
 ·exact sn Qb [0,1,4,12,13,14] [] (pe 0 (zC ((k0:Int)<(s1_.length:Int))) p0) <| Qc <| ckF <| Xe <| xw _ (Xy hk0 (rfl) U)
 exact sn Qb [4] [] p0 <| Qk <| pb [] (Qy h1 (Ur hD0 (rfl)))
def Zp (r:List Qg) (names:Z) (_:Nat) (a0:Y8) (s0:List Qg):Rd ((List Qg)×Int×Bool) (List Qg) (List Qg):=(bif (!(Xd names a0.1)) then (.next (s0++ [(a0.1,(Xa r a0.1))])) else (.next (s0++ [((a0.1, []):Qg)])))
def Jd (_:Nat) (s0:List Qg):(List Qg):=s0
def Vi (s_:X1) (d:List Y8) (names:Z) (k1:Nat) (k3:Nat) (a3:Y8) (s3:(List Qg)×Bool):Rd (Rd (Rd ((List Qg)×Int×Bool) ((List Qg)×Int) ((List Qg)×Int)) ((List Qg)×Int×Bool) ((List Qg)×Int)) ((List Qg)×Bool) ((List Qg)×Bool):=(bif (((nth (((Qo d)).1) k3) !=(k1:Int))|| (!(Xd names a3.1))) then (.next (s3.1,s3.2)) else (bif (!(Jc (Yr s_ a3.2 s3.1) ((nth s3.1 k3).2))) then (.next (List.set s3.1 k3 ((nth s3.1 k3).1,(Yr s_ a3.2 s3.1)),true)) else (.next (s3.1,s3.2))))
def Hc (_:Nat) (s3:(List Qg)×Bool):(List Qg)×Bool:=(s3.1,s3.2)
def Je (s_:X1) (d:List Y8) (names:Z) (k1:Nat) (s2:(List Qg)×Int×Bool):Rd (Rd ((List Qg)×Int×Bool) ((List Qg)×Int) ((List Qg)×Int)) ((List Qg)×Int×Bool) ((List Qg)×Int):=(bif s2.2.2 then (Out.on (Xp (Vi s_ d names k1) Hc d 0 (s2.1,false)) (λy3=>(.next (y3.1,IntKind.i64.wrap (s2.2.1+1),y3.2)))) else (.brk (s2.1,s2.2.1)))
def J3 (s_:X1) (d:List Y8) (names:Z) (k1:Nat) (s1:(List Qg)×Int):Rd ((List Qg)×Int×Bool) ((List Qg)×Int) ((List Qg)×Int):=(Out.on (Lh (Je s_ d names k1) (List.length d*List.length s_.2.1+2) (s1.1,s1.2,true)) (λy2=>(.next (y2.1,y2.2))))
def Hd (_:Nat) (s1:(List Qg)×Int):(List Qg)×Int:=(s1.1,s1.2)
def X2 (s_:X1) (d:List Y8) (r:List Qg) (names:Z):(List Qg)×Int×Bool:=(bif ((!(((Qo d)).2))|| (!(Q7 s_))) then ([],0,false) else (Out.on (Xp (Zp r names) Jd d 0 []) (λy0=>(Out.on (Wb (J3 s_ d names) Hd ((Jh d)+1).toNat 0 (y0,0)) (λy1=>(y1.1,y1.2,true))))))
theorem Qdw {B:Int} {x:List Int} (hx:∀a,a∈x->a<=B) (hB:0<=B):∀(n k:Nat) (s:Int),s<=B->∃t,Wb (W6 x) Bq n k s= .brk t/\t<=B
 | 0,k,s,h=>⟨s,rfl,h⟩
 | n +1,k,s,h=>by
   obtain ⟨t,h1,h2⟩:=Qdw hx hB n (k+1) (max s (nth x (k+1))) (by
    by_cases hk:k+1<x.length
    . have:=hx _ (EB hk);omega
    rw[XG (by omega)];omega)
   exact ⟨t,by simp only[Wb,W6];exact h1,h2⟩
theorem P5 {d:List Y8} (h:((Qo d)).2=true):List.length ((Qo d)).1=List.length d/\List.length d<=5/\Jh d<=5:=by
 obtain ⟨h1,h2,h3⟩:=Fz h;refine ⟨h1,h2, ?_⟩;unfold Jh;rw[h];simp only[Bool.not_true,Bool.false_or];cases hl:(((((Qo d)).1).length:Int)==(0:Int)) with
 | true=>simp only[cond_true];omega
 | false=>
  simp only[cond_false];have hp:0<(((Qo d)).1).length:=by have:=Zq hl;omega
  unfold Ep;obtain ⟨t,e,ht⟩:=Qdw (B:=5) (x:=((Qo d)).1) (λa ha=>(h3 a ha).2) (by omega) ((((Qo d)).1).length-1) 0 (nth ((Qo d)).1 0) (h3 _ (EB hp)).2;rw[e];exact ht
theorem Qdx (b:List Int):∀(l:List Int) (k:Nat),l.length=(b.drop k).length->Out.on (Xp (Uj b) Hz l k ()) (λ_=>true)=decide (l=b.drop k)
 | [],k,h=>by
   have:b.drop k= []:=List.eq_nil_of_length_eq_zero (by rw[←h];rfl);rw[this];rfl
 | a ::l,k,h=>by
   have hk:k<b.length:=by simp only[List.length_cons,List.length_drop] at h;omega
   have hd:b.drop k=nth b k::b.drop (k+1):=by
    rw[List.drop_eq_getElem_cons hk,show nth b k=b[k] by simp[nth,List.getD,hk]]
   rw[hd] at h⊢;simp only[Xp,Uj];by_cases e:a=nth b k
   . rw[show (a !=nth b k)=false by simp[e],cond_false,Qdx b l (k+1) (by simpa using h)];simp[e]
   rw[show (a !=nth b k)=true by simp[e],cond_true];simp[e,Out.on]
theorem Qg9 (a b:List Int) (h:a.length=b.length):Jc a b=decide (a=b):=by
 unfold Jc;rw[show ((a.length:Int) !=(b.length:Int))=false by simp[h],cond_false,Qdx b a 0 (by simpa using h),List.drop_zero]
theorem WJ (a b:List Int):Jc a b=decide (a=b):=by
 by_cases h:a.length=b.length
 . exact Qg9 a b h
 have hb:((a.length:Int) !=(b.length:Int))=true:=by simpa using λe:(a.length:Int)=(b.length:Int)=>h (by omega)
 unfold Jc;rw[hb,decide_eq_false (λe=>h (congrArg List.length e))];rfl
def onD (d:List Y8) (names:Z) (j:Nat):Bool:=Xd names (nth d j).1
theorem Ny (s_:X1) (d:List Y8) (names:Z) (k1:Nat):SJ s_ d (Qo d).1 (onD d names) (k1:Int) (Vi s_ d names k1):=by
 intro k a o c hk;have ha:nth d k=a:=Gw hk;unfold Vi BF onD;rw[ha,WJ];simp only[bne];cases (nth (Qo d).1 k==(k1:Int))<;>cases Xd names a.1<;>rfl
section
variable {s_:X1} {d:List Y8} {names:Z} {k1:Nat} {o:List Qg} {p:Int}
theorem Ao (hS:((Qo d)).2=true) (h:EvS d ((Qo d)).1 (onD d names) s_.2.1 (k1:Int) o):∃o' p',whl (Je s_ d names k1) (List.length d*List.length s_.2.1+2) (o,p,true)=some (.brk (o',p'))/\EvS d ((Qo d)).1 (onD d names) s_.2.1 ((k1:Int)+1) o':=
 Qdv (f:=Vi s_ d names k1) (e:=Hc) (Ny s_ d names k1) (λ_ _=>rfl) (λ_=>rfl) (Prod.ext rfl hS) h p
theorem EK (hS:((Qo d)).2=true) (h:EvS d ((Qo d)).1 (onD d names) s_.2.1 (((k1:Nat)):Int) o):(whl (Je s_ d names k1) (List.length d*List.length s_.2.1+2) (o,p,true)).isSome=true:=by
 obtain ⟨o',p',h1,_⟩:=Ao (p:=p) hS h;rw[h1];rfl
theorem Du {y:List Qg×Int} (hS:((Qo d)).2=true) (h:EvS d ((Qo d)).1 (onD d names) s_.2.1 (((k1:Nat)):Int) o) (hy:Lh (Je s_ d names k1) (List.length d*List.length s_.2.1+2) (o,p,true)= .brk y):EvS d ((Qo d)).1 (onD d names) s_.2.1 ((((k1+1):Nat)):Int) y.1:=by
 obtain ⟨o',p',h1,h2⟩:=Ao (p:=p) hS h;unfold Lh at hy;rw[h1] at hy;have e:(o',p')=y:=by simpa using hy
 rw[←e,Int.natCast_add];exact h2
def Cb (r:List Qg) (names:Z) (a:Y8):List Int:=bif (!(Xd names a.1)) then (Xa r a.1) else []
theorem Vw {r:List Qg} (hy:Xp (Zp r names) Jd d 0 []= .brk o):EvS d ((Qo d)).1 (onD d names) s_.2.1 (((0:Nat)):Int) o:=by
 obtain ⟨h1,h2⟩:=Iy (L:=((Qo d)).1) (on:=onD d names) (fs:=s_.2.1) (g:=Cb r names) (f:=Zp r names) (e:=Jd) (d:=d) (λk a s=>by
  unfold Zp Cb;cases Xd names a.1<;>rfl) (λj _ hj=>by unfold onD at hj;unfold Cb;rw[hj];rfl)
 rw[h1] at hy;have e:(d.map λa=>((a.1,Cb r names a):Qg))=o:=Out.brk.inj hy;rw[←e];exact h2
end
theorem Mh (s_:X1) (d:List Y8) (r:List Qg) (names:Z):ACalls Tryz.prog 129 [.a [.h s_.1,.h s_.2.1,.i s_.2.2],.h d,.h r,.h names] (.tup [(false, [.o 0 (((X2 s_ d r names)).1)]),(false, [.i (((X2 s_ d r names)).2.1)]),(false, [.b (((X2 s_ d r names)).2.2)])]):=by
 refine en Qb Tryz.func129 λw0 F0 hG=> ?_
 refine sn Qb [1,2,3,4,8,9,10] [4] p0 <| tn Qb [1,2,3,4,8,9,10,11,12] [4] (pc 1 (S8 d) p0) <| Qc <| Qc <| mz [(4,.p 4 0),(8,.e 0),(9,.i 0),(10,.b false),(11,.o 1600 (((Qo d)).1)),(12,.b (((Qo d)).2))] [0] [(4, [.h s_.1,.h s_.2.1,.i s_.2.2])] [] <| jn [(34,.b ((!(((Qo d)).2))|| (!(Q7 s_))))] [12] [] [] (!(((Qo d)).2)) (λh1=> ?_) (λh1=> ?_) ?_
 ·have h1n:(((Qo d)).2)=false:=Ht h1;refine ru Qb [(34,.b true)] [12] [] [] (pf 0 h1n (pe 1 (show .b (!false)= .b true from rfl) p0)) ?_;exact zA (by rw[h1]<;>kernel_rfl)
 ·have h1n:(((Qo d)).2)=true:=Ka h1;have h1nsf:=P5 h1n;refine rn Qb [1,2,3,4,8,9,10,11,34] [4] (pt 0 h1n (pe 1 (show .b (!true)= .b false from rfl) (pc 4 (Ue s_) p0))) ?_;exact zA (by rw[h1]<;>kernel_rfl)
 refine ck ((!(((Qo d)).2))|| (!(Q7 s_))) (λh2=> ?_) (λh2=> ?_)
 ·refine su Qb [] [34] [] [] p0 <| opn [(false,8,0,true,384000,2)] ?_
  exact Qk <| pz [] (show X2 s_ d r names=_ from X6 h2 (rfl)) (λz=> .tup [(false, [.o 0 z.1]),(false, [.i z.2.1]),(false, [.b z.2.2])])
 have h2l:((!(((Qo d)).2)))=false:=VL h2;have h2ln:(((Qo d)).2)=true:=Ka h2l;have h2lnsf:=P5 h2ln;have h2r:((!(Q7 s_)))=false:=UJ h2;have h2rn:(Q7 s_)=true:=Ka h2r;refine Qi <| sn Qb [1,2,3,4,8,9,10,11,13] [4] p0 <| Qc <| tn Qb [1,2,3,4,8,9,10,11,13,36,37,38] [4] (pl 1 d p0) <| mz [(13,.one (.slc (.own true 2240) 2 [])),(36,.h d),(37,.i (d.length:Int)),(38,.i 0)] [34] [] [] <| wT 1 0 .sh d (λhw3 hl4=> ?_)
 refine AK (Zp r names) Jd d [] (λk0 s0=> [(13,.o 147208 s0),(38,.i (k0:Int))]) [13,38] (λy0=> [(13,.o 147358 y0)]) [2,13,36,37,38] (λk0 s0=>List.length s0<=k0) (Yg [(2240,147208)] (by kernel_rfl)) (by simp) (λk0 s0 hk0 U=> ?_) (λk0 s0 hk0 U=> ?_) (λy0 hD0=> ?_)
 ·have hA0_0:=U.2;obtain ⟨a0,V⟩:=Xs (l:=d) (i:=k0) hk0;refine su Qb [(39,.b true)] [] [] [] (pe 0 (zB ((k0:Int)<(d.length:Int))) p0) <| Qc <| ckT <| Qi <| Qc <| Qx <| su Qb [(15,.p 15 0)] [39] [(15, [.s a0.1,.h a0.2])] [] (pn 0 V p0) <| su Qb [(16,.p 16 0)] [] [(16, [.s a0.1,.e 1])] [] p0 <| Qc <| su Qb [(49,.b (!(Xd names a0.1)))] [] [] [] (pc 3 (C5 names a0.1) p0) <| ck (!(Xd names a0.1)) (λh5=> ?_) (λh5=> ?_)
  ·have h5n:(Xd names a0.1)=false:=Ht h5;refine rn Qb [1,2,3,4,8,9,10,11,13,16,36,37,38] [4,16] (pc 3 (C1 r a0.1) p0) ?_;refine wT 13 0 (.own true 147208) s0 (λhw6 hl7=> ?_);refine qu Qb [(13,.one (.slc (.own true 3712) 2 ((eL s0)++ [[.s a0.1,.h (Xa r a0.1)]])))] [13,15,16,49] [] [15,16] (pa s0 [(a0.1,(Xa r a0.1))] p0) ?_;refine eqn [(13,.o 3712 (s0++ [(a0.1,(Xa r a0.1))]))] [13] [] [] (by rw[show ((eL s0)++ [[.s a0.1,.h (Xa r a0.1)]])=(eL (s0++ [(a0.1,(Xa r a0.1))])) from Uw (rfl) (rfl)];first | done | kernel_rfl) ?_;refine ru Qb [(38,.i ((k0+1:Nat):Int))] [38] [] [] (pe 0 (Js (Qq k0 (by omega))) p0) ?_;exact Exists.intro (s0++ [(a0.1,(Xa r a0.1))]) (And.intro (Yg [(3712,147208)] (by kernel_rfl)) ⟨Qw V (X6 h5 (rfl)) U.1,by first|omega|(simp;omega) | simp⟩)
  have h5n:(Xd names a0.1)=true:=Ka h5;refine Qi <| wT 13 0 (.own true 147208) s0 (λhw8 hl9=> ?_)
  refine ru Qb [(13,.one (.slc (.own true 3712) 2 ((eL s0)++ [[.s a0.1,.slc 1 []]])))] [13,15,16,49] [] [15,16] (pa s0 [((a0.1, []):Qg)] p0) ?_;refine eqn [(13,.o 3712 (s0++ [((a0.1, []):Qg)]))] [13] [] [] (by rw[show ((eL s0)++ [[.s a0.1,.slc 1 []]])=(eL (s0++ [((a0.1, []):Qg)])) from Uw (rfl) (rfl)];first | done | kernel_rfl) ?_;refine ru Qb [(38,.i ((k0+1:Nat):Int))] [38] [] [] (pe 0 (Js (Qq k0 (by omega))) p0) ?_;exact Exists.intro (s0++ [((a0.1, []):Qg)]) (And.intro (Yg [(3712,147208)] (by kernel_rfl)) ⟨Qw V (Qy h5 (rfl)) U.1,by first|omega|(simp;omega) | simp⟩)
 ·have hA0_0:=U.2;exact su Qb [(39,.b false)] [] [] [] (pe 0 (zC ((k0:Int)<(d.length:Int))) p0) <| Qc <| ckF <| Xe <| Exists.intro _ (And.intro (Yg [(147208,147358)] (by kernel_rfl)) (Xy hk0 (rfl) U.1))
 refine su Qb [(17,.i 0)] [] [] [] p0 <| Qc <| su Qb [(18,.i 0)] [] [] [] p0 <| Qff (J3 s_ d names) Hd ((Jh d)+1).toNat (y0,0) (λk1 s1=> [(13,.o 147358 s1.1),(17,.i s1.2),(18,.i (k1:Int))]) [13,17,18] (λ_ _=> []) [] (λy1=> [(13,.o 147358 y1.1),(17,.i y1.2)]) [1,3,4,11,13,17,18] (λ_=> []) [4] (λk1 s1=>EvS d ((Qo d)).1 (onD d names) s_.2.1 (((k1:Nat)):Int) s1.1/\List.length s1.1=List.length d) wf0 ⟨(by first | exact Vw hD0 | exact Vw hD0.1 | exact U8 (fs:=s_.2.1) (Vw hD0) | exact U8 (fs:=s_.2.1) (Vw hD0.1)),(by first | exact Vw hD0 | exact Vw hD0.1 | exact U8 (fs:=s_.2.1) (Vw hD0) | exact U8 (fs:=s_.2.1) (Vw hD0.1))⟩ (λk1 s1 hk1 hI1=> ?_) (λk1 s1 hk1 hI1=> ?_) (λy1 hD1=> ?_)
 ·have hA1_0:=hI1.2.1;have hA1_1:=hI1.2.2;refine Qc <| su Qb [(63,.b true)] [] [] [] (pc 2 (Le d) (pe 3 (zB ((k1:Int)<=(Jh d))) p0)) <| ckT <| Qi <| Qc <| Qx <| su Qb [(19,.b true)] [63] [] [] p0 <| blw (λ(s2:(List Qg)×Int×Bool)=> [(13,.o 147358 s2.1),(17,.i s2.2.1),(19,.b s2.2.2)]) [13,17,19] (λs2=> []) [] (λ(y2:(List Qg)×Int)=> [(13,.o 147358 y2.1),(17,.i y2.2)]) [13,17,19] (λy2=> []) [] (λ(k2:Nat) (s2:(List Qg)×Int×Bool)=>whl (Je s_ d names k1) k2 s2=some (Lh (Je s_ d names k1) (List.length d*List.length s_.2.1+2) (s1.1,s1.2,true))/\List.length s2.1=List.length d) (λ(y2:(List Qg)×Int)=>(Lh (Je s_ d names k1) (List.length d*List.length s_.2.1+2) (s1.1,s1.2,true))= .brk y2) (List.length d*List.length s_.2.1+2) (s1.1,s1.2,true) wf0 ⟨M6 (EK (by assumption) (by assumption)),(by assumption)⟩ (λ_ h=>M7 h.1) (λk2 s2 hI2=> ?_) (λy2 hD2=> ?_)
  ·have hA2_0:=hI2.2;refine Qc <| su Qb [(66,.b s2.2.2)] [] [] [] p0 <| ck s2.2.2 (λh10=> ?_) (λh10=> ?_)
   ·refine Qi <| Qx <| su Qb [(19,.b false)] [19,66] [] [] p0 <| sn Qb [1,3,4,8,9,10,11,13,17,18,19] [4] p0 <| tn Qb [1,3,4,8,9,10,11,13,17,18,19,69,70,71] [4] (pl 1 d p0) <| mz [(17,.i (IntKind.i64.wrap (s2.2.1+1))),(69,.h d),(70,.i (d.length:Int)),(71,.i 0)] [17] [] [] <| Qdo (Vi s_ d names k1) Hc d (s2.1,false) (λk3 s3=> [(13,.o 147358 s3.1),(19,.b s3.2),(71,.i (k3:Int))]) [13,19,71] (λy3=> [(13,.o 147358 y3.1),(19,.b y3.2)]) [13,19,69,70,71] (λ_ s3=>List.length s3.1=List.length s2.1) (λy3=>List.length y3.1=List.length s2.1) wf0 (by simp) (λk3 s3 hk3 hI3=> ?_) (λk3 s3 hk3 hI3=> ?_) (λy3 hD3=> ?_)
    ·have hA3_0:=hI3.2;obtain ⟨a3,hx3⟩:=Xs (l:=d) (i:=k3) hk3;refine su Qb [(72,.b true)] [] [] [] (pe 0 (zB ((k3:Int)<(d.length:Int))) p0) <| Qc <| ckT <| Qi <| Qc <| Qx <| sn Qb [1,3,4,8,9,10,11,13,17,18,19,20,21,69,70,71] [4,21] (pn 1 hx3 p0) <| Qc <| Qc <| mz [(20,.i (k3:Int)),(21,.p 21 0)] [72] [(21, [.s a3.1,.h a3.2])] [] <| jn [(88,.b (((nth (((Qo d)).1) k3) !=(k1:Int))|| (!(Xd names a3.1))))] [] [] [] ((nth (((Qo d)).1) k3) !=(k1:Int)) (λh11=> ?_) (λh11=> ?_) ?_
     ·have h11d:=L5 h11;refine wT 11 0 (.own true 1600) (((Qo d)).1) (λhw13 hl14=> ?_);have hx12:=ng (((Qo d)).1) k3;refine ru Qb [(88,.b true)] [] [] [] (pN 2 hx12 (pt 5 h11 p0)) ?_;exact zA (by rw[h11]<;>kernel_rfl)
     ·have h11d:=W9 h11;refine wT 11 0 (.own true 1600) (((Qo d)).1) (λhw16 hl17=> ?_);have hx15:=ng (((Qo d)).1) k3;refine ru Qb [(88,.b (!(Xd names a3.1)))] [] [] [] (pN 2 hx15 (pf 5 h11 (pc 10 (C5 names a3.1) p0))) ?_;exact zA (by rw[h11]<;>kernel_rfl)
     refine ck (((nth (((Qo d)).1) k3) !=(k1:Int))|| (!(Xd names a3.1))) (λh18=> ?_) (λh18=> ?_)
     ·refine Xe <| rn Qb [1,3,4,8,9,10,11,13,17,18,19,69,70,71] [4] (pe 0 (Js (Qq k3 (by omega))) p0) ?_
      exact xw (s3.1,s3.2) ⟨Qw hx3 (X6 h18 (rfl)) hI3.1,(by first|omega|(simp only[List.length_set];omega))⟩
     have h18l:(((nth (((Qo d)).1) k3) !=(k1:Int)))=false:=VL h18;have h18ld:=W9 h18l;have h18r:((!(Xd names a3.1)))=false:=UJ h18;have h18rn:(Xd names a3.1)=true:=Ka h18r;refine Qi <| su Qb [(22,.o 5952 (Yr s_ a3.2 s3.1))] [21,88] [] [21] (pc 4 (Sm s_ a3.2 s3.1) p0) <| wT 13 0 (.own true 147358) s3.1 (λhw20 hl21=> ?_)
     have hx19:=ng s3.1 k3;refine sn Qb [1,3,4,8,9,10,11,13,17,18,19,20,22,69,70,71,101] [4] (pN 3 hx19 (pc 6 (G3 (Yr s_ a3.2 s3.1) ((nth s3.1 k3).2)) p0)) <| ck (!(Jc (Yr s_ a3.2 s3.1) ((nth s3.1 k3).2))) (λh22=> ?_) (λh22=> ?_)
     ·have h22n:(Jc (Yr s_ a3.2 s3.1) ((nth s3.1 k3).2))=false:=Ht h22;refine tu Qb [(13,.one (.slc (.own true 147358) 2 (setRow (eL s3.1) k3 1 [.h (Yr s_ a3.2 s3.1)])))] [13,20,22] [] [] (pN 3 hx19 p0) <| eqn [(13,.o 147358 (List.set s3.1 k3 ((nth s3.1 k3).1,(Yr s_ a3.2 s3.1))))] [13] [] [] (by rw[Zv (y:=((nth s3.1 k3).1,(Yr s_ a3.2 s3.1))) hx19 rfl]<;>kernel_rfl) ?_
      refine ru Qb [(19,.b true)] [19] [] [] p0 ?_;refine ru Qb [(71,.i ((k3+1:Nat):Int))] [71] [] [] (pe 0 (Js (Qq k3 (by omega))) p0) ?_;exact xw (List.set s3.1 k3 ((nth s3.1 k3).1,(Yr s_ a3.2 s3.1)),true) ⟨Qw hx3 (Qy h18 (X6 h22 (rfl))) hI3.1,(by first|omega|(simp only[List.length_set];omega))⟩
     have h22n:(Jc (Yr s_ a3.2 s3.1) ((nth s3.1 k3).2))=true:=Ka h22;refine Qi <| qu Qb [(71,.i ((k3+1:Nat):Int))] [20,22,71] [] [] (pe 0 (Js (Qq k3 (by omega))) p0) ?_
     exact xw (s3.1,s3.2) ⟨Qw hx3 (Qy h18 (Qy h22 (rfl))) hI3.1,(by first|omega|(simp only[List.length_set];omega))⟩
    ·have hA3_0:=hI3.2;exact su Qb [(72,.b false)] [] [] [] (pe 0 (zC ((k3:Int)<(d.length:Int))) p0) <| Qc <| ckF <| Xe <| xw (s3.1,s3.2) ⟨Xy hk3 (rfl) hI3.1,by first|omega|(simp only[List.length_set];omega)⟩
    have hD3_0:=hD3.2;exact xw (y3.1,IntKind.i64.wrap (s2.2.1+1),y3.2) ⟨wn hI2.1 (X6 h10 (Ur hD3.1 (rfl))),(by first|omega|(simp only[List.length_set];omega))⟩
   exact Xe <| xw _ (wb hI2.1 (Qy h10 (rfl)))
  refine rn Qb [1,3,4,8,9,10,11,13,17,18] [4] (pe 1 (Js (Qq k1 (by omega))) p0) ?_;exact xw (y2.1,y2.2) ⟨K1 hk1 (Ur hD2 (rfl)) hI1.1,(by first | exact Du (by assumption) (by assumption) (by assumption) | exact U8 (fs:=s_.2.1) (Du (by assumption) (by assumption) (by assumption))),(by first | exact Du (by assumption) (by assumption) (by assumption) | exact U8 (fs:=s_.2.1) (Du (by assumption) (by assumption) (by assumption)))⟩
 ·have hA1_0:=hI1.2.1;have hA1_1:=hI1.2.2;exact Qc <| su Qb [(63,.b false)] [] [] [] (pc 2 (Le d) (pe 3 (zC ((k1:Int)<=(Jh d))) p0)) <| ckF <| Xe <| xw _ (Cq hk1 (rfl) hI1.1)
 exact sn Qb [8,9,10] [] p0 <| Qk <| pz [] (show X2 s_ d r names=_ from Qy h2 (Ur hD0 (Ur hD1 (rfl)))) (λz=> .tup [(false, [.o 0 z.1]),(false, [.i z.2.1]),(false, [.b z.2.2])])
def Zc (s_:X1) (d:List Y8):(List Qg)×Bool:=(((X2 s_ d [] (Yn d))).1,((X2 s_ d [] (Yn d))).2.2)
theorem ZA (s_:X1) (d:List Y8):ACalls Tryz.prog 71 [.a [.h s_.1,.h s_.2.1,.i s_.2.2],.h d] (.tup [(false, [.o 0 (((Zc s_ d)).1)]),(false, [.b (((Zc s_ d)).2)])]):=by
 refine en Qb Tryz.func71 λw0 F0 hG=> ?_
 exact sn Qb [1,2,4,5] [2] p0 <| tN Qb Zf [4,5,6,8] [] (pc 3 (Nx d) (pc 4 (EJ (.cons (ArgLe.rfl _) (.cons (ArgLe.rfl _) (.cons (ArgLe.nil 2) (.cons (ArgLe.rfl _) (.nil))))) (Mh s_ d [] (Yn d))) p0)) <| tu Qb [(4,.o 896 (((X2 s_ d [] (Yn d))).1)),(5,.b (((X2 s_ d [] (Yn d))).2.2))] [0,1] [] [] p0 <| Qk <| pz [] (show Zc s_ d=(((X2 s_ d [] (Yn d))).1,((X2 s_ d [] (Yn d))).2.2) from rfl) (λz=> .tup [(false, [.o 0 z.1]),(false, [.b z.2])])
def Wo (_:Nat) (a0:Int) (s0:Int):Rd (Int) (Int) (Int):=(bif decide (a0>s0) then (.next a0) else (.next s0))
def Ap (_:Nat) (s0:Int):Int:=s0
def Ji (d:List Y8):Int:=(Out.on (Xp Wo Ap (((Xb d)).1) 0 (-1)) (λy0=>y0))
theorem Br (d:List Y8):ACalls Tryz.prog 104 [.h d] (.i (Ji d)):=by
 refine en Qb Tryz.func104 λw0 F0 hG=> ?_
 refine sn Qb [0,2] [] p0 <| tn Qb [2,3] [] (pc 1 (Me d) p0) <| tu Qb [(2,.i 0),(3,.o 576 (((Xb d)).1)),(5,.i (-1))] [0] [] [] p0 <| Qc <| sn Qb [2,3,5,6] [] p0 <| mz [(6,.i 0)] [] [] [] <| wT 3 0 (.own true 576) (((Xb d)).1) (λhw1 hl2=> ?_)
 refine M8 Wo Ap (((Xb d)).1) (-1) (λk0 s0=> [(5,.i s0),(6,.i (k0:Int))]) [5,6] (λy0=> [(5,.i y0)]) [3,5,6] wf0 (λk0 s0 hk0 U=> ?_) (λk0 s0 hk0 U=> ?_) (λy0 hD0=> ?_)
 ·obtain ⟨a0,V⟩:=Xs (l:=((Xb d)).1) (i:=k0) hk0;refine Qc <| sn Qb [2,3,5,6,15] [] (pl 2 (((Xb d)).1) (pe 3 (zB ((k0:Int)<((((Xb d)).1).length:Int))) p0)) <| ckT <| Qi <| Qc <| Qx <| tn Qb [2,3,5,6,23] [] (pN 2 V p0) <| ck (decide (a0>s0)) (λh3=> ?_) (λh3=> ?_)
  ·have h3d:=of_decide_eq_true h3;refine qu Qb [(5,.i a0)] [5] [] [] (pN 2 V p0) ?_;refine rn Qb [2,3,5,6] [] (pe 1 (Js (Qq k0 (by omega))) p0) ?_;exact xw _ (Qw V (X6 h3 (rfl)) U)
  have h3d:=of_decide_eq_false h3;refine Qi <| qu Qb [(6,.i ((k0+1:Nat):Int))] [6] [] [] (pe 1 (Js (Qq k0 (by omega))) p0) ?_
  exact xw _ (Qw V (Qy h3 (rfl)) U)
 ·exact Qc <| sn Qb [2,3,5,6,15] [] (pl 2 (((Xb d)).1) (pe 3 (zC ((k0:Int)<((((Xb d)).1).length:Int))) p0)) <| ckF <| Xe <| xw _ (Xy hk0 (rfl) U)
 exact sn Qb [2] [] p0 <| Qk <| pi [] (Ur hD0 (rfl))
def Aq (_:Nat) (a0:Y8) (s0:List Qg):Rd ((List Qg)×Int×Bool) (List Qg) (List Qg):=(.next (s0++ [((a0.1, []):Qg)]))
def C6 (_:Nat) (s0:List Qg):(List Qg):=s0
def Uk (s_:X1) (d:List Y8) (k1:Nat) (k3:Nat) (a3:Y8) (s3:(List Qg)×Bool):Rd (Rd (Rd ((List Qg)×Int×Bool) ((List Qg)×Int) ((List Qg)×Int)) ((List Qg)×Int×Bool) ((List Qg)×Int)) ((List Qg)×Bool) ((List Qg)×Bool):=(bif ((nth (((Xb d)).1) k3) !=(k1:Int)) then (.next (s3.1,s3.2)) else (bif (!(Z8 (X3 s_ a3.2 s3.1) ((nth s3.1 k3).2))) then (.next (List.set s3.1 k3 ((nth s3.1 k3).1,(X3 s_ a3.2 s3.1)),true)) else (.next (s3.1,s3.2))))
def Er (_:Nat) (s3:(List Qg)×Bool):(List Qg)×Bool:=(s3.1,s3.2)
def Wi (s_:X1) (d:List Y8) (k1:Nat) (s2:(List Qg)×Int×Bool):Rd (Rd ((List Qg)×Int×Bool) ((List Qg)×Int) ((List Qg)×Int)) ((List Qg)×Int×Bool) ((List Qg)×Int):=(bif s2.2.2 then (Out.on (Xp (Uk s_ d k1) Er d 0 (s2.1,false)) (λy3=>(.next (y3.1,IntKind.i64.wrap (s2.2.1+1),y3.2)))) else (.brk (s2.1,s2.2.1)))
def Es (s_:X1) (d:List Y8) (k1:Nat) (s1:(List Qg)×Int):Rd ((List Qg)×Int×Bool) ((List Qg)×Int) ((List Qg)×Int):=(Out.on (Lh (Wi s_ d k1) (List.length d*List.length s_.2.1+2) (s1.1,s1.2,true)) (λy2=>(.next (y2.1,y2.2))))
def P6 (_:Nat) (s1:(List Qg)×Int):(List Qg)×Int:=(s1.1,s1.2)
def Wp (s_:X1) (d:List Y8):(List Qg)×Int×Bool:=(bif ((!(((Xb d)).2))|| (!(Xj s_))) then ([],0,false) else (Out.on (Xp Aq C6 d 0 []) (λy0=>(Out.on (Wb (Es s_ d) P6 ((Ji d)+1).toNat 0 (y0,0)) (λy1=>(y1.1,y1.2,true))))))
theorem EL {B:Int}:∀(x:List Int) (k:Nat) (s:Int),(∀a,a∈x->a<=B)->s<=B->∃t,Xp Wo Ap x k s= .brk t/\t<=B
 | [],k,s,_,h=>⟨s,rfl,h⟩
 | a::x,k,s,hx,h=>by
  simp only[Xp,Wo];cases hc:decide (a>s) with
  | true=>exact EL x (k+1) a (λb hb=>hx b (List.mem_cons_of_mem _ hb)) (hx a (List.mem_cons_self ..))
  | false=>exact EL x (k+1) s (λb hb=>hx b (List.mem_cons_of_mem _ hb)) h
theorem Et {d:List Y8} (h:((Xb d)).2=true):List.length ((Xb d)).1=List.length d/\List.length d<=5/\Ji d<=5:=by
 have h':=h;rw[Wk] at h';obtain ⟨h1,h2,h3⟩:=Fz h';unfold Ji;rw[Wk];obtain ⟨t,e,ht⟩:=EL (B:=5) ((Qo d)).1 0 (-1) (λa ha=>(h3 a ha).2) (by omega);refine ⟨h1,h2, ?_⟩;rw[e];exact ht
theorem EM (s_:X1) (d:List Y8) (k1:Nat):SJ s_ d (Qo d).1 (λ_=>true) (k1:Int) (Uk s_ d k1):=by
 intro k a o c hk;unfold Uk BF;rw[Tx,Wk,←XQ];simp only[bne];cases (nth (Qo d).1 k==(k1:Int))<;>rfl
section
variable {s_:X1} {d:List Y8} {k1:Nat} {o:List Qg} {p:Int}
theorem JV (hS:((Xb d)).2=true) (h:EvS d ((Xb d)).1 (λ_=>true) s_.2.1 (k1:Int) o):∃o' p',whl (Wi s_ d k1) (List.length d*List.length s_.2.1+2) (o,p,true)=some (.brk (o',p'))/\EvS d ((Xb d)).1 (λ_=>true) s_.2.1 ((k1:Int)+1) o':=by
 rw[Wk] at hS h⊢;exact Qdv (f:=Uk s_ d k1) (e:=Er) (EM s_ d k1) (λ_ _=>rfl) (λ_=>rfl) (Prod.ext rfl hS) h p
theorem Qb9 (hS:((Xb d)).2=true) (h:EvS d ((Xb d)).1 (λ_=>true) s_.2.1 (((k1:Nat)):Int) o):(whl (Wi s_ d k1) (List.length d*List.length s_.2.1+2) (o,p,true)).isSome=true:=by
 obtain ⟨o',p',h1,_⟩:=JV (p:=p) hS h;rw[h1];rfl
theorem Iz {y:List Qg×Int} (hS:((Xb d)).2=true) (h:EvS d ((Xb d)).1 (λ_=>true) s_.2.1 (((k1:Nat)):Int) o) (hy:Lh (Wi s_ d k1) (List.length d*List.length s_.2.1+2) (o,p,true)= .brk y):EvS d ((Xb d)).1 (λ_=>true) s_.2.1 ((((k1+1):Nat)):Int) y.1:=by
 obtain ⟨o',p',h1,h2⟩:=JV (p:=p) hS h;unfold Lh at hy;rw[h1] at hy;have e:(o',p')=y:=by simpa using hy
 rw[←e,Int.natCast_add];exact h2
theorem U1 (hy:Xp Aq C6 d 0 []= .brk o):EvS d ((Xb d)).1 (λ_=>true) s_.2.1 (((0:Nat)):Int) o:=by
 obtain ⟨h1,h2⟩:=Iy (L:=((Xb d)).1) (on:=λ_=>true) (fs:=s_.2.1) (g:=λ_=> []) (f:=Aq) (e:=C6) (d:=d) (λk a s=>rfl) (λj _ hj=>rfl);rw[h1] at hy;have e:(d.map λa=>((a.1,([]:List Int)):Qg))=o:=Out.brk.inj hy;rw[←e];exact h2
end
theorem BG (s_:X1) (d:List Y8):ACalls Tryz.prog 99 [.a [.h s_.1,.h s_.2.1,.i s_.2.2],.h d] (.tup [(false, [.o 0 (((Wp s_ d)).1)]),(false, [.i (((Wp s_ d)).2.1)]),(false, [.b (((Wp s_ d)).2.2)])]):=by
 refine en Qb Tryz.func99 λw0 F0 hG=> ?_
 refine sn Qb [1,2,4,5,6] [2] p0 <| tn Qb [1,2,4,5,6,7,8] [2] (pc 1 (Me d) p0) <| Qc <| Qc <| mz [(2,.p 2 0),(4,.e 0),(5,.i 0),(6,.b false),(7,.o 1152 (((Xb d)).1)),(8,.b (((Xb d)).2))] [0] [(2, [.h s_.1,.h s_.2.1,.i s_.2.2])] [] <| jn [(27,.b ((!(((Xb d)).2))|| (!(Xj s_))))] [8] [] [] (!(((Xb d)).2)) (λh1=> ?_) (λh1=> ?_) ?_
 ·have h1n:(((Xb d)).2)=false:=Ht h1;refine ru Qb [(27,.b true)] [8] [] [] (pf 0 h1n (pe 1 (show .b (!false)= .b true from rfl) p0)) ?_;exact zA (by rw[h1]<;>kernel_rfl)
 ·have h1n:(((Xb d)).2)=true:=Ka h1;have h1nsf:=Et h1n;refine rn Qb [1,2,4,5,6,7,27] [2] (pt 0 h1n (pe 1 (show .b (!true)= .b false from rfl) (pc 4 (Ug s_) p0))) ?_;exact zA (by rw[h1]<;>kernel_rfl)
 refine ck ((!(((Xb d)).2))|| (!(Xj s_))) (λh2=> ?_) (λh2=> ?_)
 ·exact sn Qb [1,2,4,5,6,7] [2] p0 <| Qk <| pz [] (show Wp s_ d=_ from X6 h2 (rfl)) (λz=> .tup [(false, [.o 0 z.1]),(false, [.i z.2.1]),(false, [.b z.2.2])])
 have h2l:((!(((Xb d)).2)))=false:=VL h2;have h2ln:(((Xb d)).2)=true:=Ka h2l;have h2lnsf:=Et h2ln;have h2r:((!(Xj s_)))=false:=UJ h2;have h2rn:(Xj s_)=true:=Ka h2r;refine Qi <| sn Qb [1,2,4,5,6,7,9] [2] p0 <| Qc <| tn Qb [1,2,4,5,6,7,9,10] [2] p0 <| mz [(9,.one (.slc (.own true 1856) 2 [])),(10,.i 0)] [27] [] [] <| wT 1 0 .sh d (λhw3 hl4=> ?_)
 refine AK Aq C6 d [] (λk0 s0=> [(9,.o 147206 s0),(10,.i (k0:Int))]) [9,10] (λy0=> [(9,.o 147356 y0)]) [9,10] (λk0 s0=>List.length s0<=k0) (Yg [(1856,147206)] (by kernel_rfl)) (by simp) (λk0 s0 hk0 U=> ?_) (λk0 s0 hk0 U=> ?_) (λy0 hD0=> ?_)
 ·have hA0_0:=U.2;obtain ⟨a0,V⟩:=Xs (l:=d) (i:=k0) hk0;refine Qc <| su Qb [(33,.b true)] [] [] [] (pl 2 d (pe 3 (zB ((k0:Int)<(d.length:Int))) p0)) <| ckT <| Qi <| Qc <| Qx <| wT 9 0 (.own true 147206) s0 (λhw5 hl6=> ?_)
  refine ru Qb [(9,.one (.slc (.own true 2880) 2 ((eL s0)++ [[.s a0.1,.slc 1 []]])))] [9,33] [] [] (pn 3 V (pa s0 [((a0.1, []):Qg)] p0)) ?_;refine eqn [(9,.o 2880 (s0++ [((a0.1, []):Qg)]))] [9] [] [] (by rw[show ((eL s0)++ [[.s a0.1,.slc 1 []]])=(eL (s0++ [((a0.1, []):Qg)])) from Uw (rfl) (rfl)];first | done | kernel_rfl) ?_;refine rn Qb [1,2,4,5,6,7,9,10] [2] (pe 1 (Js (Qq k0 (by omega))) p0) ?_;exact Exists.intro (s0++ [((a0.1, []):Qg)]) (And.intro (Yg [(2880,147206)] (by kernel_rfl)) ⟨Qw V (rfl) U.1,by first|omega|(simp;omega) | simp⟩)
 ·have hA0_0:=U.2;exact Qc <| su Qb [(33,.b false)] [] [] [] (pl 2 d (pe 3 (zC ((k0:Int)<(d.length:Int))) p0)) <| ckF <| Xe <| Exists.intro _ (And.intro (Yg [(147206,147356)] (by kernel_rfl)) (Xy hk0 (rfl) U.1))
 refine su Qb [(11,.i 0)] [] [] [] p0 <| Qc <| su Qb [(12,.i 0)] [] [] [] p0 <| Qff (Es s_ d) P6 ((Ji d)+1).toNat (y0,0) (λk1 s1=> [(9,.o 147356 s1.1),(11,.i s1.2),(12,.i (k1:Int))]) [9,11,12] (λ_ _=> []) [] (λy1=> [(9,.o 147356 y1.1),(11,.i y1.2)]) [1,2,7,9,11,12] (λ_=> []) [2] (λk1 s1=>EvS d ((Xb d)).1 (λ_=>true) s_.2.1 (((k1:Nat)):Int) s1.1/\List.length s1.1=List.length d) wf0 ⟨(by first | exact U1 hD0 | exact U1 hD0.1 | exact U8 (fs:=s_.2.1) (U1 hD0) | exact U8 (fs:=s_.2.1) (U1 hD0.1)),(by first | exact U1 hD0 | exact U1 hD0.1 | exact U8 (fs:=s_.2.1) (U1 hD0) | exact U8 (fs:=s_.2.1) (U1 hD0.1))⟩ (λk1 s1 hk1 hI1=> ?_) (λk1 s1 hk1 hI1=> ?_) (λy1 hD1=> ?_)
 ·have hA1_0:=hI1.2.1;have hA1_1:=hI1.2.2;refine Qc <| su Qb [(49,.b true)] [] [] [] (pc 2 (Br d) (pe 3 (zB ((k1:Int)<=(Ji d))) p0)) <| ckT <| Qi <| Qc <| Qx <| su Qb [(13,.b true)] [49] [] [] p0 <| blw (λ(s2:(List Qg)×Int×Bool)=> [(9,.o 147356 s2.1),(11,.i s2.2.1),(13,.b s2.2.2)]) [9,11,13] (λs2=> []) [] (λ(y2:(List Qg)×Int)=> [(9,.o 147356 y2.1),(11,.i y2.2)]) [9,11,13] (λy2=> []) [] (λ(k2:Nat) (s2:(List Qg)×Int×Bool)=>whl (Wi s_ d k1) k2 s2=some (Lh (Wi s_ d k1) (List.length d*List.length s_.2.1+2) (s1.1,s1.2,true))/\List.length s2.1=List.length d) (λ(y2:(List Qg)×Int)=>(Lh (Wi s_ d k1) (List.length d*List.length s_.2.1+2) (s1.1,s1.2,true))= .brk y2) (List.length d*List.length s_.2.1+2) (s1.1,s1.2,true) wf0 ⟨M6 (Qb9 (by assumption) (by assumption)),(by assumption)⟩ (λ_ h=>M7 h.1) (λk2 s2 hI2=> ?_) (λy2 hD2=> ?_)
  ·have hA2_0:=hI2.2;refine Qc <| su Qb [(52,.b s2.2.2)] [] [] [] p0 <| ck s2.2.2 (λh7=> ?_) (λh7=> ?_)
   ·refine Qi <| Qx <| su Qb [(13,.b false)] [13,52] [] [] p0 <| sn Qb [1,2,4,5,6,7,9,11,12,13] [2] p0 <| tn Qb [1,2,4,5,6,7,9,11,12,13,14] [2] p0 <| mz [(11,.i (IntKind.i64.wrap (s2.2.1+1))),(14,.i 0)] [11] [] [] <| Qdo (Uk s_ d k1) Er d (s2.1,false) (λk3 s3=> [(9,.o 147356 s3.1),(13,.b s3.2),(14,.i (k3:Int))]) [9,13,14] (λy3=> [(9,.o 147356 y3.1),(13,.b y3.2)]) [9,13,14] (λ_ s3=>List.length s3.1=List.length s2.1) (λy3=>List.length y3.1=List.length s2.1) wf0 (by simp) (λk3 s3 hk3 hI3=> ?_) (λk3 s3 hk3 hI3=> ?_) (λy3 hD3=> ?_)
    ·have hA3_0:=hI3.2;obtain ⟨a3,hx3⟩:=Xs (l:=d) (i:=k3) hk3;refine Qc <| su Qb [(58,.b true)] [] [] [] (pl 2 d (pe 3 (zB ((k3:Int)<(d.length:Int))) p0)) <| ckT <| Qi <| Qc <| Qx <| Qc <| wT 7 0 (.own true 1152) (((Xb d)).1) (λhw9 hl10=> ?_)
     have hx8:=ng (((Xb d)).1) k3;refine sn Qb [1,2,4,5,6,7,9,11,12,13,14,66] [2] (pN 2 hx8 p0) <| ck ((nth (((Xb d)).1) k3) !=(k1:Int)) (λh11=> ?_) (λh11=> ?_)
     ·have h11d:=L5 h11;refine Xe <| qn Qb [1,2,4,5,6,7,9,11,12,13,14] [2] (pe 1 (Js (Qq k3 (by omega))) p0) ?_
      exact xw (s3.1,s3.2) ⟨Qw hx3 (X6 h11 (rfl)) hI3.1,(by first|omega|(simp only[List.length_set];omega))⟩
     have h11d:=W9 h11;refine Qi <| tN Qb Zf [1,2,4,5,6,7,9,11,12,13,14,15] [2] (pn 3 hx3 (pc 7 (G2 s_ a3.2 s3.1) p0)) <| wT 9 0 (.own true 147356) s3.1 (λhw13 hl14=> ?_)
     have hx12:=ng s3.1 k3;refine tu Qb [(15,.o 4736 (X3 s_ a3.2 s3.1)),(82,.b (!(Z8 (X3 s_ a3.2 s3.1) ((nth s3.1 k3).2))))] [58] [] [] (pN 3 hx12 (pc 6 (Em (X3 s_ a3.2 s3.1) ((nth s3.1 k3).2)) p0)) <| ck (!(Z8 (X3 s_ a3.2 s3.1) ((nth s3.1 k3).2))) (λh15=> ?_) (λh15=> ?_)
     ·have h15n:(Z8 (X3 s_ a3.2 s3.1) ((nth s3.1 k3).2))=false:=Ht h15;refine su Qb [(9,.one (.slc (.own true 147356) 2 (setRow (eL s3.1) k3 1 [.h (X3 s_ a3.2 s3.1)])))] [9,15,82] [] [] (pN 3 hx12 p0) <| eqn [(9,.o 147356 (List.set s3.1 k3 ((nth s3.1 k3).1,(X3 s_ a3.2 s3.1))))] [9] [] [] (by rw[Zv (y:=((nth s3.1 k3).1,(X3 s_ a3.2 s3.1))) hx12 rfl]<;>kernel_rfl) ?_
      refine ru Qb [(13,.b true)] [13] [] [] p0 ?_;refine rn Qb [1,2,4,5,6,7,9,11,12,13,14] [2] (pe 1 (Js (Qq k3 (by omega))) p0) ?_;exact xw (List.set s3.1 k3 ((nth s3.1 k3).1,(X3 s_ a3.2 s3.1)),true) ⟨Qw hx3 (Qy h11 (X6 h15 (rfl))) hI3.1,(by first|omega|(simp only[List.length_set];omega))⟩
     have h15n:(Z8 (X3 s_ a3.2 s3.1) ((nth s3.1 k3).2))=true:=Ka h15;refine Qi <| rn Qb [1,2,4,5,6,7,9,11,12,13,14] [2] (pe 1 (Js (Qq k3 (by omega))) p0) ?_
     exact xw (s3.1,s3.2) ⟨Qw hx3 (Qy h11 (Qy h15 (rfl))) hI3.1,(by first|omega|(simp only[List.length_set];omega))⟩
    ·have hA3_0:=hI3.2;exact Qc <| su Qb [(58,.b false)] [] [] [] (pl 2 d (pe 3 (zC ((k3:Int)<(d.length:Int))) p0)) <| ckF <| Xe <| xw (s3.1,s3.2) ⟨Xy hk3 (rfl) hI3.1,by first|omega|(simp only[List.length_set];omega)⟩
    have hD3_0:=hD3.2;exact xw (y3.1,IntKind.i64.wrap (s2.2.1+1),y3.2) ⟨wn hI2.1 (X6 h7 (Ur hD3.1 (rfl))),(by first|omega|(simp only[List.length_set];omega))⟩
   exact Xe <| xw _ (wb hI2.1 (Qy h7 (rfl)))
  refine rn Qb [1,2,4,5,6,7,9,11,12] [2] (pe 1 (Js (Qq k1 (by omega))) p0) ?_;exact xw (y2.1,y2.2) ⟨K1 hk1 (Ur hD2 (rfl)) hI1.1,(by first | exact Iz (by assumption) (by assumption) (by assumption) | exact U8 (fs:=s_.2.1) (Iz (by assumption) (by assumption) (by assumption))),(by first | exact Iz (by assumption) (by assumption) (by assumption) | exact U8 (fs:=s_.2.1) (Iz (by assumption) (by assumption) (by assumption)))⟩
 ·have hA1_0:=hI1.2.1;have hA1_1:=hI1.2.2;exact Qc <| su Qb [(49,.b false)] [] [] [] (pc 2 (Br d) (pe 3 (zC ((k1:Int)<=(Ji d))) p0)) <| ckF <| Xe <| xw _ (Cq hk1 (rfl) hI1.1)
 exact sn Qb [4,5,6] [] p0 <| Qk <| pz [] (show Wp s_ d=_ from Qy h2 (Ur hD0 (Ur hD1 (rfl)))) (λz=> .tup [(false, [.o 0 z.1]),(false, [.i z.2.1]),(false, [.b z.2.2])])
def Jx (s_:X1) (d:List Y8):(List Qg)×Bool:=(((Wp s_ d)).1,((Wp s_ d)).2.2)
theorem ZB (s_:X1) (d:List Y8):ACalls Tryz.prog 57 [.a [.h s_.1,.h s_.2.1,.i s_.2.2],.h d] (.tup [(false, [.o 0 (((Jx s_ d)).1)]),(false, [.b (((Jx s_ d)).2)])]):=by
 refine en Qb Tryz.func57 λw0 F0 hG=> ?_
 exact sn Qb [1,2,4,5] [2] p0 <| tn Qb [4,5,6,8] [] (pc 2 (BG s_ d) p0) <| tu Qb [(4,.o 768 (((Wp s_ d)).1)),(5,.b (((Wp s_ d)).2.2))] [0,1] [] [] p0 <| Qk <| pz [] (show Jx s_ d=(((Wp s_ d)).1,((Wp s_ d)).2.2) from rfl) (λz=> .tup [(false, [.o 0 z.1]),(false, [.b z.2])])
end
section
open Go.RowKit
theorem Mi (v : ByteArray) (l : List ByteArray) : Xd l v = true ↔ v ∈ l := by
  unfold Xd Hy
  have key : ∀ (l : List ByteArray) (k : Nat), (0 : Int) ≤ ((Xp (Vv v) Ui l k ()).on λ_ => -1) ↔ v ∈ l := by
    intro l
    induction l with
    | nil => intro k; simp [Xp, Out.on]
    | cons a l ih =>
      intro k
      simp only [Xp, Vv]
      have hab : (v.toList == a.toList) = decide (v = a) := toList_inj
      cases hc : (v.toList == a.toList) with
      | true =>
        obtain rfl : v = a := by rw [hc] at hab; exact of_decide_eq_true hab.symm
        simp [Out.on]
      | false =>
        have h : v ≠ a := by rw [hc] at hab; exact of_decide_eq_false hab.symm
        simp only [cond_false]
        refine (ih (k + 1)).trans ?_
        simp [h]
  exact decide_eq_true_iff.trans (key l 0)
theorem Ot (d : List Y8) : Yn d = d.map (·.1) := by
  unfold Yn
  rw [Cr (f := Ff) (g := λa : Y8 => a.1) (λ_ _ _ => rfl)]
  simp [Out.on, Fg]
theorem Mj {d : List Y8} {i : Nat} {a : Y8} (h : d[i]? = some a) : Xd (Yn d) a.1 = true := by
  rw [Mi, Ot]
  exact List.mem_map.2 ⟨a, List.mem_of_getElem? h, rfl⟩
/-! ### the greatest stratum -/
theorem IP (x : List Int) : ∀ (n k : Nat) (s : Int), k + 1 + n = x.length → Wb (W6 x) Bq n k s = .brk ((x.drop (k + 1)).foldl max s)
  | 0, k, s, h => by rw [List.drop_eq_nil_of_le (by omega)]; rfl
  | n + 1, k, s, h => by
    have hg : x[k + 1]? = some (nth x (k + 1)) := Wr (by omega)
    rw [VK hg]
    simp only [Wb, W6, List.foldl_cons]
    exact IP x n (k + 1) _ (by omega)
theorem XV : ∀ (x : List Int) (k : Nat) (s : Int), Xp Wo Ap x k s = .brk (x.foldl max s)
  | [], k, s => rfl
  | a :: x, k, s => by
    simp only [Xp, Wo, List.foldl_cons]
    by_cases h : a > s
    · rw [decide_eq_true h, cond_true, show max s a = a by omega]; exact XV x (k + 1) a
    rw [decide_eq_false h, cond_false, show max s a = s by omega]; exact XV x (k + 1) s
theorem P7 (d : List Y8) : Ji d = Jh d := by
  unfold Ji Jh
  rw [Wk, XV]
  simp only [Out.on]
  cases hs : (Qo d).2 with
  | false =>
    have : (Qo d).1 = [] := by
      unfold Qo at hs ⊢
      cases hv : Ja d with
      | false => rfl
      | true =>
        rw [hv] at hs
        simp only [Bool.not_true, cond_false] at hs ⊢
        have h5 := Fb hv
        have hw := G1 (d := d) (f := Uc d) (e := Ud) (F := Vt d) (λ_ _ _ => rfl) (λ_ _ => rfl) (λ_ => rfl) (by omega) (d.length * d.length + 3) (List.replicate d.length 0) true (Bo _).1 (Bo _).2
        have hsome : (Sf (Jr d) d.length d.length (d.length * d.length + 3) (true, List.replicate d.length 0)).isSome = true := by
          have := D2 d h5
          rw [Int.toNat_natCast, hw, Option.isSome_map] at this
          exact this
        obtain ⟨r, hr⟩ := Option.isSome_iff_exists.1 hsome
        unfold Lh at hs ⊢
        rw [Int.toNat_natCast, hw, hr] at hs ⊢
        cases r with
        | none => rfl
        | some M => simp [Qgl, Out.on] at hs
    rw [this]; rfl
  | true =>
    obtain ⟨h1, h2, h3⟩ := Fz hs
    simp only [Bool.not_true, Bool.false_or]
    generalize (Qo d).1 = x at h3
    cases x with
    | nil => rfl
    | cons a x =>
      have h0 := (h3 a (List.mem_cons_self ..)).1
      have e : ((((a :: x).length : Nat) : Int) == (0 : Int)) = false := by
        rw [beq_eq_false_iff_ne, List.length_cons]; omega
      rw [e, cond_false]
      unfold Ep
      rw [IP _ _ _ _ (by simp; omega)]
      simp only [Out.on, List.foldl_cons, Nat.zero_add, List.drop_succ_cons, List.drop_zero]
      have e2 : nth (a :: x) 0 = a := rfl
      rw [show max (-1) a = a by omega, e2]
/-! ### the evaluation -/
theorem Qha (s : X1) (d : List Y8) (k1 k : Nat) (a : Y8) (t : List Qg × Bool) (h : d[k]? = some a) : Uk s d k1 k a t = Vi s d (Yn d) k1 k a t := by
  unfold Uk Vi
  rw [Mj h, Wk, ← XQ, Tx, WJ]
  simp
theorem Qhb (s : X1) (d : List Y8) (k1 : Nat) : Wi s d k1 = Je s d (Yn d) k1 := by
  funext t
  unfold Wi Je
  rw [M9 (f := Uk s d k1) (g := Vi s d (Yn d) k1) (e := Er) (e' := Hc) (λ_ _ => rfl) d 0 _ (λi a t h => by rw [Nat.zero_add]; exact Qha s d k1 i a t h)]
theorem Qhc (s : X1) (d : List Y8) : Wp s d = X2 s d [] (Yn d) := by
  unfold Wp X2
  rw [Wk, Ix, P7]
  rw [M9 (f := Aq) (g := Zp [] (Yn d)) (e := C6) (e' := Jd) (λ_ _ => rfl) d 0 _ (λi a t h => by unfold Aq Zp; rw [Mj h]; rfl)]
  congr 1
  congr 1
  funext y
  rw [show Es s d = J3 s d (Yn d) from by funext k t; unfold Es J3; rw [Qhb]]
  rfl
theorem XW (s : X1) (d : List Y8) : Jx s d = Zc s d := by
  unfold Jx Zc
  rw [Qhc]
theorem BH {s : X1} {d : List Y8} {names : List ByteArray} {r : List Qg} (h : (X2 s d r names).2.2 = true) : List.length d ≤ 5 ∧ Q7 s = true ∧ (X2 s d r names).1.map (·.1) = d.map (·.1) ∧ ∀ j, j < d.length → onD d names j = true → ∃ p : Yh → Bool, (nth (X2 s d r names).1 j).2 = sel s.2.1 (λf => f.1) p := by
  unfold X2 at h ⊢
  cases hc : ((!(((Qo d)).2)) || (!(Q7 s))) with
  | true => rw [hc] at h; simp at h
  | false =>
    have hs : ((Qo d)).2 = true := Ka (VL hc)
    have hv : Q7 s = true := Ka (UJ hc)
    simp only [cond_false]
    obtain ⟨h1, h2⟩ := Iy (L := ((Qo d)).1) (on := onD d names) (fs := s.2.1) (g := Cb r names) (f := Zp r names) (e := Jd) (d := d) (λk a s => by
      unfold Zp Cb
      cases Xd names a.1 <;> rfl) (λj _ hj => by unfold onD at hj; unfold Cb; rw [hj]; rfl)
    rw [h1]
    have key : ∀ (n k : Nat) (o : List Qg) (p : Int), EvS d ((Qo d)).1 (onD d names) s.2.1 (((k : Nat)) : Int) o → ∃ o' p', Wb (J3 s d names) Hd n k (o, p) = .brk (o', p') ∧ EvS d ((Qo d)).1 (onD d names) s.2.1 (((k + n : Nat)) : Int) o' := by
      intro n
      induction n with
      | zero => intro k o p ho; exact ⟨o, p, rfl, ho⟩
      | succ n ih =>
        intro k o p ho
        obtain ⟨o1, p1, g1, g2⟩ := Ao (p := p) hs ho
        obtain ⟨o2, p2, g3, g4⟩ := ih (k + 1) o1 p1 (by rw [Int.natCast_add]; exact g2)
        refine ⟨o2, p2, ?_, by rw [show k + (n + 1) = k + 1 + n by omega]; exact g4⟩
        simp only [Wb]
        unfold J3 Lh
        rw [g1]
        exact g3
    obtain ⟨o, p, g1, g2⟩ := key (Int.toNat (Jh d + 1)) 0 _ 0 h2
    simp only [Out.on, Jd]
    rw [g1]
    exact ⟨(Fz hs).2.1, hv, g2.names, λj hj hon => g2.some_ j hj hon⟩
theorem Ou {s : X1} {d : List Y8} (h : (Zc s d).2 = true) : List.length d ≤ 5 ∧ Q7 s = true ∧ (Zc s d).1.map (·.1) = d.map (·.1) ∧ ∀ x, x ∈ (Zc s d).1 → ∃ p : Yh → Bool, x.2 = sel s.2.1 (λf => f.1) p := by
  unfold Zc at h ⊢
  obtain ⟨h1, h2, h3, h4⟩ := BH h
  refine ⟨h1, h2, h3, λx hx => ?_⟩
  obtain ⟨i, hi⟩ := List.getElem?_of_mem hx
  have hlen : (X2 s d [] (Yn d)).1.length = d.length := by have := congrArg List.length h3; simpa using this
  have hi' : i < (X2 s d [] (Yn d)).1.length := (List.getElem?_eq_some_iff.1 hi).1
  have hil : i < d.length := by omega
  have := h4 i hil (by unfold onD; exact Mj (Wr hil))
  rw [Gw hi] at this
  exact this
def JW (G : Nat → Prop) (L : List Nat) : Inj := ⟨G, λk => if k = 63 then L else [], λ_ => 0⟩
theorem IQ {P : Program} {tt : List (Nat × TI)} (htt : De P tt = true) {f : Nat} {fn : Func} {c : Code} (hf : P.funcs[f]? = some fn) (hb : fn.body = some c) (hok : Ee P f) {n : Nat} {l l' : List (List PV)} {args : List AV}
    (hn : args.length + 1 ≤ fn.ntmps) (hk : ∀ x, x ∈ args → ∀ c, c ∈ x.cells → c.key = none ∧ c.bkeys = []) {t : Nat} (hr : fn.results.toList = [.tmp t])
    (h : ∀ w0 F0, GoodAt P w0 → AWP P fn.ntmps w0 F0 c (λe s => (e = .ret ∨ e = .normal) ∧ ∃ k, get s.tm t = some (.one (.slc (.own false k) n l'))) (YY (.one (.slc (.own false 63) n l) :: args))) : ATake P f n l args true false l' := by
  refine ⟨hok, λw F G L v vals hgood hFG hGF hGs hnd hLG hrow hargs => calls_of_wp hf hb ?_⟩
  have hlen := hargs.length
  have hGF := hGF rfl
  have hL0 : (JW G L).L 63 = L := by show (if 63 = 63 then L else []) = L; simp
  refine wp_mono (h ⟨w, λb => b ∈ L, none⟩ G hgood (JW G L) _ w ?_) ?_
  · have hLk : ∀ k b, b ∈ (JW G L).L k → k = 63 ∧ b ∈ L := λk b hm => by
      have hm : b ∈ (if k = 63 then L else []) := hm
      split at hm
      · rename_i e; exact ⟨e, hm⟩
      simp at hm
    refine { below := Base.Keeps.refl _, nodef := rfl, size := ?_, fl := λb hb => ⟨hGs b hb,.inl hb⟩, f0 := λb hb => hb, nd := λk => ?_, lo := λk b hb => ⟨.inr (hLk k b hb).2, hLG b (hLk k b hb).2⟩, dj := λk k' b hb hb' => (hLk k b hb).1.trans (hLk k' b hb').1.symm, bo := λk c hc => by simp [YY, get] at hc, nb := .inl rfl, cb := (λb hb => by cases hb), bi := λk k' c c' hc => by simp [YY, get] at hc, tm := λt v' hv => ?_ }
    · simp; omega
    · show (if k = 63 then L else [] : List Nat).Nodup
      split
      · exact hnd
      exact List.nodup_nil
    obtain ⟨_, ht⟩ := QS hv
    have hall : All2 (AR (JW G L) w) (v :: vals) (.one (.slc (.own false 63) n l) :: args) := by
      refine .cons ?_ ?_
      · show OwnTop G ((JW G L).L 63) w v n l
        rw [hL0]
        exact OwnTop.keep hrow (λb hb => ⟨hFG b hb, rfl⟩) λ_ _ => rfl
      have key : ∀ {vs : List Value} {ys : List AV}, All2 (AR (Td G) w) vs ys → (∀ x, x ∈ ys → ∀ c, c ∈ x.cells → c.key = none ∧ c.bkeys = []) → All2 (AR (JW G L) w) vs ys := by
        intro vs ys ha
        induction ha with
        | nil => intro _; exact .nil
        | cons h1 _ ih =>
          intro hx
          refine .cons (h1.keep λc hc => ?_) (ih λx hm => hx x (List.mem_cons_of_mem _ hm))
          obtain ⟨e1, e2⟩ := hx _ (List.mem_cons_self ..) c hc
          exact ⟨λb hb => ⟨hb, rfl⟩, (λk hk => by rw [e1] at hk; cases hk), (λk hk => by rw [e2] at hk; simp at hk)⟩
      exact key hargs hk
    obtain ⟨u, hu, hr⟩ := hall.get' ht
    have hlt : t < (v :: vals).length := (List.getElem?_eq_some_iff.1 hu).1
    have : ((v :: vals).toArray ++ Array.replicate (fn.ntmps - (v :: vals).toArray.size) undef).getD t undef = u := by
      rw [Array.getD_eq_getD_getElem?, Array.getElem?_append_left (by simpa using hlt)]
      simp at hu ⊢
      rw [hu]; rfl
    rw [this]
    exact hr
  rintro e a' w' ⟨J', s', hR, he, k, hkk⟩
  have hres : ∃ u, (results fn a'.tmps).run P w' = .ok u w' ∧ AR J' w' u (.one (.slc (.own false k) n l')) := by
    obtain ⟨us, hrun, hall⟩ := Tn (P := P) htt hR (rs := [.tmp t]) (vs := [.one (.slc (.own false k) n l')]) (by simp [AA, hkk])
    rw [← hr] at hrun
    have hm : (fn.results.mapM (ZV a'.tmps)).run P w' = .ok us.toArray w' := by
      rw [Array.mapM_eq_mapM_toList]
      simp [hrun]
    have hgen : (results fn a'.tmps).run P w' = .ok (if h : us.toArray.size = 1 then us.toArray[0] else .tuple us.toArray) w' := by
      rw [ZW]
      simp only [Sem.run_bind, hm, Result.andThen_ok, Sem.run_pure]
    cases hall with
    | cons h1 h2 =>
      cases h2
      exact ⟨_, by rw [hgen]; simp, h1⟩
  obtain ⟨u, h1, h2⟩ := hres
  have hT : Qhx F L w n false l' (.returned u) w' := by
    refine ⟨u, rfl, λm hm hmL => ⟨hR.below.os, hR.below.tape, hR.below.output, hR.below.size, λj hj => hR.below.block j (by show j < w.heap.size; omega) λhx => by have := hmL j hx; omega⟩, λb hb hn => hR.below.block b hb hn, J'.L k, hR.nd k, λb hb => ?_, ?_⟩
    · obtain ⟨h3, h4, _⟩ := hR.lo k b hb
      exact ⟨h4, h3⟩
    have h2 : OwnTop J'.F (J'.L k) w' u n l' := h2
    refine OwnTop.keep h2 (λb hb => ⟨?_, rfl⟩) λ_ _ => rfl
    obtain ⟨h3, h4⟩ := hR.fl b hb
    rcases h4 with h4 | h4 | h4
    · exact .inl (hGF b h4)
    · exact .inr ⟨.inl h4, h3, λhm => (hR.lo k b hm).2.2 hb⟩
    exact .inr ⟨.inr h4, h3, λhm => (hR.lo k b hm).2.2 hb⟩
  rcases he with rfl | rfl
  · exact ⟨hR.nodef, u, h1, hT⟩
  exact ⟨hR.nodef, u, h1, hT⟩
theorem D3 {a:Act} {t u:Nat} {v:Value} (ht:t<a.tmps.size):(a.put (some t) v).tmps.getD u undef=if u=t then v else a.tmps.getD u undef:=by
 simp only[Act.put,Array.getD_eq_getD_getElem?,Array.getElem?_setIfInBounds];by_cases h:u=t
 . subst h;simp[ht]
 simp[h,Ne.symm h]
theorem MY {a b:Nat}:Nat.beq a b=false↔¬a=b:=by
 cases h:Nat.beq a b with
 | true=>simp[Nat.eq_of_beq_eq_true h]
 | false=>simp;exact Nat.ne_of_beq_eq_false h
theorem Qca {a:Act} {t:Nat} {v:Value} (h:a.tmps.getD t undef=v) (ht:t<a.tmps.size):a.put (some t) v=a:=by
 have e:a.tmps.setIfInBounds t v=a.tmps:=by
  apply Array.ext
  . simp
  intro i h1 h2;rw[Array.getElem_setIfInBounds];split
  . rename_i e;subst e;rw[←h,Array.getD_eq_getD_getElem?,Array.getElem?_eq_getElem ht];rfl
  rfl
 show ({a with tmps:=a.tmps.setIfInBounds t v}:Act)=a;rw[e]
theorem IR:∀{vs:List Value} {cs:List C},Hl vs cs=true->∃ps:List PV,ps.length=vs.length/\∀(X:Nat->Prop) (w:World),VC X w vs ps
 | [], [],_=>⟨[],rfl,λ_ _=> .nil⟩
 | [],_::_,h=>by simp[Hl] at h
 | _::_, [],h=>by simp[Hl] at h
 | v ::vs,c::cs,h=>by
   simp only[Hl,Bool.and_eq_true] at h;obtain ⟨ps,h1,h2⟩:=IR h.2;have hz:=h.1;unfold Pa at hz;split at hz
   . rename_i k _ _ _;simp only[Bool.and_eq_true,decide_eq_true_eq] at hz;obtain ⟨⟨rfl,rfl⟩,rfl⟩:=hz;exact ⟨.int k 0::ps,by simp[h1],λX w=> .cons (.int (by cases k<;>simp[InR,IntKind.min,IntKind.max,IntKind.bits,IntKind.signed])) (h2 X w)⟩
   . rename_i b _;exact ⟨.bool b::ps,by simp[h1],λX w=> .cons (.bool b) (h2 X w)⟩
   . rename_i s _;have hs:s.size=0:=by simp only[Bool.and_eq_true] at hz;exact Nat.eq_of_beq_eq_true hz.1
     exact ⟨.str s::ps,by simp[h1],λX w=> .cons (.str (by rw[hs];exact Nat.zero_le _)) (h2 X w)⟩
   . rename_i n;exact ⟨.slc n []::ps,by simp[h1],λX w=> .cons (.emp none n (Nat.zero_le _)) (h2 X w)⟩
   cases hz
theorem IS {X:Nat->Prop} {w:World} {n:Nat} {vs:List Value} {ps:List PV} (h:VC X w vs ps) (hn:ps.length=n):∀m,VR X w n (List.replicate m vs).flatten (List.replicate m ps)
 | 0=> .nil n
 | m+1=>by
   rw[List.replicate_succ,List.replicate_succ,List.flatten_cons];exact .cons h hn (IS h hn m)
theorem MZ {z:Array Value} {m:Nat}:(Builtin.zeroCells z m).toList=(List.replicate m z.toList).flatten:=by
 have key:∀(l:List Value) (m:Nat),(List.range (m*l.length)).map (λi=>l[i % l.length]!)=(List.replicate m l).flatten:=by
  intro l m
  induction m with
  | zero=>simp
  | succ m ih=>
    rw[Nat.succ_mul,List.range_add,List.map_append,ih,List.replicate_succ',List.flatten_append]
    congr 1
    simp only[List.map_map,List.flatten_cons,List.flatten_nil,List.append_nil];apply List.ext_getElem
    . simp
    intro i h1 h2;simp only[List.length_map,List.length_range] at h1;simp[Nat.mul_add_mod_self_right,Nat.mod_eq_of_lt h1,h2]
 rw[←key z.toList m];unfold Builtin.zeroCells;rw[Array.toList_map,Array.toList_range];apply List.map_congr_left;intro i _;simp only[Array.length_toList,getElem!_def,Array.getElem?_toList]
theorem Qcb {vs:List Value} {cs:List C} (h:Hl vs cs=true):∀v,v∈vs->v.oneCell'=true:=by
 induction vs generalizing cs with
 | nil=>intro v hv;simp at hv
 | cons v vs ih=>
   cases cs with
   | nil=>simp[Hl] at h
   | cons c cs=>
     simp only[Hl,Bool.and_eq_true] at h;intro u hu;rcases List.mem_cons.1 hu with rfl | hu
     . have hz:=h.1;unfold Pa at hz;split at hz<;>first | rfl | cases hz
     exact ih h.2 u hu
section
variable {P:Program} {N:Nat} {w0:Base} {F0:Nat->Prop} {J:Inj} {a:Act} {w:World} {s:St} {Q:Exit->St->Prop}
theorem Rel.aside (h:Rel N w0 F0 J a w s) {d:Nat} (hd:d<N) (hn:get s.tm d=none) (v:Value):Rel N w0 F0 J (a.put (some d) v) w s:=
 (h.pure (some d) (λd' e=>by cases e;exact hd) (.one .dead) v (λ_=>trivial)).less (λt x hx=>by
  show get (ins d _ s.tm) t=some x;rw[Ib,if_neg (λe=>by subst e;rw[hn] at hx;cases hx)];exact hx) (λ_ _ h=>h)
theorem SK {tt:List (Nat×TI)} (htt:De P tt=true) {sty ety z1:Nat} {z2:List C} {z3:List LK} {ti:TI} (g1:get tt sty=some ⟨.sli ety,z1,z2,z3⟩) (g2:get tt ety=some ti)
 {g cap m i n:Nat} {cur:Array Value} {e:TypeId} (hn:ti.size=n) (hg:w.heap[g]? =some (.cells cur e (0,0))) (hs:cur.size=cap*n) (hi:i<m) (hm:m<=cap) (ty:TypeId):
 ∃ zs:List Value,∃ps:List PV,zs.length=n/\ps.length=n/\(∀(X:Nat->Prop) (w:World),VC X w zs ps)/\
   (Builtin.clear_ #[sty] ty #[.slice (some ⟨g,i*n,none⟩) (m-i) (cap-i)]).run P w= .ok (.tuple #[]) (w.setRow g (cur.toList.take (i*n)++(List.replicate (m-i) zs).flatten++cur.toList.drop (i*n+(m-i)*n)).toArray):=by
 obtain ⟨inf,z,hI,hsz,_,hz,hzs,hzo⟩:=(Y7 htt g2).info;obtain ⟨ps,p1,p2⟩:=IR hzo;have hu:=(Y7 htt g1).sli;have hzl:z.cells.toList.length=n:=by simpa [hn] using hzs
 refine ⟨z.cells.toList,ps,hzl,by rw[p1,hzl],p2, ?_⟩;obtain ⟨q,hq⟩:∃q,m-i=q+1:=⟨m-i-1,by omega⟩
 have hfl:((List.replicate (m-i) z.cells.toList).flatten).length=(m-i)*n:=by
  rw[List.length_flatten,List.map_replicate,hzl];simp
 have h3:i*n+(m-i)*n<=cap*n:=by rw[←Nat.add_mul];exact Nat.mul_le_mul_right n (by omega)
 have hst:=run_storeCells_at P g (i*n) e ((List.replicate (m-i) z.cells.toList).flatten) 0 cur w hg (by rw[hfl,hs];simpa using h3) (λv hv=>by
  obtain ⟨l,hl,hv⟩:=List.mem_flatten.1 hv;rw[List.eq_of_mem_replicate hl] at hv;exact Qcb hzo v hv)
 simp only[Nat.add_zero,hfl] at hst;rw[hq] at hst⊢;simp[Builtin.clear_,run_underlying hu,zeroValue,Wj hI,hz,MZ,hst]
theorem BI {tt:List (Nat×TI)} (htt:De P tt=true) {id:Nat} {ops:Array Oper} {t0 t5 d1 d2 d3 sty ety z1:Nat} {z2:List C} {z3:List LK} {ti:TI} {y1 y2 y3 y4:TypeId} {q1 q2 q3 q4:String} {f1 f2 f3 f4:Array Edge}
 (hops:ops= #[⟨some d1,.move (.tmp t0),y1,q1,f1,none⟩,⟨some d2,.move (.tmp t5),y2,q2,f2,none⟩,⟨some d3,.slice sty (.tmp d1) (some (.tmp d2)) none none,y3,q3,f3,none⟩,⟨none,.call {callee:= .builtin .clear,args:= #[.tmp d3],argTypes:= #[sty]},y4,q4,f4,none⟩])
 (hN:(Nat.blt d1 N&&Nat.blt d2 N&&Nat.blt d3 N&&Nat.blt t0 N&& !(Nat.beq d1 t0)&& !(Nat.beq d1 t5)&& !(Nat.beq d2 t0)&& !(Nat.beq d2 t5)&& !(Nat.beq d3 t0)&& !(Nat.beq d3 t5)&& !(Nat.beq d1 d2)&& !(Nat.beq t0 t5))=true)
 (g1:get tt sty=some ⟨.sli ety,z1,z2,z3⟩) (g2:get tt ety=some ti) {k n:Nat} {l:List (List PV)} (hk:get s.tm t0=some (.one (.slc (.own false k) n l))) (hn:ti.size=n) {i:Int} (hi:get s.tm t5=some (.one (.int .i64 i))) (h0:0<=i) (hl:i<l.length)
 (hQ:∀l',l'.length=l.length->l'.take i.toNat=l.take i.toNat->Q .normal ⟨[(t0,.one (.slc (.own false (64*t0)) n l')),(t5,.one (.int .i64 i))], []⟩):AWP P N w0 F0 (.region id ops false) Q s:=λJ a w hr=>by
 simp only[Bool.and_eq_true,Nat.blt_eq,Bool.not_eq_true',MY] at hN;obtain ⟨⟨⟨⟨⟨⟨⟨⟨⟨⟨⟨m1,m2⟩,m3⟩,m0⟩,n1⟩,n2⟩,n3⟩,n4⟩,n5⟩,n6⟩,n7⟩,n8⟩:=hN;obtain ⟨j,rfl⟩:∃j:Nat,i=(j:Int):=⟨i.toNat,by omega⟩;have hj:j<l.length:=by omega
 have e0:CR J w (a.tmps.getD t0 undef) (.slc (.own false k) n l):=hr.tm t0 _ hk;have e5:CR J w (a.tmps.getD t5 undef) (.int .i64 (j:Int)):=hr.tm t5 _ hi;obtain ⟨e5,_⟩:=e5;rcases (show OwnTop J.F (J.L k) w _ n l from e0) with ⟨e,_⟩ | ⟨g,cap,cur,e,hL,e0,hg,hs,hvr,hlc,hcap⟩
 . rw[e] at hj;simp at hj
 obtain ⟨zs,ps,hzl,hpl,hzv,hrun⟩:=SK (P:=P) (w:=w) htt g1 g2 hn hg hs hj hlc y4;have hu:=(Y7 htt g1).sli;have hsz:=Hf (P:=P) (Y7 htt g2) w;rw[hn] at hsz
 have hr5:Rel N w0 F0 J a w ⟨[(t5,.one (.int .i64 (j:Int)))], []⟩:=hr.less (λt v hv=>by
  simp only[get] at hv;split at hv
  . rename_i e;subst e;rw[hi];exact hv
  cases hv) (λk c hc=>by cases hc)
 have no:∀d,¬d=t5->get (⟨[(t5,.one (.int .i64 (j:Int)))], []⟩:St).tm d=none:=λd hd=>by
  show (if t5=d then _ else _)=none;rw[if_neg (λe=>hd e.symm)];rfl
 have s0:=hr.size;have hr1:=(hr5.aside m1 (no _ n2) (.slice (some ⟨g,0,none⟩) l.length cap)).aside m2 (no _ n4) (.int .i64 (j:Int));have hr3:=hr1.aside m3 (no _ n6) (.slice (some ⟨g,0+j*n,none⟩) (l.length-j) (cap-j));subst hops;refine wp_region ?_;show wpOps P _ (QX N w0 F0 Q) [0,1,2,3] a w;rw[wpOps_cons];unfold wpOp;simp only[List.getElem?_toArray,List.getElem?_cons_zero];rw[if_pos (by simp[Region.wanted])];refine .inl (J9 (v:= .slice (some ⟨g,0,none⟩) l.length cap) (w':=w) (by simp[execOp,e0,Act.eval]) ?_);rw[wpOps_cons];unfold wpOp;simp only[List.getElem?_toArray,List.getElem?_cons_succ,List.getElem?_cons_zero];rw[if_pos (by simp[Region.wanted])];have e5':(a.put (some d1) (.slice (some ⟨g,0,none⟩) l.length cap)).tmps.getD t5 undef= .int .i64 (j:Int):=(D3 (by omega)).trans ((if_neg (λe=>n2 e.symm)).trans e5);refine .inl (J9 (v:= .int .i64 (j:Int)) (w':=w) (by simp[execOp,e5',Act.eval]) ?_);rw[wpOps_cons];unfold wpOp;simp only[List.getElem?_toArray,List.getElem?_cons_succ,List.getElem?_cons_zero];rw[if_pos (by simp[Region.wanted])];have hs1:(a.put (some d1) (.slice (some ⟨g,0,none⟩) l.length cap)).tmps.size=N:=by simp[Act.put,s0]
 have ea:((a.put (some d1) (.slice (some ⟨g,0,none⟩) l.length cap)).put (some d2) (.int .i64 (j:Int))).eval (.tmp d1)= .slice (some ⟨g,0,none⟩) l.length cap:=(D3 (by omega)).trans ((if_neg n7).trans ((D3 (by omega)).trans (if_pos rfl)));have eb:((a.put (some d1) (.slice (some ⟨g,0,none⟩) l.length cap)).put (some d2) (.int .i64 (j:Int))).eval (.tmp d2)= .int .i64 (j:Int):=(D3 (by omega)).trans (if_pos rfl)
 have hsb:(Instr.sliceBounds true l.length cap (some (.int .i64 (j:Int))) none none).run P w= .ok (j,l.length,cap) w:=by
  have e4:∀c,(Instr.sliceBound (.int .i64 (j:Int)) l.length c).run P w= .ok j w:=λc=>by
   have:=Mz (P:=P) (w:=w) (k:= .i64) (lo:=(j:Int)) (Y:=c) (y:=l.length) (by omega) (by omega);simpa using this
  unfold Instr.sliceBounds;simp only[Sem.run_bind,Sem.run_pure,Result.andThen_ok];simp[e4]
 refine .inl (J9 (v:= .slice (some ⟨g,0+j*n,none⟩) (l.length-j) (cap-j)) (w':=w) (by
  have hca:cap≠j:=by omega
  simp[execOp,ea,eb,Instr.sliceAt,run_underlying hu,Instr.slice,hsb,hsz,hca,Addr.add_lit]) ?_)
 rw[wpOps_cons];unfold wpOp;simp only[List.getElem?_toArray,List.getElem?_cons_succ,List.getElem?_cons_zero];rw[if_pos (by simp[Region.wanted])];generalize ha2:((a.put (some d1) (.slice (some ⟨g,0,none⟩) l.length cap)).put (some d2) (.int .i64 (j:Int)))=a2 at*;have s2:a2.tmps.size=N:=hr1.size;have ec:(a2.put (some d3) (.slice (some ⟨g,0+j*n,none⟩) (l.length-j) (cap-j))).eval (.tmp d3)= .slice (some ⟨g,j*n,none⟩) (l.length-j) (cap-j):=(D3 (by omega)).trans ((if_pos rfl).trans (by simp));have ec:=ec;simp only[Nat.zero_add] at ec
 refine .inl (J9 (v:= .tuple #[]) (w':=w.setRow g (cur.toList.take (j*n)++(List.replicate (l.length-j) zs).flatten++cur.toList.drop (j*n+(l.length-j)*n)).toArray) (by
  simp[execOp,resolve,invoke,builtin,ec,hrun]) ?_)
 generalize ha3:a2.put (some d3) (.slice (some ⟨g,0+j*n,none⟩) (l.length-j) (cap-j))=a3 at*;show QX N w0 F0 Q .normal a3 _
 have e03:a3.tmps.getD t0 undef= .slice (some ⟨g,0,none⟩) l.length cap:=by
  rw[←ha3];refine (D3 (by omega)).trans ((if_neg (λe=>n5 e.symm)).trans ?_);rw[←ha2];exact (D3 (by omega)).trans ((if_neg (λe=>n3 e.symm)).trans ((D3 (by omega)).trans ((if_neg (λe=>n1 e.symm)).trans e0)))
 have hgk:g∈J.L k:=by rw[hL];exact List.mem_cons_self
 have hgF:¬J.F g:=(hr.lo k g hgk).2.2;generalize hw':w.setRow g (cur.toList.take (j*n)++(List.replicate (l.length-j) zs).flatten++cur.toList.drop (j*n+(l.length-j)*n)).toArray=w';have hgw:w'.heap[g]? =some (.cells (cur.toList.take (j*n)++(List.replicate (l.length-j) zs).flatten++cur.toList.drop (j*n+(l.length-j)*n)).toArray e (0,0)):=by rw[←hw'];exact setRow_heap w g cur _ e (0,0) hg
 have hother:∀b,b≠g->w'.heap[b]? =w.heap[b]? :=λb hb=>by rw[←hw'];exact setRow_other w g b _ hb
 have hsize:w'.heap.size=w.heap.size:=by rw[←hw'];simp[World.setRow]
 have hbelow:w0.Keeps w':=by
  refine hr.below.step (by rw[←hw'];rfl) (by rw[←hw'];rfl) (by rw[←hw'];rfl) (by omega) λb _ hnl=>hother b λe=> ?_
  exact hnl (e▸(hr.lo k g hgk).1)
 have hfl:((List.replicate (l.length-j) zs).flatten).length=(l.length-j)*n:=by
  rw[List.length_flatten,List.map_replicate,hzl];simp
 have hsum:j*n+(l.length-j)*n=l.length*n:=by rw[←Nat.add_mul];congr 1;omega
 have hle:l.length*n<=cap*n:=Nat.mul_le_mul_right n hlc;have hcl:cur.toList.length=cap*n:=by simpa using hs
 have hjn:j*n<=cap*n:=Nat.mul_le_mul_right n (by omega);have htl:(l.take j++List.replicate (l.length-j) ps).length=l.length:=by simp;omega
 have hown:OwnTop (Pg J w w' (64*t0) k [] [g]).F [g] w' (.slice (some ⟨g,0,none⟩) l.length cap) n (l.take j++List.replicate (l.length-j) ps):=by
  refine .inr ⟨g,cap,_,e,rfl,by rw[htl],hgw, ?_, ?_,by rw[htl];exact hlc,by rw[htl];exact hcap⟩
  . simp only[List.size_toArray,List.length_append,hfl,List.length_take,List.length_drop,hcl];omega
  rw[htl]
  have:((cur.toList.take (j*n)++(List.replicate (l.length-j) zs).flatten++cur.toList.drop (j*n+(l.length-j)*n)).toArray.toList.take (l.length*n))=cur.toList.take (j*n)++(List.replicate (l.length-j) zs).flatten:=by
   show ((_:List Value)++_++_).take _=_
   have hln:(cur.toList.take (j*n)++(List.replicate (l.length-j) zs).flatten).length=l.length*n:=by
    simp only[List.length_append,hfl,List.length_take,hcl];omega
   rw[List.take_append_of_le_length (by omega),List.take_of_length_le (by omega)]
  rw[this];refine VR.append (IS (hzv _ _) hpl _) (VR.keep (X:=J.F) (w:=w) (λb hb=>⟨.inl hb,hother b λe=>hgF (e▸hb)⟩) ?_);have h3:=hvr.take j
  rwa [List.take_take,Nat.min_eq_left (by omega)] at h3
 have hR:=QH hr3 (t:=t0) (k:=k) (n:=n) m0 (frz:= []) (L':= [g]) (by simp) (w':=w') (u:= .slice (some ⟨g,0,none⟩) l.length cap) (l':=l.take j++List.replicate (l.length-j) ps) (d:=false) hbelow (by omega) (λb hb hn=>hother b λe=>hn (e▸hgk)) (by simp) (λb hb=>by
  obtain rfl:=List.mem_singleton.1 hb
  exact ⟨by have:=(hr.lo k b hgk).2.1;omega,.inr hgk⟩) (by
   show OwnTop _ ((Pg J w w' (64*t0) k [] [g]).L (64*t0)) _ _ _ _;rw[show (Pg J w w' (64*t0) k [] [g]).L (64*t0)= [g] from if_pos rfl];exact hown)
 rw[Qca e03 (by rw[hr3.size];exact m0)] at hR;refine ⟨_,_,hR.less (s':=⟨[(t0,.one (.slc (.own false (64*t0)) n (l.take j++List.replicate (l.length-j) ps))),(t5,.one (.int .i64 (j:Int)))], []⟩) (λt v hv=> ?_) (λk c hc=>by cases hc),hQ _ htl (by simp[List.take_append,List.take_take];omega)⟩;show get (ins t0 _ [(t5,AV.one (.int .i64 (j:Int)))]) t=some v;rw[Ib];simp only[get] at hv⊢;exact hv
end
end
section
open Go.RowKit
section
variable {P : Program}
theorem Ty (w : World) (dT sT ty elem : TypeId) (inf : TypeInfo) (b o dLen dCap : Nat) (a : Addr) (sLen sCap : Nat) (cs : List Value) (hu : P.underlying dT = some (.slice elem)) (hi : P.info? elem = some inf)
    (hn : cs.length = Nat.min sLen dLen * inf.size) (hsrc : ∀ j v, cs[j]? = some v → w.cell? (a.add j) = some v) {cur : Array Value} {e : TypeId} (hg : w.heap[b]? = some (.cells cur e (0, 0))) (hfit : o + cs.length ≤ cur.size) (h1 : ∀ v ∈ cs, v.oneCell' = true) :
    (Builtin.copy_ #[dT, sT] ty #[.slice (some ⟨b, o, none⟩) dLen dCap,.slice (some a) sLen sCap]).run P w = .ok (goInt (Nat.min sLen dLen)) (w.setCells b o cs) := by
  have hl := run_loadCells_list (P := P) w a cs hsrc
  have hc : ∀ j, j < cs.length → (w.cell? ⟨b, o + j, none⟩).isSome = true := λj hj => by
    have : o + j < cur.size := by omega
    simp [World.cell?, hg, this]
  have hf : ∀ j, j < cs.length → w.frozen? ⟨b, o + j, none⟩ = false := λj hj => by simp [World.frozen?, hg]
  have hst := run_storeCells_cells (P := P) b o cs 0 w (by simpa using hc) (by simpa using hf) h1
  simp [Builtin.copy_, run_underlying hu, Builtin.lenOf, Builtin.firstCells, sizeOf, typeInfo, hi, ← hn, hl, hst]
theorem BJ (w : World) (tS tR e : TypeId) (ht : P.underlying tS = some (.slice e)) (size : Nat) (hz : ∀ w, (Go.sizeOf e).run P w = .ok size w) (a b : Addr) (la ca lb cb : Nat) (hne : a.block ≠ b.block)
    {arrA : Array Value} {tA : TypeId} {frA : Nat × Nat} (hA : w.heap[a.block]? = some (.cells arrA tA frA)) {arrB : Array Value} {tB : TypeId} (hB : w.heap[b.block]? = some (.cells arrB tB (0, 0))) (hpos : 0 < arrB.size) (hposA : 0 < arrA.size) :
    (Extern.SlicesOverlaps.overlaps #[tS, tS] #[tR] #[.slice (some a) la ca,.slice (some b) lb cb]).run P w = .ok (.bool false) w := by
  have hsa : w.shape? a.block = some (tA, arrA.size) := by simp [World.shape?, hA]
  have hsb : w.shape? b.block = some (tB, arrB.size) := by simp [World.shape?, hB]
  have hfb : ∀ o, w.frozen? ⟨b.block, o, none⟩ = false := λo => by simp [World.frozen?, hB]
  have hfb' : w.frozen? b = false := by simp [World.frozen?, hB]
  have hnb : (a.block != b.block) = true := by simpa using hne
  have hnb' : (a.block == b.block) = false := by simpa using hne
  obtain ⟨kb, hkb⟩ : ∃ kb, arrB.size = kb + 1 := ⟨arrB.size - 1, by omega⟩
  rw [hkb] at hsb
  obtain ⟨ka, hka⟩ : ∃ ka, arrA.size = ka + 1 := ⟨arrA.size - 1, by omega⟩
  rw [hka] at hsa
  change Sem.run P (underlying tS >>= _) w = _
  by_cases h0 : la = 0 ∨ lb = 0 ∨ size = 0
  · simp [run_underlying ht, hz, h0]
  cases hfa : w.frozen? a with
  | true => simp [run_underlying ht, hz, h0, hnb, hnb', frozen, noView, viewAt, mayBeOne, stringish, shape, Sem.run, hsa, hsb, hfa, hfb, hfb']
  | false =>
    cases hfa2 : w.frozen? { block := a.block, off := ka + 1 } with
    | true => simp [run_underlying ht, hz, h0, hnb, hnb', frozen, noView, viewAt, mayBeOne, stringish, shape, Sem.run, hsa, hsb, hfa, hfb, hfb', hfa2]
    | false => simp [run_underlying ht, hz, h0, hnb, hnb', frozen, noView, viewAt, mayBeOne, stringish, shape, Sem.run, hsa, hsb, hfa, hfb, hfb', hfa2]
theorem Qhd {F : Nat → Prop} {L : List Nat} {w : World} {v : Value} {n : Nat} {l : List (List PV)} (h : OwnTop F L w v n l) (hl : l.length < 1073741824) :
    ∃ oa cap olds, v = .slice oa l.length cap ∧ RowAt w n oa l.length cap olds ∧ VR F w n olds l ∧ (0 < cap → ∃ g, oa = some ⟨g, 0, none⟩ ∧ L = [g]) := by
  rcases h with ⟨rfl, oa, rfl⟩ | ⟨g, cap, cur, e, rfl, rfl, hg, hs, hr, h1, h2⟩
  · exact ⟨oa, 0, [], rfl, ⟨by simp,.inl ⟨rfl, rfl, rfl⟩, Nat.le_refl _, Nat.zero_le _, by simp, by simp⟩,.nil n, λh => by omega⟩
  exact ⟨some ⟨g, 0, none⟩, cap, _, rfl, ⟨hr.length,.inr ⟨g, cur, e, rfl, hg, hs, rfl⟩, h1, h2.1, hl, hr.ones⟩, hr, λ_ => ⟨g, rfl, rfl⟩⟩
theorem Turned.ret {F G : Nat → Prop} {L : List Nat} {w w' : World} {n : Nat} {oa : Option Addr} {cap : Nat} {u : Value} {m' : Nat} {news : List Value} (h : Turned w w' n oa cap u m' news) (hF : ∀ b, F b → b < w.heap.size ∧ b ∉ L) (hL : 0 < cap → ∃ g, oa = some ⟨g, 0, none⟩ ∧ L = [g]) (hLs : ∀ b, b ∈ L → b < w.heap.size)
    {l' : List (List PV)} (hv : VR F w n news l') (hm : l'.length = m') (hlim : m' ≤ 1073741824) : Qhx F L w n false l' (.returned u) w' := by
  obtain ⟨g', cap', cur', e', rfl, hg, hs, ht, h1, h2, h3⟩ := h.row
  have hsame : ∀ b, b < w.heap.size → b ∉ L → w'.heap[b]? = w.heap[b]? := λb hb hn => by
    rcases h3 with ⟨h3, hc, h4⟩ | ⟨_, _, h4⟩
    · obtain ⟨g, h5, rfl⟩ := hL hc
      rw [h3] at h5
      obtain rfl : g' = g := by simpa using h5
      exact h4 b λe => hn (by simp [e])
    exact h4 b hb
  refine ⟨_, rfl, λm hm hmL => ⟨h.os, h.tape, h.output, h.size, λb hb => hsame b (by omega) λhx => by have := hmL b hx; omega⟩, hsame, [g'], by simp, λb hb => ?_, ?_⟩
  · obtain rfl := List.mem_singleton.1 hb
    refine ⟨Q8 hg, ?_⟩
    rcases h3 with ⟨h3, hc, _⟩ | ⟨h3, _, _⟩
    · obtain ⟨g, h5, rfl⟩ := hL hc
      rw [h3] at h5
      obtain rfl : b = g := by simpa using h5
      exact .inr (by simp)
    exact .inl h3
  refine .inr ⟨g', cap', cur', e', rfl, by rw [hm], hg, hs, ?_, by rw [hm]; exact h1, h2, by rw [hm]; exact hlim⟩
  rw [hm, ht]
  exact hv.keep λb hb => ⟨.inl hb, hsame b (hF b hb).1 (hF b hb).2⟩
theorem SL {f n : Nat} (hok : Ee P f) (h0 : 0 < n)
    (hrun : ∀ w oa m cap olds i vb voff vc vs, RowAt w n oa m cap olds → OneAt w n oa cap vb voff vs → i ≤ m → Calls P f #[.slice oa m cap,.int .i64 (i : Int),.slice (some ⟨vb, voff, none⟩) 1 vc] w (DD w n i oa m cap olds vs))
    {l : List (List PV)} {x : List PV} {i : Int} {j : Nat} (hij : i = (j : Int)) (hj : j ≤ l.length) (hl : l.length < 1073741824) : ATake P f n l [.one (.int .i64 i),.one (.slc .sh n [x])] true false (l.take j ++ [x] ++ l.drop j) := by
  subst hij
  refine ⟨hok, λw F G L v vals _ hFG hGF hGs hnd hLG hrow hargs => ?_⟩
  have hGF := hGF rfl
  cases hargs with
  | cons a1 ha =>
  cases ha with
  | cons a2 ha =>
  cases ha
  obtain ⟨rfl, _⟩ : _ = Value.int .i64 (j : Int) ∧ InR .i64 (j : Int) := a1
  have a2 : VV G w _ (.slc n [x]) := a2
  obtain ⟨oa, cap, olds, rfl, hR, hV, hL⟩ := Qhd hrow hl
  generalize hp : PV.slc n [x] = p at a2
  cases a2 with
  | int | bool | str | any | raw => cases hp
  | emp => cases hp
  | @slc vb voff vc n' cs l1 hb hc hr h1 h2 =>
    obtain ⟨rfl, rfl⟩ : n = n' ∧ [x] = l1 := by simpa using hp
    have hcl : cs.length = n := by rw [hr.length]; simp
    have hone : OneAt w n oa cap vb voff cs := ⟨hcl, hc, hr.ones, λg hg hcap e => by
      obtain ⟨g', h5, rfl⟩ := hL hcap
      rw [hg] at h5
      obtain rfl : g = g' := by simpa using h5
      exact (hLG g (by simp)).2 (e ▸ hb)⟩
    refine (hrun w oa l.length cap olds j vb voff vc cs hR hone hj).mono ?_
    rintro e w' ⟨u, rfl, hT⟩
    refine hT.ret (G := G) (λb hb => ⟨hGs b (hFG b hb), λhm => (hLG b hm).2 (hFG b hb)⟩) hL (λb hb => (hLG b hb).1) ?_ ?_ (by omega)
    · exact VR.append (hV.drop j) (VR.append (hr.keep λb hb => ⟨hGF b hb, rfl⟩) (hV.take j))
    simp; omega
end
end
section
open Go.RowKit
section
variable {P:Program} {t e:TypeId} {ei:TI} {w:World} {oa:Option Addr} {m cap i vb voff vc:Nat} {olds vs:List Value}
theorem Qhe {i m n:Nat} (hi:i<m):(i+1)*n=i*n+n/\i*n+n<=m*n/\(m-i)*n=m*n-i*n/\(m+1)*n=m*n+n:=by
 have h1:(i+1)*n<=m*n:=Nat.mul_le_mul_right n (by omega);have h2:(i+1)*n=i*n+n:=by rw[Nat.add_mul,Nat.one_mul]
 exact ⟨h2,by omega,Nat.sub_mul ..,by rw[Nat.add_mul,Nat.one_mul]⟩
theorem OneAt.block {n:Nat} (h:OneAt w n oa cap vb voff vs) (h0:0<n):vb<w.heap.size/\∃arr tA fr,w.heap[vb]? =some (.cells arr tA fr)/\0<arr.size:=by
 have hl:0<vs.length:=by rw[h.len];exact h0
 have hc:=h.cells 0 vs[0] (List.getElem?_eq_getElem hl);unfold World.cell? at hc;split at hc
 . rename_i arr tA fr hh;refine ⟨Q8 hh,arr,tA,fr,hh, ?_⟩;have hc:arr[voff+0]? =some vs[0]:=by simpa using hc
   have:=(Array.getElem?_eq_some_iff.1 hc).1;omega
 cases hc
theorem Nz {w:World} {ops:Array Oper} {rest:List Oper} {o:Oper} {a:Act} {Q:Exit->Act->World->Prop} (hgd:o.guard=none) (d s:Operand) (t t':TypeId)
 (ho:o.op= .call {callee:= .builtin .copy,args:= #[d,s],argTypes:= #[t,t']}) (v u:Value) (hd:a.eval d=v) (hs:a.eval s=u) {v':Value} {w':World}
 (hr:(Builtin.copy_ #[t,t'] o.type #[v,u]).run P w= .ok v' w') (h:wpList P ops Q rest (a.put o.dst v') w'):wpList P ops Q (o::rest) a w:=
 wpList_plain hgd λK hK=>by
  unfold Oper.wp execOp;simp only[ho,resolve,invoke,builtin,Sem.run_bind,Sem.run_pure,Result.andThen_ok,List.map_toArray,List.map_cons,List.map_nil,hd,hs,hr];exact hK _ _ h
theorem S9 {w:World} {ops:Array Oper} {o:Oper} {a:Act} {K:Act->World->Prop} {Q:Exit->Act->World->Prop} {E:Prop}
 (hg:o.guard=none) (d x:Operand) (dT sT:TypeId) (hop:o.op= .call {callee:= .builtin .copy,args:= #[d,x],argTypes:= #[dT,sT]})
 (v u:Value) (hd:a.eval d=v) (hx:a.eval x=u) {v':Value} {w':World} (hr:(Builtin.copy_ #[dT,sT] o.type #[v,u]).run P w= .ok v' w') (hK:K (a.put o.dst v') w'):
 if Region.wanted o (yielded ops a.tmps)=true then Oper.wp P o a w K Q else E:=by
 rw[if_pos (by simp[Region.wanted,hg])];unfold Oper.wp execOp;simp only[hop,resolve,invoke,builtin,Sem.run_bind,Sem.run_pure,Result.andThen_ok,List.map_toArray,List.map_cons,List.map_nil,hd,hx,hr];exact hK
theorem F1 (g:Nat):∀(vs:List Value) (o:Nat) (w:World),(w.drew.setCells g o vs).heap=(w.setCells g o vs).heap
 | [],_,_=>rfl
 | v::vs,o,w=>F1 g vs (o+1) (w.setCell ⟨g,o,none⟩ v)
theorem Qfu (hu:P.underlying t=some (.slice e)) (hO:OneAt w ei.size oa cap vb voff vs):Src P ei.size t (.slice (some ⟨vb,voff,none⟩) 1 vc) 1 vs w:=
 Src.ofSlice w hu _ _ _ _ (by rw[hO.len];omega) (λj u hj=>by rw[Addr.add_lit];exact hO.cells j u hj) hO.ones
theorem Qcc (hu:P.underlying t=some (.slice e)) (hei:TiOk P e ei) (hn:0<ei.size) (hR:RowAt w ei.size oa m cap olds) (hO:OneAt w ei.size oa cap vb voff vs):
 ∃u w',(∀ty,(Builtin.append_ #[t,t] ty #[.slice oa m cap,.slice (some ⟨vb,voff,none⟩) 1 vc]).run P w= .ok u w')/\DD w ei.size m oa m cap olds vs (.returned u) w':=by
 have hold:∀ad,oa=some ad->∀(j:Nat) (u:Value),olds[j]? =some u->w.cell? (ad.add j)=some u:=λad had j u hj=>by
  rcases hR.row with ⟨_,h0,_⟩ | ⟨g,cur,e0,h1,h2,h3,h4⟩
  . have:=hR.len;rw[h0,Nat.zero_mul] at this;rw[List.length_eq_zero_iff.1 this] at hj;simp at hj
  rw[had] at h1;obtain rfl:=Option.some.inj h1;rw[←h4] at hj;exact Gr h2 _ j u hj
 obtain ⟨g',cap',cur',e',w',hr,h1,h2,h3,h4,h5,h6,h7,h8,h9,h10⟩:=ZM (ty:=0) hu hei hn hR.len hold (λh=>by
  rcases hR.row with ⟨_,h0,_⟩ | ⟨g,cur,e0,h1,_⟩
  . exact h0
  rw[h] at h1;cases h1) (hR.row.imp (λh=>h.2.2) λh=>h) hR.le (Qfu (vc:=vc) hu hO) (by have:=hR.lim;omega) (λ_=>by omega) hR.cap
 refine ⟨_,w',λty=>hr,_,rfl,⟨h6,h7,h8,h9,g',cap',cur',e',rfl,h1,h2, ?_,h4,h5, ?_⟩⟩
 . rw[h3,List.take_of_length_le (by rw[hR.len];omega),List.drop_of_length_le (by rw[hR.len];omega),List.append_nil]
 exact h10.imp (λ⟨cur,e0,h1,h2,h3,h4⟩=>⟨h1,by omega,h4⟩) λ⟨h1,h2,h3⟩=>⟨by omega,h2,h3⟩
variable {g:Nat} {cur:Array Value} {e0:TypeId}
theorem BK (hg:w.heap[g]? =some (.cells cur e0 (0,0))) (htk:cur.toList.take (m*ei.size)=olds) {k:Nat}:∀(j:Nat) (u:Value),(olds.drop k)[j]? =some u->w.cell? ((⟨g,k,none⟩:Addr).add j)=some u:=λj u hj=>by
 rw[List.getElem?_drop,←htk] at hj;have:=Gr hg _ _ u hj;rw[Addr.add_lit,Nat.zero_add] at this;rw[Addr.add_lit];exact this
theorem He (g:Nat):∀(vs:List Value) (o:Nat) (w:World),(w.setCells g o vs).os=w.os/\(w.setCells g o vs).tape=w.tape/\(w.setCells g o vs).output=w.output
 | [],_,_=>⟨rfl,rfl,rfl⟩
 | v::vs,o,w=>He g vs (o+1) (w.setCell ⟨g,o,none⟩ v)
theorem BL (hu:P.underlying t=some (.slice e)) (hei:TiOk P e ei) (hn:0<ei.size) (hg:w.heap[g]? =some (.cells cur e0 (0,0))) (hcs:cur.size=cap*ei.size) (htk:cur.toList.take (m*ei.size)=olds)
 (hR:RowAt w ei.size (some ⟨g,0,none⟩) m cap olds) (hO:OneAt w ei.size (some ⟨g,0,none⟩) cap vb voff vs) (hi:i<m) (hroom:m+1<=cap):
 (∀ty dc sc,(Builtin.copy_ #[t,t] ty #[.slice (some ⟨g,(i+1)*ei.size,none⟩) (m+1-(i+1)) dc,.slice (some ⟨g,i*ei.size,none⟩) (m+1-i) sc]).run P w= .ok (goInt (Nat.min (m+1-i) (m+1-(i+1)))) (w.setCells g ((i+1)*ei.size) (olds.drop (i*ei.size))))/\
 (∀W:World,W.heap=(w.setCells g ((i+1)*ei.size) (olds.drop (i*ei.size))).heap->∀ty dc,(Builtin.copy_ #[t,t] ty #[.slice (some ⟨g,i*ei.size,none⟩) (m+1-i) dc,.slice (some ⟨vb,voff,none⟩) 1 vc]).run P W= .ok (goInt (Nat.min 1 (m+1-i))) (W.setCells g (i*ei.size) vs))/\
 (∀W:World,W.heap=(w.setCells g ((i+1)*ei.size) (olds.drop (i*ei.size))).heap->W.os=w.os->W.tape=w.tape->W.output=w.output->DD w ei.size i (some ⟨g,0,none⟩) m cap olds vs (.returned (.slice (some ⟨g,0,none⟩) (m+1) cap)) (W.setCells g (i*ei.size) vs)):=by
 obtain ⟨inf,z,hI,hsz,_⟩:=hei.info;obtain ⟨k1,k2,k3,k4⟩:=Qhe (n:=ei.size) hi;have k5:m*ei.size+ei.size<=cap*ei.size:=by rw[←k4];exact Nat.mul_le_mul_right _ hroom
 have hdl:(olds.drop (i*ei.size)).length=(m-i)*ei.size:=by rw[List.length_drop,hR.len,k3]
 have hfit1:(i+1)*ei.size+(olds.drop (i*ei.size)).length<=cur.size:=by rw[hdl];omega
 have hmin:Nat.min (m+1-i) (m+1-(i+1))=m-i:=by simp only[Nat.min_def];split<;>omega
 have hmin1:Nat.min 1 (m+1-i)=1:=by simp only[Nat.min_def];split<;>omega
 have hvb:vb≠g:=hO.ne g rfl (by omega);have hg1:=V4 g (olds.drop (i*ei.size)) ((i+1)*ei.size) w hg;have hfit2:i*ei.size+vs.length<=(putCells cur ((i+1)*ei.size) (olds.drop (i*ei.size))).size:=by rw[Vq,hO.len];omega
 refine ⟨λty dc sc=> ?_,λW hW ty dc=> ?_,λW hW ho ht hu'=> ?_⟩
 . exact Ty w t t ty e inf g _ _ dc ⟨g,i*ei.size,none⟩ _ sc _ hu hI (by rw[hmin,hdl,hsz]) (BK hg htk) hg hfit1 λv hv=>hR.ones v (List.mem_of_mem_drop hv)
 . refine Ty W t t ty e inf g _ _ dc ⟨vb,voff,none⟩ _ vc _ hu hI (by rw[hmin1,hO.len,hsz,Nat.one_mul]) (λj v hj=> ?_) (hW▸hg1) hfit2 hO.ones;rw[Addr.add_lit,World.cell?_of_block (w:=w) (by rw[hW];exact Kr g hvb _ _ _)];exact hO.cells j v hj
 obtain ⟨p1,p2,p3⟩:=He g vs (i*ei.size) W;have hg2:=V4 g vs (i*ei.size) W (hW▸hg1);refine ⟨_,rfl,⟨p1.trans ho,p2.trans ht,p3.trans hu', ?_,g,cap,_,e0,rfl,hg2,by rw[Vq,Vq];exact hcs, ?_,hroom,hR.cap,.inl ⟨rfl,by omega,λb hb=> ?_⟩⟩⟩
 . rw[Ag,hW,Ag];exact Nat.le_refl _
 . have hci:cur.toList.take (i*ei.size)=olds.take (i*ei.size):=by
    rw[←htk,List.take_take];congr 1;omega
   have hA:((cur.toList.take ((i+1)*ei.size)++olds.drop (i*ei.size))++cur.toList.drop ((i+1)*ei.size+(olds.drop (i*ei.size)).length)).take (i*ei.size)=olds.take (i*ei.size):=by
    have hl:(cur.toList.take ((i+1)*ei.size)).length=(i+1)*ei.size:=by rw[List.length_take,Array.length_toList];omega
    rw[List.append_assoc,List.take_append_of_le_length (by rw[hl];omega),List.take_take,←hci];congr 1;omega
   have hB:((cur.toList.take ((i+1)*ei.size)++olds.drop (i*ei.size))++cur.toList.drop ((i+1)*ei.size+(olds.drop (i*ei.size)).length)).drop (i*ei.size+vs.length)=olds.drop (i*ei.size)++cur.toList.drop ((i+1)*ei.size+(olds.drop (i*ei.size)).length):=by
    have hl:(cur.toList.take ((i+1)*ei.size)).length=i*ei.size+vs.length:=by rw[List.length_take,Array.length_toList,hO.len];omega
    rw[List.append_assoc,←hl,List.drop_left]
   rw[U3 hfit2,U3 hfit1,hA,hB]
   have hl3:(olds.take (i*ei.size)++vs++olds.drop (i*ei.size)).length=(m+1)*ei.size:=by
    rw[List.length_append,List.length_append,hdl,hO.len,List.length_take,hR.len,k3];omega
   rw[←List.append_assoc,←hl3,List.take_left]
 rw[Kr g hb,hW,Kr g hb]
theorem SM {tn:TypeId} (hu:P.underlying t=some (.slice e)) (htn:P.underlying tn=some (.int .i64)) (hei:TiOk P e ei) (hn:0<ei.size) (hg:w.heap[g]? =some (.cells cur e0 (0,0))) (hcs:cur.size=cap*ei.size) (htk:cur.toList.take (m*ei.size)=olds)
 (hR:RowAt w ei.size (some ⟨g,0,none⟩) m cap olds) (hO:OneAt w ei.size (some ⟨g,0,none⟩) cap vb voff vs) (hvw:vb<w.heap.size) (hi:i<m) (hroom:cap<m+1):
 ∃G W1,m+1<=G/\G<=maxLen/\(∀ty k,k=((m+1-i:Nat):Int)->(Builtin.append_ #[t,tn] ty #[.slice (some ⟨g,0,none⟩) i cap,.int .i64 k]).run P w= .ok (.slice (some ⟨w.heap.size,0,none⟩) (m+1) G) W1)/\
 (∀W:World,W.heap=W1.heap->∀ty dc,(Builtin.copy_ #[t,t] ty #[.slice (some ⟨w.heap.size,i*ei.size,none⟩) (m+1-i) dc,.slice (some ⟨vb,voff,none⟩) 1 vc]).run P W= .ok (goInt (Nat.min 1 (m+1-i))) (W.setCells w.heap.size (i*ei.size) vs))/\
 (∀W:World,W.heap=(W1.setCells w.heap.size (i*ei.size) vs).heap->∀ty dc sc,(Builtin.copy_ #[t,t] ty #[.slice (some ⟨w.heap.size,(i+1)*ei.size,none⟩) (m+1-(i+1)) dc,.slice (some ⟨g,i*ei.size,none⟩) (m-i) sc]).run P W= .ok (goInt (Nat.min (m-i) (m+1-(i+1)))) (W.setCells w.heap.size ((i+1)*ei.size) (olds.drop (i*ei.size))))/\
 (∀W:World,W.heap=(W1.setCells w.heap.size (i*ei.size) vs).heap->W.os=w.os->W.tape=w.tape->W.output=w.output->DD w ei.size i (some ⟨g,0,none⟩) m cap olds vs (.returned (.slice (some ⟨w.heap.size,0,none⟩) (m+1) G)) (W.setCells w.heap.size ((i+1)*ei.size) (olds.drop (i*ei.size))))/\
 W1.os=w.os/\W1.tape=w.tape/\W1.output=w.output:=by
 obtain ⟨inf,z,hI,hsz,hby,hz,hzs,_⟩:=hei.info;obtain ⟨k1,k2,k3,k4⟩:=Qhe (n:=ei.size) hi;have hlim:=hR.lim;have hle:=hR.le;have hgw:g<w.heap.size:=Q8 hg;have hdl:(olds.drop (i*ei.size)).length=(m-i)*ei.size:=by rw[List.length_drop,hR.len,k3]
 have htl:(olds.take (i*ei.size)).length=i*ei.size:=by rw[List.length_take,hR.len];omega
 have hmin:Nat.min (m-i) (m+1-(i+1))=m-i:=by simp only[Nat.min_def];split<;>omega
 have hmin1:Nat.min 1 (m+1-i)=1:=by simp only[Nat.min_def];split<;>omega
 have hold:(Builtin.firstCells inf.size i (.slice (some ⟨g,0,none⟩) i cap)).run P w.drew= .ok (olds.take (i*ei.size)).toArray w.drew:=by
  refine run_firstCells_some w.drew inf.size i ⟨g,0,none⟩ i cap _ (by rw[htl,hsz]) λj u hj=> ?_
  rw[List.getElem?_take] at hj;split at hj
  . rw[←htk] at hj;exact Gr hg _ j u hj
  cases hj
 have hik:i+(m+1-i)=m+1:=by omega
 have hbytes:((m+1)+(m+1) / 4+192)*inf.bytes<=281474976710656:=Nat.le_trans (Nat.mul_le_mul (show _<=1342177472 by omega) hby) (by decide);have hkb:(m+1-i)*inf.bytes<=281474976710656:=Nat.le_trans (Nat.mul_le_mul_right _ (by omega)) hbytes
 have hap:∀ty,(Builtin.append_ #[t,tn] ty #[.slice (some ⟨g,0,none⟩) i cap,.int .i64 ((m+1-i:Nat):Int)]).run P w=_:=λty=>
  Lib.run_append_grow_zeros w t tn ty e inf z .i64 .i64 hu htn hI hz (some ⟨g,0,none⟩) i cap (olds.take (i*ei.size)) hold (m+1-i) (by omega) (by omega) (by omega) (by omega) hkb (by rw[hik];exact growslice_fits_wide hroom hbytes)
 rw[hik] at hap;obtain ⟨G,hG⟩:∃G,G=grownCap w (m+1) cap e:=⟨_,rfl⟩;have hGn:m+1<=G:=by rw[hG];exact grownCap_ge w _ _ _
 have hGm:G<=maxLen:=by rw[hG];exact grownCap_le_maxLen w _ _ _ (by unfold maxLen;omega)
 rw[←hG] at hap;obtain ⟨ROW,hROW⟩:∃ROW:Array Value,ROW=(olds.take (i*ei.size)).toArray++Builtin.zeroCells z.cells (m+1-i)++Builtin.zeroCells z.cells (G-(m+1)):=⟨_,rfl⟩;rw[←hROW] at hap
 have hRs:ROW.size=G*ei.size:=by
  rw[hROW];simp only[Array.size_append,List.size_toArray,size_zeroCells,hzs,htl,←Nat.add_mul]
  congr 1
  omega
 have hRt:ROW.toList.take (i*ei.size)=olds.take (i*ei.size):=by
  rw[hROW,Array.toList_append,Array.toList_append,List.append_assoc];show (olds.take (i*ei.size)++_).take _=_;rw[List.take_append_of_le_length (by rw[htl];omega),List.take_of_length_le (by rw[htl];omega)]
 have hGe:(m+1)*ei.size<=G*ei.size:=Nat.mul_le_mul_right _ hGn;obtain ⟨W1,hW1⟩:∃W1,W1=w.drew.alloc (.cells ROW e):=⟨_,rfl⟩;rw[←hW1] at hap;have hn1:W1.heap[w.heap.size]? =some (.cells ROW e (0,0)):=by rw[hW1];exact heap_alloc_new w.drew _
 have ho1:∀b,b<w.heap.size->W1.heap[b]? =w.heap[b]? :=λb hb=>by rw[hW1];exact heap_alloc_old w.drew _ hb
 have hs1:W1.heap.size=w.heap.size+1:=by rw[hW1];simp
 have hfitA:i*ei.size+vs.length<=ROW.size:=by rw[hO.len,hRs];omega
 have hg2:=V4 w.heap.size vs (i*ei.size) W1 hn1;have hfitB:(i+1)*ei.size+(olds.drop (i*ei.size)).length<=(putCells ROW (i*ei.size) vs).size:=by rw[Vq,hdl,hRs];omega
 refine ⟨G,W1,hGn,hGm,λty k hk=>by subst hk;exact hap ty,λW hW ty dc=> ?_,λW hW ty dc sc=> ?_,λW hW ho ht hu'=> ?_,by rw[hW1];rfl,by rw[hW1];rfl,by rw[hW1];rfl⟩
 . refine Ty W t t ty e inf _ _ _ dc ⟨vb,voff,none⟩ _ vc _ hu hI (by rw[hmin1,hO.len,hsz,Nat.one_mul]) (λj v hj=> ?_) (hW▸hn1) hfitA hO.ones;rw[Addr.add_lit,World.cell?_of_block (w:=w) (by rw[hW];exact ho1 _ hvw)];exact hO.cells j v hj
 . refine Ty W t t ty e inf _ _ _ dc ⟨g,i*ei.size,none⟩ _ sc _ hu hI (by rw[hmin,hdl,hsz]) (λj v hj=> ?_) (hW▸hg2) hfitB λv hv=>hR.ones v (List.mem_of_mem_drop hv)
   have:=BK hg htk j v hj;rw[Addr.add_lit] at this⊢;rw[World.cell?_of_block (w:=w) (by rw[hW];exact (Kr w.heap.size (show g≠w.heap.size by omega) _ _ _).trans (ho1 _ hgw))];exact this
 obtain ⟨p1,p2,p3⟩:=He w.heap.size (olds.drop (i*ei.size)) ((i+1)*ei.size) W;have hg3:=V4 w.heap.size (olds.drop (i*ei.size)) ((i+1)*ei.size) W (hW▸hg2);have hsz3:(W.setCells w.heap.size ((i+1)*ei.size) (olds.drop (i*ei.size))).heap.size=w.heap.size+1:=by rw[Ag,hW,Ag,hs1]
 refine ⟨_,rfl,⟨p1.trans ho,p2.trans ht,p3.trans hu',by omega,w.heap.size,G,_,e,rfl,hg3,by rw[Vq,Vq];exact hRs, ?_,hGn,hGm,.inr ⟨Nat.le_refl _,by omega,λb hb=> ?_⟩⟩⟩
 . rw[U3 hfitB,U3 hfitA,hRt];have hl:(olds.take (i*ei.size)++vs).length=(i+1)*ei.size:=by rw[List.length_append,htl,hO.len];omega
   rw[show ((olds.take (i*ei.size)++vs++ROW.toList.drop (i*ei.size+vs.length)).take ((i+1)*ei.size))=olds.take (i*ei.size)++vs from by rw[←hl,List.take_left]]
   have hl3:(olds.take (i*ei.size)++vs++olds.drop (i*ei.size)).length=(m+1)*ei.size:=by
    rw[List.length_append,List.length_append,hdl,hO.len,htl,k3];omega
   rw[←hl3,List.take_left]
 rw[Kr _ (show b≠w.heap.size by omega),hW,Kr _ (show b≠w.heap.size by omega)];exact ho1 b hb
def I0 {α:Type} (l:List α) (j:Nat) (y:α):List α:=l.take j++ [y]++l.drop j
theorem NA {α:Type} [GoE α] {f n:Nat} (hok:Ee P f) (h0:0<n)
 (hrun:∀w oa m cap olds i vb voff vc vs,RowAt w n oa m cap olds->OneAt w n oa cap vb voff vs->i<=m->Calls P f #[.slice oa m cap,.int .i64 (i:Int),.slice (some ⟨vb,voff,none⟩) 1 vc] w (DD w n i oa m cap olds vs))
 (l:List α) (y:α) {i:Int} (hi:0<=i) (hj:i<=l.length) (hl:l.length<1073741824):ATake P f n (eL l) [.one (.int .i64 i),.one (.slc .sh n (eL [y]))] true false (eL (I0 l i.toNat y)):=by
 have h:=SL hok h0 hrun (l:=eL l) (x:=GoE.enc y) (i:=i) (j:=i.toNat) (by omega) (by simp[eL];omega) (by simpa [eL] using hl);rw[show eL (I0 l i.toNat y)=(eL l).take i.toNat++ [GoE.enc y]++(eL l).drop i.toNat by simp[I0,eL,List.map_take,List.map_drop]];exact h
end
end
section
open Go.RowKit
theorem JX {P:Program} {f n:Nat} {l l':List (List PV)} {args:List AV} (h:ATake P f n l args true false l') (hf:Dq l'):ATake P f n l args false false l':=by
 refine ⟨h.1,λw F G L v vals hok hFG _ hGs hnd hLG hrow hargs=> ?_⟩;refine (h.2 w G G L v vals hok (λ_ h=>h) (λ_ _ h=>h) hGs hnd hLG (OwnTop.keep hrow (λb hb=>⟨hFG b hb,rfl⟩) λ_ _=>rfl) hargs).mono ?_
 rintro e w' ⟨u,rfl,h1,h2,L',h3,h4,h5⟩
 refine ⟨u,rfl,h1,h2,L',h3,h4, ?_⟩;rcases h5 with h5 | ⟨g,cap,cur,e,rfl,rfl,hg,hs,hr,h5,h6⟩
 . exact .inl h5
 exact .inr ⟨g,cap,cur,e,rfl,rfl,hg,hs,OR.vr (VR.orr (w':=w') hr hf) λb hb=>(by simp at hb),h5,h6⟩
theorem Qdy {n:Nat} {hi:Int} (h0:0<=hi) (h1:hi<=(n:Int)):(0:Int)<=0/\0<=hi/\hi<=(n:Int):=⟨Int.le_refl _,h0,h1⟩
section
variable {α:Type} {p:α->Bool}
def ixF (p:α->Bool):List α->Int
 | []=> -1
 | a::l=>bif p a then 0 else bif ixF p l== -1 then-1 else ixF p l+1
theorem G4 (p:α->Bool):∀l:List α,-1<=ixF p l/\ixF p l<l.length
 | []=>by simp[ixF]
 | a ::l=>by
   have ih:=G4 p l;simp only[ixF,List.length_cons];cases p a with
   | true=>simp only[cond_true];omega
   | false=>
     simp only[cond_false];cases h:(ixF p l== -1) with
     | true=>simp only[cond_true];omega
     | false=>simp only[cond_false];omega
theorem Qdz {f:Nat->α->Unit->Rd Int Unit Unit} {e:Nat->Unit->Unit} (hf:∀k a s,f k a s=bif p a then .ret ((k:Nat):Int) else .next ()):∀(l:List α) (k:Nat),Xp f e l k ()=bif ixF p l== -1 then .brk () else .ret ((k:Int)+ixF p l)
 | [],k=>rfl
 | a :: l,k=>by
   simp only[Xp,hf,ixF];cases p a with
   | true=>simp only[cond_true];rw[show ((0:Int)== -1)=false from rfl,cond_false,Int.add_zero]
   | false=>
     simp only[cond_false];rw[Qdz hf l (k+1)];have hb:=G4 p l;cases h:(ixF p l== -1) with
     | true=>simp only[cond_true];rfl
     | false=>
       have hne:ixF p l≠-1:=by simpa using h
       simp only[cond_false];rw[show (ixF p l+1== -1)=false by simp;omega,cond_false]
       congr 1;omega
theorem IT {f:Nat->α->Unit->Rd Int Unit Unit} {e:Nat->Unit->Unit} (hf:∀k a s,f k a s=bif p a then .ret ((k:Nat):Int) else .next ()) (l:List α):Out.on (Xp f e l 0 ()) (λ_=> -1)=ixF p l:=by
 rw[Qdz hf];cases h:(ixF p l== -1) with
 | true=>simp only[cond_true,Out.on];exact (by simpa using h:ixF p l= -1).symm
 | false=>simp only[cond_false,Out.on];omega
theorem Qcd {l :List α} (h:ixF p l= -1):∀a,a∈l->p a=false:=by
 induction l with
 | nil=>intro a ha;simp at ha
 | cons b l ih =>
   intro a ha;have hb:=G4 p l;simp only[ixF] at h;cases hp:p b with
   | true=>rw[hp] at h;simp at h
   | false=>
     rw[hp] at h;simp only[cond_false] at h;cases h2:(ixF p l== -1) with
     | true => rcases List.mem_cons.1 ha with rfl | ha
               . exact hp
               exact ih (by simpa using h2) a ha
     | false=>rw[h2] at h;simp only[cond_false] at h;omega
theorem Qce {l:List α} {i:Nat} (h:ixF p l=(i:Int)):(l.take i).filter (λa=> !p a)=l.take i/\∃a,l[i]? =some a/\p a=true:=by
 induction l generalizing i with
 | nil=>simp[ixF] at h
 | cons b l ih=>
   have hb:=G4 p l;simp only[ixF] at h;cases hp:p b with
   | true=>
     rw[hp] at h;simp only[cond_true] at h;obtain rfl:i=0:=by omega
     exact ⟨rfl,b,rfl,hp⟩
   | false=>
     rw[hp] at h;simp only[cond_false] at h;cases h2:(ixF p l== -1) with
     | true=>rw[h2] at h;simp only[cond_true] at h;omega
     | false=>
       rw[h2] at h;simp only[cond_false] at h;have:ixF p l≠-1:=by simpa using h2
       obtain ⟨j,rfl⟩:∃j,i=j+1:=⟨i-1,by omega⟩;obtain ⟨h3,a,h4,h5⟩:=ih (i:=j) (by omega);exact ⟨by simp[hp,h3],a,by simpa using h4,h5⟩
theorem IU {R S T:Type} {f:S->Rd R S T}:∀{n m:Nat} {s:S} {x:Out R T},whl f n s=some x->n<=m->whl f m s=some x
 | 0,_,_,_,h,_=>by simp[whl] at h
 | n+1,0,_,_,_,hm=>absurd hm (Nat.not_succ_le_zero n)
 | n+1,m+1,s,x,h,hm=>by
   simp only[whl] at h⊢;cases hf:f s with
   | brk t=>rw[hf] at h;exact h
   | ret r=>rw[hf] at h;exact h
   | next s'=>rw[hf] at h;exact IU h (by omega)
variable [Inhabited α]
def So {R:Type} (f:List α×Int×Int->Rd R (List α×Int×Int) (List α×Int)) (p:α->Bool):Prop:=
 ∀(s:List α) (i j:Nat),i<j->j<=1073741824->f (s,(i:Int),(j:Int))=bif decide ((j:Int)<(s.length:Int)) then (bif p (nth s j) then .next (s,(i:Int),((j+1:Nat):Int)) else .next (s.set i (nth s j),((i+1:Nat):Int),((j+1:Nat):Int))) else .brk (s,(i:Int))
theorem EN {R:Type} {f:List α×Int×Int->Rd R (List α×Int×Int) (List α×Int)} (hf:So f p) (o:List α) (ho:o.length<=1073741824):∀(n:Nat) (s:List α) (i j:Nat),j+n=o.length->i<j->s.length=o.length->s.take i=(o.take j).filter (λa=> !p a)->s.drop j=o.drop j->
 ∃s' i',whl f (n+1) (s,(i:Int),(j:Int))=some (.brk (s',((i':Nat):Int)))/\s'.take i'=o.filter (λa=> !p a)/\i'<o.length/\s'.length=o.length
 | 0,s,i,j,hn,hij,hl,ht,hd=>by
   refine ⟨s,i, ?_, ?_,by omega,hl⟩
   . simp only[whl,hf s i j hij (by omega)];rw[decide_eq_false (by omega)];rfl
   rw[ht,List.take_of_length_le (by omega)]
 | n +1,s,i,j,hn,hij,hl,ht,hd=>by
   have hj:j<s.length:=by omega
   have hjo:j<o.length:=by omega
   have hx:nth s j=o[j]:=by
    have h1:s[j]? =o[j]? :=by
     have:=congrArg (λl=>l[0]?) hd;simpa [List.getElem?_drop] using this
    rw[List.getElem?_eq_getElem hjo] at h1;simp[nth,List.getD,h1]
   have htj:o.take (j+1)=o.take j++ [o[j]]:=by rw[List.take_add_one,List.getElem?_eq_getElem hjo];rfl
   have hd1:∀s2:List α,s2.drop (j+1)=s.drop (j+1)->s2.drop (j+1)=o.drop (j+1):=λs2 h2=>by
    have:=congrArg (List.drop 1) hd;rw[List.drop_drop,List.drop_drop] at this;exact h2.trans this
   have hst:f (s,(i:Int),(j:Int))=_:=hf s i j hij (by omega);rw[decide_eq_true (by omega),hx] at hst;simp only[cond_true] at hst;cases hp:p o[j] with
   | true=>
     rw[hp] at hst;simp only[whl,hst,cond_true];exact EN hf o ho n s i (j+1) (by omega) (by omega) hl (by rw[ht,htj,List.filter_append];simp[hp]) (hd1 s rfl)
   | false=>
     rw[hp] at hst;simp only[whl,hst,cond_false];refine EN hf o ho n (s.set i o[j]) (i+1) (j+1) (by omega) (by omega) (by simpa using hl) ?_ (hd1 _ (List.drop_set_of_lt (by omega)));rw[htj,List.filter_append,←ht];rw[List.take_add_one,List.take_set_of_le (Nat.le_refl i),List.getElem?_set_self (by omega)];simp[hp]
theorem IV {R:Type} {f:List α×Int×Int->Rd R (List α×Int×Int) (List α×Int)} (hf:So f p) {o:List α} (ho:o.length<=1073741824) {ix:Int} (hix:ix=ixF p o) (hne:ix≠-1):
 ∃s' i',whl f (o.length+1) (o,ix,ix+1)=some (.brk (s',((i':Nat):Int)))/\s'.take i'=o.filter (λa=> !p a)/\i'<o.length/\s'.length=o.length:=by
 have hb:=G4 p o;obtain ⟨i,hi⟩:∃i:Nat,ix=(i:Int):=⟨ix.toNat,by omega⟩;obtain ⟨h1,a,h2,h3⟩:=Qce (p:=p) (l:=o) (i:=i) (by omega);have hio:i<o.length:=by omega
 obtain ⟨s',i',h4,h5⟩:=EN hf o ho (o.length-(i+1)) o i (i+1) (by omega) (by omega) rfl (by
  rw[List.take_add_one,h2,List.filter_append,h1];simp[h3]) rfl
 refine ⟨s',i', ?_,h5⟩;subst hi;exact IU h4 (by omega)
theorem IW {R:Type} {f:List α×Int×Int->Rd R (List α×Int×Int) (List α×Int)} (hf:So f p) {o:List α} (ho:o.length<=1073741824) {ix:Int} (hix:ix=ixF p o) (hne:ix≠-1):(whl f (o.length+1) (o,ix,ix+1)).isSome=true:=by
 obtain ⟨s',i',h,_⟩:=IV hf ho hix hne;rw[h];rfl
theorem Qd0 {f:List α×Int×Int->Rd (List α) (List α×Int×Int) (List α×Int)} (hf:So f p) {o:List α} (ho:o.length<=1073741824) {ix:Int} (hix:ix=ixF p o):
 (bif (ix==(-1:Int)) then o else Out.on (Lh f (o.length+1) (o,ix,ix+1)) (λy=>List.take (Int.toNat y.2) y.1))=o.filter (λa=> !p a):=by
 cases h:(ix==(-1:Int)) with
 | true=>
   have h:ix= -1:=by simpa using h
   simp only[cond_true];exact (List.filter_eq_self.2 λa ha=>by simp[Qcd (hix▸h) a ha]).symm
 | false=>
   obtain ⟨s',i',h1,h2,_⟩:=IV hf ho hix (by simpa using h);simp only[cond_false,Lh,h1];simpa [Out.on] using h2
end
open GoE (enc wide)
theorem EO {s : X1} (h : Q7 s = true) : s.2.1.length ≤ 12 := by
  unfold Q7 at h
  cases hf : Xp (Yj s) Zt s.2.1 0 () with
  | brk t =>
    rw [hf] at h
    simp only [Out.on, Bool.and_eq_true, decide_eq_true_eq] at h
    omega
  | ret r =>
    rw [hf] at h
    obtain rfl : r = true := h
    exfalso
    have key : ∀ (l : List Yh) k, Xp (Yj s) Zt l k () ≠ .ret true := by
      intro l
      induction l with
      | nil => intro k h; simp [Xp] at h
      | cons a l ih =>
        intro k h
        simp only [Xp] at h
        unfold Yj at h
        split at h
        · rename_i hf; exact ih _ h
        · cases h
        rename_i r hf; cases h; revert hf; generalize (_ || _ : Bool) = c; cases c <;> simp
    exact key _ _ hf
theorem IX (nm : ByteArray) : ∀ (o : List Qg) (k : Nat), Xp (Ku nm) V7 o k () = .brk () ∨ ∃ x, x ∈ o ∧ Xp (Ku nm) V7 o k () = .ret x.2
  | [], _ => .inl rfl
  | b :: o, k => by
    simp only [Xp, Ku]
    cases (b.1.toList == nm.toList) with
    | true => exact .inr ⟨b, List.mem_cons_self .., rfl⟩
    | false =>
      simp only [cond_false]
      rcases IX nm o (k + 1) with h | ⟨x, hx, h⟩
      · exact .inl h
      exact .inr ⟨x, List.mem_cons_of_mem _ hx, h⟩
end
section
theorem IY {α : Type} [DecidableEq α] : ∀ {l N : List α}, l.Nodup → (∀ x, x ∈ l → x ∈ N) → l.length ≤ N.length
  | [], _, _, _ => Nat.zero_le _
  | a :: l, N, hn, hs => by
    have hn' := List.nodup_cons.1 hn
    have ha := hs a (List.mem_cons_self ..)
    have h := IY (l := l) (N := N.erase a) hn'.2 λx hx => (List.mem_erase_of_ne (λe : x = a => hn'.1 (by rw [← e]; exact hx))).2 (hs x (List.mem_cons_of_mem _ hx))
    rw [List.length_erase_of_mem ha] at h
    have : 0 < N.length := List.length_pos_of_mem ha
    rw [List.length_cons]
    omega
def Fresh {α : Type} (N out out' : List α) : Prop := ∃ new : List α, out' = out ++ new ∧ new.Nodup ∧ ∀ x, x ∈ new → x ∉ out ∧ x ∈ N
theorem Fresh.refl {α : Type} (N out : List α) : Fresh N out out := ⟨[], by simp, List.nodup_nil, by simp⟩
theorem Fresh.one {α : Type} {N out : List α} {x : α} (h1 : x ∉ out) (h2 : x ∈ N) : Fresh N out (out ++ [x]) := ⟨[x], rfl, by simp, by simp [h1, h2]⟩
theorem Fresh.trans {α : Type} {N a b c : List α} (h : Fresh N a b) (k : Fresh N b c) : Fresh N a c := by
  obtain ⟨p, rfl, h1, h2⟩ := h
  obtain ⟨q, rfl, k1, k2⟩ := k
  refine ⟨p ++ q, by rw [List.append_assoc], List.nodup_append.2 ⟨h1, k1, λx hx y hy e => ?_⟩, λx hx => ?_⟩
  · subst e
    exact (k2 _ hy).1 (List.mem_append_right _ hx)
  rcases List.mem_append.1 hx with hx | hx
  · exact h2 x hx
  exact ⟨λh => (k2 x hx).1 (List.mem_append_left _ h), (k2 x hx).2⟩
theorem IZ {l : List ByteArray} (h : ∀ i, i + 1 < l.length → bl (nth l i) (nth l (i + 1)) = true) : UK l := by
  have key : ∀ j i, i < j → j < l.length → bl (nth l i) (nth l j) = true := by
    intro j
    induction j with
    | zero => intro i hi; omega
    | succ j ih =>
      intro i hi hj
      by_cases e : i = j
      · subst e; exact h i hj
      exact Pw (ih i (by omega) (by omega)) (h j hj)
  unfold UK
  rw [List.pairwise_iff_getElem]
  intro i j hi hj hij
  have := key j i hij hj
  simpa [nth, List.getD, hi, hj] using this
theorem SN {l : List ByteArray} (h : UK l) : l.Nodup := h.imp λ{a b} hab e => by
  subst e
  rw [RK] at hab
  cases hab
theorem SO (n : ByteArray) : ∀ (l : List Yd) (k : Nat), Out.on (Xp (Vh n) W5 l k ()) (λ_ => 0) ≠ 0 → n ∈ l.map (·.1)
  | [], _, h => by simp [Xp, Out.on] at h
  | a :: l, k, h => by
    simp only [Xp, Vh] at h
    cases hc : (a.1.toList == n.toList) with
    | true =>
      rw [toList_inj] at hc
      have : a.1 = n := of_decide_eq_true hc
      rw [← this]; simp
    | false =>
      rw [hc] at h
      simp only [cond_false] at h
      exact List.mem_cons_of_mem _ (SO n l (k + 1) h)
theorem EP {s : List Yd} (h : X7 s = true) : s.length ≤ 5 := by
  unfold X7 at h
  cases hf : Xp (Xz s) Zj s 0 () with
  | brk t =>
    rw [hf] at h
    simp only [Out.on, decide_eq_true_eq] at h
    omega
  | ret r =>
    rw [hf] at h
    obtain rfl : r = true := h
    exfalso
    have key : ∀ (l : List Yd) k, Xp (Xz s) Zj l k () ≠ .ret true := by
      intro l
      induction l with
      | nil => intro k h; simp [Xp] at h
      | cons a l ih =>
        intro k h
        simp only [Xp] at h
        unfold Xz at h
        split at h
        · rename_i hf; exact ih _ h
        · cases h
        rename_i r hf; cases h; revert hf; generalize (_ || _ : Bool) = c; cases c <;> simp
    exact key _ _ hf
theorem BM {s : List Yd} {f : Yh} (h : Yq s f = true) : (∃ t, Xp (Y2 s f) K9 f.2.2.2.2 0 () = .brk t) ∧ X7 s = true := by
  unfold Yq at h
  cases hl : Xp (Y2 s f) K9 f.2.2.2.2 0 () with
  | brk t =>
    rw [hl] at h
    simp only [Out.on, Bool.and_eq_true] at h
    exact ⟨⟨t, rfl⟩, h.2.2.2⟩
  | ret r =>
    rw [hl] at h
    obtain rfl : r = true := h
    exfalso
    have key : ∀ (l : List Jl) k, Xp (Y2 s f) K9 l k () ≠ .ret true := by
      intro l
      induction l with
      | nil => intro k h; simp [Xp] at h
      | cons a l ih =>
        intro k h
        simp only [Xp] at h
        unfold Y2 at h
        split at h
        · rename_i hf; exact ih _ h
        · cases h
        rename_i r hf; cases h; revert hf; generalize (bif decide (((k : Nat) : Int) > (0 : Int)) then _ else _ : Bool) = c; cases c <;> simp
    exact key _ _ hl
theorem XX {s : List Yd} {f : Yh} (h : Yq s f = true) : List.length f.2.2.2.2 ≤ 5 := by
  obtain ⟨⟨t, hl⟩, hs⟩ := BM h
  have hat : ∀ i a, f.2.2.2.2[i]? = some a → (0 < i → bl (nth f.2.2.2.2 (i - 1)).1 a.1 = true) ∧ Xx s a.1 a.2 = true := λi a hi => by
    have := Ej (λk a t => by unfold Y2; generalize (bif decide (((k : Nat) : Int) > (0 : Int)) then _ else _ : Bool) = c; cases c <;> simp) hl i a hi
    rw [Nat.zero_add] at this
    unfold Y2 at this
    cases hm : Xx s a.1 a.2 with
    | false => rw [hm] at this; simp at this
    | true =>
      refine ⟨λh0 => ?_, rfl⟩
      rw [hm, decide_eq_true (show ((i : Nat) : Int) > 0 by omega)] at this
      simp only [cond_true, Bool.not_true, Bool.or_false] at this
      rw [show Int.toNat (((i : Nat) : Int) - 1) = i - 1 by omega] at this
      cases hb : bl (nth f.2.2.2.2 (i - 1)).1 a.1 with
      | true => rfl
      | false =>
        unfold bl at hb
        rw [hb] at this
        simp at this
  have hasc : UK (f.2.2.2.2.map (·.1)) := IZ λi hi => by
    rw [List.length_map] at hi
    have := (hat (i + 1) _ (Wr hi)).1 (by omega)
    have e : ∀ j, j < f.2.2.2.2.length → nth (f.2.2.2.2.map (·.1)) j = (nth f.2.2.2.2 j).1 := λj hj => by simp [nth, List.getD, hj]
    rw [e i (by omega), e (i + 1) hi]
    exact this
  have hsub : ∀ x, x ∈ f.2.2.2.2.map (·.1) → x ∈ s.map (·.1) := λx hx => by
    obtain ⟨a, ha, rfl⟩ := List.mem_map.1 hx
    obtain ⟨i, hi⟩ := List.getElem?_of_mem ha
    have hm := (hat i a hi).2
    unfold Xx at hm
    simp only [Bool.and_eq_true, bne_iff_ne, beq_iff_eq] at hm
    exact SO a.1 s 0 λe => hm.2.1 (hm.2.2.trans e)
  have := IY (SN hasc) hsub
  rw [List.length_map, List.length_map] at this
  have := EP hs
  omega
theorem EQ {s : X1} (h : Q7 s = true) {f : Yh} (hf : f ∈ s.2.1) : Yq s.1 f = true := by
  unfold Q7 at h
  obtain ⟨i, hi⟩ := List.getElem?_of_mem hf
  cases hl : Xp (Yj s) Zt s.2.1 0 () with
  | brk t =>
    have := Ej (λk a t => by unfold Yj; generalize (_ || _ : Bool) = c; cases c <;> simp) hl i f hi
    unfold Yj at this
    cases hv : Yq s.1 f with
    | true => rfl
    | false => rw [hv] at this; simp at this
  | ret r =>
    rw [hl] at h
    obtain rfl : r = true := h
    exfalso
    have key : ∀ (l : List Yh) k, Xp (Yj s) Zt l k () ≠ .ret true := by
      intro l
      induction l with
      | nil => intro k h; simp [Xp] at h
      | cons a l ih =>
        intro k h
        simp only [Xp] at h
        unfold Yj at h
        split at h
        · rename_i hf; exact ih _ h
        · cases h
        rename_i r hf; cases h; revert hf; generalize (_ || _ : Bool) = c; cases c <;> simp
    exact key _ _ hl
theorem F2 {s : X1} (h : Q7 s = true) {f : Yh} (hf : f ∈ s.2.1) : List.length f.2.2.2.2 ≤ 5 := XX (EQ h hf)
open GoE (enc wide)
set_option maxRecDepth 100000 in
set_option maxHeartbeats 4000000 in
theorem ER (w:World) (oa:Option Addr) (m cap:Nat) (olds:List Value) (i vb voff vc:Nat) (vs:List Value) (hR:RowAt w 4 oa m cap olds) (hO:OneAt w 4 oa cap vb voff vs) (hi:i<=m):Calls Tryz.prog 128 #[.slice oa m cap,.int .i64 (i:Int),.slice (some ⟨vb,voff,none⟩) 1 vc] w (DD w 4 i oa m cap olds vs):=by
 have hei:=Y7 Qb (t:=135) rfl;have hu:=(Y7 Qb (t:=97) rfl).sli;have hui:=run_underlying (P:=Tryz.prog) hu;have hsz:∀w,(Go.sizeOf 135).run Tryz.prog w= .ok 4 w:=λw=>Hf (Y7 Qb (t:=135) rfl) w
 have hlim:=hR.lim;have hle:=hR.le;have hcm:cap<=9223372036854775807:=by have:=hR.cap;unfold maxLen at this;omega
 have mixed:=Zf;have hz1:¬((1:Int)=0):=by omega
 by_cases him:i=m
 . subst him;obtain ⟨u,w',hrun,u',h1,hT⟩:=Qcc (vc:=vc) hu hei (by decide) hR hO;cases h1
   have hc:Calls Tryz.prog 128 #[.slice oa i cap,.int .i64 (i:Int),.slice (some ⟨vb,voff,none⟩) 1 vc] w (λe w2=>e= .returned u/\w2=w'):=by
    clear hT hR hO hei;go_enter Tryz.func128,Tryz.ntmps128
    cases oa with
    | none=>
      go_wp2_with (at_builtin;refine Lib.wpList_append_run _ rfl _ _ _ _ rfl _ _ rfl rfl _ _ (hrun _) ?_)
      all_goals (go_ret;exact ⟨rfl,rfl⟩)
    | some a=>
      obtain ⟨ab,ao,asp⟩:=a;go_wp2_with (at_builtin;refine Lib.wpList_append_run _ rfl _ _ _ _ rfl _ _ rfl rfl _ _ (hrun _) ?_)
      all_goals (go_ret;exact ⟨rfl,rfl⟩)
   exact hc.mono (by rintro e w2 ⟨rfl,rfl⟩;exact ⟨_,rfl,hT⟩)
 rcases hR.row with ⟨_,h0,_⟩ | ⟨g,cur,e0,rfl,hg,hcs,htk⟩
 . omega
 have him2:i<m:=by omega
 have hz2:¬((i:Int)=(m:Int)):=by omega
 have hw1:IntKind.i64.wrap ((m:Int)+1)=(m:Int)+1:=by rw[IntKind.wrap_i64];omega
 have hw2:IntKind.i64.wrap ((i:Int)+1)=(i:Int)+1:=by rw[IntKind.wrap_i64];omega
 have htn:((i:Int)+1).toNat=i+1:=by omega
 have htm:((m:Int)+1).toNat=m+1:=by omega
 have hb1:(0:Int)<=(i:Int)+1:=by omega
 have hb3:(i:Int)<=(m:Int)+1:=by omega
 have hbm:(0:Int)<=(m:Int)+1:=by omega
 have hin:i<=m:=hi;obtain ⟨hvw,arrA,tA,frA,hA,hposA⟩:=hO.block (by decide);have hcp:0<cap:=by omega
 have hvg:vb≠g:=hO.ne g rfl hcp
 have hov:∀o lb cb,(callFunc 162 #[.slice (some ⟨vb,voff,none⟩) 1 vc,.slice (some ⟨g,o,none⟩) lb cb]).run Tryz.prog w= .ok (.value (.bool false)) w:=λo lb cb=>by
  rw[run_callFunc_extern Tryz.func162 (by kernel_rfl) (by kernel_rfl) (by kernel_rfl) (e:=Extern.SlicesOverlaps.overlaps #[97,97] #[4]) (by kernel_rfl),BJ w 97 4 135 hu 4 hsz ⟨vb,voff,none⟩ ⟨g,o,none⟩ 1 vc lb cb hvg hA hg (by omega) hposA];rfl
 by_cases hroom:m+1<=cap
 . obtain ⟨q1,q2,q3⟩:=BL (vc:=vc) (w:=w) hu hei (by decide) hg hcs htk hR hO him2 hroom;have hb2:¬(cap=i+1):=by omega
   have hb4:¬(cap=i):=by omega
   have hng:¬((cap:Int)<(m:Int)+1):=by omega
   have hmc:((m:Int)+1)<=(cap:Int):=by omega
   have hc:Calls Tryz.prog 128 #[.slice (some ⟨g,0,none⟩) m cap,.int .i64 (i:Int),.slice (some ⟨vb,voff,none⟩) 1 vc] w (λe w2=>e= .returned (.slice (some ⟨g,0,none⟩) (m+1) cap)/\w2=(w.drew.setCells g ((i+1)*4) (olds.drop (i*4))).setCells g (i*4) vs):=by
    obtain ⟨q4,q5,q6⟩:=BL (vc:=vc) (w:=w.drew) hu hei (by decide) hg hcs htk ⟨hR.len,hR.row,hR.le,hR.cap,hR.lim,hR.ones⟩ ⟨hO.len,hO.cells,hO.ones,hO.ne⟩ him2 hroom;clear hR hO hei q1 q2 q3 q6 hg hA hcs htk;go_enter Tryz.func128,Tryz.ntmps128
    go_wp2_with (simp only[hov])
    go_region_law (refine S9 rfl _ _ 97 97 rfl (.slice (some ⟨g,(i+1)*4,none⟩) (m+1-(i+1)) (cap-(i+1))) (.slice (some ⟨g,i*4,none⟩) (m+1-i) (cap-i)) (by simp[Act.eval,Act.put]) (by simp[Act.eval,Act.put]) (q4 _ _ _) ?_)
    go_wp2_with (at_builtin;refine Nz rfl _ _ 97 97 rfl (.slice (some ⟨g,i*4,none⟩) (m+1-i) (cap-i)) _ (by simp[Act.eval,Act.put]) rfl (q5 _ rfl _ _) ?_)
    go_ret
    exact ⟨rfl,rfl⟩
   refine hc.mono ?_
   rintro e w2 ⟨rfl,rfl⟩
   obtain ⟨p1,p2,p3⟩:=He g (olds.drop (i*4)) ((i+1)*4) w.drew;exact q3 _ (F1 g _ _ w) p1 p2 p3
 obtain ⟨G,W1,hG1,hG2,qa,qb,qc,qd,o1,o2,o3⟩:=SM (vc:=vc) (tn:=3) hu (by kernel_rfl) hei (by decide) hg hcs htk hR hO hvw him2 (by omega);have hG63:G<=9223372036854775807:=by unfold maxLen at hG2;omega
 have hGi:¬(G=i):=by omega
 have hGim:¬(G=i+1):=by omega
 have hci:¬(cap=i):=by omega
 have hlt:(cap:Int)<(m:Int)+1:=by omega
 have hw3:IntKind.i64.wrap ((m:Int)+1-(i:Int))=(m:Int)+1-(i:Int):=by rw[IntKind.wrap_i64];omega
 have hii:(i:Int)<=(m:Int):=by omega
 have hqa:∀ty,(Builtin.append_ #[97,3] ty #[.slice (some ⟨g,0,none⟩) i cap,.int .i64 ((m:Int)+1-(i:Int))]).run Tryz.prog w= .ok (.slice (some ⟨w.heap.size,0,none⟩) (m+1) G) W1:=λty=>qa ty _ (by omega)
 have hqb:=qb W1 rfl;have hqc:=qc (W1.setCells w.heap.size (i*4) vs).drew rfl
 have hc:Calls Tryz.prog 128 #[.slice (some ⟨g,0,none⟩) m cap,.int .i64 (i:Int),.slice (some ⟨vb,voff,none⟩) 1 vc] w (λe w2=>e= .returned (.slice (some ⟨w.heap.size,0,none⟩) (m+1) G)/\w2=(W1.setCells w.heap.size (i*4) vs).drew.setCells w.heap.size ((i+1)*4) (olds.drop (i*4))):=by
  clear hR hO hei qa qb qc qd hg hA hcs htk hov hG1 hG2;go_enter Tryz.func128,Tryz.ntmps128
  go_wp2_with (first
   | (at_builtin;refine Lib.wpList_append_run _ rfl _ _ _ _ rfl _ _ rfl rfl _ _ (hqa _) ?_)
   | (at_builtin;refine Nz rfl _ _ 97 97 rfl (.slice (some ⟨w.heap.size,i*4,none⟩) (m+1-i) (G-i)) _ (by simp[Act.eval,Act.put]) rfl (hqb _ _) ?_))
  go_region_law (refine S9 rfl _ _ 97 97 rfl (.slice (some ⟨w.heap.size,(i+1)*4,none⟩) (m+1-(i+1)) (G-(i+1))) (.slice (some ⟨g,i*4,none⟩) (m-i) (cap-i)) (by simp[Act.eval,Act.put]) (by simp[Act.eval,Act.put]) (hqc _ _ _) ?_)
  go_wp2
  go_ret
  exact ⟨rfl,rfl⟩
 refine hc.mono ?_
 rintro e w2 ⟨rfl,rfl⟩
 obtain ⟨p1,p2,p3⟩:=He w.heap.size vs (i*4) W1;exact qd _ rfl (p1.trans o1) (p2.trans o2) (p3.trans o3)
theorem BN (l:List Jl) (y:Jl) {i:Int} (hi:0<=i) (hj:i<=l.length) (hl:l.length<1073741824):ATake Tryz.prog 128 4 (eL l) [.one (.int .i64 i),.one (.slc .sh 4 (eL [y]))] true false (eL (I0 l i.toNat y)):=
 NA (by unfold Ee;kernel_rfl) (by decide) (λw oa m cap olds i vb voff vc vs=>ER w oa m cap olds i vb voff vc vs) l y hi hj hl
def Kv (id:Int) (q0:List Int):Bool:=(Kj q0 id)
theorem Mk (id:Int) (q0:List Int):ACalls Tryz.prog 195 [.i id,.one (.rptr .sh [.h q0])] (.b (Kv id q0)):=by
 refine en Qb Tryz.func195 λw0 F0 hG=> ?_
 exact sn Qb [0,1,3] [] p0 <| tn Qb [3] [] (pc 2 (Ef q0 id) p0) <| Qk <| pb [] (show Kv id q0=(Kj q0 id) from rfl)
def Km (c0:List Int) (k0:Nat) (a0:Int) (_:Unit):Rd (Int) (Unit) (Unit):=(bif (Kv a0 c0) then (.ret (k0:Int)) else (.next ()))
def Kn (_:Nat) (_:Unit):Unit:=()
def Qr (s_:List Int) (c0:List Int):Int:=(Out.on (Xp (Km c0) Kn s_ 0 ()) (λ_=> -1))
theorem Ko (s_:List Int) (c0:List Int):Qr s_ c0=ixF (λa=>Kv a c0) s_:=IT (λ_ _ _=>rfl) s_
theorem Bd (s_:List Int) (c0:List Int): -1<=Qr s_ c0/\Qr s_ c0<(List.length s_:Int):=by rw[Ko];exact G4 _ _
theorem B4 (s_:List Int) (c0:List Int):ACalls Tryz.prog 210 [.h s_,.one (.fnr 195 [[.h c0]])] (.i (Qr s_ c0)):=by
 refine en Qb Tryz.func210 λw0 F0 hG=> ?_
 refine sn Qb [0,1,4] [] p0 <| Qc <| tn Qb [0,1,4,7,8] [] (pl 1 s_ p0) <| mz [(4,.i 0),(7,.i (s_.length:Int)),(8,.i 0)] [] [] [] <| wT 0 0 .sh s_ (λhw1 hl2=> ?_)
 refine M8 (Km c0) Kn s_ () (λk0 _=> [(8,.i (k0:Int))]) [8] (λ_=> []) [0,1,7,8] wf0 (λk0 s0 hk0 U=> ?_) (λk0 s0 hk0 U=> ?_) (λy0 hD0=> ?_)
 ·obtain ⟨a0,V⟩:=Xs (l:=s_) (i:=k0) hk0;refine sn Qb [0,1,4,7,8,9] [] (pe 0 (zB ((k0:Int)<(s_.length:Int))) p0) <| Qc <| ckT <| Qi <| Qc <| Qx <| tn Qb [0,1,4,5,7,8] [] p0 <| tu Qb [(5,.i (k0:Int)),(16,.b (Kv a0 c0))] [] [] [] (pn 3 V (pc 5 (Mk a0 c0) p0)) <| ck (Kv a0 c0) (λh3=> ?_) (λh3=> ?_)
  ·refine sn Qb [0,1,4,7,8] [] p0 <| Qk ?_
   have hr4:(Xp (Km c0) Kn s_ 0 ())= .ret (k0:Int):=Z6 V (X6 h3 (rfl)) U;exact pi [] (M5 hr4)
  refine Qi <| rn Qb [0,1,4,7,8] [] (pe 0 (Js (Qq k0 (by omega))) p0) ?_
  exact xw _ (Qw V (Qy h3 (rfl)) U)
 ·exact sn Qb [0,1,4,7,8,9] [] (pe 0 (zC ((k0:Int)<(s_.length:Int))) p0) <| Qc <| ckF <| Xe <| xw _ (Xy hk0 (rfl) U)
 exact sn Qb [4] [] p0 <| Qk <| pi [] (Ur hD0 (rfl))
def Yk (c0:List Int) (s0:(List Int)×Int×Int):Rd (List Int) ((List Int)×Int×Int) ((List Int)×Int):=(bif decide (s0.2.2<(s0.1.length:Int)) then (bif (!(Kv (nth s0.1 s0.2.2.toNat) c0)) then (.next (List.set s0.1 s0.2.1.toNat (nth s0.1 s0.2.2.toNat),(s0.2.1+1),(s0.2.2+1))) else (.next (s0.1,s0.2.1,(s0.2.2+1)))) else (.brk (s0.1,s0.2.1)))
def Xq (s_:List Int) (c0:List Int):(List Int):=(bif ((Qr s_ c0)==(-1:Int)) then s_ else (Out.on (Lh (Yk c0) (List.length s_+1) (s_,(Qr s_ c0),((Qr s_ c0)+1))) (λy0=>List.take y0.2.toNat y0.1)))
theorem Wf (c0:List Int):So (Yk c0) (λa=>Kv a c0):=by
 intro s i j hij hj;unfold Yk;by_cases h:(j:Int)<(s.length:Int)<;>cases hp:Kv (nth s j) c0<;>simp[h,hp]
theorem Be (s_:List Int) (c0:List Int) (hp:List.length s_<=1073741824) (h:Qr s_ c0≠-1):(whl (Yk c0) (List.length s_+1) (s_,Qr s_ c0,Qr s_ c0+1)).isSome=true:=IW (Wf c0) hp (Ko s_ c0) h
theorem Wg (s_:List Int) (c0:List Int) (hp:List.length s_<=1073741824):Xq s_ c0=s_.filter (λa=> !(Kv a c0)):=by
 unfold Xq;exact Qd0 (Wf c0) hp (Ko s_ c0)
theorem A5 (s_:List Int) (c0:List Int) (hp:List.length s_<=1073741824):List.length (Xq s_ c0)<=List.length s_:=by rw[Wg _ _ hp];exact List.length_filter_le _ _
theorem Bf (s_:List Int) (c0:List Int):ATake Tryz.prog 194 1 (eL s_) [.one (.fnr 195 [[.h c0]])] true false (eL (Xq s_ c0)):=by
 refine IQ (tt:=tt) Qb Tryz.func194 (fn:=Tryz.f194) rfl (by unfold Ee;kernel_rfl) (Nat.le_of_ble_eq_true rfl) (by simp[AV.cells,C.key,C.bkeys]) (t:=4) rfl λw0 F0 hG=> ?_
 refine wT 0 0 (.own false 63) s_ (λhw1 hl2=> ?_);have hix:=Bd s_ c0;refine sn Qb [0,1,4] [] p0 <| tn Qb [0,1,4,5] [] (pc 2 (B4 s_ c0) p0) <| Qc <| tu Qb [(4,.e 0),(5,.i (Qr s_ c0)),(12,.b ((Qr s_ c0)==(-1:Int)))] [] [] [] p0 <| ck ((Qr s_ c0)==(-1:Int)) (λh3=> ?_) (λh3=> ?_)
 ·refine sn Qb [0,1,4,5] [] p0 <| Qk ?_
  have hE4:Xq s_ c0=s_:=X6 h3 (rfl);exact ⟨.inl rfl,63,by rw[hE4];kernel_rfl⟩
 have h3d:=Zq h3;refine Qi <| Qc <| sn Qb [0,1,4,5,6] [] (pe 1 (Js (IntWalk.i64_in ((Qr s_ c0)+1) (by omega))) p0) <| mz [(6,.i ((Qr s_ c0)+1))] [12] [] [] <| blw (λ(s0:(List Int)×Int×Int)=> [(0,.q 63 s0.1),(5,.i s0.2.1),(6,.i s0.2.2)]) [0,5,6] (λs0=> []) [] (λ(y0:(List Int)×Int)=> [(0,.q 63 y0.1),(5,.i y0.2)]) [0,1,5,6] (λy0=> []) [] (λ(k0:Nat) (s0:(List Int)×Int×Int)=>whl (Yk c0) k0 s0=some (Lh (Yk c0) (List.length s_+1) (s_,(Qr s_ c0),((Qr s_ c0)+1)))/\0<=s0.2.1/\s0.2.1<s0.2.2/\s0.2.2<=(List.length s0.1:Int)/\List.length s0.1=List.length s_) (λ(y0:(List Int)×Int)=>(Lh (Yk c0) (List.length s_+1) (s_,(Qr s_ c0),((Qr s_ c0)+1)))= .brk y0/\0<=y0.2/\y0.2<(List.length y0.1:Int)/\List.length y0.1=List.length s_) (List.length s_+1) (s_,(Qr s_ c0),((Qr s_ c0)+1)) wf0 ⟨M6 (Be s_ c0 hl2 h3d),(by first|omega|(dsimp only;omega) | rfl),(by first|omega|(dsimp only;omega) | rfl),(by first|omega|(dsimp only;omega) | rfl),(by first|omega|(dsimp only;omega) | rfl)⟩ (λ_ h=>M7 h.1) (λk0 s0 U=> ?_) (λy0 hD0=> ?_)
 ·have hA0_0:=U.2.1;have hA0_1:=U.2.2.1;have hA0_2:=U.2.2.2.1;have hA0_3:=U.2.2.2.2;refine Qc <| sn Qb [0,1,4,5,6,19] [] (pl 2 s0.1 p0) <| ck (decide (s0.2.2<(s0.1.length:Int))) (λh5=> ?_) (λh5=> ?_)
  ·have h5d:=of_decide_eq_true h5;refine Qi <| Qc <| Qx <| wT 0 0 (.own false 63) s0.1 (λhw7 hl8=> ?_)
   have hx6:=ng s0.1 s0.2.2.toNat;refine tn Qb [0,1,4,5,6,7] [] (pG 2 s0.2.2 hx6 p0) <| tu Qb [(7,.i (nth s0.1 s0.2.2.toNat)),(29,.b (!(Kv (nth s0.1 s0.2.2.toNat) c0)))] [] [] [] (pc 2 (Mk (nth s0.1 s0.2.2.toNat) c0) p0) <| ck (!(Kv (nth s0.1 s0.2.2.toNat) c0)) (λh9=> ?_) (λh9=> ?_)
   ·have hx10:=ng s0.1 s0.2.1.toNat;refine su Qb [(0,.one (.slc (.own false 63) 1 (setRow (eL s0.1) s0.2.1.toNat 0 [.i (nth s0.1 s0.2.2.toNat)])))] [0,7,29] [] [] (pG 3 s0.2.1 hx10 p0) <| eqn [(0,.q 63 (List.set s0.1 s0.2.1.toNat (nth s0.1 s0.2.2.toNat)))] [0] [] [] (by rw[Zv (y:=(nth s0.1 s0.2.2.toNat)) hx10 rfl]<;>kernel_rfl) ?_
    refine rn Qb [0,1,4,5,6] [] (pe 1 (Js (IntWalk.i64_in (s0.2.1+1) (by omega))) p0) ?_;refine qn Qb [0,1,4,5,6] [] (pe 1 (Js (IntWalk.i64_in (s0.2.2+1) (by omega))) p0) ?_;exact xw (List.set s0.1 s0.2.1.toNat (nth s0.1 s0.2.2.toNat),(s0.2.1+1),(s0.2.2+1)) ⟨wn U.1 (X6 h5 (X6 h9 (rfl))),(by first|omega|(dsimp only;omega) | (simp only[List.length_set];omega)),(by first|omega|(dsimp only;omega) | (simp only[List.length_set];omega)),(by first|omega|(dsimp only;omega) | (simp only[List.length_set];omega)),(by first|omega|(dsimp only;omega) | (simp only[List.length_set];omega))⟩
   refine Qi <| rn Qb [0,1,4,5,6] [] (pe 1 (Js (IntWalk.i64_in (s0.2.2+1) (by omega))) p0) ?_
   exact xw (s0.1,s0.2.1,(s0.2.2+1)) ⟨wn U.1 (X6 h5 (Qy h9 (rfl))),(by first|omega|(dsimp only;omega) | (simp only[List.length_set];omega)),(by first|omega|(dsimp only;omega) | (simp only[List.length_set];omega)),(by first|omega|(dsimp only;omega) | (simp only[List.length_set];omega)),(by first|omega|(dsimp only;omega) | (simp only[List.length_set];omega))⟩
  have h5d:=of_decide_eq_false h5;exact Xe <| xw (s0.1,s0.2.1) ⟨wb U.1 (Qy h5 (rfl)),by first|omega|(simp only[List.length_set];omega),by first|omega|(simp only[List.length_set];omega),by first|omega|(simp only[List.length_set];omega)⟩
 have hD0_0:=hD0.2.1;have hD0_1:=hD0.2.2.1;have hD0_2:=hD0.2.2.2;refine Qc <| BI Qb rfl (by kernel_rfl) rfl rfl rfl rfl rfl (by omega) (by rw[Y5];omega) (λlc11 hllc11 htlc11=> ?_)
 refine sn Qb [4] [] (po 2 (.cut (eL (List.take y0.2.toNat y0.1))) (px (Qgz (show .one (.slc (.own false 0) 1 ((lc11.take y0.2.toNat).drop (Int.toNat 0)))= .q 0 (List.take y0.2.toNat y0.1) from (congrArg (λz=>AV.one (.slc (.own false 0) 1 (z.drop (Int.toNat 0)))) htlc11).trans (VJ (.own false 0) 1 y0.2.toNat y0.2 y0.1 rfl))) (px (Ns (lo:=0) (hi:=y0.2) (n:=(List.length lc11)) (Qdy (by omega) (by rw[hllc11,Y5];omega))) p0))) <| Qk ?_
 have hE12:Xq s_ c0=List.take y0.2.toNat y0.1:=Qy h3 (Ur hD0.1 (rfl));exact ⟨.inl rfl,0,by rw[hE12];kernel_rfl⟩
def Ae (a_:List Int) (b:List Int):(List Int):=Xq a_ b
theorem P8 (a_:List Int) (b:List Int):ACalls Tryz.prog 169 [.h a_,.h b] (.o 0 (Ae a_ b)):=by
 refine en Qb Tryz.func169 λw0 F0 hG=> ?_
 refine sn Qb [0,3,4] [3] p0 <| wT 0 0 .sh a_ (λhw1 hl2=> ?_)
 have hq3:=A5 a_ b hl2;exact tn Qb [4] [] (pc 1 (Sd a_) (po 3 (.take false false (eL (Xq a_ b))) (px (R9 (JX (Bf a_ b) (Up _))) (px (U5 (Up a_)) (px (U5 (Up (Xq a_ b))) p0))))) <| Qk <| po0 [] (show Ae a_ b=Xq a_ b from rfl)
open GoE (enc wide)
def Yp (a_:List Int) (b:List Int):(List Int)×(List Int):=((Ae b a_),(Ae a_ b))
theorem WK (a_:List Int) (b:List Int):ACalls Tryz.prog 135 [.h a_,.h b] (.tup [(false, [.o 0 (((Yp a_ b)).1)]),(false, [.o 1 (((Yp a_ b)).2)])]):=by
 refine en Qb Tryz.func135 λw0 F0 hG=> ?_
 exact sn Qb [0,1,4,5] [] p0 <| tn Qb [4,5] [] (pc 2 (P8 b a_) (pc 5 (P8 a_ b) p0)) <| Qk <| pz [] (show Yp a_ b=((Ae b a_),(Ae a_ b)) from rfl) (λz=> .tup [(false, [.o 0 z.1]),(false, [.o 1 z.2])])
def V2 (a_:List Qg) (_:Nat) (a0:Qg) (s0:List Cs):Rd (List Cs) (List Cs) (List Cs):=(bif decide (IntKind.i64.wrap (((((Yp (Xa a_ a0.1) a0.2)).1).length:Int)+((((Yp (Xa a_ a0.1) a0.2)).2).length:Int))>(0:Int)) then (.next (s0++ [(a0.1,((Yp (Xa a_ a0.1) a0.2)).1,((Yp (Xa a_ a0.1) a0.2)).2)])) else (.next s0))
def Ul (_:Nat) (s0:List Cs):(List Cs):=s0
def Jy (a_:List Qg) (b:List Qg):(List Cs):=(Out.on (Xp (V2 a_) Ul b 0 []) (λy0=>y0))
theorem Sp (a_:List Qg) (b:List Qg):ACalls Tryz.prog 76 [.h a_,.h b] (.o 0 (Jy a_ b)):=by
 refine en Qb Tryz.func76 λw0 F0 hG=> ?_
 refine sn Qb [0,1,4] [] p0 <| tn Qb [0,1,4,5] [] p0 <| Qc <| tu Qb [(4,.e 0),(5,.one (.slc (.own true 640) 3 [])),(11,.h b),(12,.i (b.length:Int)),(13,.i 0)] [1] [] [] (pl 1 b p0) <| wT 11 0 .sh b (λhw1 hl2=> ?_)
 refine AK (V2 a_) Ul b [] (λk0 s0=> [(5,.o 147202 s0),(13,.i (k0:Int))]) [5,13] (λy0=> [(5,.o 147352 y0)]) [0,5,11,12,13] (λk0 s0=>List.length s0<=k0) (Yg [(640,147202)] (by kernel_rfl)) (by simp) (λk0 s0 hk0 U=> ?_) (λk0 s0 hk0 U=> ?_) (λy0 hD0=> ?_)
 ·have hA0_0:=U.2;obtain ⟨a0,V⟩:=Xs (l:=b) (i:=k0) hk0;refine su Qb [(14,.b true)] [] [] [] (pe 0 (zB ((k0:Int)<(b.length:Int))) p0) <| Qc <| ckT <| Qi <| Qc <| Qx <| sn Qb [0,4,5,7,11,12,13] [7] (pn 0 V p0) <| tN Qb Zf [0,4,5,7,8,9,11,12,13] [7] (pc 3 (C1 a_ a0.1) (pc 6 (WK (Xa a_ a0.1) a0.2) p0)) <| tu Qb [(7,.p 7 0),(8,.o 1536 (((Yp (Xa a_ a0.1) a0.2)).1)),(9,.o 1537 (((Yp (Xa a_ a0.1) a0.2)).2)),(32,.b (decide (IntKind.i64.wrap (((((Yp (Xa a_ a0.1) a0.2)).1).length:Int)+((((Yp (Xa a_ a0.1) a0.2)).2).length:Int))>(0:Int))))] [14] [(7, [.s a0.1,.h a0.2])] [] (pl 1 (((Yp (Xa a_ a0.1) a0.2)).1) (pl 3 (((Yp (Xa a_ a0.1) a0.2)).2) p0)) <| ck (decide (IntKind.i64.wrap (((((Yp (Xa a_ a0.1) a0.2)).1).length:Int)+((((Yp (Xa a_ a0.1) a0.2)).2).length:Int))>(0:Int))) (λh3=> ?_) (λh3=> ?_)
  ·have h3d:=of_decide_eq_true h3;refine wT 5 0 (.own true 147202) s0 (λhw4 hl5=> ?_);refine ru Qb [(5,.one (.slc (.own true 2560) 3 ((eL s0)++ [[.s a0.1,.h (((Yp (Xa a_ a0.1) a0.2)).1),.h (((Yp (Xa a_ a0.1) a0.2)).2)]])))] [5,7,8,9,32] [] [7] (pa s0 [(a0.1,((Yp (Xa a_ a0.1) a0.2)).1,((Yp (Xa a_ a0.1) a0.2)).2)] p0) ?_;refine eqn [(5,.o 2560 (s0++ [(a0.1,((Yp (Xa a_ a0.1) a0.2)).1,((Yp (Xa a_ a0.1) a0.2)).2)]))] [5] [] [] (by rw[show ((eL s0)++ [[.s a0.1,.h (((Yp (Xa a_ a0.1) a0.2)).1),.h (((Yp (Xa a_ a0.1) a0.2)).2)]])=(eL (s0++ [(a0.1,((Yp (Xa a_ a0.1) a0.2)).1,((Yp (Xa a_ a0.1) a0.2)).2)])) from Uw (rfl) (rfl)];first | done | kernel_rfl) ?_;refine rn Qb [0,4,5,11,12,13] [] (pe 0 (Js (Qq k0 (by omega))) p0) ?_;exact Exists.intro (s0++ [(a0.1,((Yp (Xa a_ a0.1) a0.2)).1,((Yp (Xa a_ a0.1) a0.2)).2)]) (And.intro (Yg [(2560,147202)] (by kernel_rfl)) ⟨Qw V (X6 h3 (rfl)) U.1,by first|omega|(simp;omega) | simp⟩)
  have h3d:=of_decide_eq_false h3;refine Qi <| rn Qb [0,4,5,11,12,13] [] (pe 0 (Js (Qq k0 (by omega))) p0) ?_
  exact xw s0 ⟨Qw V (Qy h3 (rfl)) U.1,by first|omega|(simp;omega) | simp⟩
 ·have hA0_0:=U.2;exact su Qb [(14,.b false)] [] [] [] (pe 0 (zC ((k0:Int)<(b.length:Int))) p0) <| Qc <| ckF <| Xe <| Exists.intro _ (And.intro (Yg [(147202,147352)] (by kernel_rfl)) (Xy hk0 (rfl) U.1))
 exact sn Qb [4] [] p0 <| Qk <| po0 [] (Ur hD0 (rfl))
def Kk (x:Qg) (y_:Qg):Bool:=((x.1.toList==y_.1.toList)&&(Jc x.2 y_.2))
theorem Nk (x:Qg) (y_:Qg):ACalls Tryz.prog 131 [.a [.s x.1,.h x.2],.a [.s y_.1,.h y_.2]] (.b (Kk x y_)):=by
 refine en Qb Tryz.func131 λw0 F0 hG=> ?_
 refine sn Qb [2,3,4] [2,3] p0 <| Qc <| mz [(2,.p 2 0),(3,.p 3 0),(4,.b false)] [0,1] [(2, [.s x.1,.h x.2]),(3, [.s y_.1,.h y_.2])] [] <| jn [(4,.b ((x.1.toList==y_.1.toList)&&(Jc x.2 y_.2)))] [2,3,4] [] [2,3] (x.1.toList==y_.1.toList) (λh1=> ?_) (λh1=> ?_) ?_
 ·refine rn Qb [4] [] (pt 4 h1 (pc 10 (G3 x.2 y_.2) p0)) ?_;exact zA (by rw[h1]<;>kernel_rfl)
 ·refine rn Qb [4] [] (pf 4 h1 p0) ?_;exact zA (by rw[h1]<;>kernel_rfl)
 exact Qk <| pb [] (show Kk x y_=((x.1.toList==y_.1.toList)&&(Jc x.2 y_.2)) from rfl)
def Yx (s2_:List Qg) (k0:Nat) (a0:Qg) (_:Unit):Rd (Bool) (Unit) (Unit):=(bif (!(Kk a0 (nth s2_ k0))) then (.ret false) else (.next ()))
def Ze (_:Nat) (_:Unit):Unit:=()
def Y1 (s1_:List Qg) (s2_:List Qg):Bool:=(bif ((s1_.length:Int) !=(s2_.length:Int)) then false else (Out.on (Xp (Yx s2_) Ze s1_ 0 ()) (λ_=>true)))
theorem U9 (s1_:List Qg) (s2_:List Qg):ACalls Tryz.prog 130 [.h s1_,.h s2_,.one (.fnr 131 [])] (.b (Y1 s1_ s2_)):=by
 refine en Qb Tryz.func130 λw0 F0 hG=> ?_
 refine sn Qb [0,1,2,6] [] p0 <| Qc <| tn Qb [0,1,2,6,14] [] (pl 1 s1_ (pl 3 s2_ p0)) <| ck ((s1_.length:Int) !=(s2_.length:Int)) (λh1=> ?_) (λh1=> ?_)
 ·exact tu Qb [(6,.b false)] [] [] [] p0 <| Qk <| pb [] (X6 h1 (rfl))
 have h1d:=W9 h1;refine Qi <| Qc <| tu Qb [(6,.b false),(15,.h s1_),(16,.i (s1_.length:Int)),(17,.i 0)] [0] [] [] (pl 1 s1_ p0) <| wT 15 0 .sh s1_ (λhw2 hl3=> ?_)
 refine M8 (Yx s2_) Ze s1_ () (λk0 _=> [(17,.i (k0:Int))]) [17] (λ_=> []) [1,2,15,16,17] wf0 (λk0 s0 hk0 U=> ?_) (λk0 s0 hk0 U=> ?_) (λy0 hD0=> ?_)
 ·obtain ⟨a0,V⟩:=Xs (l:=s1_) (i:=k0) hk0;refine su Qb [(18,.b true)] [] [] [] (pe 0 (zB ((k0:Int)<(s1_.length:Int))) p0) <| Qc <| ckT <| Qi <| Qc <| Qx <| sn Qb [1,2,6,7,8,15,16,17] [8] (pn 1 V p0) <| wT 1 0 .sh s2_ (λhw5 hl6=> ?_)
  have hx4:=ng s2_ k0;refine tn Qb [1,2,6,8,9,15,16,17] [8,9] (pn 2 hx4 p0) <| tu Qb [(30,.b (!(Kk a0 (nth s2_ k0))))] [18] [] [] (pc 3 (Nk a0 (nth s2_ k0)) p0) <| ck (!(Kk a0 (nth s2_ k0))) (λh7=> ?_) (λh7=> ?_)
  ·refine su Qb [] [30] [] [] p0 <| Qk ?_
   have hr8:(Xp (Yx s2_) Ze s1_ 0 ())= .ret false:=Z6 V (X6 h7 (rfl)) U;exact pb [] (Qy h1 (M5 hr8))
  refine Qi <| rn Qb [1,2,6,15,16,17] [] (pe 0 (Js (Qq k0 (by omega))) p0) ?_
  exact xw _ (Qw V (Qy h7 (rfl)) U)
 ·exact su Qb [(18,.b false)] [] [] [] (pe 0 (zC ((k0:Int)<(s1_.length:Int))) p0) <| Qc <| ckF <| Xe <| xw _ (Xy hk0 (rfl) U)
 exact sn Qb [6] [] p0 <| Qk <| pb [] (Qy h1 (Ur hD0 (rfl)))
def Kw (a_:List Qg) (b:List Qg):Bool:=(Y1 a_ b)
theorem P9 (a_:List Qg) (b:List Qg):ACalls Tryz.prog 72 [.h a_,.h b] (.b (Kw a_ b)):=by
 refine en Qb Tryz.func72 λw0 F0 hG=> ?_
 exact sn Qb [0,1,4] [] p0 <| tn Qb [4] [] (pc 2 (U9 a_ b) p0) <| Qk <| pb [] (show Kw a_ b=(Y1 a_ b) from rfl)
def Zi (c:Yb):Bool:=(((Zc c.1 c.2.1)).2&&(Kw (((Zc c.1 c.2.1)).1) c.2.2))
theorem JY {c:Yb} (h:Zi c=true):List.length c.2.1<=5/\Q7 c.1=true:=by
 unfold Zi at h;cases he:(Zc c.1 c.2.1).2 with
 | false=>rw[he] at h;simp at h
 | true=>obtain ⟨h1,h2,_⟩:=Ou he;exact ⟨h1,h2⟩
theorem XY (c:Yb):ACalls Tryz.prog 29 [.a [.h c.1.1,.h c.1.2.1,.i c.1.2.2,.h c.2.1,.h c.2.2]] (.b (Zi c)):=by
 refine en Qb Tryz.func29 λw0 F0 hG=> ?_
 refine sn Qb [1,2] [1] p0 <| tn Qb [1,2,3,4] [1] (pc 4 (ZA c.1 c.2.1) p0) <| Qc <| mz [(1,.p 1 0),(2,.b false),(3,.o 640 (((Zc c.1 c.2.1)).1)),(4,.b (((Zc c.1 c.2.1)).2))] [0] [(1, [.h c.1.1,.h c.1.2.1,.i c.1.2.2,.h c.2.1,.h c.2.2])] [] <| jn [(2,.b (((Zc c.1 c.2.1)).2&&(Kw (((Zc c.1 c.2.1)).1) c.2.2)))] [1,2,3,4] [] [1] (((Zc c.1 c.2.1)).2) (λh1=> ?_) (λh1=> ?_) ?_
 ·refine rn Qb [2] [] (pt 0 h1 (pc 5 (P9 (((Zc c.1 c.2.1)).1) c.2.2) p0)) ?_;exact zA (by rw[h1]<;>kernel_rfl)
 ·refine rn Qb [2] [] (pf 0 h1 p0) ?_;exact zA (by rw[h1]<;>kernel_rfl)
 exact Qk <| pb [] (show Zi c=(((Zc c.1 c.2.1)).2&&(Kw (((Zc c.1 c.2.1)).1) c.2.2)) from rfl)
open GoE (enc wide)
end
section
open Go.RowKit
open GoE (enc wide)
structure VS (s : X1) : Prop where
  sch : Jg s.1 = true
  len : s.2.1.length ≤ 12
  nx1 : 1 ≤ s.2.2
  nx2 : s.2.2 ≤ 61
  file : ∀ (i : Nat) (a : Yh), s.2.1[i]? = some a → Jb s.1 a = true ∧ a.1 < s.2.2
  asc : ∀ (i : Nat) (a b : Yh), s.2.1[i]? = some a → s.2.1[i+1]? = some b → a.1 < b.1
theorem Qcf {s : X1} (h : VS s) : Xj s = true := by
  unfold Xj
  rw [Ir (l := s.2.1) (k := 0) (λi a hi => ?_)]
  · have h1 := h.len
    have h2 := h.nx1
    have h3 := h.nx2
    simp only [Out.on, Xi, h.sch, Bool.true_and]
    rw [decide_eq_true (show (s.2.1.length : Int) ≤ 12 by omega), decide_eq_true (show s.2.2 ≥ 1 from h2), decide_eq_true (show s.2.2 ≤ 61 from h3)]
    rfl
  obtain ⟨h1, h2⟩ := h.file i a hi
  unfold Zh
  rw [h1, decide_eq_false (show ¬ a.1 ≥ s.2.2 by omega)]
  have e2 : (decide (((0 + i : Nat) : Int) > 0) && decide ((nth s.2.1 (Int.toNat (((0 + i : Nat) : Int) - 1))).1 ≥ a.1)) = false := by
    by_cases hp : 0 < i
    · have hlt : i - 1 < s.2.1.length := by have := (List.getElem?_eq_some_iff.1 hi).1; omega
      have h3 := h.asc (i - 1) _ a (Wr hlt) (by rw [show i - 1 + 1 = i by omega]; exact hi)
      rw [show Int.toNat (((0 + i : Nat) : Int) - 1) = i - 1 by omega, decide_eq_false (show ¬ (nth s.2.1 (i - 1)).1 ≥ a.1 by omega), Bool.and_false]
    obtain rfl : i = 0 := by omega
    rfl
  rw [e2]
  rfl
theorem Qig {s : X1} (h : Xj s = true) : VS s := by
  unfold Xj at h
  cases hl : Xp (Zh s) Vn s.2.1 0 () with
  | brk t =>
    rw [hl] at h
    simp only [Out.on, Bool.and_eq_true, Xi, decide_eq_true_eq] at h
    obtain ⟨h1, h2, h3, h4⟩ := h
    have key : ∀ (i : Nat) (a : Yh), s.2.1[i]? = some a → Jb s.1 a = true ∧ a.1 < s.2.2 ∧ (decide (((i : Nat) : Int) > 0) && decide ((nth s.2.1 (Int.toNat (((i : Nat) : Int) - 1))).1 ≥ a.1)) = false := λi a hi => by
      have h5 := Ej (λk a t => by unfold Zh; generalize (_ || _ : Bool) = c; cases c <;> simp) hl i a hi
      unfold Zh at h5
      rw [Nat.zero_add] at h5
      cases hv : Jb s.1 a with
      | false => rw [hv] at h5; simp at h5
      | true =>
        rw [hv] at h5
        cases hd : decide (a.1 ≥ s.2.2) with
        | true => rw [hd] at h5; simp at h5
        | false =>
          rw [hd] at h5
          refine ⟨rfl, by have := of_decide_eq_false hd; omega, ?_⟩
          generalize (decide (((i : Nat) : Int) > 0) && decide ((nth s.2.1 (Int.toNat (((i : Nat) : Int) - 1))).1 ≥ a.1)) = c at h5
          cases c with
          | true => simp at h5
          | false => rfl
    refine ⟨h1, by omega, h3, h4, λi a hi => ⟨(key i a hi).1, (key i a hi).2.1⟩, λi a b ha hb => ?_⟩
    have h5 := (key (i + 1) b hb).2.2
    rw [decide_eq_true (show ((i + 1 : Nat) : Int) > 0 by omega), Bool.true_and, show Int.toNat (((i + 1 : Nat) : Int) - 1) = i by omega, Gw ha] at h5
    have := of_decide_eq_false h5
    omega
  | ret r =>
    rw [hl] at h
    obtain rfl : r = true := h
    exfalso
    have key : ∀ (l : List Yh) k, Xp (Zh s) Vn l k () ≠ .ret true := by
      intro l
      induction l with
      | nil => intro k h; simp [Xp] at h
      | cons a l ih =>
        intro k h
        simp only [Xp] at h
        unfold Zh at h
        split at h
        · exact ih _ h
        · cases h
        rename_i r hf; cases h; revert hf; generalize (_ || _ : Bool) = c; cases c <;> simp
    exact key _ _ hl
end
section
def Qis {R R2 O : Type} : Rd R (O × Int × Bool) (O × Int) → Rd R2 (O × Bool) O → Prop
  | .next s,.next t => t = (s.1, s.2.2)
  | .brk s,.brk t => t = s.1
  | _, _ => False
theorem WL {R R2 O : Type} {F : O × Int × Bool → Rd R (O × Int × Bool) (O × Int)} {G : O × Bool → Rd R2 (O × Bool) O} (h : ∀ o p c, Qis (F (o, p, c)) (G (o, c))) : ∀ (n : Nat) (o : O) (p : Int) (c : Bool) (y : O × Int), whl F n (o, p, c) = some (.brk y) → whl G n (o, c) = some (.brk y.1)
  | 0, _, _, _, _, hy => by cases hy
  | n + 1, o, p, c, y, hy => by
    have hb := h o p c
    simp only [whl] at hy ⊢
    cases hF : F (o, p, c) with
    | next s =>
      rw [hF] at hy hb
      cases hG : G (o, c) with
      | next t =>
        rw [hG] at hb
        obtain rfl : t = (s.1, s.2.2) := hb
        exact WL h n s.1 s.2.1 s.2.2 y hy
      | brk t => rw [hG] at hb; exact hb.elim
      | ret r => rw [hG] at hb; exact hb.elim
    | brk s =>
      rw [hF] at hy hb
      cases hG : G (o, c) with
      | next t => rw [hG] at hb; exact hb.elim
      | brk t =>
        rw [hG] at hb
        obtain rfl : t = s.1 := hb
        obtain rfl : s = y := by simpa using hy
        rfl
      | ret r => rw [hG] at hb; exact hb.elim
    | ret r => rw [hF] at hb; exact hb.elim
open GoE (enc wide)
def C7 (s_:ByteArray) (_:Nat) (a0:ByteArray) (_:Unit):Rd (Bool) (Unit) (Unit):=(bif (a0.toList==s_.toList) then (.ret true) else (.next ()))
def Eu (_:Nat) (_:Unit):Unit:=()
def Hj (list:Z) (s_:ByteArray):Bool:=(Out.on (Xp (C7 s_) Eu list 0 ()) (λ_=>false))
theorem SP (s:ByteArray):∀(l:Z) (k:Nat),(Out.on (Xp (C7 s) Eu l k ()) (λ_=>false))=true↔s∈l
 | [],k=>by simp[Xp,Out.on]
 | a::l,k=>by
   simp only[Xp,C7,toList_inj];by_cases h:a=s
   . subst h;simp[Out.on]
   rw[decide_eq_false h];simp only[cond_false];refine (SP s l (k+1)).trans ?_;simp[Ne.symm h]
theorem Qfv (l:Z) (s:ByteArray):Hj l s=true↔s∈l:=SP s l 0
theorem Ta (list:Z) (s_:ByteArray):ACalls Tryz.prog 103 [.h list,.s s_] (.b (Hj list s_)):=by
 refine en Qb Tryz.func103 λw0 F0 hG=> ?_
 refine sn Qb [0,1,4] [] p0 <| Qc <| tn Qb [0,1,4,5] [] p0 <| mz [(4,.b false),(5,.i 0)] [] [] [] <| wT 0 0 .sh list (λhw1 hl2=> ?_)
 refine M8 (C7 s_) Eu list () (λk0 _=> [(5,.i (k0:Int))]) [5] (λ_=> []) [0,1,5] wf0 (λk0 s0 hk0 U=> ?_) (λk0 s0 hk0 U=> ?_) (λy0 hD0=> ?_)
 ·obtain ⟨a0,V⟩:=Xs (l:=list) (i:=k0) hk0;refine Qc <| sn Qb [0,1,4,5,9] [] (pl 2 list (pe 3 (zB ((k0:Int)<(list.length:Int))) p0)) <| ckT <| Qi <| Qc <| Qx <| tn Qb [0,1,4,5,17] [] (pn 2 V p0) <| ck (a0.toList==s_.toList) (λh3=> ?_) (λh3=> ?_)
  ·refine tu Qb [(4,.b true)] [4] [] [] p0 <| Qk ?_
   have hr4:(Xp (C7 s_) Eu list 0 ())= .ret true:=Z6 V (X6 h3 (rfl)) U;exact pb [] (M5 hr4)
  refine Qi <| qu Qb [(5,.i ((k0+1:Nat):Int))] [5] [] [] (pe 1 (Js (Qq k0 (by omega))) p0) ?_
  exact xw _ (Qw V (Qy h3 (rfl)) U)
 ·exact Qc <| sn Qb [0,1,4,5,9] [] (pl 2 list (pe 3 (zC ((k0:Int)<(list.length:Int))) p0)) <| ckF <| Xe <| xw _ (Xy hk0 (rfl) U)
 exact sn Qb [4] [] p0 <| Qk <| pb [] (Ur hD0 (rfl))
def Vo (a_:List Qg) (names:Z) (_:Nat) (a0:Y8) (s0:List Qg):Rd ((List Qg)×Bool) (List Qg) (List Qg):=(bif (Hj names a0.1) then (.next (s0++ [((a0.1, []):Qg)])) else (.next (s0++ [(a0.1,(Xf a_ a0.1))])))
def Wq (_:Nat) (s0:List Qg):(List Qg):=s0
def Ar (s_:X1) (d:List Y8) (names:Z) (k1:Nat) (k3:Nat) (a3:Y8) (s3:(List Qg)×Bool):Rd (Rd (Rd ((List Qg)×Bool) (List Qg) (List Qg)) ((List Qg)×Bool) (List Qg)) ((List Qg)×Bool) ((List Qg)×Bool):=(bif (((nth (((Xb d)).1) k3) !=(k1:Int))|| (!(Hj names a3.1))) then (.next (s3.1,s3.2)) else (bif (!(Z8 (X3 s_ a3.2 s3.1) ((nth s3.1 k3).2))) then (.next (List.set s3.1 k3 ((nth s3.1 k3).1,(X3 s_ a3.2 s3.1)),true)) else (.next (s3.1,s3.2))))
def Dl (_:Nat) (s3:(List Qg)×Bool):(List Qg)×Bool:=(s3.1,s3.2)
def J6 (s_:X1) (d:List Y8) (names:Z) (k1:Nat) (s2:(List Qg)×Bool):Rd (Rd ((List Qg)×Bool) (List Qg) (List Qg)) ((List Qg)×Bool) (List Qg):=(bif s2.2 then (Out.on (Xp (Ar s_ d names k1) Dl d 0 (s2.1,false)) (λy3=>(.next (y3.1,y3.2)))) else (.brk s2.1))
def Au (s_:X1) (d:List Y8) (names:Z) (k1:Nat) (s1:List Qg):Rd ((List Qg)×Bool) (List Qg) (List Qg):=(Out.on (Lh (J6 s_ d names k1) (List.length d*List.length s_.2.1+2) (s1,true)) (λy2=>(.next y2)))
def Dm (_:Nat) (s1:List Qg):(List Qg):=s1
def Z2 (s_:X1) (d:List Y8) (a_:List Qg) (names:Z):(List Qg)×Bool:=(bif ((!(((Xb d)).2))|| (!(Xj s_))) then ([],false) else (Out.on (Xp (Vo a_ names) Wq d 0 []) (λy0=>(Out.on (Wb (Au s_ d names) Dm ((Ji d)+1).toNat 0 y0) (λy1=>(y1,true))))))
theorem Qd1 (l:Z) (s:ByteArray):Hj l s=Xd l s:=by rw[Bool.eq_iff_iff,Qfv,Mi]
section
variable {s_:X1} {d:List Y8} {a_:List Qg} {names:Z} {k1:Nat} {o:List Qg}
theorem SQ (s_:X1) (d:List Y8) (names:Z) (k1:Nat):SJ s_ d (Qo d).1 (onD d names) (k1:Int) (Ar s_ d names k1):=by
 intro k a o c hk;have ha:nth d k=a:=Gw hk;unfold Ar BF onD;rw[ha,Tx,Wk,←XQ,Qd1];simp only[bne];cases (nth (Qo d).1 k==(k1:Int))<;>cases Xd names a.1<;>rfl
theorem BO (s_:X1) (d:List Y8) (names:Z) (k1:Nat) (o:List Qg) (p:Int) (c:Bool):Qis (Je s_ d names k1 (o,p,c)) (J6 s_ d names k1 (o,c)):=by
 unfold Je J6;cases c with
 | false=>rfl
 | true=>
  simp only[cond_true];rw[Sn (e:=Hc) (Ny s_ d names k1) (λ_ _=>rfl) d 0 o false rfl,Sn (e:=Dl) (SQ s_ d names k1) (λ_ _=>rfl) d 0 o false rfl];rfl
theorem LA (hS:((Xb d)).2=true) (h:EvS d ((Xb d)).1 (onD d names) s_.2.1 (k1:Int) o):∃o',whl (J6 s_ d names k1) (List.length d*List.length s_.2.1+2) (o,true)=some (.brk o')/\EvS d ((Xb d)).1 (onD d names) s_.2.1 ((k1:Int)+1) o':=by
 rw[Wk] at hS h⊢;obtain ⟨o',p',h1,h2⟩:=Ao (p:=0) hS h;exact ⟨o',WL (BO s_ d names k1) _ o 0 true (o',p') h1,h2⟩
theorem Qhf (hS:((Xb d)).2=true) (h:EvS d ((Xb d)).1 (onD d names) s_.2.1 (((k1:Nat)):Int) o):(whl (J6 s_ d names k1) (List.length d*List.length s_.2.1+2) (o,true)).isSome=true:=by
 obtain ⟨o',h1,_⟩:=LA hS h;rw[h1];rfl
theorem Ra {y:List Qg} (hS:((Xb d)).2=true) (h:EvS d ((Xb d)).1 (onD d names) s_.2.1 (((k1:Nat)):Int) o) (hy:Lh (J6 s_ d names k1) (List.length d*List.length s_.2.1+2) (o,true)= .brk y):EvS d ((Xb d)).1 (onD d names) s_.2.1 ((((k1+1):Nat)):Int) y:=by
 obtain ⟨o',h1,h2⟩:=LA hS h;unfold Lh at hy;rw[h1] at hy;have e:o'=y:=by simpa using hy
 rw[←e,Int.natCast_add];exact h2
theorem SR:(∀k (a:Y8) s,Vo a_ names k a s= .next (s++ [(a.1,Cb a_ names a)])):=λk a s=>by
 unfold Vo Cb;rw[Qd1,←SA];cases Xd names a.1<;>rfl
theorem Cc (hy:Xp (Vo a_ names) Wq d 0 []= .brk o):EvS d ((Xb d)).1 (onD d names) s_.2.1 (((0:Nat)):Int) o:=by
 obtain ⟨h1,h2⟩:=Iy (L:=((Xb d)).1) (on:=onD d names) (fs:=s_.2.1) (g:=Cb a_ names) (f:=Vo a_ names) (e:=Wq) (d:=d) SR (λj _ hj=>by unfold onD at hj;unfold Cb;rw[hj];rfl);rw[h1] at hy;have e:(d.map λa=>((a.1,Cb a_ names a):Qg))=o:=Out.brk.inj hy;rw[←e];exact h2
end
theorem Tf (s_:X1) (d:List Y8) (a_:List Qg) (names:Z):ACalls Tryz.prog 59 [.a [.h s_.1,.h s_.2.1,.i s_.2.2],.h d,.h a_,.h names] (.tup [(false, [.o 0 (((Z2 s_ d a_ names)).1)]),(false, [.b (((Z2 s_ d a_ names)).2)])]):=by
 refine en Qb Tryz.func59 λw0 F0 hG=> ?_
 refine sn Qb [1,2,3,4,8,9] [4] p0 <| tn Qb [1,2,3,4,8,9,10,11] [4] (pc 1 (Me d) p0) <| Qc <| Qc <| mz [(4,.p 4 0),(8,.e 0),(9,.b false),(10,.o 1344 (((Xb d)).1)),(11,.b (((Xb d)).2))] [0] [(4, [.h s_.1,.h s_.2.1,.i s_.2.2])] [] <| jn [(30,.b ((!(((Xb d)).2))|| (!(Xj s_))))] [11] [] [] (!(((Xb d)).2)) (λh1=> ?_) (λh1=> ?_) ?_
 ·have h1n:(((Xb d)).2)=false:=Ht h1;refine ru Qb [(30,.b true)] [11] [] [] (pf 0 h1n (pe 1 (show .b (!false)= .b true from rfl) p0)) ?_;exact zA (by rw[h1]<;>kernel_rfl)
 ·have h1n:(((Xb d)).2)=true:=Ka h1;have h1nsf:=Et h1n;refine rn Qb [1,2,3,4,8,9,10,30] [4] (pt 0 h1n (pe 1 (show .b (!true)= .b false from rfl) (pc 4 (Ug s_) p0))) ?_;exact zA (by rw[h1]<;>kernel_rfl)
 refine ck ((!(((Xb d)).2))|| (!(Xj s_))) (λh2=> ?_) (λh2=> ?_)
 ·exact sn Qb [1,2,3,4,8,9,10] [4] p0 <| Qk <| pz [] (show Z2 s_ d a_ names=_ from X6 h2 (rfl)) (λz=> .tup [(false, [.o 0 z.1]),(false, [.b z.2])])
 have h2l:((!(((Xb d)).2)))=false:=VL h2;have h2ln:(((Xb d)).2)=true:=Ka h2l;have h2lnsf:=Et h2ln;have h2r:((!(Xj s_)))=false:=UJ h2;have h2rn:(Xj s_)=true:=Ka h2r;refine Qi <| sn Qb [1,2,3,4,8,9,10,12] [4] p0 <| Qc <| tn Qb [1,2,3,4,8,9,10,12,13] [4] p0 <| mz [(12,.one (.slc (.own true 2048) 2 [])),(13,.i 0)] [30] [] [] <| wT 1 0 .sh d (λhw3 hl4=> ?_)
 refine AK (Vo a_ names) Wq d [] (λk0 s0=> [(12,.o 147207 s0),(13,.i (k0:Int))]) [12,13] (λy0=> [(12,.o 147357 y0)]) [2,12,13] (λk0 s0=>List.length s0<=k0) (Yg [(2048,147207)] (by kernel_rfl)) (by simp) (λk0 s0 hk0 U=> ?_) (λk0 s0 hk0 U=> ?_) (λy0 hD0=> ?_)
 ·have hA0_0:=U.2;obtain ⟨a0,V⟩:=Xs (l:=d) (i:=k0) hk0;refine Qc <| su Qb [(36,.b true)] [] [] [] (pl 2 d (pe 3 (zB ((k0:Int)<(d.length:Int))) p0)) <| ckT <| Qi <| Qc <| Qx <| sN Qb Zf [1,2,3,4,8,9,10,12,13,14] [4,14] (pn 2 V (pn 8 V (pc 11 (C3 a_ a0.1) p0))) <| Qc <| tn Qb [1,2,3,4,8,9,10,12,13,14,55] [4,14] (pc 3 (Ta names a0.1) p0) <| ck (Hj names a0.1) (λh5=> ?_) (λh5=> ?_)
  ·refine qu Qb [(14,.p 14 0)] [36] [(14, [.s a0.1,.slc (.own true 3584) 1 []])] [] p0 ?_;refine wT 12 0 (.own true 147207) s0 (λhw6 hl7=> ?_);refine ru Qb [(12,.one (.slc (.own true 3904) 2 ((eL s0)++ [[.s a0.1,.slc 1 []]])))] [12,14] [] [14] (pa s0 [((a0.1, []):Qg)] p0) ?_;refine eqn [(12,.o 3904 (s0++ [((a0.1, []):Qg)]))] [12] [] [] (by rw[show ((eL s0)++ [[.s a0.1,.slc 1 []]])=(eL (s0++ [((a0.1, []):Qg)])) from Uw (rfl) (rfl)];first | done | kernel_rfl) ?_;refine rn Qb [1,2,3,4,8,9,10,12,13] [4] (pe 1 (Js (Qq k0 (by omega))) p0) ?_;exact Exists.intro (s0++ [((a0.1, []):Qg)]) (And.intro (Yg [(3904,147207)] (by kernel_rfl)) ⟨Qw V (X6 h5 (rfl)) U.1,by first|omega|(simp;omega) | simp⟩)
  refine Qi <| wT 12 0 (.own true 147207) s0 (λhw8 hl9=> ?_)
  refine qu Qb [(12,.one (.slc (.own true 3904) 2 ((eL s0)++ [[.s a0.1,.h (Xf a_ a0.1)]])))] [12,36] [] [] (pa s0 [(a0.1,(Xf a_ a0.1))] p0) ?_;refine eqn [(12,.o 3904 (s0++ [(a0.1,(Xf a_ a0.1))]))] [12] [] [] (by rw[show ((eL s0)++ [[.s a0.1,.h (Xf a_ a0.1)]])=(eL (s0++ [(a0.1,(Xf a_ a0.1))])) from Uw (rfl) (rfl)];first | done | kernel_rfl) ?_;refine rn Qb [1,2,3,4,8,9,10,12,13] [4] (pe 1 (Js (Qq k0 (by omega))) p0) ?_;exact Exists.intro (s0++ [(a0.1,(Xf a_ a0.1))]) (And.intro (Yg [(3904,147207)] (by kernel_rfl)) ⟨Qw V (Qy h5 (rfl)) U.1,by first|omega|(simp;omega) | simp⟩)
 ·have hA0_0:=U.2;exact Qc <| su Qb [(36,.b false)] [] [] [] (pl 2 d (pe 3 (zC ((k0:Int)<(d.length:Int))) p0)) <| ckF <| Xe <| Exists.intro _ (And.intro (Yg [(147207,147357)] (by kernel_rfl)) (Xy hk0 (rfl) U.1))
 refine Qc <| su Qb [(15,.i 0)] [] [] [] p0 <| Qff (Au s_ d names) Dm ((Ji d)+1).toNat y0 (λk1 s1=> [(12,.o 147357 s1),(15,.i (k1:Int))]) [12,15] (λ_ _=> []) [] (λy1=> [(12,.o 147357 y1)]) [1,3,4,10,12,15] (λ_=> []) [4] (λk1 s1=>EvS d ((Xb d)).1 (onD d names) s_.2.1 (((k1:Nat)):Int) s1/\List.length s1=List.length d) wf0 ⟨(by first | exact Cc hD0 | exact Cc hD0.1 | exact U8 (fs:=s_.2.1) (Cc hD0) | exact U8 (fs:=s_.2.1) (Cc hD0.1)),(by first | exact Cc hD0 | exact Cc hD0.1 | exact U8 (fs:=s_.2.1) (Cc hD0) | exact U8 (fs:=s_.2.1) (Cc hD0.1))⟩ (λk1 s1 hk1 hI1=> ?_) (λk1 s1 hk1 hI1=> ?_) (λy1 hD1=> ?_)
 ·have hA1_0:=hI1.2.1;have hA1_1:=hI1.2.2;refine Qc <| su Qb [(65,.b true)] [] [] [] (pc 2 (Br d) (pe 3 (zB ((k1:Int)<=(Ji d))) p0)) <| ckT <| Qi <| Qc <| Qx <| su Qb [(16,.b true)] [65] [] [] p0 <| blw (λ(s2:(List Qg)×Bool)=> [(12,.o 147357 s2.1),(16,.b s2.2)]) [12,16] (λs2=> []) [] (λ(y2:List Qg)=> [(12,.o 147357 y2)]) [12,16] (λy2=> []) [] (λ(k2:Nat) (s2:(List Qg)×Bool)=>whl (J6 s_ d names k1) k2 s2=some (Lh (J6 s_ d names k1) (List.length d*List.length s_.2.1+2) (s1,true))/\List.length s2.1=List.length d) (λ(y2:List Qg)=>(Lh (J6 s_ d names k1) (List.length d*List.length s_.2.1+2) (s1,true))= .brk y2) (List.length d*List.length s_.2.1+2) (s1,true) wf0 ⟨M6 (Qhf (by assumption) (by assumption)),(by assumption)⟩ (λ_ h=>M7 h.1) (λk2 s2 hI2=> ?_) (λy2 hD2=> ?_)
  ·have hA2_0:=hI2.2;refine Qc <| su Qb [(68,.b s2.2)] [] [] [] p0 <| ck s2.2 (λh10=> ?_) (λh10=> ?_)
   ·refine Qi <| Qx <| su Qb [(16,.b false)] [16,68] [] [] p0 <| su Qb [(17,.i 0)] [] [] [] p0 <| Qdo (Ar s_ d names k1) Dl d (s2.1,false) (λk3 s3=> [(12,.o 147357 s3.1),(16,.b s3.2),(17,.i (k3:Int))]) [12,16,17] (λy3=> [(12,.o 147357 y3.1),(16,.b y3.2)]) [12,16,17] (λ_ s3=>List.length s3.1=List.length s2.1) (λy3=>List.length y3.1=List.length s2.1) wf0 (by simp) (λk3 s3 hk3 hI3=> ?_) (λk3 s3 hk3 hI3=> ?_) (λy3 hD3=> ?_)
    ·have hA3_0:=hI3.2;obtain ⟨a3,hx3⟩:=Xs (l:=d) (i:=k3) hk3;refine Qc <| su Qb [(72,.b true)] [] [] [] (pl 2 d (pe 3 (zB ((k3:Int)<(d.length:Int))) p0)) <| ckT <| Qi <| Qc <| Qx <| Qc <| Qc <| jn [(90,.b (((nth (((Xb d)).1) k3) !=(k1:Int))|| (!(Hj names a3.1))))] [72] [] [] ((nth (((Xb d)).1) k3) !=(k1:Int)) (λh11=> ?_) (λh11=> ?_) ?_
     ·have h11d:=L5 h11;refine wT 10 0 (.own true 1344) (((Xb d)).1) (λhw13 hl14=> ?_);have hx12:=ng (((Xb d)).1) k3;refine ru Qb [(90,.b true)] [72] [] [] (pN 2 hx12 (pt 5 h11 p0)) ?_;exact zA (by rw[h11]<;>kernel_rfl)
     ·have h11d:=W9 h11;refine wT 10 0 (.own true 1344) (((Xb d)).1) (λhw16 hl17=> ?_);have hx15:=ng (((Xb d)).1) k3;refine rn Qb [1,3,4,8,9,10,12,15,16,17,90] [4] (pN 2 hx15 (pf 5 h11 (pn 10 hx3 (pc 13 (Ta names a3.1) p0)))) ?_;exact zA (by rw[h11]<;>kernel_rfl)
     refine ck (((nth (((Xb d)).1) k3) !=(k1:Int))|| (!(Hj names a3.1))) (λh18=> ?_) (λh18=> ?_)
     ·refine Xe <| rn Qb [1,3,4,8,9,10,12,15,16,17] [4] (pe 1 (Js (Qq k3 (by omega))) p0) ?_
      exact xw (s3.1,s3.2) ⟨Qw hx3 (X6 h18 (rfl)) hI3.1,(by first|omega|(simp only[List.length_set];omega))⟩
     have h18l:(((nth (((Xb d)).1) k3) !=(k1:Int)))=false:=VL h18;have h18ld:=W9 h18l;have h18r:((!(Hj names a3.1)))=false:=UJ h18;have h18rn:(Hj names a3.1)=true:=Ka h18r;refine Qi <| sN Qb Zf [1,3,4,8,9,10,12,15,16,17,18] [4] (pn 3 hx3 (pc 7 (G2 s_ a3.2 s3.1) p0)) <| wT 12 0 (.own true 147357) s3.1 (λhw20 hl21=> ?_)
     have hx19:=ng s3.1 k3;refine tn Qb [1,3,4,8,9,10,12,15,16,17,18,106] [4] (pN 3 hx19 (pc 6 (Em (X3 s_ a3.2 s3.1) ((nth s3.1 k3).2)) p0)) <| ck (!(Z8 (X3 s_ a3.2 s3.1) ((nth s3.1 k3).2))) (λh22=> ?_) (λh22=> ?_)
     ·have h22n:(Z8 (X3 s_ a3.2 s3.1) ((nth s3.1 k3).2))=false:=Ht h22;refine tu Qb [(12,.one (.slc (.own true 147357) 2 (setRow (eL s3.1) k3 1 [.h (X3 s_ a3.2 s3.1)])))] [12,90] [] [] (pN 3 hx19 p0) <| eqn [(12,.o 147357 (List.set s3.1 k3 ((nth s3.1 k3).1,(X3 s_ a3.2 s3.1))))] [12] [] [] (by rw[Zv (y:=((nth s3.1 k3).1,(X3 s_ a3.2 s3.1))) hx19 rfl]<;>kernel_rfl) ?_
      refine ru Qb [(16,.b true)] [16] [] [] p0 ?_;refine rn Qb [1,3,4,8,9,10,12,15,16,17] [4] (pe 1 (Js (Qq k3 (by omega))) p0) ?_;exact xw (List.set s3.1 k3 ((nth s3.1 k3).1,(X3 s_ a3.2 s3.1)),true) ⟨Qw hx3 (Qy h18 (X6 h22 (rfl))) hI3.1,(by first|omega|(simp only[List.length_set];omega))⟩
     have h22n:(Z8 (X3 s_ a3.2 s3.1) ((nth s3.1 k3).2))=true:=Ka h22;refine Qi <| qu Qb [(17,.i ((k3+1:Nat):Int))] [17,90] [] [] (pe 1 (Js (Qq k3 (by omega))) p0) ?_
     exact xw (s3.1,s3.2) ⟨Qw hx3 (Qy h18 (Qy h22 (rfl))) hI3.1,(by first|omega|(simp only[List.length_set];omega))⟩
    ·have hA3_0:=hI3.2;exact Qc <| su Qb [(72,.b false)] [] [] [] (pl 2 d (pe 3 (zC ((k3:Int)<(d.length:Int))) p0)) <| ckF <| Xe <| xw (s3.1,s3.2) ⟨Xy hk3 (rfl) hI3.1,by first|omega|(simp only[List.length_set];omega)⟩
    have hD3_0:=hD3.2;exact xw (y3.1,y3.2) ⟨wn hI2.1 (X6 h10 (Ur hD3.1 (rfl))),(by first|omega|(simp only[List.length_set];omega))⟩
   exact Xe <| xw _ (wb hI2.1 (Qy h10 (rfl)))
  refine rn Qb [1,3,4,8,9,10,12,15] [4] (pe 1 (Js (Qq k1 (by omega))) p0) ?_;exact xw y2 ⟨K1 hk1 (Ur hD2 (rfl)) hI1.1,(by first | exact Ra (by assumption) (by assumption) (by assumption) | exact U8 (fs:=s_.2.1) (Ra (by assumption) (by assumption) (by assumption))),(by first | exact Ra (by assumption) (by assumption) (by assumption) | exact U8 (fs:=s_.2.1) (Ra (by assumption) (by assumption) (by assumption)))⟩
 ·have hA1_0:=hI1.2.1;have hA1_1:=hI1.2.2;exact Qc <| su Qb [(65,.b false)] [] [] [] (pc 2 (Br d) (pe 3 (zC ((k1:Int)<=(Ji d))) p0)) <| ckF <| Xe <| xw _ (Cq hk1 (rfl) hI1.1)
 exact sn Qb [8,9] [] p0 <| Qk <| pz [] (show Z2 s_ d a_ names=_ from Qy h2 (Ur hD0 (Ur hD1 (rfl)))) (λz=> .tup [(false, [.o 0 z.1]),(false, [.b z.2])])
def Gc (a_:List Int) (_:Nat) (a0:Int) (s0:List Int):Rd ((List Int)×(List Int)) (List Int) (List Int):=(bif (!(Z1 a_ a0)) then (.next (s0++ [a0])) else (.next s0))
def Gd (_:Nat) (s0:List Int):(List Int):=s0
def Ge (b:List Int) (_:Nat) (a1:Int) (s1:List Int):Rd ((List Int)×(List Int)) (List Int) (List Int):=(bif (!(Z1 b a1)) then (.next (s1++ [a1])) else (.next s1))
def Gf (_:Nat) (s1:List Int):(List Int):=s1
def Yl (a_:List Int) (b:List Int):(List Int)×(List Int):=(Out.on (Xp (Gc a_) Gd b 0 []) (λy0=>(Out.on (Xp (Ge b) Gf a_ 0 []) (λy1=>(y0,y1)))))
theorem WM (a_:List Int) (b:List Int):ACalls Tryz.prog 106 [.h a_,.h b] (.tup [(false, [.o 0 (((Yl a_ b)).1)]),(false, [.o 1 (((Yl a_ b)).2)])]):=by
 refine en Qb Tryz.func106 λw0 F0 hG=> ?_
 refine sn Qb [0,1,4,5] [] p0 <| tn Qb [0,1,4,5,6] [] p0 <| tu Qb [(4,.e 0),(5,.e 0),(6,.one (.slc (.own true 640) 1 [])),(7,.one (.slc (.own true 704) 1 []))] [] [] [] p0 <| Qc <| su Qb [(8,.i 0)] [] [] [] p0 <| wT 1 0 .sh b (λhw1 hl2=> ?_)
 refine AK (Gc a_) Gd b [] (λk0 s0=> [(6,.o 147204 s0),(8,.i (k0:Int))]) [6,8] (λy0=> [(6,.o 147354 y0)]) [6,8] (λk0 s0=>List.length s0<=k0) (Yg [(640,147204)] (by kernel_rfl)) (by simp) (λk0 s0 hk0 U=> ?_) (λk0 s0 hk0 U=> ?_) (λy0 hD0=> ?_)
 ·have hA0_0:=U.2;obtain ⟨a0,V⟩:=Xs (l:=b) (i:=k0) hk0;refine Qc <| su Qb [(15,.b true)] [] [] [] (pl 2 b (pe 3 (zB ((k0:Int)<(b.length:Int))) p0)) <| ckT <| Qi <| Qc <| Qx <| sn Qb [0,1,4,5,6,7,8,24] [] (pn 3 V (pc 5 (Bp a_ a0) p0)) <| ck (!(Z1 a_ a0)) (λh3=> ?_) (λh3=> ?_)
  ·refine wT 6 0 (.own true 147204) s0 (λhw4 hl5=> ?_);refine qu Qb [(6,.one (.slc (.own true 1984) 1 ((eL s0)++ [[.i a0]])))] [6,15] [] [] (pn 3 V (pa s0 [a0] p0)) ?_;refine eqn [(6,.o 1984 (s0++ [a0]))] [6] [] [] (by rw[show ((eL s0)++ [[.i a0]])=(eL (s0++ [a0])) from Uw (rfl) (rfl)];first | done | kernel_rfl) ?_;refine rn Qb [0,1,4,5,6,7,8] [] (pe 1 (Js (Qq k0 (by omega))) p0) ?_;exact Exists.intro (s0++ [a0]) (And.intro (Yg [(1984,147204)] (by kernel_rfl)) ⟨Qw V (X6 h3 (rfl)) U.1,by first|omega|(simp;omega) | simp⟩)
  refine Qi <| qn Qb [0,1,4,5,6,7,8] [] (pe 1 (Js (Qq k0 (by omega))) p0) ?_
  exact xw s0 ⟨Qw V (Qy h3 (rfl)) U.1,by first|omega|(simp;omega) | simp⟩
 ·have hA0_0:=U.2;exact Qc <| su Qb [(15,.b false)] [] [] [] (pl 2 b (pe 3 (zC ((k0:Int)<(b.length:Int))) p0)) <| ckF <| Xe <| Exists.intro _ (And.intro (Yg [(147204,147354)] (by kernel_rfl)) (Xy hk0 (rfl) U.1))
 refine Qc <| su Qb [(9,.i 0)] [] [] [] p0 <| wT 0 0 .sh a_ (λhw6 hl7=> ?_)
 refine AK (Ge b) Gf a_ [] (λk1 s1=> [(7,.o 147205 s1),(9,.i (k1:Int))]) [7,9] (λy1=> [(7,.o 147355 y1)]) [0,1,7,9] (λk1 s1=>List.length s1<=k1) (Yg [(704,147205)] (by kernel_rfl)) (by simp) (λk1 s1 hk1 hI1=> ?_) (λk1 s1 hk1 hI1=> ?_) (λy1 hD1=> ?_)
 ·have hA1_0:=hI1.2;obtain ⟨a1,hx1⟩:=Xs (l:=a_) (i:=k1) hk1;refine Qc <| su Qb [(35,.b true)] [] [] [] (pl 2 a_ (pe 3 (zB ((k1:Int)<(a_.length:Int))) p0)) <| ckT <| Qi <| Qc <| Qx <| sn Qb [0,1,4,5,6,7,9,44] [] (pn 3 hx1 (pc 5 (Bp b a1) p0)) <| ck (!(Z1 b a1)) (λh8=> ?_) (λh8=> ?_)
  ·refine wT 7 0 (.own true 147205) s1 (λhw9 hl10=> ?_);refine qu Qb [(7,.one (.slc (.own true 3264) 1 ((eL s1)++ [[.i a1]])))] [7,35] [] [] (pn 3 hx1 (pa s1 [a1] p0)) ?_;refine eqn [(7,.o 3264 (s1++ [a1]))] [7] [] [] (by rw[show ((eL s1)++ [[.i a1]])=(eL (s1++ [a1])) from Uw (rfl) (rfl)];first | done | kernel_rfl) ?_;refine rn Qb [0,1,4,5,6,7,9] [] (pe 1 (Js (Qq k1 (by omega))) p0) ?_;exact Exists.intro (s1++ [a1]) (And.intro (Yg [(3264,147205)] (by kernel_rfl)) ⟨Qw hx1 (X6 h8 (rfl)) hI1.1,by first|omega|(simp;omega) | simp⟩)
  refine Qi <| qn Qb [0,1,4,5,6,7,9] [] (pe 1 (Js (Qq k1 (by omega))) p0) ?_
  exact xw s1 ⟨Qw hx1 (Qy h8 (rfl)) hI1.1,by first|omega|(simp;omega) | simp⟩
 ·have hA1_0:=hI1.2;exact Qc <| su Qb [(35,.b false)] [] [] [] (pl 2 a_ (pe 3 (zC ((k1:Int)<(a_.length:Int))) p0)) <| ckF <| Xe <| Exists.intro _ (And.intro (Yg [(147205,147355)] (by kernel_rfl)) (Xy hk1 (rfl) hI1.1))
 exact sn Qb [4,5] [] p0 <| Qk <| pz [] (show Yl a_ b=_ from Ur hD0 (Ur hD1 (rfl))) (λz=> .tup [(false, [.o 0 z.1]),(false, [.o 1 z.2])])
def Um (a_:List Qg) (_:Nat) (a0:Qg) (s0:List Cs):Rd (List Cs) (List Cs) (List Cs):=(bif (decide (((((Yl (Xf a_ a0.1) a0.2)).1).length:Int)>(0:Int))|| decide (((((Yl (Xf a_ a0.1) a0.2)).2).length:Int)>(0:Int))) then (.next (s0++ [(a0.1,((Yl (Xf a_ a0.1) a0.2)).1,((Yl (Xf a_ a0.1) a0.2)).2)])) else (.next s0))
def C8 (_:Nat) (s0:List Cs):(List Cs):=s0
def Uz (a_:List Qg) (b:List Qg):(List Cs):=(Out.on (Xp (Um a_) C8 b 0 []) (λy0=>y0))
theorem Sq (a_:List Qg) (b:List Qg):ACalls Tryz.prog 60 [.h a_,.h b] (.o 0 (Uz a_ b)):=by
 refine en Qb Tryz.func60 λw0 F0 hG=> ?_
 refine sn Qb [0,1,4] [] p0 <| tn Qb [0,1,4,5] [] p0 <| Qc <| tu Qb [(4,.e 0),(5,.one (.slc (.own true 576) 3 [])),(6,.i 0)] [] [] [] p0 <| wT 1 0 .sh b (λhw1 hl2=> ?_)
 refine AK (Um a_) C8 b [] (λk0 s0=> [(5,.o 147203 s0),(6,.i (k0:Int))]) [5,6] (λy0=> [(5,.o 147353 y0)]) [0,1,5,6] (λk0 s0=>List.length s0<=k0) (Yg [(576,147203)] (by kernel_rfl)) (by simp) (λk0 s0 hk0 U=> ?_) (λk0 s0 hk0 U=> ?_) (λy0 hD0=> ?_)
 ·have hA0_0:=U.2;obtain ⟨a0,V⟩:=Xs (l:=b) (i:=k0) hk0;refine Qc <| sn Qb [0,1,4,5,6,13] [] (pl 2 b (pe 3 (zB ((k0:Int)<(b.length:Int))) p0)) <| ckT <| Qi <| Qc <| Qx <| tN Qb Zf [0,1,4,5,6,7,8] [] (pn 3 V (pc 6 (C3 a_ a0.1) (pn 9 V (pc 12 (WM (Xf a_ a0.1) a0.2) p0)))) <| Qc <| mz [(7,.o 1856 (((Yl (Xf a_ a0.1) a0.2)).1)),(8,.o 1857 (((Yl (Xf a_ a0.1) a0.2)).2))] [] [] [] <| jn [(39,.b (decide (((((Yl (Xf a_ a0.1) a0.2)).1).length:Int)>(0:Int))|| decide (((((Yl (Xf a_ a0.1) a0.2)).2).length:Int)>(0:Int))))] [] [] [] (decide (((((Yl (Xf a_ a0.1) a0.2)).1).length:Int)>(0:Int))) (λh3=> ?_) (λh3=> ?_) ?_
  ·refine ru Qb [(39,.b true)] [] [] [] (pl 1 (((Yl (Xf a_ a0.1) a0.2)).1) (pt 2 h3 p0)) ?_;exact zA (by rw[h3]<;>kernel_rfl)
  ·refine rn Qb [0,1,4,5,6,7,8,39] [] (pl 1 (((Yl (Xf a_ a0.1) a0.2)).1) (pf 2 h3 (pl 5 (((Yl (Xf a_ a0.1) a0.2)).2) p0))) ?_;exact zA (by rw[h3]<;>kernel_rfl)
  refine ck (decide (((((Yl (Xf a_ a0.1) a0.2)).1).length:Int)>(0:Int))|| decide (((((Yl (Xf a_ a0.1) a0.2)).2).length:Int)>(0:Int))) (λh4=> ?_) (λh4=> ?_)
  ·refine wT 5 0 (.own true 147203) s0 (λhw5 hl6=> ?_);refine ru Qb [(5,.one (.slc (.own true 3200) 3 ((eL s0)++ [[.s a0.1,.h (((Yl (Xf a_ a0.1) a0.2)).1),.h (((Yl (Xf a_ a0.1) a0.2)).2)]])))] [5,7,8,39] [] [] (pn 3 V (pa s0 [(a0.1,((Yl (Xf a_ a0.1) a0.2)).1,((Yl (Xf a_ a0.1) a0.2)).2)] p0)) ?_;refine eqn [(5,.o 3200 (s0++ [(a0.1,((Yl (Xf a_ a0.1) a0.2)).1,((Yl (Xf a_ a0.1) a0.2)).2)]))] [5] [] [] (by rw[show ((eL s0)++ [[.s a0.1,.h (((Yl (Xf a_ a0.1) a0.2)).1),.h (((Yl (Xf a_ a0.1) a0.2)).2)]])=(eL (s0++ [(a0.1,((Yl (Xf a_ a0.1) a0.2)).1,((Yl (Xf a_ a0.1) a0.2)).2)])) from Uw (rfl) (rfl)];first | done | kernel_rfl) ?_;refine rn Qb [0,1,4,5,6] [] (pe 1 (Js (Qq k0 (by omega))) p0) ?_;exact Exists.intro (s0++ [(a0.1,((Yl (Xf a_ a0.1) a0.2)).1,((Yl (Xf a_ a0.1) a0.2)).2)]) (And.intro (Yg [(3200,147203)] (by kernel_rfl)) ⟨Qw V (X6 h4 (rfl)) U.1,by first|omega|(simp;omega) | simp⟩)
  have h4l:(decide (((((Yl (Xf a_ a0.1) a0.2)).1).length:Int)>(0:Int)))=false:=VL h4;have h4ld:=of_decide_eq_false h4l;have h4r:(decide (((((Yl (Xf a_ a0.1) a0.2)).2).length:Int)>(0:Int)))=false:=UJ h4;have h4rd:=of_decide_eq_false h4r;refine Qi <| rn Qb [0,1,4,5,6] [] (pe 1 (Js (Qq k0 (by omega))) p0) ?_
  exact xw s0 ⟨Qw V (Qy h4 (rfl)) U.1,by first|omega|(simp;omega) | simp⟩
 ·have hA0_0:=U.2;exact Qc <| sn Qb [0,1,4,5,6,13] [] (pl 2 b (pe 3 (zC ((k0:Int)<(b.length:Int))) p0)) <| ckF <| Xe <| Exists.intro _ (And.intro (Yg [(147203,147353)] (by kernel_rfl)) (Xy hk0 (rfl) U.1))
 exact sn Qb [4] [] p0 <| Qk <| po0 [] (Ur hD0 (rfl))
def Wx (b:List Qg) (k0:Nat) (a0:Qg) (_:Unit):Rd (Bool) (Unit) (Unit):=(bif ((!(a0.1.toList==((nth b k0).1).toList))|| (!(Z8 a0.2 ((nth b k0).2)))) then (.ret false) else (.next ()))
def Ha (_:Nat) (_:Unit):Unit:=()
def W7 (a_:List Qg) (b:List Qg):Bool:=(bif ((a_.length:Int) !=(b.length:Int)) then false else (Out.on (Xp (Wx b) Ha a_ 0 ()) (λ_=>true)))
theorem Rb (a_:List Qg) (b:List Qg):ACalls Tryz.prog 58 [.h a_,.h b] (.b (W7 a_ b)):=by
 refine en Qb Tryz.func58 λw0 F0 hG=> ?_
 refine sn Qb [0,1,4] [] p0 <| Qc <| tn Qb [0,1,4,10] [] (pl 1 a_ (pl 3 b p0)) <| ck ((a_.length:Int) !=(b.length:Int)) (λh1=> ?_) (λh1=> ?_)
 ·exact tu Qb [(4,.b false)] [] [] [] p0 <| Qk <| pb [] (X6 h1 (rfl))
 have h1d:=W9 h1;refine Qi <| Qc <| tu Qb [(4,.b false),(5,.i 0)] [] [] [] p0 <| wT 0 0 .sh a_ (λhw2 hl3=> ?_)
 refine M8 (Wx b) Ha a_ () (λk0 _=> [(5,.i (k0:Int))]) [5] (λ_=> []) [0,1,5] wf0 (λk0 s0 hk0 U=> ?_) (λk0 s0 hk0 U=> ?_) (λy0 hD0=> ?_)
 ·obtain ⟨a0,V⟩:=Xs (l:=a_) (i:=k0) hk0;refine Qc <| sn Qb [0,1,4,5,14] [] (pl 2 a_ (pe 3 (zB ((k0:Int)<(a_.length:Int))) p0)) <| ckT <| Qi <| Qc <| Qx <| Qc <| mz [(14,.b true)] [] [] [] <| jn [(41,.b ((!(a0.1.toList==((nth b k0).1).toList))|| (!(Z8 a0.2 ((nth b k0).2)))))] [14] [] [] (!(a0.1.toList==((nth b k0).1).toList)) (λh4=> ?_) (λh4=> ?_) ?_
  ·refine wT 1 0 .sh b (λhw6 hl7=> ?_);have hx5:=ng b k0;refine rN Qb Zf [0,1,4,5,41] [] (pn 2 V (pn 7 hx5 (pt 10 h4 p0))) ?_;exact zA (by rw[h4]<;>kernel_rfl)
  ·refine wT 1 0 .sh b (λhw9 hl10=> ?_);have hx8:=ng b k0;refine rN Qb Zf [0,1,4,5,41] [] (pn 2 V (pn 7 hx8 (pf 10 h4 (pn 14 V (pn 19 hx8 (pc 22 (Em a0.2 ((nth b k0).2)) p0)))))) ?_;exact zA (by rw[h4]<;>kernel_rfl)
  refine ck ((!(a0.1.toList==((nth b k0).1).toList))|| (!(Z8 a0.2 ((nth b k0).2)))) (λh11=> ?_) (λh11=> ?_)
  ·refine su Qb [] [41] [] [] p0 <| Qk ?_
   have hr12:(Xp (Wx b) Ha a_ 0 ())= .ret false:=Z6 V (X6 h11 (rfl)) U;exact pb [] (Qy h1 (M5 hr12))
  refine Qi <| rn Qb [0,1,4,5] [] (pe 1 (Js (Qq k0 (by omega))) p0) ?_
  exact xw _ (Qw V (Qy h11 (rfl)) U)
 ·exact Qc <| sn Qb [0,1,4,5,14] [] (pl 2 a_ (pe 3 (zC ((k0:Int)<(a_.length:Int))) p0)) <| ckF <| Xe <| xw _ (Xy hk0 (rfl) U)
 exact sn Qb [4] [] p0 <| Qk <| pb [] (Qy h1 (Ur hD0 (rfl)))
def Jp (l:Yb):Bool:=(((Jx l.1 l.2.1)).2&&(W7 (((Jx l.1 l.2.1)).1) l.2.2))
theorem XZ {c:Yb} (h:Jp c=true):List.length c.2.1<=5/\Xj c.1=true:=by
 unfold Jp at h;rw[XW] at h;cases he:(Zc c.1 c.2.1).2 with
 | false=>rw[he] at h;simp at h
 | true=>obtain ⟨h1,h2,_⟩:=Ou he;exact ⟨h1,(Ix _).trans h2⟩
theorem Ml (l:Yb):ACalls Tryz.prog 22 [.a [.h l.1.1,.h l.1.2.1,.i l.1.2.2,.h l.2.1,.h l.2.2]] (.b (Jp l)):=by
 refine en Qb Tryz.func22 λw0 F0 hG=> ?_
 refine sn Qb [1,2] [1] p0 <| tn Qb [1,2,3,4] [1] (pc 4 (ZB l.1 l.2.1) p0) <| Qc <| mz [(1,.p 1 0),(2,.b false),(3,.o 640 (((Jx l.1 l.2.1)).1)),(4,.b (((Jx l.1 l.2.1)).2))] [0] [(1, [.h l.1.1,.h l.1.2.1,.i l.1.2.2,.h l.2.1,.h l.2.2])] [] <| jn [(2,.b (((Jx l.1 l.2.1)).2&&(W7 (((Jx l.1 l.2.1)).1) l.2.2)))] [1,2,3,4] [] [1] (((Jx l.1 l.2.1)).2) (λh1=> ?_) (λh1=> ?_) ?_
 ·refine rn Qb [2] [] (pt 0 h1 (pc 5 (Rb (((Jx l.1 l.2.1)).1) l.2.2) p0)) ?_;exact zA (by rw[h1]<;>kernel_rfl)
 ·refine rn Qb [2] [] (pf 0 h1 p0) ?_;exact zA (by rw[h1]<;>kernel_rfl)
 exact Qk <| pb [] (show Jp l=(((Jx l.1 l.2.1)).2&&(W7 (((Jx l.1 l.2.1)).1) l.2.2)) from rfl)
def Zu (f:Yh):Yh:=f
theorem WN (f:Yh):ACalls Tryz.prog 91 [.a [.i f.1,.i f.2.1,.b f.2.2.1,.i f.2.2.2.1,.h f.2.2.2.2]] (.a [.i ((Zu f).1),.i ((Zu f).2.1),.b ((Zu f).2.2.1),.i ((Zu f).2.2.2.1),.o 0 ((Zu f).2.2.2.2)]):=by
 refine en Qb Tryz.func91 λw0 F0 hG=> ?_
 refine sn Qb [1,2] [1,2] p0 <| wB 1 4 .sh f.2.2.2.2 (λhw1 hl2=> ?_)
 exact tn Qb [1,2] [1,2] (po 3 (.flat) (px (Ft (n:=(([]:List (List PV)).length+((eL f.2.2.2.2):List (List PV)).length)) (Lb (rfl) (Y5 f.2.2.2.2) (by first|omega|(simp only[List.length_cons,List.length_nil];omega) | (simp;omega) | simp))) (px (U5 (Up f.2.2.2.2)) p0))) <| tu Qb [(2,.p 2 0)] [0] [(2, [.i f.1,.i f.2.1,.b f.2.2.1,.i f.2.2.2.1,.o 384 f.2.2.2.2])] [] p0 <| Qk <| pz [] (show Zu f=f from rfl) (λz=> .a [.i z.1,.i z.2.1,.b z.2.2.1,.i z.2.2.2.1,.o 0 z.2.2.2.2])
def Dv (_:Nat) (a0:Yh) (s0:List Yh):Rd (X1) (List Yh) (List Yh):=(.next (s0++ [(Zu a0)]))
def Dw (_:Nat) (s0:List Yh):(List Yh):=s0
def Xc (s_:X1):X1:=(Out.on (Xp Dv Dw s_.2.1 0 []) (λy0=>(s_.1,y0,s_.2.2)))
theorem Rc (s_:X1):ACalls Tryz.prog 48 [.a [.h s_.1,.h s_.2.1,.i s_.2.2]] (.a [.o 0 ((Xc s_).1),.o 1 ((Xc s_).2.1),.i ((Xc s_).2.2)]):=by
 refine en Qb Tryz.func48 λw0 F0 hG=> ?_
 refine sn Qb [1,2] [1,2] p0 <| wB 1 0 .sh s_.1 (λhw1 hl2=> ?_)
 refine tN Qb Zf [1,2,3] [1,2,3] (po 3 (.flat) (px (Ft (n:=(([]:List (List PV)).length+((eL s_.1):List (List PV)).length)) (Lb (rfl) (Y5 s_.1) (by first|omega|(simp only[List.length_cons,List.length_nil];omega) | (simp;omega) | simp))) (px (U5 (Up s_.1)) p0))) <| Qc <| tu Qb [(1,.p 1 0),(2,.p 2 0),(3,.p 3 0),(4,.i 0)] [0] [(1, [.h s_.1,.h s_.2.1,.i s_.2.2]),(2, [.e 2,.e 5,.i 0]),(3, [.o 512 s_.1,.e 5,.i s_.2.2])] [] p0 <| wB 1 1 .sh s_.2.1 (λhw3 hl4=> ?_)
 refine Qbn Dv Dw s_.2.1 [] (λk0 _=> [(4,.i (k0:Int))]) [4] (λ_ s0=> [(3, [.o 512 s_.1,.o 147211 s0,.i s_.2.2])]) [3] (λ_=> []) [1,4] (λy0=> [(3, [.o 512 s_.1,.o 147361 y0,.i s_.2.2])]) [1,3] (λk0 s0=>List.length s0<=k0) (PZ [(true,3,1,true,320008,5)] [] [] [(320008,147211)] (by kernel_rfl)) (by simp) (λk0 s0 hk0 U=> ?_) (λk0 s0 hk0 U=> ?_) (λy0 hD0=> ?_)
 ·have hA0_0:=U.2;obtain ⟨a0,V⟩:=Xs (l:=s_.2.1) (i:=k0) hk0;refine Qc <| su Qb [(16,.b true)] [] [] [] (pl 3 s_.2.1 (pe 4 (zB ((k0:Int)<(s_.2.1.length:Int))) p0)) <| ckT <| Qi <| Qc <| Qx <| wB 3 1 (.own true 147211) s0 (λhw5 hl6=> ?_)
  refine rU Qb Zf [] [16] [(3, [.o 512 s_.1,.slc (.own true 1792) 5 ((eL s0)++ [[.i ((Zu a0).1),.i ((Zu a0).2.1),.b ((Zu a0).2.2.1),.i ((Zu a0).2.2.2.1),.h ((Zu a0).2.2.2.2)]]),.i s_.2.2])] [3] (pn 5 V (pc 7 (WN a0) (pa s0 [(Zu a0)] p0))) ?_;refine eqn [] [] [(3, [.o 512 s_.1,.o 1792 (s0++ [(Zu a0)]),.i s_.2.2])] [3] (by rw[show ((eL s0)++ [[.i ((Zu a0).1),.i ((Zu a0).2.1),.b ((Zu a0).2.2.1),.i ((Zu a0).2.2.2.1),.h ((Zu a0).2.2.2.2)]])=(eL (s0++ [(Zu a0)])) from Uw (rfl) (rfl)];first | done | kernel_rfl) ?_;refine rn Qb [1,2,3,4] [1,2,3] (pe 1 (Js (Qq k0 (by omega))) p0) ?_;exact Exists.intro (s0++ [(Zu a0)]) (And.intro (Yg [(1792,147211)] (by kernel_rfl)) ⟨Qw V (rfl) U.1,by first|omega|(simp;omega) | simp⟩)
 ·have hA0_0:=U.2;exact Qc <| su Qb [(16,.b false)] [] [] [] (pl 3 s_.2.1 (pe 4 (zC ((k0:Int)<(s_.2.1.length:Int))) p0)) <| ckF <| Xe <| Exists.intro _ (And.intro (Yg [(147211,147361)] (by kernel_rfl)) (Xy hk0 (rfl) U.1))
 exact sn Qb [2] [2] p0 <| Qk <| pz [] (show Xc s_=_ from Ur hD0 (rfl)) (λz=> .a [.o 0 z.1,.o 1 z.2.1,.i z.2.2])
def Gg (_:Nat) (a0:Y8) (s0:List Y8):Rd (List Y8) (List Y8) (List Y8):=(.next (s0++ [a0]))
def Gh (_:Nat) (s0:List Y8):(List Y8):=s0
def Fh (d:List Y8):(List Y8):=(Out.on (Xp Gg Gh d 0 []) (λy0=>y0))
theorem WO (d:List Y8):ACalls Tryz.prog 49 [.h d] (.o 0 (Fh d)):=by
 refine en Qb Tryz.func49 λw0 F0 hG=> ?_
 refine sn Qb [0,2] [] p0 <| tn Qb [0,2,3] [] p0 <| Qc <| tu Qb [(2,.e 0),(3,.one (.slc (.own true 320) 2 [])),(4,.i 0)] [] [] [] p0 <| wT 0 0 .sh d (λhw1 hl2=> ?_)
 refine AK Gg Gh d [] (λk0 s0=> [(3,.o 147202 s0),(4,.i (k0:Int))]) [3,4] (λy0=> [(3,.o 147352 y0)]) [0,3,4] (λk0 s0=>List.length s0<=k0) (Yg [(320,147202)] (by kernel_rfl)) (by simp) (λk0 s0 hk0 U=> ?_) (λk0 s0 hk0 U=> ?_) (λy0 hD0=> ?_)
 ·have hA0_0:=U.2;obtain ⟨a0,V⟩:=Xs (l:=d) (i:=k0) hk0;refine Qc <| sn Qb [0,2,3,4,9] [] (pl 2 d (pe 3 (zB ((k0:Int)<(d.length:Int))) p0)) <| ckT <| Qi <| Qc <| Qx ?_
  have hl3:List.length a0.2<=1073741824:=Ei (VI (VH V (hw1)));refine wT 3 0 (.own true 147202) s0 (λhw4 hl5=> ?_);refine qU Qb Zf [(3,.one (.slc (.own true 1728) 2 ((eL s0)++ [[.s a0.1,.slc 7 ([]++(eL a0.2))]])))] [3] [] [] (pn 3 V (pn 9 V (po 12 (.flat) (px (Ft (n:=(([]:List (List PV)).length+((eL a0.2):List (List PV)).length)) (Lb (rfl) (Y5 a0.2) (by first|omega|(simp only[List.length_cons,List.length_nil];omega) | (simp;omega) | simp))) (px (U5 (Up a0.2)) (px (Ft (n:=(((eL s0):List (List PV)).length+([[.s a0.1,.slc 7 ([]++(eL a0.2))]]:List (List PV)).length)) (Lb (Y5 s0) (rfl) (by first|omega|(simp only[List.length_cons,List.length_nil];omega) | (simp;omega) | simp))) p0)))))) ?_;refine eqn [(3,.o 1728 (s0++ [a0]))] [3] [] [] (by rw[show ((eL s0)++ [[.s a0.1,.slc 7 ([]++(eL a0.2))]])=(eL (s0++ [a0])) from Uw (rfl) (rfl)];first | done | kernel_rfl) ?_;refine rn Qb [0,2,3,4] [] (pe 1 (Js (Qq k0 (by omega))) p0) ?_;exact Exists.intro (s0++ [a0]) (And.intro (Yg [(1728,147202)] (by kernel_rfl)) ⟨Qw V (rfl) U.1,by first|omega|(simp;omega) | simp⟩)
 ·have hA0_0:=U.2;exact Qc <| sn Qb [0,2,3,4,9] [] (pl 2 d (pe 3 (zC ((k0:Int)<(d.length:Int))) p0)) <| ckF <| Xe <| Exists.intro _ (And.intro (Yg [(147202,147352)] (by kernel_rfl)) (Xy hk0 (rfl) U.1))
 exact sn Qb [2] [] p0 <| Qk <| po0 [] (Ur hD0 (rfl))
def Dn (_:Nat) (a0:Qg) (s0:List Qg):Rd (List Qg) (List Qg) (List Qg):=(.next (s0++ [a0]))
def Dp (_:Nat) (s0:List Qg):(List Qg):=s0
def Bg (a_:List Qg):(List Qg):=(Out.on (Xp Dn Dp a_ 0 []) (λy0=>y0))
theorem Tg (a_:List Qg):ACalls Tryz.prog 50 [.h a_] (.o 0 (Bg a_)):=by
 refine en Qb Tryz.func50 λw0 F0 hG=> ?_
 refine sn Qb [0,2] [] p0 <| tn Qb [0,2,3] [] p0 <| Qc <| tu Qb [(2,.e 0),(3,.one (.slc (.own true 320) 2 [])),(4,.i 0)] [] [] [] p0 <| wT 0 0 .sh a_ (λhw1 hl2=> ?_)
 refine AK Dn Dp a_ [] (λk0 s0=> [(3,.o 147202 s0),(4,.i (k0:Int))]) [3,4] (λy0=> [(3,.o 147352 y0)]) [0,3,4] (λk0 s0=>List.length s0<=k0) (Yg [(320,147202)] (by kernel_rfl)) (by simp) (λk0 s0 hk0 U=> ?_) (λk0 s0 hk0 U=> ?_) (λy0 hD0=> ?_)
 ·have hA0_0:=U.2;obtain ⟨a0,V⟩:=Xs (l:=a_) (i:=k0) hk0;refine Qc <| sn Qb [0,2,3,4,9] [] (pl 2 a_ (pe 3 (zB ((k0:Int)<(a_.length:Int))) p0)) <| ckT <| Qi <| Qc <| Qx ?_
  have hl3:List.length a0.2<=1073741824:=Ei (VI (VH V (hw1)));refine wT 3 0 (.own true 147202) s0 (λhw4 hl5=> ?_);refine qU Qb Zf [(3,.one (.slc (.own true 1728) 2 ((eL s0)++ [[.s a0.1,.slc 1 ([]++(eL a0.2))]])))] [3] [] [] (pn 3 V (pn 9 V (po 12 (.flat) (px (Ft (n:=(([]:List (List PV)).length+((eL a0.2):List (List PV)).length)) (Lb (rfl) (Y5 a0.2) (by first|omega|(simp only[List.length_cons,List.length_nil];omega) | (simp;omega) | simp))) (px (U5 (Up a0.2)) (px (Ft (n:=(((eL s0):List (List PV)).length+([[.s a0.1,.slc 1 ([]++(eL a0.2))]]:List (List PV)).length)) (Lb (Y5 s0) (rfl) (by first|omega|(simp only[List.length_cons,List.length_nil];omega) | (simp;omega) | simp))) p0)))))) ?_;refine eqn [(3,.o 1728 (s0++ [a0]))] [3] [] [] (by rw[show ((eL s0)++ [[.s a0.1,.slc 1 ([]++(eL a0.2))]])=(eL (s0++ [a0])) from Uw (rfl) (rfl)];first | done | kernel_rfl) ?_;refine rn Qb [0,2,3,4] [] (pe 1 (Js (Qq k0 (by omega))) p0) ?_;exact Exists.intro (s0++ [a0]) (And.intro (Yg [(1728,147202)] (by kernel_rfl)) ⟨Qw V (rfl) U.1,by first|omega|(simp;omega) | simp⟩)
 ·have hA0_0:=U.2;exact Qc <| sn Qb [0,2,3,4,9] [] (pl 2 a_ (pe 3 (zC ((k0:Int)<(a_.length:Int))) p0)) <| ckF <| Xe <| Exists.intro _ (And.intro (Yg [(147202,147352)] (by kernel_rfl)) (Xy hk0 (rfl) U.1))
 exact sn Qb [2] [] p0 <| Qk <| po0 [] (Ur hD0 (rfl))
def Qv (l:Yb):Yb:=((Xc l.1),(Fh l.2.1),(Bg l.2.2))
theorem WP (l:Yb):ACalls Tryz.prog 20 [.a [.h l.1.1,.h l.1.2.1,.i l.1.2.2,.h l.2.1,.h l.2.2]] (.a [.o 0 ((Qv l).1.1),.o 1 ((Qv l).1.2.1),.i ((Qv l).1.2.2),.o 2 ((Qv l).2.1),.o 3 ((Qv l).2.2)]):=by
 refine en Qb Tryz.func20 λw0 F0 hG=> ?_
 exact sn Qb [1,2] [1,2] p0 <| tN Qb Zf [2] [2] (pc 2 (Rc l.1) (pc 5 (WO l.2.1) (pc 8 (Tg l.2.2) p0))) <| Qk <| pz [] (show Qv l=((Xc l.1),(Fh l.2.1),(Bg l.2.2)) from rfl) (λz=> .a [.o 0 z.1.1,.o 1 z.1.2.1,.i z.1.2.2,.o 2 z.2.1,.o 3 z.2.2])
def Wy (l:Yb) (s_:X1) (d:List Y8) (names:Z):Yb×(List Cs):=((s_,d,((Z2 s_ d l.2.2 names)).1),(Uz l.2.2 (((Z2 s_ d l.2.2 names)).1)))
theorem WQ (l:Yb) (s_:X1) (d:List Y8) (names:Z):ACalls Tryz.prog 23 [.a [.h l.1.1,.h l.1.2.1,.i l.1.2.2,.h l.2.1,.h l.2.2],.a [.h s_.1,.h s_.2.1,.i s_.2.2],.h d,.h names] (.tup [(true, [.h ((((Wy l s_ d names)).1).1.1),.h ((((Wy l s_ d names)).1).1.2.1),.i ((((Wy l s_ d names)).1).1.2.2),.h ((((Wy l s_ d names)).1).2.1),.h ((((Wy l s_ d names)).1).2.2)]),(false, [.h (((Wy l s_ d names)).2)])]):=by
 refine en Qb Tryz.func23 λw0 F0 hG=> ?_
 exact sn Qb [2,3,4,5,8,9] [4,5,8] p0 <| tn Qb [2,4,5,8,9,10] [4,5,8] (pc 5 (Tf s_ d l.2.2 names) p0) <| tU Qb Zf [(8,.p 8 0),(9,.o 1792 (Uz l.2.2 (((Z2 s_ d l.2.2 names)).1)))] [0,1,2,3] [(8, [.h s_.1,.h s_.2.1,.i s_.2.2,.h d,.o 1152 (((Z2 s_ d l.2.2 names)).1)])] [] (pc 7 (Sq l.2.2 (((Z2 s_ d l.2.2 names)).1)) p0) <| Qk <| pz [1152,1792] (show Wy l s_ d names=((s_,d,((Z2 s_ d l.2.2 names)).1),(Uz l.2.2 (((Z2 s_ d l.2.2 names)).1))) from rfl) (λz=> .tup [(true, [.h z.1.1.1,.h z.1.1.2.1,.i z.1.1.2.2,.h z.1.2.1,.h z.1.2.2]),(false, [.h z.2])])
def Fi (_:Nat) (a0:Y8) (s0:Z):Rd Z Z Z:=(.next (s0++ [a0.1]))
def Fj (_:Nat) (s0:Z):Z:=s0
def Cd (d:List Y8):Z:=(Out.on (Xp Fi Fj d 0 []) (λy0=>y0))
theorem ZC (d:List Y8):ACalls Tryz.prog 24 [.h d] (.o 0 (Cd d)):=by
 refine en Qb Tryz.func24 λw0 F0 hG=> ?_
 refine sn Qb [0,2] [] p0 <| tn Qb [0,2,3] [] p0 <| Qc <| tu Qb [(2,.e 0),(3,.one (.slc (.own true 320) 1 [])),(4,.i 0)] [] [] [] p0 <| wT 0 0 .sh d (λhw1 hl2=> ?_)
 refine AK Fi Fj d [] (λk0 s0=> [(3,.o 147202 s0),(4,.i (k0:Int))]) [3,4] (λy0=> [(3,.o 147352 y0)]) [0,3,4] (λk0 s0=>List.length s0<=k0) (Yg [(320,147202)] (by kernel_rfl)) (by simp) (λk0 s0 hk0 U=> ?_) (λk0 s0 hk0 U=> ?_) (λy0 hD0=> ?_)
 ·have hA0_0:=U.2;obtain ⟨a0,V⟩:=Xs (l:=d) (i:=k0) hk0;refine Qc <| sn Qb [0,2,3,4,9] [] (pl 2 d (pe 3 (zB ((k0:Int)<(d.length:Int))) p0)) <| ckT <| Qi <| Qc <| Qx <| wT 3 0 (.own true 147202) s0 (λhw3 hl4=> ?_)
  refine qu Qb [(3,.one (.slc (.own true 1216) 1 ((eL s0)++ [[.s a0.1]])))] [3] [] [] (pn 3 V (pa s0 [a0.1] p0)) ?_;refine eqn [(3,.o 1216 (s0++ [a0.1]))] [3] [] [] (by rw[show ((eL s0)++ [[.s a0.1]])=(eL (s0++ [a0.1])) from Uw (rfl) (rfl)];first | done | kernel_rfl) ?_;refine rn Qb [0,2,3,4] [] (pe 1 (Js (Qq k0 (by omega))) p0) ?_;exact Exists.intro (s0++ [a0.1]) (And.intro (Yg [(1216,147202)] (by kernel_rfl)) ⟨Qw V (rfl) U.1,by first|omega|(simp;omega) | simp⟩)
 ·have hA0_0:=U.2;exact Qc <| sn Qb [0,2,3,4,9] [] (pl 2 d (pe 3 (zC ((k0:Int)<(d.length:Int))) p0)) <| ckF <| Xe <| Exists.intro _ (And.intro (Yg [(147202,147352)] (by kernel_rfl)) (Xy hk0 (rfl) U.1))
 exact sn Qb [2] [] p0 <| Qk <| po0 [] (Ur hD0 (rfl))
def Ql (f:Yh):Yh:=f
theorem N0 (f:Yh):ACalls Tryz.prog 123 [.a [.i f.1,.i f.2.1,.b f.2.2.1,.i f.2.2.2.1,.h f.2.2.2.2]] (.a [.i ((Ql f).1),.i ((Ql f).2.1),.b ((Ql f).2.2.1),.i ((Ql f).2.2.2.1),.o 0 ((Ql f).2.2.2.2)]):=by
 refine en Qb Tryz.func123 λw0 F0 hG=> ?_
 exact sn Qb [1,2] [1,2] p0 <| tn Qb [1,2] [1,2] (pc 2 (DV f.2.2.2.2) p0) <| tu Qb [(2,.p 2 0)] [0] [(2, [.i f.1,.i f.2.1,.b f.2.2.1,.i f.2.2.2.1,.o 320 f.2.2.2.2])] [] p0 <| Qk <| pz [] (show Ql f=f from rfl) (λz=> .a [.i z.1,.i z.2.1,.b z.2.2.1,.i z.2.2.2.1,.o 0 z.2.2.2.2])
def Ed (_:Nat) (a0:Yh) (s0:List Yh):Rd (List Yh) (List Yh) (List Yh):=(.next (s0++ [(Ql a0)]))
def Bs (_:Nat) (s0:List Yh):(List Yh):=s0
def C9 (l:List Yh):(List Yh):=(Out.on (Xp Ed Bs l 0 []) (λy0=>y0))
theorem YA (l:List Yh):ACalls Tryz.prog 112 [.h l] (.o 0 (C9 l)):=by
 refine en Qb Tryz.func112 λw0 F0 hG=> ?_
 refine sn Qb [0,2] [] p0 <| tn Qb [0,2,3] [] p0 <| Qc <| tu Qb [(2,.e 0),(3,.one (.slc (.own true 384) 5 [])),(7,.h l),(8,.i (l.length:Int)),(9,.i 0)] [0] [] [] (pl 1 l p0) <| wT 7 0 .sh l (λhw1 hl2=> ?_)
 refine AK Ed Bs l [] (λk0 s0=> [(3,.o 147201 s0),(9,.i (k0:Int))]) [3,9] (λy0=> [(3,.o 147351 y0)]) [3,7,8,9] (λk0 s0=>List.length s0<=k0) (Yg [(384,147201)] (by kernel_rfl)) (by simp) (λk0 s0 hk0 U=> ?_) (λk0 s0 hk0 U=> ?_) (λy0 hD0=> ?_)
 ·have hA0_0:=U.2;obtain ⟨a0,V⟩:=Xs (l:=l) (i:=k0) hk0;refine sn Qb [2,3,7,8,9,10] [] (pe 0 (zB ((k0:Int)<(l.length:Int))) p0) <| Qc <| ckT <| Qi <| Qc <| Qx <| tn Qb [2,3,5,7,8,9] [5] (pn 0 V p0) <| wT 3 0 (.own true 147201) s0 (λhw3 hl4=> ?_)
  refine qu Qb [(3,.one (.slc (.own true 1088) 5 ((eL s0)++ [[.i ((Ql a0).1),.i ((Ql a0).2.1),.b ((Ql a0).2.2.1),.i ((Ql a0).2.2.2.1),.h ((Ql a0).2.2.2.2)]])))] [3] [] [] (pc 2 (N0 a0) (pa s0 [(Ql a0)] p0)) ?_;refine eqn [(3,.o 1088 (s0++ [(Ql a0)]))] [3] [] [] (by rw[show ((eL s0)++ [[.i ((Ql a0).1),.i ((Ql a0).2.1),.b ((Ql a0).2.2.1),.i ((Ql a0).2.2.2.1),.h ((Ql a0).2.2.2.2)]])=(eL (s0++ [(Ql a0)])) from Uw (rfl) (rfl)];first | done | kernel_rfl) ?_;refine rn Qb [2,3,7,8,9] [] (pe 0 (Js (Qq k0 (by omega))) p0) ?_;exact Exists.intro (s0++ [(Ql a0)]) (And.intro (Yg [(1088,147201)] (by kernel_rfl)) ⟨Qw V (rfl) U.1,by first|omega|(simp;omega) | simp⟩)
 ·have hA0_0:=U.2;exact sn Qb [2,3,7,8,9,10] [] (pe 0 (zC ((k0:Int)<(l.length:Int))) p0) <| Qc <| ckF <| Xe <| Exists.intro _ (And.intro (Yg [(147201,147351)] (by kernel_rfl)) (Xy hk0 (rfl) U.1))
 exact sn Qb [2] [] p0 <| Qk <| po0 [] (Ur hD0 (rfl))
def Qz (s_:X1):X1:=(s_.1,(C9 s_.2.1),s_.2.2)
theorem BP (l:List Yh):C9 l=l:=by
 unfold C9;rw[Cr (f:=Ed) (e:=Bs) (g:=id) (λk a s=>rfl) l 0 []];simp[Out.on,Bs]
theorem D4 (s_:X1):Qz s_=s_:=by unfold Qz;rw[BP]
theorem Fk (s_:X1):ACalls Tryz.prog 65 [.a [.h s_.1,.h s_.2.1,.i s_.2.2]] (.a [.o 0 ((Qz s_).1),.o 1 ((Qz s_).2.1),.i ((Qz s_).2.2)]):=by
 refine en Qb Tryz.func65 λw0 F0 hG=> ?_
 exact sn Qb [1,2] [1,2] p0 <| tN Qb Zf [2] [2] (pc 2 (AM s_.1) (pc 5 (YA s_.2.1) p0)) <| Qk <| pz [] (show Qz s_=(s_.1,(C9 s_.2.1),s_.2.2) from rfl) (λz=> .a [.o 0 z.1,.o 1 z.2.1,.i z.2.2])
def V9 (x:Y8):Y8:=x
theorem WR (x:Y8):ACalls Tryz.prog 133 [.a [.s x.1,.h x.2]] (.a [.s ((V9 x).1),.o 0 ((V9 x).2)]):=by
 refine en Qb Tryz.func133 λw0 F0 hG=> ?_
 exact sn Qb [1,2] [1,2] p0 <| tn Qb [1,2] [1,2] (pc 2 (DX x.2) p0) <| tu Qb [(2,.p 2 0)] [0] [(2, [.s x.1,.o 320 x.2])] [] p0 <| Qk <| pz [] (show V9 x=x from rfl) (λz=> .a [.s z.1,.o 0 z.2])
def Fl (_:Nat) (a0:Y8) (s0:List Y8):Rd (List Y8) (List Y8) (List Y8):=(.next (s0++ [(V9 a0)]))
def Mm (_:Nat) (s0:List Y8):(List Y8):=s0
def Ce (d:List Y8):(List Y8):=(Out.on (Xp Fl Mm d 0 []) (λy0=>y0))
theorem YB (d:List Y8):Ce d=d:=by
 unfold Ce;rw[Cr (f:=Fl) (g:=id) (λ_ _ _=>rfl),List.map_id];rfl
theorem N1 (d:List Y8):ACalls Tryz.prog 73 [.h d] (.o 0 (Ce d)):=by
 refine en Qb Tryz.func73 λw0 F0 hG=> ?_
 refine sn Qb [0,2] [] p0 <| tn Qb [0,2,3] [] p0 <| Qc <| tu Qb [(2,.e 0),(3,.one (.slc (.own true 384) 2 [])),(7,.h d),(8,.i (d.length:Int)),(9,.i 0)] [0] [] [] (pl 1 d p0) <| wT 7 0 .sh d (λhw1 hl2=> ?_)
 refine AK Fl Mm d [] (λk0 s0=> [(3,.o 147201 s0),(9,.i (k0:Int))]) [3,9] (λy0=> [(3,.o 147351 y0)]) [3,7,8,9] (λk0 s0=>List.length s0<=k0) (Yg [(384,147201)] (by kernel_rfl)) (by simp) (λk0 s0 hk0 U=> ?_) (λk0 s0 hk0 U=> ?_) (λy0 hD0=> ?_)
 ·have hA0_0:=U.2;obtain ⟨a0,V⟩:=Xs (l:=d) (i:=k0) hk0;refine sn Qb [2,3,7,8,9,10] [] (pe 0 (zB ((k0:Int)<(d.length:Int))) p0) <| Qc <| ckT <| Qi <| Qc <| Qx <| tn Qb [2,3,5,7,8,9] [5] (pn 0 V p0) <| wT 3 0 (.own true 147201) s0 (λhw3 hl4=> ?_)
  refine qu Qb [(3,.one (.slc (.own true 1088) 2 ((eL s0)++ [[.s ((V9 a0).1),.h ((V9 a0).2)]])))] [3] [] [] (pc 2 (WR a0) (pa s0 [(V9 a0)] p0)) ?_;refine eqn [(3,.o 1088 (s0++ [(V9 a0)]))] [3] [] [] (by rw[show ((eL s0)++ [[.s ((V9 a0).1),.h ((V9 a0).2)]])=(eL (s0++ [(V9 a0)])) from Uw (rfl) (rfl)];first | done | kernel_rfl) ?_;refine rn Qb [2,3,7,8,9] [] (pe 0 (Js (Qq k0 (by omega))) p0) ?_;exact Exists.intro (s0++ [(V9 a0)]) (And.intro (Yg [(1088,147201)] (by kernel_rfl)) ⟨Qw V (rfl) U.1,by first|omega|(simp;omega) | simp⟩)
 ·have hA0_0:=U.2;exact sn Qb [2,3,7,8,9,10] [] (pe 0 (zC ((k0:Int)<(d.length:Int))) p0) <| Qc <| ckF <| Xe <| Exists.intro _ (And.intro (Yg [(147201,147351)] (by kernel_rfl)) (Xy hk0 (rfl) U.1))
 exact sn Qb [2] [] p0 <| Qk <| po0 [] (Ur hD0 (rfl))
def Da (_:Nat) (a0:Qg) (s0:List Qg):Rd (List Qg) (List Qg) (List Qg):=(.next (s0++ [a0]))
def Db (_:Nat) (s0:List Qg):(List Qg):=s0
def Af (r:List Qg):(List Qg):=(Out.on (Xp Da Db r 0 []) (λy0=>y0))
theorem Sr (r:List Qg):ACalls Tryz.prog 74 [.h r] (.o 0 (Af r)):=by
 refine en Qb Tryz.func74 λw0 F0 hG=> ?_
 refine sn Qb [0,2] [] p0 <| tn Qb [0,2,3] [] p0 <| Qc <| tu Qb [(2,.e 0),(3,.one (.slc (.own true 384) 2 [])),(7,.h r),(8,.i (r.length:Int)),(9,.i 0)] [0] [] [] (pl 1 r p0) <| wT 7 0 .sh r (λhw1 hl2=> ?_)
 refine AK Da Db r [] (λk0 s0=> [(3,.o 147201 s0),(9,.i (k0:Int))]) [3,9] (λy0=> [(3,.o 147351 y0)]) [3,7,8,9] (λk0 s0=>List.length s0<=k0) (Yg [(384,147201)] (by kernel_rfl)) (by simp) (λk0 s0 hk0 U=> ?_) (λk0 s0 hk0 U=> ?_) (λy0 hD0=> ?_)
 ·have hA0_0:=U.2;obtain ⟨a0,V⟩:=Xs (l:=r) (i:=k0) hk0;refine sn Qb [2,3,7,8,9,10] [] (pe 0 (zB ((k0:Int)<(r.length:Int))) p0) <| Qc <| ckT <| Qi <| Qc <| Qx <| tn Qb [2,3,5,7,8,9] [5] (pn 0 V p0) <| wT 3 0 (.own true 147201) s0 (λhw3 hl4=> ?_)
  refine qU Qb Zf [(3,.one (.slc (.own true 1344) 2 ((eL s0)++ [[.s a0.1,.h a0.2]])))] [3] [] [] (pc 5 (Sd a0.2) (pa s0 [a0] p0)) ?_;refine eqn [(3,.o 1344 (s0++ [a0]))] [3] [] [] (by rw[show ((eL s0)++ [[.s a0.1,.h a0.2]])=(eL (s0++ [a0])) from Uw (rfl) (rfl)];first | done | kernel_rfl) ?_;refine rn Qb [2,3,7,8,9] [] (pe 0 (Js (Qq k0 (by omega))) p0) ?_;exact Exists.intro (s0++ [a0]) (And.intro (Yg [(1344,147201)] (by kernel_rfl)) ⟨Qw V (rfl) U.1,by first|omega|(simp;omega) | simp⟩)
 ·have hA0_0:=U.2;exact sn Qb [2,3,7,8,9,10] [] (pe 0 (zC ((k0:Int)<(r.length:Int))) p0) <| Qc <| ckF <| Xe <| Exists.intro _ (And.intro (Yg [(147201,147351)] (by kernel_rfl)) (Xy hk0 (rfl) U.1))
 exact sn Qb [2] [] p0 <| Qk <| po0 [] (Ur hD0 (rfl))
def Kp (c:Yb):Yb:=((Qz c.1),(Ce c.2.1),(Af c.2.2))
theorem G5 (c:Yb):ACalls Tryz.prog 30 [.a [.h c.1.1,.h c.1.2.1,.i c.1.2.2,.h c.2.1,.h c.2.2]] (.a [.o 0 ((Kp c).1.1),.o 1 ((Kp c).1.2.1),.i ((Kp c).1.2.2),.o 2 ((Kp c).2.1),.o 3 ((Kp c).2.2)]):=by
 refine en Qb Tryz.func30 λw0 F0 hG=> ?_
 exact sn Qb [1,2] [1,2] p0 <| tN Qb Zf [2] [2] (pc 2 (Fk c.1) (pc 5 (N1 c.2.1) (pc 8 (Sr c.2.2) p0))) <| Qk <| pz [] (show Kp c=((Qz c.1),(Ce c.2.1),(Af c.2.2)) from rfl) (λz=> .a [.o 0 z.1.1,.o 1 z.1.2.1,.i z.1.2.2,.o 2 z.2.1,.o 3 z.2.2])
def Kq (s_:X1) (d:List Y8) (r:List Qg) (names:Z):(List Qg)×Bool:=(((X2 s_ d r names)).1,((X2 s_ d r names)).2.2)
theorem Th (s_:X1) (d:List Y8) (r:List Qg) (names:Z):ACalls Tryz.prog 75 [.a [.h s_.1,.h s_.2.1,.i s_.2.2],.h d,.h r,.h names] (.tup [(false, [.o 0 (((Kq s_ d r names)).1)]),(false, [.b (((Kq s_ d r names)).2)])]):=by
 refine en Qb Tryz.func75 λw0 F0 hG=> ?_
 exact sn Qb [1,2,3,4,8,9] [4] p0 <| tn Qb [8,9,10,12] [] (pc 4 (Mh s_ d r names) p0) <| tu Qb [(8,.o 1152 (((X2 s_ d r names)).1)),(9,.b (((X2 s_ d r names)).2.2))] [0,1,2,3] [] [] p0 <| Qk <| pz [] (show Kq s_ d r names=(((X2 s_ d r names)).1,((X2 s_ d r names)).2.2) from rfl) (λz=> .tup [(false, [.o 0 z.1]),(false, [.b z.2])])
def Jq (c:Yb) (s_:X1) (d:List Y8) (names:Z):Yb×(List Cs)×Bool:=(bif (!(((Kq s_ d c.2.2 names)).2)) then ((Kp c), [],false) else (((Qz s_),(Ce d),((Kq s_ d c.2.2 names)).1),(Jy c.2.2 (((Kq s_ d c.2.2 names)).1)),true))
theorem YC (c:Yb) (s_:X1) (d:List Y8) (names:Z):ACalls Tryz.prog 31 [.a [.h c.1.1,.h c.1.2.1,.i c.1.2.2,.h c.2.1,.h c.2.2],.a [.h s_.1,.h s_.2.1,.i s_.2.2],.h d,.h names] (.tup [(true, [.o 0 ((((Jq c s_ d names)).1).1.1),.o 1 ((((Jq c s_ d names)).1).1.2.1),.i ((((Jq c s_ d names)).1).1.2.2),.o 2 ((((Jq c s_ d names)).1).2.1),.o 3 ((((Jq c s_ d names)).1).2.2)]),(false, [.o 4 (((Jq c s_ d names)).2.1)]),(false, [.b (((Jq c s_ d names)).2.2)])]):=by
 refine en Qb Tryz.func31 λw0 F0 hG=> ?_
 refine sn Qb [2,3,4,5,8,9,10] [4,5,8] p0 <| tn Qb [2,4,5,8,9,10,11,12] [4,5,8] (pc 5 (Th s_ d c.2.2 names) p0) <| Qc <| tu Qb [(4,.p 4 0),(5,.p 5 0),(8,.p 8 0),(9,.e 0),(10,.b false),(11,.o 1216 (((Kq s_ d c.2.2 names)).1)),(23,.b (!(((Kq s_ d c.2.2 names)).2)))] [0,1,3] [(4, [.h c.1.1,.h c.1.2.1,.i c.1.2.2,.h c.2.1,.h c.2.2]),(5, [.h s_.1,.h s_.2.1,.i s_.2.2]),(8, [.e 2,.e 5,.i 0,.e 2,.e 2])] [] p0 <| ck (!(((Kq s_ d c.2.2 names)).2)) (λh1=> ?_) (λh1=> ?_)
 ·refine sn Qb [2,4,5,8,9,10,11] [4,5,8] (pc 1 (G5 c) p0) <| opn [(false,9,0,true,384000,3)] ?_
  exact Qk <| pz [] (show Jq c s_ d names=_ from X6 h1 (rfl)) (λz=> .tup [(true, [.o 0 z.1.1.1,.o 1 z.1.1.2.1,.i z.1.1.2.2,.o 2 z.1.2.1,.o 3 z.1.2.2]),(false, [.o 4 z.2.1]),(false, [.b z.2.2])])
 exact Qi <| sN Qb Zf [8,9,10] [8] (pc 1 (Fk s_) (pc 3 (N1 d) (pc 9 (Sp c.2.2 (((Kq s_ d c.2.2 names)).1)) p0))) <| Qk <| pz [] (show Jq c s_ d names=_ from Qy h1 (rfl)) (λz=> .tup [(true, [.o 0 z.1.1.1,.o 1 z.1.1.2.1,.i z.1.1.2.2,.o 2 z.1.2.1,.o 3 z.1.2.2]),(false, [.o 4 z.2.1]),(false, [.b z.2.2])])
end
section
open Go.RowKit
instance memDec (a : ByteArray) (S : List ByteArray) : Decidable (a ∈ S) := decidable_of_iff (S.any (λx => decide (x = a)) = true) (by rw [List.any_eq_true]; exact ⟨λ⟨x, h, e⟩ => of_decide_eq_true e ▸ h, λh => ⟨a, h, decide_eq_true rfl⟩⟩)
abbrev Qi2 := List (ByteArray × List ByteArray)
inductive Reach (E : Qi2) (N : List ByteArray) : ByteArray → Prop
  | base {x : ByteArray} : x ∈ N → Reach E N x
  | step {e : ByteArray × List ByteArray} {a : ByteArray} : e ∈ E → a ∈ e.2 → Reach E N a → Reach E N e.1
theorem BQ (d : List Y8) : Cd d = Yn d := by
  rw [Ot]
  unfold Cd
  rw [Cr (f := Fi) (g := λa : Y8 => a.1) (λ_ _ _ => rfl)]
  simp [Out.on, Fj]
/-! ### what depends on names, directly or not -/
theorem WS (s : X1) : Xc s = s := by
  unfold Xc
  rw [Cr (f := Dv) (e := Dw) (g := id) (λ_ _ _ => rfl), List.map_id]
  rfl
theorem BR (d : List Y8) : Fh d = d := by
  unfold Fh
  rw [Cr (f := Gg) (e := Gh) (g := id) (λ_ _ _ => rfl), List.map_id]
  rfl
theorem ZD (r : List Qg) : Af r = r := by
  unfold Af
  rw [Cr (f := Da) (e := Db) (g := id) (λ_ _ _ => rfl), List.map_id]
  rfl
theorem NB (r : List Qg) : Bg r = r := by
  unfold Bg
  rw [Cr (f := Dn) (e := Dp) (g := id) (λ_ _ _ => rfl), List.map_id]
  rfl
theorem NC (c : Yb) : Kp c = c := by
  unfold Kp
  rw [D4, YB, ZD]
theorem ES (c : Yb) : Qv c = c := by
  unfold Qv
  rw [WS, BR, NB]
/-! ### directories put and taken away -/
theorem YD (a b : List Qg) : W7 a b = Kw a b := by
  unfold W7 Kw Y1
  rw [Fw (f := Wx b) (g := Yx b) (e := Ha) (e' := Ze) (λk x s => by
    unfold Wx Yx Kk
    rw [Tx, WJ, ← Bool.not_and]) (λ_ _ => rfl)]
theorem ND (c : Yb) : Jp c = Zi c := by
  unfold Jp Zi
  rw [XW, YD]
theorem ZE {c : Yb} (h : Zi c = true) : (Qo c.2.1).2 = true := by
  unfold Zi Zc X2 at h
  cases hS : (Qo c.2.1).2 with
  | true => rfl
  | false => rw [hS] at h; simp at h
theorem Qcg {s : X1} {d : List Y8} {r : List Qg} {names : List ByteArray} (hs : (Qo d).2 = true) (hv : Q7 s = true) : ∃ o p, X2 s d r names = (o, p, true) ∧ Z2 s d r names = (o, true) := by
  obtain ⟨h1, h2⟩ := Iy (L := ((Qo d)).1) (on := onD d names) (fs := s.2.1) (g := Cb r names) (f := Zp r names) (e := Jd) (d := d) (λk a s => by
      unfold Zp Cb
      cases Xd names a.1 <;> rfl) (λj _ hj => by unfold onD at hj; unfold Cb; rw [hj]; rfl)
  obtain ⟨h3, _⟩ := Iy (L := ((Qo d)).1) (on := onD d names) (fs := s.2.1) (g := Cb r names) (f := Vo r names) (e := Wq) (d := d) SR (λj _ hj => by unfold onD at hj; unfold Cb; rw [hj]; rfl)
  have key : ∀ (n k : Nat) (o : List Qg) (p : Int), EvS d ((Qo d)).1 (onD d names) s.2.1 (((k : Nat)) : Int) o → ∃ o' p', Wb (J3 s d names) Hd n k (o, p) = .brk (o', p') ∧ Wb (Au s d names) Dm n k o = .brk o' := by
    intro n
    induction n with
    | zero => intro k o p _; exact ⟨o, p, rfl, rfl⟩
    | succ n ih =>
      intro k o p ho
      obtain ⟨o1, p1, g1, g2⟩ := Ao (p := p) hs ho
      have g1' := WL (BO s d names k) _ o p true _ g1
      obtain ⟨o2, p2, g3, g4⟩ := ih (k + 1) o1 p1 (by rw [Int.natCast_add]; exact g2)
      refine ⟨o2, p2, ?_, ?_⟩
      · simp only [Wb]
        unfold J3 Lh
        rw [g1]
        exact g3
      simp only [Wb]
      unfold Au Lh
      rw [g1']
      exact g4
  obtain ⟨o, p, g1, g2⟩ := key (Int.toNat (Jh d + 1)) 0 _ 0 h2
  refine ⟨o, p, ?_, ?_⟩
  · unfold X2
    rw [hs, hv, h1]
    simp only [Bool.not_true, Bool.or_self, cond_false, Out.on, Jd]
    rw [g1]
  unfold Z2
  rw [Wk, Ix, P7, hs, hv, h3]
  simp only [Bool.not_true, Bool.or_self, cond_false, Out.on, Wq]
  rw [g2]
/-! ### stores that stay valid -/
/-! ### the operations -/
structure OpEq (x y : Yb) (a b : Bool) (c : Yb) : Prop where
  cat : x = y
  ok : a = b
  no : b = false → y = c
open GoE (enc wide)
def J7 (a_:Jl) (q0:ByteArray):Bool:=(a_.1.toList==q0.toList)
theorem Mn (a_:Jl) (q0:ByteArray):ACalls Tryz.prog 125 [.a [.s a_.1,.i a_.2.1,.i a_.2.2.1,.s a_.2.2.2],.one (.rptr .sh [.s q0])] (.b (J7 a_ q0)):=by
 refine en Qb Tryz.func125 λw0 F0 hG=> ?_
 exact sn Qb [1,2,3] [2] p0 <| tn Qb [3] [] p0 <| Qk <| pb [] (show J7 a_ q0=(a_.1.toList==q0.toList) from rfl)
def Kb (c0:ByteArray) (k0:Nat) (a0:Jl) (_:Unit):Rd (Int) (Unit) (Unit):=(bif (J7 a0 c0) then (.ret (k0:Int)) else (.next ()))
def Kc (_:Nat) (_:Unit):Unit:=()
def Qp (s_:List Jl) (c0:ByteArray):Int:=(Out.on (Xp (Kb c0) Kc s_ 0 ()) (λ_=> -1))
theorem Kd (s_:List Jl) (c0:ByteArray):Qp s_ c0=ixF (λa=>J7 a c0) s_:=IT (λ_ _ _=>rfl) s_
theorem A6 (s_:List Jl) (c0:ByteArray): -1<=Qp s_ c0/\Qp s_ c0<(List.length s_:Int):=by rw[Kd];exact G4 _ _
theorem Bh (s_:List Jl) (c0:ByteArray):ACalls Tryz.prog 126 [.h s_,.one (.fnr 125 [[.s c0]])] (.i (Qp s_ c0)):=by
 refine en Qb Tryz.func126 λw0 F0 hG=> ?_
 refine sn Qb [0,1,4] [] p0 <| Qc <| tn Qb [0,1,4,7,8] [] (pl 1 s_ p0) <| mz [(4,.i 0),(7,.i (s_.length:Int)),(8,.i 0)] [] [] [] <| wT 0 0 .sh s_ (λhw1 hl2=> ?_)
 refine M8 (Kb c0) Kc s_ () (λk0 _=> [(8,.i (k0:Int))]) [8] (λ_=> []) [0,1,7,8] wf0 (λk0 s0 hk0 U=> ?_) (λk0 s0 hk0 U=> ?_) (λy0 hD0=> ?_)
 ·obtain ⟨a0,V⟩:=Xs (l:=s_) (i:=k0) hk0;refine sn Qb [0,1,4,7,8,9] [] (pe 0 (zB ((k0:Int)<(s_.length:Int))) p0) <| Qc <| ckT <| Qi <| Qc <| Qx <| tn Qb [0,1,4,5,7,8] [] p0 <| tu Qb [(5,.i (k0:Int)),(16,.b (J7 a0 c0))] [] [] [] (pn 3 V (pc 5 (Mn a0 c0) p0)) <| ck (J7 a0 c0) (λh3=> ?_) (λh3=> ?_)
  ·refine sn Qb [0,1,4,7,8] [] p0 <| Qk ?_
   have hr4:(Xp (Kb c0) Kc s_ 0 ())= .ret (k0:Int):=Z6 V (X6 h3 (rfl)) U;exact pi [] (M5 hr4)
  refine Qi <| rn Qb [0,1,4,7,8] [] (pe 0 (Js (Qq k0 (by omega))) p0) ?_
  exact xw _ (Qw V (Qy h3 (rfl)) U)
 ·exact sn Qb [0,1,4,7,8,9] [] (pe 0 (zC ((k0:Int)<(s_.length:Int))) p0) <| Qc <| ckF <| Xe <| xw _ (Xy hk0 (rfl) U)
 exact sn Qb [4] [] p0 <| Qk <| pi [] (Ur hD0 (rfl))
def Yf (c0:ByteArray) (s0:(List Jl)×Int×Int):Rd (List Jl) ((List Jl)×Int×Int) ((List Jl)×Int):=(bif decide (s0.2.2<(s0.1.length:Int)) then (bif (!(J7 (nth s0.1 s0.2.2.toNat) c0)) then (.next (List.set s0.1 s0.2.1.toNat (nth s0.1 s0.2.2.toNat),(s0.2.1+1),(s0.2.2+1))) else (.next (s0.1,s0.2.1,(s0.2.2+1)))) else (.brk (s0.1,s0.2.1)))
def Qe (s_:List Jl) (c0:ByteArray):(List Jl):=(bif ((Qp s_ c0)==(-1:Int)) then s_ else (Out.on (Lh (Yf c0) (List.length s_+1) (s_,(Qp s_ c0),((Qp s_ c0)+1))) (λy0=>List.take y0.2.toNat y0.1)))
theorem V3 (c0:ByteArray):So (Yf c0) (λa=>J7 a c0):=by
 intro s i j hij hj;unfold Yf;by_cases h:(j:Int)<(s.length:Int)<;>cases hp:J7 (nth s j) c0<;>simp[h,hp]
theorem A7 (s_:List Jl) (c0:ByteArray) (hp:List.length s_<=1073741824) (h:Qp s_ c0≠-1):(whl (Yf c0) (List.length s_+1) (s_,Qp s_ c0,Qp s_ c0+1)).isSome=true:=IW (V3 c0) hp (Kd s_ c0) h
theorem J8 (s_:List Jl) (c0:ByteArray) (hp:List.length s_<=1073741824):Qe s_ c0=s_.filter (λa=> !(J7 a c0)):=by
 unfold Qe;exact Qd0 (V3 c0) hp (Kd s_ c0)
theorem Av (s_:List Jl) (c0:ByteArray) (hp:List.length s_<=1073741824):List.length (Qe s_ c0)<=List.length s_:=by rw[J8 _ _ hp];exact List.length_filter_le _ _
theorem A8 (s_:List Jl) (c0:ByteArray):ATake Tryz.prog 124 4 (eL s_) [.one (.fnr 125 [[.s c0]])] true false (eL (Qe s_ c0)):=by
 refine IQ (tt:=tt) Qb Tryz.func124 (fn:=Tryz.f124) rfl (by unfold Ee;kernel_rfl) (Nat.le_of_ble_eq_true rfl) (by simp[AV.cells,C.key,C.bkeys]) (t:=4) rfl λw0 F0 hG=> ?_
 refine wT 0 0 (.own false 63) s_ (λhw1 hl2=> ?_);have hix:=A6 s_ c0;refine sn Qb [0,1,4] [] p0 <| tn Qb [0,1,4,5] [] (pc 2 (Bh s_ c0) p0) <| Qc <| tu Qb [(4,.e 0),(5,.i (Qp s_ c0)),(12,.b ((Qp s_ c0)==(-1:Int)))] [] [] [] p0 <| ck ((Qp s_ c0)==(-1:Int)) (λh3=> ?_) (λh3=> ?_)
 ·refine sn Qb [0,1,4,5] [] p0 <| Qk ?_
  have hE4:Qe s_ c0=s_:=X6 h3 (rfl);exact ⟨.inl rfl,63,by rw[hE4];kernel_rfl⟩
 have h3d:=Zq h3;refine Qi <| Qc <| sn Qb [0,1,4,5,6] [] (pe 1 (Js (IntWalk.i64_in ((Qp s_ c0)+1) (by omega))) p0) <| mz [(6,.i ((Qp s_ c0)+1))] [12] [] [] <| blw (λ(s0:(List Jl)×Int×Int)=> [(0,.q 63 s0.1),(5,.i s0.2.1),(6,.i s0.2.2)]) [0,5,6] (λs0=> []) [] (λ(y0:(List Jl)×Int)=> [(0,.q 63 y0.1),(5,.i y0.2)]) [0,1,5,6] (λy0=> []) [] (λ(k0:Nat) (s0:(List Jl)×Int×Int)=>whl (Yf c0) k0 s0=some (Lh (Yf c0) (List.length s_+1) (s_,(Qp s_ c0),((Qp s_ c0)+1)))/\0<=s0.2.1/\s0.2.1<s0.2.2/\s0.2.2<=(List.length s0.1:Int)/\List.length s0.1=List.length s_) (λ(y0:(List Jl)×Int)=>(Lh (Yf c0) (List.length s_+1) (s_,(Qp s_ c0),((Qp s_ c0)+1)))= .brk y0/\0<=y0.2/\y0.2<(List.length y0.1:Int)/\List.length y0.1=List.length s_) (List.length s_+1) (s_,(Qp s_ c0),((Qp s_ c0)+1)) wf0 ⟨M6 (A7 s_ c0 hl2 h3d),(by first|omega|(dsimp only;omega) | rfl),(by first|omega|(dsimp only;omega) | rfl),(by first|omega|(dsimp only;omega) | rfl),(by first|omega|(dsimp only;omega) | rfl)⟩ (λ_ h=>M7 h.1) (λk0 s0 U=> ?_) (λy0 hD0=> ?_)
 ·have hA0_0:=U.2.1;have hA0_1:=U.2.2.1;have hA0_2:=U.2.2.2.1;have hA0_3:=U.2.2.2.2;refine Qc <| sn Qb [0,1,4,5,6,19] [] (pl 2 s0.1 p0) <| ck (decide (s0.2.2<(s0.1.length:Int))) (λh5=> ?_) (λh5=> ?_)
  ·have h5d:=of_decide_eq_true h5;refine Qi <| Qc <| Qx <| wT 0 0 (.own false 63) s0.1 (λhw7 hl8=> ?_)
   have hx6:=ng s0.1 s0.2.2.toNat;refine tn Qb [0,1,4,5,6,7] [7] (pG 2 s0.2.2 hx6 p0) <| tu Qb [(7,.p 7 0),(29,.b (!(J7 (nth s0.1 s0.2.2.toNat) c0)))] [] [(7, [.s ((nth s0.1 s0.2.2.toNat).1),.i ((nth s0.1 s0.2.2.toNat).2.1),.i ((nth s0.1 s0.2.2.toNat).2.2.1),.s ((nth s0.1 s0.2.2.toNat).2.2.2)])] [] (pc 2 (Mn (nth s0.1 s0.2.2.toNat) c0) p0) <| ck (!(J7 (nth s0.1 s0.2.2.toNat) c0)) (λh9=> ?_) (λh9=> ?_)
   ·have hx10:=ng s0.1 s0.2.1.toNat;refine su Qb [(0,.one (.slc (.own false 63) 4 (setRow (eL s0.1) s0.2.1.toNat 0 [.s ((nth s0.1 s0.2.2.toNat).1),.i ((nth s0.1 s0.2.2.toNat).2.1),.i ((nth s0.1 s0.2.2.toNat).2.2.1),.s ((nth s0.1 s0.2.2.toNat).2.2.2)])))] [0,7,29] [] [7] (pG 3 s0.2.1 hx10 p0) <| eqn [(0,.q 63 (List.set s0.1 s0.2.1.toNat (nth s0.1 s0.2.2.toNat)))] [0] [] [] (by rw[Zv (y:=(nth s0.1 s0.2.2.toNat)) hx10 rfl]<;>kernel_rfl) ?_
    refine rn Qb [0,1,4,5,6] [] (pe 1 (Js (IntWalk.i64_in (s0.2.1+1) (by omega))) p0) ?_;refine qn Qb [0,1,4,5,6] [] (pe 1 (Js (IntWalk.i64_in (s0.2.2+1) (by omega))) p0) ?_;exact xw (List.set s0.1 s0.2.1.toNat (nth s0.1 s0.2.2.toNat),(s0.2.1+1),(s0.2.2+1)) ⟨wn U.1 (X6 h5 (X6 h9 (rfl))),(by first|omega|(dsimp only;omega) | (simp only[List.length_set];omega)),(by first|omega|(dsimp only;omega) | (simp only[List.length_set];omega)),(by first|omega|(dsimp only;omega) | (simp only[List.length_set];omega)),(by first|omega|(dsimp only;omega) | (simp only[List.length_set];omega))⟩
   refine Qi <| rn Qb [0,1,4,5,6] [] (pe 1 (Js (IntWalk.i64_in (s0.2.2+1) (by omega))) p0) ?_
   exact xw (s0.1,s0.2.1,(s0.2.2+1)) ⟨wn U.1 (X6 h5 (Qy h9 (rfl))),(by first|omega|(dsimp only;omega) | (simp only[List.length_set];omega)),(by first|omega|(dsimp only;omega) | (simp only[List.length_set];omega)),(by first|omega|(dsimp only;omega) | (simp only[List.length_set];omega)),(by first|omega|(dsimp only;omega) | (simp only[List.length_set];omega))⟩
  have h5d:=of_decide_eq_false h5;exact Xe <| xw (s0.1,s0.2.1) ⟨wb U.1 (Qy h5 (rfl)),by first|omega|(simp only[List.length_set];omega),by first|omega|(simp only[List.length_set];omega),by first|omega|(simp only[List.length_set];omega)⟩
 have hD0_0:=hD0.2.1;have hD0_1:=hD0.2.2.1;have hD0_2:=hD0.2.2.2;refine Qc <| BI Qb rfl (by kernel_rfl) rfl rfl rfl rfl rfl (by omega) (by rw[Y5];omega) (λlc11 hllc11 htlc11=> ?_)
 refine sn Qb [4] [] (po 2 (.cut (eL (List.take y0.2.toNat y0.1))) (px (Qgz (show .one (.slc (.own false 0) 4 ((lc11.take y0.2.toNat).drop (Int.toNat 0)))= .q 0 (List.take y0.2.toNat y0.1) from (congrArg (λz=>AV.one (.slc (.own false 0) 4 (z.drop (Int.toNat 0)))) htlc11).trans (VJ (.own false 0) 4 y0.2.toNat y0.2 y0.1 rfl))) (px (Ns (lo:=0) (hi:=y0.2) (n:=(List.length lc11)) (Qdy (by omega) (by rw[hllc11,Y5];omega))) p0))) <| Qk ?_
 have hE12:Qe s_ c0=List.take y0.2.toNat y0.1:=Qy h3 (Ur hD0.1 (rfl));exact ⟨.inl rfl,0,by rw[hE12];kernel_rfl⟩
def Xk (a_:Jl) (q0:ByteArray):Bool:=(!(Op.bytesLess a_.1.toList q0.toList|| a_.1.toList==q0.toList))
theorem YE (a_:Jl) (q0:ByteArray):ACalls Tryz.prog 127 [.a [.s a_.1,.i a_.2.1,.i a_.2.2.1,.s a_.2.2.2],.one (.rptr .sh [.s q0])] (.b (Xk a_ q0)):=by
 refine en Qb Tryz.func127 λw0 F0 hG=> ?_
 exact sn Qb [1,2,3] [2] p0 <| tn Qb [3] [] p0 <| Qk <| pb [] (show Xk a_ q0=(!(Op.bytesLess a_.1.toList q0.toList|| a_.1.toList==q0.toList)) from rfl)
def Ke (c0:ByteArray) (k0:Nat) (a0:Jl) (_:Unit):Rd (Int) (Unit) (Unit):=(bif (Xk a0 c0) then (.ret (k0:Int)) else (.next ()))
def Kf (_:Nat) (_:Unit):Unit:=()
def Xh (s_:List Jl) (c0:ByteArray):Int:=(Out.on (Xp (Ke c0) Kf s_ 0 ()) (λ_=> -1))
theorem Wh (s_:List Jl) (c0:ByteArray):Xh s_ c0=ixF (λa=>Xk a c0) s_:=IT (λ_ _ _=>rfl) s_
theorem A9 (s_:List Jl) (c0:ByteArray): -1<=Xh s_ c0/\Xh s_ c0<(List.length s_:Int):=by rw[Wh];exact G4 _ _
theorem Bi (s_:List Jl) (c0:ByteArray):ACalls Tryz.prog 126 [.h s_,.one (.fnr 127 [[.s c0]])] (.i (Xh s_ c0)):=by
 refine en Qb Tryz.func126 λw0 F0 hG=> ?_
 refine sn Qb [0,1,4] [] p0 <| Qc <| tn Qb [0,1,4,7,8] [] (pl 1 s_ p0) <| mz [(4,.i 0),(7,.i (s_.length:Int)),(8,.i 0)] [] [] [] <| wT 0 0 .sh s_ (λhw1 hl2=> ?_)
 refine M8 (Ke c0) Kf s_ () (λk0 _=> [(8,.i (k0:Int))]) [8] (λ_=> []) [0,1,7,8] wf0 (λk0 s0 hk0 U=> ?_) (λk0 s0 hk0 U=> ?_) (λy0 hD0=> ?_)
 ·obtain ⟨a0,V⟩:=Xs (l:=s_) (i:=k0) hk0;refine sn Qb [0,1,4,7,8,9] [] (pe 0 (zB ((k0:Int)<(s_.length:Int))) p0) <| Qc <| ckT <| Qi <| Qc <| Qx <| tn Qb [0,1,4,5,7,8] [] p0 <| tu Qb [(5,.i (k0:Int)),(16,.b (Xk a0 c0))] [] [] [] (pn 3 V (pc 5 (YE a0 c0) p0)) <| ck (Xk a0 c0) (λh3=> ?_) (λh3=> ?_)
  ·refine sn Qb [0,1,4,7,8] [] p0 <| Qk ?_
   have hr4:(Xp (Ke c0) Kf s_ 0 ())= .ret (k0:Int):=Z6 V (X6 h3 (rfl)) U;exact pi [] (M5 hr4)
  refine Qi <| rn Qb [0,1,4,7,8] [] (pe 0 (Js (Qq k0 (by omega))) p0) ?_
  exact xw _ (Qw V (Qy h3 (rfl)) U)
 ·exact sn Qb [0,1,4,7,8,9] [] (pe 0 (zC ((k0:Int)<(s_.length:Int))) p0) <| Qc <| ckF <| Xe <| xw _ (Xy hk0 (rfl) U)
 exact sn Qb [4] [] p0 <| Qk <| pi [] (Ur hD0 (rfl))
def Xl (f:Yh) (name:ByteArray) (v:Z4):Yh:=(bif (v.1==(0:Int)) then ((Ql f).1,(Ql f).2.1,(Ql f).2.2.1,(Ql f).2.2.2.1,Qe ((Ql f).2.2.2.2) name) else (bif decide ((Xh (Qe ((Ql f).2.2.2.2) name) name)<(0:Int)) then ((Ql f).1,(Ql f).2.1,(Ql f).2.2.1,(Ql f).2.2.2.1,I0 (Qe ((Ql f).2.2.2.2) name) ((Qe ((Ql f).2.2.2.2) name).length:Int).toNat (name,v)) else ((Ql f).1,(Ql f).2.1,(Ql f).2.2.1,(Ql f).2.2.2.1,I0 (Qe ((Ql f).2.2.2.2) name) (Xh (Qe ((Ql f).2.2.2.2) name) name).toNat (name,v))))
theorem Re (f:Yh) (name:ByteArray) (v:Z4) (hp:List.length f.2.2.2.2<=1073741000):ACalls Tryz.prog 70 [.a [.i f.1,.i f.2.1,.b f.2.2.1,.i f.2.2.2.1,.h f.2.2.2.2],.s name,.a [.i v.1,.i v.2.1,.s v.2.2]] (.a [.i ((Xl f name v).1),.i ((Xl f name v).2.1),.b ((Xl f name v).2.2.1),.i ((Xl f name v).2.2.2.1),.o 0 ((Xl f name v).2.2.2.2)]):=by
 refine en Qb Tryz.func70 λw0 F0 hG=> ?_
 have hdl:List.length (Qe ((Ql f).2.2.2.2) name)<=1073741000:=by rw[J8 (Ql f).2.2.2.2 name (Nat.le_trans hp (by decide))];exact Nat.le_trans (List.length_filter_le _ _) hp
 have hbd:=A9 (Qe ((Ql f).2.2.2.2) name) name;refine sn Qb [3,4,5,6] [3,4,5,6] p0 <| tn Qb [4,5,6,7] [4,5,6,7] (pc 1 (N0 f) p0) <| wB 7 4 (.own true 640) ((Ql f).2.2.2.2) (λhw1 hl2=> ?_)
 have hq3:=Av ((Ql f).2.2.2.2) name hl2;refine tu Qb [(4,.p 4 0),(5,.p 5 0),(6,.p 6 0),(7,.p 7 0)] [0,1,2] [(4, [.s name]),(5, [.i v.1,.i v.2.1,.s v.2.2]),(6, [.i 0,.i 0,.b false,.i 0,.e 4]),(7, [.i ((Ql f).1),.i ((Ql f).2.1),.b ((Ql f).2.2.1),.i ((Ql f).2.2.2.1),.o 896 (Qe ((Ql f).2.2.2.2) name)])] [] (po 3 (.take false false (eL (Qe ((Ql f).2.2.2.2) name))) (px (R9 (JX (A8 ((Ql f).2.2.2.2) name) (Up _))) (px (U5 (Up ((Ql f).2.2.2.2))) (px (U5 (Up (Qe ((Ql f).2.2.2.2) name))) p0)))) <| Qc <| sn Qb [4,5,6,7,18] [4,5,6,7] p0 <| ck (v.1==(0:Int)) (λh4=> ?_) (λh4=> ?_)
 ·exact tn Qb [4,5,6,7] [4,5,6,7] p0 <| Qk <| pz [] (show Xl f name v=_ from X6 h4 (rfl)) (λz=> .a [.i z.1,.i z.2.1,.b z.2.2.1,.i z.2.2.2.1,.o 0 z.2.2.2.2])
 have h4d:=Zq h4;refine Qi <| tn Qb [4,5,6,7,8] [4,5,6,7] (pc 3 (Bi (Qe ((Ql f).2.2.2.2) name) name) p0) <| Qc <| tu Qb [(8,.i (Xh (Qe ((Ql f).2.2.2.2) name) name)),(25,.b (decide ((Xh (Qe ((Ql f).2.2.2.2) name) name)<(0:Int))))] [] [] [] p0 <| ck (decide ((Xh (Qe ((Ql f).2.2.2.2) name) name)<(0:Int))) (λh5=> ?_) (λh5=> ?_)
 ·have h5d:=of_decide_eq_true h5;refine rn Qb [4,5,6,7,8] [4,5,6,7] (pl 2 (Qe ((Ql f).2.2.2.2) name) p0) ?_;refine wB 7 4 (.own true 896) (Qe ((Ql f).2.2.2.2) name) (λhw6 hl7=> ?_);exact tn Qb [6,7] [6,7] (po 7 (.take true false (eL (I0 (Qe ((Ql f).2.2.2.2) name) ((Qe ((Ql f).2.2.2.2) name).length:Int).toNat (name,v)))) (px (R9 (BN (Qe ((Ql f).2.2.2.2) name) (name,v) (i:=((Qe ((Ql f).2.2.2.2) name).length:Int)) (by omega) (by omega) (by omega))) (px (U5 (Up (Qe ((Ql f).2.2.2.2) name))) (px (U5 (Up (I0 (Qe ((Ql f).2.2.2.2) name) ((Qe ((Ql f).2.2.2.2) name).length:Int).toNat (name,v)))) p0)))) <| tu Qb [] [4,5,7,8,25] [(6, [.i ((Ql f).1),.i ((Ql f).2.1),.b ((Ql f).2.2.1),.i ((Ql f).2.2.2.1),.o 2304 (I0 (Qe ((Ql f).2.2.2.2) name) ((Qe ((Ql f).2.2.2.2) name).length:Int).toNat (name,v))])] [4,5,6,7] p0 <| Qk <| pz [] (show Xl f name v=_ from Qy h4 (X6 h5 (rfl))) (λz=> .a [.i z.1,.i z.2.1,.b z.2.2.1,.i z.2.2.2.1,.o 0 z.2.2.2.2])
 have h5d:=of_decide_eq_false h5;refine Qi <| wB 7 4 (.own true 896) (Qe ((Ql f).2.2.2.2) name) (λhw8 hl9=> ?_)
 exact sn Qb [6,7] [6,7] (po 7 (.take true false (eL (I0 (Qe ((Ql f).2.2.2.2) name) (Xh (Qe ((Ql f).2.2.2.2) name) name).toNat (name,v)))) (px (R9 (BN (Qe ((Ql f).2.2.2.2) name) (name,v) (i:=(Xh (Qe ((Ql f).2.2.2.2) name) name)) (by omega) (by omega) (by omega))) (px (U5 (Up (Qe ((Ql f).2.2.2.2) name))) (px (U5 (Up (I0 (Qe ((Ql f).2.2.2.2) name) (Xh (Qe ((Ql f).2.2.2.2) name) name).toNat (name,v)))) p0)))) <| tn Qb [6] [6] p0 <| Qk <| pz [] (show Xl f name v=_ from Qy h4 (Qy h5 (rfl))) (λz=> .a [.i z.1,.i z.2.1,.b z.2.2.1,.i z.2.2.2.1,.o 0 z.2.2.2.2])
def Gi (name:ByteArray) (_:Nat) (a0:Jl) (s0:List Jl):Rd (Yh) (List Jl) (List Jl):=(bif (!(a0.1.toList==name.toList)) then (.next (s0++ [a0])) else (.next s0))
def Dx (_:Nat) (s0:List Jl):(List Jl):=s0
def Bj (name:ByteArray) (k1:Nat) (a1:Jl) (_:Unit):Rd (Yh) (Unit) (Int):=(bif (Op.bytesLess a1.1.toList name.toList|| a1.1.toList==name.toList) then (.next ()) else (.brk (k1:Int)))
def Gj (k1:Nat) (_:Unit):Int:=(k1:Int)
def Y0 (f:Yh) (name:ByteArray) (v:Z4):Yh:=(Out.on (Xp (Gi name) Dx f.2.2.2.2 0 []) (λy0=>(bif (v.1 !=(0:Int)) then (Out.on (Xp (Bj name) Gj y0 0 ()) (λy1=>(f.1,f.2.1,f.2.2.1,f.2.2.2.1,List.take y1.toNat y0++ [(name,v)]++(List.drop y1.toNat y0)))) else (f.1,f.2.1,f.2.2.1,f.2.2.2.1,y0))))
theorem Rf (f:Yh) (name:ByteArray) (v:Z4) (hp:List.length f.2.2.2.2<=1073741000):ACalls Tryz.prog 56 [.a [.i f.1,.i f.2.1,.b f.2.2.1,.i f.2.2.2.1,.h f.2.2.2.2],.s name,.a [.i v.1,.i v.2.1,.s v.2.2]] (.a [.i ((Y0 f name v).1),.i ((Y0 f name v).2.1),.b ((Y0 f name v).2.2.1),.i ((Y0 f name v).2.2.2.1),.o 0 ((Y0 f name v).2.2.2.2)]):=by
 refine en Qb Tryz.func56 λw0 F0 hG=> ?_
 refine sn Qb [1,3,5,6] [3,5,6] p0 <| tn Qb [1,3,5,6,7] [3,5,6] p0 <| Qc <| tu Qb [(3,.p 3 0),(5,.p 5 0),(6,.p 6 0),(7,.one (.slc (.own true 704) 4 [])),(8,.i 0)] [0,2] [(3, [.i f.1,.i f.2.1,.b f.2.2.1,.i f.2.2.2.1,.h f.2.2.2.2]),(5, [.i v.1,.i v.2.1,.s v.2.2]),(6, [.i 0,.i 0,.b false,.i 0,.e 4])] [] p0 <| wB 3 4 .sh f.2.2.2.2 (λhw1 hl2=> ?_)
 refine Qdo (Gi name) Dx f.2.2.2.2 [] (λk0 s0=> [(7,.o 147204 s0),(8,.i (k0:Int))]) [7,8] (λy0=> [(7,.o 147354 y0)]) [7,8] (λk0 s0=>List.length s0<=k0) (λy0=>List.length y0<=List.length f.2.2.2.2) (Yg [(704,147204)] (by kernel_rfl)) (by simp) (λk0 s0 hk0 U=> ?_) (λk0 s0 hk0 U=> ?_) (λy0 hD0=> ?_)
 ·have hA0_0:=U.2;obtain ⟨a0,V⟩:=Xs (l:=f.2.2.2.2) (i:=k0) hk0;refine Qc <| su Qb [(16,.b true)] [] [] [] (pl 3 f.2.2.2.2 (pe 4 (zB ((k0:Int)<(f.2.2.2.2.length:Int))) p0)) <| ckT <| Qi <| Qc <| Qx <| sn Qb [1,3,5,6,7,8,26] [3,5,6] (pn 3 V p0) <| ck (!(a0.1.toList==name.toList)) (λh3=> ?_) (λh3=> ?_)
  ·refine wT 7 0 (.own true 147204) s0 (λhw4 hl5=> ?_);refine qu Qb [(7,.one (.slc (.own true 2176) 4 ((eL s0)++ [[.s a0.1,.i a0.2.1,.i a0.2.2.1,.s a0.2.2.2]])))] [7,16] [] [] (pn 4 V (pa s0 [a0] p0)) ?_;refine eqn [(7,.o 2176 (s0++ [a0]))] [7] [] [] (by rw[show ((eL s0)++ [[.s a0.1,.i a0.2.1,.i a0.2.2.1,.s a0.2.2.2]])=(eL (s0++ [a0])) from Uw (rfl) (rfl)];first | done | kernel_rfl) ?_;refine rn Qb [1,3,5,6,7,8] [3,5,6] (pe 1 (Js (Qq k0 (by omega))) p0) ?_;exact Exists.intro (s0++ [a0]) (And.intro (Yg [(2176,147204)] (by kernel_rfl)) ⟨Qw V (X6 h3 (rfl)) U.1,by first|omega|(simp;omega) | simp⟩)
  refine Qi <| qn Qb [1,3,5,6,7,8] [3,5,6] (pe 1 (Js (Qq k0 (by omega))) p0) ?_
  exact xw s0 ⟨Qw V (Qy h3 (rfl)) U.1,by first|omega|(simp;omega) | simp⟩
 ·have hA0_0:=U.2;exact Qc <| su Qb [(16,.b false)] [] [] [] (pl 3 f.2.2.2.2 (pe 4 (zC ((k0:Int)<(f.2.2.2.2.length:Int))) p0)) <| ckF <| Xe <| Exists.intro s0 (And.intro (Yg [(147204,147354)] (by kernel_rfl)) ⟨Xy hk0 (rfl) U.1,by first|omega|(simp only[List.length_set];omega)⟩)
 have hD0_0:=hD0.2;refine Qc <| sn Qb [1,3,5,6,7,37] [3,5,6] p0 <| ck (v.1 !=(0:Int)) (λh6=> ?_) (λh6=> ?_)
 ·have h6d:=L5 h6;refine tu Qb [(9,.i 0)] [] [] [] p0 <| Qc <| wT 7 0 (.own true 147354) y0 (λhw7 hl8=> ?_)
  refine Qiq (Bj name) Gj y0 () (λk1 _=> [(9,.i (k1:Int))]) [9] (λy1=> [(9,.i y1)]) [9] (λy1=>0<=y1/\y1<=(y0.length:Int)) wf0 (λk1 s1 hk1 hI1=> ?_) (λk1 s1 hk1 hI1=> ?_) (λy1 hD1=> ?_)
  ·obtain ⟨a1,hx1⟩:=Xs (l:=y0) (i:=k1) hk1;refine Qc <| sn Qb [1,3,5,6,7,9,50] [3,5,6] (pl 2 y0 (pe 3 (zB ((k1:Int)<(y0.length:Int))) (pN 7 hx1 p0))) <| ck (Op.bytesLess a1.1.toList name.toList|| a1.1.toList==name.toList) (λh9=> ?_) (λh9=> ?_)
   ·refine Qi <| Qx <| qn Qb [1,3,5,6,7,9] [3,5,6] (pe 1 (Js (Qq k1 (by omega))) p0) ?_
    exact xw _ (Qw hx1 (X6 h9 (rfl)) hI1)
   exact Xe <| xw (k1:Int) ⟨GV hx1 (Qy h9 (rfl)) hI1,by first|omega|(simp only[List.length_set];omega)⟩
  ·exact Qc <| su Qb [(50,.b false)] [] [] [] (pl 2 y0 (pe 3 (zC ((k1:Int)<(y0.length:Int))) p0)) <| ckF <| Xe <| xw (k1:Int) ⟨Xy hk1 (rfl) hI1,by first|omega|(simp only[List.length_set];omega)⟩
  have hD1_0:=hD1.2;have hl10:List.length (List.take y1.toNat y0)<=1073741824:=Ei (AI y1.toNat (hw7));refine sU Qb Zf [(10,.one (.slc (.own true 3968) 4 (([]++(eL (List.take y1.toNat y0)))++ [[.s name,.i v.1,.i v.2.1,.s v.2.2]])))] [1,5] [] [5] (pe 3 (VJ (.vw 147354) 4 y1.toNat y1 y0 rfl) (px (Ns (lo:=0) (hi:=y1) (n:=(List.length (eL y0))) (Qdn (by omega) (by omega) (by omega))) (po 4 (.flat) (px (Ft (n:=(([]:List (List PV)).length+((eL (List.take y1.toNat y0)):List (List PV)).length)) (Lb (rfl) (Y5 (List.take y1.toNat y0)) (by first|omega|(simp only[List.length_cons,List.length_nil];omega) | (simp;omega) | simp))) (px (U5 (Up (List.take y1.toNat y0))) (px (Ft (n:=((([]++(eL (List.take y1.toNat y0))):List (List PV)).length+([[.s name,.i v.1,.i v.2.1,.s v.2.2]]:List (List PV)).length)) (by simp[Y5];omega)) p0)))))) <| eqn [(10,.o 3968 (List.take y1.toNat y0++ [(name,v)]))] [10] [] [] (by rw[show (([]++(eL (List.take y1.toNat y0)))++ [[.s name,.i v.1,.i v.2.1,.s v.2.2]])=(eL (List.take y1.toNat y0++ [(name,v)])) from Uw (rfl) (rfl)];first | done | kernel_rfl) ?_
  refine wT 10 0 (.own true 3968) (List.take y1.toNat y0++ [(name,v)]) (λhw11 hl12=> ?_);have hl13:List.length (List.drop y1.toNat y0)<=1073741824:=Ei (AJ y1.toNat (hw7));refine ru Qb [(7,.one (.slc (.own true 4288) 4 ((eL (List.take y1.toNat y0++ [(name,v)]))++(eL (List.drop y1.toNat y0)))))] [7,9,10] [] [] (pe 3 (PS (.vw 147354) 4 y1.toNat y1 y0 rfl) (px (Ns (lo:=y1) (hi:=(((eL y0):List (List PV)).length:Int)) (n:=(List.length (eL y0))) (PT (by omega) (by omega))) (po 4 (.flat) (pa (List.take y1.toNat y0++ [(name,v)]) (List.drop y1.toNat y0) (px (U5 (Up (List.drop y1.toNat y0))) p0))))) ?_;refine eqn [(7,.o 4288 (List.take y1.toNat y0++ [(name,v)]++(List.drop y1.toNat y0)))] [7] [] [] (by rw[show ((eL (List.take y1.toNat y0++ [(name,v)]))++(eL (List.drop y1.toNat y0)))=(eL (List.take y1.toNat y0++ [(name,v)]++(List.drop y1.toNat y0))) from Uw (rfl) (rfl)];first | done | kernel_rfl) ?_;exact sn Qb [3,6] [3,6] p0 <| tn Qb [6] [6] p0 <| Qk <| pz [] (show Y0 f name v=_ from Ur hD0.1 (X6 h6 (Ur hD1.1 (rfl)))) (λz=> .a [.i z.1,.i z.2.1,.b z.2.2.1,.i z.2.2.2.1,.o 0 z.2.2.2.2])
 exact Qi <| tn Qb [3,6] [3,6] p0 <| tu Qb [] [1,3,5,7] [(6, [.i f.1,.i f.2.1,.b f.2.2.1,.i f.2.2.2.1,.o 147354 y0])] [3,5,6] p0 <| Qk <| pz [] (show Y0 f name v=_ from Ur hD0.1 (Qy h6 (rfl))) (λz=> .a [.i z.1,.i z.2.1,.b z.2.2.1,.i z.2.2.2.1,.o 0 z.2.2.2.2])
def Y9 (f:Yd) (q0:ByteArray):Bool:=(f.1.toList==q0.toList)
theorem Ti (f:Yd) (q0:ByteArray):ACalls Tryz.prog 117 [.a [.s f.1,.i f.2],.one (.rptr .sh [.s q0])] (.b (Y9 f q0)):=by
 refine en Qb Tryz.func117 λw0 F0 hG=> ?_
 exact sn Qb [1,2,3] [2] p0 <| tn Qb [3] [] p0 <| Qk <| pb [] (show Y9 f q0=(f.1.toList==q0.toList) from rfl)
def Jz (c0:ByteArray) (k0:Nat) (a0:Yd) (_:Unit):Rd (Int) (Unit) (Unit):=(bif (Y9 a0 c0) then (.ret (k0:Int)) else (.next ()))
def J0 (_:Nat) (_:Unit):Unit:=()
def Z3 (s_:List Yd) (c0:ByteArray):Int:=(Out.on (Xp (Jz c0) J0 s_ 0 ()) (λ_=> -1))
theorem Vx (s_:List Yd) (c0:ByteArray):Z3 s_ c0=ixF (λa=>Y9 a c0) s_:=IT (λ_ _ _=>rfl) s_
theorem Aw (s_:List Yd) (c0:ByteArray):ACalls Tryz.prog 157 [.h s_,.one (.fnr 117 [[.s c0]])] (.i (Z3 s_ c0)):=by
 refine en Qb Tryz.func157 λw0 F0 hG=> ?_
 refine sn Qb [0,1,4] [] p0 <| Qc <| tn Qb [0,1,4,7,8] [] (pl 1 s_ p0) <| mz [(4,.i 0),(7,.i (s_.length:Int)),(8,.i 0)] [] [] [] <| wT 0 0 .sh s_ (λhw1 hl2=> ?_)
 refine M8 (Jz c0) J0 s_ () (λk0 _=> [(8,.i (k0:Int))]) [8] (λ_=> []) [0,1,7,8] wf0 (λk0 s0 hk0 U=> ?_) (λk0 s0 hk0 U=> ?_) (λy0 hD0=> ?_)
 ·obtain ⟨a0,V⟩:=Xs (l:=s_) (i:=k0) hk0;refine sn Qb [0,1,4,7,8,9] [] (pe 0 (zB ((k0:Int)<(s_.length:Int))) p0) <| Qc <| ckT <| Qi <| Qc <| Qx <| tn Qb [0,1,4,5,7,8] [] p0 <| tu Qb [(5,.i (k0:Int)),(16,.b (Y9 a0 c0))] [] [] [] (pn 3 V (pc 5 (Ti a0 c0) p0)) <| ck (Y9 a0 c0) (λh3=> ?_) (λh3=> ?_)
  ·refine sn Qb [0,1,4,7,8] [] p0 <| Qk ?_
   have hr4:(Xp (Jz c0) J0 s_ 0 ())= .ret (k0:Int):=Z6 V (X6 h3 (rfl)) U;exact pi [] (M5 hr4)
  refine Qi <| rn Qb [0,1,4,7,8] [] (pe 0 (Js (Qq k0 (by omega))) p0) ?_
  exact xw _ (Qw V (Qy h3 (rfl)) U)
 ·exact sn Qb [0,1,4,7,8,9] [] (pe 0 (zC ((k0:Int)<(s_.length:Int))) p0) <| Qc <| ckF <| Xe <| xw _ (Xy hk0 (rfl) U)
 exact sn Qb [4] [] p0 <| Qk <| pi [] (Ur hD0 (rfl))
def Ys (s_:List Yd) (c0:ByteArray):Bool:=decide ((Z3 s_ c0)>=(0:Int))
theorem Hn (s_:List Yd) (c0:ByteArray):ACalls Tryz.prog 116 [.h s_,.one (.fnr 117 [[.s c0]])] (.b (Ys s_ c0)):=by
 refine en Qb Tryz.func116 λw0 F0 hG=> ?_
 exact sn Qb [0,1,4] [] p0 <| tn Qb [4] [] (pc 2 (Aw s_ c0) p0) <| Qk <| pb [] (show Ys s_ c0=decide ((Z3 s_ c0)>=(0:Int)) from rfl)
def Z5 (s_:List Yd) (name:ByteArray):Bool:=(Ys s_ name)
theorem Gk (s_:List Yd) (name:ByteArray):ACalls Tryz.prog 67 [.h s_,.s name] (.b (Z5 s_ name)):=by
 refine en Qb Tryz.func67 λw0 F0 hG=> ?_
 exact sn Qb [0,3,4] [3] p0 <| tn Qb [4] [] (pc 2 (Hn s_ name) p0) <| Qk <| pb [] (show Z5 s_ name=(Ys s_ name) from rfl)
open GoD (rd own)
open GoE (enc wide)
def szI (t:Nat) (left:Int):Int:=bif decide ((t:Int)<=left) then left-t else-1
theorem Qhg {t:Nat} {left r:Int} (h:szq t left r):r=szI t left:=by
 unfold szq at h;unfold szI;by_cases hc:(t:Int)<=left
 . rw[decide_eq_true hc];simp only[cond_true];omega
 rw[decide_eq_false hc];simp only[cond_false];omega
theorem Qhh (t:Nat) (left:Int):szI t left<0\/(0<=szI t left/\szI t left=left-t/\(t:Int)<=left):=by
 by_cases hc:(t:Int)<=left
 . have:szI t left=left-t:=by unfold szI;rw[decide_eq_true hc];rfl
   omega
 have:szI t left= -1:=by unfold szI;rw[decide_eq_false hc];rfl
 omega
theorem Qhi (t:Nat) {left:Int} (h0:0<=left) (h1:left<=1048576):InR .i64 (szI t left):=by
 rw[U2];unfold I64;by_cases hc:(t:Int)<=left
 . have:szI t left=left-t:=by unfold szI;rw[decide_eq_true hc];rfl
   omega
 have:szI t left= -1:=by unfold szI;rw[decide_eq_false hc];rfl
 omega
section
variable {α:Type} [GoE α] {P:Program} {f:Nat}
theorem SS {F:Nat->Prop} {w:World} {v:Value} {a:α} (h:AR (Td F) w v (B7 a)):∃cs:List Value,v= .agg cs.toArray/\rd w cs a:=by
 obtain ⟨vs,rfl,hr⟩:=h;exact ⟨vs,rfl,GoE.vc_rd (Qgy hr λ_=>GoE.no_any)⟩
theorem Qfw {F:Nat->Prop} {w:World} {v:Value} {l:List α} (h:AR (Td F) w v (GN l)):rd w [v] l:=PC h
theorem Rg {F:Nat->Prop} {w w':World} {v:Value} {r:AV} (hb:Below w.heap.size w w') (hr:∀J,AR J w' v r):Qem F w r (.returned v) w':=
 ⟨v,λ_=> [],rfl,hb,λ_=>List.nodup_nil,(λ_ _ h=>by simp at h),(λ_ _ _ h=>by simp at h),hr _⟩
theorem NE (hok:Ee P f) {a:α} {left:Int} (h0:0<=left) (h1:left<=1048576) (h:∀w (cs:List Value),rd w cs a->Calls P f #[.agg cs.toArray,.int .i64 left] w (Lf w (GoD.size a) left)):ACalls P f [B7 a,DN left] (DN (szI (GoD.size a) left)):=by
 refine ⟨hok,λw _ F vals hF hall=> ?_⟩;cases hall with
 | cons h2 h3=>cases h3 with
   | cons h3 h4=>
     cases h4
     obtain ⟨cs,rfl,hr⟩:=SS h2;obtain ⟨rfl,_⟩:=h3;refine (h w cs hr).mono ?_
     rintro e w' ⟨r,rfl,hq,hb⟩
     exact Rg hb λJ=>⟨by rw[Qhg hq],Qhi _ h0 h1⟩
theorem NF (hok:Ee P f) {a:α} {K R:Int} (hR:InR .i64 R) (h:∀w (cs:List Value),rd w cs a->Calls P f #[.agg cs.toArray,.int .i64 K] w (Ret w (.int .i64 R))):ACalls P f [B7 a,DN K] (DN R):=by
 refine ⟨hok,λw _ F vals hF hall=> ?_⟩;cases hall with
 | cons h2 h3=>cases h3 with
   | cons h3 h4=>
     cases h4
     obtain ⟨cs,rfl,hr⟩:=SS h2;obtain ⟨rfl,_⟩:=h3;refine (h w cs hr).mono ?_
     rintro e w' ⟨rfl,hb⟩
     exact Rg hb λJ=>⟨rfl,hR⟩
theorem JZ (hok:Ee P f) {l:List α} {K R:Int} (hR:InR .i64 R) (h:∀w (v:Value),rd w [v] l->Calls P f #[v,.int .i64 K] w (Ret w (.int .i64 R))):ACalls P f [GN l,DN K] (DN R):=by
 refine ⟨hok,λw _ F vals hF hall=> ?_⟩;cases hall with
 | cons h2 h3=>cases h3 with
   | cons h3 h4=>
     cases h4
     obtain ⟨rfl,_⟩:=h3;refine (h w _ (Qfw h2)).mono ?_
     rintro e w' ⟨rfl,hb⟩
     exact Rg hb λJ=>⟨rfl,hR⟩
end
section
variable {α:Type} [GoE α] {P:Program} {f:Nat}
end
def Qhj (P:Program) (f:Nat) {α:Type} [GoE α] (a:α) (K:Int) (r:α×Nat):Prop:=Ee P f/\∀(w:World) (L:List Nat) (cs:List Value),own L w cs a->Calls P f #[.agg cs.toArray,.int .i64 K] w (Oe L w cs r)
def Qfx (P:Program) (f:Nat) {α:Type} [GoE α] (l:List α) (K:Int) (r:List α×Nat):Prop:=Ee P f/\∀(w:World) (L:List Nat) (v:Value),own L w [v] l->Calls P f #[v,.int .i64 K] w (Oe L w [v] r)
def nmC:List Nat->List PV->Option (List C)
 | [], []=>some []
 | _, []=>none
 | k::ks,.slc n l::r=>(nmC ks r).map (C.slc (.own true k) n l:: ·)
 | [],.slc _ _::_=>none
 | ks,.int a b::r=>(nmC ks r).map (C.int a b:: ·)
 | ks,.bool b::r=>(nmC ks r).map (C.bool b:: ·)
 | ks,.str s::r=>(nmC ks r).map (C.str s:: ·)
 | [],.any::_=>none
 | _::_,.any::_=>none
 | [],.raw _::_=>none
 | _::_,.raw _::_=>none
theorem ST {J:Inj} {w:World} (hd:∀k k' b,b∈J.L k->b∈J.L k'->k=k'):∀{ps:List PV} {ks:List Nat} {cs:List C} {vs:List Value},nmC ks ps=some cs->ks.Nodup->All2 (CR J w) vs cs->∃L,OC w L vs ps/\L.Nodup/\∀b,b∈L->∃k,k∈ks/\b∈J.L k
 | [], [],cs,vs,h,_,ha=>by
   obtain rfl: []=cs:=by simpa [nmC] using h
   cases ha
   exact ⟨[],.nil,List.nodup_nil,λ_ h=>by simp at h⟩
 | [],k::ks,cs,vs,h,_,ha=>by simp[nmC] at h
 | .int a b::ps,ks,cs,vs,h,hn,ha=>by
   have h:(nmC ks ps).map (C.int a b:: ·)=some cs:=by cases ks<;>exact h
   obtain ⟨cs',h',rfl⟩:=Option.map_eq_some_iff.1 h;cases ha with
   | cons h1 h2=>obtain ⟨rfl,h1⟩:=h1;obtain ⟨L,q1,q2,q3⟩:=ST hd h' hn h2;exact ⟨L,OC.cons (L1:= []) (.int h1) q1,q2,q3⟩
 | .bool b::ps,ks,cs,vs,h,hn,ha=>by
   have h:(nmC ks ps).map (C.bool b:: ·)=some cs:=by cases ks<;>exact h
   obtain ⟨cs',h',rfl⟩:=Option.map_eq_some_iff.1 h;cases ha with
   | cons h1 h2=>obtain rfl:=h1;obtain ⟨L,q1,q2,q3⟩:=ST hd h' hn h2;exact ⟨L,OC.cons (L1:= []) (.bool _) q1,q2,q3⟩
 | .str s::ps,ks,cs,vs,h,hn,ha=>by
   have h:(nmC ks ps).map (C.str s:: ·)=some cs:=by cases ks<;>exact h
   obtain ⟨cs',h',rfl⟩:=Option.map_eq_some_iff.1 h;cases ha with
   | cons h1 h2=>obtain ⟨rfl,h1⟩:=h1;obtain ⟨L,q1,q2,q3⟩:=ST hd h' hn h2;exact ⟨L,OC.cons (L1:= []) (.str h1) q1,q2,q3⟩
 | .slc n l::ps, [],cs,vs,h,_,ha=>by simp[nmC] at h
 | .any::ps, [],cs,vs,h,_,ha=>by simp[nmC] at h
 | .any::ps,k::ks,cs,vs,h,_,ha=>by simp[nmC] at h
 | .raw _::ps, [],cs,vs,h,_,ha=>by simp[nmC] at h
 | .raw _::ps,k::ks,cs,vs,h,_,ha=>by simp[nmC] at h
 | .slc n l::ps,k::ks,cs,vs,h,hn,ha=>by
   simp only[nmC] at h;obtain ⟨cs',h',rfl⟩:=Option.map_eq_some_iff.1 h;obtain ⟨hk,hn⟩:=List.nodup_cons.1 hn;cases ha with
   | cons h1 h2=>
     obtain ⟨L,q1,q2,q3⟩:=ST hd h' hn h2;obtain ⟨L0,a1,a2,a3,_⟩:=h1;refine ⟨L0++L,OC.cons a1 q1,List.nodup_append.2 ⟨a2,q2,λb hb b' hb' e=> ?_⟩,λb hb=> ?_⟩
     . subst e;obtain ⟨k',hk',hm⟩:=q3 b hb';exact hk (hd _ _ b (a3 b hb) hm▸hk')
     rcases List.mem_append.1 hb with hb | hb
     . exact ⟨k,List.mem_cons_self,a3 b hb⟩
     obtain ⟨k',hk',hm⟩:=q3 b hb;exact ⟨k',List.mem_cons_of_mem _ hk',hm⟩
section
variable {P:Program} {N:Nat} {w0:Base} {F0:Nat->Prop} {J:Inj} {a:Act} {w w':World} {s:St}
theorem Rel.mark (h:Rel N w0 F0 J a w s) (ks:List Nat) {L:List Nat} (hL:∀b,b∈L->∃k,k∈ks/\b∈J.L k) (hc:Chg L w w') (d:Nat) (hd:d<N) (n:Int) (hn:InR .i64 n) (bx:Option (Nat×List C))
 (hb:∀k c,bx=some (k,c)->∃c0,get s.bx k=some c0/\∃arr e,w.heap[J.B k]? =some (.cells arr e (0,0))/\∀J':Inj,(∀b,J'.F b↔J.F b\/b∈L)->All2 (CR J' w') arr.toList c):
 ∃J',(∀b,J'.F b↔J.F b\/b∈L)/\(∀k,J'.B k=J.B k)/\Rel N w0 F0 J' (a.put (some d) (.int .i64 n)) w' (s.step (some d) ⟨.one (.int .i64 n),Kx ks,none,bx⟩):=by
 let J':Inj:=⟨λb=>J.F b\/b∈L,λk=>if k∈ks then [] else J.L k,J.B⟩
 have hlo:∀b,b∈L->w0.lo (b)/\b<w.heap.size/\¬J.F b:=λb hb=>by
  obtain ⟨k,_,hm⟩:=hL b hb;exact h.lo k b hm
 have hun:∀b,b<w.heap.size->b∉L->w'.heap[b]? =w.heap[b]? :=hc.block
 have hJL:∀k b,b∈J'.L k->k∉ks/\b∈J.L k:=λk b hm=>by
  have hm:b∈(if k∈ks then [] else J.L k):=hm;split at hm
  . simp at hm
  rename_i hk;exact ⟨hk,hm⟩
 have hout:∀k b,k∉ks->b∈J.L k->b∉L:=λk b hk hm hl=>by
  obtain ⟨k',hk',hm'⟩:=hL b hl;exact hk (h.dj k k' b hm hm'▸hk')
 have hboxL:∀k c,get s.bx k=some c->J.B k∉L:=λk c hk hl=>by
  obtain ⟨k',_,hm⟩:=hL _ hl;exact (h.bo k c hk).2.2.1 k' hm
 refine ⟨J',λb=>Iff.rfl,λ_=>rfl, ?_⟩;refine h.upd (w':=w') (J':=J') (some d) (λd' e=>by cases e;exact hd) _ _ (h.below.step hc.os hc.tape hc.output hc.size λb hb hnl=>hun b hb λhl=>hnl (hlo b hl).1) ?_ ?_ (λ_=>⟨rfl,hn⟩) ?_ ?_
 . constructor
   . exact λb hb=>⟨.inl hb,hun b (h.fl b hb).1 λhl=>(hlo b hl).2.2 hb⟩
   . intro k hk;rw[U4] at hk;split at hk
     . cases hk
     rename_i hn;exact ⟨if_neg hn,λb hb=>hun b (h.lo k b hb).2.1 (hout k b hn hb)⟩
   . intro k hk;rw[U4] at hk;split at hk<;>cases hk
   . intro k k' hk;rw[U4] at hk;split at hk<;>cases hk
   . intro k t hk;rw[U4] at hk;split at hk<;>cases hk
   . exact λ_ _=>rfl
   intro k d m i o cs hk;rw[U4] at hk;split at hk<;>cases hk
 . constructor
   . intro b hb;rcases hb with hb | hb
     . exact ⟨Nat.lt_of_lt_of_le (h.fl b hb).1 hc.size,(h.fl b hb).2⟩
     exact ⟨Nat.lt_of_lt_of_le (hlo b hb).2.1 hc.size,.inr (hlo b hb).1⟩
   . exact λb hb=> .inl (h.f0 b hb)
   . intro k;show (if _ then _ else _:List Nat).Nodup;split
     . exact List.nodup_nil
     exact h.nd k
   . intro k b hm;obtain ⟨hk,hm⟩:=hJL k b hm;obtain ⟨h1,h2,h3⟩:=h.lo k b hm;exact ⟨h1,Nat.lt_of_lt_of_le h2 hc.size,λhF=>hF.elim h3 (hout k b hk hm)⟩
   intro k k' b hm hm';exact h.dj k k' b (hJL k b hm).2 (hJL k' b hm').2
 . intro k c hk _;obtain ⟨h1,h2,h3,arr,e,h4,_⟩:=h.bo k c hk;refine ⟨by simp,λhF=>hF.elim h2 (hboxL k c hk),λk' hm=>h3 k' (hJL k' _ hm).2,hun _ ?_ (hboxL k c hk)⟩;exact Q8 h4
 intro k c hk;obtain ⟨c0,hg,arr,e,hh,hall⟩:=hb k c hk;obtain ⟨h1,h2,h3,arr',e',h4,_⟩:=h.bo k c0 hg;have hlt:J.B k<w.heap.size:=Q8 h4;exact ⟨h1,λhF=>hF.elim h2 (hboxL k c0 hg),λk' hm=>h3 k' (hJL k' _ hm).2,⟨arr,e,(hun _ hlt (hboxL k c0 hg)).trans hh,hall J' λ_=>Iff.rfl⟩,λk' c' hk' hne e=>hne (h.bi k' k c' c0 hk' hg e)⟩
theorem Rel.settm (h:Rel N w0 F0 J a w s) (t:Nat) (av:AV) (hv:AR J w (a.tmps.getD t undef) av):Rel N w0 F0 J a w ⟨ins t av s.tm,s.bx⟩:=by
 refine {h with tm:=λu v hu=> ?_};simp only[Ib] at hu;split at hu
 . rename_i e;subst e;cases hu;exact hv
 exact h.tm u v hu
theorem ET {ti:TI} {t:Nat} (hti:TiOk P t ti) {vs:List Value} (hag:ti.agg=true) (hl:vs.length=ti.size) {b off:Nat} (hc:∀(j:Nat) (u:Value),vs[j]? =some u->w.cell? ⟨b,off+j,none⟩=some u):(loadVar t ⟨b,off,none⟩).run P w= .ok (.agg vs.toArray) w:=by
 obtain ⟨d,hd,hagg⟩:=hti.agg;have hld:=run_loadCells_list (P:=P) w ⟨b,off,none⟩ vs (λj u hj=>by rw[Addr.add_lit];exact hc j u hj);rw[hl] at hld;simp[loadVar,H7 hd,hagg,hag,Hf hti,hld]
theorem H0 {a:Act} {t u:Nat} {v:Value} (ht:t<a.tmps.size):(a.put (some t) v).tmps.getD u undef=if u=t then v else a.tmps.getD u undef:=by
 simp only[Act.put,Array.getD_eq_getD_getElem?,Array.getElem?_setIfInBounds];by_cases h:u=t
 . subst h;simp[ht]
 simp[h,Ne.symm h]
end
class GoM (α:Type) [GoE α]:Prop where
 mkw:∀{a:α} {k:Nat},wide a->wide (GoD.mark a k).1
 mkT:∀{a:α} {k:Nat},wide a->wide (GoD.markT a k).1
instance:GoM Int:=⟨λ_=>trivial,λ_=>trivial⟩
instance:GoM Bool:=⟨λ_=>trivial,λ_=>trivial⟩
instance:GoM ByteArray:=⟨λ_=>trivial,λ_=>trivial⟩
instance {α β:Type} [GoE α] [GoE β] [GoM α] [GoM β]:GoM (α×β):=⟨λh=>⟨GoM.mkw h.1,GoM.mkw h.2⟩,λh=>⟨GoM.mkT h.1,GoM.mkT h.2⟩⟩
theorem Ss {α:Type} [GoE α] [GoM α]:∀{l:List α} {k:Nat},(∀a,a∈l->wide a)->∀a,a∈(Qu l k).1->wide a
 | [],k,_,a,ha=>by simp[Qu] at ha
 | x::l,k,h,a,ha=>by
   simp only[Qu,List.mem_cons] at ha;rcases ha with rfl | ha
   . exact GoM.mkw (h x List.mem_cons_self)
   exact Ss (λa ha=>h a (List.mem_cons_of_mem _ ha)) a ha
instance {α:Type} [GoE α] [GoM α]:GoM (List α):=⟨λ{l k} h=>⟨by rw[show (GoD.mark l k).1=(Qu l k).1 from rfl,Is];exact h.1,Ss h.2⟩,λ{l k} h=>⟨by rw[show (GoD.markT l k).1=(Qu l k).1 from rfl,Is];exact h.1,Ss h.2⟩⟩
section
variable {P:Program} {N:Nat} {w0:Base} {F0:Nat->Prop} {s s':St} {Q:Exit->St->Prop}
theorem D5 {ops:Array Oper} {Q:Exit->Act->World->Prop} {i:Nat} {rest:List Nat} {o:Oper} {a:Act} {w:World} (hi:ops[i]? =some o) (hg:o.guard=none) (h:o.wp P a w (wpOps P ops Q rest) Q):wpOps P ops Q (i::rest) a w:=by
 rw[wpOps_cons];unfold wpOp;simp only[hi];rw[if_pos (by simp[Region.wanted,hg])];exact .inl h
theorem I1 {a:Act} {t:Nat} {v:Value}:(a.put (some t) v).tmps.size=a.tmps.size:=by simp[Act.put]
def Rh (N x y d z p kv:Nat):Bool:=Nat.blt x N&&Nat.blt y N&&Nat.blt d N&&Nat.blt z N&& !Nat.beq kv x&& !Nat.beq x y&& !Nat.beq p x
theorem Cf {a b:Nat} (h:(!Nat.beq a b)=true):a≠b:=λe=>by subst e;simp at h
theorem BS {tt:List (Nat×TI)} (htt:De P tt=true) {α:Type} [GoE α] [GoM α] {a:α} {K:Int} {r:α×Nat} {f:Nat} (hm:Qhj P f a K r) (hr:InR .i64 (r.2:Int)) (hrw:wide a->wide r.1) (ks:List Nat) {id x y d z p q kv t:Nat} {o0 o1 o2 o3:Oper} {tys:Array TypeId} {ti:TI} {cs:List C} (ts bs:List Nat)
 (p0:o0.op= .load t (.tmp p)) (d0:o0.dst=some x) (g0:o0.guard=none) (p1:o1.op= .move (.tmp kv)) (d1:o1.dst=some y) (g1:o1.guard=none)
 (p2:o2.op= .call ⟨.value (.func f), #[.tmp x,.tmp y],tys⟩) (d2:o2.dst=some d) (g2:o2.guard=none) (p3:o3.op= .assign (.tmp d)) (d3:o3.dst=some z) (g3:o3.guard=none) (hN:Rh N x y d z p kv=true)
 (ht:get tt t=some ti) (hag:ti.agg=true) (hsz:Nat.beq ti.size (enc a).length=true) (hp:get s.tm p=some (.one (.ptr q 0))) (hb:get s.bx q=some cs) (hcs:nmC ks (enc a)=some cs) (hks:Dz ks=true) (hk:get s.tm kv=some (.one (.int .i64 K)))
 (hs:((((s.step (some x) ⟨.one .dead, [],none,none⟩).step (some y) ⟨.one .dead, [],none,none⟩).step (some d) ⟨.one (.int .i64 (r.2:Int)),Kx ks,none,some (q,(enc r.1).map shC)⟩).step (some z) ⟨.one (.int .i64 (r.2:Int)), [],none,none⟩).keep ts bs=s')
 (hQ:Q .normal s'):AWP P N w0 F0 (.region id #[o0,o1,o2,o3] false) Q s:=λJ ac w hr0=>by
 simp only[Rh,Bool.and_eq_true,Nat.blt_eq] at hN;obtain ⟨⟨⟨⟨⟨⟨n1,n2⟩,n3⟩,n4⟩,n5⟩,n6⟩,n7⟩:=hN;have n5:=Cf n5;have n6:=Cf n6;obtain ⟨_,_,_,arr,e,hheap,hall⟩:=hr0.bo q cs hb;have hpv:ac.tmps.getD p undef= .pointer (some ⟨J.B q,0,none⟩):=hr0.tm p _ hp;obtain ⟨hkv,hKr⟩:ac.tmps.getD kv undef= .int .i64 K/\InR .i64 K:=hr0.tm kv _ hk;obtain ⟨L,hoc,hnd,hsub⟩:=ST hr0.dj hcs (Ew.1 hks) hall;have hown:own L w arr.toList a:=GoE.oc_own hoc hnd;have hwa:wide a:=GoE.vc_wide (hoc.vc (X:=λb=>b∈L) λ_ h=>h);have hlen:arr.toList.length=ti.size:=by rw[hoc.length];exact (Nat.eq_of_beq_eq_true hsz).symm
 have hld:(loadVar t ⟨J.B q,0,none⟩).run P w= .ok (.agg arr) w:=by
  have:=ET (P:=P) (w:=w) (Y7 htt ht) hag hlen (b:=J.B q) (off:=0) (λj u hj=>by
   rw[Array.getElem?_toList] at hj;simp[World.cell?,hheap,hj])
  simpa using this
 have hsx:x<ac.tmps.size:=by rw[hr0.size];exact n1
 have hsy:y<(ac.put (some x) (.agg arr)).tmps.size:=by rw[I1,hr0.size];exact n2
 have R1:=hr0.pure (some x) (λd' e=>by cases e;exact n1) (.one .dead) (.agg arr) (λ_=>trivial);have R2:=R1.pure (some y) (λd' e=>by cases e;exact n2) (.one .dead) (.int .i64 K) (λ_=>trivial);refine wp_region ?_;show wpOps P _ _ [0,1,2,3] ac w;refine D5 (o:=o0) rfl g0 (J9 (v:= .agg arr) (w':=w) ?_ ?_)
 . have e1:ac.eval (.tmp p)= .pointer (some ⟨J.B q,0,none⟩):=hpv;simp[execOp,p0,e1,Instr.loadAt,Instr.sureAddr,hld]
 rw[d0];refine D5 (o:=o1) rfl g1 (J9 (v:= .int .i64 K) (w':=w) ?_ ?_)
 . have e1:(ac.put (some x) (.agg arr)).eval (.tmp kv)= .int .i64 K:=(H0 hsx).trans ((if_neg n5).trans hkv);simp[execOp,p1,e1]
 rw[d1];refine D5 (o:=o2) rfl g2 (Dr (caps:= #[]) p2 rfl hm.1 ?_);have ex:((ac.put (some x) (.agg arr)).put (some y) (.int .i64 K)).eval (.tmp x)= .agg arr:=(H0 hsy).trans ((if_neg n6).trans ((H0 hsx).trans (if_pos rfl)));have ey:((ac.put (some x) (.agg arr)).put (some y) (.int .i64 K)).eval (.tmp y)= .int .i64 K:=(H0 hsy).trans (if_pos rfl);have hargs:(#[Operand.tmp x,Operand.tmp y].map ((ac.put (some x) (.agg arr)).put (some y) (.int .i64 K)).eval++ #[])= #[.agg arr.toList.toArray,.int .i64 K]:=by simp[ex,ey]
 rw[hargs];refine (hm.2 w L arr.toList hown).mono ?_
 rintro en w' ⟨rfl,ho,hc⟩
 have hwr:=hrw hwa
 obtain ⟨J',hF,hB,R3⟩:=R2.mark ks hsub hc d n3 (r.2:Int) hr (some (q,(enc r.1).map shC)) (λk c hk=>by
  cases hk
  refine ⟨cs,hb,arr,e,hheap,λJ' hF=> ?_⟩;exact PF ((GoE.own_oc ho hwr).vc λb hb=>(hF b).2 (.inr hb)))
 have R4:=R3.pure (some z) (λd' e=>by cases e;exact n4) (.one (.int .i64 (r.2:Int))) (.int .i64 (r.2:Int)) (λ_=>⟨rfl,hr⟩);rw[d2];refine D5 (o:=o3) rfl g3 (J9 (v:= .int .i64 (r.2:Int)) (w':=w') ?_ ?_)
 . have hsd:d<((ac.put (some x) (.agg arr)).put (some y) (.int .i64 K)).tmps.size:=by rw[I1,I1,hr0.size];exact n3
   have e1:(((ac.put (some x) (.agg arr)).put (some y) (.int .i64 K)).put (some d) (.int .i64 (r.2:Int))).eval (.tmp d)= .int .i64 (r.2:Int):=(H0 hsd).trans (if_pos rfl);simp[execOp,p3,e1]
 rw[d3];subst hs;exact ⟨J',_,R4.less (λt v hv=>Bm hv) (λk c hc=>Bm hc),hQ⟩
theorem BT {α:Type} [GoE α] [GoM α] {l:List α} {K:Int} {r:List α×Nat} {f:Nat} (hm:Qfx P f l K r) (hr:InR .i64 (r.2:Int)) (hrw:wide l->wide r.1) (k0:Nat) {id x y d z p kv:Nat} {o0 o1 o2 o3:Oper} {tys:Array TypeId} (ts bs:List Nat)
 (p0:o0.op= .move (.tmp p)) (d0:o0.dst=some x) (g0:o0.guard=none) (p1:o1.op= .move (.tmp kv)) (d1:o1.dst=some y) (g1:o1.guard=none)
 (p2:o2.op= .call ⟨.value (.func f), #[.tmp x,.tmp y],tys⟩) (d2:o2.dst=some d) (g2:o2.guard=none) (p3:o3.op= .assign (.tmp d)) (d3:o3.dst=some z) (g3:o3.guard=none) (hN:Rh N x y d z p kv=true) (hN2:(!Nat.beq p y&& !Nat.beq p d&& !Nat.beq p z)=true)
 (hp:get s.tm p=some (.one (.slc (.own true k0) (GoD.n α) (eL l)))) (hk:get s.tm kv=some (.one (.int .i64 K)))
 (hs:(St.mk (ins p (.one (.slc .sh (GoD.n α) (eL r.1))) ((((s.step (some x) ⟨.one .dead, [],none,none⟩).step (some y) ⟨.one .dead, [],none,none⟩).step (some d) ⟨.one (.int .i64 (r.2:Int)),Kx [k0],none,none⟩).step (some z) ⟨.one (.int .i64 (r.2:Int)), [],none,none⟩).tm) ((((s.step (some x) ⟨.one .dead, [],none,none⟩).step (some y) ⟨.one .dead, [],none,none⟩).step (some d) ⟨.one (.int .i64 (r.2:Int)),Kx [k0],none,none⟩).step (some z) ⟨.one (.int .i64 (r.2:Int)), [],none,none⟩).bx).keep ts bs=s')
 (hQ:Q .normal s'):AWP P N w0 F0 (.region id #[o0,o1,o2,o3] false) Q s:=λJ ac w hr0=>by
 simp only[Rh,Bool.and_eq_true,Nat.blt_eq] at hN hN2;obtain ⟨⟨⟨⟨⟨⟨n1,n2⟩,n3⟩,n4⟩,n5⟩,n6⟩,n7⟩:=hN;have n5:=Cf n5;have n6:=Cf n6;have n7:=Cf n7;have m1:=Cf hN2.1.1;have m2:=Cf hN2.1.2;have m3:=Cf hN2.2;have hpv:CR J w (ac.tmps.getD p undef) (.slc (.own true k0) (GoD.n α) (eL l)):=hr0.tm p _ hp;generalize hv:ac.tmps.getD p undef=v at hpv;obtain ⟨hkv,hKr⟩:ac.tmps.getD kv undef= .int .i64 K/\InR .i64 K:=hr0.tm kv _ hk;obtain ⟨L,hov,hnd,hsub,_⟩:=hpv;have hown:own L w [v] l:=PE hov hnd;have hwl:wide l:=Lt (hov.vv (X:=λb=>b∈L) λ_ h=>h);have hsx:x<ac.tmps.size:=by rw[hr0.size];exact n1
 have hsy:y<(ac.put (some x) v).tmps.size:=by rw[I1,hr0.size];exact n2
 have R1:=hr0.pure (some x) (λd' e=>by cases e;exact n1) (.one .dead) v (λ_=>trivial);have R2:=R1.pure (some y) (λd' e=>by cases e;exact n2) (.one .dead) (.int .i64 K) (λ_=>trivial);refine wp_region ?_;show wpOps P _ _ [0,1,2,3] ac w;refine D5 (o:=o0) rfl g0 (J9 (v:=v) (w':=w) ?_ ?_)
 . have e1:ac.eval (.tmp p)=v:=hv;simp[execOp,p0,e1]
 rw[d0];refine D5 (o:=o1) rfl g1 (J9 (v:= .int .i64 K) (w':=w) ?_ ?_)
 . have e1:(ac.put (some x) v).eval (.tmp kv)= .int .i64 K:=(H0 hsx).trans ((if_neg n5).trans hkv);simp[execOp,p1,e1]
 rw[d1];refine D5 (o:=o2) rfl g2 (Dr (caps:= #[]) p2 rfl hm.1 ?_);have ex:((ac.put (some x) v).put (some y) (.int .i64 K)).eval (.tmp x)=v:=(H0 hsy).trans ((if_neg n6).trans ((H0 hsx).trans (if_pos rfl)));have ey:((ac.put (some x) v).put (some y) (.int .i64 K)).eval (.tmp y)= .int .i64 K:=(H0 hsy).trans (if_pos rfl);have hargs:(#[Operand.tmp x,Operand.tmp y].map ((ac.put (some x) v).put (some y) (.int .i64 K)).eval++ #[])= #[v,.int .i64 K]:=by simp[ex,ey]
 rw[hargs];refine (hm.2 w L v hown).mono ?_
 rintro en w' ⟨rfl,ho,hc⟩
 have hwr:=hrw hwl;obtain ⟨J',hF,hB,R3⟩:=R2.mark [k0] (λb hb=>⟨k0,by simp,hsub b hb⟩) hc d n3 (r.2:Int) hr none (λk c hk=>by cases hk);have R4:=R3.pure (some z) (λd' e=>by cases e;exact n4) (.one (.int .i64 (r.2:Int))) (.int .i64 (r.2:Int)) (λ_=>⟨rfl,hr⟩);have hsd:d<((ac.put (some x) v).put (some y) (.int .i64 K)).tmps.size:=by rw[I1,I1,hr0.size];exact n3
 rw[d2];refine D5 (o:=o3) rfl g3 (J9 (v:= .int .i64 (r.2:Int)) (w':=w') ?_ ?_)
 . have e1:(((ac.put (some x) v).put (some y) (.int .i64 K)).put (some d) (.int .i64 (r.2:Int))).eval (.tmp d)= .int .i64 (r.2:Int):=(H0 hsd).trans (if_pos rfl);simp[execOp,p3,e1]
 rw[d3];have hsz':z<(((ac.put (some x) v).put (some y) (.int .i64 K)).put (some d) (.int .i64 (r.2:Int))).tmps.size:=by rw[I1,I1,I1,hr0.size];exact n4
 have ep:((((ac.put (some x) v).put (some y) (.int .i64 K)).put (some d) (.int .i64 (r.2:Int))).put (some z) (.int .i64 (r.2:Int))).tmps.getD p undef=v:=by
  rw[H0 hsz',if_neg m3,H0 hsd,if_neg m2,H0 hsy,if_neg m1,H0 hsx,if_neg n7,hv]
 have hvv:VV J'.F w' v (.slc (GoD.n α) (eL r.1)):=by
  have:=(GoE.own_oc ho hwr).vc (X:=J'.F) λb hb=>(hF b).2 (.inr hb)
  exact VC.one this
 have R5:=R4.settm p (.one (.slc .sh (GoD.n α) (eL r.1))) (by rw[ep];exact hvv);subst hs;exact ⟨J',_,R5.less (λt v hv=>Bm hv) (λk c hc=>Bm hc),hQ⟩
end
end
section
open Go.RowKit
theorem WT {l m : List Yh} {k : Nat} (h : ∀ f, f ∈ l → List.length f.2.2.2.2 ≤ 5) (he : ∀ j, k ≤ j → m[j]? = l[j]?) (hk : k < l.length) : List.length (nth m k).2.2.2.2 ≤ 1073741000 := by
  have h3 := Wr hk
  have h2 : nth m k = nth l k := Gw ((he k (Nat.le_refl _)).trans h3)
  rw [h2]
  exact Nat.le_trans (h _ (List.mem_of_getElem? h3)) (by decide)
theorem LB {s : X1} (h : Q7 s = true) : ∀ f, f ∈ (Qz s).2.1 → List.length f.2.2.2.2 ≤ 5 := λf hf => F2 h (by rw [D4] at hf; exact hf)
theorem BU {s : X1} (h : Xj (Xc s) = true) : ∀ f, f ∈ (Xc s).2.1 → List.length f.2.2.2.2 ≤ 5 := λf hf => F2 ((Ix _).symm.trans h) hf
theorem Qhk (n : ByteArray) : ∀ (l : List Jl) (k : Nat), Xp (Bj n) Gj l k () = .brk (bif (ixF (λa => Xk a n) l == -1) then ((k + l.length : Nat) : Int) else (k : Int) + ixF (λa => Xk a n) l)
  | [], k => rfl
  | a :: l, k => by
    have hb := G4 (λa => Xk a n) l
    have e : Bj n k a () = bif Xk a n then .brk ((k : Nat) : Int) else .next () := by
      unfold Bj Xk
      generalize (Op.bytesLess a.1.toList n.toList || a.1.toList == n.toList) = c
      cases c <;> rfl
    simp only [Xp, e, ixF]
    cases Xk a n with
    | true => simp only [cond_true]; rw [show ((0 : Int) == -1) = false from rfl, cond_false, Int.add_zero]
    | false =>
      simp only [cond_false]
      rw [Qhk n l (k + 1)]
      cases h : (ixF (λa => Xk a n) l == -1) with
      | true => simp only [cond_true, List.length_cons]; rw [show ((-1 : Int) == -1) = true from rfl, cond_true]; congr 1; omega
      | false =>
        have hne : ixF (λa => Xk a n) l ≠ -1 := by simpa using h
        simp only [cond_false]
        rw [show (ixF (λa => Xk a n) l + 1 == -1) = false by simp; omega, cond_false]
        congr 1; omega
theorem EU (f : Yh) : Ql f = f := rfl
theorem Mo (f : Yh) (n : ByteArray) (v : Z4) (hp : List.length f.2.2.2.2 ≤ 1073741000) : Xl f n v = (f.1, f.2.1, f.2.2.1, f.2.2.2.1, bif (v.1 == (0 : Int)) then f.2.2.2.2.filter (λa => !(a.1.toList == n.toList)) else I0 (f.2.2.2.2.filter (λa => !(a.1.toList == n.toList))) (bif (ixF (λa => Xk a n) (f.2.2.2.2.filter (λa => !(a.1.toList == n.toList))) == -1) then (f.2.2.2.2.filter (λa => !(a.1.toList == n.toList))).length else Int.toNat (ixF (λa => Xk a n) (f.2.2.2.2.filter (λa => !(a.1.toList == n.toList))))) (n, v)) := by
  unfold Xl
  rw [EU, J8 _ _ (Nat.le_trans hp (by decide)), Wh]
  show (bif (v.1 == (0 : Int)) then _ else _) = _
  unfold J7
  generalize f.2.2.2.2.filter (λa => !(a.1.toList == n.toList)) = l
  have hb := G4 (λa => Xk a n) l
  cases (v.1 == (0 : Int)) with
  | true => rfl
  | false =>
    simp only [cond_false]
    cases h : (ixF (λa => Xk a n) l == -1) with
    | true =>
      have h1 : ixF (λa => Xk a n) l = -1 := by simpa using h
      rw [h1, show decide ((-1 : Int) < 0) = true from rfl]
      rfl
    | false =>
      have hne : ixF (λa => Xk a n) l ≠ -1 := by simpa using h
      rw [decide_eq_false (show ¬ ixF (λa => Xk a n) l < 0 by omega)]
      rfl
theorem NG (f : Yh) (n : ByteArray) (v : Z4) (hp : List.length f.2.2.2.2 ≤ 1073741000) : Y0 f n v = Xl f n v := by
  rw [Mo f n v hp]
  unfold Y0
  rw [E6 (f := Gi n) (e := Dx) (p := λa => !(a.1.toList == n.toList)) (g := id) (λ_ _ _ => rfl)]
  simp only [Out.on, Dx, List.nil_append, List.map_id]
  generalize f.2.2.2.2.filter (λa => !(a.1.toList == n.toList)) = l
  rw [Qhk]
  have hb := G4 (λa => Xk a n) l
  show (bif (!(v.1 == (0 : Int))) then _ else _) = _
  cases (v.1 == (0 : Int)) with
  | true => rfl
  | false =>
    simp only [Bool.not_false, cond_true, cond_false]
    cases h : (ixF (λa => Xk a n) l == -1) with
    | true => simp only [cond_true]; rw [show ((0 + l.length : Nat) : Int).toNat = l.length by omega]; rfl
    | false => simp only [cond_false]; rw [show ((0 : Nat) : Int) + ixF (λa => Xk a n) l = ixF (λa => Xk a n) l by omega]; rfl
open GoD (rd own)
def inR (n lo hi : Int) : Bool := decide (lo ≤ n) && decide (n ≤ hi)
theorem Tz {n lo hi : Int} (h1 : lo ≤ n) (h2 : n ≤ hi) : inR n lo hi = true := by simp [inR, h1, h2]
theorem Qd2 {n lo hi : Int} (h : ¬ lo ≤ n) : inR n lo hi = false := by simp [inR, h]
theorem Qd3 {n lo hi : Int} (h : ¬ n ≤ hi) : inR n lo hi = false := by simp [inR, h]
theorem Qch (w : World) (n lo hi : Int) : Calls Tryz.prog 115 #[.int .i64 n,.int .i64 lo,.int .i64 hi] w (Ret w (.bool (inR n lo hi))) := by
  by_cases h1 : lo ≤ n
  · by_cases h2 : n ≤ hi
    · rw [Tz h1 h2]
      go_enter Tryz.func115, Tryz.ntmps115
      go_wp2
      go_ret
      exact ⟨rfl, Below.refl _ _⟩
    rw [Qd3 h2]
    go_enter Tryz.func115, Tryz.ntmps115
    go_wp2
    go_ret
    exact ⟨rfl, Below.refl _ _⟩
  rw [Qd2 h1]
  go_enter Tryz.func115, Tryz.ntmps115
  go_wp2
  go_ret
  exact ⟨rfl, Below.refl _ _⟩
theorem Qfy (w : World) (n lo hi : Int) : Calls Tryz.prog 53 #[.int .i64 n,.int .i64 lo,.int .i64 hi] w (Ret w (.bool (inR n lo hi))) := by
  by_cases h1 : lo ≤ n
  · by_cases h2 : n ≤ hi
    · rw [Tz h1 h2]
      go_enter Tryz.func53, Tryz.ntmps53
      go_wp2
      go_ret
      exact ⟨rfl, Below.refl _ _⟩
    rw [Qd3 h2]
    go_enter Tryz.func53, Tryz.ntmps53
    go_wp2
    go_ret
    exact ⟨rfl, Below.refl _ _⟩
  rw [Qd2 h1]
  go_enter Tryz.func53, Tryz.ntmps53
  go_wp2
  go_ret
  exact ⟨rfl, Below.refl _ _⟩
theorem F3 (w : World) (n lo hi : Int) (r : Bool) (h : inR n lo hi = r) : Calls Tryz.prog 115 #[.int .i64 n,.int .i64 lo,.int .i64 hi] w (Ret w (.bool r)) := h ▸ Qch w n lo hi
theorem Gl (w : World) (n lo hi : Int) (r : Bool) (h : inR n lo hi = r) : Calls Tryz.prog 53 #[.int .i64 n,.int .i64 lo,.int .i64 hi] w (Ret w (.bool r)) := h ▸ Qfy w n lo hi
end
section
open Go.RowKit
open GoD (rd own)
theorem Qci (w:World) (k:Nat) (os:Array Obj):Below w.heap.size w (Go.Sort.grow (w.drewN k) os):=
 ⟨rfl,rfl,rfl,by rw[Go.Sort.size_grow];exact Nat.le_add_right _ _,λj hj=>by
  unfold Go.Sort.grow;rw[Array.getElem?_append,if_pos (by exact hj)];rfl⟩
theorem Qcj (w:World) (d:Nat) (hd:d<10):Calls Tryz.prog 175 #[.int .i64 d] w (Ret w (.int .u8 (48+(d:Int)))):=by
 have h1:(d:Int)<10:=by omega
 have h2:IntKind.i64.wrap (48+(d:Int))=48+(d:Int):=by rw[IntKind.wrap_i64];omega
 go_enter Tryz.func175,Tryz.ntmps175
 go_wp2
 go_ret
 exact ⟨rfl,Below.refl _ _⟩
def tabOk (w : World) : Prop := Lib.TabIs Tryz.prog w "internal/strconv.uint64pow10" .u64 Lib.pow10Tab
theorem gTab : Tryz.prog.globalNamed "internal/strconv.uint64pow10" = some 2 := by kernel_rfl
theorem tabOk.keep {w w':World} (h:tabOk w) (hb:Below w.heap.size w w'):tabOk w':=Go.Joins.tab_stays gTab h hb (Nat.le_refl _)
def Z9 (n:Int):ByteArray:=⟨(Lib.itoa n).toArray⟩
theorem Fm (w:World) (n:Int) (hn:I64 n) (ht:tabOk w):Calls Tryz.prog 159 #[.int .i64 n] w (Ret w (.string (Z9 n))):=by
 have hcon:=Sh.strconv_Itoa n hn.1 hn.2 w ht;rw[show (⟨(Lib.itoa n).toArray⟩:ByteArray)=Z9 n from rfl] at hcon;generalize Z9 n=s at*;clear ht hn;go_enter Tryz.func159,Tryz.ntmps159
 go_wp2_with (go_at_call 184;refine hcon.mono ?_;rintro e w' ⟨rfl,k,os,rfl⟩;have hb:=Qci w k os;generalize Go.Sort.grow (w.drewN k) os=w9 at*)
 go_ret
 exact ⟨rfl,hb⟩
def shift (s:ByteArray) (k:Nat):ByteArray:=⟨s.data.mapIdx (λi x=>if i<k then x+49 else x)⟩
theorem Ve (s:ByteArray) (k:Nat):(shift s k).size=s.size:=Array.size_mapIdx
theorem KA (s:ByteArray):shift s 0=s:=by
 unfold shift
 congr 1
 apply Array.ext
 . simp
 intro i h1 h2;simp
theorem I2 (s:ByteArray) (k i:Nat) (h:i<(shift s k).size):(shift s k)[i]=if i<k then s[i]'(by rw[Ve] at h;exact h)+49 else s[i]'(by rw[Ve] at h;exact h):=by
 have h1:i<(s.data.mapIdx (λi x=>if i<k then x+49 else x)).size:=h;exact (Array.getElem_mapIdx h1)
theorem Qhl (x:UInt8):((x+49).toNat:Int)=IntKind.u8.wrap ((x.toNat:Int)+49):=by
 have h49:(49:UInt8).toNat=49:=rfl;rw[IntKind.wrap_u8,UInt8.toNat_add,h49];omega
theorem SU (x:UInt8):IntKind.u8.wrap (IntKind.u8.wrap ((x.toNat:Int)-48)+97)=IntKind.u8.wrap ((x.toNat:Int)+49):=by
 rw[IntKind.wrap_u8,IntKind.wrap_u8,IntKind.wrap_u8];omega
theorem BV {w:World} {g:Nat} {s:ByteArray} {k:Nat} (h:Lib.Bytes w g 0 (shift s k)) (hk:k<s.size) (v:Int) (hv:v=IntKind.u8.wrap ((s[k].toNat:Int)+49)):Lib.Bytes (w.setCell ⟨g,k,none⟩ (.int .u8 v)) g 0 (shift s (k+1)):=by
 intro i hi;rw[I2];have hi':i<s.size:=by rw[Ve] at hi;exact hi
 have h0:=h i (by rw[Ve];exact hi');rw[I2] at h0;rw[Nat.zero_add] at h0⊢;by_cases e:i=k
 . subst e;rw[World.cell?_setCell_same _ _ _ h0,if_pos (Nat.lt_succ_self _),Qhl,hv]
 rw[World.cell?_setCell_other _ _ _ _ (λh1:(⟨g,k,none⟩:Addr)=⟨g,i,none⟩=>e (by injection h1 with _ h2 _;exact h2.symm)),h0]
 congr 3
 by_cases hlt:i<k
 . rw[if_pos hlt,if_pos (by omega)]
 rw[if_neg hlt,if_neg (by omega)]
theorem Ov (w:World) (s:ByteArray):Lib.Bytes (Lib.bytesWorld w 5 s) w.heap.size 0 (shift s 0):=by
 rw[KA];intro i hi;rw[Nat.zero_add,Lib.bytesWorld_cell w _ s i hi]
 have e:s.data.toList.getD i 0=s[i]:=by
  rw[List.getD_eq_getElem?_getD,Array.getElem?_toList,Array.getElem?_eq_getElem (show i<s.data.size from hi)];rfl
 rw[e]
theorem Mp (w:World) (e:TypeId) (s:ByteArray) (j:Nat) (hj:j<s.size):(Lib.bytesWorld w e s).frozen? ⟨w.heap.size,j,none⟩=false:=by
 have h1:=Lib.bytesWorld_at_new w e s
 have h2:s.size<=(Lib.bytesCells w e s).size:=by
  have h3:=Lib.bytesWorld_cell w e s j hj;unfold Lib.bytesCells;simp
  try omega
 simp only[World.frozen?,h1];simp;omega
noncomputable def Yt (n:Int):ByteArray:=if inR n 0 999 then shift (Z9 n) (Z9 n).size else ⟨#[]⟩
theorem BW {n:Int} (h:inR n 0 999=false):Yt n=⟨#[]⟩:=by unfold Yt;rw[h];rfl
theorem Su {n:Int} (h:inR n 0 999=true):Yt n=shift (Z9 n) (Z9 n).size:=by unfold Yt;rw[h];rfl
theorem Qfz:∀(u:Nat),u<1000->(Lib.decDigits u).length<=3:=by
 intro u hu;rw[Lib.decDigits];split
 . simp
 rw[Lib.decDigits];split
 . simp
 rw[Lib.decDigits];split
 . simp
 omega
theorem F4 {n:Int} (h:inR n 0 999=true):(Z9 n).size<=20:=by
 unfold inR at h;simp only[Bool.and_eq_true,decide_eq_true_eq] at h;have h1:=Qfz n.toNat (by omega);unfold Z9 Lib.itoa;rw[if_neg (by omega)];show (Lib.decDigits n.toNat).toArray.size<=20;simp only[List.size_toArray];omega
theorem Va {B:Nat} {w w':World} {g k:Nat} {v:Value} (h:Below B w w') (hg:B<=g):Below B w (w'.setCell ⟨g,k,none⟩ v):=
 ⟨h.os,h.tape,h.output,by rw[World.size_setCell];exact h.size,λj hj=>by
  rw[←h.block j hj];unfold World.setCell;simp only[Array.getElem?_modify];rw[if_neg (by omega)]⟩
theorem Ri {n:Nat} (h:¬n<10):Lib.decDigits n=Lib.decDigits (n / 10)++ [UInt8.ofNat (48+n % 10)]:=by rw[Lib.decDigits,dif_neg h]
theorem Fn {n:Nat} (h:n<10):Lib.decDigits n= [UInt8.ofNat (48+n)]:=by rw[Lib.decDigits,dif_pos h]
def Ow (n:Nat):List UInt8:=if n=0 then [] else Lib.decDigits n
theorem SV {n:Nat} (h:n≠0) (t:List UInt8):Ow (n / 10)++(UInt8.ofNat (48+n % 10)::t)=Ow n++t:=by
 unfold Ow;rw[if_neg h];by_cases h10:n<10
 . rw[if_pos (by omega),Fn h10,show n % 10=n by omega];rfl
 rw[if_neg (by omega),Ri h10];simp
theorem Qck (d:Nat) (hd:d<10) (s:ByteArray):(⟨#[UInt8.ofNat (48+d)]⟩:ByteArray)++s=⟨(UInt8.ofNat (48+d)::s.data.toList).toArray⟩:=by
 apply ByteArray.ext;rw[ByteArray.data_append];apply Array.toList_inj.1;simp
set_option maxRecDepth 20000 in
theorem YF (w:World) (n:Int) (hn:I64 n) (hr:inR n 0 999=true):Calls Tryz.prog 147 #[.int .i64 n] w (Ret w (.string (Z9 n))):=by
 unfold inR at hr;simp only[Bool.and_eq_true,decide_eq_true_eq] at hr;obtain ⟨m,rfl⟩:∃m:Nat,n=m:=⟨n.toNat,by omega⟩;have hm:m<1000:=by omega
 clear hr hn
 have hnum:Z9 (m:Int)=⟨(Lib.decDigits m).toArray⟩:=by
  unfold Z9 Lib.itoa;rw[if_neg (by omega)];rfl
 generalize Z9 (m:Int)=res at*;have HRES:=Lib.hid hnum;clear hnum;by_cases h0:m=0
 . subst h0;have hr:res=⟨#[48]⟩:=by rw[HRES.out,Fn (by omega)];rfl
   subst hr;clear HRES;go_enter Tryz.func147,Tryz.ntmps147
   go_wp2
   go_ret
   exact ⟨rfl,Below.refl _ _⟩
 have hm0:¬((m:Int)=0):=by omega
 have hm1:¬((m:Int)<0):=by omega
 go_enter Tryz.func147,Tryz.ntmps147
 go_wp2
 go_loopw [0,4] (λi s wr=>∃(k:Nat) (t:ByteArray),k<1000/\i= .int .i64 k/\s= .string t/\t.size<=1000-k/\Below w.heap.size w wr/\Hid (Ow k++t.data.toList=Lib.decDigits m)) (λi _ _=>(intOf i).toNat)
 case atStart=>exact ⟨m,⟨#[]⟩,hm,rfl,rfl,by simp[ByteArray.size],Below.refl _ _,Lib.hid (by unfold Ow;rw[if_neg h0];simp)⟩
 case round=>
  obtain ⟨k,t,hk,rfl,rfl,hts,hB,hd⟩:=hrel;by_cases hk0:k=0
  . subst hk0
    have hrt:res=t:=by
     have h1:=hd.out;unfold Ow at h1;rw[if_pos rfl,List.nil_append] at h1;rw[HRES.out,←h1]
    subst hrt;clear HRES hd;go_wp2
    go_ret
    exact ⟨rfl,hB⟩
  have hk1:¬((k:Int)=0):=by omega
  have hd10:k % 10<10:=Nat.mod_lt _ (by decide);have hd0:¬((k:Int) % 10<0):=by omega
  have hcv:∀g:World,(convert 123 9 (.slice (some ⟨g.heap.size,0,none⟩) 1 1)).run Tryz.prog (g.alloc (.cells #[.int .u8 (48+(k:Int) % 10)] 5))= .ok (.string ⟨#[UInt8.ofNat (48+k % 10)]⟩) (g.alloc (.cells #[.int .u8 (48+(k:Int) % 10)] 5)):=λg=>by
   have h:=Lib.run_convert_whole (P:=Tryz.prog) (g.alloc (.cells #[.int .u8 (48+(k:Int) % 10)] 5)) 123 5 9 Tryz.underlying123 Tryz.underlying5 Tryz.underlying9 g.heap.size 0 ⟨#[UInt8.ofNat (48+k % 10)]⟩ (λi hi=>by
    have hi0:i=0:=by have:i<1:=hi;omega
    subst hi0;have he:(48+(k:Int) % 10)=((UInt8.ofNat (48+k % 10)).toNat:Int):=by rw[UInt8.toNat_ofNat'];omega
    show (g.alloc _).cell? ⟨g.heap.size,0+0,none⟩=some (.int .u8 ((UInt8.ofNat (48+k % 10)).toNat:Int));rw[←he];simp[go_sem]) 1
   exact h
  go_wp2_with (go_at_call 175;have hfg:=(λw1=>Qcj w1 (k % 10) hd10);rw[show (((k % 10:Nat)):Int)=(k:Int) % 10 by omega] at hfg;refine Xr (w:=w) (hfg _) (by go_grown) ?_;clear hfg;intro g1 hG1 hb hz1 hz2;clear hb)
  go_roundw
  case rel=>exact ⟨k / 10,⟨#[UInt8.ofNat (48+k % 10)]⟩++t,by omega,by first | rfl | go_num,by rw[UInt8.ofNat_add];rfl,by rw[ByteArray.size_append];have:(⟨#[UInt8.ofNat (48+k % 10)]⟩:ByteArray).size=1:=rfl;omega,by go_grown,Lib.hid (by rw[Qck _ hd10];show Ow (k / 10)++(UInt8.ofNat (48+k % 10)::t.data.toList)=_;rw[SV hk0];exact hd.out)⟩
  case measure=>simp[intOf];omega
set_option maxRecDepth 20000 in
set_option maxHeartbeats 2000000 in
theorem BX (w:World) (n:Int) (hn:I64 n) (ht:tabOk w):Calls Tryz.prog 120 #[.int .i64 n] w (Ret w (.string (Yt n))):=by
 have HN:=Lib.hid hn;clear hn;have HT:=Lib.hid ht;clear ht;have he:inR n 0 999=false->Yt n=⟨#[]⟩:=BW;have he2:inR n 0 999=true->Yt n=shift (Z9 n) (Z9 n).size:=Su;generalize Yt n=res at*;cases h:inR n 0 999
 . obtain rfl:=he h;have HR:=Lib.hid h;clear h he he2;go_enter Tryz.func120,Tryz.ntmps120
   go_wp2_with (first | (go_at_call 115;refine Xr (w:=w) (F3 _ n 0 999 false HR.out) (by go_grown) ?_;intro g1 hG1 hb hz1 hz2;clear hb hz2))
   go_ret
   exact ⟨rfl,by go_grown⟩
 have HR:=Lib.hid h;clear h;have hres:=he2 HR.out;clear he he2;generalize hs:Z9 n=s at*;have hsz:s.size<=20:=by rw[←hs];exact F4 HR.out
 have HS:=Lib.hid hs;clear hs;have HRES:=Lib.hid hres;clear hres;go_enter Tryz.func120,Tryz.ntmps120
 have hconv:∀w,(convert 9 123 (.string s)).run Tryz.prog w= .ok (.slice (some ⟨w.heap.size,0,none⟩) s.size (grownCap w s.size 0 5)) (Lib.bytesWorld w 5 s):=λw=>Lib.run_convert_string_bytes w 9 123 5 s Tryz.underlying9 Tryz.underlying123 Tryz.underlying5
 go_wp2_with (first | (go_at_call 115;refine Xr (w:=w) (F3 _ n 0 999 true HR.out) (by go_grown) ?_;intro g1 hG1 hb hz1 hz2;clear hb hz2) | (go_at_call 159;have hcon:=(λw1 h=>Fm w1 n HN.out h);rw[HS.out] at hcon;refine Xr (w:=w) (hcon _ (HT.out.keep (by go_grown))) (by go_grown) ?_;clear hcon;intro g2 hG2 hb2 hz3 hz4;clear hb2 hz4;have HG2:=Lib.hid hG2))
 clear hconv;have hB3:=(Lib.hid (Below.trans HG2.out (Go.Joins.below_bytesWorld w.heap.size g2 5 s (by omega))));have hs3:=Lib.bytesWorld_size g2 5 s;have HST:=Lib.hid (Ov g2 s);have HFZ:=Lib.hid (Mp g2 5 s);generalize hcap:grownCap g2 s.size 0 5=cap;clear hcap;generalize hw3:Lib.bytesWorld g2 5 s=w3 at*;clear hw3;go_loopw [13] (λi wr=>∃k:Nat,k<=s.size/\i= .int .i64 k/\Below w.heap.size w wr/\g2.heap.size<wr.heap.size/\Hid (Lib.Bytes wr g2.heap.size 0 (shift s k))/\Hid (∀j,j<s.size->wr.frozen? ⟨g2.heap.size,j,none⟩=false)) (λi _=>s.size-(intOf i).toNat)
 case atStart=>exact ⟨0,Nat.zero_le _,rfl,hB3.out,by omega,HST,HFZ⟩
 case round=>
  clear hB3 HST HFZ hs3;obtain ⟨k,hk,rfl,hB,hlt,hby,hfz⟩:=hrel;by_cases hkl:k<s.size
  . have hc:=hby.out k (by rw[Ve];exact hkl);rw[I2,if_neg (Nat.lt_irrefl _),Nat.zero_add] at hc;have hf:=hfz.out k hkl;have hx:∃x,s[k]=x:=⟨_,rfl⟩;obtain ⟨x,hx⟩:=hx;rw[hx] at hc;have HX:=Lib.hid hx;clear hx;have hv:=SU x;go_wp2
    go_roundw
    case rel=>exact ⟨k+1,by omega,by go_num,Va hB (by omega),by rw[World.size_setCell];exact hlt,Lib.hid (BV hby.out hkl _ (by first | (rw[HX.out,IntKind.wrap_u8];done) | (rw[HX.out,IntKind.wrap_u8];omega))),Lib.hid (λj hj=>by rw[World.frozen?_setCell];exact hfz.out j hj)⟩
    case measure=>simp[intOf];omega
  obtain rfl:k=s.size:=by omega
  obtain rfl:=HRES.out;have hcv:=Lib.run_convert_whole (P:=Tryz.prog) wr 123 5 9 Tryz.underlying123 Tryz.underlying5 Tryz.underlying9 g2.heap.size 0 (shift s s.size) hby.out;rw[Ve] at hcv;go_wp2
  go_ret
  exact ⟨rfl,hB⟩
set_option maxRecDepth 20000 in
set_option maxHeartbeats 2000000 in
theorem Mq (w:World) (n:Int) (hn:I64 n):Calls Tryz.prog 96 #[.int .i64 n] w (Ret w (.string (Yt n))):=by
 have HN:=Lib.hid hn;clear hn;have he:inR n 0 999=false->Yt n=⟨#[]⟩:=BW;have he2:inR n 0 999=true->Yt n=shift (Z9 n) (Z9 n).size:=Su;generalize Yt n=res at*;cases h:inR n 0 999
 . obtain rfl:=he h;have HR:=Lib.hid h;clear h he he2;go_enter Tryz.func96,Tryz.ntmps96
   go_wp2_with (first | (go_at_call 53;refine Xr (w:=w) (Gl _ n 0 999 false HR.out) (by go_grown) ?_;intro g1 hG1 hb hz1 hz2;clear hb hz2))
   go_ret
   exact ⟨rfl,by go_grown⟩
 have HR:=Lib.hid h;clear h;have hres:=he2 HR.out;clear he he2;generalize hs:Z9 n=s at*;have hsz:s.size<=20:=by rw[←hs];exact F4 HR.out
 have HS:=Lib.hid hs;clear hs;have HRES:=Lib.hid hres;clear hres;go_enter Tryz.func96,Tryz.ntmps96
 have hconv:∀w,(convert 9 123 (.string s)).run Tryz.prog w= .ok (.slice (some ⟨w.heap.size,0,none⟩) s.size (grownCap w s.size 0 5)) (Lib.bytesWorld w 5 s):=λw=>Lib.run_convert_string_bytes w 9 123 5 s Tryz.underlying9 Tryz.underlying123 Tryz.underlying5
 go_wp2_with (first | (go_at_call 53;refine Xr (w:=w) (Gl _ n 0 999 true HR.out) (by go_grown) ?_;intro g1 hG1 hb hz1 hz2;clear hb hz2) | (go_at_call 147;have hcon:=(λw1=>YF w1 n HN.out HR.out);rw[HS.out] at hcon;refine Xr (w:=w) (hcon _) (by go_grown) ?_;clear hcon;intro g2 hG2 hb2 hz3 hz4;clear hb2 hz4;have HG2:=Lib.hid hG2))
 clear hconv;have hB3:=(Lib.hid (Below.trans HG2.out (Go.Joins.below_bytesWorld w.heap.size g2 5 s (by omega))));have hs3:=Lib.bytesWorld_size g2 5 s;have HST:=Lib.hid (Ov g2 s);have HFZ:=Lib.hid (Mp g2 5 s);generalize hcap:grownCap g2 s.size 0 5=cap;clear hcap;generalize hw3:Lib.bytesWorld g2 5 s=w3 at*;clear hw3;go_loopw [4] (λi wr=>∃k:Nat,k<=s.size/\i= .int .i64 k/\Below w.heap.size w wr/\g2.heap.size<wr.heap.size/\Hid (Lib.Bytes wr g2.heap.size 0 (shift s k))/\Hid (∀j,j<s.size->wr.frozen? ⟨g2.heap.size,j,none⟩=false)) (λi _=>s.size-(intOf i).toNat)
 case atStart=>exact ⟨0,Nat.zero_le _,rfl,hB3.out,by omega,HST,HFZ⟩
 case round=>
  clear hB3 HST HFZ hs3;obtain ⟨k,hk,rfl,hB,hlt,hby,hfz⟩:=hrel;by_cases hkl:k<s.size
  . have hc:=hby.out k (by rw[Ve];exact hkl);rw[I2,if_neg (Nat.lt_irrefl _),Nat.zero_add] at hc;have hf:=hfz.out k hkl;have hx:∃x,s[k]=x:=⟨_,rfl⟩;obtain ⟨x,hx⟩:=hx;rw[hx] at hc;have HX:=Lib.hid hx;clear hx;have hv:=SU x;go_wp2
    go_roundw
    case rel=>exact ⟨k+1,by omega,by go_num,Va hB (by omega),by rw[World.size_setCell];exact hlt,Lib.hid (BV hby.out hkl _ (by first | (rw[HX.out,IntKind.wrap_u8];done) | (rw[HX.out,IntKind.wrap_u8];omega))),Lib.hid (λj hj=>by rw[World.frozen?_setCell];exact hfz.out j hj)⟩
    case measure=>simp[intOf];omega
  obtain rfl:k=s.size:=by omega
  obtain rfl:=HRES.out;have hcv:=Lib.run_convert_whole (P:=Tryz.prog) wr 123 5 9 Tryz.underlying123 Tryz.underlying5 Tryz.underlying9 g2.heap.size 0 (shift s s.size) hby.out;rw[Ve] at hcv;go_wp2
  go_ret
  exact ⟨rfl,hB⟩
end
section
open Go.RowKit
open GoD (rd own)
theorem Qd4 {α : Type} [GoD α] {a b : α} (h : ¬ a = b) : eqb a b = false := by
  unfold eqb
  exact @decide_eq_false _ (_) h
theorem N2 (r : List UInt8) : ∀ (l : List UInt8) (acc : Nat), Lib.decFrom acc (l ++ r) = (Lib.decFrom acc l).bind (λa => Lib.decFrom a r)
  | [], acc => rfl
  | b :: l, acc => by
    simp only [List.cons_append, Lib.decFrom]
    cases Lib.digitVal b with
    | none => rfl
    | some d => exact N2 r l _
theorem YG (d : Nat) (h : d < 10) : Lib.digitVal (UInt8.ofNat (48 + d)) = some d := by
  have h1 : (UInt8.ofNat (48 + d)).toNat = 48 + d := by rw [UInt8.toNat_ofNat']; omega
  unfold Lib.digitVal
  rw [h1, if_pos (by omega)]
  congr 1
  omega
theorem ZF : ∀ n : Nat, Lib.decFrom 0 (Lib.decDigits n) = some n := by
  intro n
  induction n using Nat.strongRecOn with
  | ind n ih =>
    by_cases h : n < 10
    · rw [Fn h]
      simp only [Lib.decFrom, YG n h]
      simp
    rw [Ri h, N2, ih (n / 10) (by omega)]
    simp only [Option.bind_some, Lib.decFrom, YG (n % 10) (Nat.mod_lt _ (by decide))]
    congr 1
    omega
theorem KB : ∀ n : Nat, ∀ b, b ∈ Lib.decDigits n → 48 ≤ b.toNat ∧ b.toNat ≤ 57 := by
  intro n
  induction n using Nat.strongRecOn with
  | ind n ih =>
    intro b hb
    by_cases h : n < 10
    · rw [Fn h] at hb
      have e := List.mem_singleton.1 hb
      rw [e, UInt8.toNat_ofNat']
      omega
    rw [Ri h] at hb
    rcases List.mem_append.1 hb with hb | hb
    · exact ih (n / 10) (by omega) b hb
    have e := List.mem_singleton.1 hb
    rw [e, UInt8.toNat_ofNat']
    omega
theorem SW (n : Nat) : Lib.decDigits n ≠ [] := by
  by_cases h : n < 10
  · rw [Fn h]; simp
  rw [Ri h]; simp
theorem I3 (n : Nat) : Lib.atoi (Lib.decDigits n) = some (n : Int) := by
  have h1 := ZF n
  have h2 := KB n
  have h3 := SW n
  generalize Lib.decDigits n = l at *
  cases l with
  | nil => exact absurd rfl h3
  | cons b r =>
    have hb := h2 b (by simp)
    have e45 : (b == 45) = false := by
      rw [beq_eq_false_iff_ne]
      intro e
      rw [e] at hb
      exact absurd hb.1 (by decide)
    have e43 : (b == 43) = false := by
      rw [beq_eq_false_iff_ne]
      intro e
      rw [e] at hb
      exact absurd hb.1 (by decide)
    simp only [Lib.atoi, e45, e43, Lib.decNat, List.isEmpty_cons, h1]
    rfl
theorem Sv : ∀ (k n : Nat), n < 10 ^ (k + 1) → (Lib.decDigits n).length ≤ k + 1
  | 0, n, h => by rw [Fn (by simpa using h)]; simp
  | k + 1, n, h => by
    by_cases h10 : n < 10
    · rw [Fn h10]; simp
    have := Sv k (n / 10) (by rw [Nat.pow_succ] at h; omega)
    rw [Ri h10, List.length_append]
    simp only [List.length_singleton]
    omega
theorem I4 (n : Nat) : Z9 (n : Int) = ⟨(Lib.decDigits n).toArray⟩ := by
  unfold Z9 Lib.itoa
  rw [if_neg (by omega)]
  rfl
theorem D6 (n : Nat) : (Z9 (n : Int)).data.toList = Lib.decDigits n := by rw [I4]
theorem Ox {n m : Nat} (h : Z9 (n : Int) = Z9 (m : Int)) : n = m := by
  have h1 := I3 n
  have h2 := I3 m
  rw [← D6, h, D6, h2] at h1
  have := Option.some.inj h1
  omega
noncomputable def G6 (s : ByteArray) : Option Nat := @dite _ (∃ n : Nat, n ≤ 1000000000 ∧ Z9 (n : Int) = s) (Classical.propDecidable _) (λh => some h.choose) (λ_ => none)
theorem KC {s : ByteArray} {n : Nat} (h : n ≤ 1000000000) (e : Z9 (n : Int) = s) : G6 s = some n := by
  have hex : ∃ n : Nat, n ≤ 1000000000 ∧ Z9 (n : Int) = s := ⟨n, h, e⟩
  unfold G6
  rw [dif_pos hex]
  congr 1
  exact Ox (hex.choose_spec.2.trans e.symm)
theorem Rj {s : ByteArray} (h : ∀ n : Nat, n ≤ 1000000000 → Z9 (n : Int) ≠ s) : G6 s = none := by
  unfold G6
  rw [dif_neg (λ⟨n, h1, h2⟩ => h n h1 h2)]
def Qcl : Option Nat → Value
  | some n => .tuple #[.int .i64 n,.bool true]
  | none => .tuple #[.int .i64 0,.bool false]
def errOk (w : World) : Prop := ∃ tp p, w.var? Tryz.prog "strconv.ErrSyntax" = some #[.iface tp p]
theorem Qih : Tryz.prog.globalNamed "strconv.ErrSyntax" = some 0 := by kernel_rfl
theorem errOk.keep {w w' : World} (h : errOk w) (hb : Below w.heap.size w w') : errOk w' := by
  obtain ⟨tp, p, h⟩ := h
  exact ⟨tp, p, Go.Joins.var_stays Qih h hb (Nat.le_refl _)⟩
set_option maxRecDepth 20000 in
theorem Fo (w : World) (s : ByteArray) (hs : s.size ≤ maxLen) (ht : tabOk w) (he : errOk w) : Calls Tryz.prog 160 #[.string s] w (Ret w (Qcl (G6 s))) := by
  unfold maxLen at hs
  have HT := Lib.hid ht; clear ht
  have HE := Lib.hid he; clear he
  by_cases hlen : 10 < s.size
  · have hno : G6 s = none := Rj λn hn e => by
      have h1 := Sv 9 n (by omega)
      have h2 : s.size = (Lib.decDigits n).length := by rw [← e, I4]; simp [ByteArray.size]
      omega
    rw [hno]
    clear hno
    go_enter Tryz.func160, Tryz.ntmps160
    go_wp2
    refine bodyPost_ret (v := .tuple #[.int .i64 0,.bool false]) (by simp [results, Tryz.results160, go_sem]) rfl ⟨rfl, Below.refl _ _⟩
  cases ha : Lib.atoi s.data.toList with
  | none =>
    have hno : G6 s = none := Rj λn hn e => by
      rw [← e, D6, I3] at ha
      cases ha
    rw [hno]
    clear hno
    have HA := Lib.hid ha; clear ha
    go_enter Tryz.func160, Tryz.ntmps160
    go_wp2_with (go_at_call 185; obtain ⟨tp, p, hv⟩ := HE.out; refine (Sh.strconv_Atoi_err_var s (by omega) HA.out tp p w hv).mono ?_; clear hv; rintro e1 w1 ⟨N, rfl, hN, _, hb⟩; have HB := Lib.hid hb; clear hb)
    refine bodyPost_ret (v := .tuple #[.int .i64 0,.bool false]) (by simp [results, Tryz.results160, go_sem]) rfl ⟨rfl, HB.out⟩
  | some v =>
    have hun : ∀ n : Nat, Z9 (n : Int) = s → v = (n : Int) := λn e => by
      rw [← e, D6, I3] at ha
      exact (Option.some.inj ha).symm
    have HUN := Lib.hid hun; clear hun
    have HA := Lib.hid ha; clear ha
    cases hr : inR v 0 1000000000
    · have hno : G6 s = none := Rj λn hn e => by
        have h1 := HUN.out n e
        rw [h1, Tz (by omega) (by omega)] at hr
        cases hr
      rw [hno]
      clear hno
      have HR := Lib.hid hr; clear hr
      go_enter Tryz.func160, Tryz.ntmps160
      go_wp2_with (first | (go_at_call 185; refine (Sh.strconv_Atoi s _ (by omega) HA.out w).mono ?_; rintro e1 w1 ⟨rfl, t1, hw1⟩; have hG1 : Below w.heap.size w w1 := (by rw [hw1]; exact Go.Joins.below_bytesWorld _ _ _ _ (Nat.le_refl _)); clear hw1; have hz1 := hG1.size) | (go_at_call 115; refine Xr (w := w) (F3 _ v 0 1000000000 false HR.out) (by go_grown) ?_; intro g2 hG2 hb2 hz3 hz4; clear hb2 hz4))
      refine bodyPost_ret (v := .tuple #[.int .i64 0,.bool false]) (by simp [results, Tryz.results160, go_sem]) rfl ⟨rfl, (by go_grown)⟩
    have hrn : ∃ n : Nat, v = (n : Int) ∧ n ≤ 1000000000 := by
      unfold inR at hr
      simp only [Bool.and_eq_true, decide_eq_true_eq] at hr
      exact ⟨v.toNat, by omega, by omega⟩
    obtain ⟨n, rfl, hn⟩ := hrn
    have HR := Lib.hid hr; clear hr
    have hni : I64 (n : Int) := by unfold I64; omega
    have HNI := Lib.hid hni; clear hni
    by_cases he : Z9 (n : Int) = s
    · rw [KC hn he]
      have HEQ := Lib.hid he; clear he
      go_enter Tryz.func160, Tryz.ntmps160
      go_wp2_with (first | (go_at_call 185; refine (Sh.strconv_Atoi s _ (by omega) HA.out w).mono ?_; rintro e1 w1 ⟨rfl, t1, hw1⟩; have hG1 : Below w.heap.size w w1 := (by rw [hw1]; exact Go.Joins.below_bytesWorld _ _ _ _ (Nat.le_refl _)); clear hw1; have hz1 := hG1.size) | (go_at_call 115; refine Xr (w := w) (F3 _ n 0 1000000000 true HR.out) (by go_grown) ?_; intro g2 hG2 hb2 hz3 hz4; clear hb2 hz4) | (go_at_call 159; have hcon := (λw1 h => Fm w1 n HNI.out h); rw [HEQ.out] at hcon; refine Xr (w := w) (hcon _ (HT.out.keep (by go_grown))) (by go_grown) ?_; clear hcon; intro g3 hG3 hb3 hz5 hz6; clear hb3 hz6))
      refine bodyPost_ret (v := .tuple #[.int .i64 n,.bool true]) (by simp [results, Tryz.results160, go_sem]) rfl ⟨rfl, (by go_grown)⟩
    have hno : G6 s = none := Rj λm hm e => by
      have h1 := HUN.out m e
      have h2 : n = m := by omega
      exact he (h2 ▸ e)
    rw [hno]
    clear hno
    generalize hu : Z9 (n : Int) = u at *
    have HU := Lib.hid hu; clear hu
    have hne : (u.toList == s.toList) = false := by rw [Og]; exact Qd4 he
    go_enter Tryz.func160, Tryz.ntmps160
    go_wp2_with (first | (go_at_call 185; refine (Sh.strconv_Atoi s _ (by omega) HA.out w).mono ?_; rintro e1 w1 ⟨rfl, t1, hw1⟩; have hG1 : Below w.heap.size w w1 := (by rw [hw1]; exact Go.Joins.below_bytesWorld _ _ _ _ (Nat.le_refl _)); clear hw1; have hz1 := hG1.size) | (go_at_call 115; refine Xr (w := w) (F3 _ n 0 1000000000 true HR.out) (by go_grown) ?_; intro g2 hG2 hb2 hz3 hz4; clear hb2 hz4) | (go_at_call 159; have hcon := (λw1 h => Fm w1 n HNI.out h); rw [HU.out] at hcon; refine Xr (w := w) (hcon _ (HT.out.keep (by go_grown))) (by go_grown) ?_; clear hcon; intro g3 hG3 hb3 hz5 hz6; clear hb3 hz6))
    refine bodyPost_ret (v := .tuple #[.int .i64 0,.bool false]) (by simp [results, Tryz.results160, go_sem]) rfl ⟨rfl, (by go_grown)⟩
end
end Go.Proofs.YtcfmffieckchiaaGreatDoor
