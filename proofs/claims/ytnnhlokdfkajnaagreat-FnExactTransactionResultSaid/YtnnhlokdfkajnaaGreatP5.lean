/- Texts of this proof, put together by a program: Eva, Evb, Tw, Clr, Inr, Ins, Df, Eua, Eub, Enp, Wk, Vf, Cgs, Cga, Cgb, Cgc, Vsa, Vs, Ew. -/
import Derived.Test.YtnnhlokdfkajnaaGreatP4
import Derived.KernelRfl
import Derived.Laws.Externs
import Derived.Lib.AppendZerosOnto
import Derived.Deep.RegionLaw
set_option linter.unusedVariables false
set_option linter.unusedSimpArgs false
namespace Go.Proofs.YtnnhlokdfkajnaaGreat
open _root_.And renaming intro → zH
open _root_.Array renaming length_toList → zX, getD_eq_getD_getElem? → yD, getElem?_eq_getElem → yV, toList_append → xM
open _root_.Bool renaming and_eq_true → zM, not_true → yF
open _root_.Exists renaming intro → zE
open _root_.Int renaming toNat → zZ, toNat_natCast → yW, natCast_add → xD, le_refl → xR
open _root_.List renaming length → zD, length_set → zF, replicate → zG, length_append → zJ, mem_cons_of_mem → zK, length_take → zN, take → zO, getElem?_eq_some_iff → zP, take_append_of_le_length → zQ, set → zR, take_of_length_le → zS, length_cons → zT, mem_cons_self → zU, length_map → zV, append_assoc → zW, length_drop → zY, getElem?_cons_zero → yA, drop → yB, getElem?_toArray → yC, getElem?_eq_getElem → yG, getElem?_cons_succ → yH, take_take → yI, getElem?_of_mem → yJ, mem_of_mem_drop → yM, length_flatten → yN, map_replicate → yQ, mem_singleton → yR, getElem?_drop → yS, take_left → yT, filter_append → yU, size_toArray → yZ, take_add_one → xA, map_toArray → xB, length_eq_zero_iff → xC, foldl_cons → xE, length_nil → xF, mem_of_getElem? → xH, map → xJ, getElem?_append → xK, replicate_succ → xL, map_cons → xN, map_nil → xO, getD → xP
open _root_.Nat renaming mul_le_mul_right → zL, zero_add → yE, le_refl → yK, one_mul → yL, beq → yO, min → yP, zero_le → yX, add_mul → yY, eq_of_beq_eq_true → xG, min_def → xI, sub_mul → xQ
section
open Go.RowKit
open GoE (enc wide)
def L9 (_:Nat) (a0:Yc) (s0:Z):Rd Z Z Z:=(.next (s0++ [a0.1]))
def Ma (_:Nat) (s0:Z):Z:=s0
def Yv (d:List Yc):Z:=(Out.on (X7 L9 Ma d 0 []) (λy0=>y0))
theorem Gy (d:List Yc):ACalls Tryz.prog 169 [.h d] (.o 0 (Yv d)):=by
 refine en Qa Tryz.func169 λw0 F0 hG=> ?_
 refine sn Qa [0,2] [] p0 <| tn Qa [0,2,3] [] p0 <| Qc <| tu Qa [(2,.e 0),(3,.one (.slc (.own true 384) 1 [])),(7,.h d),(8,.i (d.length:Int)),(9,.i 0)] [0] [] [] (pl 1 d p0) <| wT 7 0 .sh d (λhw1 hl2=> ?_)
 refine ZQ L9 Ma d [] (λk0 s0=> [(3,.o 147201 s0),(9,.i (k0:Int))]) [3,9] (λy0=> [(3,.o 147351 y0)]) [3,7,8,9] (λk0 s0=>zD s0<=k0) (X4 [(384,147201)] (by kernel_rfl)) (by simp) (λk0 s0 hk0 U=> ?_) (λk0 s0 hk0 U=> ?_) (λy0 hD0=> ?_)
 ·have hA0_0:=U.2;obtain ⟨a0,V⟩:=Xs (l:=d) (i:=k0) hk0;refine sn Qa [2,3,7,8,9,10] [] (pe 0 (zB ((k0:Int)<(d.length:Int))) p0) <| Qc <| ckT <| Qe <| Qc <| Qt <| tn Qa [2,3,5,7,8,9] [5] (pn 0 V p0) <| wT 3 0 (.own true 147201) s0 (λhw3 hl4=> ?_)
  refine qu Qa [(3,.one (.slc (.own true 1088) 1 ((eL s0)++ [[.s a0.1]])))] [3] [] [] (pa s0 [a0.1] p0) ?_;refine eqn [(3,.o 1088 (s0++ [a0.1]))] [3] [] [] (by rw[show ((eL s0)++ [[.s a0.1]])=(eL (s0++ [a0.1])) from We (rfl) (rfl)];first | done | kernel_rfl) ?_;refine rn Qa [2,3,7,8,9] [] (pe 0 (J6 (Ql k0 (by omega))) p0) ?_;exact zE (s0++ [a0.1]) (zH (X4 [(1088,147201)] (by kernel_rfl)) ⟨Qp V (rfl) U.1,by first|omega|(simp;omega) | simp⟩)
 ·have hA0_0:=U.2;exact sn Qa [2,3,7,8,9,10] [] (pe 0 (zC ((k0:Int)<(d.length:Int))) p0) <| Qc <| ckF <| Q9 <| zE _ (zH (X4 [(147201,147351)] (by kernel_rfl)) (Xt hk0 (rfl) U.1))
 exact sn Qa [2] [] p0 <| Qh <| po0 [] (Uc hD0 (rfl))
def Up (v:ByteArray) (k0:Nat) (a0:ByteArray) (_:Unit):Rd (Int) (Unit) (Unit):=(bif (v.toList==a0.toList) then (.ret (k0:Int)) else (.next ()))
def Aq (_:Nat) (_:Unit):Unit:=()
def B6 (s_:Z) (v:ByteArray):Int:=(Out.on (X7 (Up v) Aq s_ 0 ()) (λ_=> -1))
theorem Sc (s_:Z) (v:ByteArray):ACalls Tryz.prog 231 [.h s_,.s v] (.i (B6 s_ v)):=by
 refine en Qa Tryz.func231 λw0 F0 hG=> ?_
 refine sn Qa [0,1,4] [] p0 <| Qc <| tn Qa [0,1,4,7,8] [] (pl 1 s_ p0) <| mz [(4,.i 0),(7,.i (s_.length:Int)),(8,.i 0)] [] [] [] <| wT 0 0 .sh s_ (λhw1 hl2=> ?_)
 refine Pa (Up v) Aq s_ () (λk0 _=> [(8,.i (k0:Int))]) [8] (λ_=> []) [0,1,7,8] wf0 (λk0 s0 hk0 U=> ?_) (λk0 s0 hk0 U=> ?_) (λy0 hD0=> ?_)
 ·obtain ⟨a0,V⟩:=Xs (l:=s_) (i:=k0) hk0;refine sn Qa [0,1,4,7,8,9] [] (pe 0 (zB ((k0:Int)<(s_.length:Int))) p0) <| Qc <| ckT <| Qe <| Qc <| Qt <| tn Qa [0,1,4,5,7,8] [] p0 <| tu Qa [(5,.i (k0:Int)),(16,.b (v.toList==a0.toList))] [] [] [] (pn 3 V p0) <| ck (v.toList==a0.toList) (λh3=> ?_) (λh3=> ?_)
  ·refine sn Qa [0,1,4,7,8] [] p0 <| Qh ?_
   have hr4:(X7 (Up v) Aq s_ 0 ())= .ret (k0:Int):=Jr V (Xm h3 (rfl)) U;exact pi [] (Nk hr4)
  refine Qe <| rn Qa [0,1,4,7,8] [] (pe 0 (J6 (Ql k0 (by omega))) p0) ?_
  exact xw _ (Qp V (Qn h3 (rfl)) U)
 ·exact sn Qa [0,1,4,7,8,9] [] (pe 0 (zC ((k0:Int)<(s_.length:Int))) p0) <| Qc <| ckF <| Q9 <| xw _ (Xt hk0 (rfl) U)
 exact sn Qa [4] [] p0 <| Qh <| pi [] (Uc hD0 (rfl))
def Qu (s_:Z) (v:ByteArray):Bool:=decide ((B6 s_ v)>=(0:Int))
theorem Wq (s_:Z) (v:ByteArray):ACalls Tryz.prog 192 [.h s_,.s v] (.b (Qu s_ v)):=by
 refine en Qa Tryz.func192 λw0 F0 hG=> ?_
 exact sn Qa [0,1,4] [] p0 <| tn Qa [4] [] (pc 2 (Sc s_ v) p0) <| Qh <| pb [] (show Qu s_ v=decide ((B6 s_ v)>=(0:Int)) from rfl)
def Ai (x:List Int) (k0:Nat) (s0:Int):Rd (Int) (Int) (Int):=(.next (max s0 (nth x (k0+1))))
def D3 (_:Nat) (s0:Int):Int:=s0
def I4 (x:List Int):Int:=(Out.on (U1 (Ai x) D3 (x.length-1) 0 (nth x 0)) (λy0=>y0))
theorem WD (x:List Int) (hp:0<x.length):ACalls Tryz.prog 251 [.h x] (.i (I4 x)):=by
 refine en Qa Tryz.func251 λw0 F0 hG=> ?_
 refine sn Qa [0,2] [] p0 <| Qc <| tn Qa [0,2,7] [] (pl 1 x (pe 2 (show .b (decide ((x.length:Int)<(1:Int)))= .b false from Qm (decide_eq_false (by omega))) p0)) <| ckF <| Qe <| wT 0 0 .sh x (λhw2 hl3=> ?_)
 have hx1:=ng x 0;refine tu Qa [(2,.i 0),(3,.i (nth x 0))] [] [] [] (pg 1 0 hx1 p0) <| Qc <| sn Qa [0,2,3,4] [] p0 <| mz [(4,.i 1)] [] [] [] <| Ql7 (Ai x) D3 (x.length-1) (nth x 0) (λk0 s0=> [(3,.i s0),(4,.i ((k0+1:Nat):Int))]) [3,4] (λy0=> [(3,.i y0)]) [0,3,4] wf0 (λk0 s0 hk0 U=> ?_) (λk0 s0 hk0 U=> ?_) (λy0 hD0=> ?_)
 ·refine Qc <| sn Qa [0,2,3,4,15] [] (pl 2 x (pe 3 (zB (((k0+1:Nat):Int)<(x.length:Int))) p0)) <| ckT <| Qe <| Qc <| Qt ?_
  have hx4:=ng x (k0+1);refine qn Qa [0,2,3,4] [] (pg 3 ((k0+1:Nat):Int) hx4 p0) ?_;refine qu Qa [(3,.i (max s0 (nth x (k0+1)))),(4,.i ((k0+2:Nat):Int))] [3,4] [] [] (pe 1 (show .i (IntKind.i64.wrap (((k0+1:Nat):Int)+1))= .i ((k0+2:Nat):Int) from J6 ((IntWalk.i64_in _ (by omega)).trans (by omega))) p0) ?_;exact xw _ (Wf hk0 (rfl) U)
 ·exact Qc <| sn Qa [0,2,3,4,15] [] (pl 2 x (pe 3 (zC (((k0+1:Nat):Int)<(x.length:Int))) p0)) <| ckF <| Q9 <| xw _ (Cx hk0 (rfl) U)
 exact sn Qa [2] [] p0 <| Qh <| pi [] (Uc hD0 (rfl))
def Vz (d:List Yc):Int:=(bif ((!(((Qq d)).2))|| (((((Qq d)).1).length:Int)==(0:Int))) then-1 else (I4 (((Qq d)).1)))
theorem Pd (d:List Yc):ACalls Tryz.prog 215 [.h d] (.i (Vz d)):=by
 refine en Qa Tryz.func215 λw0 F0 hG=> ?_
 refine sn Qa [0,2] [] p0 <| tn Qa [2,3,4] [] (pc 1 (Rc d) p0) <| Qc <| Qc <| mz [(2,.i 0),(3,.o 448 (((Qq d)).1)),(4,.b (((Qq d)).2))] [0] [] [] <| jn [(16,.b ((!(((Qq d)).2))|| (((((Qq d)).1).length:Int)==(0:Int))))] [4] [] [] (!(((Qq d)).2)) (λh1=> ?_) (λh1=> ?_) ?_
 ·have h1n:(((Qq d)).2)=false:=Vp h1;refine rn Qa [2,3,16] [] (pf 0 h1n (pe 1 (show .b (!false)= .b true from rfl) p0)) ?_;exact zA (by rw[h1]<;>kernel_rfl)
 ·have h1n:(((Qq d)).2)=true:=Zc h1;refine rn Qa [2,3,16] [] (pt 0 h1n (pe 1 (show .b (!true)= .b false from rfl) (pl 4 (((Qq d)).1) p0))) ?_;exact zA (by rw[h1]<;>kernel_rfl)
 refine ck ((!(((Qq d)).2))|| (((((Qq d)).1).length:Int)==(0:Int))) (λh2=> ?_) (λh2=> ?_)
 ·exact sn Qa [2,3] [] p0 <| Qh <| pi [] (Xm h2 (rfl))
 have h2l:((!(((Qq d)).2)))=false:=Rw h2;have h2ln:(((Qq d)).2)=true:=Zc h2l;have h2r:((((((Qq d)).1).length:Int)==(0:Int)))=false:=Pr h2;have h2rd:=Z7 h2r;exact Qe <| sn Qa [2] [] (pc 1 (WD (((Qq d)).1) (by first|omega|(simp_all;omega))) p0) <| Qh <| pi [] (Qn h2 (rfl))
def Ar (s2_:List Int) (k0:Nat) (a0:Int) (_:Unit):Rd (Bool) (Unit) (Unit):=(bif (a0 !=(nth s2_ k0)) then (.ret false) else (.next ()))
def B7 (_:Nat) (_:Unit):Unit:=()
def Kw (s1_:List Int) (s2_:List Int):Bool:=(bif ((s1_.length:Int) !=(s2_.length:Int)) then false else (Out.on (X7 (Ar s2_) B7 s1_ 0 ()) (λ_=>true)))
theorem Nt (s1_:List Int) (s2_:List Int):ACalls Tryz.prog 172 [.h s1_,.h s2_] (.b (Kw s1_ s2_)):=by
 refine en Qa Tryz.func172 λw0 F0 hG=> ?_
 refine sn Qa [0,1,4] [] p0 <| Qc <| tn Qa [0,1,4,10] [] (pl 1 s1_ (pl 3 s2_ p0)) <| ck ((s1_.length:Int) !=(s2_.length:Int)) (λh1=> ?_) (λh1=> ?_)
 ·exact tu Qa [(4,.b false)] [] [] [] p0 <| Qh <| pb [] (Xm h1 (rfl))
 have h1d:=U8 h1;refine Qe <| Qc <| tu Qa [(4,.b false),(12,.i (s1_.length:Int)),(13,.i 0)] [] [] [] (pl 1 s1_ p0) <| wT 0 0 .sh s1_ (λhw2 hl3=> ?_)
 refine Pa (Ar s2_) B7 s1_ () (λk0 _=> [(13,.i (k0:Int))]) [13] (λ_=> []) [0,1,12,13] wf0 (λk0 s0 hk0 U=> ?_) (λk0 s0 hk0 U=> ?_) (λy0 hD0=> ?_)
 ·obtain ⟨a0,V⟩:=Xs (l:=s1_) (i:=k0) hk0;refine su Qa [(14,.b true)] [] [] [] (pe 0 (zB ((k0:Int)<(s1_.length:Int))) p0) <| Qc <| ckT <| Qe <| Qc <| Qt <| sn Qa [0,1,4,5,12,13] [] p0 <| wT 1 0 .sh s2_ (λhw5 hl6=> ?_)
  have hx4:=ng s2_ k0;refine tN Qa Zt [0,1,4,12,13,24] [] (pn 2 V (pn 6 hx4 p0)) <| ck (a0 !=(nth s2_ k0)) (λh7=> ?_) (λh7=> ?_)
  ·refine tu Qa [] [14] [] [] p0 <| Qh ?_
   have hr8:(X7 (Ar s2_) B7 s1_ 0 ())= .ret false:=Jr V (Xm h7 (rfl)) U;exact pb [] (Qn h1 (Nk hr8))
  have h7d:=U8 h7;refine Qe <| qu Qa [(13,.i ((k0+1:Nat):Int))] [13,14] [] [] (pe 0 (J6 (Ql k0 (by omega))) p0) ?_
  exact xw _ (Qp V (Qn h7 (rfl)) U)
 ·exact sn Qa [0,1,4,12,13,14] [] (pe 0 (zC ((k0:Int)<(s1_.length:Int))) p0) <| Qc <| ckF <| Q9 <| xw _ (Xt hk0 (rfl) U)
 exact sn Qa [4] [] p0 <| Qh <| pb [] (Qn h1 (Uc hD0 (rfl)))
def Kx (r:List Qj) (names:Z) (_:Nat) (a0:Yc) (s0:List Qj):Rd ((List Qj)×Int×Bool) (List Qj) (List Qj):=(bif (!(Qu names a0.1)) then (.next (s0++ [(a0.1,(Xl r a0.1))])) else (.next (s0++ [((a0.1, []):Qj)])))
def V6 (_:Nat) (s0:List Qj):(List Qj):=s0
def W6 (s_:Xr) (d:List Yc) (names:Z) (k1:Nat) (k3:Nat) (a3:Yc) (s3:(List Qj)×Bool):Rd (Rd (Rd ((List Qj)×Int×Bool) ((List Qj)×Int) ((List Qj)×Int)) ((List Qj)×Int×Bool) ((List Qj)×Int)) ((List Qj)×Bool) ((List Qj)×Bool):=(bif (((nth (((Qq d)).1) k3) !=(k1:Int))|| (!(Qu names a3.1))) then (.next (s3.1,s3.2)) else (bif (!(Kw (Zo s_ a3.2 s3.1) ((nth s3.1 k3).2))) then (.next (zR s3.1 k3 ((nth s3.1 k3).1,(Zo s_ a3.2 s3.1)),true)) else (.next (s3.1,s3.2))))
def Bs (_:Nat) (s3:(List Qj)×Bool):(List Qj)×Bool:=(s3.1,s3.2)
def Ky (s_:Xr) (d:List Yc) (names:Z) (k1:Nat) (s2:(List Qj)×Int×Bool):Rd (Rd ((List Qj)×Int×Bool) ((List Qj)×Int) ((List Qj)×Int)) ((List Qj)×Int×Bool) ((List Qj)×Int):=(bif s2.2.2 then (Out.on (X7 (W6 s_ d names k1) Bs d 0 (s2.1,false)) (λy3=>(.next (y3.1,IntKind.i64.wrap (s2.2.1+1),y3.2)))) else (.brk (s2.1,s2.2.1)))
def W7 (s_:Xr) (d:List Yc) (names:Z) (k1:Nat) (s1:(List Qj)×Int):Rd ((List Qj)×Int×Bool) ((List Qj)×Int) ((List Qj)×Int):=(Out.on (N1 (Ky s_ d names k1) (zD d*zD s_.2.1+2) (s1.1,s1.2,true)) (λy2=>(.next (y2.1,y2.2))))
def D4 (_:Nat) (s1:(List Qj)×Int):(List Qj)×Int:=(s1.1,s1.2)
def Y4 (s_:Xr) (d:List Yc) (r:List Qj) (names:Z):(List Qj)×Int×Bool:=(bif ((!(((Qq d)).2))|| (!(Qs s_))) then ([],0,false) else (Out.on (X7 (Kx r names) V6 d 0 []) (λy0=>(Out.on (U1 (W7 s_ d names) D4 ((Vz d)+1).toNat 0 (y0,0)) (λy1=>(y1.1,y1.2,true))))))
theorem Qh7 {B:Int} {x:List Int} (hx:∀a,a∈x->a<=B) (hB:0<=B):∀(n k:Nat) (s:Int),s<=B->∃t,U1 (Ai x) D3 n k s= .brk t/\t<=B
 | 0,k,s,h=>⟨s,rfl,h⟩
 | n +1,k,s,h=>by
   obtain ⟨t,h1,h2⟩:=Qh7 hx hB n (k+1) (max s (nth x (k+1))) (by
    by_cases hk:k+1<x.length
    . have:=hx _ (MK hk);omega
    rw[Te (by omega)];omega)
   exact ⟨t,by simp only[U1,Ai];exact h1,h2⟩
theorem QS {d:List Yc} (h:((Qq d)).2=true):zD ((Qq d)).1=zD d/\zD d<=5/\Vz d<=5:=by
 obtain ⟨h1,h2,h3⟩:=Ez h;refine ⟨h1,h2, ?_⟩;unfold Vz;rw[h];simp only[yF,Bool.false_or];cases hl:(((((Qq d)).1).length:Int)==(0:Int)) with
 | true=>simp only[cond_true];omega
 | false=>
  simp only[cond_false];have hp:0<(((Qq d)).1).length:=by have:=Z7 hl;omega
  unfold I4;obtain ⟨t,e,ht⟩:=Qh7 (B:=5) (x:=((Qq d)).1) (λa ha=>(h3 a ha).2) (by omega) ((((Qq d)).1).length-1) 0 (nth ((Qq d)).1 0) (h3 _ (MK hp)).2;rw[e];exact ht
theorem Qh8 (b:List Int):∀(l:List Int) (k:Nat),l.length=(b.drop k).length->Out.on (X7 (Ar b) B7 l k ()) (λ_=>true)=decide (l=b.drop k)
 | [],k,h=>by
   have:b.drop k= []:=List.eq_nil_of_length_eq_zero (by rw[←h];rfl);rw[this];rfl
 | a ::l,k,h=>by
   have hk:k<b.length:=by simp only[zT,zY] at h;omega
   have hd:b.drop k=nth b k::b.drop (k+1):=by
    rw[List.drop_eq_getElem_cons hk,show nth b k=b[k] by simp[nth,xP,hk]]
   rw[hd] at h⊢;simp only[X7,Ar];by_cases e:a=nth b k
   . rw[show (a !=nth b k)=false by simp[e],cond_false,Qh8 b l (k+1) (by simpa using h)];simp[e]
   rw[show (a !=nth b k)=true by simp[e],cond_true];simp[e,Out.on]
theorem Qlc (a b:List Int) (h:a.length=b.length):Kw a b=decide (a=b):=by
 unfold Kw;rw[show ((a.length:Int) !=(b.length:Int))=false by simp[h],cond_false,Qh8 b a 0 (by simpa using h),List.drop_zero]
theorem MR (a b:List Int):Kw a b=decide (a=b):=by
 by_cases h:a.length=b.length
 . exact Qlc a b h
 have hb:((a.length:Int) !=(b.length:Int))=true:=by simpa using λe:(a.length:Int)=(b.length:Int)=>h (by omega)
 unfold Kw;rw[hb,decide_eq_false (λe=>h (congrArg zD e))];rfl
def onD (d:List Yc) (names:Z) (j:Nat):Bool:=Qu names (nth d j).1
theorem So (s_:Xr) (d:List Yc) (names:Z) (k1:Nat):Qc9 s_ d (Qq d).1 (onD d names) (k1:Int) (W6 s_ d names k1):=by
 intro k a o c hk;have ha:nth d k=a:=O9 hk;unfold W6 GI onD;rw[ha,MR];simp only[bne];cases (nth (Qq d).1 k==(k1:Int))<;>cases Qu names a.1<;>rfl
section
variable {s_:Xr} {d:List Yc} {names:Z} {k1:Nat} {o:List Qj} {p:Int}
theorem Fv (hS:((Qq d)).2=true) (h:EvS d ((Qq d)).1 (onD d names) s_.2.1 (k1:Int) o):∃o' p',whl (Ky s_ d names k1) (zD d*zD s_.2.1+2) (o,p,true)=some (.brk (o',p'))/\EvS d ((Qq d)).1 (onD d names) s_.2.1 ((k1:Int)+1) o':=
 Qh6 (f:=W6 s_ d names k1) (e:=Bs) (So s_ d names k1) (λ_ _=>rfl) (λ_=>rfl) (Prod.ext rfl hS) h p
theorem MS (hS:((Qq d)).2=true) (h:EvS d ((Qq d)).1 (onD d names) s_.2.1 (((k1:Nat)):Int) o):(whl (Ky s_ d names k1) (zD d*zD s_.2.1+2) (o,p,true)).isSome=true:=by
 obtain ⟨o',p',h1,_⟩:=Fv (p:=p) hS h;rw[h1];rfl
theorem Gz {y:List Qj×Int} (hS:((Qq d)).2=true) (h:EvS d ((Qq d)).1 (onD d names) s_.2.1 (((k1:Nat)):Int) o) (hy:N1 (Ky s_ d names k1) (zD d*zD s_.2.1+2) (o,p,true)= .brk y):EvS d ((Qq d)).1 (onD d names) s_.2.1 ((((k1+1):Nat)):Int) y.1:=by
 obtain ⟨o',p',h1,h2⟩:=Fv (p:=p) hS h;unfold N1 at hy;rw[h1] at hy;have e:(o',p')=y:=by simpa using hy
 rw[←e,xD];exact h2
def G9 (r:List Qj) (names:Z) (a:Yc):List Int:=bif (!(Qu names a.1)) then (Xl r a.1) else []
theorem Uq {r:List Qj} (hy:X7 (Kx r names) V6 d 0 []= .brk o):EvS d ((Qq d)).1 (onD d names) s_.2.1 (((0:Nat)):Int) o:=by
 obtain ⟨h1,h2⟩:=R8 (L:=((Qq d)).1) (on:=onD d names) (fs:=s_.2.1) (g:=G9 r names) (f:=Kx r names) (e:=V6) (d:=d) (λk a s=>by
  unfold Kx G9;cases Qu names a.1<;>rfl) (λj _ hj=>by unfold onD at hj;unfold G9;rw[hj];rfl)
 rw[h1] at hy;have e:(d.map λa=>((a.1,G9 r names a):Qj))=o:=Out.brk.inj hy;rw[←e];exact h2
end
theorem Re (s_:Xr) (d:List Yc) (r:List Qj) (names:Z):ACalls Tryz.prog 168 [.a [.h s_.1,.h s_.2.1,.i s_.2.2],.h d,.h r,.h names] (.tup [(false, [.o 0 (((Y4 s_ d r names)).1)]),(false, [.i (((Y4 s_ d r names)).2.1)]),(false, [.b (((Y4 s_ d r names)).2.2)])]):=by
 refine en Qa Tryz.func168 λw0 F0 hG=> ?_
 refine sn Qa [1,2,3,4,8,9,10] [4] p0 <| tn Qa [1,2,3,4,8,9,10,11,12] [4] (pc 1 (Rc d) p0) <| Qc <| Qc <| mz [(4,.p 4 0),(8,.e 0),(9,.i 0),(10,.b false),(11,.o 1600 (((Qq d)).1)),(12,.b (((Qq d)).2))] [0] [(4, [.h s_.1,.h s_.2.1,.i s_.2.2])] [] <| jn [(34,.b ((!(((Qq d)).2))|| (!(Qs s_))))] [12] [] [] (!(((Qq d)).2)) (λh1=> ?_) (λh1=> ?_) ?_
 ·have h1n:(((Qq d)).2)=false:=Vp h1;refine ru Qa [(34,.b true)] [12] [] [] (pf 0 h1n (pe 1 (show .b (!false)= .b true from rfl) p0)) ?_;exact zA (by rw[h1]<;>kernel_rfl)
 ·have h1n:(((Qq d)).2)=true:=Zc h1;have h1nsf:=QS h1n;refine rn Qa [1,2,3,4,8,9,10,11,34] [4] (pt 0 h1n (pe 1 (show .b (!true)= .b false from rfl) (pc 4 (Va s_) p0))) ?_;exact zA (by rw[h1]<;>kernel_rfl)
 refine ck ((!(((Qq d)).2))|| (!(Qs s_))) (λh2=> ?_) (λh2=> ?_)
 ·refine su Qa [] [34] [] [] p0 <| opn [(false,8,0,true,384000,2)] ?_
  exact Qh <| pz [] (show Y4 s_ d r names=_ from Xm h2 (rfl)) (λz=> .tup [(false, [.o 0 z.1]),(false, [.i z.2.1]),(false, [.b z.2.2])])
 have h2l:((!(((Qq d)).2)))=false:=Rw h2;have h2ln:(((Qq d)).2)=true:=Zc h2l;have h2lnsf:=QS h2ln;have h2r:((!(Qs s_)))=false:=Pr h2;have h2rn:(Qs s_)=true:=Zc h2r;refine Qe <| sn Qa [1,2,3,4,8,9,10,11,13] [4] p0 <| Qc <| tn Qa [1,2,3,4,8,9,10,11,13,36,37,38] [4] (pl 1 d p0) <| mz [(13,.one (.slc (.own true 2240) 2 [])),(36,.h d),(37,.i (d.length:Int)),(38,.i 0)] [34] [] [] <| wT 1 0 .sh d (λhw3 hl4=> ?_)
 refine ZQ (Kx r names) V6 d [] (λk0 s0=> [(13,.o 147208 s0),(38,.i (k0:Int))]) [13,38] (λy0=> [(13,.o 147358 y0)]) [2,13,36,37,38] (λk0 s0=>zD s0<=k0) (X4 [(2240,147208)] (by kernel_rfl)) (by simp) (λk0 s0 hk0 U=> ?_) (λk0 s0 hk0 U=> ?_) (λy0 hD0=> ?_)
 ·have hA0_0:=U.2;obtain ⟨a0,V⟩:=Xs (l:=d) (i:=k0) hk0;refine su Qa [(39,.b true)] [] [] [] (pe 0 (zB ((k0:Int)<(d.length:Int))) p0) <| Qc <| ckT <| Qe <| Qc <| Qt <| su Qa [(15,.p 15 0)] [39] [(15, [.s a0.1,.h a0.2])] [] (pn 0 V p0) <| su Qa [(16,.p 16 0)] [] [(16, [.s a0.1,.e 1])] [] p0 <| Qc <| su Qa [(49,.b (!(Qu names a0.1)))] [] [] [] (pc 3 (Wq names a0.1) p0) <| ck (!(Qu names a0.1)) (λh5=> ?_) (λh5=> ?_)
  ·have h5n:(Qu names a0.1)=false:=Vp h5;refine rn Qa [1,2,3,4,8,9,10,11,13,16,36,37,38] [4,16] (pc 3 (Fr r a0.1) p0) ?_;refine wT 13 0 (.own true 147208) s0 (λhw6 hl7=> ?_);refine qu Qa [(13,.one (.slc (.own true 3712) 2 ((eL s0)++ [[.s a0.1,.h (Xl r a0.1)]])))] [13,15,16,49] [] [15,16] (pa s0 [(a0.1,(Xl r a0.1))] p0) ?_;refine eqn [(13,.o 3712 (s0++ [(a0.1,(Xl r a0.1))]))] [13] [] [] (by rw[show ((eL s0)++ [[.s a0.1,.h (Xl r a0.1)]])=(eL (s0++ [(a0.1,(Xl r a0.1))])) from We (rfl) (rfl)];first | done | kernel_rfl) ?_;refine ru Qa [(38,.i ((k0+1:Nat):Int))] [38] [] [] (pe 0 (J6 (Ql k0 (by omega))) p0) ?_;exact zE (s0++ [(a0.1,(Xl r a0.1))]) (zH (X4 [(3712,147208)] (by kernel_rfl)) ⟨Qp V (Xm h5 (rfl)) U.1,by first|omega|(simp;omega) | simp⟩)
  have h5n:(Qu names a0.1)=true:=Zc h5;refine Qe <| wT 13 0 (.own true 147208) s0 (λhw8 hl9=> ?_)
  refine ru Qa [(13,.one (.slc (.own true 3712) 2 ((eL s0)++ [[.s a0.1,.slc 1 []]])))] [13,15,16,49] [] [15,16] (pa s0 [((a0.1, []):Qj)] p0) ?_;refine eqn [(13,.o 3712 (s0++ [((a0.1, []):Qj)]))] [13] [] [] (by rw[show ((eL s0)++ [[.s a0.1,.slc 1 []]])=(eL (s0++ [((a0.1, []):Qj)])) from We (rfl) (rfl)];first | done | kernel_rfl) ?_;refine ru Qa [(38,.i ((k0+1:Nat):Int))] [38] [] [] (pe 0 (J6 (Ql k0 (by omega))) p0) ?_;exact zE (s0++ [((a0.1, []):Qj)]) (zH (X4 [(3712,147208)] (by kernel_rfl)) ⟨Qp V (Qn h5 (rfl)) U.1,by first|omega|(simp;omega) | simp⟩)
 ·have hA0_0:=U.2;exact su Qa [(39,.b false)] [] [] [] (pe 0 (zC ((k0:Int)<(d.length:Int))) p0) <| Qc <| ckF <| Q9 <| zE _ (zH (X4 [(147208,147358)] (by kernel_rfl)) (Xt hk0 (rfl) U.1))
 refine su Qa [(17,.i 0)] [] [] [] p0 <| Qc <| su Qa [(18,.i 0)] [] [] [] p0 <| Qf2 (W7 s_ d names) D4 ((Vz d)+1).toNat (y0,0) (λk1 s1=> [(13,.o 147358 s1.1),(17,.i s1.2),(18,.i (k1:Int))]) [13,17,18] (λ_ _=> []) [] (λy1=> [(13,.o 147358 y1.1),(17,.i y1.2)]) [1,3,4,11,13,17,18] (λ_=> []) [4] (λk1 s1=>EvS d ((Qq d)).1 (onD d names) s_.2.1 (((k1:Nat)):Int) s1.1/\zD s1.1=zD d) wf0 ⟨(by first | exact Uq hD0 | exact Uq hD0.1 | exact Bx (fs:=s_.2.1) (Uq hD0) | exact Bx (fs:=s_.2.1) (Uq hD0.1)),(by first | exact Uq hD0 | exact Uq hD0.1 | exact Bx (fs:=s_.2.1) (Uq hD0) | exact Bx (fs:=s_.2.1) (Uq hD0.1))⟩ (λk1 s1 hk1 hI1=> ?_) (λk1 s1 hk1 hI1=> ?_) (λy1 hD1=> ?_)
 ·have hA1_0:=hI1.2.1;have hA1_1:=hI1.2.2;refine Qc <| su Qa [(63,.b true)] [] [] [] (pc 2 (Pd d) (pe 3 (zB ((k1:Int)<=(Vz d))) p0)) <| ckT <| Qe <| Qc <| Qt <| su Qa [(19,.b true)] [63] [] [] p0 <| blw (λ(s2:(List Qj)×Int×Bool)=> [(13,.o 147358 s2.1),(17,.i s2.2.1),(19,.b s2.2.2)]) [13,17,19] (λs2=> []) [] (λ(y2:(List Qj)×Int)=> [(13,.o 147358 y2.1),(17,.i y2.2)]) [13,17,19] (λy2=> []) [] (λ(k2:Nat) (s2:(List Qj)×Int×Bool)=>whl (Ky s_ d names k1) k2 s2=some (N1 (Ky s_ d names k1) (zD d*zD s_.2.1+2) (s1.1,s1.2,true))/\zD s2.1=zD d) (λ(y2:(List Qj)×Int)=>(N1 (Ky s_ d names k1) (zD d*zD s_.2.1+2) (s1.1,s1.2,true))= .brk y2) (zD d*zD s_.2.1+2) (s1.1,s1.2,true) wf0 ⟨Oc (MS (by assumption) (by assumption)),(by assumption)⟩ (λ_ h=>Rv h.1) (λk2 s2 hI2=> ?_) (λy2 hD2=> ?_)
  ·have hA2_0:=hI2.2;refine Qc <| su Qa [(66,.b s2.2.2)] [] [] [] p0 <| ck s2.2.2 (λh10=> ?_) (λh10=> ?_)
   ·refine Qe <| Qt <| su Qa [(19,.b false)] [19,66] [] [] p0 <| sn Qa [1,3,4,8,9,10,11,13,17,18,19] [4] p0 <| tn Qa [1,3,4,8,9,10,11,13,17,18,19,69,70,71] [4] (pl 1 d p0) <| mz [(17,.i (IntKind.i64.wrap (s2.2.1+1))),(69,.h d),(70,.i (d.length:Int)),(71,.i 0)] [17] [] [] <| Qcc (W6 s_ d names k1) Bs d (s2.1,false) (λk3 s3=> [(13,.o 147358 s3.1),(19,.b s3.2),(71,.i (k3:Int))]) [13,19,71] (λy3=> [(13,.o 147358 y3.1),(19,.b y3.2)]) [13,19,69,70,71] (λ_ s3=>zD s3.1=zD s2.1) (λy3=>zD y3.1=zD s2.1) wf0 (by simp) (λk3 s3 hk3 hI3=> ?_) (λk3 s3 hk3 hI3=> ?_) (λy3 hD3=> ?_)
    ·have hA3_0:=hI3.2;obtain ⟨a3,hx3⟩:=Xs (l:=d) (i:=k3) hk3;refine su Qa [(72,.b true)] [] [] [] (pe 0 (zB ((k3:Int)<(d.length:Int))) p0) <| Qc <| ckT <| Qe <| Qc <| Qt <| sn Qa [1,3,4,8,9,10,11,13,17,18,19,20,21,69,70,71] [4,21] (pn 1 hx3 p0) <| Qc <| Qc <| mz [(20,.i (k3:Int)),(21,.p 21 0)] [72] [(21, [.s a3.1,.h a3.2])] [] <| jn [(88,.b (((nth (((Qq d)).1) k3) !=(k1:Int))|| (!(Qu names a3.1))))] [] [] [] ((nth (((Qq d)).1) k3) !=(k1:Int)) (λh11=> ?_) (λh11=> ?_) ?_
     ·have h11d:=T8 h11;refine wT 11 0 (.own true 1600) (((Qq d)).1) (λhw13 hl14=> ?_);have hx12:=ng (((Qq d)).1) k3;refine ru Qa [(88,.b true)] [] [] [] (pN 2 hx12 (pt 5 h11 p0)) ?_;exact zA (by rw[h11]<;>kernel_rfl)
     ·have h11d:=U8 h11;refine wT 11 0 (.own true 1600) (((Qq d)).1) (λhw16 hl17=> ?_);have hx15:=ng (((Qq d)).1) k3;refine ru Qa [(88,.b (!(Qu names a3.1)))] [] [] [] (pN 2 hx15 (pf 5 h11 (pc 10 (Wq names a3.1) p0))) ?_;exact zA (by rw[h11]<;>kernel_rfl)
     refine ck (((nth (((Qq d)).1) k3) !=(k1:Int))|| (!(Qu names a3.1))) (λh18=> ?_) (λh18=> ?_)
     ·refine Q9 <| rn Qa [1,3,4,8,9,10,11,13,17,18,19,69,70,71] [4] (pe 0 (J6 (Ql k3 (by omega))) p0) ?_
      exact xw (s3.1,s3.2) ⟨Qp hx3 (Xm h18 (rfl)) hI3.1,(by first|omega|(simp only[zF];omega))⟩
     have h18l:(((nth (((Qq d)).1) k3) !=(k1:Int)))=false:=Rw h18;have h18ld:=U8 h18l;have h18r:((!(Qu names a3.1)))=false:=Pr h18;have h18rn:(Qu names a3.1)=true:=Zc h18r;refine Qe <| su Qa [(22,.o 5952 (Zo s_ a3.2 s3.1))] [21,88] [] [21] (pc 4 (YK s_ a3.2 s3.1) p0) <| wT 13 0 (.own true 147358) s3.1 (λhw20 hl21=> ?_)
     have hx19:=ng s3.1 k3;refine sn Qa [1,3,4,8,9,10,11,13,17,18,19,20,22,69,70,71,101] [4] (pN 3 hx19 (pc 6 (Nt (Zo s_ a3.2 s3.1) ((nth s3.1 k3).2)) p0)) <| ck (!(Kw (Zo s_ a3.2 s3.1) ((nth s3.1 k3).2))) (λh22=> ?_) (λh22=> ?_)
     ·have h22n:(Kw (Zo s_ a3.2 s3.1) ((nth s3.1 k3).2))=false:=Vp h22;refine tu Qa [(13,.one (.slc (.own true 147358) 2 (setRow (eL s3.1) k3 1 [.h (Zo s_ a3.2 s3.1)])))] [13,20,22] [] [] (pN 3 hx19 p0) <| eqn [(13,.o 147358 (zR s3.1 k3 ((nth s3.1 k3).1,(Zo s_ a3.2 s3.1))))] [13] [] [] (by rw[Vg (y:=((nth s3.1 k3).1,(Zo s_ a3.2 s3.1))) hx19 rfl]<;>kernel_rfl) ?_
      refine ru Qa [(19,.b true)] [19] [] [] p0 ?_;refine ru Qa [(71,.i ((k3+1:Nat):Int))] [71] [] [] (pe 0 (J6 (Ql k3 (by omega))) p0) ?_;exact xw (zR s3.1 k3 ((nth s3.1 k3).1,(Zo s_ a3.2 s3.1)),true) ⟨Qp hx3 (Qn h18 (Xm h22 (rfl))) hI3.1,(by first|omega|(simp only[zF];omega))⟩
     have h22n:(Kw (Zo s_ a3.2 s3.1) ((nth s3.1 k3).2))=true:=Zc h22;refine Qe <| qu Qa [(71,.i ((k3+1:Nat):Int))] [20,22,71] [] [] (pe 0 (J6 (Ql k3 (by omega))) p0) ?_
     exact xw (s3.1,s3.2) ⟨Qp hx3 (Qn h18 (Qn h22 (rfl))) hI3.1,(by first|omega|(simp only[zF];omega))⟩
    ·have hA3_0:=hI3.2;exact su Qa [(72,.b false)] [] [] [] (pe 0 (zC ((k3:Int)<(d.length:Int))) p0) <| Qc <| ckF <| Q9 <| xw (s3.1,s3.2) ⟨Xt hk3 (rfl) hI3.1,by first|omega|(simp only[zF];omega)⟩
    have hD3_0:=hD3.2;exact xw (y3.1,IntKind.i64.wrap (s2.2.1+1),y3.2) ⟨wn hI2.1 (Xm h10 (Uc hD3.1 (rfl))),(by first|omega|(simp only[zF];omega))⟩
   exact Q9 <| xw _ (wb hI2.1 (Qn h10 (rfl)))
  refine rn Qa [1,3,4,8,9,10,11,13,17,18] [4] (pe 1 (J6 (Ql k1 (by omega))) p0) ?_;exact xw (y2.1,y2.2) ⟨Wf hk1 (Uc hD2 (rfl)) hI1.1,(by first | exact Gz (by assumption) (by assumption) (by assumption) | exact Bx (fs:=s_.2.1) (Gz (by assumption) (by assumption) (by assumption))),(by first | exact Gz (by assumption) (by assumption) (by assumption) | exact Bx (fs:=s_.2.1) (Gz (by assumption) (by assumption) (by assumption)))⟩
 ·have hA1_0:=hI1.2.1;have hA1_1:=hI1.2.2;exact Qc <| su Qa [(63,.b false)] [] [] [] (pc 2 (Pd d) (pe 3 (zC ((k1:Int)<=(Vz d))) p0)) <| ckF <| Q9 <| xw _ (Cx hk1 (rfl) hI1.1)
 exact sn Qa [8,9,10] [] p0 <| Qh <| pz [] (show Y4 s_ d r names=_ from Qn h2 (Uc hD0 (Uc hD1 (rfl)))) (λz=> .tup [(false, [.o 0 z.1]),(false, [.i z.2.1]),(false, [.b z.2.2])])
def Jd (s_:Xr) (d:List Yc):(List Qj)×Bool:=(((Y4 s_ d [] (Yv d))).1,((Y4 s_ d [] (Yv d))).2.2)
theorem UY (s_:Xr) (d:List Yc):ACalls Tryz.prog 119 [.a [.h s_.1,.h s_.2.1,.i s_.2.2],.h d] (.tup [(false, [.o 0 (((Jd s_ d)).1)]),(false, [.b (((Jd s_ d)).2)])]):=by
 refine en Qa Tryz.func119 λw0 F0 hG=> ?_
 exact sn Qa [1,2,4,5] [2] p0 <| tN Qa Zt [4,5,6,8] [] (pc 3 (Gy d) (pc 4 (MQ (.cons (ArgLe.rfl _) (.cons (ArgLe.rfl _) (.cons (ArgLe.nil 2) (.cons (ArgLe.rfl _) (.nil))))) (Re s_ d [] (Yv d))) p0)) <| tu Qa [(4,.o 896 (((Y4 s_ d [] (Yv d))).1)),(5,.b (((Y4 s_ d [] (Yv d))).2.2))] [0,1] [] [] p0 <| Qh <| pz [] (show Jd s_ d=(((Y4 s_ d [] (Yv d))).1,((Y4 s_ d [] (Yv d))).2.2) from rfl) (λz=> .tup [(false, [.o 0 z.1]),(false, [.b z.2])])
def Hr (_:Nat) (a0:Int) (s0:Int):Rd (Int) (Int) (Int):=(bif decide (a0>s0) then (.next a0) else (.next s0))
def C1 (_:Nat) (s0:Int):Int:=s0
def K1 (d:List Yc):Int:=(Out.on (X7 Hr C1 (((Xe d)).1) 0 (-1)) (λy0=>y0))
theorem D5 (d:List Yc):ACalls Tryz.prog 202 [.h d] (.i (K1 d)):=by
 refine en Qa Tryz.func202 λw0 F0 hG=> ?_
 refine sn Qa [0,2] [] p0 <| tn Qa [2,3] [] (pc 1 (Mn d) p0) <| tu Qa [(2,.i 0),(3,.o 576 (((Xe d)).1)),(5,.i (-1))] [0] [] [] p0 <| Qc <| sn Qa [2,3,5,6] [] p0 <| mz [(6,.i 0)] [] [] [] <| wT 3 0 (.own true 576) (((Xe d)).1) (λhw1 hl2=> ?_)
 refine Pa Hr C1 (((Xe d)).1) (-1) (λk0 s0=> [(5,.i s0),(6,.i (k0:Int))]) [5,6] (λy0=> [(5,.i y0)]) [3,5,6] wf0 (λk0 s0 hk0 U=> ?_) (λk0 s0 hk0 U=> ?_) (λy0 hD0=> ?_)
 ·obtain ⟨a0,V⟩:=Xs (l:=((Xe d)).1) (i:=k0) hk0;refine Qc <| sn Qa [2,3,5,6,15] [] (pl 2 (((Xe d)).1) (pe 3 (zB ((k0:Int)<((((Xe d)).1).length:Int))) p0)) <| ckT <| Qe <| Qc <| Qt <| tn Qa [2,3,5,6,23] [] (pN 2 V p0) <| ck (decide (a0>s0)) (λh3=> ?_) (λh3=> ?_)
  ·have h3d:=of_decide_eq_true h3;refine qu Qa [(5,.i a0)] [5] [] [] (pN 2 V p0) ?_;refine rn Qa [2,3,5,6] [] (pe 1 (J6 (Ql k0 (by omega))) p0) ?_;exact xw _ (Qp V (Xm h3 (rfl)) U)
  have h3d:=of_decide_eq_false h3;refine Qe <| qu Qa [(6,.i ((k0+1:Nat):Int))] [6] [] [] (pe 1 (J6 (Ql k0 (by omega))) p0) ?_
  exact xw _ (Qp V (Qn h3 (rfl)) U)
 ·exact Qc <| sn Qa [2,3,5,6,15] [] (pl 2 (((Xe d)).1) (pe 3 (zC ((k0:Int)<((((Xe d)).1).length:Int))) p0)) <| ckF <| Q9 <| xw _ (Xt hk0 (rfl) U)
 exact sn Qa [2] [] p0 <| Qh <| pi [] (Uc hD0 (rfl))
def C2 (_:Nat) (a0:Yc) (s0:List Qj):Rd ((List Qj)×Int×Bool) (List Qj) (List Qj):=(.next (s0++ [((a0.1, []):Qj)]))
def Fw (_:Nat) (s0:List Qj):(List Qj):=s0
def Au (s_:Xr) (d:List Yc) (k1:Nat) (k3:Nat) (a3:Yc) (s3:(List Qj)×Bool):Rd (Rd (Rd ((List Qj)×Int×Bool) ((List Qj)×Int) ((List Qj)×Int)) ((List Qj)×Int×Bool) ((List Qj)×Int)) ((List Qj)×Bool) ((List Qj)×Bool):=(bif ((nth (((Xe d)).1) k3) !=(k1:Int)) then (.next (s3.1,s3.2)) else (bif (!(Kp (Yw s_ a3.2 s3.1) ((nth s3.1 k3).2))) then (.next (zR s3.1 k3 ((nth s3.1 k3).1,(Yw s_ a3.2 s3.1)),true)) else (.next (s3.1,s3.2))))
def I5 (_:Nat) (s3:(List Qj)×Bool):(List Qj)×Bool:=(s3.1,s3.2)
def He (s_:Xr) (d:List Yc) (k1:Nat) (s2:(List Qj)×Int×Bool):Rd (Rd ((List Qj)×Int×Bool) ((List Qj)×Int) ((List Qj)×Int)) ((List Qj)×Int×Bool) ((List Qj)×Int):=(bif s2.2.2 then (Out.on (X7 (Au s_ d k1) I5 d 0 (s2.1,false)) (λy3=>(.next (y3.1,IntKind.i64.wrap (s2.2.1+1),y3.2)))) else (.brk (s2.1,s2.2.1)))
def I6 (s_:Xr) (d:List Yc) (k1:Nat) (s1:(List Qj)×Int):Rd ((List Qj)×Int×Bool) ((List Qj)×Int) ((List Qj)×Int):=(Out.on (N1 (He s_ d k1) (zD d*zD s_.2.1+2) (s1.1,s1.2,true)) (λy2=>(.next (y2.1,y2.2))))
def QT (_:Nat) (s1:(List Qj)×Int):(List Qj)×Int:=(s1.1,s1.2)
def Hs (s_:Xr) (d:List Yc):(List Qj)×Int×Bool:=(bif ((!(((Xe d)).2))|| (!(Xf s_))) then ([],0,false) else (Out.on (X7 C2 Fw d 0 []) (λy0=>(Out.on (U1 (I6 s_ d) QT ((K1 d)+1).toNat 0 (y0,0)) (λy1=>(y1.1,y1.2,true))))))
theorem MT {B:Int}:∀(x:List Int) (k:Nat) (s:Int),(∀a,a∈x->a<=B)->s<=B->∃t,X7 Hr C1 x k s= .brk t/\t<=B
 | [],k,s,_,h=>⟨s,rfl,h⟩
 | a::x,k,s,hx,h=>by
  simp only[X7,Hr];cases hc:decide (a>s) with
  | true=>exact MT x (k+1) a (λb hb=>hx b (zK _ hb)) (hx a (zU ..))
  | false=>exact MT x (k+1) s (λb hb=>hx b (zK _ hb)) h
theorem I7 {d:List Yc} (h:((Xe d)).2=true):zD ((Xe d)).1=zD d/\zD d<=5/\K1 d<=5:=by
 have h':=h;rw[W5] at h';obtain ⟨h1,h2,h3⟩:=Ez h';unfold K1;rw[W5];obtain ⟨t,e,ht⟩:=MT (B:=5) ((Qq d)).1 0 (-1) (λa ha=>(h3 a ha).2) (by omega);refine ⟨h1,h2, ?_⟩;rw[e];exact ht
theorem MU (s_:Xr) (d:List Yc) (k1:Nat):Qc9 s_ d (Qq d).1 (λ_=>true) (k1:Int) (Au s_ d k1):=by
 intro k a o c hk;unfold Au GI;rw[JT,W5,←VZ];simp only[bne];cases (nth (Qq d).1 k==(k1:Int))<;>rfl
section
variable {s_:Xr} {d:List Yc} {k1:Nat} {o:List Qj} {p:Int}
theorem BP (hS:((Xe d)).2=true) (h:EvS d ((Xe d)).1 (λ_=>true) s_.2.1 (k1:Int) o):∃o' p',whl (He s_ d k1) (zD d*zD s_.2.1+2) (o,p,true)=some (.brk (o',p'))/\EvS d ((Xe d)).1 (λ_=>true) s_.2.1 ((k1:Int)+1) o':=by
 rw[W5] at hS h⊢;exact Qh6 (f:=Au s_ d k1) (e:=I5) (MU s_ d k1) (λ_ _=>rfl) (λ_=>rfl) (Prod.ext rfl hS) h p
theorem Qgn (hS:((Xe d)).2=true) (h:EvS d ((Xe d)).1 (λ_=>true) s_.2.1 (((k1:Nat)):Int) o):(whl (He s_ d k1) (zD d*zD s_.2.1+2) (o,p,true)).isSome=true:=by
 obtain ⟨o',p',h1,_⟩:=BP (p:=p) hS h;rw[h1];rfl
theorem Oo {y:List Qj×Int} (hS:((Xe d)).2=true) (h:EvS d ((Xe d)).1 (λ_=>true) s_.2.1 (((k1:Nat)):Int) o) (hy:N1 (He s_ d k1) (zD d*zD s_.2.1+2) (o,p,true)= .brk y):EvS d ((Xe d)).1 (λ_=>true) s_.2.1 ((((k1+1):Nat)):Int) y.1:=by
 obtain ⟨o',p',h1,h2⟩:=BP (p:=p) hS h;unfold N1 at hy;rw[h1] at hy;have e:(o',p')=y:=by simpa using hy
 rw[←e,xD];exact h2
theorem Bh (hy:X7 C2 Fw d 0 []= .brk o):EvS d ((Xe d)).1 (λ_=>true) s_.2.1 (((0:Nat)):Int) o:=by
 obtain ⟨h1,h2⟩:=R8 (L:=((Xe d)).1) (on:=λ_=>true) (fs:=s_.2.1) (g:=λ_=> []) (f:=C2) (e:=Fw) (d:=d) (λk a s=>rfl) (λj _ hj=>rfl);rw[h1] at hy;have e:(d.map λa=>((a.1,([]:List Int)):Qj))=o:=Out.brk.inj hy;rw[←e];exact h2
end
theorem GJ (s_:Xr) (d:List Yc):ACalls Tryz.prog 149 [.a [.h s_.1,.h s_.2.1,.i s_.2.2],.h d] (.tup [(false, [.o 0 (((Hs s_ d)).1)]),(false, [.i (((Hs s_ d)).2.1)]),(false, [.b (((Hs s_ d)).2.2)])]):=by
 refine en Qa Tryz.func149 λw0 F0 hG=> ?_
 refine sn Qa [1,2,4,5,6] [2] p0 <| tn Qa [1,2,4,5,6,7,8] [2] (pc 1 (Mn d) p0) <| Qc <| Qc <| mz [(2,.p 2 0),(4,.e 0),(5,.i 0),(6,.b false),(7,.o 1152 (((Xe d)).1)),(8,.b (((Xe d)).2))] [0] [(2, [.h s_.1,.h s_.2.1,.i s_.2.2])] [] <| jn [(27,.b ((!(((Xe d)).2))|| (!(Xf s_))))] [8] [] [] (!(((Xe d)).2)) (λh1=> ?_) (λh1=> ?_) ?_
 ·have h1n:(((Xe d)).2)=false:=Vp h1;refine ru Qa [(27,.b true)] [8] [] [] (pf 0 h1n (pe 1 (show .b (!false)= .b true from rfl) p0)) ?_;exact zA (by rw[h1]<;>kernel_rfl)
 ·have h1n:(((Xe d)).2)=true:=Zc h1;have h1nsf:=I7 h1n;refine rn Qa [1,2,4,5,6,7,27] [2] (pt 0 h1n (pe 1 (show .b (!true)= .b false from rfl) (pc 4 (Kk s_) p0))) ?_;exact zA (by rw[h1]<;>kernel_rfl)
 refine ck ((!(((Xe d)).2))|| (!(Xf s_))) (λh2=> ?_) (λh2=> ?_)
 ·exact sn Qa [1,2,4,5,6,7] [2] p0 <| Qh <| pz [] (show Hs s_ d=_ from Xm h2 (rfl)) (λz=> .tup [(false, [.o 0 z.1]),(false, [.i z.2.1]),(false, [.b z.2.2])])
 have h2l:((!(((Xe d)).2)))=false:=Rw h2;have h2ln:(((Xe d)).2)=true:=Zc h2l;have h2lnsf:=I7 h2ln;have h2r:((!(Xf s_)))=false:=Pr h2;have h2rn:(Xf s_)=true:=Zc h2r;refine Qe <| sn Qa [1,2,4,5,6,7,9] [2] p0 <| Qc <| tn Qa [1,2,4,5,6,7,9,10] [2] p0 <| mz [(9,.one (.slc (.own true 1856) 2 [])),(10,.i 0)] [27] [] [] <| wT 1 0 .sh d (λhw3 hl4=> ?_)
 refine ZQ C2 Fw d [] (λk0 s0=> [(9,.o 147206 s0),(10,.i (k0:Int))]) [9,10] (λy0=> [(9,.o 147356 y0)]) [9,10] (λk0 s0=>zD s0<=k0) (X4 [(1856,147206)] (by kernel_rfl)) (by simp) (λk0 s0 hk0 U=> ?_) (λk0 s0 hk0 U=> ?_) (λy0 hD0=> ?_)
 ·have hA0_0:=U.2;obtain ⟨a0,V⟩:=Xs (l:=d) (i:=k0) hk0;refine Qc <| su Qa [(33,.b true)] [] [] [] (pl 2 d (pe 3 (zB ((k0:Int)<(d.length:Int))) p0)) <| ckT <| Qe <| Qc <| Qt <| wT 9 0 (.own true 147206) s0 (λhw5 hl6=> ?_)
  refine ru Qa [(9,.one (.slc (.own true 2880) 2 ((eL s0)++ [[.s a0.1,.slc 1 []]])))] [9,33] [] [] (pn 3 V (pa s0 [((a0.1, []):Qj)] p0)) ?_;refine eqn [(9,.o 2880 (s0++ [((a0.1, []):Qj)]))] [9] [] [] (by rw[show ((eL s0)++ [[.s a0.1,.slc 1 []]])=(eL (s0++ [((a0.1, []):Qj)])) from We (rfl) (rfl)];first | done | kernel_rfl) ?_;refine rn Qa [1,2,4,5,6,7,9,10] [2] (pe 1 (J6 (Ql k0 (by omega))) p0) ?_;exact zE (s0++ [((a0.1, []):Qj)]) (zH (X4 [(2880,147206)] (by kernel_rfl)) ⟨Qp V (rfl) U.1,by first|omega|(simp;omega) | simp⟩)
 ·have hA0_0:=U.2;exact Qc <| su Qa [(33,.b false)] [] [] [] (pl 2 d (pe 3 (zC ((k0:Int)<(d.length:Int))) p0)) <| ckF <| Q9 <| zE _ (zH (X4 [(147206,147356)] (by kernel_rfl)) (Xt hk0 (rfl) U.1))
 refine su Qa [(11,.i 0)] [] [] [] p0 <| Qc <| su Qa [(12,.i 0)] [] [] [] p0 <| Qf2 (I6 s_ d) QT ((K1 d)+1).toNat (y0,0) (λk1 s1=> [(9,.o 147356 s1.1),(11,.i s1.2),(12,.i (k1:Int))]) [9,11,12] (λ_ _=> []) [] (λy1=> [(9,.o 147356 y1.1),(11,.i y1.2)]) [1,2,7,9,11,12] (λ_=> []) [2] (λk1 s1=>EvS d ((Xe d)).1 (λ_=>true) s_.2.1 (((k1:Nat)):Int) s1.1/\zD s1.1=zD d) wf0 ⟨(by first | exact Bh hD0 | exact Bh hD0.1 | exact Bx (fs:=s_.2.1) (Bh hD0) | exact Bx (fs:=s_.2.1) (Bh hD0.1)),(by first | exact Bh hD0 | exact Bh hD0.1 | exact Bx (fs:=s_.2.1) (Bh hD0) | exact Bx (fs:=s_.2.1) (Bh hD0.1))⟩ (λk1 s1 hk1 hI1=> ?_) (λk1 s1 hk1 hI1=> ?_) (λy1 hD1=> ?_)
 ·have hA1_0:=hI1.2.1;have hA1_1:=hI1.2.2;refine Qc <| su Qa [(49,.b true)] [] [] [] (pc 2 (D5 d) (pe 3 (zB ((k1:Int)<=(K1 d))) p0)) <| ckT <| Qe <| Qc <| Qt <| su Qa [(13,.b true)] [49] [] [] p0 <| blw (λ(s2:(List Qj)×Int×Bool)=> [(9,.o 147356 s2.1),(11,.i s2.2.1),(13,.b s2.2.2)]) [9,11,13] (λs2=> []) [] (λ(y2:(List Qj)×Int)=> [(9,.o 147356 y2.1),(11,.i y2.2)]) [9,11,13] (λy2=> []) [] (λ(k2:Nat) (s2:(List Qj)×Int×Bool)=>whl (He s_ d k1) k2 s2=some (N1 (He s_ d k1) (zD d*zD s_.2.1+2) (s1.1,s1.2,true))/\zD s2.1=zD d) (λ(y2:(List Qj)×Int)=>(N1 (He s_ d k1) (zD d*zD s_.2.1+2) (s1.1,s1.2,true))= .brk y2) (zD d*zD s_.2.1+2) (s1.1,s1.2,true) wf0 ⟨Oc (Qgn (by assumption) (by assumption)),(by assumption)⟩ (λ_ h=>Rv h.1) (λk2 s2 hI2=> ?_) (λy2 hD2=> ?_)
  ·have hA2_0:=hI2.2;refine Qc <| su Qa [(52,.b s2.2.2)] [] [] [] p0 <| ck s2.2.2 (λh7=> ?_) (λh7=> ?_)
   ·refine Qe <| Qt <| su Qa [(13,.b false)] [13,52] [] [] p0 <| sn Qa [1,2,4,5,6,7,9,11,12,13] [2] p0 <| tn Qa [1,2,4,5,6,7,9,11,12,13,14] [2] p0 <| mz [(11,.i (IntKind.i64.wrap (s2.2.1+1))),(14,.i 0)] [11] [] [] <| Qcc (Au s_ d k1) I5 d (s2.1,false) (λk3 s3=> [(9,.o 147356 s3.1),(13,.b s3.2),(14,.i (k3:Int))]) [9,13,14] (λy3=> [(9,.o 147356 y3.1),(13,.b y3.2)]) [9,13,14] (λ_ s3=>zD s3.1=zD s2.1) (λy3=>zD y3.1=zD s2.1) wf0 (by simp) (λk3 s3 hk3 hI3=> ?_) (λk3 s3 hk3 hI3=> ?_) (λy3 hD3=> ?_)
    ·have hA3_0:=hI3.2;obtain ⟨a3,hx3⟩:=Xs (l:=d) (i:=k3) hk3;refine Qc <| su Qa [(58,.b true)] [] [] [] (pl 2 d (pe 3 (zB ((k3:Int)<(d.length:Int))) p0)) <| ckT <| Qe <| Qc <| Qt <| Qc <| wT 7 0 (.own true 1152) (((Xe d)).1) (λhw9 hl10=> ?_)
     have hx8:=ng (((Xe d)).1) k3;refine sn Qa [1,2,4,5,6,7,9,11,12,13,14,66] [2] (pN 2 hx8 p0) <| ck ((nth (((Xe d)).1) k3) !=(k1:Int)) (λh11=> ?_) (λh11=> ?_)
     ·have h11d:=T8 h11;refine Q9 <| qn Qa [1,2,4,5,6,7,9,11,12,13,14] [2] (pe 1 (J6 (Ql k3 (by omega))) p0) ?_
      exact xw (s3.1,s3.2) ⟨Qp hx3 (Xm h11 (rfl)) hI3.1,(by first|omega|(simp only[zF];omega))⟩
     have h11d:=U8 h11;refine Qe <| tN Qa Zt [1,2,4,5,6,7,9,11,12,13,14,15] [2] (pn 3 hx3 (pc 7 (Ns s_ a3.2 s3.1) p0)) <| wT 9 0 (.own true 147356) s3.1 (λhw13 hl14=> ?_)
     have hx12:=ng s3.1 k3;refine tu Qa [(15,.o 4736 (Yw s_ a3.2 s3.1)),(82,.b (!(Kp (Yw s_ a3.2 s3.1) ((nth s3.1 k3).2))))] [58] [] [] (pN 3 hx12 (pc 6 (I2 (Yw s_ a3.2 s3.1) ((nth s3.1 k3).2)) p0)) <| ck (!(Kp (Yw s_ a3.2 s3.1) ((nth s3.1 k3).2))) (λh15=> ?_) (λh15=> ?_)
     ·have h15n:(Kp (Yw s_ a3.2 s3.1) ((nth s3.1 k3).2))=false:=Vp h15;refine su Qa [(9,.one (.slc (.own true 147356) 2 (setRow (eL s3.1) k3 1 [.h (Yw s_ a3.2 s3.1)])))] [9,15,82] [] [] (pN 3 hx12 p0) <| eqn [(9,.o 147356 (zR s3.1 k3 ((nth s3.1 k3).1,(Yw s_ a3.2 s3.1))))] [9] [] [] (by rw[Vg (y:=((nth s3.1 k3).1,(Yw s_ a3.2 s3.1))) hx12 rfl]<;>kernel_rfl) ?_
      refine ru Qa [(13,.b true)] [13] [] [] p0 ?_;refine rn Qa [1,2,4,5,6,7,9,11,12,13,14] [2] (pe 1 (J6 (Ql k3 (by omega))) p0) ?_;exact xw (zR s3.1 k3 ((nth s3.1 k3).1,(Yw s_ a3.2 s3.1)),true) ⟨Qp hx3 (Qn h11 (Xm h15 (rfl))) hI3.1,(by first|omega|(simp only[zF];omega))⟩
     have h15n:(Kp (Yw s_ a3.2 s3.1) ((nth s3.1 k3).2))=true:=Zc h15;refine Qe <| rn Qa [1,2,4,5,6,7,9,11,12,13,14] [2] (pe 1 (J6 (Ql k3 (by omega))) p0) ?_
     exact xw (s3.1,s3.2) ⟨Qp hx3 (Qn h11 (Qn h15 (rfl))) hI3.1,(by first|omega|(simp only[zF];omega))⟩
    ·have hA3_0:=hI3.2;exact Qc <| su Qa [(58,.b false)] [] [] [] (pl 2 d (pe 3 (zC ((k3:Int)<(d.length:Int))) p0)) <| ckF <| Q9 <| xw (s3.1,s3.2) ⟨Xt hk3 (rfl) hI3.1,by first|omega|(simp only[zF];omega)⟩
    have hD3_0:=hD3.2;exact xw (y3.1,IntKind.i64.wrap (s2.2.1+1),y3.2) ⟨wn hI2.1 (Xm h7 (Uc hD3.1 (rfl))),(by first|omega|(simp only[zF];omega))⟩
   exact Q9 <| xw _ (wb hI2.1 (Qn h7 (rfl)))
  refine rn Qa [1,2,4,5,6,7,9,11,12] [2] (pe 1 (J6 (Ql k1 (by omega))) p0) ?_;exact xw (y2.1,y2.2) ⟨Wf hk1 (Uc hD2 (rfl)) hI1.1,(by first | exact Oo (by assumption) (by assumption) (by assumption) | exact Bx (fs:=s_.2.1) (Oo (by assumption) (by assumption) (by assumption))),(by first | exact Oo (by assumption) (by assumption) (by assumption) | exact Bx (fs:=s_.2.1) (Oo (by assumption) (by assumption) (by assumption)))⟩
 ·have hA1_0:=hI1.2.1;have hA1_1:=hI1.2.2;exact Qc <| su Qa [(49,.b false)] [] [] [] (pc 2 (D5 d) (pe 3 (zC ((k1:Int)<=(K1 d))) p0)) <| ckF <| Q9 <| xw _ (Cx hk1 (rfl) hI1.1)
 exact sn Qa [4,5,6] [] p0 <| Qh <| pz [] (show Hs s_ d=_ from Qn h2 (Uc hD0 (Uc hD1 (rfl)))) (λz=> .tup [(false, [.o 0 z.1]),(false, [.i z.2.1]),(false, [.b z.2.2])])
def Vl (s_:Xr) (d:List Yc):(List Qj)×Bool:=(((Hs s_ d)).1,((Hs s_ d)).2.2)
theorem UZ (s_:Xr) (d:List Yc):ACalls Tryz.prog 98 [.a [.h s_.1,.h s_.2.1,.i s_.2.2],.h d] (.tup [(false, [.o 0 (((Vl s_ d)).1)]),(false, [.b (((Vl s_ d)).2)])]):=by
 refine en Qa Tryz.func98 λw0 F0 hG=> ?_
 exact sn Qa [1,2,4,5] [2] p0 <| tn Qa [4,5,6,8] [] (pc 2 (GJ s_ d) p0) <| tu Qa [(4,.o 768 (((Hs s_ d)).1)),(5,.b (((Hs s_ d)).2.2))] [0,1] [] [] p0 <| Qh <| pz [] (show Vl s_ d=(((Hs s_ d)).1,((Hs s_ d)).2.2) from rfl) (λz=> .tup [(false, [.o 0 z.1]),(false, [.b z.2])])
end
section
open Go.RowKit
theorem Cm (v:ByteArray) (l:List ByteArray):Qu l v=true↔v∈l:=by
 unfold Qu B6
 have key:∀(l:List ByteArray) (k:Nat),(0:Int)<=((X7 (Up v) Aq l k ()).on λ_=> -1)↔v∈l:=by
  intro l
  induction l with
  | nil=>intro k;simp[X7,Out.on]
  | cons a l ih=>
    intro k;simp only[X7,Up];have hab:(v.toList==a.toList)=decide (v=a):=Hm;cases hc:(v.toList==a.toList) with
    | true=>
      obtain rfl:v=a:=by rw[hc] at hab;exact of_decide_eq_true hab.symm
      simp[Out.on]
    | false=>
      have h:v≠a:=by rw[hc] at hab;exact of_decide_eq_false hab.symm
      simp only[cond_false];refine (ih (k+1)).trans ?_;simp[h]
 exact decide_eq_true_iff.trans (key l 0)
theorem Tk (d:List Yc):Yv d=d.map (·.1):=by
 unfold Yv;rw[A7 (f:=L9) (g:=λa:Yc=>a.1) (λ_ _ _=>rfl)];simp[Out.on,Ma]
theorem Rf {d:List Yc} {i:Nat} {a:Yc} (h:d[i]? =some a):Qu (Yv d) a.1=true:=by
 rw[Cm,Tk];exact List.mem_map.2 ⟨a,xH h,rfl⟩
theorem PT (x:List Int):∀(n k:Nat) (s:Int),k+1+n=x.length->U1 (Ai x) D3 n k s= .brk ((x.drop (k+1)).foldl max s)
 | 0,k,s,h=>by rw[List.drop_eq_nil_of_le (by omega)];rfl
 | n+1,k,s,h=>by
   have hg:x[k+1]? =some (nth x (k+1)):=Hb (by omega);rw[VF hg];simp only[U1,Ai,xE];exact PT x n (k+1) _ (by omega)
theorem WE:∀(x:List Int) (k:Nat) (s:Int),X7 Hr C1 x k s= .brk (x.foldl max s)
 | [],k,s=>rfl
 | a::x,k,s=>by
   simp only[X7,Hr,xE];by_cases h:a>s
   . rw[decide_eq_true h,cond_true,show max s a=a by omega];exact WE x (k+1) a
   rw[decide_eq_false h,cond_false,show max s a=s by omega];exact WE x (k+1) s
theorem QU (d:List Yc):K1 d=Vz d:=by
 unfold K1 Vz;rw[W5,WE];simp only[Out.on];cases hs:(Qq d).2 with
 | false=>
   have :(Qq d).1= []:=by
    unfold Qq at hs⊢;cases hv:Qk d with
    | false=>rfl
    | true=>
      rw[hv] at hs;simp only[yF,cond_false] at hs⊢;have h5:=Ub hv;have hw:=L7 (d:=d) (f:=Hc d) (e:=Hd) (F:=Wo d) (λ_ _ _=>rfl) (λ_ _=>rfl) (λ_=>rfl) (by omega) (d.length*d.length+3) (zG d.length 0) true (B4 _).1 (B4 _).2
      have hsome:(QG (Jq d) d.length d.length (d.length*d.length+3) (true,zG d.length 0)).isSome=true:=by
       have:=Ey d h5;rw[yW,hw,Option.isSome_map] at this;exact this
      obtain ⟨r,hr⟩:=Option.isSome_iff_exists.1 hsome;unfold N1 at hs⊢;rw[yW,hw,hr] at hs⊢;cases r with
      | none=>rfl
      | some M=>simp[Qkr,Out.on] at hs
   rw[this];rfl
 | true=>
   obtain ⟨h1,h2,h3⟩:=Ez hs;simp only[yF,Bool.false_or];generalize (Qq d).1=x at h3;cases x with
   | nil=>rfl
   | cons a x=>
     have h0:=(h3 a (zU ..)).1
     have e:((((a::x).length:Nat):Int)==(0:Int))=false:=by
      rw[beq_eq_false_iff_ne,zT];omega
     rw[e,cond_false];unfold I4;rw[PT _ _ _ _ (by simp;omega)];simp only[Out.on,xE,yE,List.drop_succ_cons,List.drop_zero];have e2:nth (a::x) 0=a:=rfl;rw[show max (-1) a=a by omega,e2]
theorem Qld (s:Xr) (d:List Yc) (k1 k:Nat) (a:Yc) (t:List Qj×Bool) (h:d[k]? =some a):Au s d k1 k a t=W6 s d (Yv d) k1 k a t:=by
 unfold Au W6;rw[Rf h,W5,←VZ,JT,MR];simp
theorem Qle (s:Xr) (d:List Yc) (k1:Nat):He s d k1=Ky s d (Yv d) k1:=by
 funext t
 unfold He Ky;rw[Rx (f:=Au s d k1) (g:=W6 s d (Yv d) k1) (e:=I5) (e':=Bs) (λ_ _=>rfl) d 0 _ (λi a t h=>by rw[yE];exact Qld s d k1 i a t h)]
theorem Qlf (s:Xr) (d:List Yc):Hs s d=Y4 s d [] (Yv d):=by
 unfold Hs Y4;rw[W5,Cz,QU];rw[Rx (f:=C2) (g:=Kx [] (Yv d)) (e:=Fw) (e':=V6) (λ_ _=>rfl) d 0 _ (λi a t h=>by unfold C2 Kx;rw[Rf h];rfl)]
 congr 1
 congr 1
 funext y
 rw[show I6 s d=W7 s d (Yv d) from by funext k t;unfold I6 W7;rw[Qle]];rfl
theorem WF (s:Xr) (d:List Yc):Vl s d=Jd s d:=by
 unfold Vl Jd;rw[Qlf]
theorem GK {s:Xr} {d:List Yc} {names:List ByteArray} {r:List Qj} (h:(Y4 s d r names).2.2=true):zD d<=5/\Qs s=true/\(Y4 s d r names).1.map (·.1)=d.map (·.1)/\∀j,j<d.length->onD d names j=true->∃p:Xx->Bool,(nth (Y4 s d r names).1 j).2=sel s.2.1 (λf=>f.1) p:=by
 unfold Y4 at h⊢;cases hc:((!(((Qq d)).2))|| (!(Qs s))) with
 | true=>rw[hc] at h;simp at h
 | false=>
   have hs:((Qq d)).2=true:=Zc (Rw hc);have hv:Qs s=true:=Zc (Pr hc);simp only[cond_false]
   obtain ⟨h1,h2⟩:=R8 (L:=((Qq d)).1) (on:=onD d names) (fs:=s.2.1) (g:=G9 r names) (f:=Kx r names) (e:=V6) (d:=d) (λk a s=>by
    unfold Kx G9;cases Qu names a.1<;>rfl) (λj _ hj=>by unfold onD at hj;unfold G9;rw[hj];rfl)
   rw[h1]
   have key:∀(n k:Nat) (o:List Qj) (p:Int),EvS d ((Qq d)).1 (onD d names) s.2.1 (((k:Nat)):Int) o->∃o' p',U1 (W7 s d names) D4 n k (o,p)= .brk (o',p')/\EvS d ((Qq d)).1 (onD d names) s.2.1 (((k+n:Nat)):Int) o':=by
    intro n
    induction n with
    | zero=>intro k o p ho;exact ⟨o,p,rfl,ho⟩
    | succ n ih=>
      intro k o p ho;obtain ⟨o1,p1,g1,g2⟩:=Fv (p:=p) hs ho;obtain ⟨o2,p2,g3,g4⟩:=ih (k+1) o1 p1 (by rw[xD];exact g2);refine ⟨o2,p2, ?_,by rw[show k+(n+1)=k+1+n by omega];exact g4⟩;simp only[U1];unfold W7 N1;rw[g1];exact g3
   obtain ⟨o,p,g1,g2⟩:=key (zZ (Vz d+1)) 0 _ 0 h2;simp only[Out.on,V6];rw[g1];exact ⟨(Ez hs).2.1,hv,g2.names,λj hj hon=>g2.some_ j hj hon⟩
theorem WG {s:Xr} {d:List Yc} (h:(Jd s d).2=true):zD d<=5/\Qs s=true/\(Jd s d).1.map (·.1)=d.map (·.1)/\∀x,x∈(Jd s d).1->∃p:Xx->Bool,x.2=sel s.2.1 (λf=>f.1) p:=by
 unfold Jd at h⊢;obtain ⟨h1,h2,h3,h4⟩:=GK h;refine ⟨h1,h2,h3,λx hx=> ?_⟩;obtain ⟨i,hi⟩:=yJ hx;have hlen:(Y4 s d [] (Yv d)).1.length=d.length:=by have:=congrArg zD h3;simpa using this
 have hi':i<(Y4 s d [] (Yv d)).1.length:=(zP.1 hi).1;have hil:i<d.length:=by omega
 have:=h4 i hil (by unfold onD;exact Rf (Hb hil));rw[O9 hi] at this;exact this
def BQ (G:Nat->Prop) (L:List Nat):Inj:=⟨G,λk=>if k=63 then L else [],λ_=>0⟩
theorem Qgo {P:Program} {tt:List (Nat×TI)} (htt:Gs P tt=true) {f:Nat} {fn:Func} {c:Code} (hf:P.funcs[f]? =some fn) (hb:fn.body=some c) (hok:It P f) {n:Nat} {l l':List (List PV)} {args:List AV}
 (hn:args.length+1<=fn.ntmps) (hk:∀x,x∈args->∀c,c∈x.cells->c.key=none/\c.bkeys= []) {t:Nat} (hr:fn.results.toList= [.tmp t])
 (h:∀w0 F0,GoodAt P w0->AWP P fn.ntmps w0 F0 c (λe s=>(e= .ret\/e= .normal)/\∃k,get s.tm t=some (.one (.slc (.own false k) n l'))) (CP (.one (.slc (.own false 63) n l)::args))):ATake P f n l args true false l':=by
 refine ⟨hok,λw F G L v vals hgood hFG hGF hGs hnd hLG hrow hargs=>calls_of_wp hf hb ?_⟩;have hlen:=hargs.length;have hGF:=hGF rfl;have hL0:(BQ G L).L 63=L:=by show (if 63=63 then L else [])=L;simp
 refine wp_mono (h ⟨w,λb=>b∈L,none⟩ G hgood (BQ G L) _ w ?_) ?_
 . have hLk:∀k b,b∈(BQ G L).L k->k=63/\b∈L:=λk b hm=>by
    have hm:b∈(if k=63 then L else []):=hm;split at hm
    . rename_i e;exact ⟨e,hm⟩
    simp at hm
   refine {below:=Base.Keeps.refl _,nodef:=rfl,size:= ?_,fl:=λb hb=>⟨hGs b hb,.inl hb⟩,f0:=λb hb=>hb,nd:=λk=> ?_,lo:=λk b hb=>⟨.inr (hLk k b hb).2,hLG b (hLk k b hb).2⟩,dj:=λk k' b hb hb'=>(hLk k b hb).1.trans (hLk k' b hb').1.symm,bo:=λk c hc=>by simp[CP,get] at hc,nb:= .inl rfl,cb:=(λb hb=>by cases hb),bi:=λk k' c c' hc=>by simp[CP,get] at hc,tm:=λt v' hv=> ?_}
   . simp;omega
   . show (if k=63 then L else []:List Nat).Nodup;split
     . exact hnd
     exact List.nodup_nil
   obtain ⟨_,ht⟩:=KV hv
   have hall:All2 (AR (BQ G L) w) (v::vals) (.one (.slc (.own false 63) n l)::args):=by
    refine .cons ?_ ?_
    . show OwnTop G ((BQ G L).L 63) w v n l;rw[hL0];exact OwnTop.keep hrow (λb hb=>⟨hFG b hb,rfl⟩) λ_ _=>rfl
    have key:∀{vs:List Value} {ys:List AV},All2 (AR (YX G) w) vs ys->(∀x,x∈ys->∀c,c∈x.cells->c.key=none/\c.bkeys= [])->All2 (AR (BQ G L) w) vs ys:=by
     intro vs ys ha
     induction ha with
     | nil=>intro _;exact .nil
     | cons h1 _ ih=>
       intro hx;refine .cons (h1.keep λc hc=> ?_) (ih λx hm=>hx x (zK _ hm));obtain ⟨e1,e2⟩:=hx _ (zU ..) c hc;exact ⟨λb hb=>⟨hb,rfl⟩,(λk hk=>by rw[e1] at hk;cases hk),(λk hk=>by rw[e2] at hk;simp at hk)⟩
    exact key hargs hk
   obtain ⟨u,hu,hr⟩:=hall.get' ht;have hlt:t<(v::vals).length:=(zP.1 hu).1
   have:((v::vals).toArray++Array.replicate (fn.ntmps-(v::vals).toArray.size) undef).getD t undef=u:=by
    rw[yD,Array.getElem?_append_left (by simpa using hlt)];simp at hu⊢;rw[hu];rfl
   rw[this];exact hr
 rintro e a' w' ⟨J',s',hR,he,k,hkk⟩
 have hres:∃u,(results fn a'.tmps).run P w'= .ok u w'/\AR J' w' u (.one (.slc (.own false k) n l')):=by
  obtain ⟨us,hrun,hall⟩:=JI (P:=P) htt hR (rs:= [.tmp t]) (vs:= [.one (.slc (.own false k) n l')]) (by simp[FC,hkk]);rw[←hr] at hrun
  have hm:(fn.results.mapM (AN a'.tmps)).run P w'= .ok us.toArray w':=by
   rw[Array.mapM_eq_mapM_toList];simp[hrun]
  have hgen:(results fn a'.tmps).run P w'= .ok (if h:us.toArray.size=1 then us.toArray[0] else .tuple us.toArray) w':=by
   rw[AO];simp only[Sem.run_bind,hm,Result.andThen_ok,Sem.run_pure]
  cases hall with
  | cons h1 h2=>
    cases h2
    exact ⟨_,by rw[hgen];simp,h1⟩
 obtain ⟨u,h1,h2⟩:=hres
 have hT:Qls F L w n false l' (.returned u) w':=by
  refine ⟨u,rfl,λm hm hmL=>⟨hR.below.os,hR.below.tape,hR.below.output,hR.below.size,λj hj=>hR.below.block j (by show j<w.heap.size;omega) λhx=>by have:=hmL j hx;omega⟩,λb hb hn=>hR.below.block b hb hn,J'.L k,hR.nd k,λb hb=> ?_, ?_⟩
  . obtain ⟨h3,h4,_⟩:=hR.lo k b hb;exact ⟨h4,h3⟩
  have h2:OwnTop J'.F (J'.L k) w' u n l':=h2;refine OwnTop.keep h2 (λb hb=>⟨?_,rfl⟩) λ_ _=>rfl
  obtain ⟨h3,h4⟩:=hR.fl b hb;rcases h4 with h4 | h4 | h4
  . exact .inl (hGF b h4)
  . exact .inr ⟨.inl h4,h3,λhm=>(hR.lo k b hm).2.2 hb⟩
  exact .inr ⟨.inr h4,h3,λhm=>(hR.lo k b hm).2.2 hb⟩
 rcases he with rfl | rfl
 . exact ⟨hR.nodef,u,h1,hT⟩
 exact ⟨hR.nodef,u,h1,hT⟩
theorem Ia {a:Act} {t u:Nat} {v:Value} (ht:t<a.tmps.size):(a.put (some t) v).tmps.getD u undef=if u=t then v else a.tmps.getD u undef:=by
 simp only[Act.put,yD,Array.getElem?_setIfInBounds];by_cases h:u=t
 . subst h;simp[ht]
 simp[h,Ne.symm h]
theorem TC {a b:Nat}:yO a b=false↔¬a=b:=by
 cases h:yO a b with
 | true=>simp[xG h]
 | false=>simp;exact Nat.ne_of_beq_eq_false h
theorem Qgp {a:Act} {t:Nat} {v:Value} (h:a.tmps.getD t undef=v) (ht:t<a.tmps.size):a.put (some t) v=a:=by
 have e:a.tmps.setIfInBounds t v=a.tmps:=by
  apply Array.ext
  . simp
  intro i h1 h2;rw[Array.getElem_setIfInBounds];split
  . rename_i e;subst e;rw[←h,yD,yV ht];rfl
  rfl
 show ({a with tmps:=a.tmps.setIfInBounds t v}:Act)=a;rw[e]
theorem PU:∀{vs:List Value} {cs:List C},Hx vs cs=true->∃ps:List PV,ps.length=vs.length/\∀(X:Nat->Prop) (w:World),VC X w vs ps
 | [], [],_=>⟨[],rfl,λ_ _=> .nil⟩
 | [],_::_,h=>by simp[Hx] at h
 | _::_, [],h=>by simp[Hx] at h
 | v ::vs,c::cs,h=>by
   simp only[Hx,zM] at h;obtain ⟨ps,h1,h2⟩:=PU h.2;have hz:=h.1;unfold KA at hz;split at hz
   . rename_i k _ _ _;simp only[zM,decide_eq_true_eq] at hz;obtain ⟨⟨rfl,rfl⟩,rfl⟩:=hz;exact ⟨.int k 0::ps,by simp[h1],λX w=> .cons (.int (by cases k<;>simp[InR,IntKind.min,IntKind.max,IntKind.bits,IntKind.signed])) (h2 X w)⟩
   . rename_i b _;exact ⟨.bool b::ps,by simp[h1],λX w=> .cons (.bool b) (h2 X w)⟩
   . rename_i s _;have hs:s.size=0:=by simp only[zM] at hz;exact xG hz.1
     exact ⟨.str s::ps,by simp[h1],λX w=> .cons (.str (by rw[hs];exact yX _)) (h2 X w)⟩
   . rename_i n;exact ⟨.slc n []::ps,by simp[h1],λX w=> .cons (.emp none n (yX _)) (h2 X w)⟩
   cases hz
theorem PW {X:Nat->Prop} {w:World} {n:Nat} {vs:List Value} {ps:List PV} (h:VC X w vs ps) (hn:ps.length=n):∀m,VR X w n (zG m vs).flatten (zG m ps)
 | 0=> .nil n
 | m+1=>by
   rw[xL,xL,List.flatten_cons];exact .cons h hn (PW h hn m)
theorem TD {z:Array Value} {m:Nat}:(Builtin.zeroCells z m).toList=(zG m z.toList).flatten:=by
 have key:∀(l:List Value) (m:Nat),(List.range (m*l.length)).map (λi=>l[i % l.length]!)=(zG m l).flatten:=by
  intro l m
  induction m with
  | zero=>simp
  | succ m ih=>
    rw[Nat.succ_mul,List.range_add,List.map_append,ih,List.replicate_succ',List.flatten_append]
    congr 1
    simp only[List.map_map,List.flatten_cons,List.flatten_nil,List.append_nil];apply List.ext_getElem
    . simp
    intro i h1 h2;simp only[zV,List.length_range] at h1;simp[Nat.mul_add_mod_self_right,Nat.mod_eq_of_lt h1,h2]
 rw[←key z.toList m];unfold Builtin.zeroCells;rw[Array.toList_map,Array.toList_range];apply List.map_congr_left;intro i _;simp only[zX,getElem!_def,Array.getElem?_toList]
theorem Qgq {vs:List Value} {cs:List C} (h:Hx vs cs=true):∀v,v∈vs->v.oneCell'=true:=by
 induction vs generalizing cs with
 | nil=>intro v hv;simp at hv
 | cons v vs ih=>
   cases cs with
   | nil=>simp[Hx] at h
   | cons c cs=>
     simp only[Hx,zM] at h;intro u hu;rcases List.mem_cons.1 hu with rfl | hu
     . have hz:=h.1;unfold KA at hz;split at hz<;>first | rfl | cases hz
     exact ih h.2 u hu
section
variable {P:Program} {N:Nat} {w0:Base} {F0:Nat->Prop} {J:Inj} {a:Act} {w:World} {s:St} {Q:Exit->St->Prop}
theorem Rel.aside (h:Rel N w0 F0 J a w s) {d:Nat} (hd:d<N) (hn:get s.tm d=none) (v:Value):Rel N w0 F0 J (a.put (some d) v) w s:=
 (h.pure (some d) (λd' e=>by cases e;exact hd) (.one .dead) v (λ_=>trivial)).less (λt x hx=>by
  show get (ins d _ s.tm) t=some x;rw[Pu,if_neg (λe=>by subst e;rw[hn] at hx;cases hx)];exact hx) (λ_ _ h=>h)
theorem GL {tt:List (Nat×TI)} (htt:Gs P tt=true) {sty ety z1:Nat} {z2:List C} {z3:List LK} {ti:TI} (g1:get tt sty=some ⟨.sli ety,z1,z2,z3⟩) (g2:get tt ety=some ti)
 {g cap m i n:Nat} {cur:Array Value} {e:TypeId} (hn:ti.size=n) (hg:w.heap[g]? =some (.cells cur e (0,0))) (hs:cur.size=cap*n) (hi:i<m) (hm:m<=cap) (ty:TypeId):
 ∃ zs:List Value,∃ps:List PV,zs.length=n/\ps.length=n/\(∀(X:Nat->Prop) (w:World),VC X w zs ps)/\
   (Builtin.clear_ #[sty] ty #[.slice (some ⟨g,i*n,none⟩) (m-i) (cap-i)]).run P w= .ok (.tuple #[]) (w.setRow g (cur.toList.take (i*n)++(zG (m-i) zs).flatten++cur.toList.drop (i*n+(m-i)*n)).toArray):=by
 obtain ⟨inf,z,hI,hsz,_,hz,hzs,hzo⟩:=(Zp htt g2).info;obtain ⟨ps,p1,p2⟩:=PU hzo;have hu:=(Zp htt g1).sli;have hzl:z.cells.toList.length=n:=by simpa [hn] using hzs
 refine ⟨z.cells.toList,ps,hzl,by rw[p1,hzl],p2, ?_⟩;obtain ⟨q,hq⟩:∃q,m-i=q+1:=⟨m-i-1,by omega⟩
 have hfl:((zG (m-i) z.cells.toList).flatten).length=(m-i)*n:=by
  rw[yN,yQ,hzl];simp
 have h3:i*n+(m-i)*n<=cap*n:=by rw[←yY];exact zL n (by omega)
 have hst:=run_storeCells_at P g (i*n) e ((zG (m-i) z.cells.toList).flatten) 0 cur w hg (by rw[hfl,hs];simpa using h3) (λv hv=>by
  obtain ⟨l,hl,hv⟩:=List.mem_flatten.1 hv;rw[List.eq_of_mem_replicate hl] at hv;exact Qgq hzo v hv)
 simp only[Nat.add_zero,hfl] at hst;rw[hq] at hst⊢;simp[Builtin.clear_,run_underlying hu,zeroValue,Hk hI,hz,TD,hst]
theorem Qda {tt:List (Nat×TI)} (htt:Gs P tt=true) {id:Nat} {ops:Array Oper} {t0 t5 d1 d2 d3 sty ety z1:Nat} {z2:List C} {z3:List LK} {ti:TI} {y1 y2 y3 y4:TypeId} {q1 q2 q3 q4:String} {f1 f2 f3 f4:Array Edge}
 (hops:ops= #[⟨some d1,.move (.tmp t0),y1,q1,f1,none⟩,⟨some d2,.move (.tmp t5),y2,q2,f2,none⟩,⟨some d3,.slice sty (.tmp d1) (some (.tmp d2)) none none,y3,q3,f3,none⟩,⟨none,.call {callee:= .builtin .clear,args:= #[.tmp d3],argTypes:= #[sty]},y4,q4,f4,none⟩])
 (hN:(Nat.blt d1 N&&Nat.blt d2 N&&Nat.blt d3 N&&Nat.blt t0 N&& !(yO d1 t0)&& !(yO d1 t5)&& !(yO d2 t0)&& !(yO d2 t5)&& !(yO d3 t0)&& !(yO d3 t5)&& !(yO d1 d2)&& !(yO t0 t5))=true)
 (g1:get tt sty=some ⟨.sli ety,z1,z2,z3⟩) (g2:get tt ety=some ti) {k n:Nat} {l:List (List PV)} (hk:get s.tm t0=some (.one (.slc (.own false k) n l))) (hn:ti.size=n) {i:Int} (hi:get s.tm t5=some (.one (.int .i64 i))) (h0:0<=i) (hl:i<l.length)
 (hQ:∀l',l'.length=l.length->l'.take i.toNat=l.take i.toNat->Q .normal ⟨[(t0,.one (.slc (.own false (64*t0)) n l')),(t5,.one (.int .i64 i))], []⟩):AWP P N w0 F0 (.region id ops false) Q s:=λJ a w hr=>by
 simp only[zM,Nat.blt_eq,Bool.not_eq_true',TC] at hN;obtain ⟨⟨⟨⟨⟨⟨⟨⟨⟨⟨⟨m1,m2⟩,m3⟩,m0⟩,n1⟩,n2⟩,n3⟩,n4⟩,n5⟩,n6⟩,n7⟩,n8⟩:=hN;obtain ⟨j,rfl⟩:∃j:Nat,i=(j:Int):=⟨i.toNat,by omega⟩;have hj:j<l.length:=by omega
 have e0:CR J w (a.tmps.getD t0 undef) (.slc (.own false k) n l):=hr.tm t0 _ hk;have e5:CR J w (a.tmps.getD t5 undef) (.int .i64 (j:Int)):=hr.tm t5 _ hi;obtain ⟨e5,_⟩:=e5;rcases (show OwnTop J.F (J.L k) w _ n l from e0) with ⟨e,_⟩ | ⟨g,cap,cur,e,hL,e0,hg,hs,hvr,hlc,hcap⟩
 . rw[e] at hj;simp at hj
 obtain ⟨zs,ps,hzl,hpl,hzv,hrun⟩:=GL (P:=P) (w:=w) htt g1 g2 hn hg hs hj hlc y4;have hu:=(Zp htt g1).sli;have hsz:=Ae (P:=P) (Zp htt g2) w;rw[hn] at hsz
 have hr5:Rel N w0 F0 J a w ⟨[(t5,.one (.int .i64 (j:Int)))], []⟩:=hr.less (λt v hv=>by
  simp only[get] at hv;split at hv
  . rename_i e;subst e;rw[hi];exact hv
  cases hv) (λk c hc=>by cases hc)
 have no:∀d,¬d=t5->get (⟨[(t5,.one (.int .i64 (j:Int)))], []⟩:St).tm d=none:=λd hd=>by
  show (if t5=d then _ else _)=none;rw[if_neg (λe=>hd e.symm)];rfl
 have s0:=hr.size;have hr1:=(hr5.aside m1 (no _ n2) (.slice (some ⟨g,0,none⟩) l.length cap)).aside m2 (no _ n4) (.int .i64 (j:Int));have hr3:=hr1.aside m3 (no _ n6) (.slice (some ⟨g,0+j*n,none⟩) (l.length-j) (cap-j));subst hops;refine wp_region ?_;show wpOps P _ (QX N w0 F0 Q) [0,1,2,3] a w;rw[wpOps_cons];unfold wpOp;simp only[yC,yA];rw[if_pos (by simp[Region.wanted])];refine .inl (Vu (v:= .slice (some ⟨g,0,none⟩) l.length cap) (w':=w) (by simp[execOp,e0,Act.eval]) ?_);rw[wpOps_cons];unfold wpOp;simp only[yC,yH,yA];rw[if_pos (by simp[Region.wanted])];have e5':(a.put (some d1) (.slice (some ⟨g,0,none⟩) l.length cap)).tmps.getD t5 undef= .int .i64 (j:Int):=(Ia (by omega)).trans ((if_neg (λe=>n2 e.symm)).trans e5);refine .inl (Vu (v:= .int .i64 (j:Int)) (w':=w) (by simp[execOp,e5',Act.eval]) ?_);rw[wpOps_cons];unfold wpOp;simp only[yC,yH,yA];rw[if_pos (by simp[Region.wanted])];have hs1:(a.put (some d1) (.slice (some ⟨g,0,none⟩) l.length cap)).tmps.size=N:=by simp[Act.put,s0]
 have ea:((a.put (some d1) (.slice (some ⟨g,0,none⟩) l.length cap)).put (some d2) (.int .i64 (j:Int))).eval (.tmp d1)= .slice (some ⟨g,0,none⟩) l.length cap:=(Ia (by omega)).trans ((if_neg n7).trans ((Ia (by omega)).trans (if_pos rfl)));have eb:((a.put (some d1) (.slice (some ⟨g,0,none⟩) l.length cap)).put (some d2) (.int .i64 (j:Int))).eval (.tmp d2)= .int .i64 (j:Int):=(Ia (by omega)).trans (if_pos rfl)
 have hsb:(Instr.sliceBounds true l.length cap (some (.int .i64 (j:Int))) none none).run P w= .ok (j,l.length,cap) w:=by
  have e4:∀c,(Instr.sliceBound (.int .i64 (j:Int)) l.length c).run P w= .ok j w:=λc=>by
   have:=Rt (P:=P) (w:=w) (k:= .i64) (lo:=(j:Int)) (Y:=c) (y:=l.length) (by omega) (by omega);simpa using this
  unfold Instr.sliceBounds;simp only[Sem.run_bind,Sem.run_pure,Result.andThen_ok];simp[e4]
 refine .inl (Vu (v:= .slice (some ⟨g,0+j*n,none⟩) (l.length-j) (cap-j)) (w':=w) (by
  have hca:cap≠j:=by omega
  simp[execOp,ea,eb,Instr.sliceAt,run_underlying hu,Instr.slice,hsb,hsz,hca,Addr.add_lit]) ?_)
 rw[wpOps_cons];unfold wpOp;simp only[yC,yH,yA];rw[if_pos (by simp[Region.wanted])];generalize ha2:((a.put (some d1) (.slice (some ⟨g,0,none⟩) l.length cap)).put (some d2) (.int .i64 (j:Int)))=a2 at*;have s2:a2.tmps.size=N:=hr1.size;have ec:(a2.put (some d3) (.slice (some ⟨g,0+j*n,none⟩) (l.length-j) (cap-j))).eval (.tmp d3)= .slice (some ⟨g,j*n,none⟩) (l.length-j) (cap-j):=(Ia (by omega)).trans ((if_pos rfl).trans (by simp));have ec:=ec;simp only[yE] at ec
 refine .inl (Vu (v:= .tuple #[]) (w':=w.setRow g (cur.toList.take (j*n)++(zG (l.length-j) zs).flatten++cur.toList.drop (j*n+(l.length-j)*n)).toArray) (by
  simp[execOp,resolve,invoke,builtin,ec,hrun]) ?_)
 generalize ha3:a2.put (some d3) (.slice (some ⟨g,0+j*n,none⟩) (l.length-j) (cap-j))=a3 at*;show QX N w0 F0 Q .normal a3 _
 have e03:a3.tmps.getD t0 undef= .slice (some ⟨g,0,none⟩) l.length cap:=by
  rw[←ha3];refine (Ia (by omega)).trans ((if_neg (λe=>n5 e.symm)).trans ?_);rw[←ha2];exact (Ia (by omega)).trans ((if_neg (λe=>n3 e.symm)).trans ((Ia (by omega)).trans ((if_neg (λe=>n1 e.symm)).trans e0)))
 have hgk:g∈J.L k:=by rw[hL];exact zU
 have hgF:¬J.F g:=(hr.lo k g hgk).2.2;generalize hw':w.setRow g (cur.toList.take (j*n)++(zG (l.length-j) zs).flatten++cur.toList.drop (j*n+(l.length-j)*n)).toArray=w';have hgw:w'.heap[g]? =some (.cells (cur.toList.take (j*n)++(zG (l.length-j) zs).flatten++cur.toList.drop (j*n+(l.length-j)*n)).toArray e (0,0)):=by rw[←hw'];exact setRow_heap w g cur _ e (0,0) hg
 have hother:∀b,b≠g->w'.heap[b]? =w.heap[b]? :=λb hb=>by rw[←hw'];exact setRow_other w g b _ hb
 have hsize:w'.heap.size=w.heap.size:=by rw[←hw'];simp[World.setRow]
 have hbelow:w0.Keeps w':=by
  refine hr.below.step (by rw[←hw'];rfl) (by rw[←hw'];rfl) (by rw[←hw'];rfl) (by omega) λb _ hnl=>hother b λe=> ?_
  exact hnl (e▸(hr.lo k g hgk).1)
 have hfl:((zG (l.length-j) zs).flatten).length=(l.length-j)*n:=by
  rw[yN,yQ,hzl];simp
 have hsum:j*n+(l.length-j)*n=l.length*n:=by rw[←yY];congr 1;omega
 have hle:l.length*n<=cap*n:=zL n hlc;have hcl:cur.toList.length=cap*n:=by simpa using hs
 have hjn:j*n<=cap*n:=zL n (by omega);have htl:(l.take j++zG (l.length-j) ps).length=l.length:=by simp;omega
 have hown:OwnTop (Ty J w w' (64*t0) k [] [g]).F [g] w' (.slice (some ⟨g,0,none⟩) l.length cap) n (l.take j++zG (l.length-j) ps):=by
  refine .inr ⟨g,cap,_,e,rfl,by rw[htl],hgw, ?_, ?_,by rw[htl];exact hlc,by rw[htl];exact hcap⟩
  . simp only[yZ,zJ,hfl,zN,zY,hcl];omega
  rw[htl]
  have:((cur.toList.take (j*n)++(zG (l.length-j) zs).flatten++cur.toList.drop (j*n+(l.length-j)*n)).toArray.toList.take (l.length*n))=cur.toList.take (j*n)++(zG (l.length-j) zs).flatten:=by
   show ((_:List Value)++_++_).take _=_
   have hln:(cur.toList.take (j*n)++(zG (l.length-j) zs).flatten).length=l.length*n:=by
    simp only[zJ,hfl,zN,hcl];omega
   rw[zQ (by omega),zS (by omega)]
  rw[this];refine VR.append (PW (hzv _ _) hpl _) (VR.keep (X:=J.F) (w:=w) (λb hb=>⟨.inl hb,hother b λe=>hgF (e▸hb)⟩) ?_);have h3:=hvr.take j
  rwa [yI,Nat.min_eq_left (by omega)] at h3
 have hR:=KO hr3 (t:=t0) (k:=k) (n:=n) m0 (frz:= []) (L':= [g]) (by simp) (w':=w') (u:= .slice (some ⟨g,0,none⟩) l.length cap) (l':=l.take j++zG (l.length-j) ps) (d:=false) hbelow (by omega) (λb hb hn=>hother b λe=>hn (e▸hgk)) (by simp) (λb hb=>by
  obtain rfl:=yR.1 hb
  exact ⟨by have:=(hr.lo k b hgk).2.1;omega,.inr hgk⟩) (by
   show OwnTop _ ((Ty J w w' (64*t0) k [] [g]).L (64*t0)) _ _ _ _;rw[show (Ty J w w' (64*t0) k [] [g]).L (64*t0)= [g] from if_pos rfl];exact hown)
 rw[Qgp e03 (by rw[hr3.size];exact m0)] at hR;refine ⟨_,_,hR.less (s':=⟨[(t0,.one (.slc (.own false (64*t0)) n (l.take j++zG (l.length-j) ps))),(t5,.one (.int .i64 (j:Int)))], []⟩) (λt v hv=> ?_) (λk c hc=>by cases hc),hQ _ htl (by simp[List.take_append,yI];omega)⟩;show get (ins t0 _ [(t5,AV.one (.int .i64 (j:Int)))]) t=some v;rw[Pu];simp only[get] at hv⊢;exact hv
end
end
section
open Go.RowKit
section
variable {P:Program}
theorem JU (w:World) (dT sT ty elem:TypeId) (inf:TypeInfo) (b o dLen dCap:Nat) (a:Addr) (sLen sCap:Nat) (cs:List Value) (hu:P.underlying dT=some (.slice elem)) (hi:P.info? elem=some inf)
 (hn:cs.length=yP sLen dLen*inf.size) (hsrc:∀j v,cs[j]? =some v->w.cell? (a.add j)=some v) {cur:Array Value} {e:TypeId} (hg:w.heap[b]? =some (.cells cur e (0,0))) (hfit:o+cs.length<=cur.size) (h1:∀v∈cs,v.oneCell'=true):
 (Builtin.copy_ #[dT,sT] ty #[.slice (some ⟨b,o,none⟩) dLen dCap,.slice (some a) sLen sCap]).run P w= .ok (goInt (yP sLen dLen)) (w.setCells b o cs):=by
 have hl:=run_loadCells_list (P:=P) w a cs hsrc
 have hc:∀j,j<cs.length->(w.cell? ⟨b,o+j,none⟩).isSome=true:=λj hj=>by
  have:o+j<cur.size:=by omega
  simp[World.cell?,hg,this]
 have hf:∀j,j<cs.length->w.frozen? ⟨b,o+j,none⟩=false:=λj hj=>by simp[World.frozen?,hg]
 have hst:=run_storeCells_cells (P:=P) b o cs 0 w (by simpa using hc) (by simpa using hf) h1;simp[Builtin.copy_,run_underlying hu,Builtin.lenOf,Builtin.firstCells,sizeOf,typeInfo,hi,←hn,hl,hst]
theorem GM (w:World) (tS tR e:TypeId) (ht:P.underlying tS=some (.slice e)) (size:Nat) (hz:∀w,(Go.sizeOf e).run P w= .ok size w) (a b:Addr) (la ca lb cb:Nat) (hne:a.block≠b.block)
 {arrA:Array Value} {tA:TypeId} {frA:Nat×Nat} (hA:w.heap[a.block]? =some (.cells arrA tA frA)) {arrB:Array Value} {tB:TypeId} (hB:w.heap[b.block]? =some (.cells arrB tB (0,0))) (hpos:0<arrB.size) (hposA:0<arrA.size):
 (Extern.SlicesOverlaps.overlaps #[tS,tS] #[tR] #[.slice (some a) la ca,.slice (some b) lb cb]).run P w= .ok (.bool false) w:=by
 have hsa:w.shape? a.block=some (tA,arrA.size):=by simp[World.shape?,hA]
 have hsb:w.shape? b.block=some (tB,arrB.size):=by simp[World.shape?,hB]
 have hfb:∀o,w.frozen? ⟨b.block,o,none⟩=false:=λo=>by simp[World.frozen?,hB]
 have hfb':w.frozen? b=false:=by simp[World.frozen?,hB]
 have hnb:(a.block !=b.block)=true:=by simpa using hne
 have hnb':(a.block==b.block)=false:=by simpa using hne
 obtain ⟨kb,hkb⟩:∃kb,arrB.size=kb+1:=⟨arrB.size-1,by omega⟩;rw[hkb] at hsb;obtain ⟨ka,hka⟩:∃ka,arrA.size=ka+1:=⟨arrA.size-1,by omega⟩;rw[hka] at hsa
 change Sem.run P (underlying tS >>= _) w = _
 by_cases h0:la=0\/lb=0\/size=0
 . simp[run_underlying ht,hz,h0]
 cases hfa:w.frozen? a with
 | true=>simp[run_underlying ht,hz,h0,hnb,hnb',frozen,noView,viewAt,mayBeOne,stringish,shape,Sem.run,hsa,hsb,hfa,hfb,hfb']
 | false=>
   cases hfa2:w.frozen? {block:=a.block,off:=ka+1} with
   | true=>simp[run_underlying ht,hz,h0,hnb,hnb',frozen,noView,viewAt,mayBeOne,stringish,shape,Sem.run,hsa,hsb,hfa,hfb,hfb',hfa2]
   | false=>simp[run_underlying ht,hz,h0,hnb,hnb',frozen,noView,viewAt,mayBeOne,stringish,shape,Sem.run,hsa,hsb,hfa,hfb,hfb',hfa2]
structure RowAt (w:World) (n:Nat) (oa:Option Addr) (m cap:Nat) (olds:List Value):Prop where
 len:olds.length=m*n
 row:(oa=oa/\m=0/\cap=0)\/∃g cur e,oa=some ⟨g,0,none⟩/\w.heap[g]? =some (.cells cur e (0,0))/\cur.size=cap*n/\cur.toList.take (m*n)=olds
 le:m<=cap
 cap:cap<=maxLen
 lim:m<1073741824
 ones:∀u,u∈olds->u.oneCell'=true
structure Turned (w w':World) (n:Nat) (oa:Option Addr) (cap:Nat) (u:Value) (m':Nat) (news:List Value):Prop where
 os:w'.os=w.os
 tape:w'.tape=w.tape
 output:w'.output=w.output
 size:w.heap.size<=w'.heap.size
 row:∃g' cap' cur' e',u= .slice (some ⟨g',0,none⟩) m' cap'/\w'.heap[g']? =some (.cells cur' e' (0,0))/\cur'.size=cap'*n/\cur'.toList.take (m'*n)=news/\m'<=cap'/\cap'<=maxLen/\
  ((oa=some ⟨g',0,none⟩/\0<cap/\∀b,b≠g'->w'.heap[b]? =w.heap[b]?)\/(w.heap.size<=g'/\g'<w'.heap.size/\∀b,b<w.heap.size->w'.heap[b]? =w.heap[b]?))
def TE (w:World) (n i:Nat) (oa:Option Addr) (m cap:Nat) (olds vs:List Value) (e:Ending) (w':World):Prop:=
 ∃u,e= .returned u/\Turned w w' n oa cap u (m+1) (olds.take (i*n)++vs++olds.drop (i*n))
structure OneAt (w:World) (n:Nat) (oa:Option Addr) (cap:Nat) (vb voff:Nat) (vs:List Value):Prop where
 len:vs.length=n
 cells:∀j u,vs[j]? =some u->w.cell? ⟨vb,voff+j,none⟩=some u
 ones:∀u,u∈vs->u.oneCell'=true
 ne:∀g,oa=some ⟨g,0,none⟩->0<cap->vb≠g
theorem Qh9 {F:Nat->Prop} {L:List Nat} {w:World} {v:Value} {n:Nat} {l:List (List PV)} (h:OwnTop F L w v n l) (hl:l.length<1073741824):
 ∃oa cap olds,v= .slice oa l.length cap/\RowAt w n oa l.length cap olds/\VR F w n olds l/\(0<cap->∃g,oa=some ⟨g,0,none⟩/\L= [g]):=by
 rcases h with ⟨rfl,oa,rfl⟩ | ⟨g,cap,cur,e,rfl,rfl,hg,hs,hr,h1,h2⟩
 . exact ⟨oa,0, [],rfl,⟨by simp,.inl ⟨rfl,rfl,rfl⟩,yK _,yX _,by simp,by simp⟩,.nil n,λh=>by omega⟩
 exact ⟨some ⟨g,0,none⟩,cap,_,rfl,⟨hr.length,.inr ⟨g,cur,e,rfl,hg,hs,rfl⟩,h1,h2.1,hl,hr.ones⟩,hr,λ_=>⟨g,rfl,rfl⟩⟩
theorem Turned.ret {F G:Nat->Prop} {L:List Nat} {w w':World} {n:Nat} {oa:Option Addr} {cap:Nat} {u:Value} {m':Nat} {news:List Value} (h:Turned w w' n oa cap u m' news) (hF:∀b,F b->b<w.heap.size/\b∉L) (hL:0<cap->∃g,oa=some ⟨g,0,none⟩/\L= [g]) (hLs:∀b,b∈L->b<w.heap.size)
 {l':List (List PV)} (hv:VR F w n news l') (hm:l'.length=m') (hlim:m'<=1073741824):Qls F L w n false l' (.returned u) w':=by
 obtain ⟨g',cap',cur',e',rfl,hg,hs,ht,h1,h2,h3⟩:=h.row
 have hsame:∀b,b<w.heap.size->b∉L->w'.heap[b]? =w.heap[b]? :=λb hb hn=>by
  rcases h3 with ⟨h3,hc,h4⟩ | ⟨_,_,h4⟩
  . obtain ⟨g,h5,rfl⟩:=hL hc;rw[h3] at h5;obtain rfl:g'=g:=by simpa using h5
    exact h4 b λe=>hn (by simp[e])
  exact h4 b hb
 refine ⟨_,rfl,λm hm hmL=>⟨h.os,h.tape,h.output,h.size,λb hb=>hsame b (by omega) λhx=>by have:=hmL b hx;omega⟩,hsame, [g'],by simp,λb hb=> ?_, ?_⟩
 . obtain rfl:=yR.1 hb;refine ⟨Q7 hg, ?_⟩;rcases h3 with ⟨h3,hc,_⟩ | ⟨h3,_,_⟩
   . obtain ⟨g,h5,rfl⟩:=hL hc;rw[h3] at h5;obtain rfl:b=g:=by simpa using h5
     exact .inr (by simp)
   exact .inl h3
 refine .inr ⟨g',cap',cur',e',rfl,by rw[hm],hg,hs, ?_,by rw[hm];exact h1,h2,by rw[hm];exact hlim⟩;rw[hm,ht];exact hv.keep λb hb=>⟨.inl hb,hsame b (hF b hb).1 (hF b hb).2⟩
theorem Qdb {f n:Nat} (hok:It P f) (h0:0<n)
 (hrun:∀w oa m cap olds i vb voff vc vs,RowAt w n oa m cap olds->OneAt w n oa cap vb voff vs->i<=m->Calls P f #[.slice oa m cap,.int .i64 (i:Int),.slice (some ⟨vb,voff,none⟩) 1 vc] w (TE w n i oa m cap olds vs))
 {l:List (List PV)} {x:List PV} {i:Int} {j:Nat} (hij:i=(j:Int)) (hj:j<=l.length) (hl:l.length<1073741824):ATake P f n l [.one (.int .i64 i),.one (.slc .sh n [x])] true false (l.take j++ [x]++l.drop j):=by
 subst hij;refine ⟨hok,λw F G L v vals _ hFG hGF hGs hnd hLG hrow hargs=> ?_⟩;have hGF:=hGF rfl;cases hargs with
 | cons a1 ha=>
 cases ha with
 | cons a2 ha=>
 cases ha
 obtain ⟨rfl,_⟩:_=Value.int .i64 (j:Int)/\InR .i64 (j:Int):=a1;have a2:VV G w _ (.slc n [x]):=a2;obtain ⟨oa,cap,olds,rfl,hR,hV,hL⟩:=Qh9 hrow hl;generalize hp:PV.slc n [x]=p at a2;cases a2 with
 | int | bool | str | any=>cases hp
 | emp=>cases hp
 | @slc vb voff vc n' cs l1 hb hc hr h1 h2=>
   obtain ⟨rfl,rfl⟩:n=n'/\ [x]=l1:=by simpa using hp
   have hcl:cs.length=n:=by rw[hr.length];simp
   have hone:OneAt w n oa cap vb voff cs:=⟨hcl,hc,hr.ones,λg hg hcap e=>by
    obtain ⟨g',h5,rfl⟩:=hL hcap;rw[hg] at h5;obtain rfl:g=g':=by simpa using h5
    exact (hLG g (by simp)).2 (e▸hb)⟩
   refine (hrun w oa l.length cap olds j vb voff vc cs hR hone hj).mono ?_
   rintro e w' ⟨u,rfl,hT⟩
   refine hT.ret (G:=G) (λb hb=>⟨hGs b (hFG b hb),λhm=>(hLG b hm).2 (hFG b hb)⟩) hL (λb hb=>(hLG b hb).1) ?_ ?_ (by omega)
   . exact VR.append (hV.drop j) (VR.append (hr.keep λb hb=>⟨hGF b hb,rfl⟩) (hV.take j))
   simp;omega
def MV (w:World) (n i:Nat) (oa:Option Addr) (m cap:Nat) (olds:List Value) (e:Ending) (w':World):Prop:=
 ∃u,e= .returned u/\Turned w w' n oa cap u (m-1) (olds.take (i*n)++olds.drop ((i+1)*n))
theorem Qdc {f n:Nat} (hok:It P f)
 (hrun:∀w oa m cap olds i,RowAt w n oa m cap olds->i<m->Calls P f #[.slice oa m cap,.int .i64 (i:Int),.int .i64 ((i:Int)+1)] w (MV w n i oa m cap olds))
 {l:List (List PV)} {i k:Int} {j:Nat} (hij:i=(j:Int)) (hk:k=(j:Int)+1) (hj:j<l.length) (hl:l.length<1073741824):ATake P f n l [.one (.int .i64 i),.one (.int .i64 k)] true false (l.take j++l.drop (j+1)):=by
 subst hij;subst hk;refine ⟨hok,λw F G L v vals _ hFG hGF hGs hnd hLG hrow hargs=> ?_⟩;cases hargs with
 | cons a1 ha=>
 cases ha with
 | cons a2 ha=>
 cases ha
 obtain ⟨rfl,_⟩:_=Value.int .i64 (j:Int)/\InR .i64 (j:Int):=a1;obtain ⟨rfl,_⟩:_=Value.int .i64 ((j:Int)+1)/\InR .i64 ((j:Int)+1):=a2;obtain ⟨oa,cap,olds,rfl,hR,hV,hL⟩:=Qh9 hrow hl;refine (hrun w oa l.length cap olds j hR hj).mono ?_
 rintro e w' ⟨u,rfl,hT⟩
 refine hT.ret (G:=G) (λb hb=>⟨hGs b (hFG b hb),λhm=>(hLG b hm).2 (hFG b hb)⟩) hL (λb hb=>(hLG b hb).1) ?_ ?_ (by omega)
 . exact VR.append (hV.drop (j+1)) (hV.take j)
 simp;omega
end
end
section
open Go.RowKit
section
variable {P:Program} {t e:TypeId} {ei:TI} {w:World} {oa:Option Addr} {m cap i vb voff vc:Nat} {olds vs:List Value}
theorem Qj4 {i m n:Nat} (hi:i<m):(i+1)*n=i*n+n/\i*n+n<=m*n/\(m-i)*n=m*n-i*n/\(m+1)*n=m*n+n:=by
 have h1:(i+1)*n<=m*n:=zL n (by omega);have h2:(i+1)*n=i*n+n:=by rw[yY,yL]
 exact ⟨h2,by omega,xQ ..,by rw[yY,yL]⟩
theorem OneAt.block {n:Nat} (h:OneAt w n oa cap vb voff vs) (h0:0<n):vb<w.heap.size/\∃arr tA fr,w.heap[vb]? =some (.cells arr tA fr)/\0<arr.size:=by
 have hl:0<vs.length:=by rw[h.len];exact h0
 have hc:=h.cells 0 vs[0] (yG hl);unfold World.cell? at hc;split at hc
 . rename_i arr tA fr hh;refine ⟨Q7 hh,arr,tA,fr,hh, ?_⟩;have hc:arr[voff+0]? =some vs[0]:=by simpa using hc
   have:=(Array.getElem?_eq_some_iff.1 hc).1;omega
 cases hc
theorem Sp {w:World} {ops:Array Oper} {rest:List Oper} {o:Oper} {a:Act} {Q:Exit->Act->World->Prop} (hgd:o.guard=none) (d s:Operand) (t t':TypeId)
 (ho:o.op= .call {callee:= .builtin .copy,args:= #[d,s],argTypes:= #[t,t']}) (v u:Value) (hd:a.eval d=v) (hs:a.eval s=u) {v':Value} {w':World}
 (hr:(Builtin.copy_ #[t,t'] o.type #[v,u]).run P w= .ok v' w') (h:wpList P ops Q rest (a.put o.dst v') w'):wpList P ops Q (o::rest) a w:=
 wpList_plain hgd λK hK=>by
  unfold Oper.wp execOp;simp only[ho,resolve,invoke,builtin,Sem.run_bind,Sem.run_pure,Result.andThen_ok,xB,xN,xO,hd,hs,hr];exact hK _ _ h
theorem ZF {w:World} {ops:Array Oper} {o:Oper} {a:Act} {K:Act->World->Prop} {Q:Exit->Act->World->Prop} {E:Prop}
 (hg:o.guard=none) (d x:Operand) (dT sT:TypeId) (hop:o.op= .call {callee:= .builtin .copy,args:= #[d,x],argTypes:= #[dT,sT]})
 (v u:Value) (hd:a.eval d=v) (hx:a.eval x=u) {v':Value} {w':World} (hr:(Builtin.copy_ #[dT,sT] o.type #[v,u]).run P w= .ok v' w') (hK:K (a.put o.dst v') w'):
 if Region.wanted o (yielded ops a.tmps)=true then Oper.wp P o a w K Q else E:=by
 rw[if_pos (by simp[Region.wanted,hg])];unfold Oper.wp execOp;simp only[hop,resolve,invoke,builtin,Sem.run_bind,Sem.run_pure,Result.andThen_ok,xB,xN,xO,hd,hx,hr];exact hK
theorem G0 {w:World} {ops:Array Oper} {o:Oper} {a:Act} {K:Act->World->Prop} {Q:Exit->Act->World->Prop} {E:Prop}
 (hg:o.guard=none) (d x:Operand) (dT sT:TypeId) (hop:o.op= .call {callee:= .builtin .append,args:= #[d,x],argTypes:= #[dT,sT]})
 (v u:Value) (hd:a.eval d=v) (hx:a.eval x=u) {v':Value} {w':World} (hr:(Builtin.append_ #[dT,sT] o.type #[v,u]).run P w= .ok v' w') (hK:K (a.put o.dst v') w'):
 if Region.wanted o (yielded ops a.tmps)=true then Oper.wp P o a w K Q else E:=by
 rw[if_pos (by simp[Region.wanted,hg])];unfold Oper.wp execOp;simp only[hop,resolve,invoke,builtin,Sem.run_bind,Sem.run_pure,Result.andThen_ok,xB,xN,xO,hd,hx,hr];exact hK
theorem Mo (g:Nat):∀(vs:List Value) (o:Nat) (w:World),(w.drew.setCells g o vs).heap=(w.setCells g o vs).heap
 | [],_,_=>rfl
 | v::vs,o,w=>Mo g vs (o+1) (w.setCell ⟨g,o,none⟩ v)
theorem Qj5 (hu:P.underlying t=some (.slice e)) (hO:OneAt w ei.size oa cap vb voff vs):Src P ei.size t (.slice (some ⟨vb,voff,none⟩) 1 vc) 1 vs w:=
 Src.ofSlice w hu _ _ _ _ (by rw[hO.len];omega) (λj u hj=>by rw[Addr.add_lit];exact hO.cells j u hj) hO.ones
theorem Qgr (hu:P.underlying t=some (.slice e)) (hei:TiOk P e ei) (hn:0<ei.size) (hR:RowAt w ei.size oa m cap olds) (hO:OneAt w ei.size oa cap vb voff vs):
 ∃u w',(∀ty,(Builtin.append_ #[t,t] ty #[.slice oa m cap,.slice (some ⟨vb,voff,none⟩) 1 vc]).run P w= .ok u w')/\TE w ei.size m oa m cap olds vs (.returned u) w':=by
 have hold:∀ad,oa=some ad->∀(j:Nat) (u:Value),olds[j]? =some u->w.cell? (ad.add j)=some u:=λad had j u hj=>by
  rcases hR.row with ⟨_,h0,_⟩ | ⟨g,cur,e0,h1,h2,h3,h4⟩
  . have:=hR.len;rw[h0,Nat.zero_mul] at this;rw[xC.1 this] at hj;simp at hj
  rw[had] at h1;obtain rfl:=Option.some.inj h1;rw[←h4] at hj;exact Ni h2 _ j u hj
 obtain ⟨g',cap',cur',e',w',hr,h1,h2,h3,h4,h5,h6,h7,h8,h9,h10⟩:=AF (ty:=0) hu hei hn hR.len hold (λh=>by
  rcases hR.row with ⟨_,h0,_⟩ | ⟨g,cur,e0,h1,_⟩
  . exact h0
  rw[h] at h1;cases h1) (hR.row.imp (λh=>h.2.2) λh=>h) hR.le (Qj5 (vc:=vc) hu hO) (by have:=hR.lim;omega) (λ_=>by omega) hR.cap
 refine ⟨_,w',λty=>hr,_,rfl,⟨h6,h7,h8,h9,g',cap',cur',e',rfl,h1,h2, ?_,h4,h5, ?_⟩⟩
 . rw[h3,zS (by rw[hR.len];omega),List.drop_of_length_le (by rw[hR.len];omega),List.append_nil]
 exact h10.imp (λ⟨cur,e0,h1,h2,h3,h4⟩=>⟨h1,by omega,h4⟩) λ⟨h1,h2,h3⟩=>⟨by omega,h2,h3⟩
variable {g:Nat} {cur:Array Value} {e0:TypeId}
theorem WH (hg:w.heap[g]? =some (.cells cur e0 (0,0))) (htk:cur.toList.take (m*ei.size)=olds) {k:Nat}:∀(j:Nat) (u:Value),(olds.drop k)[j]? =some u->w.cell? ((⟨g,k,none⟩:Addr).add j)=some u:=λj u hj=>by
 rw[yS,←htk] at hj;have:=Ni hg _ _ u hj;rw[Addr.add_lit,yE] at this;rw[Addr.add_lit];exact this
theorem Aj (g:Nat):∀(vs:List Value) (o:Nat) (w:World),(w.setCells g o vs).os=w.os/\(w.setCells g o vs).tape=w.tape/\(w.setCells g o vs).output=w.output
 | [],_,_=>⟨rfl,rfl,rfl⟩
 | v::vs,o,w=>Aj g vs (o+1) (w.setCell ⟨g,o,none⟩ v)
theorem GN (hu:P.underlying t=some (.slice e)) (hei:TiOk P e ei) (hn:0<ei.size) (hg:w.heap[g]? =some (.cells cur e0 (0,0))) (hcs:cur.size=cap*ei.size) (htk:cur.toList.take (m*ei.size)=olds)
 (hR:RowAt w ei.size (some ⟨g,0,none⟩) m cap olds) (hO:OneAt w ei.size (some ⟨g,0,none⟩) cap vb voff vs) (hi:i<m) (hroom:m+1<=cap):
 (∀ty dc sc,(Builtin.copy_ #[t,t] ty #[.slice (some ⟨g,(i+1)*ei.size,none⟩) (m+1-(i+1)) dc,.slice (some ⟨g,i*ei.size,none⟩) (m+1-i) sc]).run P w= .ok (goInt (yP (m+1-i) (m+1-(i+1)))) (w.setCells g ((i+1)*ei.size) (olds.drop (i*ei.size))))/\
 (∀W:World,W.heap=(w.setCells g ((i+1)*ei.size) (olds.drop (i*ei.size))).heap->∀ty dc,(Builtin.copy_ #[t,t] ty #[.slice (some ⟨g,i*ei.size,none⟩) (m+1-i) dc,.slice (some ⟨vb,voff,none⟩) 1 vc]).run P W= .ok (goInt (yP 1 (m+1-i))) (W.setCells g (i*ei.size) vs))/\
 (∀W:World,W.heap=(w.setCells g ((i+1)*ei.size) (olds.drop (i*ei.size))).heap->W.os=w.os->W.tape=w.tape->W.output=w.output->TE w ei.size i (some ⟨g,0,none⟩) m cap olds vs (.returned (.slice (some ⟨g,0,none⟩) (m+1) cap)) (W.setCells g (i*ei.size) vs)):=by
 obtain ⟨inf,z,hI,hsz,_⟩:=hei.info;obtain ⟨k1,k2,k3,k4⟩:=Qj4 (n:=ei.size) hi;have k5:m*ei.size+ei.size<=cap*ei.size:=by rw[←k4];exact zL _ hroom
 have hdl:(olds.drop (i*ei.size)).length=(m-i)*ei.size:=by rw[zY,hR.len,k3]
 have hfit1:(i+1)*ei.size+(olds.drop (i*ei.size)).length<=cur.size:=by rw[hdl];omega
 have hmin:yP (m+1-i) (m+1-(i+1))=m-i:=by simp only[xI];split<;>omega
 have hmin1:yP 1 (m+1-i)=1:=by simp only[xI];split<;>omega
 have hvb:vb≠g:=hO.ne g rfl (by omega);have hg1:=W0 g (olds.drop (i*ei.size)) ((i+1)*ei.size) w hg;have hfit2:i*ei.size+vs.length<=(putCells cur ((i+1)*ei.size) (olds.drop (i*ei.size))).size:=by rw[Wk,hO.len];omega
 refine ⟨λty dc sc=> ?_,λW hW ty dc=> ?_,λW hW ho ht hu'=> ?_⟩
 . exact JU w t t ty e inf g _ _ dc ⟨g,i*ei.size,none⟩ _ sc _ hu hI (by rw[hmin,hdl,hsz]) (WH hg htk) hg hfit1 λv hv=>hR.ones v (yM hv)
 . refine JU W t t ty e inf g _ _ dc ⟨vb,voff,none⟩ _ vc _ hu hI (by rw[hmin1,hO.len,hsz,yL]) (λj v hj=> ?_) (hW▸hg1) hfit2 hO.ones;rw[Addr.add_lit,World.cell?_of_block (w:=w) (by rw[hW];exact Vm g hvb _ _ _)];exact hO.cells j v hj
 obtain ⟨p1,p2,p3⟩:=Aj g vs (i*ei.size) W;have hg2:=W0 g vs (i*ei.size) W (hW▸hg1);refine ⟨_,rfl,⟨p1.trans ho,p2.trans ht,p3.trans hu', ?_,g,cap,_,e0,rfl,hg2,by rw[Wk,Wk];exact hcs, ?_,hroom,hR.cap,.inl ⟨rfl,by omega,λb hb=> ?_⟩⟩⟩
 . rw[Bk,hW,Bk];exact yK _
 . have hci:cur.toList.take (i*ei.size)=olds.take (i*ei.size):=by
    rw[←htk,yI];congr 1;omega
   have hA:((cur.toList.take ((i+1)*ei.size)++olds.drop (i*ei.size))++cur.toList.drop ((i+1)*ei.size+(olds.drop (i*ei.size)).length)).take (i*ei.size)=olds.take (i*ei.size):=by
    have hl:(cur.toList.take ((i+1)*ei.size)).length=(i+1)*ei.size:=by rw[zN,zX];omega
    rw[zW,zQ (by rw[hl];omega),yI,←hci];congr 1;omega
   have hB:((cur.toList.take ((i+1)*ei.size)++olds.drop (i*ei.size))++cur.toList.drop ((i+1)*ei.size+(olds.drop (i*ei.size)).length)).drop (i*ei.size+vs.length)=olds.drop (i*ei.size)++cur.toList.drop ((i+1)*ei.size+(olds.drop (i*ei.size)).length):=by
    have hl:(cur.toList.take ((i+1)*ei.size)).length=i*ei.size+vs.length:=by rw[zN,zX,hO.len];omega
    rw[zW,←hl,List.drop_left]
   rw[Am hfit2,Am hfit1,hA,hB]
   have hl3:(olds.take (i*ei.size)++vs++olds.drop (i*ei.size)).length=(m+1)*ei.size:=by
    rw[zJ,zJ,hdl,hO.len,zN,hR.len,k3];omega
   rw[←zW,←hl3,yT]
 rw[Vm g hb,hW,Vm g hb]
theorem Qdd {tn:TypeId} (hu:P.underlying t=some (.slice e)) (htn:P.underlying tn=some (.int .i64)) (hei:TiOk P e ei) (hn:0<ei.size) (hg:w.heap[g]? =some (.cells cur e0 (0,0))) (hcs:cur.size=cap*ei.size) (htk:cur.toList.take (m*ei.size)=olds)
 (hR:RowAt w ei.size (some ⟨g,0,none⟩) m cap olds) (hO:OneAt w ei.size (some ⟨g,0,none⟩) cap vb voff vs) (hvw:vb<w.heap.size) (hi:i<m) (hroom:cap<m+1):
 ∃G W1,m+1<=G/\G<=maxLen/\(∀ty k,k=((m+1-i:Nat):Int)->(Builtin.append_ #[t,tn] ty #[.slice (some ⟨g,0,none⟩) i cap,.int .i64 k]).run P w= .ok (.slice (some ⟨w.heap.size,0,none⟩) (m+1) G) W1)/\
 (∀W:World,W.heap=W1.heap->∀ty dc,(Builtin.copy_ #[t,t] ty #[.slice (some ⟨w.heap.size,i*ei.size,none⟩) (m+1-i) dc,.slice (some ⟨vb,voff,none⟩) 1 vc]).run P W= .ok (goInt (yP 1 (m+1-i))) (W.setCells w.heap.size (i*ei.size) vs))/\
 (∀W:World,W.heap=(W1.setCells w.heap.size (i*ei.size) vs).heap->∀ty dc sc,(Builtin.copy_ #[t,t] ty #[.slice (some ⟨w.heap.size,(i+1)*ei.size,none⟩) (m+1-(i+1)) dc,.slice (some ⟨g,i*ei.size,none⟩) (m-i) sc]).run P W= .ok (goInt (yP (m-i) (m+1-(i+1)))) (W.setCells w.heap.size ((i+1)*ei.size) (olds.drop (i*ei.size))))/\
 (∀W:World,W.heap=(W1.setCells w.heap.size (i*ei.size) vs).heap->W.os=w.os->W.tape=w.tape->W.output=w.output->TE w ei.size i (some ⟨g,0,none⟩) m cap olds vs (.returned (.slice (some ⟨w.heap.size,0,none⟩) (m+1) G)) (W.setCells w.heap.size ((i+1)*ei.size) (olds.drop (i*ei.size))))/\
 W1.os=w.os/\W1.tape=w.tape/\W1.output=w.output:=by
 obtain ⟨inf,z,hI,hsz,hby,hz,hzs,_⟩:=hei.info;obtain ⟨k1,k2,k3,k4⟩:=Qj4 (n:=ei.size) hi;have hlim:=hR.lim;have hle:=hR.le;have hgw:g<w.heap.size:=Q7 hg;have hdl:(olds.drop (i*ei.size)).length=(m-i)*ei.size:=by rw[zY,hR.len,k3]
 have htl:(olds.take (i*ei.size)).length=i*ei.size:=by rw[zN,hR.len];omega
 have hmin:yP (m-i) (m+1-(i+1))=m-i:=by simp only[xI];split<;>omega
 have hmin1:yP 1 (m+1-i)=1:=by simp only[xI];split<;>omega
 have hold:(Builtin.firstCells inf.size i (.slice (some ⟨g,0,none⟩) i cap)).run P w.drew= .ok (olds.take (i*ei.size)).toArray w.drew:=by
  refine run_firstCells_some w.drew inf.size i ⟨g,0,none⟩ i cap _ (by rw[htl,hsz]) λj u hj=> ?_
  rw[List.getElem?_take] at hj;split at hj
  . rw[←htk] at hj;exact Ni hg _ j u hj
  cases hj
 have hik:i+(m+1-i)=m+1:=by omega
 have hbytes:((m+1)+(m+1) / 4+192)*inf.bytes<=281474976710656:=Nat.le_trans (Nat.mul_le_mul (show _<=1342177472 by omega) hby) (by decide);have hkb:(m+1-i)*inf.bytes<=281474976710656:=Nat.le_trans (zL _ (by omega)) hbytes
 have hap:∀ty,(Builtin.append_ #[t,tn] ty #[.slice (some ⟨g,0,none⟩) i cap,.int .i64 ((m+1-i:Nat):Int)]).run P w=_:=λty=>
  Lib.run_append_grow_zeros w t tn ty e inf z .i64 .i64 hu htn hI hz (some ⟨g,0,none⟩) i cap (olds.take (i*ei.size)) hold (m+1-i) (by omega) (by omega) (by omega) (by omega) hkb (by rw[hik];exact growslice_fits_wide hroom hbytes)
 rw[hik] at hap;obtain ⟨G,hG⟩:∃G,G=grownCap w (m+1) cap e:=⟨_,rfl⟩;have hGn:m+1<=G:=by rw[hG];exact grownCap_ge w _ _ _
 have hGm:G<=maxLen:=by rw[hG];exact grownCap_le_maxLen w _ _ _ (by unfold maxLen;omega)
 rw[←hG] at hap;obtain ⟨ROW,hROW⟩:∃ROW:Array Value,ROW=(olds.take (i*ei.size)).toArray++Builtin.zeroCells z.cells (m+1-i)++Builtin.zeroCells z.cells (G-(m+1)):=⟨_,rfl⟩;rw[←hROW] at hap
 have hRs:ROW.size=G*ei.size:=by
  rw[hROW];simp only[Array.size_append,yZ,size_zeroCells,hzs,htl,←yY]
  congr 1
  omega
 have hRt:ROW.toList.take (i*ei.size)=olds.take (i*ei.size):=by
  rw[hROW,xM,xM,zW];show (olds.take (i*ei.size)++_).take _=_;rw[zQ (by rw[htl];omega),zS (by rw[htl];omega)]
 have hGe:(m+1)*ei.size<=G*ei.size:=zL _ hGn;obtain ⟨W1,hW1⟩:∃W1,W1=w.drew.alloc (.cells ROW e):=⟨_,rfl⟩;rw[←hW1] at hap;have hn1:W1.heap[w.heap.size]? =some (.cells ROW e (0,0)):=by rw[hW1];exact heap_alloc_new w.drew _
 have ho1:∀b,b<w.heap.size->W1.heap[b]? =w.heap[b]? :=λb hb=>by rw[hW1];exact heap_alloc_old w.drew _ hb
 have hs1:W1.heap.size=w.heap.size+1:=by rw[hW1];simp
 have hfitA:i*ei.size+vs.length<=ROW.size:=by rw[hO.len,hRs];omega
 have hg2:=W0 w.heap.size vs (i*ei.size) W1 hn1;have hfitB:(i+1)*ei.size+(olds.drop (i*ei.size)).length<=(putCells ROW (i*ei.size) vs).size:=by rw[Wk,hdl,hRs];omega
 refine ⟨G,W1,hGn,hGm,λty k hk=>by subst hk;exact hap ty,λW hW ty dc=> ?_,λW hW ty dc sc=> ?_,λW hW ho ht hu'=> ?_,by rw[hW1];rfl,by rw[hW1];rfl,by rw[hW1];rfl⟩
 . refine JU W t t ty e inf _ _ _ dc ⟨vb,voff,none⟩ _ vc _ hu hI (by rw[hmin1,hO.len,hsz,yL]) (λj v hj=> ?_) (hW▸hn1) hfitA hO.ones;rw[Addr.add_lit,World.cell?_of_block (w:=w) (by rw[hW];exact ho1 _ hvw)];exact hO.cells j v hj
 . refine JU W t t ty e inf _ _ _ dc ⟨g,i*ei.size,none⟩ _ sc _ hu hI (by rw[hmin,hdl,hsz]) (λj v hj=> ?_) (hW▸hg2) hfitB λv hv=>hR.ones v (yM hv)
   have:=WH hg htk j v hj;rw[Addr.add_lit] at this⊢;rw[World.cell?_of_block (w:=w) (by rw[hW];exact (Vm w.heap.size (show g≠w.heap.size by omega) _ _ _).trans (ho1 _ hgw))];exact this
 obtain ⟨p1,p2,p3⟩:=Aj w.heap.size (olds.drop (i*ei.size)) ((i+1)*ei.size) W;have hg3:=W0 w.heap.size (olds.drop (i*ei.size)) ((i+1)*ei.size) W (hW▸hg2);have hsz3:(W.setCells w.heap.size ((i+1)*ei.size) (olds.drop (i*ei.size))).heap.size=w.heap.size+1:=by rw[Bk,hW,Bk,hs1]
 refine ⟨_,rfl,⟨p1.trans ho,p2.trans ht,p3.trans hu',by omega,w.heap.size,G,_,e,rfl,hg3,by rw[Wk,Wk];exact hRs, ?_,hGn,hGm,.inr ⟨yK _,by omega,λb hb=> ?_⟩⟩⟩
 . rw[Am hfitB,Am hfitA,hRt];have hl:(olds.take (i*ei.size)++vs).length=(i+1)*ei.size:=by rw[zJ,htl,hO.len];omega
   rw[show ((olds.take (i*ei.size)++vs++ROW.toList.drop (i*ei.size+vs.length)).take ((i+1)*ei.size))=olds.take (i*ei.size)++vs from by rw[←hl,yT]]
   have hl3:(olds.take (i*ei.size)++vs++olds.drop (i*ei.size)).length=(m+1)*ei.size:=by
    rw[zJ,zJ,hdl,hO.len,htl,k3];omega
   rw[←hl3,yT]
 rw[Vm _ (show b≠w.heap.size by omega),hW,Vm _ (show b≠w.heap.size by omega)];exact ho1 b hb
theorem PX {z1:Nat} {z2:List C} {z3:List LK} {tt:List (Nat×TI)} (htt:Gs P tt=true) (g1:get tt t=some ⟨.sli e,z1,z2,z3⟩) (g2:get tt e=some ei) (hn:0<ei.size) (hg:w.heap[g]? =some (.cells cur e0 (0,0))) (hcs:cur.size=cap*ei.size) (htk:cur.toList.take (m*ei.size)=olds)
 (hR:RowAt w ei.size (some ⟨g,0,none⟩) m cap olds) (hi:i<m):
 ∃W1,(∀ty ad,(cap=i+1\/ad=⟨g,(i+1)*ei.size,none⟩)->(Builtin.append_ #[t,t] ty #[.slice (some ⟨g,0,none⟩) i cap,.slice (some ad) (m-(i+1)) (cap-(i+1))]).run P w= .ok (.slice (some ⟨g,0,none⟩) (m-1) cap) W1)/\W1.os=w.os/\W1.tape=w.tape/\W1.output=w.output/\
 ∀ W:World,W.heap=W1.heap->W.os=w.os->W.tape=w.tape->W.output=w.output->∃W2:World,(∀ty,(Builtin.clear_ #[t] ty #[.slice (some ⟨g,(m-1)*ei.size,none⟩) (m-(m-1)) (cap-(m-1))]).run P W= .ok (.tuple #[]) W2)/\
   ∀W3:World,W3.heap=W2.heap->W3.os=W2.os->W3.tape=W2.tape->W3.output=W2.output->MV w ei.size i (some ⟨g,0,none⟩) m cap olds (.returned (.slice (some ⟨g,0,none⟩) (m-1) cap)) W3:=by
 have hei:=Zp htt g2;have hu:=(Zp htt g1).sli;obtain ⟨inf,z,hI,hsz,hby,hz,hzs,_⟩:=hei.info;obtain ⟨k1,k2,k3,k4⟩:=Qj4 (n:=ei.size) hi;have hle:=hR.le;have hlim:=hR.lim;have k6:m*ei.size<=cap*ei.size:=zL _ hle;have k7:(m-1)*ei.size=m*ei.size-ei.size:=by rw[xQ,yL]
 have k8:(m-(i+1))*ei.size=m*ei.size-(i+1)*ei.size:=xQ ..;have hdl:(olds.drop ((i+1)*ei.size)).length=(m-(i+1))*ei.size:=by rw[zY,hR.len,k8]
 have hfit:i*ei.size+(olds.drop ((i+1)*ei.size)).length<=cur.size:=by rw[hdl,hcs];omega
 have hg1:=W0 g (olds.drop ((i+1)*ei.size)) (i*ei.size) w hg;have hcs1:(putCells cur (i*ei.size) (olds.drop ((i+1)*ei.size))).size=cap*ei.size:=by rw[Wk];exact hcs
 obtain ⟨q1,q2,q3⟩:=Aj g (olds.drop ((i+1)*ei.size)) (i*ei.size) w
 have hlist:(putCells cur (i*ei.size) (olds.drop ((i+1)*ei.size))).toList.take ((m-1)*ei.size)=olds.take (i*ei.size)++olds.drop ((i+1)*ei.size):=by
  have hci:cur.toList.take (i*ei.size)=olds.take (i*ei.size):=by
   rw[←htk,yI];congr 1;omega
  have hl:(olds.take (i*ei.size)++olds.drop ((i+1)*ei.size)).length=(m-1)*ei.size:=by
   rw[zJ,hdl,zN,hR.len];omega
  rw[Am hfit,hci,←hl,yT]
 refine ⟨w.setCells g (i*ei.size) (olds.drop ((i+1)*ei.size)),λty ad had=> ?_,q1,q2,q3,λW hW ho ht hu'=> ?_⟩
 . have hs:Src P inf.size t (.slice (some ad) (m-(i+1)) (cap-(i+1))) (m-(i+1)) (olds.drop ((i+1)*ei.size)) w:=by
    refine Src.ofSlice w hu _ _ _ _ (by rw[hdl,hsz]) (λj u hj=> ?_) λu hu=>hR.ones u (yM hu)
    rcases had with had | rfl
    . have:(olds.drop ((i+1)*ei.size)).length=0:=by rw[hdl,show m-(i+1)=0 by omega,Nat.zero_mul]
      rw[xC.1 this] at hj;simp at hj
    exact WH hg htk j u hj
   have hr:=run_append_room_src (P:=P) w t t ty e inf hu hI g 0 i cap _ _ _ hs (by omega) (λj hj=>by
    rw[hsz];have:0+i*ei.size+j<cur.size:=by omega
    simp only[World.cell?,hg,yV this];rfl) (λj hj=>by simp[World.frozen?,hg])
   rw[hsz,yE,show i+(m-(i+1))=m-1 by omega] at hr;exact hr
 obtain ⟨zs,ps,hzl,hpl,hzv,hrun⟩:=GL (P:=P) (w:=W) (m:=m) (i:=m-1) htt g1 g2 rfl (hW▸hg1) hcs1 (by omega) hle 0;refine ⟨_,λty=>hrun,λW3 h3 o3 t3 u3=> ?_⟩;have hgw:=setRow_heap W g _ ((putCells cur (i*ei.size) (olds.drop ((i+1)*ei.size))).toList.take ((m-1)*ei.size)++(zG (m-(m-1)) zs).flatten++(putCells cur (i*ei.size) (olds.drop ((i+1)*ei.size))).toList.drop ((m-1)*ei.size+(m-(m-1))*ei.size)).toArray e0 (0,0) (hW▸hg1);rw[←h3] at hgw
 have hfl:((zG (m-(m-1)) zs).flatten).length=(m-(m-1))*ei.size:=by
  rw[yN,yQ,hzl];simp
 have h5:(m-(m-1))*ei.size=ei.size:=by rw[show m-(m-1)=1 by omega,yL]
 refine ⟨_,rfl,⟨o3.trans ho,t3.trans ht,u3.trans hu', ?_,g,cap,_,e0,rfl,hgw, ?_, ?_,by omega,hR.cap,.inl ⟨rfl,by omega,λb hb=> ?_⟩⟩⟩
 . rw[h3];simp only[World.setRow,Array.size_modify];rw[hW,Bk];exact yK _
 . simp only[yZ,zJ,hfl,zN,zY,zX,hcs1];omega
 . show ((_:List Value)++_++_).take _=_
   have hl:((putCells cur (i*ei.size) (olds.drop ((i+1)*ei.size))).toList.take ((m-1)*ei.size)).length=(m-1)*ei.size:=by
    rw[zN,zX,hcs1];omega
   rw[zW,zQ (by rw[hl];omega),zS (by rw[hl];omega),hlist]
 rw[h3,setRow_other W g b _ hb,hW,Vm g hb]
def Mg {α:Type} (l:List α) (j:Nat) (y:α):List α:=l.take j++ [y]++l.drop j
def Tl {α:Type} (l:List α) (j:Nat):List α:=l.take j++l.drop (j+1)
theorem TF {α:Type} [GoE α] {f n:Nat} (hok:It P f) (h0:0<n)
 (hrun:∀w oa m cap olds i vb voff vc vs,RowAt w n oa m cap olds->OneAt w n oa cap vb voff vs->i<=m->Calls P f #[.slice oa m cap,.int .i64 (i:Int),.slice (some ⟨vb,voff,none⟩) 1 vc] w (TE w n i oa m cap olds vs))
 (l:List α) (y:α) {i:Int} (hi:0<=i) (hj:i<=l.length) (hl:l.length<1073741824):ATake P f n (eL l) [.one (.int .i64 i),.one (.slc .sh n (eL [y]))] true false (eL (Mg l i.toNat y)):=by
 have h:=Qdb hok h0 hrun (l:=eL l) (x:=GoE.enc y) (i:=i) (j:=i.toNat) (by omega) (by simp[eL];omega) (by simpa [eL] using hl);rw[show eL (Mg l i.toNat y)=(eL l).take i.toNat++ [GoE.enc y]++(eL l).drop i.toNat by simp[Mg,eL,List.map_take,List.map_drop]];exact h
theorem BR {α:Type} [GoE α] {f n:Nat} (hok:It P f)
 (hrun:∀w oa m cap olds i,RowAt w n oa m cap olds->i<m->Calls P f #[.slice oa m cap,.int .i64 (i:Int),.int .i64 ((i:Int)+1)] w (MV w n i oa m cap olds))
 (l:List α) {i k:Int} (hi:0<=i) (hk:k=i+1) (hj:i<l.length) (hl:l.length<1073741824):ATake P f n (eL l) [.one (.int .i64 i),.one (.int .i64 k)] true false (eL (Tl l i.toNat)):=by
 have h:=Qdc hok hrun (l:=eL l) (i:=i) (k:=k) (j:=i.toNat) (by omega) (by omega) (by simp[eL];omega) (by simpa [eL] using hl);rw[show eL (Tl l i.toNat)=(eL l).take i.toNat++(eL l).drop (i.toNat+1) by simp[Tl,eL,List.map_take,List.map_drop]];exact h
end
end
section
open Go.RowKit
theorem TG {P:Program} {f n:Nat} {l l':List (List PV)} {args:List AV} (h:ATake P f n l args true false l') (hf:Gt l'):ATake P f n l args false false l':=by
 refine ⟨h.1,λw F G L v vals hok hFG _ hGs hnd hLG hrow hargs=> ?_⟩;refine (h.2 w G G L v vals hok (λ_ h=>h) (λ_ _ h=>h) hGs hnd hLG (OwnTop.keep hrow (λb hb=>⟨hFG b hb,rfl⟩) λ_ _=>rfl) hargs).mono ?_
 rintro e w' ⟨u,rfl,h1,h2,L',h3,h4,h5⟩
 refine ⟨u,rfl,h1,h2,L',h3,h4, ?_⟩;rcases h5 with h5 | ⟨g,cap,cur,e,rfl,rfl,hg,hs,hr,h5,h6⟩
 . exact .inl h5
 exact .inr ⟨g,cap,cur,e,rfl,rfl,hg,hs,OR.vr (VR.orr (w':=w') hr hf) λb hb=>(by simp at hb),h5,h6⟩
theorem Qlg {n:Nat} {hi:Int} (h0:0<=hi) (h1:hi<=(n:Int)):(0:Int)<=0/\0<=hi/\hi<=(n:Int):=⟨xR _,h0,h1⟩
section
variable {α:Type} {p:α->Bool}
def ixF (p:α->Bool):List α->Int
 | []=> -1
 | a::l=>bif p a then 0 else bif ixF p l== -1 then-1 else ixF p l+1
theorem ZG (p:α->Bool):∀l:List α,-1<=ixF p l/\ixF p l<l.length
 | []=>by simp[ixF]
 | a ::l=>by
   have ih:=ZG p l;simp only[ixF,zT];cases p a with
   | true=>simp only[cond_true];omega
   | false=>
     simp only[cond_false];cases h:(ixF p l== -1) with
     | true=>simp only[cond_true];omega
     | false=>simp only[cond_false];omega
theorem Qia {f:Nat->α->Unit->Rd Int Unit Unit} {e:Nat->Unit->Unit} (hf:∀k a s,f k a s=bif p a then .ret ((k:Nat):Int) else .next ()):∀(l:List α) (k:Nat),X7 f e l k ()=bif ixF p l== -1 then .brk () else .ret ((k:Int)+ixF p l)
 | [],k=>rfl
 | a :: l,k=>by
   simp only[X7,hf,ixF];cases p a with
   | true=>simp only[cond_true];rw[show ((0:Int)== -1)=false from rfl,cond_false,Int.add_zero]
   | false=>
     simp only[cond_false];rw[Qia hf l (k+1)];have hb:=ZG p l;cases h:(ixF p l== -1) with
     | true=>simp only[cond_true];rfl
     | false=>
       have hne:ixF p l≠-1:=by simpa using h
       simp only[cond_false];rw[show (ixF p l+1== -1)=false by simp;omega,cond_false]
       congr 1;omega
theorem Qde {f:Nat->α->Unit->Rd Int Unit Unit} {e:Nat->Unit->Unit} (hf:∀k a s,f k a s=bif p a then .ret ((k:Nat):Int) else .next ()) (l:List α):Out.on (X7 f e l 0 ()) (λ_=> -1)=ixF p l:=by
 rw[Qia hf];cases h:(ixF p l== -1) with
 | true=>simp only[cond_true,Out.on];exact (by simpa using h:ixF p l= -1).symm
 | false=>simp only[cond_false,Out.on];omega
theorem Qgs {l :List α} (h:ixF p l= -1):∀a,a∈l->p a=false:=by
 induction l with
 | nil=>intro a ha;simp at ha
 | cons b l ih =>
   intro a ha;have hb:=ZG p l;simp only[ixF] at h;cases hp:p b with
   | true=>rw[hp] at h;simp at h
   | false=>
     rw[hp] at h;simp only[cond_false] at h;cases h2:(ixF p l== -1) with
     | true => rcases List.mem_cons.1 ha with rfl | ha
               . exact hp
               exact ih (by simpa using h2) a ha
     | false=>rw[h2] at h;simp only[cond_false] at h;omega
theorem Qgt {l:List α} {i:Nat} (h:ixF p l=(i:Int)):(l.take i).filter (λa=> !p a)=l.take i/\∃a,l[i]? =some a/\p a=true:=by
 induction l generalizing i with
 | nil=>simp[ixF] at h
 | cons b l ih=>
   have hb:=ZG p l;simp only[ixF] at h;cases hp:p b with
   | true=>
     rw[hp] at h;simp only[cond_true] at h;obtain rfl:i=0:=by omega
     exact ⟨rfl,b,rfl,hp⟩
   | false=>
     rw[hp] at h;simp only[cond_false] at h;cases h2:(ixF p l== -1) with
     | true=>rw[h2] at h;simp only[cond_true] at h;omega
     | false=>
       rw[h2] at h;simp only[cond_false] at h;have:ixF p l≠-1:=by simpa using h2
       obtain ⟨j,rfl⟩:∃j,i=j+1:=⟨i-1,by omega⟩;obtain ⟨h3,a,h4,h5⟩:=ih (i:=j) (by omega);exact ⟨by simp[hp,h3],a,by simpa using h4,h5⟩
theorem PY {R S T:Type} {f:S->Rd R S T}:∀{n m:Nat} {s:S} {x:Out R T},whl f n s=some x->n<=m->whl f m s=some x
 | 0,_,_,_,h,_=>by simp[whl] at h
 | n+1,0,_,_,_,hm=>absurd hm (Nat.not_succ_le_zero n)
 | n+1,m+1,s,x,h,hm=>by
   simp only[whl] at h⊢;cases hf:f s with
   | brk t=>rw[hf] at h;exact h
   | ret r=>rw[hf] at h;exact h
   | next s'=>rw[hf] at h;exact PY h (by omega)
variable [Inhabited α]
def WI {R:Type} (f:List α×Int×Int->Rd R (List α×Int×Int) (List α×Int)) (p:α->Bool):Prop:=
 ∀(s:List α) (i j:Nat),i<j->j<=1073741824->f (s,(i:Int),(j:Int))=bif decide ((j:Int)<(s.length:Int)) then (bif p (nth s j) then .next (s,(i:Int),((j+1:Nat):Int)) else .next (s.set i (nth s j),((i+1:Nat):Int),((j+1:Nat):Int))) else .brk (s,(i:Int))
theorem MW {R:Type} {f:List α×Int×Int->Rd R (List α×Int×Int) (List α×Int)} (hf:WI f p) (o:List α) (ho:o.length<=1073741824):∀(n:Nat) (s:List α) (i j:Nat),j+n=o.length->i<j->s.length=o.length->s.take i=(o.take j).filter (λa=> !p a)->s.drop j=o.drop j->
 ∃s' i',whl f (n+1) (s,(i:Int),(j:Int))=some (.brk (s',((i':Nat):Int)))/\s'.take i'=o.filter (λa=> !p a)/\i'<o.length/\s'.length=o.length
 | 0,s,i,j,hn,hij,hl,ht,hd=>by
   refine ⟨s,i, ?_, ?_,by omega,hl⟩
   . simp only[whl,hf s i j hij (by omega)];rw[decide_eq_false (by omega)];rfl
   rw[ht,zS (by omega)]
 | n +1,s,i,j,hn,hij,hl,ht,hd=>by
   have hj:j<s.length:=by omega
   have hjo:j<o.length:=by omega
   have hx:nth s j=o[j]:=by
    have h1:s[j]? =o[j]? :=by
     have:=congrArg (λl=>l[0]?) hd;simpa [yS] using this
    rw[yG hjo] at h1;simp[nth,xP,h1]
   have htj:o.take (j+1)=o.take j++ [o[j]]:=by rw[xA,yG hjo];rfl
   have hd1:∀s2:List α,s2.drop (j+1)=s.drop (j+1)->s2.drop (j+1)=o.drop (j+1):=λs2 h2=>by
    have:=congrArg (yB 1) hd;rw[List.drop_drop,List.drop_drop] at this;exact h2.trans this
   have hst:f (s,(i:Int),(j:Int))=_:=hf s i j hij (by omega);rw[decide_eq_true (by omega),hx] at hst;simp only[cond_true] at hst;cases hp:p o[j] with
   | true=>
     rw[hp] at hst;simp only[whl,hst,cond_true];exact MW hf o ho n s i (j+1) (by omega) (by omega) hl (by rw[ht,htj,yU];simp[hp]) (hd1 s rfl)
   | false=>
     rw[hp] at hst;simp only[whl,hst,cond_false];refine MW hf o ho n (s.set i o[j]) (i+1) (j+1) (by omega) (by omega) (by simpa using hl) ?_ (hd1 _ (List.drop_set_of_lt (by omega)));rw[htj,yU,←ht];rw[xA,List.take_set_of_le (yK i),List.getElem?_set_self (by omega)];simp[hp]
theorem PZ {R:Type} {f:List α×Int×Int->Rd R (List α×Int×Int) (List α×Int)} (hf:WI f p) {o:List α} (ho:o.length<=1073741824) {ix:Int} (hix:ix=ixF p o) (hne:ix≠-1):
 ∃s' i',whl f (o.length+1) (o,ix,ix+1)=some (.brk (s',((i':Nat):Int)))/\s'.take i'=o.filter (λa=> !p a)/\i'<o.length/\s'.length=o.length:=by
 have hb:=ZG p o;obtain ⟨i,hi⟩:∃i:Nat,ix=(i:Int):=⟨ix.toNat,by omega⟩;obtain ⟨h1,a,h2,h3⟩:=Qgt (p:=p) (l:=o) (i:=i) (by omega);have hio:i<o.length:=by omega
 obtain ⟨s',i',h4,h5⟩:=MW hf o ho (o.length-(i+1)) o i (i+1) (by omega) (by omega) rfl (by
  rw[xA,h2,yU,h1];simp[h3]) rfl
 refine ⟨s',i', ?_,h5⟩;subst hi;exact PY h4 (by omega)
theorem Qgu {R:Type} {f:List α×Int×Int->Rd R (List α×Int×Int) (List α×Int)} (hf:WI f p) {o:List α} (ho:o.length<=1073741824) {ix:Int} (hix:ix=ixF p o) (hne:ix≠-1):(whl f (o.length+1) (o,ix,ix+1)).isSome=true:=by
 obtain ⟨s',i',h,_⟩:=PZ hf ho hix hne;rw[h];rfl
theorem Qlh {f:List α×Int×Int->Rd (List α) (List α×Int×Int) (List α×Int)} (hf:WI f p) {o:List α} (ho:o.length<=1073741824) {ix:Int} (hix:ix=ixF p o):
 (bif (ix==(-1:Int)) then o else Out.on (N1 f (o.length+1) (o,ix,ix+1)) (λy=>zO (zZ y.2) y.1))=o.filter (λa=> !p a):=by
 cases h:(ix==(-1:Int)) with
 | true=>
   have h:ix= -1:=by simpa using h
   simp only[cond_true];exact (List.filter_eq_self.2 λa ha=>by simp[Qgs (hix▸h) a ha]).symm
 | false=>
   obtain ⟨s',i',h1,h2,_⟩:=PZ hf ho hix (by simpa using h);simp only[cond_false,N1,h1];simpa [Out.on] using h2
end
open GoE (enc wide)
def Bi (f:Xx) (q0:Int):Bool:=(f.1==q0)
theorem HB (f:Xx) (q0:Int):ACalls Tryz.prog 220 [.a [.i f.1,.i f.2.1,.b f.2.2.1,.i f.2.2.2.1,.h f.2.2.2.2],.one (.rptr .sh [.i q0])] (.b (Bi f q0)):=by
 refine en Qa Tryz.func220 λw0 F0 hG=> ?_
 exact sn Qa [1,2,3] [2] p0 <| tn Qa [3] [] p0 <| Qh <| pb [] (show Bi f q0=(f.1==q0) from rfl)
def Yq (c0:Int) (k0:Nat) (a0:Xx) (_:Unit):Rd (Int) (Unit) (Unit):=(bif (Bi a0 c0) then (.ret (k0:Int)) else (.next ()))
def Zh (_:Nat) (_:Unit):Unit:=()
def Jz (s_:List Xx) (c0:Int):Int:=(Out.on (X7 (Yq c0) Zh s_ 0 ()) (λ_=> -1))
theorem Ek (s_:List Xx) (c0:Int):ACalls Tryz.prog 219 [.h s_,.one (.fnr 220 [[.i c0]])] (.i (Jz s_ c0)):=by
 refine en Qa Tryz.func219 λw0 F0 hG=> ?_
 refine sn Qa [0,1,4] [] p0 <| Qc <| tn Qa [0,1,4,7,8] [] (pl 1 s_ p0) <| mz [(4,.i 0),(7,.i (s_.length:Int)),(8,.i 0)] [] [] [] <| wT 0 0 .sh s_ (λhw1 hl2=> ?_)
 refine Pa (Yq c0) Zh s_ () (λk0 _=> [(8,.i (k0:Int))]) [8] (λ_=> []) [0,1,7,8] wf0 (λk0 s0 hk0 U=> ?_) (λk0 s0 hk0 U=> ?_) (λy0 hD0=> ?_)
 ·obtain ⟨a0,V⟩:=Xs (l:=s_) (i:=k0) hk0;refine sn Qa [0,1,4,7,8,9] [] (pe 0 (zB ((k0:Int)<(s_.length:Int))) p0) <| Qc <| ckT <| Qe <| Qc <| Qt <| tn Qa [0,1,4,5,7,8] [] p0 <| tu Qa [(5,.i (k0:Int)),(16,.b (Bi a0 c0))] [] [] [] (pn 3 V (pc 5 (HB a0 c0) p0)) <| ck (Bi a0 c0) (λh3=> ?_) (λh3=> ?_)
  ·refine sn Qa [0,1,4,7,8] [] p0 <| Qh ?_
   have hr4:(X7 (Yq c0) Zh s_ 0 ())= .ret (k0:Int):=Jr V (Xm h3 (rfl)) U;exact pi [] (Nk hr4)
  refine Qe <| rn Qa [0,1,4,7,8] [] (pe 0 (J6 (Ql k0 (by omega))) p0) ?_
  exact xw _ (Qp V (Qn h3 (rfl)) U)
 ·exact sn Qa [0,1,4,7,8,9] [] (pe 0 (zC ((k0:Int)<(s_.length:Int))) p0) <| Qc <| ckF <| Q9 <| xw _ (Xt hk0 (rfl) U)
 exact sn Qa [4] [] p0 <| Qh <| pi [] (Uc hD0 (rfl))
def Yf (s_:Xr) (id:Int):Int:=(Jz s_.2.1 id)
theorem Rg (s_:Xr) (id:Int):ACalls Tryz.prog 179 [.a [.h s_.1,.h s_.2.1,.i s_.2.2],.i id] (.i (Yf s_ id)):=by
 refine en Qa Tryz.func179 λw0 F0 hG=> ?_
 exact sn Qa [2,3,4] [2,3] p0 <| tn Qa [4] [] (pc 3 (Ek s_.2.1 id) p0) <| Qh <| pi [] (show Yf s_ id=(Jz s_.2.1 id) from rfl)
def Fx (id:Int) (k0:Nat) (a0:Xx) (_:Unit):Rd (Int) (Unit) (Unit):=(bif (a0.1==id) then (.ret (k0:Int)) else (.next ()))
def Fy (_:Nat) (_:Unit):Unit:=()
def Xc (s_:Xr) (id:Int):Int:=(Out.on (X7 (Fx id) Fy s_.2.1 0 ()) (λ_=> -1))
theorem YM (s_:Xr) (id:Int): -1<=Xc s_ id/\Xc s_ id<(zD s_.2.1:Int):=by
 unfold Xc;rw[Qde (p:=λa:Xx=>a.1==id) (f:=Fx id) (e:=Fy) (λ_ _ _=>rfl)];exact ZG _ _
theorem M8 (s_:Xr) (id:Int):ACalls Tryz.prog 154 [.a [.h s_.1,.h s_.2.1,.i s_.2.2],.i id] (.i (Xc s_ id)):=by
 refine en Qa Tryz.func154 λw0 F0 hG=> ?_
 refine sn Qa [1,2,4] [2] p0 <| Qc <| tn Qa [1,2,4,5] [2] p0 <| mz [(2,.p 2 0),(4,.i 0),(5,.i 0)] [0] [(2, [.h s_.1,.h s_.2.1,.i s_.2.2])] [] <| wB 2 1 .sh s_.2.1 (λhw1 hl2=> ?_)
 refine Qcd (Fx id) Fy s_.2.1 () (λk0 _=> [(5,.i (k0:Int))]) [5] (λ_ _=> []) [] (λ_=> []) [1,2,5] (λ_=> []) [2] wf0 (λk0 s0 hk0 U=> ?_) (λk0 s0 hk0 U=> ?_) (λy0 hD0=> ?_)
 ·obtain ⟨a0,V⟩:=Xs (l:=s_.2.1) (i:=k0) hk0;refine Qc <| sn Qa [1,2,4,5,10] [2] (pl 3 s_.2.1 (pe 4 (zB ((k0:Int)<(s_.2.1.length:Int))) p0)) <| ckT <| Qe <| Qc <| Qt <| tn Qa [1,2,4,5,20] [2] (pn 3 V p0) <| ck (a0.1==id) (λh3=> ?_) (λh3=> ?_)
  ·refine tu Qa [(4,.i (k0:Int))] [4] [] [] p0 <| Qh ?_
   have hr4:(X7 (Fx id) Fy s_.2.1 0 ())= .ret (k0:Int):=Jr V (Xm h3 (rfl)) U;exact pi [] (Nk hr4)
  have h3d:=Z7 h3;refine Qe <| qu Qa [(5,.i ((k0+1:Nat):Int))] [5] [] [] (pe 1 (J6 (Ql k0 (by omega))) p0) ?_
  exact xw _ (Qp V (Qn h3 (rfl)) U)
 ·exact Qc <| sn Qa [1,2,4,5,10] [2] (pl 3 s_.2.1 (pe 4 (zC ((k0:Int)<(s_.2.1.length:Int))) p0)) <| ckF <| Q9 <| xw _ (Xt hk0 (rfl) U)
 exact sn Qa [4] [] p0 <| Qh <| pi [] (Uc hD0 (rfl))
theorem YN {s:Xr} (h:Qs s=true):s.2.1.length<=12:=by
 unfold Qs at h;cases hf:X7 (Z2 s) Vj s.2.1 0 () with
 | brk t=>
   rw[hf] at h;simp only[Out.on,zM,decide_eq_true_eq] at h;omega
 | ret r=>
   rw[hf] at h;obtain rfl:r=true:=h;exfalso
   have key:∀(l:List Xx) k,X7 (Z2 s) Vj l k ()≠ .ret true:=by
    intro l
    induction l with
    | nil=>intro k h;simp[X7] at h
    | cons a l ih=>
      intro k h;simp only[X7] at h;unfold Z2 at h;split at h
      . rename_i hf;exact ih _ h
      . cases h
      rename_i r hf;cases h;revert hf;generalize (_|| _:Bool)=c;cases c<;>simp
   exact key _ _ hf
theorem Qdf (s:Xr) (n:Int):Xc s n=Yf s n:=rfl
theorem Qib (n:Int):∀(l:List Xx) (k:Nat),X7 (Yq n) Zh l k ()= .brk ()\/∃i:Nat,i<l.length/\X7 (Yq n) Zh l k ()= .ret (((k+i:Nat)):Int)
 | [],_=> .inl rfl
 | a ::l,k=>by
   simp only[X7,Yq];cases (Bi a n) with
   | true=>exact .inr ⟨0,by simp,rfl⟩
   | false=>
     simp only[cond_false];rcases Qib n l (k+1) with h | ⟨i,hi,h⟩
     . exact .inl h
     exact .inr ⟨i+1,by simpa using hi,by rw[h,show k+1+i=k+(i+1) by omega]⟩
theorem WJ (s:Xr) (n:Int): -1<=Yf s n/\Yf s n<(zD s.2.1:Int):=by
 unfold Yf Jz;rcases Qib n s.2.1 0 with h | ⟨i,hi,h⟩
 . rw[h];simp only[Out.on];omega
 rw[h];simp only[Out.on];omega
end
section
theorem JV {α:Type} [DecidableEq α]:∀{l N:List α},l.Nodup->(∀x,x∈l->x∈N)->l.length<=N.length
 | [],_,_,_=>yX _
 | a::l,N,hn,hs=>by
   have hn':=List.nodup_cons.1 hn;have ha:=hs a (zU ..);have h:=JV (l:=l) (N:=N.erase a) hn'.2 λx hx=>(List.mem_erase_of_ne (λe:x=a=>hn'.1 (by rw[←e];exact hx))).2 (hs x (zK _ hx))
   rw[List.length_erase_of_mem ha] at h;have:0<N.length:=List.length_pos_of_mem ha;rw[zT];omega
def Fresh {α:Type} (N out out':List α):Prop:=∃new:List α,out'=out++new/\new.Nodup/\∀x,x∈new->x∉out/\x∈N
theorem Fresh.refl {α:Type} (N out:List α):Fresh N out out:=⟨[],by simp,List.nodup_nil,by simp⟩
theorem Fresh.one {α:Type} {N out:List α} {x:α} (h1:x∉out) (h2:x∈N):Fresh N out (out++ [x]):=⟨[x],rfl,by simp,by simp[h1,h2]⟩
theorem Fresh.trans {α:Type} {N a b c:List α} (h:Fresh N a b) (k:Fresh N b c):Fresh N a c:=by
 obtain ⟨p,rfl,h1,h2⟩:=h;obtain ⟨q,rfl,k1,k2⟩:=k;refine ⟨p++q,by rw[zW],List.nodup_append.2 ⟨h1,k1,λx hx y hy e=> ?_⟩,λx hx=> ?_⟩
 . subst e;exact (k2 _ hy).1 (List.mem_append_right _ hx)
 rcases List.mem_append.1 hx with hx | hx
 . exact h2 x hx
 exact ⟨λh=>(k2 x hx).1 (List.mem_append_left _ h),(k2 x hx).2⟩
theorem GO {α:Type} [DecidableEq α] {N a b:List α} (h:Fresh N a b):b.length<=a.length+N.length:=by
 obtain ⟨new,rfl,h1,h2⟩:=h;have:=JV h1 λx hx=>(h2 x hx).2
 rw[zJ];omega
theorem Qdg {α R T:Type} [DecidableEq α] {N names:List α} {f:List α×Int->Rd R (List α×Int) T}
 (hf:∀out i s',0<=i->out.length<=names.length+N.length->f (out,i)= .next s'->i<(out.length:Int)/\s'.2=i+1/\Fresh N out s'.1):∀(n:Nat) (out:List α) (i:Int),0<=i->Fresh N names out->(names.length:Int)+N.length<=i+n->(whl f (n+1) (out,i)).isSome=true
 | n, out,i,h0,hF,hn=>by
   simp only[whl];cases hc:f (out,i) with
   | brk t=>rfl
   | ret r=>rfl
   | next s'=>
     have hl:=GO hF;obtain ⟨h1,h2,h3⟩:=hf out i s' h0 hl hc;cases n with
     | zero=>omega
     | succ n=>
       obtain ⟨o',i'⟩:=s';obtain rfl:i'=i+1:=h2;exact Qdg hf n o' (i+1) (by omega) (hF.trans h3) (by omega)
theorem Qdh {α R T:Type} [DecidableEq α] {N names:List α} {f:List α×Int->Rd R (List α×Int) T}
 (hf:∀out i s',0<=i->out.length<=names.length+N.length->f (out,i)= .next s'->i<(out.length:Int)/\s'.2=i+1/\Fresh N out s'.1):(whl f (zD names+zD N+1) (names,0)).isSome=true:=
 Qdg hf _ names 0 (xR 0) (Fresh.refl N names) (by omega)
theorem DQ {l:List ByteArray} (h:∀i,i+1<l.length->bl (nth l i) (nth l (i+1))=true):YG l:=by
 have key:∀j i,i<j->j<l.length->bl (nth l i) (nth l j)=true:=by
  intro j
  induction j with
  | zero=>intro i hi;omega
  | succ j ih=>
    intro i hi hj;by_cases e:i=j
    . subst e;exact h i hj
    exact JN (ih i (by omega) (by omega)) (h j hj)
 unfold YG;rw[List.pairwise_iff_getElem];intro i j hi hj hij;have:=key j i hij hj;simpa [nth,xP,hi,hj] using this
theorem WK {l:List ByteArray} (h:YG l):l.Nodup:=h.imp λ{a b} hab e=>by
 subst e;rw[PG] at hab;cases hab
theorem Qic (n:ByteArray):∀(l:List Km) (k:Nat),Out.on (X7 (Bq n) D1 l k ()) (λ_=>0)≠0->n∈l.map (·.1)
 | [],_,h=>by simp[X7,Out.on] at h
 | a ::l,k,h=>by
   simp only[X7,Bq] at h;cases hc:(a.1.toList==n.toList) with
   | true=>
     rw[Hm] at hc;have:a.1=n:=of_decide_eq_true hc;rw[←this];simp
   | false=>
     rw[hc] at h;simp only[cond_false] at h;exact zK _ (Qic n l (k+1) h)
theorem Qj6 {s:List Km} (h:Jw s=true):s.length<=5:=by
 unfold Jw at h;cases hf:X7 (K5 s) Wy s 0 () with
 | brk t=>
   rw[hf] at h;simp only[Out.on,decide_eq_true_eq] at h;omega
 | ret r=>
   rw[hf] at h;obtain rfl:r=true:=h;exfalso
   have key:∀(l:List Km) k,X7 (K5 s) Wy l k ()≠ .ret true:=by
    intro l
    induction l with
    | nil=>intro k h;simp[X7] at h
    | cons a l ih=>
      intro k h;simp only[X7] at h;unfold K5 at h;split at h
      . rename_i hf;exact ih _ h
      . cases h
      rename_i r hf;cases h;revert hf;generalize (_|| _:Bool)=c;cases c<;>simp
   exact key _ _ hf
theorem Qdi {s:List Km} {f:Xx} (h:Y1 s f=true):(∃t,X7 (Jy s f) Wp f.2.2.2.2 0 ()= .brk t)/\Jw s=true:=by
 unfold Y1 at h;cases hl:X7 (Jy s f) Wp f.2.2.2.2 0 () with
 | brk t=>
   rw[hl] at h;simp only[Out.on,zM] at h;exact ⟨⟨t,rfl⟩,h.2.2.2⟩
 | ret r=>
   rw[hl] at h;obtain rfl:r=true:=h;exfalso
   have key:∀(l:List Ee) k,X7 (Jy s f) Wp l k ()≠ .ret true:=by
    intro l
    induction l with
    | nil=>intro k h;simp[X7] at h
    | cons a l ih=>
      intro k h;simp only[X7] at h;unfold Jy at h;split at h
      . rename_i hf;exact ih _ h
      . cases h
      rename_i r hf;cases h;revert hf;generalize (bif decide (((k:Nat):Int)>(0:Int)) then _ else _:Bool)=c;cases c<;>simp
   exact key _ _ hl
theorem Tm {s:List Km} {f:Xx} (h:Y1 s f=true):zD f.2.2.2.2<=5:=by
 obtain ⟨⟨t,hl⟩,hs⟩:=Qdi h
 have hat:∀i a,f.2.2.2.2[i]? =some a->(0<i->bl (nth f.2.2.2.2 (i-1)).1 a.1=true)/\Z8 s a.1 a.2=true:=λi a hi=>by
  have:=Og (λk a t=>by unfold Jy;generalize (bif decide (((k:Nat):Int)>(0:Int)) then _ else _:Bool)=c;cases c<;>simp) hl i a hi;rw[yE] at this;unfold Jy at this;cases hm:Z8 s a.1 a.2 with
  | false=>rw[hm] at this;simp at this
  | true=>
    refine ⟨λh0=> ?_,rfl⟩;rw[hm,decide_eq_true (show ((i:Nat):Int)>0 by omega)] at this;simp only[cond_true,yF,Bool.or_false] at this;rw[show zZ (((i:Nat):Int)-1)=i-1 by omega] at this;cases hb:bl (nth f.2.2.2.2 (i-1)).1 a.1 with
    | true=>rfl
    | false=>
      unfold bl at hb;rw[hb] at this;simp at this
 have hasc:YG (f.2.2.2.2.map (·.1)):=DQ λi hi=>by
  rw[zV] at hi;have:=(hat (i+1) _ (Hb hi)).1 (by omega);have e:∀j,j<f.2.2.2.2.length->nth (f.2.2.2.2.map (·.1)) j=(nth f.2.2.2.2 j).1:=λj hj=>by simp[nth,xP,hj]
  rw[e i (by omega),e (i+1) hi];exact this
 have hsub:∀x,x∈f.2.2.2.2.map (·.1)->x∈s.map (·.1):=λx hx=>by
  obtain ⟨a,ha,rfl⟩:=List.mem_map.1 hx;obtain ⟨i,hi⟩:=yJ ha;have hm:=(hat i a hi).2;unfold Z8 at hm;simp only[zM,bne_iff_ne,beq_iff_eq] at hm;exact Qic a.1 s 0 λe=>hm.2.1 (hm.2.2.trans e)
 have:=JV (WK hasc) hsub;rw[zV,zV] at this;have:=Qj6 hs;omega
theorem MX {s:Xr} (h:Qs s=true) {f:Xx} (hf:f∈s.2.1):Y1 s.1 f=true:=by
 unfold Qs at h;obtain ⟨i,hi⟩:=yJ hf;cases hl:X7 (Z2 s) Vj s.2.1 0 () with
 | brk t=>
   have:=Og (λk a t=>by unfold Z2;generalize (_|| _:Bool)=c;cases c<;>simp) hl i f hi;unfold Z2 at this;cases hv:Y1 s.1 f with
   | true=>rfl
   | false=>rw[hv] at this;simp at this
 | ret r=>
   rw[hl] at h;obtain rfl:r=true:=h;exfalso
   have key:∀(l:List Xx) k,X7 (Z2 s) Vj l k ()≠ .ret true:=by
    intro l
    induction l with
    | nil=>intro k h;simp[X7] at h
    | cons a l ih=>
      intro k h;simp only[X7] at h;unfold Z2 at h;split at h
      . rename_i hf;exact ih _ h
      . cases h
      rename_i r hf;cases h;revert hf;generalize (_|| _:Bool)=c;cases c<;>simp
   exact key _ _ hl
theorem ZH {s:Xr} (h:Qs s=true) {f:Xx} (hf:f∈s.2.1):zD f.2.2.2.2<=5:=Tm (MX h hf)
theorem Mp (l:List ByteArray):ACalls Tryz.prog 193 [.h l] (.h (Di [] l)):=by
 have h:=Pb l;rw[show Gw l=Di [] l from PI l] at h;exact h
open GoE (enc wide)
set_option maxRecDepth 100000 in
set_option maxHeartbeats 4000000 in
theorem TH (w:World) (oa:Option Addr) (m cap:Nat) (olds:List Value) (i vb voff vc:Nat) (vs:List Value) (hR:RowAt w 2 oa m cap olds) (hO:OneAt w 2 oa cap vb voff vs) (hi:i<=m):Calls Tryz.prog 226 #[.slice oa m cap,.int .i64 (i:Int),.slice (some ⟨vb,voff,none⟩) 1 vc] w (TE w 2 i oa m cap olds vs):=by
 have hei:=Zp Qa (t:=94) rfl;have hu:=(Zp Qa (t:=44) rfl).sli;have hui:=run_underlying (P:=Tryz.prog) hu;have hsz:∀w,(Go.sizeOf 94).run Tryz.prog w= .ok 2 w:=λw=>Ae (Zp Qa (t:=94) rfl) w
 have hlim:=hR.lim;have hle:=hR.le;have hcm:cap<=9223372036854775807:=by have:=hR.cap;unfold maxLen at this;omega
 have mixed:=Zt;have hz1:¬((1:Int)=0):=by omega
 by_cases him:i=m
 . subst him;obtain ⟨u,w',hrun,u',h1,hT⟩:=Qgr (vc:=vc) hu hei (by decide) hR hO;cases h1
   have hc:Calls Tryz.prog 226 #[.slice oa i cap,.int .i64 (i:Int),.slice (some ⟨vb,voff,none⟩) 1 vc] w (λe w2=>e= .returned u/\w2=w'):=by
    clear hT hR hO hei;go_enter Tryz.func226,Tryz.ntmps226
    cases oa with
    | none=>
      go_wp2_with (at_builtin;refine Lib.wpList_append_run _ rfl _ _ _ _ rfl _ _ rfl rfl _ _ (hrun _) ?_)
      all_goals (go_ret;exact ⟨rfl,rfl⟩)
    | some a=>
      obtain ⟨ab,ao,asp⟩:=a;go_wp2_with (at_builtin;refine Lib.wpList_append_run _ rfl _ _ _ _ rfl _ _ rfl rfl _ _ (hrun _) ?_)
      all_goals (go_ret;exact ⟨rfl,rfl⟩)
   exact hc.mono (by rintro e w2 ⟨rfl,rfl⟩;exact ⟨_,rfl,hT⟩)
 rcases hR.row with ⟨_,h0,_⟩ | ⟨g,cur,e0,rfl,hg,hcs,htk⟩
 . omega
 have him2:i<m:=by omega
 have hz2:¬((i:Int)=(m:Int)):=by omega
 have hw1:IntKind.i64.wrap ((m:Int)+1)=(m:Int)+1:=by rw[IntKind.wrap_i64];omega
 have hw2:IntKind.i64.wrap ((i:Int)+1)=(i:Int)+1:=by rw[IntKind.wrap_i64];omega
 have htn:((i:Int)+1).toNat=i+1:=by omega
 have htm:((m:Int)+1).toNat=m+1:=by omega
 have hb1:(0:Int)<=(i:Int)+1:=by omega
 have hb3:(i:Int)<=(m:Int)+1:=by omega
 have hbm:(0:Int)<=(m:Int)+1:=by omega
 have hin:i<=m:=hi;obtain ⟨hvw,arrA,tA,frA,hA,hposA⟩:=hO.block (by decide);have hcp:0<cap:=by omega
 have hvg:vb≠g:=hO.ne g rfl hcp
 have hov:∀o lb cb,(callFunc 260 #[.slice (some ⟨vb,voff,none⟩) 1 vc,.slice (some ⟨g,o,none⟩) lb cb]).run Tryz.prog w= .ok (.value (.bool false)) w:=λo lb cb=>by
  rw[run_callFunc_extern Tryz.func260 (by kernel_rfl) (by kernel_rfl) (by kernel_rfl) (e:=Extern.SlicesOverlaps.overlaps #[44,44] #[4]) (by kernel_rfl),GM w 44 4 94 hu 2 hsz ⟨vb,voff,none⟩ ⟨g,o,none⟩ 1 vc lb cb hvg hA hg (by omega) hposA];rfl
 by_cases hroom:m+1<=cap
 . obtain ⟨q1,q2,q3⟩:=GN (vc:=vc) (w:=w) hu hei (by decide) hg hcs htk hR hO him2 hroom;have hb2:¬(cap=i+1):=by omega
   have hb4:¬(cap=i):=by omega
   have hng:¬((cap:Int)<(m:Int)+1):=by omega
   have hmc:((m:Int)+1)<=(cap:Int):=by omega
   have hc:Calls Tryz.prog 226 #[.slice (some ⟨g,0,none⟩) m cap,.int .i64 (i:Int),.slice (some ⟨vb,voff,none⟩) 1 vc] w (λe w2=>e= .returned (.slice (some ⟨g,0,none⟩) (m+1) cap)/\w2=(w.drew.setCells g ((i+1)*2) (olds.drop (i*2))).setCells g (i*2) vs):=by
    obtain ⟨q4,q5,q6⟩:=GN (vc:=vc) (w:=w.drew) hu hei (by decide) hg hcs htk ⟨hR.len,hR.row,hR.le,hR.cap,hR.lim,hR.ones⟩ ⟨hO.len,hO.cells,hO.ones,hO.ne⟩ him2 hroom;clear hR hO hei q1 q2 q3 q6 hg hA hcs htk;go_enter Tryz.func226,Tryz.ntmps226
    go_wp2_with (simp only[hov])
    go_region_law (refine ZF rfl _ _ 44 44 rfl (.slice (some ⟨g,(i+1)*2,none⟩) (m+1-(i+1)) (cap-(i+1))) (.slice (some ⟨g,i*2,none⟩) (m+1-i) (cap-i)) (by simp[Act.eval,Act.put]) (by simp[Act.eval,Act.put]) (q4 _ _ _) ?_)
    go_wp2_with (at_builtin;refine Sp rfl _ _ 44 44 rfl (.slice (some ⟨g,i*2,none⟩) (m+1-i) (cap-i)) _ (by simp[Act.eval,Act.put]) rfl (q5 _ rfl _ _) ?_)
    go_ret
    exact ⟨rfl,rfl⟩
   refine hc.mono ?_
   rintro e w2 ⟨rfl,rfl⟩
   obtain ⟨p1,p2,p3⟩:=Aj g (olds.drop (i*2)) ((i+1)*2) w.drew;exact q3 _ (Mo g _ _ w) p1 p2 p3
 obtain ⟨G,W1,hG1,hG2,qa,qb,qc,qd,o1,o2,o3⟩:=Qdd (vc:=vc) (tn:=3) hu (by kernel_rfl) hei (by decide) hg hcs htk hR hO hvw him2 (by omega);have hG63:G<=9223372036854775807:=by unfold maxLen at hG2;omega
 have hGi:¬(G=i):=by omega
 have hGim:¬(G=i+1):=by omega
 have hci:¬(cap=i):=by omega
 have hlt:(cap:Int)<(m:Int)+1:=by omega
 have hw3:IntKind.i64.wrap ((m:Int)+1-(i:Int))=(m:Int)+1-(i:Int):=by rw[IntKind.wrap_i64];omega
 have hii:(i:Int)<=(m:Int):=by omega
 have hqa:∀ty,(Builtin.append_ #[44,3] ty #[.slice (some ⟨g,0,none⟩) i cap,.int .i64 ((m:Int)+1-(i:Int))]).run Tryz.prog w= .ok (.slice (some ⟨w.heap.size,0,none⟩) (m+1) G) W1:=λty=>qa ty _ (by omega)
 have hqb:=qb W1 rfl;have hqc:=qc (W1.setCells w.heap.size (i*2) vs).drew rfl
 have hc:Calls Tryz.prog 226 #[.slice (some ⟨g,0,none⟩) m cap,.int .i64 (i:Int),.slice (some ⟨vb,voff,none⟩) 1 vc] w (λe w2=>e= .returned (.slice (some ⟨w.heap.size,0,none⟩) (m+1) G)/\w2=(W1.setCells w.heap.size (i*2) vs).drew.setCells w.heap.size ((i+1)*2) (olds.drop (i*2))):=by
  clear hR hO hei qa qb qc qd hg hA hcs htk hov hG1 hG2;go_enter Tryz.func226,Tryz.ntmps226
  go_wp2_with (first
   | (at_builtin;refine Lib.wpList_append_run _ rfl _ _ _ _ rfl _ _ rfl rfl _ _ (hqa _) ?_)
   | (at_builtin;refine Sp rfl _ _ 44 44 rfl (.slice (some ⟨w.heap.size,i*2,none⟩) (m+1-i) (G-i)) _ (by simp[Act.eval,Act.put]) rfl (hqb _ _) ?_))
  go_region_law (refine ZF rfl _ _ 44 44 rfl (.slice (some ⟨w.heap.size,(i+1)*2,none⟩) (m+1-(i+1)) (G-(i+1))) (.slice (some ⟨g,i*2,none⟩) (m-i) (cap-i)) (by simp[Act.eval,Act.put]) (by simp[Act.eval,Act.put]) (hqc _ _ _) ?_)
  go_wp2
  go_ret
  exact ⟨rfl,rfl⟩
 refine hc.mono ?_
 rintro e w2 ⟨rfl,rfl⟩
 obtain ⟨p1,p2,p3⟩:=Aj w.heap.size vs (i*2) W1;exact qd _ rfl (p1.trans o1) (p2.trans o2) (p3.trans o3)
theorem RA (l:List Yc) (y:Yc) {i:Int} (hi:0<=i) (hj:i<=l.length) (hl:l.length<1073741824):ATake Tryz.prog 226 2 (eL l) [.one (.int .i64 i),.one (.slc .sh 2 (eL [y]))] true false (eL (Mg l i.toNat y)):=
 TF (by unfold It;kernel_rfl) (by decide) (λw oa m cap olds i vb voff vc vs=>TH w oa m cap olds i vb voff vc vs) l y hi hj hl
set_option maxRecDepth 100000 in
set_option maxHeartbeats 4000000 in
theorem TJ (w:World) (oa:Option Addr) (m cap:Nat) (olds:List Value) (i:Nat) (hR:RowAt w 2 oa m cap olds) (hi:i<m):Calls Tryz.prog 188 #[.slice oa m cap,.int .i64 (i:Int),.int .i64 ((i:Int)+1)] w (MV w 2 i oa m cap olds):=by
 have hu:=(Zp Qa (t:=44) rfl).sli;have hui:=run_underlying (P:=Tryz.prog) hu;have hsz:∀w,(Go.sizeOf 94).run Tryz.prog w= .ok 2 w:=λw=>Ae (Zp Qa (t:=94) rfl) w
 have hlim:=hR.lim;have hle:=hR.le;have hcm:cap<=9223372036854775807:=by have:=hR.cap;unfold maxLen at this;omega
 have mixed:=Zt;rcases hR.row with ⟨_,h0,_⟩ | ⟨g,cur,e0,rfl,hg,hcs,htk⟩
 . omega
 obtain ⟨W1,qa,o1,o2,o3,qw⟩:=PX (w:=w.drew) Qa (t:=44) (e:=94) rfl rfl (by decide) hg hcs htk ⟨hR.len,hR.row,hR.le,hR.cap,hR.lim,hR.ones⟩ hi;obtain ⟨W2,hcl,qd⟩:=qw W1 rfl o1 o2 o3
 have hd:MV w 2 i (some ⟨g,0,none⟩) m cap olds (.returned (.slice (some ⟨g,0,none⟩) (m-1) cap)) W2:=by
  obtain ⟨u,h1,h2⟩:=qd W2 rfl rfl rfl rfl;exact ⟨u,h1,⟨h2.os,h2.tape,h2.output,h2.size,h2.row⟩⟩
 have hz2:¬((i:Int)=(i:Int)+1):=by omega
 have htn:((i:Int)+1).toNat=i+1:=by omega
 have hb1:(0:Int)<=(i:Int)+1:=by omega
 have hb2:(i:Int)<=(i:Int)+1:=by omega
 have hb3:(i:Int)+1<=(m:Int):=by omega
 have hb4:(i:Int)<=(cap:Int):=by omega
 have hb5:(i:Int)+1<=(cap:Int):=by omega
 have hb6:(m:Int)<=(cap:Int):=by omega
 have hm1:((m-1:Nat):Int)=(m:Int)-1:=by omega
 have hb7:m-1<=m:=by omega
 have hb8:((m-1:Nat):Int)<=(m:Int):=by omega
 have hic:¬(cap=i):=by omega
 have hcm1:¬(cap=m-1):=by omega
 have hc:Calls Tryz.prog 188 #[.slice (some ⟨g,0,none⟩) m cap,.int .i64 (i:Int),.int .i64 ((i:Int)+1)] w (λe w2=>e= .returned (.slice (some ⟨g,0,none⟩) (m-1) cap)/\w2=W2):=by
  by_cases hc1:cap=i+1
  . have hqa:∀ty,_:=λty=>qa ty ⟨g,0,none⟩ (.inl hc1)
    clear hR hg hcs htk qa qw qd hd hm1;subst hc1;go_enter Tryz.func188,Tryz.ntmps188
    go_wp2_with fail
    go_region_law (refine G0 rfl _ _ 44 44 rfl (.slice (some ⟨g,0,none⟩) i (i+1)) (.slice (some ⟨g,0,none⟩) (m-(i+1)) (i+1-(i+1))) (by simp[Act.eval,Act.put]) (by first | (simp[Act.eval,Act.put];done) | (simp[Act.eval,Act.put];omega)) (hqa _) ?_)
    go_wp2
    go_ret
    exact ⟨rfl,rfl⟩
  have hqa:∀ty,_:=λty=>qa ty ⟨g,(i+1)*2,none⟩ (.inr rfl)
  clear hR hg hcs htk qa qw qd hd hm1;go_enter Tryz.func188,Tryz.ntmps188
  go_wp2_with fail
  go_region_law (refine G0 rfl _ _ 44 44 rfl (.slice (some ⟨g,0,none⟩) i cap) (.slice (some ⟨g,(i+1)*2,none⟩) (m-(i+1)) (cap-(i+1))) (by simp[Act.eval,Act.put]) (by simp[Act.eval,Act.put,hc1]) (hqa _) ?_)
  go_wp2
  go_ret
  exact ⟨rfl,rfl⟩
 exact hc.mono (by rintro e w2 ⟨rfl,rfl⟩;exact hd)
theorem Qgv (l:List Yc) {i k:Int} (hi:0<=i) (hk:k=i+1) (hj:i<l.length) (hl:l.length<1073741824):ATake Tryz.prog 188 2 (eL l) [.one (.int .i64 i),.one (.int .i64 k)] true false (eL (Tl l i.toNat)):=
 BR (by unfold It;kernel_rfl) (λw oa m cap olds i=>TJ w oa m cap olds i) l hi hk hj hl
set_option maxRecDepth 100000 in
set_option maxHeartbeats 4000000 in
theorem MY (w:World) (oa:Option Addr) (m cap:Nat) (olds:List Value) (i:Nat) (hR:RowAt w 5 oa m cap olds) (hi:i<m):Calls Tryz.prog 223 #[.slice oa m cap,.int .i64 (i:Int),.int .i64 ((i:Int)+1)] w (MV w 5 i oa m cap olds):=by
 have hu:=(Zp Qa (t:=41) rfl).sli;have hui:=run_underlying (P:=Tryz.prog) hu;have hsz:∀w,(Go.sizeOf 91).run Tryz.prog w= .ok 5 w:=λw=>Ae (Zp Qa (t:=91) rfl) w
 have hlim:=hR.lim;have hle:=hR.le;have hcm:cap<=9223372036854775807:=by have:=hR.cap;unfold maxLen at this;omega
 have mixed:=Zt;rcases hR.row with ⟨_,h0,_⟩ | ⟨g,cur,e0,rfl,hg,hcs,htk⟩
 . omega
 obtain ⟨W1,qa,o1,o2,o3,qw⟩:=PX (w:=w.drew) Qa (t:=41) (e:=91) rfl rfl (by decide) hg hcs htk ⟨hR.len,hR.row,hR.le,hR.cap,hR.lim,hR.ones⟩ hi;obtain ⟨W2,hcl,qd⟩:=qw W1 rfl o1 o2 o3
 have hd:MV w 5 i (some ⟨g,0,none⟩) m cap olds (.returned (.slice (some ⟨g,0,none⟩) (m-1) cap)) W2:=by
  obtain ⟨u,h1,h2⟩:=qd W2 rfl rfl rfl rfl;exact ⟨u,h1,⟨h2.os,h2.tape,h2.output,h2.size,h2.row⟩⟩
 have hz2:¬((i:Int)=(i:Int)+1):=by omega
 have htn:((i:Int)+1).toNat=i+1:=by omega
 have hb1:(0:Int)<=(i:Int)+1:=by omega
 have hb2:(i:Int)<=(i:Int)+1:=by omega
 have hb3:(i:Int)+1<=(m:Int):=by omega
 have hb4:(i:Int)<=(cap:Int):=by omega
 have hb5:(i:Int)+1<=(cap:Int):=by omega
 have hb6:(m:Int)<=(cap:Int):=by omega
 have hm1:((m-1:Nat):Int)=(m:Int)-1:=by omega
 have hb7:m-1<=m:=by omega
 have hb8:((m-1:Nat):Int)<=(m:Int):=by omega
 have hic:¬(cap=i):=by omega
 have hcm1:¬(cap=m-1):=by omega
 have hc:Calls Tryz.prog 223 #[.slice (some ⟨g,0,none⟩) m cap,.int .i64 (i:Int),.int .i64 ((i:Int)+1)] w (λe w2=>e= .returned (.slice (some ⟨g,0,none⟩) (m-1) cap)/\w2=W2):=by
  by_cases hc1:cap=i+1
  . have hqa:∀ty,_:=λty=>qa ty ⟨g,0,none⟩ (.inl hc1)
    clear hR hg hcs htk qa qw qd hd hm1;subst hc1;go_enter Tryz.func223,Tryz.ntmps223
    go_wp2_with fail
    go_region_law (refine G0 rfl _ _ 41 41 rfl (.slice (some ⟨g,0,none⟩) i (i+1)) (.slice (some ⟨g,0,none⟩) (m-(i+1)) (i+1-(i+1))) (by simp[Act.eval,Act.put]) (by first | (simp[Act.eval,Act.put];done) | (simp[Act.eval,Act.put];omega)) (hqa _) ?_)
    go_wp2
    go_ret
    exact ⟨rfl,rfl⟩
  have hqa:∀ty,_:=λty=>qa ty ⟨g,(i+1)*5,none⟩ (.inr rfl)
  clear hR hg hcs htk qa qw qd hd hm1;go_enter Tryz.func223,Tryz.ntmps223
  go_wp2_with fail
  go_region_law (refine G0 rfl _ _ 41 41 rfl (.slice (some ⟨g,0,none⟩) i cap) (.slice (some ⟨g,(i+1)*5,none⟩) (m-(i+1)) (cap-(i+1))) (by simp[Act.eval,Act.put]) (by simp[Act.eval,Act.put,hc1]) (hqa _) ?_)
  go_wp2
  go_ret
  exact ⟨rfl,rfl⟩
 exact hc.mono (by rintro e w2 ⟨rfl,rfl⟩;exact hd)
theorem Qdj (l:List Xx) {i k:Int} (hi:0<=i) (hk:k=i+1) (hj:i<l.length) (hl:l.length<1073741824):ATake Tryz.prog 223 5 (eL l) [.one (.int .i64 i),.one (.int .i64 k)] true false (eL (Tl l i.toNat)):=
 BR (by unfold It;kernel_rfl) (λw oa m cap olds i=>MY w oa m cap olds i) l hi hk hj hl
def V7 (id:Int) (q0:List Int):Bool:=(Vx q0 id)
theorem Rh (id:Int) (q0:List Int):ACalls Tryz.prog 235 [.i id,.one (.rptr .sh [.h q0])] (.b (V7 id q0)):=by
 refine en Qa Tryz.func235 λw0 F0 hG=> ?_
 exact sn Qa [0,1,3] [] p0 <| tn Qa [3] [] (pc 2 (Iv q0 id) p0) <| Qh <| pb [] (show V7 id q0=(Vx q0 id) from rfl)
def V0 (c0:List Int) (k0:Nat) (a0:Int) (_:Unit):Rd (Int) (Unit) (Unit):=(bif (V7 a0 c0) then (.ret (k0:Int)) else (.next ()))
def V1 (_:Nat) (_:Unit):Unit:=()
def Qv (s_:List Int) (c0:List Int):Int:=(Out.on (X7 (V0 c0) V1 s_ 0 ()) (λ_=> -1))
theorem V2 (s_:List Int) (c0:List Int):Qv s_ c0=ixF (λa=>V7 a c0) s_:=Qde (λ_ _ _=>rfl) s_
theorem Dt (s_:List Int) (c0:List Int): -1<=Qv s_ c0/\Qv s_ c0<(zD s_:Int):=by rw[V2];exact ZG _ _
theorem El (s_:List Int) (c0:List Int):ACalls Tryz.prog 267 [.h s_,.one (.fnr 235 [[.h c0]])] (.i (Qv s_ c0)):=by
 refine en Qa Tryz.func267 λw0 F0 hG=> ?_
 refine sn Qa [0,1,4] [] p0 <| Qc <| tn Qa [0,1,4,7,8] [] (pl 1 s_ p0) <| mz [(4,.i 0),(7,.i (s_.length:Int)),(8,.i 0)] [] [] [] <| wT 0 0 .sh s_ (λhw1 hl2=> ?_)
 refine Pa (V0 c0) V1 s_ () (λk0 _=> [(8,.i (k0:Int))]) [8] (λ_=> []) [0,1,7,8] wf0 (λk0 s0 hk0 U=> ?_) (λk0 s0 hk0 U=> ?_) (λy0 hD0=> ?_)
 ·obtain ⟨a0,V⟩:=Xs (l:=s_) (i:=k0) hk0;refine sn Qa [0,1,4,7,8,9] [] (pe 0 (zB ((k0:Int)<(s_.length:Int))) p0) <| Qc <| ckT <| Qe <| Qc <| Qt <| tn Qa [0,1,4,5,7,8] [] p0 <| tu Qa [(5,.i (k0:Int)),(16,.b (V7 a0 c0))] [] [] [] (pn 3 V (pc 5 (Rh a0 c0) p0)) <| ck (V7 a0 c0) (λh3=> ?_) (λh3=> ?_)
  ·refine sn Qa [0,1,4,7,8] [] p0 <| Qh ?_
   have hr4:(X7 (V0 c0) V1 s_ 0 ())= .ret (k0:Int):=Jr V (Xm h3 (rfl)) U;exact pi [] (Nk hr4)
  refine Qe <| rn Qa [0,1,4,7,8] [] (pe 0 (J6 (Ql k0 (by omega))) p0) ?_
  exact xw _ (Qp V (Qn h3 (rfl)) U)
 ·exact sn Qa [0,1,4,7,8,9] [] (pe 0 (zC ((k0:Int)<(s_.length:Int))) p0) <| Qc <| ckF <| Q9 <| xw _ (Xt hk0 (rfl) U)
 exact sn Qa [4] [] p0 <| Qh <| pi [] (Uc hD0 (rfl))
def Zd (c0:List Int) (s0:(List Int)×Int×Int):Rd (List Int) ((List Int)×Int×Int) ((List Int)×Int):=(bif decide (s0.2.2<(s0.1.length:Int)) then (bif (!(V7 (nth s0.1 s0.2.2.toNat) c0)) then (.next (zR s0.1 s0.2.1.toNat (nth s0.1 s0.2.2.toNat),(s0.2.1+1),(s0.2.2+1))) else (.next (s0.1,s0.2.1,(s0.2.2+1)))) else (.brk (s0.1,s0.2.1)))
def Yk (s_:List Int) (c0:List Int):(List Int):=(bif ((Qv s_ c0)==(-1:Int)) then s_ else (Out.on (N1 (Zd c0) (zD s_+1) (s_,(Qv s_ c0),((Qv s_ c0)+1))) (λy0=>zO y0.2.toNat y0.1)))
theorem Ha (c0:List Int):WI (Zd c0) (λa=>V7 a c0):=by
 intro s i j hij hj;unfold Zd;by_cases h:(j:Int)<(s.length:Int)<;>cases hp:V7 (nth s j) c0<;>simp[h,hp]
theorem Du (s_:List Int) (c0:List Int) (hp:zD s_<=1073741824) (h:Qv s_ c0≠-1):(whl (Zd c0) (zD s_+1) (s_,Qv s_ c0,Qv s_ c0+1)).isSome=true:=Qgu (Ha c0) hp (V2 s_ c0) h
theorem Dk (s_:List Int) (c0:List Int) (hp:zD s_<=1073741824):Yk s_ c0=s_.filter (λa=> !(V7 a c0)):=by
 unfold Yk;exact Qlh (Ha c0) hp (V2 s_ c0)
theorem Dl (s_:List Int) (c0:List Int) (hp:zD s_<=1073741824):zD (Yk s_ c0)<=zD s_:=by rw[Dk _ _ hp];exact List.length_filter_le _ _
theorem Dv (s_:List Int) (c0:List Int):ATake Tryz.prog 234 1 (eL s_) [.one (.fnr 235 [[.h c0]])] true false (eL (Yk s_ c0)):=by
 refine Qgo (tt:=tt) Qa Tryz.func234 (fn:=Tryz.f234) rfl (by unfold It;kernel_rfl) (Nat.le_of_ble_eq_true rfl) (by simp[AV.cells,C.key,C.bkeys]) (t:=4) rfl λw0 F0 hG=> ?_
 refine wT 0 0 (.own false 63) s_ (λhw1 hl2=> ?_);have hix:=Dt s_ c0;refine sn Qa [0,1,4] [] p0 <| tn Qa [0,1,4,5] [] (pc 2 (El s_ c0) p0) <| Qc <| tu Qa [(4,.e 0),(5,.i (Qv s_ c0)),(12,.b ((Qv s_ c0)==(-1:Int)))] [] [] [] p0 <| ck ((Qv s_ c0)==(-1:Int)) (λh3=> ?_) (λh3=> ?_)
 ·refine sn Qa [0,1,4,5] [] p0 <| Qh ?_
  have hE4:Yk s_ c0=s_:=Xm h3 (rfl);exact ⟨.inl rfl,63,by rw[hE4];kernel_rfl⟩
 have h3d:=Z7 h3;refine Qe <| Qc <| sn Qa [0,1,4,5,6] [] (pe 1 (J6 (IntWalk.i64_in ((Qv s_ c0)+1) (by omega))) p0) <| mz [(6,.i ((Qv s_ c0)+1))] [12] [] [] <| blw (λ(s0:(List Int)×Int×Int)=> [(0,.q 63 s0.1),(5,.i s0.2.1),(6,.i s0.2.2)]) [0,5,6] (λs0=> []) [] (λ(y0:(List Int)×Int)=> [(0,.q 63 y0.1),(5,.i y0.2)]) [0,1,5,6] (λy0=> []) [] (λ(k0:Nat) (s0:(List Int)×Int×Int)=>whl (Zd c0) k0 s0=some (N1 (Zd c0) (zD s_+1) (s_,(Qv s_ c0),((Qv s_ c0)+1)))/\0<=s0.2.1/\s0.2.1<s0.2.2/\s0.2.2<=(zD s0.1:Int)/\zD s0.1=zD s_) (λ(y0:(List Int)×Int)=>(N1 (Zd c0) (zD s_+1) (s_,(Qv s_ c0),((Qv s_ c0)+1)))= .brk y0/\0<=y0.2/\y0.2<(zD y0.1:Int)/\zD y0.1=zD s_) (zD s_+1) (s_,(Qv s_ c0),((Qv s_ c0)+1)) wf0 ⟨Oc (Du s_ c0 hl2 h3d),(by first|omega|(dsimp only;omega) | rfl),(by first|omega|(dsimp only;omega) | rfl),(by first|omega|(dsimp only;omega) | rfl),(by first|omega|(dsimp only;omega) | rfl)⟩ (λ_ h=>Rv h.1) (λk0 s0 U=> ?_) (λy0 hD0=> ?_)
 ·have hA0_0:=U.2.1;have hA0_1:=U.2.2.1;have hA0_2:=U.2.2.2.1;have hA0_3:=U.2.2.2.2;refine Qc <| sn Qa [0,1,4,5,6,19] [] (pl 2 s0.1 p0) <| ck (decide (s0.2.2<(s0.1.length:Int))) (λh5=> ?_) (λh5=> ?_)
  ·have h5d:=of_decide_eq_true h5;refine Qe <| Qc <| Qt <| wT 0 0 (.own false 63) s0.1 (λhw7 hl8=> ?_)
   have hx6:=ng s0.1 s0.2.2.toNat;refine tn Qa [0,1,4,5,6,7] [] (pG 2 s0.2.2 hx6 p0) <| tu Qa [(7,.i (nth s0.1 s0.2.2.toNat)),(29,.b (!(V7 (nth s0.1 s0.2.2.toNat) c0)))] [] [] [] (pc 2 (Rh (nth s0.1 s0.2.2.toNat) c0) p0) <| ck (!(V7 (nth s0.1 s0.2.2.toNat) c0)) (λh9=> ?_) (λh9=> ?_)
   ·have hx10:=ng s0.1 s0.2.1.toNat;refine su Qa [(0,.one (.slc (.own false 63) 1 (setRow (eL s0.1) s0.2.1.toNat 0 [.i (nth s0.1 s0.2.2.toNat)])))] [0,7,29] [] [] (pG 3 s0.2.1 hx10 p0) <| eqn [(0,.q 63 (zR s0.1 s0.2.1.toNat (nth s0.1 s0.2.2.toNat)))] [0] [] [] (by rw[Vg (y:=(nth s0.1 s0.2.2.toNat)) hx10 rfl]<;>kernel_rfl) ?_
    refine rn Qa [0,1,4,5,6] [] (pe 1 (J6 (IntWalk.i64_in (s0.2.1+1) (by omega))) p0) ?_;refine qn Qa [0,1,4,5,6] [] (pe 1 (J6 (IntWalk.i64_in (s0.2.2+1) (by omega))) p0) ?_;exact xw (zR s0.1 s0.2.1.toNat (nth s0.1 s0.2.2.toNat),(s0.2.1+1),(s0.2.2+1)) ⟨wn U.1 (Xm h5 (Xm h9 (rfl))),(by first|omega|(dsimp only;omega) | (simp only[zF];omega)),(by first|omega|(dsimp only;omega) | (simp only[zF];omega)),(by first|omega|(dsimp only;omega) | (simp only[zF];omega)),(by first|omega|(dsimp only;omega) | (simp only[zF];omega))⟩
   refine Qe <| rn Qa [0,1,4,5,6] [] (pe 1 (J6 (IntWalk.i64_in (s0.2.2+1) (by omega))) p0) ?_
   exact xw (s0.1,s0.2.1,(s0.2.2+1)) ⟨wn U.1 (Xm h5 (Qn h9 (rfl))),(by first|omega|(dsimp only;omega) | (simp only[zF];omega)),(by first|omega|(dsimp only;omega) | (simp only[zF];omega)),(by first|omega|(dsimp only;omega) | (simp only[zF];omega)),(by first|omega|(dsimp only;omega) | (simp only[zF];omega))⟩
  have h5d:=of_decide_eq_false h5;exact Q9 <| xw (s0.1,s0.2.1) ⟨wb U.1 (Qn h5 (rfl)),by first|omega|(simp only[zF];omega),by first|omega|(simp only[zF];omega),by first|omega|(simp only[zF];omega)⟩
 have hD0_0:=hD0.2.1;have hD0_1:=hD0.2.2.1;have hD0_2:=hD0.2.2.2;refine Qc <| Qda Qa rfl (by kernel_rfl) rfl rfl rfl rfl rfl (by omega) (by rw[Zs];omega) (λlc11 hllc11 htlc11=> ?_)
 refine sn Qa [4] [] (po 2 (.cut (eL (zO y0.2.toNat y0.1))) (px (Ql4 (show .one (.slc (.own false 0) 1 ((lc11.take y0.2.toNat).drop (zZ 0)))= .q 0 (zO y0.2.toNat y0.1) from (congrArg (λz=>AV.one (.slc (.own false 0) 1 (z.drop (zZ 0)))) htlc11).trans (LX (.own false 0) 1 y0.2.toNat y0.2 y0.1 rfl))) (px (T2 (lo:=0) (hi:=y0.2) (n:=(zD lc11)) (Qlg (by omega) (by rw[hllc11,Zs];omega))) p0))) <| Qh ?_
 have hE12:Yk s_ c0=zO y0.2.toNat y0.1:=Qn h3 (Uc hD0.1 (rfl));exact ⟨.inl rfl,0,by rw[hE12];kernel_rfl⟩
def Gk (a_:List Int) (b:List Int):(List Int):=Yk a_ b
theorem QV (a_:List Int) (b:List Int):ACalls Tryz.prog 195 [.h a_,.h b] (.o 0 (Gk a_ b)):=by
 refine en Qa Tryz.func195 λw0 F0 hG=> ?_
 refine sn Qa [0,3,4] [3] p0 <| wT 0 0 .sh a_ (λhw1 hl2=> ?_)
 have hq3:=Dl a_ b hl2;exact tn Qa [4] [] (pc 1 (YF a_) (po 3 (.take false false (eL (Yk a_ b))) (px (S5 (TG (Dv a_ b) (Df _))) (px (Ec (Df a_)) (px (Ec (Df (Yk a_ b))) p0))))) <| Qh <| po0 [] (show Gk a_ b=Yk a_ b from rfl)
def Qo (f:Xx):Xx:=f
theorem G1 (f:Xx):ACalls Tryz.prog 180 [.a [.i f.1,.i f.2.1,.b f.2.2.1,.i f.2.2.2.1,.h f.2.2.2.2]] (.a [.i ((Qo f).1),.i ((Qo f).2.1),.b ((Qo f).2.2.1),.i ((Qo f).2.2.2.1),.o 0 ((Qo f).2.2.2.2)]):=by
 refine en Qa Tryz.func180 λw0 F0 hG=> ?_
 exact sn Qa [1,2] [1,2] p0 <| tn Qa [1,2] [1,2] (pc 2 (ME f.2.2.2.2) p0) <| tu Qa [(2,.p 2 0)] [0] [(2, [.i f.1,.i f.2.1,.b f.2.2.1,.i f.2.2.2.1,.o 320 f.2.2.2.2])] [] p0 <| Qh <| pz [] (show Qo f=f from rfl) (λz=> .a [.i z.1,.i z.2.1,.b z.2.2.1,.i z.2.2.2.1,.o 0 z.2.2.2.2])
def Il (_:Nat) (a0:Xx) (s0:List Xx):Rd (List Xx) (List Xx) (List Xx):=(.next (s0++ [(Qo a0)]))
def D6 (_:Nat) (s0:List Xx):(List Xx):=s0
def Fz (l:List Xx):(List Xx):=(Out.on (X7 Il D6 l 0 []) (λy0=>y0))
theorem WL (l:List Xx):ACalls Tryz.prog 174 [.h l] (.o 0 (Fz l)):=by
 refine en Qa Tryz.func174 λw0 F0 hG=> ?_
 refine sn Qa [0,2] [] p0 <| tn Qa [0,2,3] [] p0 <| Qc <| tu Qa [(2,.e 0),(3,.one (.slc (.own true 384) 5 [])),(7,.h l),(8,.i (l.length:Int)),(9,.i 0)] [0] [] [] (pl 1 l p0) <| wT 7 0 .sh l (λhw1 hl2=> ?_)
 refine ZQ Il D6 l [] (λk0 s0=> [(3,.o 147201 s0),(9,.i (k0:Int))]) [3,9] (λy0=> [(3,.o 147351 y0)]) [3,7,8,9] (λk0 s0=>zD s0<=k0) (X4 [(384,147201)] (by kernel_rfl)) (by simp) (λk0 s0 hk0 U=> ?_) (λk0 s0 hk0 U=> ?_) (λy0 hD0=> ?_)
 ·have hA0_0:=U.2;obtain ⟨a0,V⟩:=Xs (l:=l) (i:=k0) hk0;refine sn Qa [2,3,7,8,9,10] [] (pe 0 (zB ((k0:Int)<(l.length:Int))) p0) <| Qc <| ckT <| Qe <| Qc <| Qt <| tn Qa [2,3,5,7,8,9] [5] (pn 0 V p0) <| wT 3 0 (.own true 147201) s0 (λhw3 hl4=> ?_)
  refine qu Qa [(3,.one (.slc (.own true 1088) 5 ((eL s0)++ [[.i ((Qo a0).1),.i ((Qo a0).2.1),.b ((Qo a0).2.2.1),.i ((Qo a0).2.2.2.1),.h ((Qo a0).2.2.2.2)]])))] [3] [] [] (pc 2 (G1 a0) (pa s0 [(Qo a0)] p0)) ?_;refine eqn [(3,.o 1088 (s0++ [(Qo a0)]))] [3] [] [] (by rw[show ((eL s0)++ [[.i ((Qo a0).1),.i ((Qo a0).2.1),.b ((Qo a0).2.2.1),.i ((Qo a0).2.2.2.1),.h ((Qo a0).2.2.2.2)]])=(eL (s0++ [(Qo a0)])) from We (rfl) (rfl)];first | done | kernel_rfl) ?_;refine rn Qa [2,3,7,8,9] [] (pe 0 (J6 (Ql k0 (by omega))) p0) ?_;exact zE (s0++ [(Qo a0)]) (zH (X4 [(1088,147201)] (by kernel_rfl)) ⟨Qp V (rfl) U.1,by first|omega|(simp;omega) | simp⟩)
 ·have hA0_0:=U.2;exact sn Qa [2,3,7,8,9,10] [] (pe 0 (zC ((k0:Int)<(l.length:Int))) p0) <| Qc <| ckF <| Q9 <| zE _ (zH (X4 [(147201,147351)] (by kernel_rfl)) (Xt hk0 (rfl) U.1))
 exact sn Qa [2] [] p0 <| Qh <| po0 [] (Uc hD0 (rfl))
def Xd (s_:Xr):Xr:=(s_.1,(Fz s_.2.1),s_.2.2)
theorem ZI (l:List Xx):Fz l=l:=by
 unfold Fz;rw[A7 (f:=Il) (e:=D6) (g:=id) (λk a s=>rfl) l 0 []];simp[Out.on,D6]
theorem Oq (s_:Xr):(Xd s_).2.1.length=s_.2.1.length:=by unfold Xd;rw[ZI]
theorem Hl (s_:Xr):Xd s_=s_:=by unfold Xd;rw[ZI]
theorem Cn (s_:Xr):ACalls Tryz.prog 121 [.a [.h s_.1,.h s_.2.1,.i s_.2.2]] (.a [.o 0 ((Xd s_).1),.o 1 ((Xd s_).2.1),.i ((Xd s_).2.2)]):=by
 refine en Qa Tryz.func121 λw0 F0 hG=> ?_
 exact sn Qa [1,2] [1,2] p0 <| tN Qa Zt [2] [2] (pc 2 (FR s_.1) (pc 5 (WL s_.2.1) p0)) <| Qh <| pz [] (show Xd s_=(s_.1,(Fz s_.2.1),s_.2.2) from rfl) (λz=> .a [.o 0 z.1,.o 1 z.2.1,.i z.2.2])
def Yg (s_:Xr) (f:Xx):Xr×Int×Bool:=(bif ((!(Qs s_))|| (decide ((s_.2.1.length:Int)>=(12:Int))|| (!(Y1 s_.1 (s_.2.2,(Qo f).2.1,(Qo f).2.2.1,(Qo f).2.2.2.1,(Qo f).2.2.2.2))))) then ((Xd s_),0,false) else (((Xd s_).1,(Xd s_).2.1++ [(s_.2.2,(Qo f).2.1,(Qo f).2.2.1,(Qo f).2.2.2.1,(Qo f).2.2.2.2)],IntKind.i64.wrap ((Xd s_).2.2+1)),s_.2.2,true))
theorem ZR (s_:Xr) (f:Xx):ACalls Tryz.prog 178 [.a [.h s_.1,.h s_.2.1,.i s_.2.2],.a [.i f.1,.i f.2.1,.b f.2.2.1,.i f.2.2.2.1,.h f.2.2.2.2]] (.tup [(true, [.o 0 ((((Yg s_ f)).1).1),.o 1 ((((Yg s_ f)).1).2.1),.i ((((Yg s_ f)).1).2.2)]),(false, [.i (((Yg s_ f)).2.1)]),(false, [.b (((Yg s_ f)).2.2)])]):=by
 refine en Qa Tryz.func178 λw0 F0 hG=> ?_
 have hcl:=Oq s_;refine sn Qa [2,3,4,5,6] [2,3,4] p0 <| tn Qa [2,3,4,5,6,7] [2,3,4,7] (pc 1 (Cn s_) p0) <| tu Qa [(2,.p 2 0),(3,.p 3 0),(4,.p 4 0),(5,.i 0),(6,.b false),(7,.p 7 0)] [0,1] [(2, [.h s_.1,.h s_.2.1,.i s_.2.2]),(3, [.i ((Qo f).1),.i ((Qo f).2.1),.b ((Qo f).2.2.1),.i ((Qo f).2.2.2.1),.o 704 ((Qo f).2.2.2.2)]),(4, [.e 2,.e 5,.i 0]),(7, [.o 576 ((Xd s_).1),.o 577 ((Xd s_).2.1),.i ((Xd s_).2.2)])] [] (pc 1 (G1 f) p0) <| sn Qa [2,3,4,5,6,7] [2,3,4,7] p0 <| Qc <| Qc <| mz [] [] [(3, [.i s_.2.2,.i ((Qo f).2.1),.b ((Qo f).2.2.1),.i ((Qo f).2.2.2.1),.o 704 ((Qo f).2.2.2.2)])] [3] <| jn [(30,.b ((!(Qs s_))|| (decide ((s_.2.1.length:Int)>=(12:Int))|| (!(Y1 s_.1 (s_.2.2,(Qo f).2.1,(Qo f).2.2.1,(Qo f).2.2.2.1,(Qo f).2.2.2.2))))))] [2] [] [2] (!(Qs s_)) (λh1=> ?_) (λh1=> ?_) ?_
 ·have h1n:(Qs s_)=false:=Vp h1;refine ru Qa [(30,.b true)] [2] [] [2] (pc 1 (cb h1n (Va s_)) (pe 2 (show .b (!false)= .b true from rfl) p0)) ?_;exact zA (by rw[h1]<;>kernel_rfl)
 ·have h1n:(Qs s_)=true:=Zc h1;refine Yj (decide ((s_.2.1.length:Int)>=(12:Int))) (λh2=> ?_) (λh2=> ?_)
  ·refine ru Qa [(30,.b true)] [2] [] [2] (pc 1 (cb h1n (Va s_)) (pe 2 (show .b (!true)= .b false from rfl) (pl 6 s_.2.1 (pt 7 h2 p0)))) ?_;exact zA (by rw[h1,h2]<;>kernel_rfl)
  refine rn Qa [3,4,5,6,7,30] [3,4,7] (pc 1 (cb h1n (Va s_)) (pe 2 (show .b (!true)= .b false from rfl) (pl 6 s_.2.1 (pf 7 h2 (pc 13 (Ho s_.1 (s_.2.2,(Qo f).2.1,(Qo f).2.2.1,(Qo f).2.2.2.1,(Qo f).2.2.2.2)) p0))))) ?_;exact zA (by rw[h1,h2]<;>kernel_rfl)
 refine ck ((!(Qs s_))|| (decide ((s_.2.1.length:Int)>=(12:Int))|| (!(Y1 s_.1 (s_.2.2,(Qo f).2.1,(Qo f).2.2.1,(Qo f).2.2.2.1,(Qo f).2.2.2.2))))) (λh3=> ?_) (λh3=> ?_)
 ·exact sn Qa [3,4,5,6,7] [3,4,7] p0 <| Qh <| pz [] (show Yg s_ f=_ from Xm h3 (rfl)) (λz=> .tup [(true, [.o 0 z.1.1,.o 1 z.1.2.1,.i z.1.2.2]),(false, [.i z.2.1]),(false, [.b z.2.2])])
 have h3r:((decide ((s_.2.1.length:Int)>=(12:Int))|| (!(Y1 s_.1 (s_.2.2,(Qo f).2.1,(Qo f).2.2.1,(Qo f).2.2.2.1,(Qo f).2.2.2.2)))))=false:=Pr h3;have h3rl:(decide ((s_.2.1.length:Int)>=(12:Int)))=false:=Rw h3r;have h3rld:=of_decide_eq_false h3rl;refine Qe <| wB 7 1 (.own true 577) ((Xd s_).2.1) (λhw4 hl5=> ?_)
 refine su Qa [] [30] [(3, [.i s_.2.2,.i ((Qo f).2.1),.b ((Qo f).2.2.1),.i ((Qo f).2.2.2.1),.dead]),(7, [.o 576 ((Xd s_).1),.slc (.own true 2304) 5 ((eL ((Xd s_).2.1))++ [[.i s_.2.2,.i ((Qo f).2.1),.b ((Qo f).2.2.1),.i ((Qo f).2.2.2.1),.h ((Qo f).2.2.2.2)]]),.i ((Xd s_).2.2)])] [3,7] (pa ((Xd s_).2.1) [(s_.2.2,(Qo f).2.1,(Qo f).2.2.1,(Qo f).2.2.2.1,(Qo f).2.2.2.2)] p0) <| eqn [] [] [(7, [.o 576 ((Xd s_).1),.o 2304 ((Xd s_).2.1++ [(s_.2.2,(Qo f).2.1,(Qo f).2.2.1,(Qo f).2.2.2.1,(Qo f).2.2.2.2)]),.i ((Xd s_).2.2)])] [7] (by rw[show ((eL ((Xd s_).2.1))++ [[.i s_.2.2,.i ((Qo f).2.1),.b ((Qo f).2.2.1),.i ((Qo f).2.2.2.1),.h ((Qo f).2.2.2.2)]])=(eL ((Xd s_).2.1++ [(s_.2.2,(Qo f).2.1,(Qo f).2.2.1,(Qo f).2.2.2.1,(Qo f).2.2.2.2)])) from We (rfl) (rfl)];first | done | kernel_rfl) ?_
 exact sn Qa [3,4,5,6,7] [3,4,7] p0 <| tN Qa Zt [4,5,6] [4] p0 <| Qh <| pz [] (show Yg s_ f=_ from Qn h3 (rfl)) (λz=> .tup [(true, [.o 0 z.1.1,.o 1 z.1.2.1,.i z.1.2.2]),(false, [.i z.2.1]),(false, [.b z.2.2])])
def Xh (s_:Xr) (id:Int):Xx×Bool:=(bif decide ((Yf s_ id)>=(0:Int)) then ((Qo (nth s_.2.1 (Yf s_ id).toNat)),true) else ((0,0,false,0, []),false))
theorem BS {s:Xr} (h:Qs s=true) (id:Int):zD (Xh s id).1.2.2.2.2<=5:=by
 unfold Xh;by_cases hc:Yf s id>=(0:Int)
 . rw[decide_eq_true hc,cond_true];have hl:=WJ s id;exact ZH h (xH (Hb (l:=s.2.1) (i:=zZ (Yf s id)) (by omega)))
 rw[decide_eq_false hc,cond_false];exact yX _
theorem M9 (s_:Xr) (id:Int):ACalls Tryz.prog 126 [.a [.h s_.1,.h s_.2.1,.i s_.2.2],.i id] (.tup [(true, [.i ((((Xh s_ id)).1).1),.i ((((Xh s_ id)).1).2.1),.b ((((Xh s_ id)).1).2.2.1),.i ((((Xh s_ id)).1).2.2.2.1),.o 0 ((((Xh s_ id)).1).2.2.2.2)]),(false, [.b (((Xh s_ id)).2)])]):=by
 refine en Qa Tryz.func126 λw0 F0 hG=> ?_
 refine sn Qa [1,2,4,5] [2,4] p0 <| Qc <| tn Qa [2,4,5,6] [2,4] (pc 2 (Rg s_ id) p0) <| tu Qa [(2,.p 2 0),(4,.p 4 0),(5,.b false),(6,.i (Yf s_ id)),(11,.b (decide ((Yf s_ id)>=(0:Int))))] [0,1] [(2, [.h s_.1,.h s_.2.1,.i s_.2.2]),(4, [.i 0,.i 0,.b false,.i 0,.e 4])] [] p0 <| ck (decide ((Yf s_ id)>=(0:Int))) (λh1=> ?_) (λh1=> ?_)
 ·have h1p:=WJ s_ id;have h1d:=of_decide_eq_true h1;refine wB 2 1 .sh s_.2.1 (λhw3 hl4=> ?_);have hx2:=ng s_.2.1 (Yf s_ id).toNat;exact sn Qa [4,5] [4] (pg 3 (Yf s_ id) hx2 (pc 5 (G1 (nth s_.2.1 (Yf s_ id).toNat)) p0)) <| Qh <| pz [] (show Xh s_ id=_ from Xm h1 (rfl)) (λz=> .tup [(true, [.i z.1.1,.i z.1.2.1,.b z.1.2.2.1,.i z.1.2.2.2.1,.o 0 z.1.2.2.2.2]),(false, [.b z.2])])
 refine Qe <| sn Qa [4,5] [4] p0 <| opn [(true,4,4,true,384000,4)] ?_
 exact Qh <| pz [] (show Xh s_ id=_ from Qn h1 (rfl)) (λz=> .tup [(true, [.i z.1.1,.i z.1.2.1,.b z.1.2.2.1,.i z.1.2.2.2.1,.o 0 z.1.2.2.2.2]),(false, [.b z.2])])
def Xy (s_:Xr) (f:Xx):Xr×Bool:=(bif ((!(Qs s_))|| (decide ((Yf s_ f.1)<(0:Int))|| (!(Y1 s_.1 f)))) then ((Xd s_),false) else (((Xd s_).1,zR ((Xd s_).2.1) (Yf s_ f.1).toNat (Qo f),(Xd s_).2.2),true))
theorem BT {s:Xr} {f:Xx} (h:(Xy s f).2=true):Qs s=true/\zD f.2.2.2.2<=5:=by
 unfold Xy at h;cases hv:Qs s with
 | false=>rw[hv] at h;simp at h
 | true=>
  refine ⟨rfl, ?_⟩;cases hf:Y1 s.1 f with
  | true=>exact Tm hf
  | false=>
   rw[hv,hf] at h;simp at h
theorem YO (s_:Xr) (f:Xx):ACalls Tryz.prog 181 [.a [.h s_.1,.h s_.2.1,.i s_.2.2],.a [.i f.1,.i f.2.1,.b f.2.2.1,.i f.2.2.2.1,.h f.2.2.2.2]] (.tup [(true, [.o 0 ((((Xy s_ f)).1).1),.o 1 ((((Xy s_ f)).1).2.1),.i ((((Xy s_ f)).1).2.2)]),(false, [.b (((Xy s_ f)).2)])]):=by
 refine en Qa Tryz.func181 λw0 F0 hG=> ?_
 have hcl:=Oq s_;refine sn Qa [2,3,4,5] [2,3,4] p0 <| tn Qa [2,3,4,5,6] [2,3,4,6] (pc 1 (Cn s_) p0) <| tu Qa [(2,.p 2 0),(3,.p 3 0),(4,.p 4 0),(5,.b false),(6,.p 6 0),(7,.i (Yf s_ f.1))] [0,1] [(2, [.h s_.1,.h s_.2.1,.i s_.2.2]),(3, [.i f.1,.i f.2.1,.b f.2.2.1,.i f.2.2.2.1,.h f.2.2.2.2]),(4, [.e 2,.e 5,.i 0]),(6, [.o 576 ((Xd s_).1),.o 577 ((Xd s_).2.1),.i ((Xd s_).2.2)])] [] (pc 3 (Rg s_ f.1) p0) <| Qc <| Qc <| jn [(27,.b ((!(Qs s_))|| (decide ((Yf s_ f.1)<(0:Int))|| (!(Y1 s_.1 f)))))] [2] [] [2] (!(Qs s_)) (λh1=> ?_) (λh1=> ?_) ?_
 ·have h1n:(Qs s_)=false:=Vp h1;refine ru Qa [(27,.b true)] [2] [] [2] (pc 1 (cb h1n (Va s_)) (pe 2 (show .b (!false)= .b true from rfl) p0)) ?_;exact zA (by rw[h1]<;>kernel_rfl)
 ·have h1n:(Qs s_)=true:=Zc h1;have h1ns:=YN h1n;refine Yj (decide ((Yf s_ f.1)<(0:Int))) (λh2=> ?_) (λh2=> ?_)
  ·refine ru Qa [(27,.b true)] [2] [] [2] (pc 1 (cb h1n (Va s_)) (pe 2 (show .b (!true)= .b false from rfl) (pt 5 h2 p0))) ?_;exact zA (by rw[h1,h2]<;>kernel_rfl)
  have h2p:=WJ s_ f.1;refine rn Qa [3,4,5,6,7,27] [3,4,6] (pc 1 (cb h1n (Va s_)) (pe 2 (show .b (!true)= .b false from rfl) (pf 5 h2 (pc 11 (Ho s_.1 f) p0)))) ?_;exact zA (by rw[h1,h2]<;>kernel_rfl)
 refine ck ((!(Qs s_))|| (decide ((Yf s_ f.1)<(0:Int))|| (!(Y1 s_.1 f)))) (λh3=> ?_) (λh3=> ?_)
 ·exact sn Qa [3,4,5,6,7] [3,4,6] p0 <| Qh <| pz [] (show Xy s_ f=_ from Xm h3 (rfl)) (λz=> .tup [(true, [.o 0 z.1.1,.o 1 z.1.2.1,.i z.1.2.2]),(false, [.b z.2])])
 have h3l:((!(Qs s_)))=false:=Rw h3;have h3ln:(Qs s_)=true:=Zc h3l;have h3lns:=YN h3ln;have h3r:((decide ((Yf s_ f.1)<(0:Int))|| (!(Y1 s_.1 f))))=false:=Pr h3;have h3rl:(decide ((Yf s_ f.1)<(0:Int)))=false:=Rw h3r;have h3rlp:=WJ s_ f.1;have h3rld:=of_decide_eq_false h3rl;refine Qe <| wB 6 1 (.own true 577) ((Xd s_).2.1) (λhw5 hl6=> ?_)
 have hx4:=ng ((Xd s_).2.1) (Yf s_ f.1).toNat;refine sU Qa Zt [] [3,7,27] [(6, [.o 576 ((Xd s_).1),.slc (.own true 577) 5 (setRow (eL ((Xd s_).2.1)) (Yf s_ f.1).toNat 0 [.i ((Qo f).1),.i ((Qo f).2.1),.b ((Qo f).2.2.1),.i ((Qo f).2.2.2.1),.h ((Qo f).2.2.2.2)]),.i ((Xd s_).2.2)])] [3,6] (pc 4 (G1 f) (pG 5 (Yf s_ f.1) hx4 p0)) <| eqn [] [] [(6, [.o 576 ((Xd s_).1),.o 577 (zR ((Xd s_).2.1) (Yf s_ f.1).toNat (Qo f)),.i ((Xd s_).2.2)])] [6] (by rw[Vg (y:=(Qo f)) hx4 rfl]<;>kernel_rfl) ?_
 exact sn Qa [4,5] [4] p0 <| Qh <| pz [] (show Xy s_ f=_ from Qn h3 (rfl)) (λz=> .tup [(true, [.o 0 z.1.1,.o 1 z.1.2.1,.i z.1.2.2]),(false, [.b z.2])])
def Yu (s_:Xr) (id:Int):Xr×Bool:=(bif ((!(Qs s_))|| decide ((Yf s_ id)<(0:Int))) then ((Xd s_),false) else (((Xd s_).1,Tl ((Xd s_).2.1) (Yf s_ id).toNat,(Xd s_).2.2),true))
theorem ZS (s_:Xr) (id:Int):ACalls Tryz.prog 183 [.a [.h s_.1,.h s_.2.1,.i s_.2.2],.i id] (.tup [(true, [.h ((((Yu s_ id)).1).1),.h ((((Yu s_ id)).1).2.1),.i ((((Yu s_ id)).1).2.2)]),(false, [.b (((Yu s_ id)).2)])]):=by
 refine en Qa Tryz.func183 λw0 F0 hG=> ?_
 have hcl:=Oq s_;refine sn Qa [1,2,4,5] [2,4] p0 <| tn Qa [1,2,4,5,6] [2,4,6] (pc 1 (Cn s_) p0) <| tu Qa [(2,.p 2 0),(4,.p 4 0),(5,.b false),(6,.p 6 0),(7,.i (Yf s_ id))] [0,1] [(2, [.h s_.1,.h s_.2.1,.i s_.2.2]),(4, [.e 2,.e 5,.i 0]),(6, [.o 576 ((Xd s_).1),.o 577 ((Xd s_).2.1),.i ((Xd s_).2.2)])] [] (pc 2 (Rg s_ id) p0) <| Qc <| Qc <| jn [(19,.b ((!(Qs s_))|| decide ((Yf s_ id)<(0:Int))))] [2] [] [2] (!(Qs s_)) (λh1=> ?_) (λh1=> ?_) ?_
 ·have h1n:(Qs s_)=false:=Vp h1;refine rn Qa [4,5,6,7,19] [4,6] (pc 1 (cb h1n (Va s_)) (pe 2 (show .b (!false)= .b true from rfl) p0)) ?_;exact zA (by rw[h1]<;>kernel_rfl)
 ·have h1n:(Qs s_)=true:=Zc h1;have h1ns:=YN h1n;refine rn Qa [4,5,6,7,19] [4,6] (pc 1 (cb h1n (Va s_)) (pe 2 (show .b (!true)= .b false from rfl) p0)) ?_;exact zA (by rw[h1]<;>kernel_rfl)
 refine ck ((!(Qs s_))|| decide ((Yf s_ id)<(0:Int))) (λh2=> ?_) (λh2=> ?_)
 ·exact sn Qa [4,5,6,7] [4,6] p0 <| Qh <| pz [576,577] (show Yu s_ id=_ from Xm h2 (rfl)) (λz=> .tup [(true, [.h z.1.1,.h z.1.2.1,.i z.1.2.2]),(false, [.b z.2])])
 have h2l:((!(Qs s_)))=false:=Rw h2;have h2ln:(Qs s_)=true:=Zc h2l;have h2lns:=YN h2ln;have h2r:(decide ((Yf s_ id)<(0:Int)))=false:=Pr h2;have h2rp:=WJ s_ id;have h2rd:=of_decide_eq_false h2r;refine Qe <| Lt [577] rfl ?_
 refine wB 6 1 (.own false 577) ((Xd s_).2.1) (λhw3 hl4=> ?_);exact sn Qa [4,5,6] [4,6] (po 5 (.take true false (eL (Tl ((Xd s_).2.1) (Yf s_ id).toNat))) (px (S5 (Qdj ((Xd s_).2.1) (i:=(Yf s_ id)) (k:=IntKind.i64.wrap ((Yf s_ id)+1)) (by omega) (by first | omega | exact IntWalk.i64_in _ (by omega)) (by omega) (by omega))) p0)) <| tn Qa [4,5] [4] p0 <| Qh <| pz [576,1664] (show Yu s_ id=_ from Qn h2 (rfl)) (λz=> .tup [(true, [.h z.1.1,.h z.1.2.1,.i z.1.2.2]),(false, [.b z.2])])
open GoE (enc wide)
def Kc (d:List Yc):Bool:=((Qq d)).2
theorem GP {d:List Yc} (h:Kc d=true):zD d<=5:=(Ez (d:=d) h).2.1
theorem QW (d:List Yc):ACalls Tryz.prog 185 [.h d] (.b (Kc d)):=by
 refine en Qa Tryz.func185 λw0 F0 hG=> ?_
 exact sn Qa [0,2] [] p0 <| tn Qa [2,4] [] (pc 1 (Rc d) p0) <| tu Qa [(2,.b (((Qq d)).2))] [0] [] [] p0 <| Qh <| pb [] (show Kc d=((Qq d)).2 from rfl)
def Ys (x:Yc):Yc:=x
theorem I8 (x:Yc):ACalls Tryz.prog 175 [.a [.s x.1,.h x.2]] (.a [.s ((Ys x).1),.o 0 ((Ys x).2)]):=by
 refine en Qa Tryz.func175 λw0 F0 hG=> ?_
 exact sn Qa [1,2] [1,2] p0 <| tn Qa [1,2] [1,2] (pc 2 (MG x.2) p0) <| tu Qa [(2,.p 2 0)] [0] [(2, [.s x.1,.o 320 x.2])] [] p0 <| Qh <| pz [] (show Ys x=x from rfl) (λz=> .a [.s z.1,.o 0 z.2])
def Mb (_:Nat) (a0:Yc) (s0:List Yc):Rd (List Yc) (List Yc) (List Yc):=(.next (s0++ [(Ys a0)]))
def Ri (_:Nat) (s0:List Yc):(List Yc):=s0
def X1 (d:List Yc):(List Yc):=(Out.on (X7 Mb Ri d 0 []) (λy0=>y0))
theorem A0 (d:List Yc):X1 d=d:=by
 unfold X1;rw[A7 (f:=Mb) (g:=id) (λ_ _ _=>rfl),List.map_id];rfl
theorem ZJ (d:List Yc):(X1 d).length=d.length:=by rw[A0]
theorem A3 (d:List Yc):ACalls Tryz.prog 122 [.h d] (.o 0 (X1 d)):=by
 refine en Qa Tryz.func122 λw0 F0 hG=> ?_
 refine sn Qa [0,2] [] p0 <| tn Qa [0,2,3] [] p0 <| Qc <| tu Qa [(2,.e 0),(3,.one (.slc (.own true 384) 2 [])),(7,.h d),(8,.i (d.length:Int)),(9,.i 0)] [0] [] [] (pl 1 d p0) <| wT 7 0 .sh d (λhw1 hl2=> ?_)
 refine ZQ Mb Ri d [] (λk0 s0=> [(3,.o 147201 s0),(9,.i (k0:Int))]) [3,9] (λy0=> [(3,.o 147351 y0)]) [3,7,8,9] (λk0 s0=>zD s0<=k0) (X4 [(384,147201)] (by kernel_rfl)) (by simp) (λk0 s0 hk0 U=> ?_) (λk0 s0 hk0 U=> ?_) (λy0 hD0=> ?_)
 ·have hA0_0:=U.2;obtain ⟨a0,V⟩:=Xs (l:=d) (i:=k0) hk0;refine sn Qa [2,3,7,8,9,10] [] (pe 0 (zB ((k0:Int)<(d.length:Int))) p0) <| Qc <| ckT <| Qe <| Qc <| Qt <| tn Qa [2,3,5,7,8,9] [5] (pn 0 V p0) <| wT 3 0 (.own true 147201) s0 (λhw3 hl4=> ?_)
  refine qu Qa [(3,.one (.slc (.own true 1088) 2 ((eL s0)++ [[.s ((Ys a0).1),.h ((Ys a0).2)]])))] [3] [] [] (pc 2 (I8 a0) (pa s0 [(Ys a0)] p0)) ?_;refine eqn [(3,.o 1088 (s0++ [(Ys a0)]))] [3] [] [] (by rw[show ((eL s0)++ [[.s ((Ys a0).1),.h ((Ys a0).2)]])=(eL (s0++ [(Ys a0)])) from We (rfl) (rfl)];first | done | kernel_rfl) ?_;refine rn Qa [2,3,7,8,9] [] (pe 0 (J6 (Ql k0 (by omega))) p0) ?_;exact zE (s0++ [(Ys a0)]) (zH (X4 [(1088,147201)] (by kernel_rfl)) ⟨Qp V (rfl) U.1,by first|omega|(simp;omega) | simp⟩)
 ·have hA0_0:=U.2;exact sn Qa [2,3,7,8,9,10] [] (pe 0 (zC ((k0:Int)<(d.length:Int))) p0) <| Qc <| ckF <| Q9 <| zE _ (zH (X4 [(147201,147351)] (by kernel_rfl)) (Xt hk0 (rfl) U.1))
 exact sn Qa [2] [] p0 <| Qh <| po0 [] (Uc hD0 (rfl))
def Bj (o:Yc) (q0:Yc):Bool:=(!(Op.bytesLess o.1.toList q0.1.toList|| o.1.toList==q0.1.toList))
theorem HH (o:Yc) (q0:Yc):ACalls Tryz.prog 225 [.a [.s o.1,.h o.2],.one (.rptr .sh [.s q0.1,.h q0.2])] (.b (Bj o q0)):=by
 refine en Qa Tryz.func225 λw0 F0 hG=> ?_
 exact sn Qa [1,2,3] [2] p0 <| tn Qa [3] [] p0 <| Qh <| pb [] (show Bj o q0=(!(Op.bytesLess o.1.toList q0.1.toList|| o.1.toList==q0.1.toList)) from rfl)
def Z3 (c0:Yc) (k0:Nat) (a0:Yc) (_:Unit):Rd (Int) (Unit) (Unit):=(bif (Bj a0 c0) then (.ret (k0:Int)) else (.next ()))
def Jl (_:Nat) (_:Unit):Unit:=()
def Qy (s_:List Yc) (c0:Yc):Int:=(Out.on (X7 (Z3 c0) Jl s_ 0 ()) (λ_=> -1))
theorem Em (s_:List Yc) (c0:Yc):Qy s_ c0=ixF (λa=>Bj a c0) s_:=Qde (λ_ _ _=>rfl) s_
theorem En (s_:List Yc) (c0:Yc): -1<=Qy s_ c0/\Qy s_ c0<(zD s_:Int):=by rw[Em];exact ZG _ _
theorem E6 (s_:List Yc) (c0:Yc):ACalls Tryz.prog 224 [.h s_,.one (.fnr 225 [[.s c0.1,.h c0.2]])] (.i (Qy s_ c0)):=by
 refine en Qa Tryz.func224 λw0 F0 hG=> ?_
 refine sn Qa [0,1,4] [] p0 <| Qc <| tn Qa [0,1,4,7,8] [] (pl 1 s_ p0) <| mz [(4,.i 0),(7,.i (s_.length:Int)),(8,.i 0)] [] [] [] <| wT 0 0 .sh s_ (λhw1 hl2=> ?_)
 refine Pa (Z3 c0) Jl s_ () (λk0 _=> [(8,.i (k0:Int))]) [8] (λ_=> []) [0,1,7,8] wf0 (λk0 s0 hk0 U=> ?_) (λk0 s0 hk0 U=> ?_) (λy0 hD0=> ?_)
 ·obtain ⟨a0,V⟩:=Xs (l:=s_) (i:=k0) hk0;refine sn Qa [0,1,4,7,8,9] [] (pe 0 (zB ((k0:Int)<(s_.length:Int))) p0) <| Qc <| ckT <| Qe <| Qc <| Qt <| tn Qa [0,1,4,5,7,8] [] p0 <| tu Qa [(5,.i (k0:Int)),(16,.b (Bj a0 c0))] [] [] [] (pn 3 V (pc 5 (HH a0 c0) p0)) <| ck (Bj a0 c0) (λh3=> ?_) (λh3=> ?_)
  ·refine sn Qa [0,1,4,7,8] [] p0 <| Qh ?_
   have hr4:(X7 (Z3 c0) Jl s_ 0 ())= .ret (k0:Int):=Jr V (Xm h3 (rfl)) U;exact pi [] (Nk hr4)
  refine Qe <| rn Qa [0,1,4,7,8] [] (pe 0 (J6 (Ql k0 (by omega))) p0) ?_
  exact xw _ (Qp V (Qn h3 (rfl)) U)
 ·exact sn Qa [0,1,4,7,8,9] [] (pe 0 (zC ((k0:Int)<(s_.length:Int))) p0) <| Qc <| ckF <| Q9 <| xw _ (Xt hk0 (rfl) U)
 exact sn Qa [4] [] p0 <| Qh <| pi [] (Uc hD0 (rfl))
def Yr (d:List Yc) (x:Yc):(List Yc)×Bool:=(bif decide ((Qz d x.1)>=(0:Int)) then (bif ((!(Qk d))|| (!(Qk (zR (X1 d) (Qz d x.1).toNat (Ys x))))) then ((X1 d),false) else (zR (X1 d) (Qz d x.1).toNat (Ys x),true)) else (bif decide ((Qy d x)<(0:Int)) then (bif ((!(Qk d))|| (!(Qk (Mg (X1 d) (d.length:Int).toNat (Ys x))))) then ((X1 d),false) else (Mg (X1 d) (d.length:Int).toNat (Ys x),true)) else (bif ((!(Qk d))|| (!(Qk (Mg (X1 d) (Qy d x).toNat (Ys x))))) then ((X1 d),false) else (Mg (X1 d) (Qy d x).toNat (Ys x),true))))
theorem GQ (d:List Yc) (x:Yc) (hp:zD d<1073741000):ACalls Tryz.prog 184 [.h d,.a [.s x.1,.h x.2]] (.tup [(false, [.h (((Yr d x)).1)]),(false, [.b (((Yr d x)).2)])]):=by
 refine en Qa Tryz.func184 λw0 F0 hG=> ?_
 have hcl:=ZJ d;have hbd:=En d x;refine sn Qa [0,3,4,5] [3] p0 <| tn Qa [0,3,4,5,6] [3] (pc 1 (A3 d) p0) <| tu Qa [(3,.p 3 0),(4,.e 0),(5,.b false),(6,.o 576 (X1 d)),(7,.i (Qz d x.1))] [1] [(3, [.s x.1,.h x.2])] [] (pc 3 (Th d x.1) p0) <| Qc <| sn Qa [0,3,4,5,6,7,15] [3] p0 <| ck (decide ((Qz d x.1)>=(0:Int))) (λh1=> ?_) (λh1=> ?_)
 ·have h1p:=QP d x.1;have h1d:=of_decide_eq_true h1;refine wT 6 0 (.own true 576) (X1 d) (λhw3 hl4=> ?_);have hx2:=ng (X1 d) (Qz d x.1).toNat;refine qu Qa [(6,.one (.slc (.own true 576) 2 (setRow (eL (X1 d)) (Qz d x.1).toNat 0 [.s ((Ys x).1),.h ((Ys x).2)])))] [3,6,7] [] [3] (pc 3 (I8 x) (pG 4 (Qz d x.1) hx2 p0)) ?_;refine eqn [(6,.o 576 (zR (X1 d) (Qz d x.1).toNat (Ys x)))] [6] [] [] (by rw[Vg (y:=(Ys x)) hx2 rfl]<;>kernel_rfl) ?_;refine Qc <| Qc <| jn [(41,.b ((!(Qk d))|| (!(Qk (zR (X1 d) (Qz d x.1).toNat (Ys x))))))] [] [] [] (!(Qk d)) (λh5=> ?_) (λh5=> ?_) ?_
  ·have h5n:(Qk d)=false:=Vp h5;refine rn Qa [0,4,5,6,41] [] (pc 1 (cb h5n (Jv d)) (pe 2 (show .b (!false)= .b true from rfl) p0)) ?_;exact zA (by rw[h5]<;>kernel_rfl)
  ·have h5n:(Qk d)=true:=Zc h5;refine rn Qa [0,4,5,6,41] [] (pc 1 (cb h5n (Jv d)) (pe 2 (show .b (!true)= .b false from rfl) (pc 5 (Jv (zR (X1 d) (Qz d x.1).toNat (Ys x))) p0))) ?_;exact zA (by rw[h5]<;>kernel_rfl)
  refine ck ((!(Qk d))|| (!(Qk (zR (X1 d) (Qz d x.1).toNat (Ys x))))) (λh6=> ?_) (λh6=> ?_)
  ·exact sn Qa [4,5,6] [] (pc 1 (A3 d) p0) <| Qh <| pz [2752] (show Yr d x=_ from Xm h1 (Xm h6 (rfl))) (λz=> .tup [(false, [.h z.1]),(false, [.b z.2])])
  exact Qe <| sn Qa [4,5] [] p0 <| Qh <| pz [576] (show Yr d x=_ from Xm h1 (Qn h6 (rfl))) (λz=> .tup [(false, [.h z.1]),(false, [.b z.2])])
 have h1d:=of_decide_eq_false h1;refine tn Qa [0,3,4,5,6,7] [3] (pc 2 (E6 d x) p0) <| Qc <| tu Qa [(7,.i (Qy d x)),(25,.b (decide ((Qy d x)<(0:Int))))] [7] [] [] p0 <| ck (decide ((Qy d x)<(0:Int))) (λh7=> ?_) (λh7=> ?_)
 ·have h7d:=of_decide_eq_true h7;refine rn Qa [0,3,4,5,6,7] [3] (pl 1 d p0) ?_;refine mz [(7,.i (d.length:Int))] [7,25] [] [] <| Lt [576] rfl ?_
  refine wT 6 0 (.own false 576) (X1 d) (λhw8 hl9=> ?_);refine rn Qa [0,4,5,6] [] (pc 3 (I8 x) (po 5 (.take true false (eL (Mg (X1 d) (d.length:Int).toNat (Ys x)))) (px (S5 (RA (X1 d) (Ys x) (i:=(d.length:Int)) (by omega) (by omega) (by omega))) p0))) ?_;refine Qc <| Qc <| mz [(6,.q 2112 (Mg (X1 d) (d.length:Int).toNat (Ys x)))] [3,6,7] [] [3] <| jn [(41,.b ((!(Qk d))|| (!(Qk (Mg (X1 d) (d.length:Int).toNat (Ys x))))))] [] [] [] (!(Qk d)) (λh10=> ?_) (λh10=> ?_) ?_
  ·have h10n:(Qk d)=false:=Vp h10;refine rn Qa [0,4,5,6,41] [] (pc 1 (cb h10n (Jv d)) (pe 2 (show .b (!false)= .b true from rfl) p0)) ?_;exact zA (by rw[h10]<;>kernel_rfl)
  ·have h10n:(Qk d)=true:=Zc h10;refine rn Qa [0,4,5,6,41] [] (pc 1 (cb h10n (Jv d)) (pe 2 (show .b (!true)= .b false from rfl) (pc 5 (Jv (Mg (X1 d) (d.length:Int).toNat (Ys x))) p0))) ?_;exact zA (by rw[h10]<;>kernel_rfl)
  refine ck ((!(Qk d))|| (!(Qk (Mg (X1 d) (d.length:Int).toNat (Ys x))))) (λh11=> ?_) (λh11=> ?_)
  ·exact sn Qa [4,5,6] [] (pc 1 (A3 d) p0) <| Qh <| pz [2752] (show Yr d x=_ from Qn h1 (Xm h7 (Xm h11 (rfl)))) (λz=> .tup [(false, [.h z.1]),(false, [.b z.2])])
  exact Qe <| sn Qa [4,5] [] p0 <| Qh <| pz [2112] (show Yr d x=_ from Qn h1 (Xm h7 (Qn h11 (rfl)))) (λz=> .tup [(false, [.h z.1]),(false, [.b z.2])])
 have h7d:=of_decide_eq_false h7;refine Qe <| Lt [576] rfl ?_
 refine wT 6 0 (.own false 576) (X1 d) (λhw12 hl13=> ?_);refine rn Qa [0,4,5,6] [] (pc 3 (I8 x) (po 5 (.take true false (eL (Mg (X1 d) (Qy d x).toNat (Ys x)))) (px (S5 (RA (X1 d) (Ys x) (i:=(Qy d x)) (by omega) (by omega) (by omega))) p0))) ?_;refine Qc <| Qc <| mz [(6,.q 2112 (Mg (X1 d) (Qy d x).toNat (Ys x)))] [3,6,7,25] [] [3] <| jn [(41,.b ((!(Qk d))|| (!(Qk (Mg (X1 d) (Qy d x).toNat (Ys x))))))] [] [] [] (!(Qk d)) (λh14=> ?_) (λh14=> ?_) ?_
 ·have h14n:(Qk d)=false:=Vp h14;refine rn Qa [0,4,5,6,41] [] (pc 1 (cb h14n (Jv d)) (pe 2 (show .b (!false)= .b true from rfl) p0)) ?_;exact zA (by rw[h14]<;>kernel_rfl)
 ·have h14n:(Qk d)=true:=Zc h14;refine rn Qa [0,4,5,6,41] [] (pc 1 (cb h14n (Jv d)) (pe 2 (show .b (!true)= .b false from rfl) (pc 5 (Jv (Mg (X1 d) (Qy d x).toNat (Ys x))) p0))) ?_;exact zA (by rw[h14]<;>kernel_rfl)
 refine ck ((!(Qk d))|| (!(Qk (Mg (X1 d) (Qy d x).toNat (Ys x))))) (λh15=> ?_) (λh15=> ?_)
 ·exact sn Qa [4,5,6] [] (pc 1 (A3 d) p0) <| Qh <| pz [2752] (show Yr d x=_ from Qn h1 (Qn h7 (Xm h15 (rfl)))) (λz=> .tup [(false, [.h z.1]),(false, [.b z.2])])
 exact Qe <| sn Qa [4,5] [] p0 <| Qh <| pz [2112] (show Yr d x=_ from Qn h1 (Qn h7 (Qn h15 (rfl)))) (λz=> .tup [(false, [.h z.1]),(false, [.b z.2])])
def Zj (d:List Yc) (name:ByteArray):(List Yc)×Bool:=(bif ((!(Qk d))|| decide ((Qz d name)<(0:Int))) then ((X1 d),false) else (Tl (X1 d) (Qz d name).toNat,true))
theorem WM (d:List Yc) (name:ByteArray):ACalls Tryz.prog 131 [.h d,.s name] (.tup [(false, [.h (((Zj d name)).1)]),(false, [.b (((Zj d name)).2)])]):=by
 refine en Qa Tryz.func131 λw0 F0 hG=> ?_
 have hcl:=ZJ d;refine sn Qa [0,1,4,5] [] p0 <| tn Qa [0,1,4,5,6] [] (pc 1 (A3 d) p0) <| tu Qa [(4,.e 0),(5,.b false),(6,.o 576 (X1 d)),(7,.i (Qz d name))] [1] [] [] (pc 2 (Th d name) p0) <| Qc <| Qc <| jn [(19,.b ((!(Qk d))|| decide ((Qz d name)<(0:Int))))] [0] [] [] (!(Qk d)) (λh1=> ?_) (λh1=> ?_) ?_
 ·have h1n:(Qk d)=false:=Vp h1;refine rn Qa [4,5,6,7,19] [] (pc 1 (cb h1n (Jv d)) (pe 2 (show .b (!false)= .b true from rfl) p0)) ?_;exact zA (by rw[h1]<;>kernel_rfl)
 ·have h1n:(Qk d)=true:=Zc h1;have h1ns:=Ub h1n;refine rn Qa [4,5,6,7,19] [] (pc 1 (cb h1n (Jv d)) (pe 2 (show .b (!true)= .b false from rfl) p0)) ?_;exact zA (by rw[h1]<;>kernel_rfl)
 refine ck ((!(Qk d))|| decide ((Qz d name)<(0:Int))) (λh2=> ?_) (λh2=> ?_)
 ·exact sn Qa [4,5,6,7] [] p0 <| Qh <| pz [576] (show Zj d name=_ from Xm h2 (rfl)) (λz=> .tup [(false, [.h z.1]),(false, [.b z.2])])
 have h2l:((!(Qk d)))=false:=Rw h2;have h2ln:(Qk d)=true:=Zc h2l;have h2lns:=Ub h2ln;have h2r:(decide ((Qz d name)<(0:Int)))=false:=Pr h2;have h2rp:=QP d name;have h2rd:=of_decide_eq_false h2r;refine Qe <| Lt [576] rfl ?_
 refine wT 6 0 (.own false 576) (X1 d) (λhw3 hl4=> ?_);exact sn Qa [4,5] [] (po 4 (.take true false (eL (Tl (X1 d) (Qz d name).toNat))) (px (S5 (Qgv (X1 d) (i:=(Qz d name)) (k:=IntKind.i64.wrap ((Qz d name)+1)) (by omega) (by first | omega | exact IntWalk.i64_in _ (by omega)) (by omega) (by omega))) p0)) <| Qh <| pz [1600] (show Zj d name=_ from Qn h2 (rfl)) (λz=> .tup [(false, [.h z.1]),(false, [.b z.2])])
def Im (_:Nat) (a0:Yz) (s0:Z):Rd Z Z Z:=(bif (Jp a0) then (.next (s0++ [a0.2.2.2.1])) else (.next s0))
def Pe (_:Nat) (s0:Z):Z:=s0
def V8 (q:List Yz):Z:=(Out.on (X7 Im Pe q 0 []) (λy0=>(Di [] y0)))
theorem WN (q:List Yz):ACalls Tryz.prog 230 [.h q] (.h (V8 q)):=by
 refine en Qa Tryz.func230 λw0 F0 hG=> ?_
 refine sn Qa [0,2] [] p0 <| tn Qa [0,2,3] [] p0 <| Qc <| tu Qa [(2,.e 0),(3,.one (.slc (.own true 384) 1 [])),(7,.h q),(8,.i (q.length:Int)),(9,.i 0)] [0] [] [] (pl 1 q p0) <| wT 7 0 .sh q (λhw1 hl2=> ?_)
 refine ZQ Im Pe q [] (λk0 s0=> [(3,.o 147201 s0),(9,.i (k0:Int))]) [3,9] (λy0=> [(3,.o 147351 y0)]) [3,7,8,9] (λk0 s0=>zD s0<=k0) (X4 [(384,147201)] (by kernel_rfl)) (by simp) (λk0 s0 hk0 U=> ?_) (λk0 s0 hk0 U=> ?_) (λy0 hD0=> ?_)
 ·have hA0_0:=U.2;obtain ⟨a0,V⟩:=Xs (l:=q) (i:=k0) hk0;refine sn Qa [2,3,7,8,9,10] [] (pe 0 (zB ((k0:Int)<(q.length:Int))) p0) <| Qc <| ckT <| Qe <| Qc <| Qt <| tn Qa [2,3,5,7,8,9] [5] (pn 0 V p0) <| tu Qa [(5,.p 5 0),(14,.b (Jp a0))] [] [(5, [.i a0.1,.i a0.2.1,.i a0.2.2.1,.s a0.2.2.2.1,.i a0.2.2.2.2.1,.i a0.2.2.2.2.2.1,.s a0.2.2.2.2.2.2])] [] (pc 1 (M2 a0) p0) <| ck (Jp a0) (λh3=> ?_) (λh3=> ?_)
  ·refine wT 3 0 (.own true 147201) s0 (λhw4 hl5=> ?_);refine ru Qa [(3,.one (.slc (.own true 1216) 1 ((eL s0)++ [[.s a0.2.2.2.1]])))] [3,5,14] [] [5] (pa s0 [a0.2.2.2.1] p0) ?_;refine eqn [(3,.o 1216 (s0++ [a0.2.2.2.1]))] [3] [] [] (by rw[show ((eL s0)++ [[.s a0.2.2.2.1]])=(eL (s0++ [a0.2.2.2.1])) from We (rfl) (rfl)];first | done | kernel_rfl) ?_;refine rn Qa [2,3,7,8,9] [] (pe 0 (J6 (Ql k0 (by omega))) p0) ?_;exact zE (s0++ [a0.2.2.2.1]) (zH (X4 [(1216,147201)] (by kernel_rfl)) ⟨Qp V (Xm h3 (rfl)) U.1,by first|omega|(simp;omega) | simp⟩)
  refine Qe <| rn Qa [2,3,7,8,9] [] (pe 0 (J6 (Ql k0 (by omega))) p0) ?_
  exact xw s0 ⟨Qp V (Qn h3 (rfl)) U.1,by first|omega|(simp;omega) | simp⟩
 ·have hA0_0:=U.2;exact sn Qa [2,3,7,8,9,10] [] (pe 0 (zC ((k0:Int)<(q.length:Int))) p0) <| Qc <| ckF <| Q9 <| zE _ (zH (X4 [(147201,147351)] (by kernel_rfl)) (Xt hk0 (rfl) U.1))
 exact sn Qa [2] [] (pc 1 (Mp y0) p0) <| Qh <| ph0 [] (Uc hD0 (rfl))
def Bd (name:ByteArray) (_:Nat) (a0:Yc) (s0:Z):Rd Z Z Z:=(bif (Qu (V8 a0.2) name) then (.next (s0++ [a0.1])) else (.next s0))
def C3 (_:Nat) (s0:Z):Z:=s0
def Zn (d:List Yc) (name:ByteArray):Z:=(Out.on (X7 (Bd name) C3 d 0 []) (λy0=>y0))
theorem ZT (d:List Yc) (name:ByteArray):ACalls Tryz.prog 191 [.h d,.s name] (.o 0 (Zn d name)):=by
 refine en Qa Tryz.func191 λw0 F0 hG=> ?_
 refine sn Qa [0,1,4] [] p0 <| tn Qa [0,1,4,5] [] p0 <| Qc <| tu Qa [(4,.e 0),(5,.one (.slc (.own true 512) 1 [])),(9,.h d),(10,.i (d.length:Int)),(11,.i 0)] [0] [] [] (pl 1 d p0) <| wT 9 0 .sh d (λhw1 hl2=> ?_)
 refine ZQ (Bd name) C3 d [] (λk0 s0=> [(5,.o 147202 s0),(11,.i (k0:Int))]) [5,11] (λy0=> [(5,.o 147352 y0)]) [1,5,9,10,11] (λk0 s0=>zD s0<=k0) (X4 [(512,147202)] (by kernel_rfl)) (by simp) (λk0 s0 hk0 U=> ?_) (λk0 s0 hk0 U=> ?_) (λy0 hD0=> ?_)
 ·have hA0_0:=U.2;obtain ⟨a0,V⟩:=Xs (l:=d) (i:=k0) hk0;refine su Qa [(12,.b true)] [] [] [] (pe 0 (zB ((k0:Int)<(d.length:Int))) p0) <| Qc <| ckT <| Qe <| Qc <| Qt <| sn Qa [1,4,5,7,9,10,11] [7] (pn 0 V p0) <| tn Qa [1,4,5,7,9,10,11,19] [7] (pc 2 (WN a0.2) (pc 4 (Wq (V8 a0.2) name) p0)) <| ck (Qu (V8 a0.2) name) (λh3=> ?_) (λh3=> ?_)
  ·refine wT 5 0 (.own true 147202) s0 (λhw4 hl5=> ?_);refine qu Qa [(5,.one (.slc (.own true 1536) 1 ((eL s0)++ [[.s a0.1]])))] [5,12] [] [] (pa s0 [a0.1] p0) ?_;refine eqn [(5,.o 1536 (s0++ [a0.1]))] [5] [] [] (by rw[show ((eL s0)++ [[.s a0.1]])=(eL (s0++ [a0.1])) from We (rfl) (rfl)];first | done | kernel_rfl) ?_;refine rn Qa [1,4,5,9,10,11] [] (pe 0 (J6 (Ql k0 (by omega))) p0) ?_;exact zE (s0++ [a0.1]) (zH (X4 [(1536,147202)] (by kernel_rfl)) ⟨Qp V (Xm h3 (rfl)) U.1,by first|omega|(simp;omega) | simp⟩)
  refine Qe <| qu Qa [(11,.i ((k0+1:Nat):Int))] [11,12] [] [] (pe 0 (J6 (Ql k0 (by omega))) p0) ?_
  exact xw s0 ⟨Qp V (Qn h3 (rfl)) U.1,by first|omega|(simp;omega) | simp⟩
 ·have hA0_0:=U.2;exact su Qa [(12,.b false)] [] [] [] (pe 0 (zC ((k0:Int)<(d.length:Int))) p0) <| Qc <| ckF <| Q9 <| zE _ (zH (X4 [(147202,147352)] (by kernel_rfl)) (Xt hk0 (rfl) U.1))
 exact sn Qa [4] [] p0 <| Qh <| po0 [] (Uc hD0 (rfl))
def Jm (_:Nat) (a1:ByteArray) (s1:Z):Rd (Rd Z (Z×Int) Z) Z Z:=(bif (!(Qu s1 a1)) then (.next (s1++ [a1])) else (.next s1))
def Kh (_:Nat) (s1:Z):Z:=s1
def Yp (d:List Yc) (s0:Z×Int):Rd Z (Z×Int) Z:=(bif decide (s0.2<(s0.1.length:Int)) then (Out.on (X7 Jm Kh (Zn d (nth s0.1 s0.2.toNat)) 0 s0.1) (λy1=>(.next (y1,(s0.2+1))))) else (.brk s0.1))
def X8 (d:List Yc) (names:Z):Z:=(Out.on (N1 (Yp d) (zD names+zD d+1) (names,0)) (λy0=>(Di [] y0)))
theorem C4 (nm:ByteArray):∀(l:List Yc) (k:Nat) (s:Z),∃s',X7 (Bd nm) C3 l k s= .brk s'/\s'.length<=s.length+l.length/\∀x,x∈s'->x∈s\/x∈l.map (·.1)
 | [],k,s=>⟨s,rfl,by simp,λx hx=> .inl hx⟩
 | a :: l,k,s=>by
   simp only[X7,Bd];cases Qu (V8 a.2) nm with
   | true=>
     obtain ⟨s',h1,h2,h3⟩:=C4 nm l (k+1) (s++ [a.1]);refine ⟨s',h1,by simp at h2⊢;omega,λx hx=> ?_⟩;rcases h3 x hx with h | h
     . rcases List.mem_append.1 h with h | h
       . exact .inl h
       exact .inr (by rw[yR.1 h];simp)
     exact .inr (zK _ h)
   | false=>
     obtain ⟨s',h1,h2,h3⟩:=C4 nm l (k+1) s;refine ⟨s',h1,by simp at h2⊢;omega,λx hx=>(h3 x hx).imp id λh=>zK _ h⟩
theorem QY (d:List Yc) (nm:ByteArray):zD (Zn d nm)<=zD d:=by
 obtain ⟨s',h1,h2,_⟩:=C4 nm d 0 [];unfold Zn;rw[h1];exact (by simpa using h2:s'.length<=d.length)
theorem Mq (d:List Yc) (nm:ByteArray):∀x,x∈Zn d nm->x∈d.map (·.1):=by
 obtain ⟨s',h1,_,h3⟩:=C4 nm d 0 [];unfold Zn;rw[h1];intro x hx;exact (h3 x hx).resolve_left (by simp)
theorem Wr (N:Z):∀(l:Z) (k:Nat) (s:Z),(∀x,x∈l->x∈N)->∃s',X7 Jm Kh l k s= .brk s'/\Fresh N s s'
 | [],k,s,_=>⟨s,rfl,Fresh.refl N s⟩
 | a::l,k,s,h=>by
  simp only[X7,Jm];cases hc:Qu s a with
  | true=>
   simp only[yF,cond_false];exact Wr N l (k+1) s λx hx=>h x (zK _ hx)
  | false=>
   simp only[Bool.not_false,cond_true];obtain ⟨s',h1,h2⟩:=Wr N l (k+1) (s++ [a]) λx hx=>h x (zK _ hx)
   exact ⟨s',h1,(Fresh.one (λhm=>by rw[(Cm a s).2 hm] at hc;cases hc) (h a (zU ..))).trans h2⟩
theorem Ws {d:List Yc} {names out y:Z} {nm:ByteArray} (hF:Fresh (xJ (·.1) d) names out) (hD:X7 Jm Kh (Zn d nm) 0 out= .brk y):Fresh (xJ (·.1) d) names y:=by
 obtain ⟨s',h1,h2⟩:=Wr (xJ (·.1) d) (Zn d nm) 0 out (Mq d nm);rw[h1] at hD;obtain rfl:s'=y:=by simpa using hD
 exact hF.trans h2
theorem De (d:List Yc) (names:Z) (hp:(zD names:Int)+zD d<=1000000):(whl (Yp d) (zD names+zD d+1) (names,0)).isSome=true:=by
 have h:=Qdh (N:=xJ (·.1) d) (names:=names) (f:=Yp d) (λout i s' h0 hl hs=>by
  rw[zV] at hl;unfold Yp at hs;by_cases hc:i<(out.length:Int)
  . simp only[decide_eq_true hc,cond_true] at hs;obtain ⟨y,h1,h2⟩:=Wr (xJ (·.1) d) (Zn d (nth out i.toNat)) 0 out (Mq d _);rw[h1] at hs;simp only[Out.on] at hs;have hs:=Rd.next.inj hs;rw[←hs];exact ⟨hc,by first | rfl | exact IntWalk.i64_in _ (by omega),h2⟩
  simp only[decide_eq_false hc,cond_false] at hs;cases hs)
 rwa [zV] at h
theorem Ac (d:List Yc) (names:Z) (hp:(zD names:Int)+zD d<=1000000):ACalls Tryz.prog 133 [.h d,.h names] (.h (X8 d names)):=by
 refine en Qa Tryz.func133 λw0 F0 hG=> ?_
 refine sn Qa [0,1,4] [] p0 <| tn Qa [0,4,5] [] (pc 1 (QA names) p0) <| Qc <| tu Qa [(4,.e 0),(5,.o 640 names),(6,.i 0)] [1] [] [] p0 <| blw (λ(s0:Z×Int)=> [(5,.o 147202 s0.1),(6,.i s0.2)]) [5,6] (λs0=> []) [] (λ(y0:Z)=> [(5,.o 147352 y0)]) [0,5,6] (λy0=> []) [] (λ(k0:Nat) (s0:Z×Int)=>whl (Yp d) k0 s0=some (N1 (Yp d) (zD names+zD d+1) (names,0))/\0<=s0.2/\Fresh (xJ (·.1) d) names s0.1) (λ(y0:Z)=>(N1 (Yp d) (zD names+zD d+1) (names,0))= .brk y0/\zD y0<=zD names+zD d) (zD names+zD d+1) (names,0) (X4 [(640,147202)] (by kernel_rfl)) ⟨Oc (De d names hp),(by first | exact Fresh.refl _ _ | omega),(by first | exact Fresh.refl _ _ | omega)⟩ (λ_ h=>Rv h.1) (λk0 s0 U=> ?_) (λy0 hD0=> ?_)
 ·have hA0_0:=U.2.1;have hA0_1:=U.2.2;have hfl:=GO hA0_1;rw[zV] at hfl;have hdl:=QY d (nth s0.1 s0.2.toNat);refine Qc <| sn Qa [0,4,5,6,14] [] (pl 2 s0.1 p0) <| ck (decide (s0.2<(s0.1.length:Int))) (λh1=> ?_) (λh1=> ?_)
  ·have h1d:=of_decide_eq_true h1;refine Qe <| Qc <| Qt <| wT 5 0 (.own true 147202) s0.1 (λhw3 hl4=> ?_)
   have hx2:=ng s0.1 s0.2.toNat;refine tn Qa [0,4,5,6,22,23,24] [] (pG 3 s0.2 hx2 (pc 5 (ZT d (nth s0.1 s0.2.toNat)) (pl 6 (Zn d (nth s0.1 s0.2.toNat)) p0))) <| mz [(22,.o 1408 (Zn d (nth s0.1 s0.2.toNat))),(23,.i ((Zn d (nth s0.1 s0.2.toNat)).length:Int)),(24,.i 0)] [] [] [] <| wT 22 0 (.own true 1408) (Zn d (nth s0.1 s0.2.toNat)) (λhw5 hl6=> ?_)
   refine ZQ Jm Kh (Zn d (nth s0.1 s0.2.toNat)) s0.1 (λk1 s1=> [(5,.o 166402 s1),(24,.i (k1:Int))]) [5,24] (λy1=> [(5,.o 166552 y1)]) [5,22,23,24] (λk1 s1=>zD s1<=s0.1.length+k1) (X4 [(147202,166402)] (by kernel_rfl)) (by simp) (λk1 s1 hk1 hI1=> ?_) (λk1 s1 hk1 hI1=> ?_) (λy1 hD1=> ?_)
   ·have hA1_0:=hI1.2;obtain ⟨a1,hx1⟩:=Xs (l:=Zn d (nth s0.1 s0.2.toNat)) (i:=k1) hk1;refine su Qa [(25,.b true)] [] [] [] (pe 0 (zB ((k1:Int)<((Zn d (nth s0.1 s0.2.toNat)).length:Int))) p0) <| Qc <| ckT <| Qe <| Qc <| Qt <| su Qa [(8,.s a1)] [25] [] [] (pN 0 hx1 p0) <| sn Qa [0,4,5,6,8,22,23,24,31] [] (pc 2 (Wq s1 a1) p0) <| ck (!(Qu s1 a1)) (λh7=> ?_) (λh7=> ?_)
    ·have h7n:(Qu s1 a1)=false:=Vp h7;refine wT 5 0 (.own true 166402) s1 (λhw8 hl9=> ?_);refine qu Qa [(5,.one (.slc (.own true 2240) 1 ((eL s1)++ [[.s a1]])))] [5,8] [] [] (pa s1 [a1] p0) ?_;refine eqn [(5,.o 2240 (s1++ [a1]))] [5] [] [] (by rw[show ((eL s1)++ [[.s a1]])=(eL (s1++ [a1])) from We (rfl) (rfl)];first | done | kernel_rfl) ?_;refine rn Qa [0,4,5,6,22,23,24] [] (pe 0 (J6 (Ql k1 (by omega))) p0) ?_;exact zE (s1++ [a1]) (zH (X4 [(2240,166402)] (by kernel_rfl)) ⟨Qp hx1 (Xm h7 (rfl)) hI1.1,by first|omega|(simp;omega) | simp⟩)
    have h7n:(Qu s1 a1)=true:=Zc h7;refine Qe <| qn Qa [0,4,5,6,22,23,24] [] (pe 0 (J6 (Ql k1 (by omega))) p0) ?_
    exact xw s1 ⟨Qp hx1 (Qn h7 (rfl)) hI1.1,by first|omega|(simp;omega) | simp⟩
   ·have hA1_0:=hI1.2;exact su Qa [(25,.b false)] [] [] [] (pe 0 (zC ((k1:Int)<((Zn d (nth s0.1 s0.2.toNat)).length:Int))) p0) <| Qc <| ckF <| Q9 <| zE _ (zH (X4 [(166402,166552)] (by kernel_rfl)) (Xt hk1 (rfl) hI1.1))
   refine rn Qa [0,4,5,6] [] (pe 1 (J6 (IntWalk.i64_in (s0.2+1) (by omega))) p0) ?_;exact zE (y1,(s0.2+1)) (zH (X4 [(166552,147202)] (by kernel_rfl)) ⟨wn U.1 (Xm h1 (Uc hD1 (rfl))),(by first | omega | exact Ws (by assumption) hD1 | exact Ws (by assumption) hD1.1),(by first | omega | exact Ws (by assumption) hD1 | exact Ws (by assumption) hD1.1)⟩)
  have h1d:=of_decide_eq_false h1;exact Q9 <| zE s0.1 (zH (X4 [(147202,147352)] (by kernel_rfl)) ⟨wb U.1 (Qn h1 (rfl)),by first|omega|(simp only[zF];omega)⟩)
 have hD0_0:=hD0.2;exact sn Qa [4] [] (pc 1 (Mp y0) p0) <| Qh <| ph0 [] (Uc hD0.1 (rfl))
def D7 (_:Nat) (a0:Ee) (s0:Z):Rd Z Z Z:=(.next (s0++ [a0.1]))
def Io (_:Nat) (s0:Z):Z:=s0
def Qi (f:Xx):Z:=(Out.on (X7 D7 Io f.2.2.2.2 0 []) (λy0=>y0))
theorem QZ (f:Xx):(Qi f).length=f.2.2.2.2.length:=by
 unfold Qi;rw[A7 (f:=D7) (g:=λa:Ee=>a.1) (λ_ _ _=>rfl)];simp[Out.on,Io]
theorem Rj (f:Xx):ACalls Tryz.prog 285 [.a [.i f.1,.i f.2.1,.b f.2.2.1,.i f.2.2.2.1,.h f.2.2.2.2]] (.o 0 (Qi f)):=by
 refine en Qa Tryz.func285 λw0 F0 hG=> ?_
 refine sn Qa [1,2] [1] p0 <| tn Qa [1,2,3] [1] p0 <| Qc <| tu Qa [(2,.e 0),(3,.one (.slc (.own true 384) 1 [])),(8,.h f.2.2.2.2),(9,.i (f.2.2.2.2.length:Int)),(10,.i 0)] [0] [] [] (pl 2 f.2.2.2.2 p0) <| wT 8 0 .sh f.2.2.2.2 (λhw1 hl2=> ?_)
 refine ZQ D7 Io f.2.2.2.2 [] (λk0 s0=> [(3,.o 147201 s0),(10,.i (k0:Int))]) [3,10] (λy0=> [(3,.o 147351 y0)]) [3,8,9,10] (λk0 s0=>zD s0<=k0) (X4 [(384,147201)] (by kernel_rfl)) (by simp) (λk0 s0 hk0 U=> ?_) (λk0 s0 hk0 U=> ?_) (λy0 hD0=> ?_)
 ·have hA0_0:=U.2;obtain ⟨a0,V⟩:=Xs (l:=f.2.2.2.2) (i:=k0) hk0;refine sn Qa [2,3,8,9,10,11] [] (pe 0 (zB ((k0:Int)<(f.2.2.2.2.length:Int))) p0) <| Qc <| ckT <| Qe <| Qc <| Qt <| tn Qa [2,3,5,8,9,10] [5] (pn 0 V p0) <| wT 3 0 (.own true 147201) s0 (λhw3 hl4=> ?_)
  refine qu Qa [(3,.one (.slc (.own true 1152) 1 ((eL s0)++ [[.s a0.1]])))] [3] [] [] (pa s0 [a0.1] p0) ?_;refine eqn [(3,.o 1152 (s0++ [a0.1]))] [3] [] [] (by rw[show ((eL s0)++ [[.s a0.1]])=(eL (s0++ [a0.1])) from We (rfl) (rfl)];first | done | kernel_rfl) ?_;refine rn Qa [2,3,8,9,10] [] (pe 0 (J6 (Ql k0 (by omega))) p0) ?_;exact zE (s0++ [a0.1]) (zH (X4 [(1152,147201)] (by kernel_rfl)) ⟨Qp V (rfl) U.1,by first|omega|(simp;omega) | simp⟩)
 ·have hA0_0:=U.2;exact sn Qa [2,3,8,9,10,11] [] (pe 0 (zC ((k0:Int)<(f.2.2.2.2.length:Int))) p0) <| Qc <| ckF <| Q9 <| zE _ (zH (X4 [(147201,147351)] (by kernel_rfl)) (Xt hk0 (rfl) U.1))
 exact sn Qa [2] [] p0 <| Qh <| po0 [] (Uc hD0 (rfl))
def Eo (a_:Xx) (b:Xx) (k0:Nat) (s0:Z):Rd Z Z Z:=(bif (!(((Xv a_ (nth (Qi a_++(Qi b)) k0)).1==(Xv b (nth (Qi a_++(Qi b)) k0)).1)&&(((Xv a_ (nth (Qi a_++(Qi b)) k0)).2.1==(Xv b (nth (Qi a_++(Qi b)) k0)).2.1)&&((((Xv a_ (nth (Qi a_++(Qi b)) k0)).2.2).toList==((Xv b (nth (Qi a_++(Qi b)) k0)).2.2).toList)&&true)))) then (.next (s0++ [(nth (Qi a_++(Qi b)) k0)])) else (.next s0))
def Ep (_:Nat) (s0:Z):Z:=s0
def Kd (a_:Xx) (b:Xx):Z:=(Out.on (U1 (Eo a_ b) Ep (((Qi a_).length+(Qi b).length):Int).toNat 0 []) (λy0=>(Di [] y0)))
theorem XA (a_:Xx) (b:Xx) (hp:(zD a_.2.2.2.2:Int)+zD b.2.2.2.2<=1073741000):ACalls Tryz.prog 254 [.a [.i a_.1,.i a_.2.1,.b a_.2.2.1,.i a_.2.2.2.1,.h a_.2.2.2.2],.a [.i b.1,.i b.2.1,.b b.2.2.1,.i b.2.2.2.1,.h b.2.2.2.2]] (.h (Kd a_ b)):=by
 refine en Qa Tryz.func254 λw0 F0 hG=> ?_
 have hn1:=QZ a_;have hn2:=QZ b;refine sn Qa [2,3,4] [2,3] p0 <| tn Qa [2,3,4,5] [2,3] p0 <| Qc <| tU Qa Zt [(2,.p 2 0),(3,.p 3 0),(4,.e 0),(5,.one (.slc (.own true 512) 1 [])),(13,.one (.slc (.own true 832) 1 ((eL (Qi a_))++(eL (Qi b))))),(14,.i (((Qi a_).length+(Qi b).length):Int)),(15,.i 0)] [0,1] [(2, [.i a_.1,.i a_.2.1,.b a_.2.2.1,.i a_.2.2.2.1,.h a_.2.2.2.2]),(3, [.i b.1,.i b.2.1,.b b.2.2.1,.i b.2.2.2.1,.h b.2.2.2.2])] [] (pc 1 (Rj a_) (pc 3 (Rj b) (pa (Qi a_) (Qi b) (pe 5 (show .i ((((eL (Qi a_))++(eL (Qi b))):List (List PV)).length:Int)= .i (((Qi a_).length+(Qi b).length):Int) from by simp[Zs]) p0)))) <| eqn [(13,.o 832 (Qi a_++(Qi b)))] [13] [] [] (by rw[show ((eL (Qi a_))++(eL (Qi b)))=(eL (Qi a_++(Qi b))) from We (rfl) (rfl)]<;>kernel_rfl) ?_
 refine Qf2 (Eo a_ b) Ep (((Qi a_).length+(Qi b).length):Int).toNat [] (λk0 s0=> [(5,.o 147203 s0),(15,.i (k0:Int))]) [5,15] (λ_ _=> []) [] (λy0=> [(5,.o 147353 y0)]) [2,3,5,13,14,15] (λ_=> []) [2,3] (λk0 s0=>zD s0<=k0) (X4 [(512,147203)] (by kernel_rfl)) (by simp) (λk0 s0 hk0 U=> ?_) (λk0 s0 hk0 U=> ?_) (λy0 hD0=> ?_)
 ·have hA0_0:=U.2;refine su Qa [(16,.b true)] [] [] [] (pe 0 (zB ((k0:Int)<(((Qi a_).length+(Qi b).length):Int))) p0) <| Qc <| ckT <| Qe <| Qc <| Qt <| wT 13 0 (.own true 832) (Qi a_++(Qi b)) (λhw2 hl3=> ?_)
  have hx1:=ng (Qi a_++(Qi b)) k0 (by first|omega|(rw[zJ];omega));refine sn Qa [2,3,4,5,7,13,14,15] [2,3] (pN 0 hx1 p0) <| tN Qa Zt [2,3,4,5,7,13,14,15,25] [2,3] (pc 2 (Fq a_ (nth (Qi a_++(Qi b)) k0)) (pc 5 (Fq b (nth (Qi a_++(Qi b)) k0)) p0)) <| ck (!(((Xv a_ (nth (Qi a_++(Qi b)) k0)).1==(Xv b (nth (Qi a_++(Qi b)) k0)).1)&&(((Xv a_ (nth (Qi a_++(Qi b)) k0)).2.1==(Xv b (nth (Qi a_++(Qi b)) k0)).2.1)&&((((Xv a_ (nth (Qi a_++(Qi b)) k0)).2.2).toList==((Xv b (nth (Qi a_++(Qi b)) k0)).2.2).toList)&&true)))) (λh4=> ?_) (λh4=> ?_)
  ·refine wT 5 0 (.own true 147203) s0 (λhw5 hl6=> ?_);refine qu Qa [(5,.one (.slc (.own true 1856) 1 ((eL s0)++ [[.s (nth (Qi a_++(Qi b)) k0)]])))] [5,16] [] [] (pa s0 [(nth (Qi a_++(Qi b)) k0)] p0) ?_;refine eqn [(5,.o 1856 (s0++ [(nth (Qi a_++(Qi b)) k0)]))] [5] [] [] (by rw[show ((eL s0)++ [[.s (nth (Qi a_++(Qi b)) k0)]])=(eL (s0++ [(nth (Qi a_++(Qi b)) k0)])) from We (rfl) (rfl)];first | done | kernel_rfl) ?_;refine rn Qa [2,3,4,5,13,14,15] [2,3] (pe 0 (J6 (Ql k0 (by omega))) p0) ?_;exact zE (s0++ [(nth (Qi a_++(Qi b)) k0)]) (zH (X4 [(1856,147203)] (by kernel_rfl)) ⟨Wf hk0 (Xm h4 (rfl)) U.1,by first|omega|(simp;omega) | simp⟩)
  have h4n:(((Xv a_ (nth (Qi a_++(Qi b)) k0)).1==(Xv b (nth (Qi a_++(Qi b)) k0)).1)&&(((Xv a_ (nth (Qi a_++(Qi b)) k0)).2.1==(Xv b (nth (Qi a_++(Qi b)) k0)).2.1)&&((((Xv a_ (nth (Qi a_++(Qi b)) k0)).2.2).toList==((Xv b (nth (Qi a_++(Qi b)) k0)).2.2).toList)&&true)))=true:=Zc h4;have h4nl:(((Xv a_ (nth (Qi a_++(Qi b)) k0)).1==(Xv b (nth (Qi a_++(Qi b)) k0)).1))=true:=UV h4n;have h4nld:=eq_of_beq h4nl;have h4nr:((((Xv a_ (nth (Qi a_++(Qi b)) k0)).2.1==(Xv b (nth (Qi a_++(Qi b)) k0)).2.1)&&((((Xv a_ (nth (Qi a_++(Qi b)) k0)).2.2).toList==((Xv b (nth (Qi a_++(Qi b)) k0)).2.2).toList)&&true)))=true:=CY h4n;have h4nrl:(((Xv a_ (nth (Qi a_++(Qi b)) k0)).2.1==(Xv b (nth (Qi a_++(Qi b)) k0)).2.1))=true:=UV h4nr;have h4nrld:=eq_of_beq h4nrl;refine Qe <| qu Qa [(15,.i ((k0+1:Nat):Int))] [15,16] [] [] (pe 0 (J6 (Ql k0 (by omega))) p0) ?_
  exact xw s0 ⟨Wf hk0 (Qn h4 (rfl)) U.1,by first|omega|(simp;omega) | simp⟩
 ·have hA0_0:=U.2;exact su Qa [(16,.b false)] [] [] [] (pe 0 (zC ((k0:Int)<(((Qi a_).length+(Qi b).length):Int))) p0) <| Qc <| ckF <| Q9 <| zE _ (zH (X4 [(147203,147353)] (by kernel_rfl)) (Cx hk0 (rfl) U.1))
 exact sn Qa [4] [] (pc 1 (Mp y0) p0) <| Qh <| ph0 [] (Uc hD0 (rfl))
def Gl (_:Nat) (a0:Yz) (s0:Z):Rd Z Z Z:=(bif ((a0.1==(2:Int))|| ((a0.1==(3:Int))|| (a0.1==(4:Int)))) then (.next (s0++ [a0.2.2.2.1])) else (.next s0))
def Nu (_:Nat) (s0:Z):Z:=s0
def V3 (q:List Yz):Z:=(Out.on (X7 Gl Nu q 0 []) (λy0=>(Di [] y0)))
theorem ZU (q:List Yz):ACalls Tryz.prog 255 [.h q] (.h (V3 q)):=by
 refine en Qa Tryz.func255 λw0 F0 hG=> ?_
 refine sn Qa [0,2] [] p0 <| tn Qa [0,2,3] [] p0 <| Qc <| tu Qa [(2,.e 0),(3,.one (.slc (.own true 384) 1 [])),(7,.h q),(8,.i (q.length:Int)),(9,.i 0)] [0] [] [] (pl 1 q p0) <| wT 7 0 .sh q (λhw1 hl2=> ?_)
 refine ZQ Gl Nu q [] (λk0 s0=> [(3,.o 147201 s0),(9,.i (k0:Int))]) [3,9] (λy0=> [(3,.o 147351 y0)]) [3,7,8,9] (λk0 s0=>zD s0<=k0) (X4 [(384,147201)] (by kernel_rfl)) (by simp) (λk0 s0 hk0 U=> ?_) (λk0 s0 hk0 U=> ?_) (λy0 hD0=> ?_)
 ·have hA0_0:=U.2;obtain ⟨a0,V⟩:=Xs (l:=q) (i:=k0) hk0;refine sn Qa [2,3,7,8,9,10] [] (pe 0 (zB ((k0:Int)<(q.length:Int))) p0) <| Qc <| ckT <| Qe <| Qc <| Qt <| tn Qa [2,3,5,7,8,9] [5] (pn 0 V p0) <| Qc <| mz [(5,.p 5 0)] [] [(5, [.i a0.1,.i a0.2.1,.i a0.2.2.1,.s a0.2.2.2.1,.i a0.2.2.2.2.1,.i a0.2.2.2.2.2.1,.s a0.2.2.2.2.2.2])] [] <| jn [(25,.b ((a0.1==(2:Int))|| ((a0.1==(3:Int))|| (a0.1==(4:Int)))))] [] [] [] (a0.1==(2:Int)) (λh3=> ?_) (λh3=> ?_) ?_
  ·refine ru Qa [(25,.b true)] [] [] [] (pt 2 h3 p0) ?_;exact zA (by rw[h3]<;>kernel_rfl)
  ·refine Yj (a0.1==(3:Int)) (λh4=> ?_) (λh4=> ?_)
   ·refine ru Qa [(25,.b true)] [] [] [] (pf 2 h3 (pt 6 h4 p0)) ?_;exact zA (by rw[h3,h4]<;>kernel_rfl)
   refine rn Qa [2,3,5,7,8,9,25] [5] (pf 2 h3 (pf 6 h4 p0)) ?_;exact zA (by rw[h3,h4]<;>kernel_rfl)
  refine ck ((a0.1==(2:Int))|| ((a0.1==(3:Int))|| (a0.1==(4:Int)))) (λh5=> ?_) (λh5=> ?_)
  ·refine wT 3 0 (.own true 147201) s0 (λhw6 hl7=> ?_);refine ru Qa [(3,.one (.slc (.own true 1920) 1 ((eL s0)++ [[.s a0.2.2.2.1]])))] [3,5,25] [] [5] (pa s0 [a0.2.2.2.1] p0) ?_;refine eqn [(3,.o 1920 (s0++ [a0.2.2.2.1]))] [3] [] [] (by rw[show ((eL s0)++ [[.s a0.2.2.2.1]])=(eL (s0++ [a0.2.2.2.1])) from We (rfl) (rfl)];first | done | kernel_rfl) ?_;refine rn Qa [2,3,7,8,9] [] (pe 0 (J6 (Ql k0 (by omega))) p0) ?_;exact zE (s0++ [a0.2.2.2.1]) (zH (X4 [(1920,147201)] (by kernel_rfl)) ⟨Qp V (Xm h5 (rfl)) U.1,by first|omega|(simp;omega) | simp⟩)
  have h5l:((a0.1==(2:Int)))=false:=Rw h5;have h5ld:=Z7 h5l;have h5r:(((a0.1==(3:Int))|| (a0.1==(4:Int))))=false:=Pr h5;have h5rl:((a0.1==(3:Int)))=false:=Rw h5r;have h5rld:=Z7 h5rl;have h5rr:((a0.1==(4:Int)))=false:=Pr h5r;have h5rrd:=Z7 h5rr;refine Qe <| rn Qa [2,3,7,8,9] [] (pe 0 (J6 (Ql k0 (by omega))) p0) ?_
  exact xw s0 ⟨Qp V (Qn h5 (rfl)) U.1,by first|omega|(simp;omega) | simp⟩
 ·have hA0_0:=U.2;exact sn Qa [2,3,7,8,9,10] [] (pe 0 (zC ((k0:Int)<(q.length:Int))) p0) <| Qc <| ckF <| Q9 <| zE _ (zH (X4 [(147201,147351)] (by kernel_rfl)) (Xt hk0 (rfl) U.1))
 exact sn Qa [2] [] (pc 1 (Mp y0) p0) <| Qh <| ph0 [] (Uc hD0 (rfl))
def K9 (name:ByteArray) (q0:Z):Bool:=(Qu q0 name)
theorem Nv (name:ByteArray) (q0:Z):ACalls Tryz.prog 257 [.s name,.one (.rptr .sh [.h q0])] (.b (K9 name q0)):=by
 refine en Qa Tryz.func257 λw0 F0 hG=> ?_
 exact sn Qa [0,1,3] [] p0 <| tn Qa [3] [] (pc 2 (Wq q0 name) p0) <| Qh <| pb [] (show K9 name q0=(Qu q0 name) from rfl)
def J0 (c0:Z) (k0:Nat) (a0:ByteArray) (_:Unit):Rd (Int) (Unit) (Unit):=(bif (K9 a0 c0) then (.ret (k0:Int)) else (.next ()))
def J3 (_:Nat) (_:Unit):Unit:=()
def Ki (s_:Z) (c0:Z):Int:=(Out.on (X7 (J0 c0) J3 s_ 0 ()) (λ_=> -1))
theorem A4 (s_:Z) (c0:Z):ACalls Tryz.prog 287 [.h s_,.one (.fnr 257 [[.h c0]])] (.i (Ki s_ c0)):=by
 refine en Qa Tryz.func287 λw0 F0 hG=> ?_
 refine sn Qa [0,1,4] [] p0 <| Qc <| tn Qa [0,1,4,7,8] [] (pl 1 s_ p0) <| mz [(4,.i 0),(7,.i (s_.length:Int)),(8,.i 0)] [] [] [] <| wT 0 0 .sh s_ (λhw1 hl2=> ?_)
 refine Pa (J0 c0) J3 s_ () (λk0 _=> [(8,.i (k0:Int))]) [8] (λ_=> []) [0,1,7,8] wf0 (λk0 s0 hk0 U=> ?_) (λk0 s0 hk0 U=> ?_) (λy0 hD0=> ?_)
 ·obtain ⟨a0,V⟩:=Xs (l:=s_) (i:=k0) hk0;refine sn Qa [0,1,4,7,8,9] [] (pe 0 (zB ((k0:Int)<(s_.length:Int))) p0) <| Qc <| ckT <| Qe <| Qc <| Qt <| tn Qa [0,1,4,5,7,8] [] p0 <| tu Qa [(5,.i (k0:Int)),(16,.b (K9 a0 c0))] [] [] [] (pn 3 V (pc 5 (Nv a0 c0) p0)) <| ck (K9 a0 c0) (λh3=> ?_) (λh3=> ?_)
  ·refine sn Qa [0,1,4,7,8] [] p0 <| Qh ?_
   have hr4:(X7 (J0 c0) J3 s_ 0 ())= .ret (k0:Int):=Jr V (Xm h3 (rfl)) U;exact pi [] (Nk hr4)
  refine Qe <| rn Qa [0,1,4,7,8] [] (pe 0 (J6 (Ql k0 (by omega))) p0) ?_
  exact xw _ (Qp V (Qn h3 (rfl)) U)
 ·exact sn Qa [0,1,4,7,8,9] [] (pe 0 (zC ((k0:Int)<(s_.length:Int))) p0) <| Qc <| ckF <| Q9 <| xw _ (Xt hk0 (rfl) U)
 exact sn Qa [4] [] p0 <| Qh <| pi [] (Uc hD0 (rfl))
def X2 (s_:Z) (c0:Z):Bool:=decide ((Ki s_ c0)>=(0:Int))
theorem Aa (s_:Z) (c0:Z):ACalls Tryz.prog 256 [.h s_,.one (.fnr 257 [[.h c0]])] (.b (X2 s_ c0)):=by
 refine en Qa Tryz.func256 λw0 F0 hG=> ?_
 exact sn Qa [0,1,4] [] p0 <| tn Qa [4] [] (pc 2 (A4 s_ c0) p0) <| Qh <| pb [] (show X2 s_ c0=decide ((Ki s_ c0)>=(0:Int)) from rfl)
def Jn (n:Yz):Bool:=(n.1==(9:Int))
theorem Nw (n:Yz):ACalls Tryz.prog 259 [.a [.i n.1,.i n.2.1,.i n.2.2.1,.s n.2.2.2.1,.i n.2.2.2.2.1,.i n.2.2.2.2.2.1,.s n.2.2.2.2.2.2]] (.b (Jn n)):=by
 refine en Qa Tryz.func259 λw0 F0 hG=> ?_
 exact sn Qa [1,2] [1] p0 <| tn Qa [2] [] p0 <| Qh <| pb [] (show Jn n=(n.1==(9:Int)) from rfl)
def J8 (k0:Nat) (a0:Yz) (_:Unit):Rd (Int) (Unit) (Unit):=(bif (Jn a0) then (.ret (k0:Int)) else (.next ()))
def J9 (_:Nat) (_:Unit):Unit:=()
def Kq (s_:List Yz):Int:=(Out.on (X7 J8 J9 s_ 0 ()) (λ_=> -1))
theorem Be (s_:List Yz):ACalls Tryz.prog 288 [.h s_,.one (.fnr 259 [])] (.i (Kq s_)):=by
 refine en Qa Tryz.func288 λw0 F0 hG=> ?_
 refine sn Qa [0,1,4] [] p0 <| Qc <| tn Qa [0,1,4,7,8] [] (pl 1 s_ p0) <| mz [(4,.i 0),(7,.i (s_.length:Int)),(8,.i 0)] [] [] [] <| wT 0 0 .sh s_ (λhw1 hl2=> ?_)
 refine Pa J8 J9 s_ () (λk0 _=> [(8,.i (k0:Int))]) [8] (λ_=> []) [0,1,7,8] wf0 (λk0 s0 hk0 U=> ?_) (λk0 s0 hk0 U=> ?_) (λy0 hD0=> ?_)
 ·obtain ⟨a0,V⟩:=Xs (l:=s_) (i:=k0) hk0;refine sn Qa [0,1,4,7,8,9] [] (pe 0 (zB ((k0:Int)<(s_.length:Int))) p0) <| Qc <| ckT <| Qe <| Qc <| Qt <| tn Qa [0,1,4,5,7,8] [] p0 <| tu Qa [(5,.i (k0:Int)),(16,.b (Jn a0))] [] [] [] (pn 3 V (pc 5 (Nw a0) p0)) <| ck (Jn a0) (λh3=> ?_) (λh3=> ?_)
  ·refine sn Qa [0,1,4,7,8] [] p0 <| Qh ?_
   have hr4:(X7 J8 J9 s_ 0 ())= .ret (k0:Int):=Jr V (Xm h3 (rfl)) U;exact pi [] (Nk hr4)
  refine Qe <| rn Qa [0,1,4,7,8] [] (pe 0 (J6 (Ql k0 (by omega))) p0) ?_
  exact xw _ (Qp V (Qn h3 (rfl)) U)
 ·exact sn Qa [0,1,4,7,8,9] [] (pe 0 (zC ((k0:Int)<(s_.length:Int))) p0) <| Qc <| ckF <| Q9 <| xw _ (Xt hk0 (rfl) U)
 exact sn Qa [4] [] p0 <| Qh <| pi [] (Uc hD0 (rfl))
def X6 (s_:List Yz):Bool:=decide ((Kq s_)>=(0:Int))
theorem Av (s_:List Yz):ACalls Tryz.prog 258 [.h s_,.one (.fnr 259 [])] (.b (X6 s_)):=by
 refine en Qa Tryz.func258 λw0 F0 hG=> ?_
 exact sn Qa [0,1,4] [] p0 <| tn Qa [4] [] (pc 2 (Be s_) p0) <| Qh <| pb [] (show X6 s_=decide ((Kq s_)>=(0:Int)) from rfl)
def Vs (before:Xx) (after:Xx) (_:Nat) (a0:Yc) (s0:Z):Rd Z Z Z:=(bif ((X2 (Kd before after) (V3 a0.2))|| ((X6 a0.2)&&(before.2.2.2.1 !=after.2.2.2.1))) then (.next (s0++ [a0.1])) else (.next s0))
def Hf (_:Nat) (s0:Z):Z:=s0
def K6 (d:List Yc) (before:Xx) (after:Xx):Z:=(bif (before.1 !=after.1) then (Yv d) else (Out.on (X7 (Vs before after) Hf d 0 []) (λy0=>y0)))
theorem Tn (a b:Xx):∀(l:List Yc) (k:Nat) (s:Z),∃s',X7 (Vs a b) Hf l k s= .brk s'/\s'.length<=s.length+l.length
 | [],k,s=>⟨s,rfl,by simp⟩
 | x::l,k,s=>by
  simp only[X7,Vs];generalize (_|| _:Bool)=c;cases c with
  | true=>obtain ⟨s',h1,h2⟩:=Tn a b l (k+1) (s++ [x.1]);exact ⟨s',h1,by simp at h2⊢;omega⟩
  | false=>obtain ⟨s',h1,h2⟩:=Tn a b l (k+1) s;exact ⟨s',h1,by simp at h2⊢;omega⟩
theorem ZK (d:List Yc) (a b:Xx):(K6 d a b).length<=d.length:=by
 unfold K6;obtain ⟨s',h1,h2⟩:=Tn a b d 0 [];rw[h1,Tk];generalize (a.1 !=b.1)=c;cases c with
 | true=>simp
 | false=>exact (by simpa using h2:s'.length<=d.length)
theorem Pm (d:List Yc) (before:Xx) (after:Xx) (hp:(zD before.2.2.2.2:Int)+zD after.2.2.2.2<=1073741000):ACalls Tryz.prog 222 [.h d,.a [.i before.1,.i before.2.1,.b before.2.2.1,.i before.2.2.2.1,.h before.2.2.2.2],.a [.i after.1,.i after.2.1,.b after.2.2.1,.i after.2.2.2.1,.h after.2.2.2.2]] (.o 0 (K6 d before after)):=by
 refine en Qa Tryz.func222 λw0 F0 hG=> ?_
 refine sn Qa [0,4,5,6] [4,5] p0 <| Qc <| tn Qa [0,4,5,6,18] [4,5] p0 <| ck (before.1 !=after.1) (λh1=> ?_) (λh1=> ?_)
 ·exact tu Qa [(4,.p 4 0),(5,.p 5 0),(6,.o 1280 (Yv d))] [1,2] [(4, [.i before.1,.i before.2.1,.b before.2.2.1,.i before.2.2.2.1,.h before.2.2.2.2]),(5, [.i after.1,.i after.2.1,.b after.2.2.1,.i after.2.2.2.1,.h after.2.2.2.2])] [] (pc 1 (Gy d) p0) <| Qh <| po0 [] (Xm h1 (rfl))
 have h1d:=U8 h1;refine Qe <| tu Qa [(4,.p 4 0),(5,.p 5 0),(6,.e 0),(7,.h (Kd before after))] [1,2] [(4, [.i before.1,.i before.2.1,.b before.2.2.1,.i before.2.2.2.1,.h before.2.2.2.2]),(5, [.i after.1,.i after.2.1,.b after.2.2.1,.i after.2.2.2.1,.h after.2.2.2.2])] [] (pc 2 (XA before after (by first|omega|(simp;omega))) p0) <| sn Qa [0,4,5,6,7,8] [4,5] p0 <| Qc <| tn Qa [4,5,6,7,8,25,26,27] [4,5] (pl 1 d p0) <| mz [(8,.one (.slc (.own true 1536) 1 [])),(25,.h d),(26,.i (d.length:Int)),(27,.i 0)] [0] [] [] <| wT 25 0 .sh d (λhw2 hl3=> ?_)
 refine SK (Vs before after) Hf d [] (λk0 s0=> [(8,.o 147204 s0),(27,.i (k0:Int))]) [8,27] (λ_ _=> []) [] (λy0=> [(8,.o 147354 y0)]) [4,5,7,8,25,26,27] (λ_=> []) [4,5] (λk0 s0=>zD s0<=k0) (X4 [(1536,147204)] (by kernel_rfl)) (by simp) (λk0 s0 hk0 U=> ?_) (λk0 s0 hk0 U=> ?_) (λy0 hD0=> ?_)
 ·have hA0_0:=U.2;obtain ⟨a0,V⟩:=Xs (l:=d) (i:=k0) hk0;refine su Qa [(28,.b true)] [] [] [] (pe 0 (zB ((k0:Int)<(d.length:Int))) p0) <| Qc <| ckT <| Qe <| Qc <| Qt <| sn Qa [4,5,6,7,8,10,25,26,27] [4,5,10] (pn 0 V p0) <| tn Qa [4,5,6,7,8,10,11,25,26,27] [4,5,10,11] (pc 2 (ZU a0.2) p0) <| tu Qa [(10,.p 10 0),(12,.b (X2 (Kd before after) (V3 a0.2)))] [28] [(10, [.s a0.1,.h a0.2])] [] (pc 2 (Aa (Kd before after) (V3 a0.2)) p0) <| sn Qa [4,5,6,7,8,10,12,13,25,26,27] [4,5,10] (pc 2 (Av a0.2) p0) <| Qc <| mz [(13,.b (X6 a0.2))] [] [] [] <| jn [(50,.b ((X2 (Kd before after) (V3 a0.2))|| ((X6 a0.2)&&(before.2.2.2.1 !=after.2.2.2.1))))] [12,13] [] [] (X2 (Kd before after) (V3 a0.2)) (λh4=> ?_) (λh4=> ?_) ?_
  ·refine ru Qa [(50,.b true)] [12,13] [] [] (pt 0 h4 p0) ?_;exact zA (by rw[h4]<;>kernel_rfl)
  ·refine Yj (X6 a0.2) (λh5=> ?_) (λh5=> ?_)
   ·refine rn Qa [4,5,6,7,8,10,25,26,27,50] [4,5,10] (pf 0 h4 (pt 2 h5 p0)) ?_;exact zA (by rw[h4,h5]<;>kernel_rfl)
   refine ru Qa [(50,.b false)] [12,13] [] [] (pf 0 h4 (pf 2 h5 p0)) ?_;exact zA (by rw[h4,h5]<;>kernel_rfl)
  refine ck ((X2 (Kd before after) (V3 a0.2))|| ((X6 a0.2)&&(before.2.2.2.1 !=after.2.2.2.1))) (λh6=> ?_) (λh6=> ?_)
  ·refine wT 8 0 (.own true 147204) s0 (λhw7 hl8=> ?_);refine ru Qa [(8,.one (.slc (.own true 3520) 1 ((eL s0)++ [[.s a0.1]])))] [8,10,50] [] [10] (pa s0 [a0.1] p0) ?_;refine eqn [(8,.o 3520 (s0++ [a0.1]))] [8] [] [] (by rw[show ((eL s0)++ [[.s a0.1]])=(eL (s0++ [a0.1])) from We (rfl) (rfl)];first | done | kernel_rfl) ?_;refine rn Qa [4,5,6,7,8,25,26,27] [4,5] (pe 0 (J6 (Ql k0 (by omega))) p0) ?_;exact zE (s0++ [a0.1]) (zH (X4 [(3520,147204)] (by kernel_rfl)) ⟨Qp V (Xm h6 (rfl)) U.1,by first|omega|(simp;omega) | simp⟩)
  refine Qe <| rn Qa [4,5,6,7,8,25,26,27] [4,5] (pe 0 (J6 (Ql k0 (by omega))) p0) ?_
  exact xw s0 ⟨Qp V (Qn h6 (rfl)) U.1,by first|omega|(simp;omega) | simp⟩
 ·have hA0_0:=U.2;exact su Qa [(28,.b false)] [] [] [] (pe 0 (zC ((k0:Int)<(d.length:Int))) p0) <| Qc <| ckF <| Q9 <| zE _ (zH (X4 [(147204,147354)] (by kernel_rfl)) (Xt hk0 (rfl) U.1))
 exact sn Qa [6] [] p0 <| Qh <| po0 [] (Qn h1 (Uc hD0 (rfl)))
def Vn (d:List Yc) (before:Xx) (after:Xx):Z:=(X8 d (K6 d before after))
theorem XB (d:List Yc) (before:Xx) (after:Xx) (hp:(zD before.2.2.2.2:Int)+zD after.2.2.2.2<=1073741000) (hd:zD d<=1000):ACalls Tryz.prog 182 [.h d,.a [.i before.1,.i before.2.1,.b before.2.2.1,.i before.2.2.2.1,.h before.2.2.2.2],.a [.i after.1,.i after.2.1,.b after.2.2.1,.i after.2.2.2.1,.h after.2.2.2.2]] (.h (Vn d before after)):=by
 refine en Qa Tryz.func182 λw0 F0 hG=> ?_
 have hdl:=ZK d before after;exact sn Qa [0,4,5,6] [4,5] p0 <| tn Qa [6] [] (pc 4 (Pm d before after (by first|omega|(simp;omega))) (pc 5 (Ac d (K6 d before after) (by first|omega|(simp;omega))) p0)) <| Qh <| ph0 [] (show Vn d before after=(X8 d (K6 d before after)) from rfl)
def Z4 (a_:List Int) (b:List Int):(List Int)×(List Int):=((Gk b a_),(Gk a_ b))
theorem DR (a_:List Int) (b:List Int):ACalls Tryz.prog 136 [.h a_,.h b] (.tup [(false, [.o 0 (((Z4 a_ b)).1)]),(false, [.o 1 (((Z4 a_ b)).2)])]):=by
 refine en Qa Tryz.func136 λw0 F0 hG=> ?_
 exact sn Qa [0,1,4,5] [] p0 <| tn Qa [4,5] [] (pc 2 (QV b a_) (pc 5 (QV a_ b) p0)) <| Qh <| pz [] (show Z4 a_ b=((Gk b a_),(Gk a_ b)) from rfl) (λz=> .tup [(false, [.o 0 z.1]),(false, [.o 1 z.2])])
def Mr (a_:List Qj) (_:Nat) (a0:Qj) (s0:List Ef):Rd (List Ef) (List Ef) (List Ef):=(bif decide (IntKind.i64.wrap (((((Z4 (Xl a_ a0.1) a0.2)).1).length:Int)+((((Z4 (Xl a_ a0.1) a0.2)).2).length:Int))>(0:Int)) then (.next (s0++ [(a0.1,((Z4 (Xl a_ a0.1) a0.2)).1,((Z4 (Xl a_ a0.1) a0.2)).2)])) else (.next s0))
def Ms (_:Nat) (s0:List Ef):(List Ef):=s0
def Mc (a_:List Qj) (b:List Qj):(List Ef):=(Out.on (X7 (Mr a_) Ms b 0 []) (λy0=>y0))
theorem Nx (a_:List Qj) (b:List Qj):ACalls Tryz.prog 73 [.h a_,.h b] (.o 0 (Mc a_ b)):=by
 refine en Qa Tryz.func73 λw0 F0 hG=> ?_
 refine sn Qa [0,1,4] [] p0 <| tn Qa [0,1,4,5] [] p0 <| Qc <| tu Qa [(4,.e 0),(5,.one (.slc (.own true 640) 3 [])),(11,.h b),(12,.i (b.length:Int)),(13,.i 0)] [1] [] [] (pl 1 b p0) <| wT 11 0 .sh b (λhw1 hl2=> ?_)
 refine ZQ (Mr a_) Ms b [] (λk0 s0=> [(5,.o 147202 s0),(13,.i (k0:Int))]) [5,13] (λy0=> [(5,.o 147352 y0)]) [0,5,11,12,13] (λk0 s0=>zD s0<=k0) (X4 [(640,147202)] (by kernel_rfl)) (by simp) (λk0 s0 hk0 U=> ?_) (λk0 s0 hk0 U=> ?_) (λy0 hD0=> ?_)
 ·have hA0_0:=U.2;obtain ⟨a0,V⟩:=Xs (l:=b) (i:=k0) hk0;refine su Qa [(14,.b true)] [] [] [] (pe 0 (zB ((k0:Int)<(b.length:Int))) p0) <| Qc <| ckT <| Qe <| Qc <| Qt <| sn Qa [0,4,5,7,11,12,13] [7] (pn 0 V p0) <| tN Qa Zt [0,4,5,7,8,9,11,12,13] [7] (pc 3 (Fr a_ a0.1) (pc 6 (DR (Xl a_ a0.1) a0.2) p0)) <| tu Qa [(7,.p 7 0),(8,.o 1536 (((Z4 (Xl a_ a0.1) a0.2)).1)),(9,.o 1537 (((Z4 (Xl a_ a0.1) a0.2)).2)),(32,.b (decide (IntKind.i64.wrap (((((Z4 (Xl a_ a0.1) a0.2)).1).length:Int)+((((Z4 (Xl a_ a0.1) a0.2)).2).length:Int))>(0:Int))))] [14] [(7, [.s a0.1,.h a0.2])] [] (pl 1 (((Z4 (Xl a_ a0.1) a0.2)).1) (pl 3 (((Z4 (Xl a_ a0.1) a0.2)).2) p0)) <| ck (decide (IntKind.i64.wrap (((((Z4 (Xl a_ a0.1) a0.2)).1).length:Int)+((((Z4 (Xl a_ a0.1) a0.2)).2).length:Int))>(0:Int))) (λh3=> ?_) (λh3=> ?_)
  ·have h3d:=of_decide_eq_true h3;refine wT 5 0 (.own true 147202) s0 (λhw4 hl5=> ?_);refine ru Qa [(5,.one (.slc (.own true 2560) 3 ((eL s0)++ [[.s a0.1,.h (((Z4 (Xl a_ a0.1) a0.2)).1),.h (((Z4 (Xl a_ a0.1) a0.2)).2)]])))] [5,7,8,9,32] [] [7] (pa s0 [(a0.1,((Z4 (Xl a_ a0.1) a0.2)).1,((Z4 (Xl a_ a0.1) a0.2)).2)] p0) ?_;refine eqn [(5,.o 2560 (s0++ [(a0.1,((Z4 (Xl a_ a0.1) a0.2)).1,((Z4 (Xl a_ a0.1) a0.2)).2)]))] [5] [] [] (by rw[show ((eL s0)++ [[.s a0.1,.h (((Z4 (Xl a_ a0.1) a0.2)).1),.h (((Z4 (Xl a_ a0.1) a0.2)).2)]])=(eL (s0++ [(a0.1,((Z4 (Xl a_ a0.1) a0.2)).1,((Z4 (Xl a_ a0.1) a0.2)).2)])) from We (rfl) (rfl)];first | done | kernel_rfl) ?_;refine rn Qa [0,4,5,11,12,13] [] (pe 0 (J6 (Ql k0 (by omega))) p0) ?_;exact zE (s0++ [(a0.1,((Z4 (Xl a_ a0.1) a0.2)).1,((Z4 (Xl a_ a0.1) a0.2)).2)]) (zH (X4 [(2560,147202)] (by kernel_rfl)) ⟨Qp V (Xm h3 (rfl)) U.1,by first|omega|(simp;omega) | simp⟩)
  have h3d:=of_decide_eq_false h3;refine Qe <| rn Qa [0,4,5,11,12,13] [] (pe 0 (J6 (Ql k0 (by omega))) p0) ?_
  exact xw s0 ⟨Qp V (Qn h3 (rfl)) U.1,by first|omega|(simp;omega) | simp⟩
 ·have hA0_0:=U.2;exact su Qa [(14,.b false)] [] [] [] (pe 0 (zC ((k0:Int)<(b.length:Int))) p0) <| Qc <| ckF <| Q9 <| zE _ (zH (X4 [(147202,147352)] (by kernel_rfl)) (Xt hk0 (rfl) U.1))
 exact sn Qa [4] [] p0 <| Qh <| po0 [] (Uc hD0 (rfl))
def Uw (x:Qj) (y_:Qj):Bool:=((x.1.toList==y_.1.toList)&&(Kw x.2 y_.2))
theorem Sd (x:Qj) (y_:Qj):ACalls Tryz.prog 171 [.a [.s x.1,.h x.2],.a [.s y_.1,.h y_.2]] (.b (Uw x y_)):=by
 refine en Qa Tryz.func171 λw0 F0 hG=> ?_
 refine sn Qa [2,3,4] [2,3] p0 <| Qc <| mz [(2,.p 2 0),(3,.p 3 0),(4,.b false)] [0,1] [(2, [.s x.1,.h x.2]),(3, [.s y_.1,.h y_.2])] [] <| jn [(4,.b ((x.1.toList==y_.1.toList)&&(Kw x.2 y_.2)))] [2,3,4] [] [2,3] (x.1.toList==y_.1.toList) (λh1=> ?_) (λh1=> ?_) ?_
 ·refine rn Qa [4] [] (pt 4 h1 (pc 10 (Nt x.2 y_.2) p0)) ?_;exact zA (by rw[h1]<;>kernel_rfl)
 ·refine rn Qa [4] [] (pf 4 h1 p0) ?_;exact zA (by rw[h1]<;>kernel_rfl)
 exact Qh <| pb [] (show Uw x y_=((x.1.toList==y_.1.toList)&&(Kw x.2 y_.2)) from rfl)
def Zr (s2_:List Qj) (k0:Nat) (a0:Qj) (_:Unit):Rd (Bool) (Unit) (Unit):=(bif (!(Uw a0 (nth s2_ k0))) then (.ret false) else (.next ()))
def Je (_:Nat) (_:Unit):Unit:=()
def Jo (s1_:List Qj) (s2_:List Qj):Bool:=(bif ((s1_.length:Int) !=(s2_.length:Int)) then false else (Out.on (X7 (Zr s2_) Je s1_ 0 ()) (λ_=>true)))
theorem Bo (s1_:List Qj) (s2_:List Qj):ACalls Tryz.prog 170 [.h s1_,.h s2_,.one (.fnr 171 [])] (.b (Jo s1_ s2_)):=by
 refine en Qa Tryz.func170 λw0 F0 hG=> ?_
 refine sn Qa [0,1,2,6] [] p0 <| Qc <| tn Qa [0,1,2,6,14] [] (pl 1 s1_ (pl 3 s2_ p0)) <| ck ((s1_.length:Int) !=(s2_.length:Int)) (λh1=> ?_) (λh1=> ?_)
 ·exact tu Qa [(6,.b false)] [] [] [] p0 <| Qh <| pb [] (Xm h1 (rfl))
 have h1d:=U8 h1;refine Qe <| Qc <| tu Qa [(6,.b false),(15,.h s1_),(16,.i (s1_.length:Int)),(17,.i 0)] [0] [] [] (pl 1 s1_ p0) <| wT 15 0 .sh s1_ (λhw2 hl3=> ?_)
 refine Pa (Zr s2_) Je s1_ () (λk0 _=> [(17,.i (k0:Int))]) [17] (λ_=> []) [1,2,15,16,17] wf0 (λk0 s0 hk0 U=> ?_) (λk0 s0 hk0 U=> ?_) (λy0 hD0=> ?_)
 ·obtain ⟨a0,V⟩:=Xs (l:=s1_) (i:=k0) hk0;refine su Qa [(18,.b true)] [] [] [] (pe 0 (zB ((k0:Int)<(s1_.length:Int))) p0) <| Qc <| ckT <| Qe <| Qc <| Qt <| sn Qa [1,2,6,7,8,15,16,17] [8] (pn 1 V p0) <| wT 1 0 .sh s2_ (λhw5 hl6=> ?_)
  have hx4:=ng s2_ k0;refine tn Qa [1,2,6,8,9,15,16,17] [8,9] (pn 2 hx4 p0) <| tu Qa [(30,.b (!(Uw a0 (nth s2_ k0))))] [18] [] [] (pc 3 (Sd a0 (nth s2_ k0)) p0) <| ck (!(Uw a0 (nth s2_ k0))) (λh7=> ?_) (λh7=> ?_)
  ·refine su Qa [] [30] [] [] p0 <| Qh ?_
   have hr8:(X7 (Zr s2_) Je s1_ 0 ())= .ret false:=Jr V (Xm h7 (rfl)) U;exact pb [] (Qn h1 (Nk hr8))
  refine Qe <| rn Qa [1,2,6,15,16,17] [] (pe 0 (J6 (Ql k0 (by omega))) p0) ?_
  exact xw _ (Qp V (Qn h7 (rfl)) U)
 ·exact su Qa [(18,.b false)] [] [] [] (pe 0 (zC ((k0:Int)<(s1_.length:Int))) p0) <| Qc <| ckF <| Q9 <| xw _ (Xt hk0 (rfl) U)
 exact sn Qa [6] [] p0 <| Qh <| pb [] (Qn h1 (Uc hD0 (rfl)))
def U4 (a_:List Qj) (b:List Qj):Bool:=(Jo a_ b)
theorem XC (a_:List Qj) (b:List Qj):ACalls Tryz.prog 120 [.h a_,.h b] (.b (U4 a_ b)):=by
 refine en Qa Tryz.func120 λw0 F0 hG=> ?_
 exact sn Qa [0,1,4] [] p0 <| tn Qa [4] [] (pc 2 (Bo a_ b) p0) <| Qh <| pb [] (show U4 a_ b=(Jo a_ b) from rfl)
def Xa (c:Xj):Bool:=(((Jd c.1 c.2.1)).2&&(U4 (((Jd c.1 c.2.1)).1) c.2.2))
theorem Wz {c:Xj} (h:Xa c=true):zD c.2.1<=5/\Qs c.1=true:=by
 unfold Xa at h;cases he:(Jd c.1 c.2.1).2 with
 | false=>rw[he] at h;simp at h
 | true=>obtain ⟨h1,h2,_⟩:=WG he;exact ⟨h1,h2⟩
theorem Ur (c:Xj):ACalls Tryz.prog 69 [.a [.h c.1.1,.h c.1.2.1,.i c.1.2.2,.h c.2.1,.h c.2.2]] (.b (Xa c)):=by
 refine en Qa Tryz.func69 λw0 F0 hG=> ?_
 refine sn Qa [1,2] [1] p0 <| tn Qa [1,2,3,4] [1] (pc 4 (UY c.1 c.2.1) p0) <| Qc <| mz [(1,.p 1 0),(2,.b false),(3,.o 640 (((Jd c.1 c.2.1)).1)),(4,.b (((Jd c.1 c.2.1)).2))] [0] [(1, [.h c.1.1,.h c.1.2.1,.i c.1.2.2,.h c.2.1,.h c.2.2])] [] <| jn [(2,.b (((Jd c.1 c.2.1)).2&&(U4 (((Jd c.1 c.2.1)).1) c.2.2)))] [1,2,3,4] [] [1] (((Jd c.1 c.2.1)).2) (λh1=> ?_) (λh1=> ?_) ?_
 ·refine rn Qa [2] [] (pt 0 h1 (pc 5 (XC (((Jd c.1 c.2.1)).1) c.2.2) p0)) ?_;exact zA (by rw[h1]<;>kernel_rfl)
 ·refine rn Qa [2] [] (pf 0 h1 p0) ?_;exact zA (by rw[h1]<;>kernel_rfl)
 exact Qh <| pb [] (show Xa c=(((Jd c.1 c.2.1)).2&&(U4 (((Jd c.1 c.2.1)).1) c.2.2)) from rfl)
open GoE (enc wide)
def F1 (_:Nat) (a0:Qj) (s0:List Qj):Rd (List Qj) (List Qj) (List Qj):=(.next (s0++ [a0]))
def F2 (_:Nat) (s0:List Qj):(List Qj):=s0
def Co (r:List Qj):(List Qj):=(Out.on (X7 F1 F2 r 0 []) (λy0=>y0))
theorem YP (r:List Qj):ACalls Tryz.prog 123 [.h r] (.o 0 (Co r)):=by
 refine en Qa Tryz.func123 λw0 F0 hG=> ?_
 refine sn Qa [0,2] [] p0 <| tn Qa [0,2,3] [] p0 <| Qc <| tu Qa [(2,.e 0),(3,.one (.slc (.own true 384) 2 [])),(7,.h r),(8,.i (r.length:Int)),(9,.i 0)] [0] [] [] (pl 1 r p0) <| wT 7 0 .sh r (λhw1 hl2=> ?_)
 refine ZQ F1 F2 r [] (λk0 s0=> [(3,.o 147201 s0),(9,.i (k0:Int))]) [3,9] (λy0=> [(3,.o 147351 y0)]) [3,7,8,9] (λk0 s0=>zD s0<=k0) (X4 [(384,147201)] (by kernel_rfl)) (by simp) (λk0 s0 hk0 U=> ?_) (λk0 s0 hk0 U=> ?_) (λy0 hD0=> ?_)
 ·have hA0_0:=U.2;obtain ⟨a0,V⟩:=Xs (l:=r) (i:=k0) hk0;refine sn Qa [2,3,7,8,9,10] [] (pe 0 (zB ((k0:Int)<(r.length:Int))) p0) <| Qc <| ckT <| Qe <| Qc <| Qt <| tn Qa [2,3,5,7,8,9] [5] (pn 0 V p0) <| wT 3 0 (.own true 147201) s0 (λhw3 hl4=> ?_)
  refine qU Qa Zt [(3,.one (.slc (.own true 1344) 2 ((eL s0)++ [[.s a0.1,.h a0.2]])))] [3] [] [] (pc 5 (YF a0.2) (pa s0 [a0] p0)) ?_;refine eqn [(3,.o 1344 (s0++ [a0]))] [3] [] [] (by rw[show ((eL s0)++ [[.s a0.1,.h a0.2]])=(eL (s0++ [a0])) from We (rfl) (rfl)];first | done | kernel_rfl) ?_;refine rn Qa [2,3,7,8,9] [] (pe 0 (J6 (Ql k0 (by omega))) p0) ?_;exact zE (s0++ [a0]) (zH (X4 [(1344,147201)] (by kernel_rfl)) ⟨Qp V (rfl) U.1,by first|omega|(simp;omega) | simp⟩)
 ·have hA0_0:=U.2;exact sn Qa [2,3,7,8,9,10] [] (pe 0 (zC ((k0:Int)<(r.length:Int))) p0) <| Qc <| ckF <| Q9 <| zE _ (zH (X4 [(147201,147351)] (by kernel_rfl)) (Xt hk0 (rfl) U.1))
 exact sn Qa [2] [] p0 <| Qh <| po0 [] (Uc hD0 (rfl))
def Xi (c:Xj):Xj:=((Xd c.1),(X1 c.2.1),(Co c.2.2))
theorem Z5 (c:Xj):ACalls Tryz.prog 70 [.a [.h c.1.1,.h c.1.2.1,.i c.1.2.2,.h c.2.1,.h c.2.2]] (.a [.o 0 ((Xi c).1.1),.o 1 ((Xi c).1.2.1),.i ((Xi c).1.2.2),.o 2 ((Xi c).2.1),.o 3 ((Xi c).2.2)]):=by
 refine en Qa Tryz.func70 λw0 F0 hG=> ?_
 exact sn Qa [1,2] [1,2] p0 <| tN Qa Zt [2] [2] (pc 2 (Cn c.1) (pc 5 (A3 c.2.1) (pc 8 (YP c.2.2) p0))) <| Qh <| pz [] (show Xi c=((Xd c.1),(X1 c.2.1),(Co c.2.2)) from rfl) (λz=> .a [.o 0 z.1.1,.o 1 z.1.2.1,.i z.1.2.2,.o 2 z.2.1,.o 3 z.2.2])
def Vo (s_:Xr) (d:List Yc) (r:List Qj) (names:Z):(List Qj)×Bool:=(((Y4 s_ d r names)).1,((Y4 s_ d r names)).2.2)
theorem ZV (s_:Xr) (d:List Yc) (r:List Qj) (names:Z):ACalls Tryz.prog 189 [.a [.h s_.1,.h s_.2.1,.i s_.2.2],.h d,.h r,.h names] (.tup [(false, [.o 0 (((Vo s_ d r names)).1)]),(false, [.b (((Vo s_ d r names)).2)])]):=by
 refine en Qa Tryz.func189 λw0 F0 hG=> ?_
 exact sn Qa [1,2,3,4,8,9] [4] p0 <| tn Qa [8,9,10,12] [] (pc 4 (Re s_ d r names) p0) <| tu Qa [(8,.o 1152 (((Y4 s_ d r names)).1)),(9,.b (((Y4 s_ d r names)).2.2))] [0,1,2,3] [] [] p0 <| Qh <| pz [] (show Vo s_ d r names=(((Y4 s_ d r names)).1,((Y4 s_ d r names)).2.2) from rfl) (λz=> .tup [(false, [.o 0 z.1]),(false, [.b z.2])])
def Ya (c:Xj) (s_:Xr) (d:List Yc) (names:Z):Xj×(List Ef)×Bool:=(bif (!(((Vo s_ d c.2.2 names)).2)) then ((Xi c), [],false) else (((Xd s_),(X1 d),((Vo s_ d c.2.2 names)).1),(Mc c.2.2 (((Vo s_ d c.2.2 names)).1)),true))
theorem Cp (c:Xj) (s_:Xr) (d:List Yc) (names:Z):ACalls Tryz.prog 132 [.a [.h c.1.1,.h c.1.2.1,.i c.1.2.2,.h c.2.1,.h c.2.2],.a [.h s_.1,.h s_.2.1,.i s_.2.2],.h d,.h names] (.tup [(true, [.o 0 ((((Ya c s_ d names)).1).1.1),.o 1 ((((Ya c s_ d names)).1).1.2.1),.i ((((Ya c s_ d names)).1).1.2.2),.o 2 ((((Ya c s_ d names)).1).2.1),.o 3 ((((Ya c s_ d names)).1).2.2)]),(false, [.o 4 (((Ya c s_ d names)).2.1)]),(false, [.b (((Ya c s_ d names)).2.2)])]):=by
 refine en Qa Tryz.func132 λw0 F0 hG=> ?_
 refine sn Qa [2,3,4,5,8,9,10] [4,5,8] p0 <| tn Qa [2,4,5,8,9,10,11,12] [4,5,8] (pc 5 (ZV s_ d c.2.2 names) p0) <| Qc <| tu Qa [(4,.p 4 0),(5,.p 5 0),(8,.p 8 0),(9,.e 0),(10,.b false),(11,.o 1216 (((Vo s_ d c.2.2 names)).1)),(23,.b (!(((Vo s_ d c.2.2 names)).2)))] [0,1,3] [(4, [.h c.1.1,.h c.1.2.1,.i c.1.2.2,.h c.2.1,.h c.2.2]),(5, [.h s_.1,.h s_.2.1,.i s_.2.2]),(8, [.e 2,.e 5,.i 0,.e 2,.e 2])] [] p0 <| ck (!(((Vo s_ d c.2.2 names)).2)) (λh1=> ?_) (λh1=> ?_)
 ·refine sn Qa [2,4,5,8,9,10,11] [4,5,8] (pc 1 (Z5 c) p0) <| opn [(false,9,0,true,384000,3)] ?_
  exact Qh <| pz [] (show Ya c s_ d names=_ from Xm h1 (rfl)) (λz=> .tup [(true, [.o 0 z.1.1.1,.o 1 z.1.1.2.1,.i z.1.1.2.2,.o 2 z.1.2.1,.o 3 z.1.2.2]),(false, [.o 4 z.2.1]),(false, [.b z.2.2])])
 exact Qe <| sN Qa Zt [8,9,10] [8] (pc 1 (Cn s_) (pc 3 (A3 d) (pc 9 (Nx c.2.2 (((Vo s_ d c.2.2 names)).1)) p0))) <| Qh <| pz [] (show Ya c s_ d names=_ from Qn h1 (rfl)) (λz=> .tup [(true, [.o 0 z.1.1.1,.o 1 z.1.1.2.1,.i z.1.1.2.2,.o 2 z.1.2.1,.o 3 z.1.2.2]),(false, [.o 4 z.2.1]),(false, [.b z.2.2])])
def Jb (c:Xj) (f:Xx):Xj×Int×(List Ef)×Bool:=(bif ((!(((Yg c.1 f)).2.2))|| (!(Xa c))) then ((Xi c),0, [],false) else ((((Ya c (((Yg c.1 f)).1) c.2.1 (Yv c.2.1))).1),((Yg c.1 f)).2.1,((Ya c (((Yg c.1 f)).1) c.2.1 (Yv c.2.1))).2.1,((Ya c (((Yg c.1 f)).1) c.2.1 (Yv c.2.1))).2.2))
theorem DS (c:Xj) (f:Xx):ACalls Tryz.prog 125 [.a [.h c.1.1,.h c.1.2.1,.i c.1.2.2,.h c.2.1,.h c.2.2],.a [.i f.1,.i f.2.1,.b f.2.2.1,.i f.2.2.2.1,.h f.2.2.2.2]] (.tup [(true, [.o 0 ((((Jb c f)).1).1.1),.o 1 ((((Jb c f)).1).1.2.1),.i ((((Jb c f)).1).1.2.2),.o 2 ((((Jb c f)).1).2.1),.o 3 ((((Jb c f)).1).2.2)]),(false, [.i (((Jb c f)).2.1)]),(false, [.o 4 (((Jb c f)).2.2.1)]),(false, [.b (((Jb c f)).2.2.2)])]):=by
 refine en Qa Tryz.func125 λw0 F0 hG=> ?_
 refine sn Qa [2,3,4,5,6,7] [2,3,4] p0 <| tn Qa [2,4,5,6,7,8,9,10] [2,4,8] (pc 3 (ZR c.1 f) p0) <| Qc <| Qc <| mz [(2,.p 2 0),(4,.p 4 0),(5,.i 0),(6,.e 0),(7,.b false),(8,.p 8 0),(9,.i (((Yg c.1 f)).2.1)),(10,.b (((Yg c.1 f)).2.2))] [0,1] [(2, [.h c.1.1,.h c.1.2.1,.i c.1.2.2,.h c.2.1,.h c.2.2]),(4, [.e 2,.e 5,.i 0,.e 2,.e 2]),(8, [.o 1088 ((((Yg c.1 f)).1).1),.o 1089 ((((Yg c.1 f)).1).2.1),.i ((((Yg c.1 f)).1).2.2)])] [] <| jn [(27,.b ((!(((Yg c.1 f)).2.2))|| (!(Xa c))))] [] [] [] (!(((Yg c.1 f)).2.2)) (λh1=> ?_) (λh1=> ?_) ?_
 ·have h1n:(((Yg c.1 f)).2.2)=false:=Vp h1;refine ru Qa [(27,.b true)] [] [] [] (pf 0 h1n (pe 1 (show .b (!false)= .b true from rfl) p0)) ?_;exact zA (by rw[h1]<;>kernel_rfl)
 ·have h1n:(((Yg c.1 f)).2.2)=true:=Zc h1;refine rn Qa [2,4,5,6,7,8,9,10,27] [2,4,8] (pt 0 h1n (pe 1 (show .b (!true)= .b false from rfl) (pc 4 (Ur c) p0))) ?_;exact zA (by rw[h1]<;>kernel_rfl)
 refine ck ((!(((Yg c.1 f)).2.2))|| (!(Xa c))) (λh2=> ?_) (λh2=> ?_)
 ·refine sn Qa [2,4,5,6,7,8,9,10] [2,4,8] (pc 1 (Z5 c) p0) <| opn [(false,6,0,true,384000,3)] ?_
  exact Qh <| pz [] (show Jb c f=_ from Xm h2 (rfl)) (λz=> .tup [(true, [.o 0 z.1.1.1,.o 1 z.1.1.2.1,.i z.1.1.2.2,.o 2 z.1.2.1,.o 3 z.1.2.2]),(false, [.i z.2.1]),(false, [.o 4 z.2.2.1]),(false, [.b z.2.2.2])])
 have h2r:((!(Xa c)))=false:=Pr h2;have h2rn:(Xa c)=true:=Zc h2r;have h2rnc:=Wz h2rn;exact Qe <| sN Qa Zt [4,5,6,7,9,10,11,12] [4,11] (pc 6 (Gy c.2.1) (pc 7 (Cp c (((Yg c.1 f)).1) c.2.1 (Yv c.2.1)) p0)) <| tn Qa [4,5,6,7] [4] p0 <| Qh <| pz [] (show Jb c f=_ from Qn h2 (rfl)) (λz=> .tup [(true, [.o 0 z.1.1.1,.o 1 z.1.1.2.1,.i z.1.1.2.2,.o 2 z.1.2.1,.o 3 z.1.2.2]),(false, [.i z.2.1]),(false, [.o 4 z.2.2.1]),(false, [.b z.2.2.2])])
def Jg (c:Xj) (f:Xx):Xj×(List Ef)×Bool:=(bif ((!(((Xy c.1 f)).2))|| (!(Xa c))) then ((Xi c), [],false) else ((((Ya c (((Xy c.1 f)).1) c.2.1 (Vn c.2.1 (((Xh c.1 f.1)).1) f))).1),((Ya c (((Xy c.1 f)).1) c.2.1 (Vn c.2.1 (((Xh c.1 f.1)).1) f))).2.1,((Ya c (((Xy c.1 f)).1) c.2.1 (Vn c.2.1 (((Xh c.1 f.1)).1) f))).2.2))
theorem ZW (c:Xj) (f:Xx):ACalls Tryz.prog 128 [.a [.h c.1.1,.h c.1.2.1,.i c.1.2.2,.h c.2.1,.h c.2.2],.a [.i f.1,.i f.2.1,.b f.2.2.1,.i f.2.2.2.1,.h f.2.2.2.2]] (.tup [(true, [.o 0 ((((Jg c f)).1).1.1),.o 1 ((((Jg c f)).1).1.2.1),.i ((((Jg c f)).1).1.2.2),.o 2 ((((Jg c f)).1).2.1),.o 3 ((((Jg c f)).1).2.2)]),(false, [.o 4 (((Jg c f)).2.1)]),(false, [.b (((Jg c f)).2.2)])]):=by
 refine en Qa Tryz.func128 λw0 F0 hG=> ?_
 refine sn Qa [2,3,4,5,6] [2,3,4] p0 <| tn Qa [2,3,4,5,6,7,8] [2,3,4,7] (pc 3 (YO c.1 f) p0) <| Qc <| Qc <| mz [(2,.p 2 0),(3,.p 3 0),(4,.p 4 0),(5,.e 0),(6,.b false),(7,.p 7 0),(8,.b (((Xy c.1 f)).2))] [0,1] [(2, [.h c.1.1,.h c.1.2.1,.i c.1.2.2,.h c.2.1,.h c.2.2]),(3, [.i f.1,.i f.2.1,.b f.2.2.1,.i f.2.2.2.1,.h f.2.2.2.2]),(4, [.e 2,.e 5,.i 0,.e 2,.e 2]),(7, [.o 960 ((((Xy c.1 f)).1).1),.o 961 ((((Xy c.1 f)).1).2.1),.i ((((Xy c.1 f)).1).2.2)])] [] <| jn [(24,.b ((!(((Xy c.1 f)).2))|| (!(Xa c))))] [8] [] [] (!(((Xy c.1 f)).2)) (λh1=> ?_) (λh1=> ?_) ?_
 ·have h1n:(((Xy c.1 f)).2)=false:=Vp h1;refine ru Qa [(24,.b true)] [8] [] [] (pf 0 h1n (pe 1 (show .b (!false)= .b true from rfl) p0)) ?_;exact zA (by rw[h1]<;>kernel_rfl)
 ·have h1n:(((Xy c.1 f)).2)=true:=Zc h1;have h1nr:=BT h1n;have h1nf:=BS h1nr.1 f.1;refine rn Qa [2,3,4,5,6,7,24] [2,3,4,7] (pt 0 h1n (pe 1 (show .b (!true)= .b false from rfl) (pc 4 (Ur c) p0))) ?_;exact zA (by rw[h1]<;>kernel_rfl)
 refine ck ((!(((Xy c.1 f)).2))|| (!(Xa c))) (λh2=> ?_) (λh2=> ?_)
 ·refine sn Qa [2,3,4,5,6,7] [2,3,4,7] (pc 1 (Z5 c) p0) <| opn [(false,5,0,true,384000,3)] ?_
  exact Qh <| pz [] (show Jg c f=_ from Xm h2 (rfl)) (λz=> .tup [(true, [.o 0 z.1.1.1,.o 1 z.1.1.2.1,.i z.1.1.2.2,.o 2 z.1.2.1,.o 3 z.1.2.2]),(false, [.o 4 z.2.1]),(false, [.b z.2.2])])
 have h2l:((!(((Xy c.1 f)).2)))=false:=Rw h2;have h2ln:(((Xy c.1 f)).2)=true:=Zc h2l;have h2lnr:=BT h2ln;have h2lnf:=BS h2lnr.1 f.1;have h2r:((!(Xa c)))=false:=Pr h2;have h2rn:(Xa c)=true:=Zc h2r;have h2rnc:=Wz h2rn;exact Qe <| sn Qa [2,3,4,5,6,7,9] [2,3,4,7,9] (pc 4 (M9 c.1 f.1) p0) <| tN Qa Zt [4,5,6] [4] (pc 8 (XB c.2.1 (((Xh c.1 f.1)).1) f (by omega) (by omega)) (pc 9 (Cp c (((Xy c.1 f)).1) c.2.1 (Vn c.2.1 (((Xh c.1 f.1)).1) f)) p0)) <| Qh <| pz [] (show Jg c f=_ from Qn h2 (rfl)) (λz=> .tup [(true, [.o 0 z.1.1.1,.o 1 z.1.1.2.1,.i z.1.1.2.2,.o 2 z.1.2.1,.o 3 z.1.2.2]),(false, [.o 4 z.2.1]),(false, [.b z.2.2])])
def Jh (c:Xj) (id:Int):Xj×(List Ef)×Bool:=(bif ((!(((Yu c.1 id)).2))|| (!(Xa c))) then ((Xi c), [],false) else ((((Ya c (((Yu c.1 id)).1) c.2.1 (Yv c.2.1))).1),((Ya c (((Yu c.1 id)).1) c.2.1 (Yv c.2.1))).2.1,((Ya c (((Yu c.1 id)).1) c.2.1 (Yv c.2.1))).2.2))
theorem ZX (c:Xj) (id:Int):ACalls Tryz.prog 129 [.a [.h c.1.1,.h c.1.2.1,.i c.1.2.2,.h c.2.1,.h c.2.2],.i id] (.tup [(true, [.o 0 ((((Jh c id)).1).1.1),.o 1 ((((Jh c id)).1).1.2.1),.i ((((Jh c id)).1).1.2.2),.o 2 ((((Jh c id)).1).2.1),.o 3 ((((Jh c id)).1).2.2)]),(false, [.o 4 (((Jh c id)).2.1)]),(false, [.b (((Jh c id)).2.2)])]):=by
 refine en Qa Tryz.func129 λw0 F0 hG=> ?_
 refine sn Qa [1,2,4,5,6] [2,4] p0 <| tn Qa [2,4,5,6,7,8] [2,4,7] (pc 3 (ZS c.1 id) p0) <| Qc <| Qc <| mz [(2,.p 2 0),(4,.p 4 0),(5,.e 0),(6,.b false),(7,.p 7 0),(8,.b (((Yu c.1 id)).2))] [0,1] [(2, [.h c.1.1,.h c.1.2.1,.i c.1.2.2,.h c.2.1,.h c.2.2]),(4, [.e 2,.e 5,.i 0,.e 2,.e 2]),(7, [.h ((((Yu c.1 id)).1).1),.h ((((Yu c.1 id)).1).2.1),.i ((((Yu c.1 id)).1).2.2)])] [] <| jn [(22,.b ((!(((Yu c.1 id)).2))|| (!(Xa c))))] [8] [] [] (!(((Yu c.1 id)).2)) (λh1=> ?_) (λh1=> ?_) ?_
 ·have h1n:(((Yu c.1 id)).2)=false:=Vp h1;refine ru Qa [(22,.b true)] [8] [] [] (pf 0 h1n (pe 1 (show .b (!false)= .b true from rfl) p0)) ?_;exact zA (by rw[h1]<;>kernel_rfl)
 ·have h1n:(((Yu c.1 id)).2)=true:=Zc h1;refine rn Qa [2,4,5,6,7,22] [2,4,7] (pt 0 h1n (pe 1 (show .b (!true)= .b false from rfl) (pc 4 (Ur c) p0))) ?_;exact zA (by rw[h1]<;>kernel_rfl)
 refine ck ((!(((Yu c.1 id)).2))|| (!(Xa c))) (λh2=> ?_) (λh2=> ?_)
 ·refine sn Qa [2,4,5,6,7] [2,4,7] (pc 1 (Z5 c) p0) <| opn [(false,5,0,true,384000,3)] ?_
  exact Qh <| pz [] (show Jh c id=_ from Xm h2 (rfl)) (λz=> .tup [(true, [.o 0 z.1.1.1,.o 1 z.1.1.2.1,.i z.1.1.2.2,.o 2 z.1.2.1,.o 3 z.1.2.2]),(false, [.o 4 z.2.1]),(false, [.b z.2.2])])
 have h2r:((!(Xa c)))=false:=Pr h2;have h2rn:(Xa c)=true:=Zc h2r;have h2rnc:=Wz h2rn;exact Qe <| sN Qa Zt [4,5,6] [4] (pc 6 (Gy c.2.1) (pc 7 (Cp c (((Yu c.1 id)).1) c.2.1 (Yv c.2.1)) p0)) <| Qh <| pz [] (show Jh c id=_ from Qn h2 (rfl)) (λz=> .tup [(true, [.o 0 z.1.1.1,.o 1 z.1.1.2.1,.i z.1.1.2.2,.o 2 z.1.2.1,.o 3 z.1.2.2]),(false, [.o 4 z.2.1]),(false, [.b z.2.2])])
def J4 (c:Xj) (x:Yc):Xj×(List Ef)×Bool:=(bif ((!(((Yr c.2.1 x)).2))|| ((!(Xa c))|| (!(Kc (((Yr c.2.1 x)).1))))) then ((Xi c), [],false) else ((((Ya c c.1 (((Yr c.2.1 x)).1) (X8 (((Yr c.2.1 x)).1) [x.1]))).1),((Ya c c.1 (((Yr c.2.1 x)).1) (X8 (((Yr c.2.1 x)).1) [x.1]))).2.1,((Ya c c.1 (((Yr c.2.1 x)).1) (X8 (((Yr c.2.1 x)).1) [x.1]))).2.2))
theorem WO (c:Xj) (x:Yc) (hp:zD c.2.1<1073741000):ACalls Tryz.prog 130 [.a [.h c.1.1,.h c.1.2.1,.i c.1.2.2,.h c.2.1,.h c.2.2],.a [.s x.1,.h x.2]] (.tup [(true, [.o 0 ((((J4 c x)).1).1.1),.o 1 ((((J4 c x)).1).1.2.1),.i ((((J4 c x)).1).1.2.2),.o 2 ((((J4 c x)).1).2.1),.o 3 ((((J4 c x)).1).2.2)]),(false, [.o 4 (((J4 c x)).2.1)]),(false, [.b (((J4 c x)).2.2)])]):=by
 refine en Qa Tryz.func130 λw0 F0 hG=> ?_
 refine sn Qa [2,3,4,5,6] [2,3,4] p0 <| tn Qa [2,3,4,5,6,7,8] [2,3,4] (pc 3 (GQ c.2.1 x (by first|omega|(simp;omega))) p0) <| Qc <| Qc <| mz [(2,.p 2 0),(3,.p 3 0),(4,.p 4 0),(5,.e 0),(6,.b false),(7,.h (((Yr c.2.1 x)).1)),(8,.b (((Yr c.2.1 x)).2))] [0,1] [(2, [.h c.1.1,.h c.1.2.1,.i c.1.2.2,.h c.2.1,.h c.2.2]),(3, [.s x.1,.h x.2]),(4, [.e 2,.e 5,.i 0,.e 2,.e 2])] [] <| jn [(27,.b ((!(((Yr c.2.1 x)).2))|| ((!(Xa c))|| (!(Kc (((Yr c.2.1 x)).1))))))] [8] [] [] (!(((Yr c.2.1 x)).2)) (λh1=> ?_) (λh1=> ?_) ?_
 ·have h1n:(((Yr c.2.1 x)).2)=false:=Vp h1;refine ru Qa [(27,.b true)] [8] [] [] (pf 0 h1n (pe 1 (show .b (!false)= .b true from rfl) p0)) ?_;exact zA (by rw[h1]<;>kernel_rfl)
 ·have h1n:(((Yr c.2.1 x)).2)=true:=Zc h1;refine Yj (!(Xa c)) (λh2=> ?_) (λh2=> ?_)
  ·have h2n:(Xa c)=false:=Vp h2;refine ru Qa [(27,.b true)] [8] [] [] (pt 0 h1n (pe 1 (show .b (!true)= .b false from rfl) (pc 4 (cb h2n (Ur c)) (pe 5 (show .b (!false)= .b true from rfl) p0)))) ?_;exact zA (by rw[h1,h2]<;>kernel_rfl)
  have h2n:(Xa c)=true:=Zc h2;have h2nc:=Wz h2n;refine rn Qa [2,3,4,5,6,7,27] [2,3,4] (pt 0 h1n (pe 1 (show .b (!true)= .b false from rfl) (pc 4 (cb h2n (Ur c)) (pe 5 (show .b (!true)= .b false from rfl) (pc 9 (QW (((Yr c.2.1 x)).1)) p0))))) ?_;exact zA (by rw[h1,h2]<;>kernel_rfl)
 refine ck ((!(((Yr c.2.1 x)).2))|| ((!(Xa c))|| (!(Kc (((Yr c.2.1 x)).1))))) (λh3=> ?_) (λh3=> ?_)
 ·refine sn Qa [2,3,4,5,6,7] [2,3,4] (pc 1 (Z5 c) p0) <| opn [(false,5,0,true,384000,3)] ?_
  exact Qh <| pz [] (show J4 c x=_ from Xm h3 (rfl)) (λz=> .tup [(true, [.o 0 z.1.1.1,.o 1 z.1.1.2.1,.i z.1.1.2.2,.o 2 z.1.2.1,.o 3 z.1.2.2]),(false, [.o 4 z.2.1]),(false, [.b z.2.2])])
 have h3r:(((!(Xa c))|| (!(Kc (((Yr c.2.1 x)).1)))))=false:=Pr h3;have h3rl:((!(Xa c)))=false:=Rw h3r;have h3rln:(Xa c)=true:=Zc h3rl;have h3rlnc:=Wz h3rln;have h3rr:((!(Kc (((Yr c.2.1 x)).1))))=false:=Pr h3r;have h3rrn:(Kc (((Yr c.2.1 x)).1))=true:=Zc h3rr;have h3rrnc:=GP h3rrn;exact Qe <| sN Qa Zt [4,5,6] [4] (pc 8 (Ac (((Yr c.2.1 x)).1) [x.1] (by first|omega|(simp;omega))) (pc 9 (Cp c c.1 (((Yr c.2.1 x)).1) (X8 (((Yr c.2.1 x)).1) [x.1])) p0)) <| Qh <| pz [] (show J4 c x=_ from Qn h3 (rfl)) (λz=> .tup [(true, [.o 0 z.1.1.1,.o 1 z.1.1.2.1,.i z.1.1.2.2,.o 2 z.1.2.1,.o 3 z.1.2.2]),(false, [.o 4 z.2.1]),(false, [.b z.2.2])])
def W8 (f:Xx) (user:Int):Bool:=((Ve user)&&(f.2.1==user))
theorem Na (f:Xx) (user:Int):ACalls Tryz.prog 127 [.a [.i f.1,.i f.2.1,.b f.2.2.1,.i f.2.2.2.1,.h f.2.2.2.2],.i user] (.b (W8 f user)):=by
 refine en Qa Tryz.func127 λw0 F0 hG=> ?_
 refine sn Qa [1,2,4] [2] p0 <| Qc <| mz [(2,.p 2 0),(4,.b false)] [0] [(2, [.i f.1,.i f.2.1,.b f.2.2.1,.i f.2.2.2.1,.h f.2.2.2.2])] [] <| jn [(4,.b ((Ve user)&&(f.2.1==user)))] [1,2,4] [] [2] (Ve user) (λh1=> ?_) (λh1=> ?_) ?_
 ·refine rn Qa [4] [] (pc 1 (cb h1 (Ck user)) p0) ?_;exact zA (by rw[h1]<;>kernel_rfl)
 ·refine rn Qa [4] [] (pc 1 (cb h1 (Ck user)) p0) ?_;exact zA (by rw[h1]<;>kernel_rfl)
 exact Qh <| pb [] (show W8 f user=((Ve user)&&(f.2.1==user)) from rfl)
def Xz (c:Xj) (user:Int) (x:Kf):Xj×(List Ef)×Bool:=(bif ((!(Ve user))|| (!(Xa c))) then ((Xi c), [],false) else (bif (x.1==(1:Int)) then (bif (x.2.1.2.1==user) then ((((Jb c x.2.1)).1),((Jb c x.2.1)).2.2.1,((Jb c x.2.1)).2.2.2) else ((Xi c), [],false)) else (bif (x.1==(2:Int)) then (bif (((Xh c.1 x.2.1.1)).2&&((W8 (((Xh c.1 x.2.1.1)).1) user)&&(x.2.1.2.1==user))) then ((((Jg c x.2.1)).1),((Jg c x.2.1)).2.1,((Jg c x.2.1)).2.2) else ((Xi c), [],false)) else (bif (x.1==(3:Int)) then (bif (((Xh c.1 x.2.2.1)).2&&(W8 (((Xh c.1 x.2.2.1)).1) user)) then ((((Jh c x.2.2.1)).1),((Jh c x.2.2.1)).2.1,((Jh c x.2.2.1)).2.2) else ((Xi c), [],false)) else (bif (x.1==(4:Int)) then ((((J4 c x.2.2.2)).1),((J4 c x.2.2.2)).2.1,((J4 c x.2.2.2)).2.2) else (bif (x.1==(5:Int)) then (bif ((Zj c.2.1 x.2.2.2.1)).2 then ((((Ya c c.1 (((Zj c.2.1 x.2.2.2.1)).1) (X8 c.2.1 [x.2.2.2.1]))).1),((Ya c c.1 (((Zj c.2.1 x.2.2.2.1)).1) (X8 c.2.1 [x.2.2.2.1]))).2.1,((Ya c c.1 (((Zj c.2.1 x.2.2.2.1)).1) (X8 c.2.1 [x.2.2.2.1]))).2.2) else ((Xi c), [],false)) else ((Xi c), [],false)))))))
theorem YQ (c:Xj) (user:Int) (x:Kf):ACalls Tryz.prog 71 [.a [.h c.1.1,.h c.1.2.1,.i c.1.2.2,.h c.2.1,.h c.2.2],.i user,.a [.i x.1,.i x.2.1.1,.i x.2.1.2.1,.b x.2.1.2.2.1,.i x.2.1.2.2.2.1,.h x.2.1.2.2.2.2,.i x.2.2.1,.s x.2.2.2.1,.h x.2.2.2.2]] (.tup [(true, [.o 0 ((((Xz c user x)).1).1.1),.o 1 ((((Xz c user x)).1).1.2.1),.i ((((Xz c user x)).1).1.2.2),.o 2 ((((Xz c user x)).1).2.1),.o 3 ((((Xz c user x)).1).2.2)]),(false, [.o 4 (((Xz c user x)).2.1)]),(false, [.b (((Xz c user x)).2.2)])]):=by
 refine en Qa Tryz.func71 λw0 F0 hG=> ?_
 refine sn Qa [1,3,5,6,7,8] [3,5,6] p0 <| Qc <| Qc <| mz [(3,.p 3 0),(5,.p 5 0),(6,.p 6 0),(7,.e 0),(8,.b false)] [0,2] [(3, [.h c.1.1,.h c.1.2.1,.i c.1.2.2,.h c.2.1,.h c.2.2]),(5, [.i x.1,.i x.2.1.1,.i x.2.1.2.1,.b x.2.1.2.2.1,.i x.2.1.2.2.2.1,.h x.2.1.2.2.2.2,.i x.2.2.1,.s x.2.2.2.1,.h x.2.2.2.2]),(6, [.e 2,.e 5,.i 0,.e 2,.e 2])] [] <| jn [(26,.b ((!(Ve user))|| (!(Xa c))))] [] [] [] (!(Ve user)) (λh1=> ?_) (λh1=> ?_) ?_
 ·have h1n:(Ve user)=false:=Vp h1;refine ru Qa [(26,.b true)] [] [] [] (pc 1 (cb h1n (Ck user)) (pe 2 (show .b (!false)= .b true from rfl) p0)) ?_;exact zA (by rw[h1]<;>kernel_rfl)
 ·have h1n:(Ve user)=true:=Zc h1;refine rn Qa [1,3,5,6,7,8,26] [3,5,6] (pc 1 (cb h1n (Ck user)) (pe 2 (show .b (!true)= .b false from rfl) (pc 5 (Ur c) p0))) ?_;exact zA (by rw[h1]<;>kernel_rfl)
 refine ck ((!(Ve user))|| (!(Xa c))) (λh2=> ?_) (λh2=> ?_)
 ·refine sn Qa [1,3,5,6,7,8] [3,5,6] (pc 1 (Z5 c) p0) <| opn [(false,7,0,true,384000,3)] ?_
  exact Qh <| pz [] (show Xz c user x=_ from Xm h2 (rfl)) (λz=> .tup [(true, [.o 0 z.1.1.1,.o 1 z.1.1.2.1,.i z.1.1.2.2,.o 2 z.1.2.1,.o 3 z.1.2.2]),(false, [.o 4 z.2.1]),(false, [.b z.2.2])])
 have h2r:((!(Xa c)))=false:=Pr h2;have h2rn:(Xa c)=true:=Zc h2r;have h2rnc:=Wz h2rn;refine Qe <| Qc <| su Qa [(30,.i x.1)] [26] [] [] p0 <| Qt <| sn Qa [1,3,5,6,7,8,30,31] [3,5,6] p0 <| ck (x.1==(1:Int)) (λh3=> ?_) (λh3=> ?_)
 ·refine tn Qa [3,5,6,7,8,37] [3,5,6] p0 <| ck (x.2.1.2.1==user) (λh4=> ?_) (λh4=> ?_)
  ·exact tu Qa [(9,.p 9 0),(11,.o 2692 (((Jb c x.2.1)).2.2.1)),(12,.b (((Jb c x.2.1)).2.2.2))] [1,5,30] [(9, [.o 2688 ((((Jb c x.2.1)).1).1.1),.o 2689 ((((Jb c x.2.1)).1).1.2.1),.i ((((Jb c x.2.1)).1).1.2.2),.o 2690 ((((Jb c x.2.1)).1).2.1),.o 2691 ((((Jb c x.2.1)).1).2.2)])] [5] (pc 3 (DS c x.2.1) p0) <| sn Qa [3,6,7,8] [3,6] p0 <| Qh <| pz [] (show Xz c user x=_ from Qn h2 (Xm h3 (Xm h4 (rfl)))) (λz=> .tup [(true, [.o 0 z.1.1.1,.o 1 z.1.1.2.1,.i z.1.1.2.2,.o 2 z.1.2.1,.o 3 z.1.2.2]),(false, [.o 4 z.2.1]),(false, [.b z.2.2])])
  refine Qe <| tu Qa [] [1,3,5,30] [(6, [.o 9024 ((Xi c).1.1),.o 9025 ((Xi c).1.2.1),.i ((Xi c).1.2.2),.o 9026 ((Xi c).2.1),.o 9027 ((Xi c).2.2)])] [3,5,6] (pc 1 (Z5 c) p0) <| opn [(false,7,0,true,384000,3)] ?_
  exact Qh <| pz [] (show Xz c user x=_ from Qn h2 (Xm h3 (Qn h4 (rfl)))) (λz=> .tup [(true, [.o 0 z.1.1.1,.o 1 z.1.1.2.1,.i z.1.1.2.2,.o 2 z.1.2.1,.o 3 z.1.2.2]),(false, [.o 4 z.2.1]),(false, [.b z.2.2])])
 have h3d:=Z7 h3;refine tn Qa [1,3,5,6,7,8,30,50] [3,5,6] p0 <| ck (x.1==(2:Int)) (λh5=> ?_) (λh5=> ?_)
 ·refine tu Qa [(13,.p 13 0),(14,.b (((Xh c.1 x.2.1.1)).2))] [30] [(13, [.i ((((Xh c.1 x.2.1.1)).1).1),.i ((((Xh c.1 x.2.1.1)).1).2.1),.b ((((Xh c.1 x.2.1.1)).1).2.2.1),.i ((((Xh c.1 x.2.1.1)).1).2.2.2.1),.o 3712 ((((Xh c.1 x.2.1.1)).1).2.2.2.2)])] [] (pc 5 (M9 c.1 x.2.1.1) p0) <| Qc <| jn [(73,.b (((Xh c.1 x.2.1.1)).2&&((W8 (((Xh c.1 x.2.1.1)).1) user)&&(x.2.1.2.1==user))))] [1,13,14] [] [13] (((Xh c.1 x.2.1.1)).2) (λh6=> ?_) (λh6=> ?_) ?_
  ·refine Yj (W8 (((Xh c.1 x.2.1.1)).1) user) (λh7=> ?_) (λh7=> ?_)
   ·refine rn Qa [3,5,6,7,8,73] [3,5,6] (pt 0 h6 (pc 4 (cb h7 (Na (((Xh c.1 x.2.1.1)).1) user)) p0)) ?_;exact zA (by rw[h6,h7]<;>kernel_rfl)
   refine rn Qa [3,5,6,7,8,73] [3,5,6] (pt 0 h6 (pc 4 (cb h7 (Na (((Xh c.1 x.2.1.1)).1) user)) p0)) ?_;exact zA (by rw[h6,h7]<;>kernel_rfl)
  ·refine rn Qa [3,5,6,7,8,73] [3,5,6] (pf 0 h6 p0) ?_;exact zA (by rw[h6]<;>kernel_rfl)
  refine ck (((Xh c.1 x.2.1.1)).2&&((W8 (((Xh c.1 x.2.1.1)).1) user)&&(x.2.1.2.1==user))) (λh8=> ?_) (λh8=> ?_)
  ·exact sn Qa [3,6,7,8] [3,6] (pc 3 (ZW c x.2.1) p0) <| Qh <| pz [] (show Xz c user x=_ from Qn h2 (Qn h3 (Xm h5 (Xm h8 (rfl))))) (λz=> .tup [(true, [.o 0 z.1.1.1,.o 1 z.1.1.2.1,.i z.1.1.2.2,.o 2 z.1.2.1,.o 3 z.1.2.2]),(false, [.o 4 z.2.1]),(false, [.b z.2.2])])
  refine Qe <| sn Qa [6,7,8] [6] (pc 1 (Z5 c) p0) <| opn [(false,7,0,true,384000,3)] ?_
  exact Qh <| pz [] (show Xz c user x=_ from Qn h2 (Qn h3 (Xm h5 (Qn h8 (rfl))))) (λz=> .tup [(true, [.o 0 z.1.1.1,.o 1 z.1.1.2.1,.i z.1.1.2.2,.o 2 z.1.2.1,.o 3 z.1.2.2]),(false, [.o 4 z.2.1]),(false, [.b z.2.2])])
 have h5d:=Z7 h5;refine tu Qa [(81,.b (x.1==(3:Int)))] [] [] [] p0 <| ck (x.1==(3:Int)) (λh9=> ?_) (λh9=> ?_)
 ·refine sn Qa [1,3,5,6,7,8,15,16] [3,5,6,15] (pc 4 (M9 c.1 x.2.2.1) p0) <| Qc <| mz [(15,.p 15 0),(16,.b (((Xh c.1 x.2.2.1)).2))] [30,81] [(15, [.i ((((Xh c.1 x.2.2.1)).1).1),.i ((((Xh c.1 x.2.2.1)).1).2.1),.b ((((Xh c.1 x.2.2.1)).1).2.2.1),.i ((((Xh c.1 x.2.2.1)).1).2.2.2.1),.o 5632 ((((Xh c.1 x.2.2.1)).1).2.2.2.2)])] [] <| jn [(96,.b (((Xh c.1 x.2.2.1)).2&&(W8 (((Xh c.1 x.2.2.1)).1) user)))] [1,15,16] [] [15] (((Xh c.1 x.2.2.1)).2) (λh10=> ?_) (λh10=> ?_) ?_
  ·refine rn Qa [3,5,6,7,8,96] [3,5,6] (pt 0 h10 (pc 4 (Na (((Xh c.1 x.2.2.1)).1) user) p0)) ?_;exact zA (by rw[h10]<;>kernel_rfl)
  ·refine rn Qa [3,5,6,7,8,96] [3,5,6] (pf 0 h10 p0) ?_;exact zA (by rw[h10]<;>kernel_rfl)
  refine ck (((Xh c.1 x.2.2.1)).2&&(W8 (((Xh c.1 x.2.2.1)).1) user)) (λh11=> ?_) (λh11=> ?_)
  ·exact sn Qa [3,6,7,8] [3,6] (pc 3 (ZX c x.2.2.1) p0) <| Qh <| pz [] (show Xz c user x=_ from Qn h2 (Qn h3 (Qn h5 (Xm h9 (Xm h11 (rfl)))))) (λz=> .tup [(true, [.o 0 z.1.1.1,.o 1 z.1.1.2.1,.i z.1.1.2.2,.o 2 z.1.2.1,.o 3 z.1.2.2]),(false, [.o 4 z.2.1]),(false, [.b z.2.2])])
  refine Qe <| sn Qa [6,7,8] [6] (pc 1 (Z5 c) p0) <| opn [(false,7,0,true,384000,3)] ?_
  exact Qh <| pz [] (show Xz c user x=_ from Qn h2 (Qn h3 (Qn h5 (Xm h9 (Qn h11 (rfl)))))) (λz=> .tup [(true, [.o 0 z.1.1.1,.o 1 z.1.1.2.1,.i z.1.1.2.2,.o 2 z.1.2.1,.o 3 z.1.2.2]),(false, [.o 4 z.2.1]),(false, [.b z.2.2])])
 have h9d:=Z7 h9;refine sn Qa [3,5,6,7,8,30,104] [3,5,6] p0 <| ck (x.1==(4:Int)) (λh12=> ?_) (λh12=> ?_)
 ·have h12d:=eq_of_beq h12;exact tn Qa [3,6,7,8] [3,6] (pc 3 (WO c x.2.2.2 (by first|omega|(simp;omega))) p0) <| Qh <| pz [] (show Xz c user x=_ from Qn h2 (Qn h3 (Qn h5 (Qn h9 (Xm h12 (rfl)))))) (λz=> .tup [(true, [.o 0 z.1.1.1,.o 1 z.1.1.2.1,.i z.1.1.2.2,.o 2 z.1.2.1,.o 3 z.1.2.2]),(false, [.o 4 z.2.1]),(false, [.b z.2.2])])
 have h12d:=Z7 h12;refine tn Qa [3,5,6,7,8,113] [3,5,6] p0 <| ck (x.1==(5:Int)) (λh13=> ?_) (λh13=> ?_)
 ·have h13d:=eq_of_beq h13;refine tu Qa [(17,.h (((Zj c.2.1 x.2.2.2.1)).1)),(18,.b (((Zj c.2.1 x.2.2.2.1)).2))] [1,30,81] [] [] (pc 5 (WM c.2.1 x.2.2.2.1) p0) <| sn Qa [3,5,6,7,8,17,124] [3,5,6] p0 <| ck (((Zj c.2.1 x.2.2.2.1)).2) (λh14=> ?_) (λh14=> ?_)
  ·exact tN Qa Zt [3,6,7,8] [3,6] (pc 10 (Ac c.2.1 [x.2.2.2.1] (by first|omega|(simp;omega))) (pc 11 (Cp c c.1 (((Zj c.2.1 x.2.2.2.1)).1) (X8 c.2.1 [x.2.2.2.1])) p0)) <| Qh <| pz [] (show Xz c user x=_ from Qn h2 (Qn h3 (Qn h5 (Qn h9 (Qn h12 (Xm h13 (Xm h14 (rfl)))))))) (λz=> .tup [(true, [.o 0 z.1.1.1,.o 1 z.1.1.2.1,.i z.1.1.2.2,.o 2 z.1.2.1,.o 3 z.1.2.2]),(false, [.o 4 z.2.1]),(false, [.b z.2.2])])
  refine Qe <| tn Qa [6,7,8] [6] (pc 1 (Z5 c) p0) <| opn [(false,7,0,true,384000,3)] ?_
  exact Qh <| pz [] (show Xz c user x=_ from Qn h2 (Qn h3 (Qn h5 (Qn h9 (Qn h12 (Xm h13 (Qn h14 (rfl)))))))) (λz=> .tup [(true, [.o 0 z.1.1.1,.o 1 z.1.1.2.1,.i z.1.1.2.2,.o 2 z.1.2.1,.o 3 z.1.2.2]),(false, [.o 4 z.2.1]),(false, [.b z.2.2])])
 refine Qe <| tu Qa [] [1,3,5,30,81] [(6, [.o 9024 ((Xi c).1.1),.o 9025 ((Xi c).1.2.1),.i ((Xi c).1.2.2),.o 9026 ((Xi c).2.1),.o 9027 ((Xi c).2.2)])] [3,5,6] (pc 1 (Z5 c) p0) <| opn [(false,7,0,true,384000,3)] ?_
 exact Qh <| pz [] (show Xz c user x=_ from Qn h2 (Qn h3 (Qn h5 (Qn h9 (Qn h12 (Qn h13 (rfl))))))) (λz=> .tup [(true, [.o 0 z.1.1.1,.o 1 z.1.1.2.1,.i z.1.1.2.2,.o 2 z.1.2.1,.o 3 z.1.2.2]),(false, [.o 4 z.2.1]),(false, [.b z.2.2])])
open GoE (enc wide)
def Qr (f:Xx):Xx:=f
theorem I9 (f:Xx):ACalls Tryz.prog 148 [.a [.i f.1,.i f.2.1,.b f.2.2.1,.i f.2.2.2.1,.h f.2.2.2.2]] (.a [.i ((Qr f).1),.i ((Qr f).2.1),.b ((Qr f).2.2.1),.i ((Qr f).2.2.2.1),.o 0 ((Qr f).2.2.2.2)]):=by
 refine en Qa Tryz.func148 λw0 F0 hG=> ?_
 refine sn Qa [1,2] [1,2] p0 <| wB 1 4 .sh f.2.2.2.2 (λhw1 hl2=> ?_)
 exact tn Qa [1,2] [1,2] (po 3 (.flat) (px (Ga (n:=(([]:List (List PV)).length+((eL f.2.2.2.2):List (List PV)).length)) (Iu (rfl) (Zs f.2.2.2.2) (by first|omega|(simp only[zT,xF];omega) | (simp;omega) | simp))) (px (Ec (Df f.2.2.2.2)) p0))) <| tu Qa [(2,.p 2 0)] [0] [(2, [.i f.1,.i f.2.1,.b f.2.2.1,.i f.2.2.2.1,.o 384 f.2.2.2.2])] [] p0 <| Qh <| pz [] (show Qr f=f from rfl) (λz=> .a [.i z.1,.i z.2.1,.b z.2.2.1,.i z.2.2.2.1,.o 0 z.2.2.2.2])
def Dw (_:Nat) (a0:Xx) (s0:List Xx):Rd (Xr) (List Xx) (List Xx):=(.next (s0++ [(Qr a0)]))
def Dx (_:Nat) (s0:List Xx):(List Xx):=s0
def Qf (s_:Xr):Xr:=(Out.on (X7 Dw Dx s_.2.1 0 []) (λy0=>(s_.1,y0,s_.2.2)))
theorem La (s_:Xr):ACalls Tryz.prog 95 [.a [.h s_.1,.h s_.2.1,.i s_.2.2]] (.a [.o 0 ((Qf s_).1),.o 1 ((Qf s_).2.1),.i ((Qf s_).2.2)]):=by
 refine en Qa Tryz.func95 λw0 F0 hG=> ?_
 refine sn Qa [1,2] [1,2] p0 <| wB 1 0 .sh s_.1 (λhw1 hl2=> ?_)
 refine tN Qa Zt [1,2,3] [1,2,3] (po 3 (.flat) (px (Ga (n:=(([]:List (List PV)).length+((eL s_.1):List (List PV)).length)) (Iu (rfl) (Zs s_.1) (by first|omega|(simp only[zT,xF];omega) | (simp;omega) | simp))) (px (Ec (Df s_.1)) p0))) <| Qc <| tu Qa [(1,.p 1 0),(2,.p 2 0),(3,.p 3 0),(4,.i 0)] [0] [(1, [.h s_.1,.h s_.2.1,.i s_.2.2]),(2, [.e 2,.e 5,.i 0]),(3, [.o 512 s_.1,.e 5,.i s_.2.2])] [] p0 <| wB 1 1 .sh s_.2.1 (λhw3 hl4=> ?_)
 refine SK Dw Dx s_.2.1 [] (λk0 _=> [(4,.i (k0:Int))]) [4] (λ_ s0=> [(3, [.o 512 s_.1,.o 147211 s0,.i s_.2.2])]) [3] (λ_=> []) [1,4] (λy0=> [(3, [.o 512 s_.1,.o 147361 y0,.i s_.2.2])]) [1,3] (λk0 s0=>zD s0<=k0) (Oe [(true,3,1,true,320008,5)] [] [] [(320008,147211)] (by kernel_rfl)) (by simp) (λk0 s0 hk0 U=> ?_) (λk0 s0 hk0 U=> ?_) (λy0 hD0=> ?_)
 ·have hA0_0:=U.2;obtain ⟨a0,V⟩:=Xs (l:=s_.2.1) (i:=k0) hk0;refine Qc <| su Qa [(16,.b true)] [] [] [] (pl 3 s_.2.1 (pe 4 (zB ((k0:Int)<(s_.2.1.length:Int))) p0)) <| ckT <| Qe <| Qc <| Qt <| wB 3 1 (.own true 147211) s0 (λhw5 hl6=> ?_)
  refine rU Qa Zt [] [16] [(3, [.o 512 s_.1,.slc (.own true 1792) 5 ((eL s0)++ [[.i ((Qr a0).1),.i ((Qr a0).2.1),.b ((Qr a0).2.2.1),.i ((Qr a0).2.2.2.1),.h ((Qr a0).2.2.2.2)]]),.i s_.2.2])] [3] (pn 5 V (pc 7 (I9 a0) (pa s0 [(Qr a0)] p0))) ?_;refine eqn [] [] [(3, [.o 512 s_.1,.o 1792 (s0++ [(Qr a0)]),.i s_.2.2])] [3] (by rw[show ((eL s0)++ [[.i ((Qr a0).1),.i ((Qr a0).2.1),.b ((Qr a0).2.2.1),.i ((Qr a0).2.2.2.1),.h ((Qr a0).2.2.2.2)]])=(eL (s0++ [(Qr a0)])) from We (rfl) (rfl)];first | done | kernel_rfl) ?_;refine rn Qa [1,2,3,4] [1,2,3] (pe 1 (J6 (Ql k0 (by omega))) p0) ?_;exact zE (s0++ [(Qr a0)]) (zH (X4 [(1792,147211)] (by kernel_rfl)) ⟨Qp V (rfl) U.1,by first|omega|(simp;omega) | simp⟩)
 ·have hA0_0:=U.2;exact Qc <| su Qa [(16,.b false)] [] [] [] (pl 3 s_.2.1 (pe 4 (zC ((k0:Int)<(s_.2.1.length:Int))) p0)) <| ckF <| Q9 <| zE _ (zH (X4 [(147211,147361)] (by kernel_rfl)) (Xt hk0 (rfl) U.1))
 exact sn Qa [2] [2] p0 <| Qh <| pz [] (show Qf s_=_ from Uc hD0 (rfl)) (λz=> .a [.o 0 z.1,.o 1 z.2.1,.i z.2.2])
def Yl (s_:Xr) (f:Xx):Xr×Int×Bool:=(bif ((!(Xf (Qf s_)))|| (decide ((((Qf s_).2.1).length:Int)>=(12:Int))|| (!(X9 ((Qf s_).1) ((Qf s_).2.2,(Qr f).2.1,(Qr f).2.2.1,(Qr f).2.2.2.1,(Qr f).2.2.2.2))))) then ((Qf s_),0,false) else (((Qf s_).1,(Qf s_).2.1++ [((Qf s_).2.2,(Qr f).2.1,(Qr f).2.2.1,(Qr f).2.2.2.1,(Qr f).2.2.2.2)],IntKind.i64.wrap ((Qf s_).2.2+1)),(Qf s_).2.2,true))
theorem ZY (s_:Xr) (f:Xx):ACalls Tryz.prog 151 [.a [.h s_.1,.h s_.2.1,.i s_.2.2],.a [.i f.1,.i f.2.1,.b f.2.2.1,.i f.2.2.2.1,.h f.2.2.2.2]] (.tup [(true, [.o 0 ((((Yl s_ f)).1).1),.o 1 ((((Yl s_ f)).1).2.1),.i ((((Yl s_ f)).1).2.2)]),(false, [.i (((Yl s_ f)).2.1)]),(false, [.b (((Yl s_ f)).2.2)])]):=by
 refine en Qa Tryz.func151 λw0 F0 hG=> ?_
 refine sn Qa [2,3,4,5,6] [2,3,4] p0 <| tn Qa [2,3,4,5,6] [2,3,4] (pc 1 (La s_) p0) <| tu Qa [(2,.p 2 0),(3,.p 3 0),(4,.p 4 0),(5,.i 0),(6,.b false)] [0,1] [(2, [.o 512 ((Qf s_).1),.o 513 ((Qf s_).2.1),.i ((Qf s_).2.2)]),(3, [.i ((Qr f).1),.i ((Qr f).2.1),.b ((Qr f).2.2.1),.i ((Qr f).2.2.2.1),.o 640 ((Qr f).2.2.2.2)]),(4, [.e 2,.e 5,.i 0])] [] (pc 1 (I9 f) p0) <| sn Qa [2,3,4,5,6] [2,3,4] p0 <| Qc <| Qc <| mz [] [] [(3, [.i ((Qf s_).2.2),.i ((Qr f).2.1),.b ((Qr f).2.2.1),.i ((Qr f).2.2.2.1),.o 640 ((Qr f).2.2.2.2)])] [3] <| jn [(29,.b ((!(Xf (Qf s_)))|| (decide ((((Qf s_).2.1).length:Int)>=(12:Int))|| (!(X9 ((Qf s_).1) ((Qf s_).2.2,(Qr f).2.1,(Qr f).2.2.1,(Qr f).2.2.2.1,(Qr f).2.2.2.2))))))] [] [] [] (!(Xf (Qf s_))) (λh1=> ?_) (λh1=> ?_) ?_
 ·have h1n:(Xf (Qf s_))=false:=Vp h1;refine ru Qa [(29,.b true)] [] [] [] (pc 1 (cb h1n (Kk (Qf s_))) (pe 2 (show .b (!false)= .b true from rfl) p0)) ?_;exact zA (by rw[h1]<;>kernel_rfl)
 ·have h1n:(Xf (Qf s_))=true:=Zc h1;refine Yj (decide ((((Qf s_).2.1).length:Int)>=(12:Int))) (λh2=> ?_) (λh2=> ?_)
  ·refine ru Qa [(29,.b true)] [] [] [] (pc 1 (cb h1n (Kk (Qf s_))) (pe 2 (show .b (!true)= .b false from rfl) (pl 6 ((Qf s_).2.1) (pt 7 h2 p0)))) ?_;exact zA (by rw[h1,h2]<;>kernel_rfl)
  refine rn Qa [2,3,4,5,6,29] [2,3,4] (pc 1 (cb h1n (Kk (Qf s_))) (pe 2 (show .b (!true)= .b false from rfl) (pl 6 ((Qf s_).2.1) (pf 7 h2 (pc 13 (Hp ((Qf s_).1) ((Qf s_).2.2,(Qr f).2.1,(Qr f).2.2.1,(Qr f).2.2.2.1,(Qr f).2.2.2.2)) p0))))) ?_;exact zA (by rw[h1,h2]<;>kernel_rfl)
 refine ck ((!(Xf (Qf s_)))|| (decide ((((Qf s_).2.1).length:Int)>=(12:Int))|| (!(X9 ((Qf s_).1) ((Qf s_).2.2,(Qr f).2.1,(Qr f).2.2.1,(Qr f).2.2.2.1,(Qr f).2.2.2.2))))) (λh3=> ?_) (λh3=> ?_)
 ·exact sn Qa [2,3,4,5,6] [2,3,4] p0 <| Qh <| pz [] (show Yl s_ f=_ from Xm h3 (rfl)) (λz=> .tup [(true, [.o 0 z.1.1,.o 1 z.1.2.1,.i z.1.2.2]),(false, [.i z.2.1]),(false, [.b z.2.2])])
 have h3r:((decide ((((Qf s_).2.1).length:Int)>=(12:Int))|| (!(X9 ((Qf s_).1) ((Qf s_).2.2,(Qr f).2.1,(Qr f).2.2.1,(Qr f).2.2.2.1,(Qr f).2.2.2.2)))))=false:=Pr h3;have h3rl:(decide ((((Qf s_).2.1).length:Int)>=(12:Int)))=false:=Rw h3r;have h3rld:=of_decide_eq_false h3rl;refine Qe <| wB 2 1 (.own true 513) ((Qf s_).2.1) (λhw4 hl5=> ?_)
 refine su Qa [] [29] [(2, [.o 512 ((Qf s_).1),.slc (.own true 2240) 5 ((eL ((Qf s_).2.1))++ [[.i ((Qf s_).2.2),.i ((Qr f).2.1),.b ((Qr f).2.2.1),.i ((Qr f).2.2.2.1),.h ((Qr f).2.2.2.2)]]),.i ((Qf s_).2.2)]),(3, [.i ((Qf s_).2.2),.i ((Qr f).2.1),.b ((Qr f).2.2.1),.i ((Qr f).2.2.2.1),.dead])] [2,3] (pa ((Qf s_).2.1) [((Qf s_).2.2,(Qr f).2.1,(Qr f).2.2.1,(Qr f).2.2.2.1,(Qr f).2.2.2.2)] p0) <| eqn [] [] [(2, [.o 512 ((Qf s_).1),.o 2240 ((Qf s_).2.1++ [((Qf s_).2.2,(Qr f).2.1,(Qr f).2.2.1,(Qr f).2.2.2.1,(Qr f).2.2.2.2)]),.i ((Qf s_).2.2)])] [2] (by rw[show ((eL ((Qf s_).2.1))++ [[.i ((Qf s_).2.2),.i ((Qr f).2.1),.b ((Qr f).2.2.1),.i ((Qr f).2.2.2.1),.h ((Qr f).2.2.2.2)]])=(eL ((Qf s_).2.1++ [((Qf s_).2.2,(Qr f).2.1,(Qr f).2.2.1,(Qr f).2.2.2.1,(Qr f).2.2.2.2)])) from We (rfl) (rfl)];first | done | kernel_rfl) ?_
 exact sn Qa [2,3,4,5,6] [2,3,4] p0 <| tN Qa Zt [4,5,6] [4] p0 <| Qh <| pz [] (show Yl s_ f=_ from Qn h3 (rfl)) (λz=> .tup [(true, [.o 0 z.1.1,.o 1 z.1.2.1,.i z.1.2.2]),(false, [.i z.2.1]),(false, [.b z.2.2])])
def Zi (s_:Xr) (id:Int):Xr×Bool:=(bif ((!(Xf (Qf s_)))|| decide ((Xc (Qf s_) id)<(0:Int))) then ((Qf s_),false) else (((Qf s_).1,zO (Xc (Qf s_) id).toNat ((Qf s_).2.1)++(yB ((Xc (Qf s_) id)+1).toNat ((Qf s_).2.1)),(Qf s_).2.2),true))
theorem ZZ (s_:Xr) (id:Int):ACalls Tryz.prog 157 [.a [.h s_.1,.h s_.2.1,.i s_.2.2],.i id] (.tup [(true, [.h ((((Zi s_ id)).1).1),.h ((((Zi s_ id)).1).2.1),.i ((((Zi s_ id)).1).2.2)]),(false, [.b (((Zi s_ id)).2)])]):=by
 refine en Qa Tryz.func157 λw0 F0 hG=> ?_
 refine sn Qa [1,2,4,5] [2,4] p0 <| tn Qa [1,2,4,5] [2,4] (pc 1 (La s_) p0) <| tu Qa [(2,.p 2 0),(4,.p 4 0),(5,.b false),(6,.i (Xc (Qf s_) id))] [0,1] [(2, [.o 512 ((Qf s_).1),.o 513 ((Qf s_).2.1),.i ((Qf s_).2.2)]),(4, [.e 2,.e 5,.i 0])] [] (pc 2 (M8 (Qf s_) id) p0) <| Qc <| Qc <| jn [(18,.b ((!(Xf (Qf s_)))|| decide ((Xc (Qf s_) id)<(0:Int))))] [] [] [] (!(Xf (Qf s_))) (λh1=> ?_) (λh1=> ?_) ?_
 ·have h1n:(Xf (Qf s_))=false:=Vp h1;refine rn Qa [2,4,5,6,18] [2,4] (pc 1 (cb h1n (Kk (Qf s_))) (pe 2 (show .b (!false)= .b true from rfl) p0)) ?_;exact zA (by rw[h1]<;>kernel_rfl)
 ·have h1n:(Xf (Qf s_))=true:=Zc h1;refine rn Qa [2,4,5,6,18] [2,4] (pc 1 (cb h1n (Kk (Qf s_))) (pe 2 (show .b (!true)= .b false from rfl) p0)) ?_;exact zA (by rw[h1]<;>kernel_rfl)
 refine ck ((!(Xf (Qf s_)))|| decide ((Xc (Qf s_) id)<(0:Int))) (λh2=> ?_) (λh2=> ?_)
 ·exact sn Qa [2,4,5,6] [2,4] p0 <| Qh <| pz [512,513] (show Zi s_ id=_ from Xm h2 (rfl)) (λz=> .tup [(true, [.h z.1.1,.h z.1.2.1,.i z.1.2.2]),(false, [.b z.2])])
 have h2r:(decide ((Xc (Qf s_) id)<(0:Int)))=false:=Pr h2;have h2rp:=YM (Qf s_) id;have h2rd:=of_decide_eq_false h2r;refine Qe <| wB 2 1 (.own true 513) ((Qf s_).2.1) (λhw3 hl4=> ?_)
 have hl5:zD (zO (Xc (Qf s_) id).toNat ((Qf s_).2.1))<=1073741824:=Iz (FK (Xc (Qf s_) id).toNat (hw3));have hl6:zD (yB ((Xc (Qf s_) id)+1).toNat ((Qf s_).2.1))<=1073741824:=Iz (FL ((Xc (Qf s_) id)+1).toNat (hw3));refine Mi (N9 [513] rfl) ?_;refine sU Qa Zt [] [6,18] [(2, [.o 512 ((Qf s_).1),.slc (.own false 1984) 5 (([]++(eL (zO (Xc (Qf s_) id).toNat ((Qf s_).2.1))))++(eL (yB ((Xc (Qf s_) id)+1).toNat ((Qf s_).2.1)))),.i ((Qf s_).2.2)])] [2] (pe 4 (LX .sh 5 (Xc (Qf s_) id).toNat (Xc (Qf s_) id) ((Qf s_).2.1) rfl) (px (T2 (lo:=0) (hi:=(Xc (Qf s_) id)) (n:=(zD (eL ((Qf s_).2.1)))) (Qhz (by omega) (by omega) (by omega))) (px (Ga (n:=(([]:List (List PV)).length+((eL (zO (Xc (Qf s_) id).toNat ((Qf s_).2.1))):List (List PV)).length)) (Iu (rfl) (Zs (zO (Xc (Qf s_) id).toNat ((Qf s_).2.1))) (by first|omega|(simp only[zT,xF];omega) | (simp;omega) | simp))) (pe 9 (J6 (IntWalk.i64_in ((Xc (Qf s_) id)+1) (by omega))) (pe 10 (Qb8 .sh 5 ((Xc (Qf s_) id)+1).toNat ((Xc (Qf s_) id)+1) ((Qf s_).2.1) rfl) (px (T2 (lo:=((Xc (Qf s_) id)+1)) (hi:=(((eL ((Qf s_).2.1)):List (List PV)).length:Int)) (n:=(zD (eL ((Qf s_).2.1)))) (Qb9 (by omega) (by omega))) (px (Ga (n:=((([]++(eL (zO (Xc (Qf s_) id).toNat ((Qf s_).2.1)))):List (List PV)).length+((eL (yB ((Xc (Qf s_) id)+1).toNat ((Qf s_).2.1))):List (List PV)).length)) (by simp[Zs];omega)) p0))))))) <| eqn [] [] [(2, [.o 512 ((Qf s_).1),.q 1984 (zO (Xc (Qf s_) id).toNat ((Qf s_).2.1)++(yB ((Xc (Qf s_) id)+1).toNat ((Qf s_).2.1))),.i ((Qf s_).2.2)])] [2] (by rw[show (([]++(eL (zO (Xc (Qf s_) id).toNat ((Qf s_).2.1))))++(eL (yB ((Xc (Qf s_) id)+1).toNat ((Qf s_).2.1))))=(eL (zO (Xc (Qf s_) id).toNat ((Qf s_).2.1)++(yB ((Xc (Qf s_) id)+1).toNat ((Qf s_).2.1)))) from We (rfl) (rfl)];first | done | kernel_rfl) ?_
 exact sn Qa [4,5] [4] p0 <| Qh <| pz [512,1984] (show Zi s_ id=_ from Qn h2 (rfl)) (λz=> .tup [(true, [.h z.1.1,.h z.1.2.1,.i z.1.2.2]),(false, [.b z.2])])
def Xp (s_:Xr) (id:Int):Xx×Bool:=(bif decide ((Xc s_ id)<(0:Int)) then ((0,0,false,0, []),false) else ((Qr (nth s_.2.1 (Xc s_ id).toNat)),true))
theorem Nb (s_:Xr) (id:Int):ACalls Tryz.prog 102 [.a [.h s_.1,.h s_.2.1,.i s_.2.2],.i id] (.tup [(true, [.i ((((Xp s_ id)).1).1),.i ((((Xp s_ id)).1).2.1),.b ((((Xp s_ id)).1).2.2.1),.i ((((Xp s_ id)).1).2.2.2.1),.o 0 ((((Xp s_ id)).1).2.2.2.2)]),(false, [.b (((Xp s_ id)).2)])]):=by
 refine en Qa Tryz.func102 λw0 F0 hG=> ?_
 refine sn Qa [1,2,4,5] [2,4] p0 <| tn Qa [2,4,5,6] [2,4] (pc 2 (M8 s_ id) p0) <| Qc <| tu Qa [(2,.p 2 0),(4,.p 4 0),(5,.b false),(6,.i (Xc s_ id)),(11,.b (decide ((Xc s_ id)<(0:Int))))] [0,1] [(2, [.h s_.1,.h s_.2.1,.i s_.2.2]),(4, [.i 0,.i 0,.b false,.i 0,.e 4])] [] p0 <| ck (decide ((Xc s_ id)<(0:Int))) (λh1=> ?_) (λh1=> ?_)
 ·refine su Qa [] [11] [] [] p0 <| opn [(true,4,4,true,384000,4)] ?_
  exact Qh <| pz [] (show Xp s_ id=_ from Xm h1 (rfl)) (λz=> .tup [(true, [.i z.1.1,.i z.1.2.1,.b z.1.2.2.1,.i z.1.2.2.2.1,.o 0 z.1.2.2.2.2]),(false, [.b z.2])])
 have h1p:=YM s_ id;have h1d:=of_decide_eq_false h1;refine Qe <| wB 2 1 .sh s_.2.1 (λhw3 hl4=> ?_)
 have hx2:=ng s_.2.1 (Xc s_ id).toNat;exact sn Qa [4,5] [4] (pg 3 (Xc s_ id) hx2 (pc 5 (I9 (nth s_.2.1 (Xc s_ id).toNat)) p0)) <| Qh <| pz [] (show Xp s_ id=_ from Qn h1 (rfl)) (λz=> .tup [(true, [.i z.1.1,.i z.1.2.1,.b z.1.2.2.1,.i z.1.2.2.2.1,.o 0 z.1.2.2.2.2]),(false, [.b z.2])])
structure VS (s:Xr):Prop where
 sch:K0 s.1=true
 len:s.2.1.length<=12
 nx1:1<=s.2.2
 nx2:s.2.2<=61
 file:∀(i:Nat) (a:Xx),s.2.1[i]? =some a->X9 s.1 a=true/\a.1<s.2.2
 asc:∀(i:Nat) (a b:Xx),s.2.1[i]? =some a->s.2.1[i+1]? =some b->a.1<b.1
theorem R9 {s:Xr} (h:VS s):Xf s=true:=by
 unfold Xf;rw[S8 (l:=s.2.1) (k:=0) (λi a hi=> ?_)]
 . have h1:=h.len;have h2:=h.nx1;have h3:=h.nx2;simp only[Out.on,Xk,h.sch,Bool.true_and];rw[decide_eq_true (show (s.2.1.length:Int)<=12 by omega),decide_eq_true (show s.2.2>=1 from h2),decide_eq_true (show s.2.2<=61 from h3)];rfl
 obtain ⟨h1,h2⟩:=h.file i a hi;unfold Jk;rw[h1,decide_eq_false (show¬a.1>=s.2.2 by omega)]
 have e2:(decide (((0+i:Nat):Int)>0)&&decide ((nth s.2.1 (zZ (((0+i:Nat):Int)-1))).1>=a.1))=false:=by
  by_cases hp:0<i
  . have hlt:i-1<s.2.1.length:=by have:=(zP.1 hi).1;omega
    have h3:=h.asc (i-1) _ a (Hb hlt) (by rw[show i-1+1=i by omega];exact hi);rw[show zZ (((0+i:Nat):Int)-1)=i-1 by omega,decide_eq_false (show¬(nth s.2.1 (i-1)).1>=a.1 by omega),Bool.and_false]
  obtain rfl:i=0:=by omega
  rfl
 rw[e2];rfl
theorem Qj7 {s:Xr} (h:Xf s=true):VS s:=by
 unfold Xf at h;cases hl:X7 (Jk s) Ue s.2.1 0 () with
 | brk t =>
   rw[hl] at h;simp only[Out.on,zM,Xk,decide_eq_true_eq] at h;obtain ⟨h1,h2,h3,h4⟩:=h
   have key:∀(i:Nat) (a:Xx),s.2.1[i]? =some a->X9 s.1 a=true/\a.1<s.2.2/\(decide (((i:Nat):Int)>0)&&decide ((nth s.2.1 (zZ (((i:Nat):Int)-1))).1>=a.1))=false:=λi a hi=>by
    have h5:=Og (λk a t=>by unfold Jk;generalize (_|| _:Bool)=c;cases c<;>simp) hl i a hi;unfold Jk at h5;rw[yE] at h5;cases hv:X9 s.1 a with
    | false=>rw[hv] at h5;simp at h5
    | true=>
      rw[hv] at h5;cases hd:decide (a.1>=s.2.2) with
      | true=>rw[hd] at h5;simp at h5
      | false=>
        rw[hd] at h5;refine ⟨rfl,by have:=of_decide_eq_false hd;omega, ?_⟩;generalize (decide (((i:Nat):Int)>0)&&decide ((nth s.2.1 (zZ (((i:Nat):Int)-1))).1>=a.1))=c at h5;cases c with
        | true=>simp at h5
        | false=>rfl
   refine ⟨h1,by omega,h3,h4,λi a hi=>⟨(key i a hi).1,(key i a hi).2.1⟩,λi a b ha hb=> ?_⟩;have h5:=(key (i+1) b hb).2.2;rw[decide_eq_true (show ((i+1:Nat):Int)>0 by omega),Bool.true_and,show zZ (((i+1:Nat):Int)-1)=i by omega,O9 ha] at h5;have:=of_decide_eq_false h5;omega
 | ret r=>
   rw[hl] at h;obtain rfl:r=true:=h;exfalso
   have key:∀(l:List Xx) k,X7 (Jk s) Ue l k ()≠ .ret true:=by
    intro l
    induction l with
    | nil=>intro k h;simp[X7] at h
    | cons a l ih=>
      intro k h;simp only[X7] at h;unfold Jk at h;split at h
      . exact ih _ h
      . cases h
      rename_i r hf;cases h;revert hf;generalize (_|| _:Bool)=c;cases c<;>simp
   exact key _ _ hl
theorem TL (l:List Xx):∀(k:Nat) (s:List Xx),X7 Dw Dx l k s= .brk (s++l):=λk s=>by
 rw[A7 (f:=Dw) (e:=Dx) (g:=id) (λ_ _ _=>rfl),List.map_id];rfl
theorem Qgw (s:Xr):Qf s=s:=by
 unfold Qf;rw[TL];rfl
theorem Qj8 {s:Xr} {f:Xx} (h:VS s) (hl:s.2.1.length<12) (hn:s.2.2<=60) (hf:X9 s.1 (s.2.2,f.2)=true):VS (s.1,s.2.1++ [(s.2.2,f.2)],s.2.2+1):=by
 have hcase:∀(i:Nat) (a:Xx),(s.2.1++ [((s.2.2,f.2):Xx)])[i]? =some a->s.2.1[i]? =some a\/(i=s.2.1.length/\a=(s.2.2,f.2)):=λi a hi=>by
  rw[xK] at hi;split at hi
  . exact .inl hi
  right
  rename_i hge
  have:i-s.2.1.length=0:=by
   have:=(zP.1 hi).1;simp at this;omega
  rw[this] at hi;exact ⟨by omega,(Option.some.inj hi).symm⟩
 refine ⟨h.sch,by simp;omega,by have:=h.nx1;show 1<=s.2.2+1;omega,by show s.2.2+1<=61;omega,λi a hi=> ?_,λi a b ha hb=> ?_⟩
 . show X9 s.1 a=true/\a.1<s.2.2+1;rcases hcase i a hi with hi | ⟨_,rfl⟩
   . obtain ⟨h1,h2⟩:=h.file i a hi;exact ⟨h1,by omega⟩
   exact ⟨hf,by show s.2.2<s.2.2+1;omega⟩
 rcases hcase i a ha with ha | ⟨h1,rfl⟩
 . rcases hcase (i+1) b hb with hb | ⟨_,rfl⟩
   . exact h.asc i a b ha hb
   exact (h.file i a ha).2
 rcases hcase (i+1) b hb with hb | ⟨h2,_⟩
 . have:=(zP.1 hb).1;omega
 omega
theorem Qj9 {s:Xr} {f:Xx} (h:VS s) (hl:s.2.1.length<12) (hn:s.2.2<=60) (hf:X9 s.1 (s.2.2,f.2)=true):Yl s f=((s.1,s.2.1++ [(s.2.2,f.2)],s.2.2+1),s.2.2,true):=by
 unfold Yl;rw[Qgw,R9 h,decide_eq_false (show¬(s.2.1.length:Int)>=12 by omega)];have hf':X9 s.1 (s.2.2,(Qr f).2.1,(Qr f).2.2.1,(Qr f).2.2.2.1,(Qr f).2.2.2.2)=true:=hf;have h1:=h.nx1;rw[hf',IntWalk.i64_in _ (show _/\_ by omega)];rfl
theorem Qmb {s:List Km} {f:Xx} (h:X9 s f=true):1<=f.1/\f.1<=60:=by
 unfold X9 at h;cases hl:X7 (Vw s f) Uu f.2.2.2.2 0 () with
 | brk t=>
   rw[hl] at h;simp only[Out.on,zM,Xk,decide_eq_true_eq] at h;exact h.2.1
 | ret r=>
   rw[hl] at h;obtain rfl:r=true:=h;exfalso
   have key:∀(l:List Ee) k,X7 (Vw s f) Uu l k ()≠ .ret true:=by
    intro l
    induction l with
    | nil=>intro k h;simp[X7] at h
    | cons a l ih=>
      intro k h;simp only[X7] at h;unfold Vw at h;split at h
      . exact ih _ h
      . cases h
      rename_i r hf;cases h;revert hf;generalize (_|| _:Bool)=c;cases c<;>simp
   exact key _ _ hl
theorem Qdk {s:Xr} (f:Xx) (h:VS s):VS (Yl s f).1/\(Yl s f).1.1=s.1/\(Yl s f).1.2.1.length<=s.2.1.length+1/\s.2.1.length<=(Yl s f).1.2.1.length/\(Yl s f).1.2.2<=s.2.2+1:=by
 by_cases hc:s.2.1.length<12/\X9 s.1 (s.2.2,f.2)=true
 . have hn:s.2.2<=60:=(Qmb hc.2).2;rw[Qj9 h hc.1 hn hc.2];exact ⟨Qj8 h hc.1 hn hc.2,rfl,by simp,by simp,xR _⟩
 have e:(Yl s f).1=s:=by
  unfold Yl;rw[Qgw,R9 h];by_cases h1:s.2.1.length<12
  . have h2:X9 s.1 (s.2.2,f.2)≠true:=λh2=>hc ⟨h1,h2⟩
    have h3:X9 s.1 (s.2.2,(Qr f).2.1,(Qr f).2.2.1,(Qr f).2.2.2.1,(Qr f).2.2.2.2)=false:=Bool.eq_false_iff.2 h2;rw[h3];simp
  rw[decide_eq_true (show (s.2.1.length:Int)>=12 by omega)];simp
 rw[e];exact ⟨h,rfl,by omega,by omega,by omega⟩
theorem Qdl {s:Xr} (id:Int) (h:VS s):VS (Zi s id).1/\(Zi s id).1.1=s.1/\(Zi s id).1.2.1.length<=s.2.1.length/\(Zi s id).1.2.2=s.2.2:=by
 unfold Zi;rw[Qgw,R9 h];by_cases hc:Xc s id<0
 . rw[decide_eq_true hc];exact ⟨h,rfl,yK _,rfl⟩
 rw[decide_eq_false hc];simp only[yF,Bool.or_false,cond_false];have hb:=YM s id;generalize Xc s id=p at hc hb;obtain ⟨k,rfl⟩:∃k:Nat,p=(k:Int):=⟨p.toNat,by omega⟩;have e2:zZ ((k:Int)+1)=k+1:=by omega
 rw[e2,yW];have hk:k<s.2.1.length:=by omega
 have hget:∀(i:Nat) (a:Xx),(zO k s.2.1++yB (k+1) s.2.1)[i]? =some a->s.2.1[if i<k then i else i+1]? =some a:=λi a hi=>by
  rw[xK,zN,Nat.min_eq_left (by omega)] at hi;split at hi
  . rename_i hlt;rw[if_pos hlt]
    rwa [List.getElem?_take_of_lt hlt] at hi
  rename_i hge;rw[if_neg hge];rw[yS] at hi
  rwa [show k+1+(i-k)=i+1 by omega] at hi
 refine ⟨⟨h.sch, ?_,h.nx1,h.nx2,λi a hi=>h.file _ a (hget i a hi),λi a b ha hb=> ?_⟩,trivial, ?_,trivial⟩
 . have:=h.len;show (zO k s.2.1++yB (k+1) s.2.1).length<=12;simp;omega
 . have ha:=hget i a ha;have hb:=hget (i+1) b hb;by_cases h1:i+1<k
   . rw[if_pos (by omega)] at ha;rw[if_pos h1] at hb;exact h.asc i a b ha hb
   rw[if_neg h1] at hb;by_cases h2:i<k
   . rw[if_pos h2] at ha;have hm:k<s.2.1.length:=hk;have h3:=h.asc i a _ ha (by rw[show i+1=k by omega];exact Hb hm);have h4:=h.asc k _ b (Hb hm) (by rw[show k+1=i+1+1 by omega];exact hb);omega
   rw[if_neg h2] at ha;exact h.asc (i+1) a b ha hb
 show (zO k s.2.1++yB (k+1) s.2.1).length<=s.2.1.length;simp;omega
end
section
def Qmm {R R2 O:Type}:Rd R (O×Int×Bool) (O×Int)->Rd R2 (O×Bool) O->Prop
 | .next s,.next t=>t=(s.1,s.2.2)
 | .brk s,.brk t=>t=s.1
 | _,_=>False
theorem DT {R R2 O:Type} {F:O×Int×Bool->Rd R (O×Int×Bool) (O×Int)} {G:O×Bool->Rd R2 (O×Bool) O} (h:∀o p c,Qmm (F (o,p,c)) (G (o,c))):∀(n:Nat) (o:O) (p:Int) (c:Bool) (y:O×Int),whl F n (o,p,c)=some (.brk y)->whl G n (o,c)=some (.brk y.1)
 | 0,_,_,_,_,hy=>by cases hy
 | n + 1,o,p,c,y,hy=>by
   have hb:=h o p c;simp only[whl] at hy⊢;cases hF:F (o,p,c) with
   | next s=>
     rw[hF] at hy hb;cases hG:G (o,c) with
     | next t=>
       rw[hG] at hb;obtain rfl:t=(s.1,s.2.2):=hb;exact DT h n s.1 s.2.1 s.2.2 y hy
     | brk t=>rw[hG] at hb;exact hb.elim
     | ret r=>rw[hG] at hb;exact hb.elim
   | brk s=>
     rw[hF] at hy hb;cases hG:G (o,c) with
     | next t=>rw[hG] at hb;exact hb.elim
     | brk t=>
       rw[hG] at hb;obtain rfl:t=s.1:=hb;obtain rfl:s=y:=by simpa using hy
       rfl
     | ret r=>rw[hG] at hb;exact hb.elim
   | ret r=>rw[hF] at hb;exact hb.elim
end
end Go.Proofs.YtnnhlokdfkajnaaGreat
