/- Texts of this proof, put together by a program: Eva, Evb, Tw, Clr, Inr, Ins, Df, Eua, Eub, Enp, Wk, Vf, Cgs, Cga, Cgb, Cgc, Vsa. -/
import Derived.Test.YtgmlioidliojkaaGreatDoorP4
import Derived.KernelRfl
import Derived.Laws.Externs
import Derived.Lib.AppendZerosOnto
import Derived.Deep.RegionLaw
set_option linter.unusedVariables false
set_option linter.unusedSimpArgs false
namespace Go.Proofs.YtgmlioidliojkaaGreatDoor
open _root_.And renaming intro → zH
open _root_.Array renaming length_toList → zV, getD_eq_getD_getElem? → zZ, getElem?_eq_getElem → yV, toList_append → xI
open _root_.Bool renaming and_eq_true → zQ, not_true → yI
open _root_.Exists renaming intro → zE
open _root_.Int renaming natCast_add → yL, toNat → yP
open _root_.List renaming length → zD, length_set → zF, replicate → zG, mem_cons_of_mem → zI, length_append → zJ, set → zK, length_cons → zM, length_take → zN, length_map → zO, mem_cons_self → zP, take_append_of_le_length → zR, take_of_length_le → zS, take → zT, append_assoc → zU, length_drop → zW, getElem?_cons_zero → zX, getElem?_toArray → zY, getElem?_of_mem → yA, getElem?_eq_getElem → yC, length_nil → yD, getElem?_cons_succ → yE, take_take → yG, drop → yH, mem_of_mem_drop → yK, length_flatten → yM, map_replicate → yQ, mem_singleton → yR, take_left → yS, filter_append → yT, getElem?_eq_some_iff → yU, size_toArray → yX, take_add_one → yZ, map_toArray → xA, length_eq_zero_iff → xB, foldl_cons → xC, mem_of_getElem? → xE, map → xG, replicate_succ → xH, map_cons → xJ, mem_map → xK, map_nil → xL, getD → xN
open _root_.Nat renaming mul_le_mul_right → zL, zero_le → yB, zero_add → yF, one_mul → yJ, beq → yN, min → yO, add_mul → yW, le_refl → yY, eq_of_beq_eq_true → xD, min_def → xF, le_trans → xM, sub_mul → xO
section
open Go.RowKit
open GoE (enc wide)
def Nx (_:Nat) (a0:X0) (s0:Z):Rd Z Z Z:=(.next (s0++ [a0.1]))
def Ny (_:Nat) (s0:Z):Z:=s0
def Xv (d:List X0):Z:=(Out.on (Xz Nx Ny d 0 []) (λy0=>y0))
theorem Lt (d:List X0):ACalls Tryz.prog 97 [.h d] (.o 0 (Xv d)):=by
 refine en Qb Tryz.func97 λw0 F0 hG=> ?_
 refine sn Qb [0,2] [] p0 <| tn Qb [0,2,3] [] p0 <| Qc <| tu Qb [(2,.e 0),(3,.one (.slc (.own true 384) 1 [])),(7,.h d),(8,.i (d.length:Int)),(9,.i 0)] [0] [] [] (pl 1 d p0) <| wT 7 0 .sh d (λhw1 hl2=> ?_)
 refine KD Nx Ny d [] (λk0 s0=> [(3,.o 147201 s0),(9,.i (k0:Int))]) [3,9] (λy0=> [(3,.o 147351 y0)]) [3,7,8,9] (λk0 s0=>zD s0<=k0) (Xg [(384,147201)] (by kernel_rfl)) (by simp) (λk0 s0 hk0 U=> ?_) (λk0 s0 hk0 U=> ?_) (λy0 hD0=> ?_)
 ·have hA0_0:=U.2;obtain ⟨a0,hx0⟩:=Xm (l:=d) (i:=k0) hk0;refine sn Qb [2,3,7,8,9,10] [] (pe 0 (zB ((k0:Int)<(d.length:Int))) p0) <| Qc <| ckT <| Qg <| Qc <| Qv <| tn Qb [2,3,5,7,8,9] [5] (pn 0 hx0 p0) <| wT 3 0 (.own true 147201) s0 (λhw3 hl4=> ?_)
  refine qu Qb [(3,.one (.slc (.own true 1088) 1 ((eL s0)++ [[.s a0.1]])))] [3] [] [] (pa s0 [a0.1] p0) ?_;refine eqn [(3,.o 1088 (s0++ [a0.1]))] [3] [] [] (by rw[show ((eL s0)++ [[.s a0.1]])=(eL (s0++ [a0.1])) from Ju (rfl) (rfl)];first | done | kernel_rfl) ?_;refine rn Qb [2,3,7,8,9] [] (pe 0 (Jl (Qo k0 (by omega))) p0) ?_;exact zE (s0++ [a0.1]) (zH (Xg [(1088,147201)] (by kernel_rfl)) ⟨Qt hx0 (rfl) U.1,by first|omega|(simp;omega) | simp⟩)
 ·have hA0_0:=U.2;exact sn Qb [2,3,7,8,9,10] [] (pe 0 (zC ((k0:Int)<(d.length:Int))) p0) <| Qc <| ckF <| Q3 <| zE _ (zH (Xg [(147201,147351)] (by kernel_rfl)) (Xn hk0 (rfl) U.1))
 exact sn Qb [2] [] p0 <| Qe <| po0 [] (Wk hD0 (rfl))
def Hi (v:ByteArray) (k0:Nat) (a0:ByteArray) (_:Unit):Rd (Int) (Unit) (Unit):=(bif (v.toList==a0.toList) then (.ret (k0:Int)) else (.next ()))
def Bq (_:Nat) (_:Unit):Unit:=()
def Di (s_:Z) (v:ByteArray):Int:=(Out.on (Xz (Hi v) Bq s_ 0 ()) (λ_=> -1))
theorem Tt (s_:Z) (v:ByteArray):ACalls Tryz.prog 164 [.h s_,.s v] (.i (Di s_ v)):=by
 refine en Qb Tryz.func164 λw0 F0 hG=> ?_
 refine sn Qb [0,1,4] [] p0 <| Qc <| tn Qb [0,1,4,7,8] [] (pl 1 s_ p0) <| mz [(4,.i 0),(7,.i (s_.length:Int)),(8,.i 0)] [] [] [] <| wT 0 0 .sh s_ (λhw1 hl2=> ?_)
 refine P0 (Hi v) Bq s_ () (λk0 _=> [(8,.i (k0:Int))]) [8] (λ_=> []) [0,1,7,8] wf0 (λk0 s0 hk0 U=> ?_) (λk0 s0 hk0 U=> ?_) (λy0 hD0=> ?_)
 ·obtain ⟨a0,hx0⟩:=Xm (l:=s_) (i:=k0) hk0;refine sn Qb [0,1,4,7,8,9] [] (pe 0 (zB ((k0:Int)<(s_.length:Int))) p0) <| Qc <| ckT <| Qg <| Qc <| Qv <| tn Qb [0,1,4,5,7,8] [] p0 <| tu Qb [(5,.i (k0:Int)),(16,.b (v.toList==a0.toList))] [] [] [] (pn 3 hx0 p0) <| ck (v.toList==a0.toList) (λh3=> ?_) (λh3=> ?_)
  ·refine sn Qb [0,1,4,7,8] [] p0 <| Qe ?_
   have hr4:(Xz (Hi v) Bq s_ 0 ())= .ret (k0:Int):=Jv hx0 (Q4 h3 (rfl)) U;exact pi [] (Pd hr4)
  refine Qg <| rn Qb [0,1,4,7,8] [] (pe 0 (Jl (Qo k0 (by omega))) p0) ?_
  exact xw _ (Qt hx0 (Qi h3 (rfl)) U)
 ·exact sn Qb [0,1,4,7,8,9] [] (pe 0 (zC ((k0:Int)<(s_.length:Int))) p0) <| Qc <| ckF <| Q3 <| xw _ (Xn hk0 (rfl) U)
 exact sn Qb [4] [] p0 <| Qe <| pi [] (Wk hD0 (rfl))
def Qr (s_:Z) (v:ByteArray):Bool:=decide ((Di s_ v)>=(0:Int))
theorem Wh (s_:Z) (v:ByteArray):ACalls Tryz.prog 112 [.h s_,.s v] (.b (Qr s_ v)):=by
 refine en Qb Tryz.func112 λw0 F0 hG=> ?_
 exact sn Qb [0,1,4] [] p0 <| tn Qb [4] [] (pc 2 (Tt s_ v) p0) <| Qe <| pb [] (show Qr s_ v=decide ((Di s_ v)>=(0:Int)) from rfl)
def Bd (x:List Int) (k0:Nat) (s0:Int):Rd (Int) (Int) (Int):=(.next (max s0 (nth x (k0+1))))
def Fp (_:Nat) (s0:Int):Int:=s0
def M5 (x:List Int):Int:=(Out.on (Uy (Bd x) Fp (x.length-1) 0 (nth x 0)) (λy0=>y0))
theorem AH (x:List Int) (hp:0<x.length):ACalls Tryz.prog 227 [.h x] (.i (M5 x)):=by
 refine en Qb Tryz.func227 λw0 F0 hG=> ?_
 refine sn Qb [0,2] [] p0 <| Qc <| tn Qb [0,2,7] [] (pl 1 x (pe 2 (show .b (decide ((x.length:Int)<(1:Int)))= .b false from Qq (decide_eq_false (by omega))) p0)) <| ckF <| Qg <| wT 0 0 .sh x (λhw2 hl3=> ?_)
 have hx1:=ng x 0;refine tu Qb [(2,.i 0),(3,.i (nth x 0))] [] [] [] (pg 1 0 hx1 p0) <| Qc <| sn Qb [0,2,3,4] [] p0 <| mz [(4,.i 1)] [] [] [] <| Ql9 (Bd x) Fp (x.length-1) (nth x 0) (λk0 s0=> [(3,.i s0),(4,.i ((k0+1:Nat):Int))]) [3,4] (λy0=> [(3,.i y0)]) [0,3,4] wf0 (λk0 s0 hk0 U=> ?_) (λk0 s0 hk0 U=> ?_) (λy0 hD0=> ?_)
 ·refine Qc <| sn Qb [0,2,3,4,15] [] (pl 2 x (pe 3 (zB (((k0+1:Nat):Int)<(x.length:Int))) p0)) <| ckT <| Qg <| Qc <| Qv ?_
  have hx4:=ng x (k0+1);refine qn Qb [0,2,3,4] [] (pg 3 ((k0+1:Nat):Int) hx4 p0) ?_;refine qu Qb [(3,.i (max s0 (nth x (k0+1)))),(4,.i ((k0+2:Nat):Int))] [3,4] [] [] (pe 1 (show .i (IntKind.i64.wrap (((k0+1:Nat):Int)+1))= .i ((k0+2:Nat):Int) from Jl ((IntWalk.i64_in _ (by omega)).trans (by omega))) p0) ?_;exact xw _ (V2 hk0 (rfl) U)
 ·exact Qc <| sn Qb [0,2,3,4,15] [] (pl 2 x (pe 3 (zC (((k0+1:Nat):Int)<(x.length:Int))) p0)) <| ckF <| Q3 <| xw _ (Dc hk0 (rfl) U)
 exact sn Qb [2] [] p0 <| Qe <| pi [] (Wk hD0 (rfl))
def Vp (d:List X0):Int:=(bif ((!(((Qx d)).2))|| (((((Qx d)).1).length:Int)==(0:Int))) then-1 else (M5 (((Qx d)).1)))
theorem R1 (d:List X0):ACalls Tryz.prog 188 [.h d] (.i (Vp d)):=by
 refine en Qb Tryz.func188 λw0 F0 hG=> ?_
 refine sn Qb [0,2] [] p0 <| tn Qb [2,3,4] [] (pc 1 (Sz d) p0) <| Qc <| Qc <| mz [(2,.i 0),(3,.o 448 (((Qx d)).1)),(4,.b (((Qx d)).2))] [0] [] [] <| jn [(16,.b ((!(((Qx d)).2))|| (((((Qx d)).1).length:Int)==(0:Int))))] [4] [] [] (!(((Qx d)).2)) (λh1=> ?_) (λh1=> ?_) ?_
 ·have h1n:(((Qx d)).2)=false:=Vj h1;refine rn Qb [2,3,16] [] (pf 0 h1n (pe 1 (show .b (!false)= .b true from rfl) p0)) ?_;exact zA (by rw[h1]<;>kernel_rfl)
 ·have h1n:(((Qx d)).2)=true:=Za h1;refine rn Qb [2,3,16] [] (pt 0 h1n (pe 1 (show .b (!true)= .b false from rfl) (pl 4 (((Qx d)).1) p0))) ?_;exact zA (by rw[h1]<;>kernel_rfl)
 refine ck ((!(((Qx d)).2))|| (((((Qx d)).1).length:Int)==(0:Int))) (λh2=> ?_) (λh2=> ?_)
 ·exact sn Qb [2,3] [] p0 <| Qe <| pi [] (Q4 h2 (rfl))
 have h2l:((!(((Qx d)).2)))=false:=Re h2;have h2ln:(((Qx d)).2)=true:=Za h2l;have h2r:((((((Qx d)).1).length:Int)==(0:Int)))=false:=Pz h2;have h2rd:=Y4 h2r;exact Qg <| sn Qb [2] [] (pc 1 (AH (((Qx d)).1) (by first|omega|(simp_all;omega))) p0) <| Qe <| pi [] (Qi h2 (rfl))
def Br (s2_:List Int) (k0:Nat) (a0:Int) (_:Unit):Rd (Bool) (Unit) (Unit):=(bif (a0 !=(nth s2_ k0)) then (.ret false) else (.next ()))
def Dj (_:Nat) (_:Unit):Unit:=()
def Vl (s1_:List Int) (s2_:List Int):Bool:=(bif ((s1_.length:Int) !=(s2_.length:Int)) then false else (Out.on (Xz (Br s2_) Dj s1_ 0 ()) (λ_=>true)))
theorem Pr (s1_:List Int) (s2_:List Int):ACalls Tryz.prog 143 [.h s1_,.h s2_] (.b (Vl s1_ s2_)):=by
 refine en Qb Tryz.func143 λw0 F0 hG=> ?_
 refine sn Qb [0,1,4] [] p0 <| Qc <| tn Qb [0,1,4,10] [] (pl 1 s1_ (pl 3 s2_ p0)) <| ck ((s1_.length:Int) !=(s2_.length:Int)) (λh1=> ?_) (λh1=> ?_)
 ·exact tu Qb [(4,.b false)] [] [] [] p0 <| Qe <| pb [] (Q4 h1 (rfl))
 have h1d:=Vi h1;refine Qg <| Qc <| tu Qb [(4,.b false),(12,.i (s1_.length:Int)),(13,.i 0)] [] [] [] (pl 1 s1_ p0) <| wT 0 0 .sh s1_ (λhw2 hl3=> ?_)
 refine P0 (Br s2_) Dj s1_ () (λk0 _=> [(13,.i (k0:Int))]) [13] (λ_=> []) [0,1,12,13] wf0 (λk0 s0 hk0 U=> ?_) (λk0 s0 hk0 U=> ?_) (λy0 hD0=> ?_)
 ·obtain ⟨a0,hx0⟩:=Xm (l:=s1_) (i:=k0) hk0;refine su Qb [(14,.b true)] [] [] [] (pe 0 (zB ((k0:Int)<(s1_.length:Int))) p0) <| Qc <| ckT <| Qg <| Qc <| Qv <| sn Qb [0,1,4,5,12,13] [] p0 <| wT 1 0 .sh s2_ (λhw5 hl6=> ?_)
  have hx4:=ng s2_ k0;refine tN Qb Zg [0,1,4,12,13,24] [] (pn 2 hx0 (pn 6 hx4 p0)) <| ck (a0 !=(nth s2_ k0)) (λh7=> ?_) (λh7=> ?_)
  ·refine tu Qb [] [14] [] [] p0 <| Qe ?_
   have hr8:(Xz (Br s2_) Dj s1_ 0 ())= .ret false:=Jv hx0 (Q4 h7 (rfl)) U;exact pb [] (Qi h1 (Pd hr8))
  have h7d:=Vi h7;refine Qg <| qu Qb [(13,.i ((k0+1:Nat):Int))] [13,14] [] [] (pe 0 (Jl (Qo k0 (by omega))) p0) ?_
  exact xw _ (Qt hx0 (Qi h7 (rfl)) U)
 ·exact sn Qb [0,1,4,12,13,14] [] (pe 0 (zC ((k0:Int)<(s1_.length:Int))) p0) <| Qc <| ckF <| Q3 <| xw _ (Xn hk0 (rfl) U)
 exact sn Qb [4] [] p0 <| Qe <| pb [] (Qi h1 (Wk hD0 (rfl)))
def Jq (r:List Qm) (names:Z) (_:Nat) (a0:X0) (s0:List Qm):Rd ((List Qm)×Int×Bool) (List Qm) (List Qm):=(bif (!(Qr names a0.1)) then (.next (s0++ [(a0.1,(Xj r a0.1))])) else (.next (s0++ [((a0.1, []):Qm)])))
def Ki (_:Nat) (s0:List Qm):(List Qm):=s0
def Vm (s_:Qz) (d:List X0) (names:Z) (k1:Nat) (k3:Nat) (a3:X0) (s3:(List Qm)×Bool):Rd (Rd (Rd ((List Qm)×Int×Bool) ((List Qm)×Int) ((List Qm)×Int)) ((List Qm)×Int×Bool) ((List Qm)×Int)) ((List Qm)×Bool) ((List Qm)×Bool):=(bif (((nth (((Qx d)).1) k3) !=(k1:Int))|| (!(Qr names a3.1))) then (.next (s3.1,s3.2)) else (bif (!(Vl (Zh s_ a3.2 s3.1) ((nth s3.1 k3).2))) then (.next (zK s3.1 k3 ((nth s3.1 k3).1,(Zh s_ a3.2 s3.1)),true)) else (.next (s3.1,s3.2))))
def Cy (_:Nat) (s3:(List Qm)×Bool):(List Qm)×Bool:=(s3.1,s3.2)
def Jy (s_:Qz) (d:List X0) (names:Z) (k1:Nat) (s2:(List Qm)×Int×Bool):Rd (Rd ((List Qm)×Int×Bool) ((List Qm)×Int) ((List Qm)×Int)) ((List Qm)×Int×Bool) ((List Qm)×Int):=(bif s2.2.2 then (Out.on (Xz (Vm s_ d names k1) Cy d 0 (s2.1,false)) (λy3=>(.next (y3.1,IntKind.i64.wrap (s2.2.1+1),y3.2)))) else (.brk (s2.1,s2.2.1)))
def Jr (s_:Qz) (d:List X0) (names:Z) (k1:Nat) (s1:(List Qm)×Int):Rd ((List Qm)×Int×Bool) ((List Qm)×Int) ((List Qm)×Int):=(Out.on (I0 (Jy s_ d names k1) (zD d*zD s_.2.1+2) (s1.1,s1.2,true)) (λy2=>(.next (y2.1,y2.2))))
def Be (_:Nat) (s1:(List Qm)×Int):(List Qm)×Int:=(s1.1,s1.2)
def Yn (s_:Qz) (d:List X0) (r:List Qm) (names:Z):(List Qm)×Int×Bool:=(bif ((!(((Qx d)).2))|| (!(Qj s_))) then ([],0,false) else (Out.on (Xz (Jq r names) Ki d 0 []) (λy0=>(Out.on (Uy (Jr s_ d names) Be ((Vp d)+1).toNat 0 (y0,0)) (λy1=>(y1.1,y1.2,true))))))
theorem Qim {B:Int} {x:List Int} (hx:∀a,a∈x->a<=B) (hB:0<=B):∀(n k:Nat) (s:Int),s<=B->∃t,Uy (Bd x) Fp n k s= .brk t/\t<=B
 | 0,k,s,h=>⟨s,rfl,h⟩
 | n +1,k,s,h=>by
   obtain ⟨t,h1,h2⟩:=Qim hx hB n (k+1) (max s (nth x (k+1))) (by
    by_cases hk:k+1<x.length
    . have:=hx _ (PB hk);omega
    rw[XG (by omega)];omega)
   exact ⟨t,by simp only[Uy,Bd];exact h1,h2⟩
theorem ZG {d:List X0} (h:((Qx d)).2=true):zD ((Qx d)).1=zD d/\zD d<=5/\Vp d<=5:=by
 obtain ⟨h1,h2,h3⟩:=Gm h;refine ⟨h1,h2, ?_⟩;unfold Vp;rw[h];simp only[yI,Bool.false_or];cases hl:(((((Qx d)).1).length:Int)==(0:Int)) with
 | true=>simp only[cond_true];omega
 | false=>
  simp only[cond_false];have hp:0<(((Qx d)).1).length:=by have:=Y4 hl;omega
  unfold M5;obtain ⟨t,e,ht⟩:=Qim (B:=5) (x:=((Qx d)).1) (λa ha=>(h3 a ha).2) (by omega) ((((Qx d)).1).length-1) 0 (nth ((Qx d)).1 0) (h3 _ (PB hp)).2;rw[e];exact ht
theorem Qin (b:List Int):∀(l:List Int) (k:Nat),l.length=(b.drop k).length->Out.on (Xz (Br b) Dj l k ()) (λ_=>true)=decide (l=b.drop k)
 | [],k,h=>by
   have:b.drop k= []:=List.eq_nil_of_length_eq_zero (by rw[←h];rfl);rw[this];rfl
 | a ::l,k,h=>by
   have hk:k<b.length:=by simp only[zM,zW] at h;omega
   have hd:b.drop k=nth b k::b.drop (k+1):=by
    rw[List.drop_eq_getElem_cons hk,show nth b k=b[k] by simp[nth,xN,hk]]
   rw[hd] at h⊢;simp only[Xz,Br];by_cases e:a=nth b k
   . rw[show (a !=nth b k)=false by simp[e],cond_false,Qin b l (k+1) (by simpa using h)];simp[e]
   rw[show (a !=nth b k)=true by simp[e],cond_true];simp[e,Out.on]
theorem Qlq (a b:List Int) (h:a.length=b.length):Vl a b=decide (a=b):=by
 unfold Vl;rw[show ((a.length:Int) !=(b.length:Int))=false by simp[h],cond_false,Qin b a 0 (by simpa using h),List.drop_zero]
theorem PH (a b:List Int):Vl a b=decide (a=b):=by
 by_cases h:a.length=b.length
 . exact Qlq a b h
 have hb:((a.length:Int) !=(b.length:Int))=true:=by simpa using λe:(a.length:Int)=(b.length:Int)=>h (by omega)
 unfold Vl;rw[hb,decide_eq_false (λe=>h (congrArg zD e))];rfl
def onD (d:List X0) (names:Z) (j:Nat):Bool:=Qr names (nth d j).1
theorem T2 (s_:Qz) (d:List X0) (names:Z) (k1:Nat):Qd6 s_ d (Qx d).1 (onD d names) (k1:Int) (Vm s_ d names k1):=by
 intro k a o c hk;have ha:nth d k=a:=Od hk;unfold Vm LM onD;rw[ha,PH];simp only[bne];cases (nth (Qx d).1 k==(k1:Int))<;>cases Qr names a.1<;>rfl
section
variable {s_:Qz} {d:List X0} {names:Z} {k1:Nat} {o:List Qm} {p:Int}
theorem Cs (hS:((Qx d)).2=true) (h:EvS d ((Qx d)).1 (onD d names) s_.2.1 (k1:Int) o):∃o' p',whl (Jy s_ d names k1) (zD d*zD s_.2.1+2) (o,p,true)=some (.brk (o',p'))/\EvS d ((Qx d)).1 (onD d names) s_.2.1 ((k1:Int)+1) o':=
 Qil (f:=Vm s_ d names k1) (e:=Cy) (T2 s_ d names k1) (λ_ _=>rfl) (λ_=>rfl) (Prod.ext rfl hS) h p
theorem PI (hS:((Qx d)).2=true) (h:EvS d ((Qx d)).1 (onD d names) s_.2.1 (((k1:Nat)):Int) o):(whl (Jy s_ d names k1) (zD d*zD s_.2.1+2) (o,p,true)).isSome=true:=by
 obtain ⟨o',p',h1,_⟩:=Cs (p:=p) hS h;rw[h1];rfl
theorem Lu {y:List Qm×Int} (hS:((Qx d)).2=true) (h:EvS d ((Qx d)).1 (onD d names) s_.2.1 (((k1:Nat)):Int) o) (hy:I0 (Jy s_ d names k1) (zD d*zD s_.2.1+2) (o,p,true)= .brk y):EvS d ((Qx d)).1 (onD d names) s_.2.1 ((((k1+1):Nat)):Int) y.1:=by
 obtain ⟨o',p',h1,h2⟩:=Cs (p:=p) hS h;unfold I0 at hy;rw[h1] at hy;have e:(o',p')=y:=by simpa using hy
 rw[←e,yL];exact h2
def D1 (r:List Qm) (names:Z) (a:X0):List Int:=bif (!(Qr names a.1)) then (Xj r a.1) else []
theorem Hj {r:List Qm} (hy:Xz (Jq r names) Ki d 0 []= .brk o):EvS d ((Qx d)).1 (onD d names) s_.2.1 (((0:Nat)):Int) o:=by
 obtain ⟨h1,h2⟩:=Oi (L:=((Qx d)).1) (on:=onD d names) (fs:=s_.2.1) (g:=D1 r names) (f:=Jq r names) (e:=Ki) (d:=d) (λk a s=>by
  unfold Jq D1;cases Qr names a.1<;>rfl) (λj _ hj=>by unfold onD at hj;unfold D1;rw[hj];rfl)
 rw[h1] at hy;have e:(d.map λa=>((a.1,D1 r names a):Qm))=o:=Out.brk.inj hy;rw[←e];exact h2
end
theorem S1 (s_:Qz) (d:List X0) (r:List Qm) (names:Z):ACalls Tryz.prog 140 [.a [.h s_.1,.h s_.2.1,.i s_.2.2],.h d,.h r,.h names] (.tup [(false, [.o 0 (((Yn s_ d r names)).1)]),(false, [.i (((Yn s_ d r names)).2.1)]),(false, [.b (((Yn s_ d r names)).2.2)])]):=by
 refine en Qb Tryz.func140 λw0 F0 hG=> ?_
 refine sn Qb [1,2,3,4,8,9,10] [4] p0 <| tn Qb [1,2,3,4,8,9,10,11,12] [4] (pc 1 (Sz d) p0) <| Qc <| Qc <| mz [(4,.p 4 0),(8,.e 0),(9,.i 0),(10,.b false),(11,.o 1600 (((Qx d)).1)),(12,.b (((Qx d)).2))] [0] [(4, [.h s_.1,.h s_.2.1,.i s_.2.2])] [] <| jn [(34,.b ((!(((Qx d)).2))|| (!(Qj s_))))] [12] [] [] (!(((Qx d)).2)) (λh1=> ?_) (λh1=> ?_) ?_
 ·have h1n:(((Qx d)).2)=false:=Vj h1;refine ru Qb [(34,.b true)] [12] [] [] (pf 0 h1n (pe 1 (show .b (!false)= .b true from rfl) p0)) ?_;exact zA (by rw[h1]<;>kernel_rfl)
 ·have h1n:(((Qx d)).2)=true:=Za h1;have h1nsf:=ZG h1n;refine rn Qb [1,2,3,4,8,9,10,11,34] [4] (pt 0 h1n (pe 1 (show .b (!true)= .b false from rfl) (pc 4 (Kk s_) p0))) ?_;exact zA (by rw[h1]<;>kernel_rfl)
 refine ck ((!(((Qx d)).2))|| (!(Qj s_))) (λh2=> ?_) (λh2=> ?_)
 ·refine su Qb [] [34] [] [] p0 <| opn [(false,8,0,true,384000,2)] ?_
  exact Qe <| pz [] (show Yn s_ d r names=_ from Q4 h2 (rfl)) (λz=> .tup [(false, [.o 0 z.1]),(false, [.i z.2.1]),(false, [.b z.2.2])])
 have h2l:((!(((Qx d)).2)))=false:=Re h2;have h2ln:(((Qx d)).2)=true:=Za h2l;have h2lnsf:=ZG h2ln;have h2r:((!(Qj s_)))=false:=Pz h2;have h2rn:(Qj s_)=true:=Za h2r;refine Qg <| sn Qb [1,2,3,4,8,9,10,11,13] [4] p0 <| Qc <| tn Qb [1,2,3,4,8,9,10,11,13,36,37,38] [4] (pl 1 d p0) <| mz [(13,.one (.slc (.own true 2240) 2 [])),(36,.h d),(37,.i (d.length:Int)),(38,.i 0)] [34] [] [] <| wT 1 0 .sh d (λhw3 hl4=> ?_)
 refine KD (Jq r names) Ki d [] (λk0 s0=> [(13,.o 147208 s0),(38,.i (k0:Int))]) [13,38] (λy0=> [(13,.o 147358 y0)]) [2,13,36,37,38] (λk0 s0=>zD s0<=k0) (Xg [(2240,147208)] (by kernel_rfl)) (by simp) (λk0 s0 hk0 U=> ?_) (λk0 s0 hk0 U=> ?_) (λy0 hD0=> ?_)
 ·have hA0_0:=U.2;obtain ⟨a0,hx0⟩:=Xm (l:=d) (i:=k0) hk0;refine su Qb [(39,.b true)] [] [] [] (pe 0 (zB ((k0:Int)<(d.length:Int))) p0) <| Qc <| ckT <| Qg <| Qc <| Qv <| su Qb [(15,.p 15 0)] [39] [(15, [.s a0.1,.h a0.2])] [] (pn 0 hx0 p0) <| su Qb [(16,.p 16 0)] [] [(16, [.s a0.1,.e 1])] [] p0 <| Qc <| su Qb [(49,.b (!(Qr names a0.1)))] [] [] [] (pc 3 (Wh names a0.1) p0) <| ck (!(Qr names a0.1)) (λh5=> ?_) (λh5=> ?_)
  ·have h5n:(Qr names a0.1)=false:=Vj h5;refine rn Qb [1,2,3,4,8,9,10,11,13,16,36,37,38] [4,16] (pc 3 (Dy r a0.1) p0) ?_;refine wT 13 0 (.own true 147208) s0 (λhw6 hl7=> ?_);refine qu Qb [(13,.one (.slc (.own true 3712) 2 ((eL s0)++ [[.s a0.1,.h (Xj r a0.1)]])))] [13,15,16,49] [] [15,16] (pa s0 [(a0.1,(Xj r a0.1))] p0) ?_;refine eqn [(13,.o 3712 (s0++ [(a0.1,(Xj r a0.1))]))] [13] [] [] (by rw[show ((eL s0)++ [[.s a0.1,.h (Xj r a0.1)]])=(eL (s0++ [(a0.1,(Xj r a0.1))])) from Ju (rfl) (rfl)];first | done | kernel_rfl) ?_;refine ru Qb [(38,.i ((k0+1:Nat):Int))] [38] [] [] (pe 0 (Jl (Qo k0 (by omega))) p0) ?_;exact zE (s0++ [(a0.1,(Xj r a0.1))]) (zH (Xg [(3712,147208)] (by kernel_rfl)) ⟨Qt hx0 (Q4 h5 (rfl)) U.1,by first|omega|(simp;omega) | simp⟩)
  have h5n:(Qr names a0.1)=true:=Za h5;refine Qg <| wT 13 0 (.own true 147208) s0 (λhw8 hl9=> ?_)
  refine ru Qb [(13,.one (.slc (.own true 3712) 2 ((eL s0)++ [[.s a0.1,.slc 1 []]])))] [13,15,16,49] [] [15,16] (pa s0 [((a0.1, []):Qm)] p0) ?_;refine eqn [(13,.o 3712 (s0++ [((a0.1, []):Qm)]))] [13] [] [] (by rw[show ((eL s0)++ [[.s a0.1,.slc 1 []]])=(eL (s0++ [((a0.1, []):Qm)])) from Ju (rfl) (rfl)];first | done | kernel_rfl) ?_;refine ru Qb [(38,.i ((k0+1:Nat):Int))] [38] [] [] (pe 0 (Jl (Qo k0 (by omega))) p0) ?_;exact zE (s0++ [((a0.1, []):Qm)]) (zH (Xg [(3712,147208)] (by kernel_rfl)) ⟨Qt hx0 (Qi h5 (rfl)) U.1,by first|omega|(simp;omega) | simp⟩)
 ·have hA0_0:=U.2;exact su Qb [(39,.b false)] [] [] [] (pe 0 (zC ((k0:Int)<(d.length:Int))) p0) <| Qc <| ckF <| Q3 <| zE _ (zH (Xg [(147208,147358)] (by kernel_rfl)) (Xn hk0 (rfl) U.1))
 refine su Qb [(17,.i 0)] [] [] [] p0 <| Qc <| su Qb [(18,.i 0)] [] [] [] p0 <| Qc5 (Jr s_ d names) Be ((Vp d)+1).toNat (y0,0) (λk1 s1=> [(13,.o 147358 s1.1),(17,.i s1.2),(18,.i (k1:Int))]) [13,17,18] (λ_ _=> []) [] (λy1=> [(13,.o 147358 y1.1),(17,.i y1.2)]) [1,3,4,11,13,17,18] (λ_=> []) [4] (λk1 s1=>EvS d ((Qx d)).1 (onD d names) s_.2.1 (((k1:Nat)):Int) s1.1/\zD s1.1=zD d) wf0 ⟨(by first | exact Hj hD0 | exact Hj hD0.1 | exact Da (fs:=s_.2.1) (Hj hD0) | exact Da (fs:=s_.2.1) (Hj hD0.1)),(by first | exact Hj hD0 | exact Hj hD0.1 | exact Da (fs:=s_.2.1) (Hj hD0) | exact Da (fs:=s_.2.1) (Hj hD0.1))⟩ (λk1 s1 hk1 hI1=> ?_) (λk1 s1 hk1 hI1=> ?_) (λy1 hD1=> ?_)
 ·have hA1_0:=hI1.2.1;have hA1_1:=hI1.2.2;refine Qc <| su Qb [(63,.b true)] [] [] [] (pc 2 (R1 d) (pe 3 (zB ((k1:Int)<=(Vp d))) p0)) <| ckT <| Qg <| Qc <| Qv <| su Qb [(19,.b true)] [63] [] [] p0 <| blw (λ(s2:(List Qm)×Int×Bool)=> [(13,.o 147358 s2.1),(17,.i s2.2.1),(19,.b s2.2.2)]) [13,17,19] (λs2=> []) [] (λ(y2:(List Qm)×Int)=> [(13,.o 147358 y2.1),(17,.i y2.2)]) [13,17,19] (λy2=> []) [] (λ(k2:Nat) (s2:(List Qm)×Int×Bool)=>whl (Jy s_ d names k1) k2 s2=some (I0 (Jy s_ d names k1) (zD d*zD s_.2.1+2) (s1.1,s1.2,true))/\zD s2.1=zD d) (λ(y2:(List Qm)×Int)=>(I0 (Jy s_ d names k1) (zD d*zD s_.2.1+2) (s1.1,s1.2,true))= .brk y2) (zD d*zD s_.2.1+2) (s1.1,s1.2,true) wf0 ⟨Fl (PI (by assumption) (by assumption)),(by assumption)⟩ (λ_ h=>G1 h.1) (λk2 s2 hI2=> ?_) (λy2 hD2=> ?_)
  ·have hA2_0:=hI2.2;refine Qc <| su Qb [(66,.b s2.2.2)] [] [] [] p0 <| ck s2.2.2 (λh10=> ?_) (λh10=> ?_)
   ·refine Qg <| Qv <| su Qb [(19,.b false)] [19,66] [] [] p0 <| sn Qb [1,3,4,8,9,10,11,13,17,18,19] [4] p0 <| tn Qb [1,3,4,8,9,10,11,13,17,18,19,69,70,71] [4] (pl 1 d p0) <| mz [(17,.i (IntKind.i64.wrap (s2.2.1+1))),(69,.h d),(70,.i (d.length:Int)),(71,.i 0)] [17] [] [] <| Qbq (Vm s_ d names k1) Cy d (s2.1,false) (λk3 s3=> [(13,.o 147358 s3.1),(19,.b s3.2),(71,.i (k3:Int))]) [13,19,71] (λy3=> [(13,.o 147358 y3.1),(19,.b y3.2)]) [13,19,69,70,71] (λ_ s3=>zD s3.1=zD s2.1) (λy3=>zD y3.1=zD s2.1) wf0 (by simp) (λk3 s3 hk3 hI3=> ?_) (λk3 s3 hk3 hI3=> ?_) (λy3 hD3=> ?_)
    ·have hA3_0:=hI3.2;obtain ⟨a3,hx3⟩:=Xm (l:=d) (i:=k3) hk3;refine su Qb [(72,.b true)] [] [] [] (pe 0 (zB ((k3:Int)<(d.length:Int))) p0) <| Qc <| ckT <| Qg <| Qc <| Qv <| sn Qb [1,3,4,8,9,10,11,13,17,18,19,20,21,69,70,71] [4,21] (pn 1 hx3 p0) <| Qc <| Qc <| mz [(20,.i (k3:Int)),(21,.p 21 0)] [72] [(21, [.s a3.1,.h a3.2])] [] <| jn [(88,.b (((nth (((Qx d)).1) k3) !=(k1:Int))|| (!(Qr names a3.1))))] [] [] [] ((nth (((Qx d)).1) k3) !=(k1:Int)) (λh11=> ?_) (λh11=> ?_) ?_
     ·have h11d:=Sq h11;refine wT 11 0 (.own true 1600) (((Qx d)).1) (λhw13 hl14=> ?_);have hx12:=ng (((Qx d)).1) k3;refine ru Qb [(88,.b true)] [] [] [] (pN 2 hx12 (pt 5 h11 p0)) ?_;exact zA (by rw[h11]<;>kernel_rfl)
     ·have h11d:=Vi h11;refine wT 11 0 (.own true 1600) (((Qx d)).1) (λhw16 hl17=> ?_);have hx15:=ng (((Qx d)).1) k3;refine ru Qb [(88,.b (!(Qr names a3.1)))] [] [] [] (pN 2 hx15 (pf 5 h11 (pc 10 (Wh names a3.1) p0))) ?_;exact zA (by rw[h11]<;>kernel_rfl)
     refine ck (((nth (((Qx d)).1) k3) !=(k1:Int))|| (!(Qr names a3.1))) (λh18=> ?_) (λh18=> ?_)
     ·refine Q3 <| rn Qb [1,3,4,8,9,10,11,13,17,18,19,69,70,71] [4] (pe 0 (Jl (Qo k3 (by omega))) p0) ?_
      exact xw (s3.1,s3.2) ⟨Qt hx3 (Q4 h18 (rfl)) hI3.1,(by first|omega|(simp only[zF];omega))⟩
     have h18l:(((nth (((Qx d)).1) k3) !=(k1:Int)))=false:=Re h18;have h18ld:=Vi h18l;have h18r:((!(Qr names a3.1)))=false:=Pz h18;have h18rn:(Qr names a3.1)=true:=Za h18r;refine Qg <| su Qb [(22,.o 5952 (Zh s_ a3.2 s3.1))] [21,88] [] [21] (pc 4 (KK s_ a3.2 s3.1) p0) <| wT 13 0 (.own true 147358) s3.1 (λhw20 hl21=> ?_)
     have hx19:=ng s3.1 k3;refine sn Qb [1,3,4,8,9,10,11,13,17,18,19,20,22,69,70,71,101] [4] (pN 3 hx19 (pc 6 (Pr (Zh s_ a3.2 s3.1) ((nth s3.1 k3).2)) p0)) <| ck (!(Vl (Zh s_ a3.2 s3.1) ((nth s3.1 k3).2))) (λh22=> ?_) (λh22=> ?_)
     ·have h22n:(Vl (Zh s_ a3.2 s3.1) ((nth s3.1 k3).2))=false:=Vj h22;refine tu Qb [(13,.one (.slc (.own true 147358) 2 (setRow (eL s3.1) k3 1 [.h (Zh s_ a3.2 s3.1)])))] [13,20,22] [] [] (pN 3 hx19 p0) <| eqn [(13,.o 147358 (zK s3.1 k3 ((nth s3.1 k3).1,(Zh s_ a3.2 s3.1))))] [13] [] [] (by rw[Jm (y:=((nth s3.1 k3).1,(Zh s_ a3.2 s3.1))) hx19 rfl]<;>kernel_rfl) ?_
      refine ru Qb [(19,.b true)] [19] [] [] p0 ?_;refine ru Qb [(71,.i ((k3+1:Nat):Int))] [71] [] [] (pe 0 (Jl (Qo k3 (by omega))) p0) ?_;exact xw (zK s3.1 k3 ((nth s3.1 k3).1,(Zh s_ a3.2 s3.1)),true) ⟨Qt hx3 (Qi h18 (Q4 h22 (rfl))) hI3.1,(by first|omega|(simp only[zF];omega))⟩
     have h22n:(Vl (Zh s_ a3.2 s3.1) ((nth s3.1 k3).2))=true:=Za h22;refine Qg <| qu Qb [(71,.i ((k3+1:Nat):Int))] [20,22,71] [] [] (pe 0 (Jl (Qo k3 (by omega))) p0) ?_
     exact xw (s3.1,s3.2) ⟨Qt hx3 (Qi h18 (Qi h22 (rfl))) hI3.1,(by first|omega|(simp only[zF];omega))⟩
    ·have hA3_0:=hI3.2;exact su Qb [(72,.b false)] [] [] [] (pe 0 (zC ((k3:Int)<(d.length:Int))) p0) <| Qc <| ckF <| Q3 <| xw (s3.1,s3.2) ⟨Xn hk3 (rfl) hI3.1,by first|omega|(simp only[zF];omega)⟩
    have hD3_0:=hD3.2;exact xw (y3.1,IntKind.i64.wrap (s2.2.1+1),y3.2) ⟨wn hI2.1 (Q4 h10 (Wk hD3.1 (rfl))),(by first|omega|(simp only[zF];omega))⟩
   exact Q3 <| xw _ (wb hI2.1 (Qi h10 (rfl)))
  refine rn Qb [1,3,4,8,9,10,11,13,17,18] [4] (pe 1 (Jl (Qo k1 (by omega))) p0) ?_;exact xw (y2.1,y2.2) ⟨V2 hk1 (Wk hD2 (rfl)) hI1.1,(by first | exact Lu (by assumption) (by assumption) (by assumption) | exact Da (fs:=s_.2.1) (Lu (by assumption) (by assumption) (by assumption))),(by first | exact Lu (by assumption) (by assumption) (by assumption) | exact Da (fs:=s_.2.1) (Lu (by assumption) (by assumption) (by assumption)))⟩
 ·have hA1_0:=hI1.2.1;have hA1_1:=hI1.2.2;exact Qc <| su Qb [(63,.b false)] [] [] [] (pc 2 (R1 d) (pe 3 (zC ((k1:Int)<=(Vp d))) p0)) <| ckF <| Q3 <| xw _ (Dc hk1 (rfl) hI1.1)
 exact sn Qb [8,9,10] [] p0 <| Qe <| pz [] (show Yn s_ d r names=_ from Qi h2 (Wk hD0 (Wk hD1 (rfl)))) (λz=> .tup [(false, [.o 0 z.1]),(false, [.i z.2.1]),(false, [.b z.2.2])])
def Yu (s_:Qz) (d:List X0):(List Qm)×Bool:=(((Yn s_ d [] (Xv d))).1,((Yn s_ d [] (Xv d))).2.2)
theorem T3 (s_:Qz) (d:List X0):ACalls Tryz.prog 91 [.a [.h s_.1,.h s_.2.1,.i s_.2.2],.h d] (.tup [(false, [.o 0 (((Yu s_ d)).1)]),(false, [.b (((Yu s_ d)).2)])]):=by
 refine en Qb Tryz.func91 λw0 F0 hG=> ?_
 exact sn Qb [1,2,4,5] [2] p0 <| tN Qb Zg [4,5,6,8] [] (pc 3 (Lt d) (pc 4 (PG (.cons (ArgLe.rfl _) (.cons (ArgLe.rfl _) (.cons (ArgLe.nil 2) (.cons (ArgLe.rfl _) (.nil))))) (S1 s_ d [] (Xv d))) p0)) <| tu Qb [(4,.o 896 (((Yn s_ d [] (Xv d))).1)),(5,.b (((Yn s_ d [] (Xv d))).2.2))] [0,1] [] [] p0 <| Qe <| pz [] (show Yu s_ d=(((Yn s_ d [] (Xv d))).1,((Yn s_ d [] (Xv d))).2.2) from rfl) (λz=> .tup [(false, [.o 0 z.1]),(false, [.b z.2])])
def Ai (_:Nat) (a0:Int) (s0:Int):Rd (Int) (Int) (Int):=(bif decide (a0>s0) then (.next a0) else (.next s0))
def Eg (_:Nat) (s0:Int):Int:=s0
def Vq (d:List X0):Int:=(Out.on (Xz Ai Eg (((Xi d)).1) 0 (-1)) (λy0=>y0))
theorem Fq (d:List X0):ACalls Tryz.prog 175 [.h d] (.i (Vq d)):=by
 refine en Qb Tryz.func175 λw0 F0 hG=> ?_
 refine sn Qb [0,2] [] p0 <| tn Qb [2,3] [] (pc 1 (Oh d) p0) <| tu Qb [(2,.i 0),(3,.o 576 (((Xi d)).1)),(5,.i (-1))] [0] [] [] p0 <| Qc <| sn Qb [2,3,5,6] [] p0 <| mz [(6,.i 0)] [] [] [] <| wT 3 0 (.own true 576) (((Xi d)).1) (λhw1 hl2=> ?_)
 refine P0 Ai Eg (((Xi d)).1) (-1) (λk0 s0=> [(5,.i s0),(6,.i (k0:Int))]) [5,6] (λy0=> [(5,.i y0)]) [3,5,6] wf0 (λk0 s0 hk0 U=> ?_) (λk0 s0 hk0 U=> ?_) (λy0 hD0=> ?_)
 ·obtain ⟨a0,hx0⟩:=Xm (l:=((Xi d)).1) (i:=k0) hk0;refine Qc <| sn Qb [2,3,5,6,15] [] (pl 2 (((Xi d)).1) (pe 3 (zB ((k0:Int)<((((Xi d)).1).length:Int))) p0)) <| ckT <| Qg <| Qc <| Qv <| tn Qb [2,3,5,6,23] [] (pN 2 hx0 p0) <| ck (decide (a0>s0)) (λh3=> ?_) (λh3=> ?_)
  ·have h3d:=of_decide_eq_true h3;refine qu Qb [(5,.i a0)] [5] [] [] (pN 2 hx0 p0) ?_;refine rn Qb [2,3,5,6] [] (pe 1 (Jl (Qo k0 (by omega))) p0) ?_;exact xw _ (Qt hx0 (Q4 h3 (rfl)) U)
  have h3d:=of_decide_eq_false h3;refine Qg <| qu Qb [(6,.i ((k0+1:Nat):Int))] [6] [] [] (pe 1 (Jl (Qo k0 (by omega))) p0) ?_
  exact xw _ (Qt hx0 (Qi h3 (rfl)) U)
 ·exact Qc <| sn Qb [2,3,5,6,15] [] (pl 2 (((Xi d)).1) (pe 3 (zC ((k0:Int)<((((Xi d)).1).length:Int))) p0)) <| ckF <| Q3 <| xw _ (Xn hk0 (rfl) U)
 exact sn Qb [2] [] p0 <| Qe <| pi [] (Wk hD0 (rfl))
def Eh (_:Nat) (a0:X0) (s0:List Qm):Rd ((List Qm)×Int×Bool) (List Qm) (List Qm):=(.next (s0++ [((a0.1, []):Qm)]))
def Ig (_:Nat) (s0:List Qm):(List Qm):=s0
def Bs (s_:Qz) (d:List X0) (k1:Nat) (k3:Nat) (a3:X0) (s3:(List Qm)×Bool):Rd (Rd (Rd ((List Qm)×Int×Bool) ((List Qm)×Int) ((List Qm)×Int)) ((List Qm)×Int×Bool) ((List Qm)×Int)) ((List Qm)×Bool) ((List Qm)×Bool):=(bif ((nth (((Xi d)).1) k3) !=(k1:Int)) then (.next (s3.1,s3.2)) else (bif (!(Vb (Y0 s_ a3.2 s3.1) ((nth s3.1 k3).2))) then (.next (zK s3.1 k3 ((nth s3.1 k3).1,(Y0 s_ a3.2 s3.1)),true)) else (.next (s3.1,s3.2))))
def M6 (_:Nat) (s3:(List Qm)×Bool):(List Qm)×Bool:=(s3.1,s3.2)
def H6 (s_:Qz) (d:List X0) (k1:Nat) (s2:(List Qm)×Int×Bool):Rd (Rd ((List Qm)×Int×Bool) ((List Qm)×Int) ((List Qm)×Int)) ((List Qm)×Int×Bool) ((List Qm)×Int):=(bif s2.2.2 then (Out.on (Xz (Bs s_ d k1) M6 d 0 (s2.1,false)) (λy3=>(.next (y3.1,IntKind.i64.wrap (s2.2.1+1),y3.2)))) else (.brk (s2.1,s2.2.1)))
def M7 (s_:Qz) (d:List X0) (k1:Nat) (s1:(List Qm)×Int):Rd ((List Qm)×Int×Bool) ((List Qm)×Int) ((List Qm)×Int):=(Out.on (I0 (H6 s_ d k1) (zD d*zD s_.2.1+2) (s1.1,s1.2,true)) (λy2=>(.next (y2.1,y2.2))))
def ZH (_:Nat) (s1:(List Qm)×Int):(List Qm)×Int:=(s1.1,s1.2)
def Aj (s_:Qz) (d:List X0):(List Qm)×Int×Bool:=(bif ((!(((Xi d)).2))|| (!(Xc s_))) then ([],0,false) else (Out.on (Xz Eh Ig d 0 []) (λy0=>(Out.on (Uy (M7 s_ d) ZH ((Vq d)+1).toNat 0 (y0,0)) (λy1=>(y1.1,y1.2,true))))))
theorem PJ {B:Int}:∀(x:List Int) (k:Nat) (s:Int),(∀a,a∈x->a<=B)->s<=B->∃t,Xz Ai Eg x k s= .brk t/\t<=B
 | [],k,s,_,h=>⟨s,rfl,h⟩
 | a::x,k,s,hx,h=>by
  simp only[Xz,Ai];cases hc:decide (a>s) with
  | true=>exact PJ x (k+1) a (λb hb=>hx b (zI _ hb)) (hx a (zP ..))
  | false=>exact PJ x (k+1) s (λb hb=>hx b (zI _ hb)) h
theorem M8 {d:List X0} (h:((Xi d)).2=true):zD ((Xi d)).1=zD d/\zD d<=5/\Vq d<=5:=by
 have h':=h;rw[W8] at h';obtain ⟨h1,h2,h3⟩:=Gm h';unfold Vq;rw[W8];obtain ⟨t,e,ht⟩:=PJ (B:=5) ((Qx d)).1 0 (-1) (λa ha=>(h3 a ha).2) (by omega);refine ⟨h1,h2, ?_⟩;rw[e];exact ht
theorem PK (s_:Qz) (d:List X0) (k1:Nat):Qd6 s_ d (Qx d).1 (λ_=>true) (k1:Int) (Bs s_ d k1):=by
 intro k a o c hk;unfold Bs LM;rw[UF,W8,←AD];simp only[bne];cases (nth (Qx d).1 k==(k1:Int))<;>rfl
section
variable {s_:Qz} {d:List X0} {k1:Nat} {o:List Qm} {p:Int}
theorem DU (hS:((Xi d)).2=true) (h:EvS d ((Xi d)).1 (λ_=>true) s_.2.1 (k1:Int) o):∃o' p',whl (H6 s_ d k1) (zD d*zD s_.2.1+2) (o,p,true)=some (.brk (o',p'))/\EvS d ((Xi d)).1 (λ_=>true) s_.2.1 ((k1:Int)+1) o':=by
 rw[W8] at hS h⊢;exact Qil (f:=Bs s_ d k1) (e:=M6) (PK s_ d k1) (λ_ _=>rfl) (λ_=>rfl) (Prod.ext rfl hS) h p
theorem Qg4 (hS:((Xi d)).2=true) (h:EvS d ((Xi d)).1 (λ_=>true) s_.2.1 (((k1:Nat)):Int) o):(whl (H6 s_ d k1) (zD d*zD s_.2.1+2) (o,p,true)).isSome=true:=by
 obtain ⟨o',p',h1,_⟩:=DU (p:=p) hS h;rw[h1];rfl
theorem Rm {y:List Qm×Int} (hS:((Xi d)).2=true) (h:EvS d ((Xi d)).1 (λ_=>true) s_.2.1 (((k1:Nat)):Int) o) (hy:I0 (H6 s_ d k1) (zD d*zD s_.2.1+2) (o,p,true)= .brk y):EvS d ((Xi d)).1 (λ_=>true) s_.2.1 ((((k1+1):Nat)):Int) y.1:=by
 obtain ⟨o',p',h1,h2⟩:=DU (p:=p) hS h;unfold I0 at hy;rw[h1] at hy;have e:(o',p')=y:=by simpa using hy
 rw[←e,yL];exact h2
theorem Ck (hy:Xz Eh Ig d 0 []= .brk o):EvS d ((Xi d)).1 (λ_=>true) s_.2.1 (((0:Nat)):Int) o:=by
 obtain ⟨h1,h2⟩:=Oi (L:=((Xi d)).1) (on:=λ_=>true) (fs:=s_.2.1) (g:=λ_=> []) (f:=Eh) (e:=Ig) (d:=d) (λk a s=>rfl) (λj _ hj=>rfl);rw[h1] at hy;have e:(d.map λa=>((a.1,([]:List Int)):Qm))=o:=Out.brk.inj hy;rw[←e];exact h2
end
theorem LN (s_:Qz) (d:List X0):ACalls Tryz.prog 121 [.a [.h s_.1,.h s_.2.1,.i s_.2.2],.h d] (.tup [(false, [.o 0 (((Aj s_ d)).1)]),(false, [.i (((Aj s_ d)).2.1)]),(false, [.b (((Aj s_ d)).2.2)])]):=by
 refine en Qb Tryz.func121 λw0 F0 hG=> ?_
 refine sn Qb [1,2,4,5,6] [2] p0 <| tn Qb [1,2,4,5,6,7,8] [2] (pc 1 (Oh d) p0) <| Qc <| Qc <| mz [(2,.p 2 0),(4,.e 0),(5,.i 0),(6,.b false),(7,.o 1152 (((Xi d)).1)),(8,.b (((Xi d)).2))] [0] [(2, [.h s_.1,.h s_.2.1,.i s_.2.2])] [] <| jn [(27,.b ((!(((Xi d)).2))|| (!(Xc s_))))] [8] [] [] (!(((Xi d)).2)) (λh1=> ?_) (λh1=> ?_) ?_
 ·have h1n:(((Xi d)).2)=false:=Vj h1;refine ru Qb [(27,.b true)] [8] [] [] (pf 0 h1n (pe 1 (show .b (!false)= .b true from rfl) p0)) ?_;exact zA (by rw[h1]<;>kernel_rfl)
 ·have h1n:(((Xi d)).2)=true:=Za h1;have h1nsf:=M8 h1n;refine rn Qb [1,2,4,5,6,7,27] [2] (pt 0 h1n (pe 1 (show .b (!true)= .b false from rfl) (pc 4 (Kl s_) p0))) ?_;exact zA (by rw[h1]<;>kernel_rfl)
 refine ck ((!(((Xi d)).2))|| (!(Xc s_))) (λh2=> ?_) (λh2=> ?_)
 ·exact sn Qb [1,2,4,5,6,7] [2] p0 <| Qe <| pz [] (show Aj s_ d=_ from Q4 h2 (rfl)) (λz=> .tup [(false, [.o 0 z.1]),(false, [.i z.2.1]),(false, [.b z.2.2])])
 have h2l:((!(((Xi d)).2)))=false:=Re h2;have h2ln:(((Xi d)).2)=true:=Za h2l;have h2lnsf:=M8 h2ln;have h2r:((!(Xc s_)))=false:=Pz h2;have h2rn:(Xc s_)=true:=Za h2r;refine Qg <| sn Qb [1,2,4,5,6,7,9] [2] p0 <| Qc <| tn Qb [1,2,4,5,6,7,9,10] [2] p0 <| mz [(9,.one (.slc (.own true 1856) 2 [])),(10,.i 0)] [27] [] [] <| wT 1 0 .sh d (λhw3 hl4=> ?_)
 refine KD Eh Ig d [] (λk0 s0=> [(9,.o 147206 s0),(10,.i (k0:Int))]) [9,10] (λy0=> [(9,.o 147356 y0)]) [9,10] (λk0 s0=>zD s0<=k0) (Xg [(1856,147206)] (by kernel_rfl)) (by simp) (λk0 s0 hk0 U=> ?_) (λk0 s0 hk0 U=> ?_) (λy0 hD0=> ?_)
 ·have hA0_0:=U.2;obtain ⟨a0,hx0⟩:=Xm (l:=d) (i:=k0) hk0;refine Qc <| su Qb [(33,.b true)] [] [] [] (pl 2 d (pe 3 (zB ((k0:Int)<(d.length:Int))) p0)) <| ckT <| Qg <| Qc <| Qv <| wT 9 0 (.own true 147206) s0 (λhw5 hl6=> ?_)
  refine ru Qb [(9,.one (.slc (.own true 2880) 2 ((eL s0)++ [[.s a0.1,.slc 1 []]])))] [9,33] [] [] (pn 3 hx0 (pa s0 [((a0.1, []):Qm)] p0)) ?_;refine eqn [(9,.o 2880 (s0++ [((a0.1, []):Qm)]))] [9] [] [] (by rw[show ((eL s0)++ [[.s a0.1,.slc 1 []]])=(eL (s0++ [((a0.1, []):Qm)])) from Ju (rfl) (rfl)];first | done | kernel_rfl) ?_;refine rn Qb [1,2,4,5,6,7,9,10] [2] (pe 1 (Jl (Qo k0 (by omega))) p0) ?_;exact zE (s0++ [((a0.1, []):Qm)]) (zH (Xg [(2880,147206)] (by kernel_rfl)) ⟨Qt hx0 (rfl) U.1,by first|omega|(simp;omega) | simp⟩)
 ·have hA0_0:=U.2;exact Qc <| su Qb [(33,.b false)] [] [] [] (pl 2 d (pe 3 (zC ((k0:Int)<(d.length:Int))) p0)) <| ckF <| Q3 <| zE _ (zH (Xg [(147206,147356)] (by kernel_rfl)) (Xn hk0 (rfl) U.1))
 refine su Qb [(11,.i 0)] [] [] [] p0 <| Qc <| su Qb [(12,.i 0)] [] [] [] p0 <| Qc5 (M7 s_ d) ZH ((Vq d)+1).toNat (y0,0) (λk1 s1=> [(9,.o 147356 s1.1),(11,.i s1.2),(12,.i (k1:Int))]) [9,11,12] (λ_ _=> []) [] (λy1=> [(9,.o 147356 y1.1),(11,.i y1.2)]) [1,2,7,9,11,12] (λ_=> []) [2] (λk1 s1=>EvS d ((Xi d)).1 (λ_=>true) s_.2.1 (((k1:Nat)):Int) s1.1/\zD s1.1=zD d) wf0 ⟨(by first | exact Ck hD0 | exact Ck hD0.1 | exact Da (fs:=s_.2.1) (Ck hD0) | exact Da (fs:=s_.2.1) (Ck hD0.1)),(by first | exact Ck hD0 | exact Ck hD0.1 | exact Da (fs:=s_.2.1) (Ck hD0) | exact Da (fs:=s_.2.1) (Ck hD0.1))⟩ (λk1 s1 hk1 hI1=> ?_) (λk1 s1 hk1 hI1=> ?_) (λy1 hD1=> ?_)
 ·have hA1_0:=hI1.2.1;have hA1_1:=hI1.2.2;refine Qc <| su Qb [(49,.b true)] [] [] [] (pc 2 (Fq d) (pe 3 (zB ((k1:Int)<=(Vq d))) p0)) <| ckT <| Qg <| Qc <| Qv <| su Qb [(13,.b true)] [49] [] [] p0 <| blw (λ(s2:(List Qm)×Int×Bool)=> [(9,.o 147356 s2.1),(11,.i s2.2.1),(13,.b s2.2.2)]) [9,11,13] (λs2=> []) [] (λ(y2:(List Qm)×Int)=> [(9,.o 147356 y2.1),(11,.i y2.2)]) [9,11,13] (λy2=> []) [] (λ(k2:Nat) (s2:(List Qm)×Int×Bool)=>whl (H6 s_ d k1) k2 s2=some (I0 (H6 s_ d k1) (zD d*zD s_.2.1+2) (s1.1,s1.2,true))/\zD s2.1=zD d) (λ(y2:(List Qm)×Int)=>(I0 (H6 s_ d k1) (zD d*zD s_.2.1+2) (s1.1,s1.2,true))= .brk y2) (zD d*zD s_.2.1+2) (s1.1,s1.2,true) wf0 ⟨Fl (Qg4 (by assumption) (by assumption)),(by assumption)⟩ (λ_ h=>G1 h.1) (λk2 s2 hI2=> ?_) (λy2 hD2=> ?_)
  ·have hA2_0:=hI2.2;refine Qc <| su Qb [(52,.b s2.2.2)] [] [] [] p0 <| ck s2.2.2 (λh7=> ?_) (λh7=> ?_)
   ·refine Qg <| Qv <| su Qb [(13,.b false)] [13,52] [] [] p0 <| sn Qb [1,2,4,5,6,7,9,11,12,13] [2] p0 <| tn Qb [1,2,4,5,6,7,9,11,12,13,14] [2] p0 <| mz [(11,.i (IntKind.i64.wrap (s2.2.1+1))),(14,.i 0)] [11] [] [] <| Qbq (Bs s_ d k1) M6 d (s2.1,false) (λk3 s3=> [(9,.o 147356 s3.1),(13,.b s3.2),(14,.i (k3:Int))]) [9,13,14] (λy3=> [(9,.o 147356 y3.1),(13,.b y3.2)]) [9,13,14] (λ_ s3=>zD s3.1=zD s2.1) (λy3=>zD y3.1=zD s2.1) wf0 (by simp) (λk3 s3 hk3 hI3=> ?_) (λk3 s3 hk3 hI3=> ?_) (λy3 hD3=> ?_)
    ·have hA3_0:=hI3.2;obtain ⟨a3,hx3⟩:=Xm (l:=d) (i:=k3) hk3;refine Qc <| su Qb [(58,.b true)] [] [] [] (pl 2 d (pe 3 (zB ((k3:Int)<(d.length:Int))) p0)) <| ckT <| Qg <| Qc <| Qv <| Qc <| wT 7 0 (.own true 1152) (((Xi d)).1) (λhw9 hl10=> ?_)
     have hx8:=ng (((Xi d)).1) k3;refine sn Qb [1,2,4,5,6,7,9,11,12,13,14,66] [2] (pN 2 hx8 p0) <| ck ((nth (((Xi d)).1) k3) !=(k1:Int)) (λh11=> ?_) (λh11=> ?_)
     ·have h11d:=Sq h11;refine Q3 <| qn Qb [1,2,4,5,6,7,9,11,12,13,14] [2] (pe 1 (Jl (Qo k3 (by omega))) p0) ?_
      exact xw (s3.1,s3.2) ⟨Qt hx3 (Q4 h11 (rfl)) hI3.1,(by first|omega|(simp only[zF];omega))⟩
     have h11d:=Vi h11;refine Qg <| tN Qb Zg [1,2,4,5,6,7,9,11,12,13,14,15] [2] (pn 3 hx3 (pc 7 (Pq s_ a3.2 s3.1) p0)) <| wT 9 0 (.own true 147356) s3.1 (λhw13 hl14=> ?_)
     have hx12:=ng s3.1 k3;refine tu Qb [(15,.o 4736 (Y0 s_ a3.2 s3.1)),(82,.b (!(Vb (Y0 s_ a3.2 s3.1) ((nth s3.1 k3).2))))] [58] [] [] (pN 3 hx12 (pc 6 (M2 (Y0 s_ a3.2 s3.1) ((nth s3.1 k3).2)) p0)) <| ck (!(Vb (Y0 s_ a3.2 s3.1) ((nth s3.1 k3).2))) (λh15=> ?_) (λh15=> ?_)
     ·have h15n:(Vb (Y0 s_ a3.2 s3.1) ((nth s3.1 k3).2))=false:=Vj h15;refine su Qb [(9,.one (.slc (.own true 147356) 2 (setRow (eL s3.1) k3 1 [.h (Y0 s_ a3.2 s3.1)])))] [9,15,82] [] [] (pN 3 hx12 p0) <| eqn [(9,.o 147356 (zK s3.1 k3 ((nth s3.1 k3).1,(Y0 s_ a3.2 s3.1))))] [9] [] [] (by rw[Jm (y:=((nth s3.1 k3).1,(Y0 s_ a3.2 s3.1))) hx12 rfl]<;>kernel_rfl) ?_
      refine ru Qb [(13,.b true)] [13] [] [] p0 ?_;refine rn Qb [1,2,4,5,6,7,9,11,12,13,14] [2] (pe 1 (Jl (Qo k3 (by omega))) p0) ?_;exact xw (zK s3.1 k3 ((nth s3.1 k3).1,(Y0 s_ a3.2 s3.1)),true) ⟨Qt hx3 (Qi h11 (Q4 h15 (rfl))) hI3.1,(by first|omega|(simp only[zF];omega))⟩
     have h15n:(Vb (Y0 s_ a3.2 s3.1) ((nth s3.1 k3).2))=true:=Za h15;refine Qg <| rn Qb [1,2,4,5,6,7,9,11,12,13,14] [2] (pe 1 (Jl (Qo k3 (by omega))) p0) ?_
     exact xw (s3.1,s3.2) ⟨Qt hx3 (Qi h11 (Qi h15 (rfl))) hI3.1,(by first|omega|(simp only[zF];omega))⟩
    ·have hA3_0:=hI3.2;exact Qc <| su Qb [(58,.b false)] [] [] [] (pl 2 d (pe 3 (zC ((k3:Int)<(d.length:Int))) p0)) <| ckF <| Q3 <| xw (s3.1,s3.2) ⟨Xn hk3 (rfl) hI3.1,by first|omega|(simp only[zF];omega)⟩
    have hD3_0:=hD3.2;exact xw (y3.1,IntKind.i64.wrap (s2.2.1+1),y3.2) ⟨wn hI2.1 (Q4 h7 (Wk hD3.1 (rfl))),(by first|omega|(simp only[zF];omega))⟩
   exact Q3 <| xw _ (wb hI2.1 (Qi h7 (rfl)))
  refine rn Qb [1,2,4,5,6,7,9,11,12] [2] (pe 1 (Jl (Qo k1 (by omega))) p0) ?_;exact xw (y2.1,y2.2) ⟨V2 hk1 (Wk hD2 (rfl)) hI1.1,(by first | exact Rm (by assumption) (by assumption) (by assumption) | exact Da (fs:=s_.2.1) (Rm (by assumption) (by assumption) (by assumption))),(by first | exact Rm (by assumption) (by assumption) (by assumption) | exact Da (fs:=s_.2.1) (Rm (by assumption) (by assumption) (by assumption)))⟩
 ·have hA1_0:=hI1.2.1;have hA1_1:=hI1.2.2;exact Qc <| su Qb [(49,.b false)] [] [] [] (pc 2 (Fq d) (pe 3 (zC ((k1:Int)<=(Vq d))) p0)) <| ckF <| Q3 <| xw _ (Dc hk1 (rfl) hI1.1)
 exact sn Qb [4,5,6] [] p0 <| Qe <| pz [] (show Aj s_ d=_ from Qi h2 (Wk hD0 (Wk hD1 (rfl)))) (λz=> .tup [(false, [.o 0 z.1]),(false, [.i z.2.1]),(false, [.b z.2.2])])
def Js (s_:Qz) (d:List X0):(List Qm)×Bool:=(((Aj s_ d)).1,((Aj s_ d)).2.2)
theorem O6 (s_:Qz) (d:List X0):ACalls Tryz.prog 64 [.a [.h s_.1,.h s_.2.1,.i s_.2.2],.h d] (.tup [(false, [.o 0 (((Js s_ d)).1)]),(false, [.b (((Js s_ d)).2)])]):=by
 refine en Qb Tryz.func64 λw0 F0 hG=> ?_
 exact sn Qb [1,2,4,5] [2] p0 <| tn Qb [4,5,6,8] [] (pc 2 (LN s_ d) p0) <| tu Qb [(4,.o 768 (((Aj s_ d)).1)),(5,.b (((Aj s_ d)).2.2))] [0,1] [] [] p0 <| Qe <| pz [] (show Js s_ d=(((Aj s_ d)).1,((Aj s_ d)).2.2) from rfl) (λz=> .tup [(false, [.o 0 z.1]),(false, [.b z.2])])
end
section
open Go.RowKit
theorem Bt (v:ByteArray) (l:List ByteArray):Qr l v=true↔v∈l:=by
 unfold Qr Di
 have key:∀(l:List ByteArray) (k:Nat),(0:Int)<=((Xz (Hi v) Bq l k ()).on λ_=> -1)↔v∈l:=by
  intro l
  induction l with
  | nil=>intro k;simp[Xz,Out.on]
  | cons a l ih=>
    intro k;simp only[Xz,Hi];have hab:(v.toList==a.toList)=decide (v=a):=toList_inj;cases hc:(v.toList==a.toList) with
    | true=>
      obtain rfl:v=a:=by rw[hc] at hab;exact of_decide_eq_true hab.symm
      simp[Out.on]
    | false=>
      have h:v≠a:=by rw[hc] at hab;exact of_decide_eq_false hab.symm
      simp only[cond_false];refine (ih (k+1)).trans ?_;simp[h]
 exact decide_eq_true_iff.trans (key l 0)
theorem XM (d:List X0):Xv d=d.map (·.1):=by
 unfold Xv;rw[Bk (f:=Nx) (g:=λa:X0=>a.1) (λ_ _ _=>rfl)];simp[Out.on,Ny]
theorem S3 {d:List X0} {i:Nat} {a:X0} (h:d[i]? =some a):Qr (Xv d) a.1=true:=by
 rw[Bt,XM];exact xK.2 ⟨a,xE h,rfl⟩
theorem TG (x:List Int):∀(n k:Nat) (s:Int),k+1+n=x.length->Uy (Bd x) Fp n k s= .brk ((x.drop (k+1)).foldl max s)
 | 0,k,s,h=>by rw[List.drop_eq_nil_of_le (by omega)];rfl
 | n+1,k,s,h=>by
   have hg:x[k+1]? =some (nth x (k+1)):=Wg (by omega);rw[QZ hg];simp only[Uy,Bd,xC];exact TG x n (k+1) _ (by omega)
theorem AI:∀(x:List Int) (k:Nat) (s:Int),Xz Ai Eg x k s= .brk (x.foldl max s)
 | [],k,s=>rfl
 | a::x,k,s=>by
   simp only[Xz,Ai,xC];by_cases h:a>s
   . rw[decide_eq_true h,cond_true,show max s a=a by omega];exact AI x (k+1) a
   rw[decide_eq_false h,cond_false,show max s a=s by omega];exact AI x (k+1) s
theorem ZI (d:List X0):Vq d=Vp d:=by
 unfold Vq Vp;rw[W8,AI];simp only[Out.on];cases hs:(Qx d).2 with
 | false=>
   have :(Qx d).1= []:=by
    unfold Qx at hs⊢;cases hv:Qw d with
    | false=>rfl
    | true=>
      rw[hv] at hs;simp only[yI,cond_false] at hs⊢;have h5:=Hg hv;have hw:=Nv (d:=d) (f:=H4 d) (e:=H5) (F:=Uj d) (λ_ _ _=>rfl) (λ_ _=>rfl) (λ_=>rfl) (by omega) (d.length*d.length+3) (zG d.length 0) true (Dg _).1 (Dg _).2
      have hsome:(YW (Kc d) d.length d.length (d.length*d.length+3) (true,zG d.length 0)).isSome=true:=by
       have:=Gl d h5;rw[Int.toNat_natCast,hw,Option.isSome_map] at this;exact this
      obtain ⟨r,hr⟩:=Option.isSome_iff_exists.1 hsome;unfold I0 at hs⊢;rw[Int.toNat_natCast,hw,hr] at hs⊢;cases r with
      | none=>rfl
      | some M=>simp[Qk3,Out.on] at hs
   rw[this];rfl
 | true=>
   obtain ⟨h1,h2,h3⟩:=Gm hs;simp only[yI,Bool.false_or];generalize (Qx d).1=x at h3;cases x with
   | nil=>rfl
   | cons a x=>
     have h0:=(h3 a (zP ..)).1
     have e:((((a::x).length:Nat):Int)==(0:Int))=false:=by
      rw[beq_eq_false_iff_ne,zM];omega
     rw[e,cond_false];unfold M5;rw[TG _ _ _ _ (by simp;omega)];simp only[Out.on,xC,yF,List.drop_succ_cons,List.drop_zero];have e2:nth (a::x) 0=a:=rfl;rw[show max (-1) a=a by omega,e2]
theorem Qlr (s:Qz) (d:List X0) (k1 k:Nat) (a:X0) (t:List Qm×Bool) (h:d[k]? =some a):Bs s d k1 k a t=Vm s d (Xv d) k1 k a t:=by
 unfold Bs Vm;rw[S3 h,W8,←AD,UF,PH];simp
theorem Qls (s:Qz) (d:List X0) (k1:Nat):H6 s d k1=Jy s d (Xv d) k1:=by
 funext t
 unfold H6 Jy;rw[Pk (f:=Bs s d k1) (g:=Vm s d (Xv d) k1) (e:=M6) (e':=Cy) (λ_ _=>rfl) d 0 _ (λi a t h=>by rw[yF];exact Qlr s d k1 i a t h)]
theorem Qlt (s:Qz) (d:List X0):Aj s d=Yn s d [] (Xv d):=by
 unfold Aj Yn;rw[W8,Bo,ZI];rw[Pk (f:=Eh) (g:=Jq [] (Xv d)) (e:=Ig) (e':=Ki) (λ_ _=>rfl) d 0 _ (λi a t h=>by unfold Eh Jq;rw[S3 h];rfl)]
 congr 1
 congr 1
 funext y
 rw[show M7 s d=Jr s d (Xv d) from by funext k t;unfold M7 Jr;rw[Qls]];rfl
theorem Rn (s:Qz) (d:List X0):Js s d=Yu s d:=by
 unfold Js Yu;rw[Qlt]
theorem LO {s:Qz} {d:List X0} {names:List ByteArray} {r:List Qm} (h:(Yn s d r names).2.2=true):zD d<=5/\Qj s=true/\(Yn s d r names).1.map (·.1)=d.map (·.1)/\∀j,j<d.length->onD d names j=true->∃p:Xe->Bool,(nth (Yn s d r names).1 j).2=sel s.2.1 (λf=>f.1) p:=by
 unfold Yn at h⊢;cases hc:((!(((Qx d)).2))|| (!(Qj s))) with
 | true=>rw[hc] at h;simp at h
 | false=>
   have hs:((Qx d)).2=true:=Za (Re hc);have hv:Qj s=true:=Za (Pz hc);simp only[cond_false]
   obtain ⟨h1,h2⟩:=Oi (L:=((Qx d)).1) (on:=onD d names) (fs:=s.2.1) (g:=D1 r names) (f:=Jq r names) (e:=Ki) (d:=d) (λk a s=>by
    unfold Jq D1;cases Qr names a.1<;>rfl) (λj _ hj=>by unfold onD at hj;unfold D1;rw[hj];rfl)
   rw[h1]
   have key:∀(n k:Nat) (o:List Qm) (p:Int),EvS d ((Qx d)).1 (onD d names) s.2.1 (((k:Nat)):Int) o->∃o' p',Uy (Jr s d names) Be n k (o,p)= .brk (o',p')/\EvS d ((Qx d)).1 (onD d names) s.2.1 (((k+n:Nat)):Int) o':=by
    intro n
    induction n with
    | zero=>intro k o p ho;exact ⟨o,p,rfl,ho⟩
    | succ n ih=>
      intro k o p ho;obtain ⟨o1,p1,g1,g2⟩:=Cs (p:=p) hs ho;obtain ⟨o2,p2,g3,g4⟩:=ih (k+1) o1 p1 (by rw[yL];exact g2);refine ⟨o2,p2, ?_,by rw[show k+(n+1)=k+1+n by omega];exact g4⟩;simp only[Uy];unfold Jr I0;rw[g1];exact g3
   obtain ⟨o,p,g1,g2⟩:=key (yP (Vp d+1)) 0 _ 0 h2;simp only[Out.on,Ki];rw[g1];exact ⟨(Gm hs).2.1,hv,g2.names,λj hj hon=>g2.some_ j hj hon⟩
theorem Ro {s:Qz} {d:List X0} (h:(Yu s d).2=true):zD d<=5/\Qj s=true/\(Yu s d).1.map (·.1)=d.map (·.1)/\∀x,x∈(Yu s d).1->∃p:Xe->Bool,x.2=sel s.2.1 (λf=>f.1) p:=by
 unfold Yu at h⊢;obtain ⟨h1,h2,h3,h4⟩:=LO h;refine ⟨h1,h2,h3,λx hx=> ?_⟩;obtain ⟨i,hi⟩:=yA hx;have hlen:(Yn s d [] (Xv d)).1.length=d.length:=by have:=congrArg zD h3;simpa using this
 have hi':i<(Yn s d [] (Xv d)).1.length:=(yU.1 hi).1;have hil:i<d.length:=by omega
 have:=h4 i hil (by unfold onD;exact S3 (Wg hil));rw[Od hi] at this;exact this
theorem PM {s:Qz} {d:List X0} (h:(Yu s d).2=false):(Yu s d).1= []:=by
 unfold Yu at h⊢;unfold Yn at h⊢;cases hc:((!(((Qx d)).2))|| (!(Qj s))) with
 | true=>rfl
 | false=>
   exfalso;have hs:((Qx d)).2=true:=Za (Re hc);rw[hc] at h;simp only[cond_false] at h
   obtain ⟨h1,h2⟩:=Oi (L:=((Qx d)).1) (on:=onD d (Xv d)) (fs:=s.2.1) (g:=D1 [] (Xv d)) (f:=Jq [] (Xv d)) (e:=Ki) (d:=d) (λk a s=>by
    unfold Jq D1;cases Qr (Xv d) a.1<;>rfl) (λj _ hj=>by unfold onD at hj;unfold D1;rw[hj];rfl)
   rw[h1] at h
   have key:∀(n k:Nat) (o:List Qm) (p:Int),EvS d ((Qx d)).1 (onD d (Xv d)) s.2.1 (((k:Nat)):Int) o->∃y,Uy (Jr s d (Xv d)) Be n k (o,p)= .brk y:=by
    intro n
    induction n with
    | zero=>intro k o p ho;exact ⟨_,rfl⟩
    | succ n ih=>
      intro k o p ho;obtain ⟨o1,p1,g1,g2⟩:=Cs (p:=p) hs ho;obtain ⟨y,g3⟩:=ih (k+1) o1 p1 (by rw[yL];exact g2);refine ⟨y, ?_⟩;simp only[Uy];unfold Jr I0;rw[g1];exact g3
   obtain ⟨y,g1⟩:=key (yP (Vp d+1)) 0 _ 0 h2;simp only[Out.on,Ki] at h;rw[g1] at h;cases h
def DV (G:Nat->Prop) (L:List Nat):Inj:=⟨G,λk=>if k=63 then L else [],λ_=>0⟩
theorem Qg5 {P:Program} {tt:List (Nat×TI)} (htt:Nj P tt=true) {f:Nat} {fn:Func} {c:Code} (hf:P.funcs[f]? =some fn) (hb:fn.body=some c) (hok:E9 P f) {n:Nat} {l l':List (List PV)} {args:List AV}
 (hn:args.length+1<=fn.ntmps) (hk:∀x,x∈args->∀c,c∈x.cells->c.key=none/\c.bkeys= []) {t:Nat} (hr:fn.results.toList= [.tmp t])
 (h:∀w0 F0,GoodAt P w0->AWP P fn.ntmps w0 F0 c (λe s=>(e= .ret\/e= .normal)/\∃k,get s.tm t=some (.one (.slc (.own false k) n l'))) (BV (.one (.slc (.own false 63) n l)::args))):ATake P f n l args true false l':=by
 refine ⟨hok,λw F G L v vals hgood hFG hGF hGs hnd hLG hrow hargs=>calls_of_wp hf hb ?_⟩;have hlen:=hargs.length;have hGF:=hGF rfl;have hL0:(DV G L).L 63=L:=by show (if 63=63 then L else [])=L;simp
 refine wp_mono (h ⟨w,λb=>b∈L,none⟩ G hgood (DV G L) _ w ?_) ?_
 . have hLk:∀k b,b∈(DV G L).L k->k=63/\b∈L:=λk b hm=>by
    have hm:b∈(if k=63 then L else []):=hm;split at hm
    . rename_i e;exact ⟨e,hm⟩
    simp at hm
   refine {below:=Base.Keeps.refl _,nodef:=rfl,size:= ?_,fl:=λb hb=>⟨hGs b hb,.inl hb⟩,f0:=λb hb=>hb,nd:=λk=> ?_,lo:=λk b hb=>⟨.inr (hLk k b hb).2,hLG b (hLk k b hb).2⟩,dj:=λk k' b hb hb'=>(hLk k b hb).1.trans (hLk k' b hb').1.symm,bo:=λk c hc=>by simp[BV,get] at hc,nb:= .inl rfl,cb:=(λb hb=>by cases hb),bi:=λk k' c c' hc=>by simp[BV,get] at hc,tm:=λt v' hv=> ?_}
   . simp;omega
   . show (if k=63 then L else []:List Nat).Nodup;split
     . exact hnd
     exact List.nodup_nil
   obtain ⟨_,ht⟩:=Sl hv
   have hall:All2 (AR (DV G L) w) (v::vals) (.one (.slc (.own false 63) n l)::args):=by
    refine .cons ?_ ?_
    . show OwnTop G ((DV G L).L 63) w v n l;rw[hL0];exact OwnTop.keep hrow (λb hb=>⟨hFG b hb,rfl⟩) λ_ _=>rfl
    have key:∀{vs:List Value} {ys:List AV},All2 (AR (WE G) w) vs ys->(∀x,x∈ys->∀c,c∈x.cells->c.key=none/\c.bkeys= [])->All2 (AR (DV G L) w) vs ys:=by
     intro vs ys ha
     induction ha with
     | nil=>intro _;exact .nil
     | cons h1 _ ih=>
       intro hx;refine .cons (h1.keep λc hc=> ?_) (ih λx hm=>hx x (zI _ hm));obtain ⟨e1,e2⟩:=hx _ (zP ..) c hc;exact ⟨λb hb=>⟨hb,rfl⟩,(λk hk=>by rw[e1] at hk;cases hk),(λk hk=>by rw[e2] at hk;simp at hk)⟩
    exact key hargs hk
   obtain ⟨u,hu,hr⟩:=hall.get' ht;have hlt:t<(v::vals).length:=(yU.1 hu).1
   have:((v::vals).toArray++Array.replicate (fn.ntmps-(v::vals).toArray.size) undef).getD t undef=u:=by
    rw[zZ,Array.getElem?_append_left (by simpa using hlt)];simp at hu⊢;rw[hu];rfl
   rw[this];exact hr
 rintro e a' w' ⟨J',s',hR,he,k,hkk⟩
 have hres:∃u,(results fn a'.tmps).run P w'= .ok u w'/\AR J' w' u (.one (.slc (.own false k) n l')):=by
  obtain ⟨us,hrun,hall⟩:=YI (P:=P) htt hR (rs:= [.tmp t]) (vs:= [.one (.slc (.own false k) n l')]) (by simp[IK,hkk]);rw[←hr] at hrun
  have hm:(fn.results.mapM (YH a'.tmps)).run P w'= .ok us.toArray w':=by
   rw[Array.mapM_eq_mapM_toList];simp[hrun]
  have hgen:(results fn a'.tmps).run P w'= .ok (if h:us.toArray.size=1 then us.toArray[0] else .tuple us.toArray) w':=by
   rw[Tk];simp only[Sem.run_bind,hm,Result.andThen_ok,Sem.run_pure]
  cases hall with
  | cons h1 h2=>
    cases h2
    exact ⟨_,by rw[hgen];simp,h1⟩
 obtain ⟨u,h1,h2⟩:=hres
 have hT:Ql7 F L w n false l' (.returned u) w':=by
  refine ⟨u,rfl,λm hm hmL=>⟨hR.below.os,hR.below.tape,hR.below.output,hR.below.size,λj hj=>hR.below.block j (by show j<w.heap.size;omega) λhx=>by have:=hmL j hx;omega⟩,λb hb hn=>hR.below.block b hb hn,J'.L k,hR.nd k,λb hb=> ?_, ?_⟩
  . obtain ⟨h3,h4,_⟩:=hR.lo k b hb;exact ⟨h4,h3⟩
  have h2:OwnTop J'.F (J'.L k) w' u n l':=h2;refine OwnTop.keep h2 (λb hb=>⟨?_,rfl⟩) λ_ _=>rfl
  obtain ⟨h3,h4⟩:=hR.fl b hb;rcases h4 with h4 | h4 | h4
  . exact .inl (hGF b h4)
  . exact .inr ⟨.inl h4,h3,λhm=>(hR.lo k b hm).2.2 hb⟩
  exact .inr ⟨.inr h4,h3,λhm=>(hR.lo k b hm).2.2 hb⟩
 rcases he with rfl | rfl
 . exact ⟨hR.nodef,u,h1,hT⟩
 exact ⟨hR.nodef,u,h1,hT⟩
theorem Md {a:Act} {t u:Nat} {v:Value} (ht:t<a.tmps.size):(a.put (some t) v).tmps.getD u undef=if u=t then v else a.tmps.getD u undef:=by
 simp only[Act.put,zZ,Array.getElem?_setIfInBounds];by_cases h:u=t
 . subst h;simp[ht]
 simp[h,Ne.symm h]
theorem Qa5 {a b:Nat}:yN a b=false↔¬a=b:=by
 cases h:yN a b with
 | true=>simp[xD h]
 | false=>simp;exact Nat.ne_of_beq_eq_false h
theorem Qg6 {a:Act} {t:Nat} {v:Value} (h:a.tmps.getD t undef=v) (ht:t<a.tmps.size):a.put (some t) v=a:=by
 have e:a.tmps.setIfInBounds t v=a.tmps:=by
  apply Array.ext
  . simp
  intro i h1 h2;rw[Array.getElem_setIfInBounds];split
  . rename_i e;subst e;rw[←h,zZ,yV ht];rfl
  rfl
 show ({a with tmps:=a.tmps.setIfInBounds t v}:Act)=a;rw[e]
theorem TH:∀{vs:List Value} {cs:List C},An vs cs=true->∃ps:List PV,ps.length=vs.length/\∀(X:Nat->Prop) (w:World),VC X w vs ps
 | [], [],_=>⟨[],rfl,λ_ _=> .nil⟩
 | [],_::_,h=>by simp[An] at h
 | _::_, [],h=>by simp[An] at h
 | v ::vs,c::cs,h=>by
   simp only[An,zQ] at h;obtain ⟨ps,h1,h2⟩:=TH h.2;have hz:=h.1;unfold UM at hz;split at hz
   . rename_i k _ _ _;simp only[zQ,decide_eq_true_eq] at hz;obtain ⟨⟨rfl,rfl⟩,rfl⟩:=hz;exact ⟨.int k 0::ps,by simp[h1],λX w=> .cons (.int (by cases k<;>simp[InR,IntKind.min,IntKind.max,IntKind.bits,IntKind.signed])) (h2 X w)⟩
   . rename_i b _;exact ⟨.bool b::ps,by simp[h1],λX w=> .cons (.bool b) (h2 X w)⟩
   . rename_i s _;have hs:s.size=0:=by simp only[zQ] at hz;exact xD hz.1
     exact ⟨.str s::ps,by simp[h1],λX w=> .cons (.str (by rw[hs];exact yB _)) (h2 X w)⟩
   . rename_i n;exact ⟨.slc n []::ps,by simp[h1],λX w=> .cons (.emp none n (yB _)) (h2 X w)⟩
   cases hz
theorem TJ {X:Nat->Prop} {w:World} {n:Nat} {vs:List Value} {ps:List PV} (h:VC X w vs ps) (hn:ps.length=n):∀m,VR X w n (zG m vs).flatten (zG m ps)
 | 0=> .nil n
 | m+1=>by
   rw[xH,xH,List.flatten_cons];exact .cons h hn (TJ h hn m)
theorem Qa6 {z:Array Value} {m:Nat}:(Builtin.zeroCells z m).toList=(zG m z.toList).flatten:=by
 have key:∀(l:List Value) (m:Nat),(List.range (m*l.length)).map (λi=>l[i % l.length]!)=(zG m l).flatten:=by
  intro l m
  induction m with
  | zero=>simp
  | succ m ih=>
    rw[Nat.succ_mul,List.range_add,List.map_append,ih,List.replicate_succ',List.flatten_append]
    congr 1
    simp only[List.map_map,List.flatten_cons,List.flatten_nil,List.append_nil];apply List.ext_getElem
    . simp
    intro i h1 h2;simp only[zO,List.length_range] at h1;simp[Nat.mul_add_mod_self_right,Nat.mod_eq_of_lt h1,h2]
 rw[←key z.toList m];unfold Builtin.zeroCells;rw[Array.toList_map,Array.toList_range];apply List.map_congr_left;intro i _;simp only[zV,getElem!_def,Array.getElem?_toList]
theorem Qg7 {vs:List Value} {cs:List C} (h:An vs cs=true):∀v,v∈vs->v.oneCell'=true:=by
 induction vs generalizing cs with
 | nil=>intro v hv;simp at hv
 | cons v vs ih=>
   cases cs with
   | nil=>simp[An] at h
   | cons c cs=>
     simp only[An,zQ] at h;intro u hu;rcases List.mem_cons.1 hu with rfl | hu
     . have hz:=h.1;unfold UM at hz;split at hz<;>first | rfl | cases hz
     exact ih h.2 u hu
section
variable {P:Program} {N:Nat} {w0:Base} {F0:Nat->Prop} {J:Inj} {a:Act} {w:World} {s:St} {Q:Exit->St->Prop}
theorem Rel.aside (h:Rel N w0 F0 J a w s) {d:Nat} (hd:d<N) (hn:get s.tm d=none) (v:Value):Rel N w0 F0 J (a.put (some d) v) w s:=
 (h.pure (some d) (λd' e=>by cases e;exact hd) (.one .dead) v (λ_=>trivial)).less (λt x hx=>by
  show get (ins d _ s.tm) t=some x;rw[QK,if_neg (λe=>by subst e;rw[hn] at hx;cases hx)];exact hx) (λ_ _ h=>h)
theorem LP {tt:List (Nat×TI)} (htt:Nj P tt=true) {sty ety z1:Nat} {z2:List C} {z3:List LK} {ti:TI} (g1:get tt sty=some ⟨.sli ety,z1,z2,z3⟩) (g2:get tt ety=some ti)
 {g cap m i n:Nat} {cur:Array Value} {e:TypeId} (hn:ti.size=n) (hg:w.heap[g]? =some (.cells cur e (0,0))) (hs:cur.size=cap*n) (hi:i<m) (hm:m<=cap) (ty:TypeId):
 ∃ zs:List Value,∃ps:List PV,zs.length=n/\ps.length=n/\(∀(X:Nat->Prop) (w:World),VC X w zs ps)/\
   (Builtin.clear_ #[sty] ty #[.slice (some ⟨g,i*n,none⟩) (m-i) (cap-i)]).run P w= .ok (.tuple #[]) (w.setRow g (cur.toList.take (i*n)++(zG (m-i) zs).flatten++cur.toList.drop (i*n+(m-i)*n)).toArray):=by
 obtain ⟨inf,z,hI,hsz,_,hz,hzs,hzo⟩:=(Z7 htt g2).info;obtain ⟨ps,p1,p2⟩:=TH hzo;have hu:=(Z7 htt g1).sli;have hzl:z.cells.toList.length=n:=by simpa [hn] using hzs
 refine ⟨z.cells.toList,ps,hzl,by rw[p1,hzl],p2, ?_⟩;obtain ⟨q,hq⟩:∃q,m-i=q+1:=⟨m-i-1,by omega⟩
 have hfl:((zG (m-i) z.cells.toList).flatten).length=(m-i)*n:=by
  rw[yM,yQ,hzl];simp
 have h3:i*n+(m-i)*n<=cap*n:=by rw[←yW];exact zL n (by omega)
 have hst:=run_storeCells_at P g (i*n) e ((zG (m-i) z.cells.toList).flatten) 0 cur w hg (by rw[hfl,hs];simpa using h3) (λv hv=>by
  obtain ⟨l,hl,hv⟩:=List.mem_flatten.1 hv;rw[List.eq_of_mem_replicate hl] at hv;exact Qg7 hzo v hv)
 simp only[Nat.add_zero,hfl] at hst;rw[hq] at hst⊢;simp[Builtin.clear_,run_underlying hu,zeroValue,Ab hI,hz,Qa6,hst]
theorem Qd7 {tt:List (Nat×TI)} (htt:Nj P tt=true) {id:Nat} {ops:Array Oper} {t0 t5 d1 d2 d3 sty ety z1:Nat} {z2:List C} {z3:List LK} {ti:TI} {y1 y2 y3 y4:TypeId} {q1 q2 q3 q4:String} {f1 f2 f3 f4:Array Edge}
 (hops:ops= #[⟨some d1,.move (.tmp t0),y1,q1,f1,none⟩,⟨some d2,.move (.tmp t5),y2,q2,f2,none⟩,⟨some d3,.slice sty (.tmp d1) (some (.tmp d2)) none none,y3,q3,f3,none⟩,⟨none,.call {callee:= .builtin .clear,args:= #[.tmp d3],argTypes:= #[sty]},y4,q4,f4,none⟩])
 (hN:(Nat.blt d1 N&&Nat.blt d2 N&&Nat.blt d3 N&&Nat.blt t0 N&& !(yN d1 t0)&& !(yN d1 t5)&& !(yN d2 t0)&& !(yN d2 t5)&& !(yN d3 t0)&& !(yN d3 t5)&& !(yN d1 d2)&& !(yN t0 t5))=true)
 (g1:get tt sty=some ⟨.sli ety,z1,z2,z3⟩) (g2:get tt ety=some ti) {k n:Nat} {l:List (List PV)} (hk:get s.tm t0=some (.one (.slc (.own false k) n l))) (hn:ti.size=n) {i:Int} (hi:get s.tm t5=some (.one (.int .i64 i))) (h0:0<=i) (hl:i<l.length)
 (hQ:∀l',l'.length=l.length->l'.take i.toNat=l.take i.toNat->Q .normal ⟨[(t0,.one (.slc (.own false (64*t0)) n l')),(t5,.one (.int .i64 i))], []⟩):AWP P N w0 F0 (.region id ops false) Q s:=λJ a w hr=>by
 simp only[zQ,Nat.blt_eq,Bool.not_eq_true',Qa5] at hN;obtain ⟨⟨⟨⟨⟨⟨⟨⟨⟨⟨⟨m1,m2⟩,m3⟩,m0⟩,n1⟩,n2⟩,n3⟩,n4⟩,n5⟩,n6⟩,n7⟩,n8⟩:=hN;obtain ⟨j,rfl⟩:∃j:Nat,i=(j:Int):=⟨i.toNat,by omega⟩;have hj:j<l.length:=by omega
 have e0:CR J w (a.tmps.getD t0 undef) (.slc (.own false k) n l):=hr.tm t0 _ hk;have e5:CR J w (a.tmps.getD t5 undef) (.int .i64 (j:Int)):=hr.tm t5 _ hi;obtain ⟨e5,_⟩:=e5;rcases (show OwnTop J.F (J.L k) w _ n l from e0) with ⟨e,_⟩ | ⟨g,cap,cur,e,hL,e0,hg,hs,hvr,hlc,hcap⟩
 . rw[e] at hj;simp at hj
 obtain ⟨zs,ps,hzl,hpl,hzv,hrun⟩:=LP (P:=P) (w:=w) htt g1 g2 hn hg hs hj hlc y4;have hu:=(Z7 htt g1).sli;have hsz:=B7 (P:=P) (Z7 htt g2) w;rw[hn] at hsz
 have hr5:Rel N w0 F0 J a w ⟨[(t5,.one (.int .i64 (j:Int)))], []⟩:=hr.less (λt v hv=>by
  simp only[get] at hv;split at hv
  . rename_i e;subst e;rw[hi];exact hv
  cases hv) (λk c hc=>by cases hc)
 have no:∀d,¬d=t5->get (⟨[(t5,.one (.int .i64 (j:Int)))], []⟩:St).tm d=none:=λd hd=>by
  show (if t5=d then _ else _)=none;rw[if_neg (λe=>hd e.symm)];rfl
 have s0:=hr.size;have hr1:=(hr5.aside m1 (no _ n2) (.slice (some ⟨g,0,none⟩) l.length cap)).aside m2 (no _ n4) (.int .i64 (j:Int));have hr3:=hr1.aside m3 (no _ n6) (.slice (some ⟨g,0+j*n,none⟩) (l.length-j) (cap-j));subst hops;refine wp_region ?_;show wpOps P _ (QX N w0 F0 Q) [0,1,2,3] a w;rw[wpOps_cons];unfold wpOp;simp only[zY,zX];rw[if_pos (by simp[Region.wanted])];refine .inl (Hz (v:= .slice (some ⟨g,0,none⟩) l.length cap) (w':=w) (by simp[execOp,e0,Act.eval]) ?_);rw[wpOps_cons];unfold wpOp;simp only[zY,yE,zX];rw[if_pos (by simp[Region.wanted])];have e5':(a.put (some d1) (.slice (some ⟨g,0,none⟩) l.length cap)).tmps.getD t5 undef= .int .i64 (j:Int):=(Md (by omega)).trans ((if_neg (λe=>n2 e.symm)).trans e5);refine .inl (Hz (v:= .int .i64 (j:Int)) (w':=w) (by simp[execOp,e5',Act.eval]) ?_);rw[wpOps_cons];unfold wpOp;simp only[zY,yE,zX];rw[if_pos (by simp[Region.wanted])];have hs1:(a.put (some d1) (.slice (some ⟨g,0,none⟩) l.length cap)).tmps.size=N:=by simp[Act.put,s0]
 have ea:((a.put (some d1) (.slice (some ⟨g,0,none⟩) l.length cap)).put (some d2) (.int .i64 (j:Int))).eval (.tmp d1)= .slice (some ⟨g,0,none⟩) l.length cap:=(Md (by omega)).trans ((if_neg n7).trans ((Md (by omega)).trans (if_pos rfl)));have eb:((a.put (some d1) (.slice (some ⟨g,0,none⟩) l.length cap)).put (some d2) (.int .i64 (j:Int))).eval (.tmp d2)= .int .i64 (j:Int):=(Md (by omega)).trans (if_pos rfl)
 have hsb:(Instr.sliceBounds true l.length cap (some (.int .i64 (j:Int))) none none).run P w= .ok (j,l.length,cap) w:=by
  have e4:∀c,(Instr.sliceBound (.int .i64 (j:Int)) l.length c).run P w= .ok j w:=λc=>by
   have:=Th (P:=P) (w:=w) (k:= .i64) (lo:=(j:Int)) (Y:=c) (y:=l.length) (by omega) (by omega);simpa using this
  unfold Instr.sliceBounds;simp only[Sem.run_bind,Sem.run_pure,Result.andThen_ok];simp[e4]
 refine .inl (Hz (v:= .slice (some ⟨g,0+j*n,none⟩) (l.length-j) (cap-j)) (w':=w) (by
  have hca:cap≠j:=by omega
  simp[execOp,ea,eb,Instr.sliceAt,run_underlying hu,Instr.slice,hsb,hsz,hca,Addr.add_lit]) ?_)
 rw[wpOps_cons];unfold wpOp;simp only[zY,yE,zX];rw[if_pos (by simp[Region.wanted])];generalize ha2:((a.put (some d1) (.slice (some ⟨g,0,none⟩) l.length cap)).put (some d2) (.int .i64 (j:Int)))=a2 at*;have s2:a2.tmps.size=N:=hr1.size;have ec:(a2.put (some d3) (.slice (some ⟨g,0+j*n,none⟩) (l.length-j) (cap-j))).eval (.tmp d3)= .slice (some ⟨g,j*n,none⟩) (l.length-j) (cap-j):=(Md (by omega)).trans ((if_pos rfl).trans (by simp));have ec:=ec;simp only[yF] at ec
 refine .inl (Hz (v:= .tuple #[]) (w':=w.setRow g (cur.toList.take (j*n)++(zG (l.length-j) zs).flatten++cur.toList.drop (j*n+(l.length-j)*n)).toArray) (by
  simp[execOp,resolve,invoke,builtin,ec,hrun]) ?_)
 generalize ha3:a2.put (some d3) (.slice (some ⟨g,0+j*n,none⟩) (l.length-j) (cap-j))=a3 at*;show QX N w0 F0 Q .normal a3 _
 have e03:a3.tmps.getD t0 undef= .slice (some ⟨g,0,none⟩) l.length cap:=by
  rw[←ha3];refine (Md (by omega)).trans ((if_neg (λe=>n5 e.symm)).trans ?_);rw[←ha2];exact (Md (by omega)).trans ((if_neg (λe=>n3 e.symm)).trans ((Md (by omega)).trans ((if_neg (λe=>n1 e.symm)).trans e0)))
 have hgk:g∈J.L k:=by rw[hL];exact zP
 have hgF:¬J.F g:=(hr.lo k g hgk).2.2;generalize hw':w.setRow g (cur.toList.take (j*n)++(zG (l.length-j) zs).flatten++cur.toList.drop (j*n+(l.length-j)*n)).toArray=w';have hgw:w'.heap[g]? =some (.cells (cur.toList.take (j*n)++(zG (l.length-j) zs).flatten++cur.toList.drop (j*n+(l.length-j)*n)).toArray e (0,0)):=by rw[←hw'];exact setRow_heap w g cur _ e (0,0) hg
 have hother:∀b,b≠g->w'.heap[b]? =w.heap[b]? :=λb hb=>by rw[←hw'];exact setRow_other w g b _ hb
 have hsize:w'.heap.size=w.heap.size:=by rw[←hw'];simp[World.setRow]
 have hbelow:w0.Keeps w':=by
  refine hr.below.step (by rw[←hw'];rfl) (by rw[←hw'];rfl) (by rw[←hw'];rfl) (by omega) λb _ hnl=>hother b λe=> ?_
  exact hnl (e▸(hr.lo k g hgk).1)
 have hfl:((zG (l.length-j) zs).flatten).length=(l.length-j)*n:=by
  rw[yM,yQ,hzl];simp
 have hsum:j*n+(l.length-j)*n=l.length*n:=by rw[←yW];congr 1;omega
 have hle:l.length*n<=cap*n:=zL n hlc;have hcl:cur.toList.length=cap*n:=by simpa using hs
 have hjn:j*n<=cap*n:=zL n (by omega);have htl:(l.take j++zG (l.length-j) ps).length=l.length:=by simp;omega
 have hown:OwnTop (YD J w w' (64*t0) k [] [g]).F [g] w' (.slice (some ⟨g,0,none⟩) l.length cap) n (l.take j++zG (l.length-j) ps):=by
  refine .inr ⟨g,cap,_,e,rfl,by rw[htl],hgw, ?_, ?_,by rw[htl];exact hlc,by rw[htl];exact hcap⟩
  . simp only[yX,zJ,hfl,zN,zW,hcl];omega
  rw[htl]
  have:((cur.toList.take (j*n)++(zG (l.length-j) zs).flatten++cur.toList.drop (j*n+(l.length-j)*n)).toArray.toList.take (l.length*n))=cur.toList.take (j*n)++(zG (l.length-j) zs).flatten:=by
   show ((_:List Value)++_++_).take _=_
   have hln:(cur.toList.take (j*n)++(zG (l.length-j) zs).flatten).length=l.length*n:=by
    simp only[zJ,hfl,zN,hcl];omega
   rw[zR (by omega),zS (by omega)]
  rw[this];refine VR.append (TJ (hzv _ _) hpl _) (VR.keep (X:=J.F) (w:=w) (λb hb=>⟨.inl hb,hother b λe=>hgF (e▸hb)⟩) ?_);have h3:=hvr.take j
  rwa [yG,Nat.min_eq_left (by omega)] at h3
 have hR:=HD hr3 (t:=t0) (k:=k) (n:=n) m0 (frz:= []) (L':= [g]) (by simp) (w':=w') (u:= .slice (some ⟨g,0,none⟩) l.length cap) (l':=l.take j++zG (l.length-j) ps) (d:=false) hbelow (by omega) (λb hb hn=>hother b λe=>hn (e▸hgk)) (by simp) (λb hb=>by
  obtain rfl:=yR.1 hb
  exact ⟨by have:=(hr.lo k b hgk).2.1;omega,.inr hgk⟩) (by
   show OwnTop _ ((YD J w w' (64*t0) k [] [g]).L (64*t0)) _ _ _ _;rw[show (YD J w w' (64*t0) k [] [g]).L (64*t0)= [g] from if_pos rfl];exact hown)
 rw[Qg6 e03 (by rw[hr3.size];exact m0)] at hR;refine ⟨_,_,hR.less (s':=⟨[(t0,.one (.slc (.own false (64*t0)) n (l.take j++zG (l.length-j) ps))),(t5,.one (.int .i64 (j:Int)))], []⟩) (λt v hv=> ?_) (λk c hc=>by cases hc),hQ _ htl (by simp[List.take_append,yG];omega)⟩;show get (ins t0 _ [(t5,AV.one (.int .i64 (j:Int)))]) t=some v;rw[QK];simp only[get] at hv⊢;exact hv
end
end
section
open Go.RowKit
section
variable {P:Program}
theorem UG (w:World) (dT sT ty elem:TypeId) (inf:TypeInfo) (b o dLen dCap:Nat) (a:Addr) (sLen sCap:Nat) (cs:List Value) (hu:P.underlying dT=some (.slice elem)) (hi:P.info? elem=some inf)
 (hn:cs.length=yO sLen dLen*inf.size) (hsrc:∀j v,cs[j]? =some v->w.cell? (a.add j)=some v) {cur:Array Value} {e:TypeId} (hg:w.heap[b]? =some (.cells cur e (0,0))) (hfit:o+cs.length<=cur.size) (h1:∀v∈cs,v.oneCell'=true):
 (Builtin.copy_ #[dT,sT] ty #[.slice (some ⟨b,o,none⟩) dLen dCap,.slice (some a) sLen sCap]).run P w= .ok (goInt (yO sLen dLen)) (w.setCells b o cs):=by
 have hl:=run_loadCells_list (P:=P) w a cs hsrc
 have hc:∀j,j<cs.length->(w.cell? ⟨b,o+j,none⟩).isSome=true:=λj hj=>by
  have:o+j<cur.size:=by omega
  simp[World.cell?,hg,this]
 have hf:∀j,j<cs.length->w.frozen? ⟨b,o+j,none⟩=false:=λj hj=>by simp[World.frozen?,hg]
 have hst:=run_storeCells_cells (P:=P) b o cs 0 w (by simpa using hc) (by simpa using hf) h1;simp[Builtin.copy_,run_underlying hu,Builtin.lenOf,Builtin.firstCells,sizeOf,typeInfo,hi,←hn,hl,hst]
theorem LQ (w:World) (tS tR e:TypeId) (ht:P.underlying tS=some (.slice e)) (size:Nat) (hz:∀w,(Go.sizeOf e).run P w= .ok size w) (a b:Addr) (la ca lb cb:Nat) (hne:a.block≠b.block)
 {arrA:Array Value} {tA:TypeId} {frA:Nat×Nat} (hA:w.heap[a.block]? =some (.cells arrA tA frA)) {arrB:Array Value} {tB:TypeId} (hB:w.heap[b.block]? =some (.cells arrB tB (0,0))) (hpos:0<arrB.size) (hposA:0<arrA.size):
 (Extern.SlicesOverlaps.overlaps #[tS,tS] #[tR] #[.slice (some a) la ca,.slice (some b) lb cb]).run P w= .ok (.bool false) w:=by
 have hsa:w.shape? a.block=some (tA,arrA.size):=by simp[World.shape?,hA]
 have hsb:w.shape? b.block=some (tB,arrB.size):=by simp[World.shape?,hB]
 have hfb:∀o,w.frozen? ⟨b.block,o,none⟩=false:=λo=>by simp[World.frozen?,hB]
 have hfb':w.frozen? b=false:=by simp[World.frozen?,hB]
 have hnb:(a.block !=b.block)=true:=by simpa using hne
 have hnb':(a.block==b.block)=false:=by simpa using hne
 obtain ⟨kb,hkb⟩:∃kb,arrB.size=kb+1:=⟨arrB.size-1,by omega⟩;rw[hkb] at hsb;obtain ⟨ka,hka⟩:∃ka,arrA.size=ka+1:=⟨arrA.size-1,by omega⟩;rw[hka] at hsa
 change Sem.run P (underlying tS >>= _) w = _
 by_cases h0:la=0\/lb=0\/size=0
 . simp[run_underlying ht,hz,h0]
 cases hfa:w.frozen? a with
 | true=>simp[run_underlying ht,hz,h0,hnb,hnb',frozen,noView,viewAt,mayBeOne,stringish,shape,Sem.run,hsa,hsb,hfa,hfb,hfb']
 | false=>
   cases hfa2:w.frozen? {block:=a.block,off:=ka+1} with
   | true=>simp[run_underlying ht,hz,h0,hnb,hnb',frozen,noView,viewAt,mayBeOne,stringish,shape,Sem.run,hsa,hsb,hfa,hfb,hfb',hfa2]
   | false=>simp[run_underlying ht,hz,h0,hnb,hnb',frozen,noView,viewAt,mayBeOne,stringish,shape,Sem.run,hsa,hsb,hfa,hfb,hfb',hfa2]
structure RowAt (w:World) (n:Nat) (oa:Option Addr) (m cap:Nat) (olds:List Value):Prop where
 len:olds.length=m*n
 row:(oa=oa/\m=0/\cap=0)\/∃g cur e,oa=some ⟨g,0,none⟩/\w.heap[g]? =some (.cells cur e (0,0))/\cur.size=cap*n/\cur.toList.take (m*n)=olds
 le:m<=cap
 cap:cap<=maxLen
 lim:m<1073741824
 ones:∀u,u∈olds->u.oneCell'=true
structure Turned (w w':World) (n:Nat) (oa:Option Addr) (cap:Nat) (u:Value) (m':Nat) (news:List Value):Prop where
 os:w'.os=w.os
 tape:w'.tape=w.tape
 output:w'.output=w.output
 size:w.heap.size<=w'.heap.size
 row:∃g' cap' cur' e',u= .slice (some ⟨g',0,none⟩) m' cap'/\w'.heap[g']? =some (.cells cur' e' (0,0))/\cur'.size=cap'*n/\cur'.toList.take (m'*n)=news/\m'<=cap'/\cap'<=maxLen/\
  ((oa=some ⟨g',0,none⟩/\0<cap/\∀b,b≠g'->w'.heap[b]? =w.heap[b]?)\/(w.heap.size<=g'/\g'<w'.heap.size/\∀b,b<w.heap.size->w'.heap[b]? =w.heap[b]?))
def Qa7 (w:World) (n i:Nat) (oa:Option Addr) (m cap:Nat) (olds vs:List Value) (e:Ending) (w':World):Prop:=
 ∃u,e= .returned u/\Turned w w' n oa cap u (m+1) (olds.take (i*n)++vs++olds.drop (i*n))
structure OneAt (w:World) (n:Nat) (oa:Option Addr) (cap:Nat) (vb voff:Nat) (vs:List Value):Prop where
 len:vs.length=n
 cells:∀j u,vs[j]? =some u->w.cell? ⟨vb,voff+j,none⟩=some u
 ones:∀u,u∈vs->u.oneCell'=true
 ne:∀g,oa=some ⟨g,0,none⟩->0<cap->vb≠g
theorem Qio {F:Nat->Prop} {L:List Nat} {w:World} {v:Value} {n:Nat} {l:List (List PV)} (h:OwnTop F L w v n l) (hl:l.length<1073741824):
 ∃oa cap olds,v= .slice oa l.length cap/\RowAt w n oa l.length cap olds/\VR F w n olds l/\(0<cap->∃g,oa=some ⟨g,0,none⟩/\L= [g]):=by
 rcases h with ⟨rfl,oa,rfl⟩ | ⟨g,cap,cur,e,rfl,rfl,hg,hs,hr,h1,h2⟩
 . exact ⟨oa,0, [],rfl,⟨by simp,.inl ⟨rfl,rfl,rfl⟩,yY _,yB _,by simp,by simp⟩,.nil n,λh=>by omega⟩
 exact ⟨some ⟨g,0,none⟩,cap,_,rfl,⟨hr.length,.inr ⟨g,cur,e,rfl,hg,hs,rfl⟩,h1,h2.1,hl,hr.ones⟩,hr,λ_=>⟨g,rfl,rfl⟩⟩
theorem Turned.ret {F G:Nat->Prop} {L:List Nat} {w w':World} {n:Nat} {oa:Option Addr} {cap:Nat} {u:Value} {m':Nat} {news:List Value} (h:Turned w w' n oa cap u m' news) (hF:∀b,F b->b<w.heap.size/\b∉L) (hL:0<cap->∃g,oa=some ⟨g,0,none⟩/\L= [g]) (hLs:∀b,b∈L->b<w.heap.size)
 {l':List (List PV)} (hv:VR F w n news l') (hm:l'.length=m') (hlim:m'<=1073741824):Ql7 F L w n false l' (.returned u) w':=by
 obtain ⟨g',cap',cur',e',rfl,hg,hs,ht,h1,h2,h3⟩:=h.row
 have hsame:∀b,b<w.heap.size->b∉L->w'.heap[b]? =w.heap[b]? :=λb hb hn=>by
  rcases h3 with ⟨h3,hc,h4⟩ | ⟨_,_,h4⟩
  . obtain ⟨g,h5,rfl⟩:=hL hc;rw[h3] at h5;obtain rfl:g'=g:=by simpa using h5
    exact h4 b λe=>hn (by simp[e])
  exact h4 b hb
 refine ⟨_,rfl,λm hm hmL=>⟨h.os,h.tape,h.output,h.size,λb hb=>hsame b (by omega) λhx=>by have:=hmL b hx;omega⟩,hsame, [g'],by simp,λb hb=> ?_, ?_⟩
 . obtain rfl:=yR.1 hb;refine ⟨Ye hg, ?_⟩;rcases h3 with ⟨h3,hc,_⟩ | ⟨h3,_,_⟩
   . obtain ⟨g,h5,rfl⟩:=hL hc;rw[h3] at h5;obtain rfl:b=g:=by simpa using h5
     exact .inr (by simp)
   exact .inl h3
 refine .inr ⟨g',cap',cur',e',rfl,by rw[hm],hg,hs, ?_,by rw[hm];exact h1,h2,by rw[hm];exact hlim⟩;rw[hm,ht];exact hv.keep λb hb=>⟨.inl hb,hsame b (hF b hb).1 (hF b hb).2⟩
theorem Qd8 {f n:Nat} (hok:E9 P f) (h0:0<n)
 (hrun:∀w oa m cap olds i vb voff vc vs,RowAt w n oa m cap olds->OneAt w n oa cap vb voff vs->i<=m->Calls P f #[.slice oa m cap,.int .i64 (i:Int),.slice (some ⟨vb,voff,none⟩) 1 vc] w (Qa7 w n i oa m cap olds vs))
 {l:List (List PV)} {x:List PV} {i:Int} {j:Nat} (hij:i=(j:Int)) (hj:j<=l.length) (hl:l.length<1073741824):ATake P f n l [.one (.int .i64 i),.one (.slc .sh n [x])] true false (l.take j++ [x]++l.drop j):=by
 subst hij;refine ⟨hok,λw F G L v vals _ hFG hGF hGs hnd hLG hrow hargs=> ?_⟩;have hGF:=hGF rfl;cases hargs with
 | cons a1 ha=>
 cases ha with
 | cons a2 ha=>
 cases ha
 obtain ⟨rfl,_⟩:_=Value.int .i64 (j:Int)/\InR .i64 (j:Int):=a1;have a2:VV G w _ (.slc n [x]):=a2;obtain ⟨oa,cap,olds,rfl,hR,hV,hL⟩:=Qio hrow hl;generalize hp:PV.slc n [x]=p at a2;cases a2 with
 | int | bool | str | any=>cases hp
 | emp=>cases hp
 | @slc vb voff vc n' cs l1 hb hc hr h1 h2=>
   obtain ⟨rfl,rfl⟩:n=n'/\ [x]=l1:=by simpa using hp
   have hcl:cs.length=n:=by rw[hr.length];simp
   have hone:OneAt w n oa cap vb voff cs:=⟨hcl,hc,hr.ones,λg hg hcap e=>by
    obtain ⟨g',h5,rfl⟩:=hL hcap;rw[hg] at h5;obtain rfl:g=g':=by simpa using h5
    exact (hLG g (by simp)).2 (e▸hb)⟩
   refine (hrun w oa l.length cap olds j vb voff vc cs hR hone hj).mono ?_
   rintro e w' ⟨u,rfl,hT⟩
   refine hT.ret (G:=G) (λb hb=>⟨hGs b (hFG b hb),λhm=>(hLG b hm).2 (hFG b hb)⟩) hL (λb hb=>(hLG b hb).1) ?_ ?_ (by omega)
   . exact VR.append (hV.drop j) (VR.append (hr.keep λb hb=>⟨hGF b hb,rfl⟩) (hV.take j))
   simp;omega
def PN (w:World) (n i:Nat) (oa:Option Addr) (m cap:Nat) (olds:List Value) (e:Ending) (w':World):Prop:=
 ∃u,e= .returned u/\Turned w w' n oa cap u (m-1) (olds.take (i*n)++olds.drop ((i+1)*n))
theorem Qd9 {f n:Nat} (hok:E9 P f)
 (hrun:∀w oa m cap olds i,RowAt w n oa m cap olds->i<m->Calls P f #[.slice oa m cap,.int .i64 (i:Int),.int .i64 ((i:Int)+1)] w (PN w n i oa m cap olds))
 {l:List (List PV)} {i k:Int} {j:Nat} (hij:i=(j:Int)) (hk:k=(j:Int)+1) (hj:j<l.length) (hl:l.length<1073741824):ATake P f n l [.one (.int .i64 i),.one (.int .i64 k)] true false (l.take j++l.drop (j+1)):=by
 subst hij;subst hk;refine ⟨hok,λw F G L v vals _ hFG hGF hGs hnd hLG hrow hargs=> ?_⟩;cases hargs with
 | cons a1 ha=>
 cases ha with
 | cons a2 ha=>
 cases ha
 obtain ⟨rfl,_⟩:_=Value.int .i64 (j:Int)/\InR .i64 (j:Int):=a1;obtain ⟨rfl,_⟩:_=Value.int .i64 ((j:Int)+1)/\InR .i64 ((j:Int)+1):=a2;obtain ⟨oa,cap,olds,rfl,hR,hV,hL⟩:=Qio hrow hl;refine (hrun w oa l.length cap olds j hR hj).mono ?_
 rintro e w' ⟨u,rfl,hT⟩
 refine hT.ret (G:=G) (λb hb=>⟨hGs b (hFG b hb),λhm=>(hLG b hm).2 (hFG b hb)⟩) hL (λb hb=>(hLG b hb).1) ?_ ?_ (by omega)
 . exact VR.append (hV.drop (j+1)) (hV.take j)
 simp;omega
end
end
section
open Go.RowKit
section
variable {P:Program} {t e:TypeId} {ei:TI} {w:World} {oa:Option Addr} {m cap i vb voff vc:Nat} {olds vs:List Value}
theorem Qki {i m n:Nat} (hi:i<m):(i+1)*n=i*n+n/\i*n+n<=m*n/\(m-i)*n=m*n-i*n/\(m+1)*n=m*n+n:=by
 have h1:(i+1)*n<=m*n:=zL n (by omega);have h2:(i+1)*n=i*n+n:=by rw[yW,yJ]
 exact ⟨h2,by omega,xO ..,by rw[yW,yJ]⟩
theorem OneAt.block {n:Nat} (h:OneAt w n oa cap vb voff vs) (h0:0<n):vb<w.heap.size/\∃arr tA fr,w.heap[vb]? =some (.cells arr tA fr)/\0<arr.size:=by
 have hl:0<vs.length:=by rw[h.len];exact h0
 have hc:=h.cells 0 vs[0] (yC hl);unfold World.cell? at hc;split at hc
 . rename_i arr tA fr hh;refine ⟨Ye hh,arr,tA,fr,hh, ?_⟩;have hc:arr[voff+0]? =some vs[0]:=by simpa using hc
   have:=(Array.getElem?_eq_some_iff.1 hc).1;omega
 cases hc
theorem T4 {w:World} {ops:Array Oper} {rest:List Oper} {o:Oper} {a:Act} {Q:Exit->Act->World->Prop} (hgd:o.guard=none) (d s:Operand) (t t':TypeId)
 (ho:o.op= .call {callee:= .builtin .copy,args:= #[d,s],argTypes:= #[t,t']}) (v u:Value) (hd:a.eval d=v) (hs:a.eval s=u) {v':Value} {w':World}
 (hr:(Builtin.copy_ #[t,t'] o.type #[v,u]).run P w= .ok v' w') (h:wpList P ops Q rest (a.put o.dst v') w'):wpList P ops Q (o::rest) a w:=
 wpList_plain hgd λK hK=>by
  unfold Oper.wp execOp;simp only[ho,resolve,invoke,builtin,Sem.run_bind,Sem.run_pure,Result.andThen_ok,xA,xJ,xL,hd,hs,hr];exact hK _ _ h
theorem VT {w:World} {ops:Array Oper} {o:Oper} {a:Act} {K:Act->World->Prop} {Q:Exit->Act->World->Prop} {E:Prop}
 (hg:o.guard=none) (d x:Operand) (dT sT:TypeId) (hop:o.op= .call {callee:= .builtin .copy,args:= #[d,x],argTypes:= #[dT,sT]})
 (v u:Value) (hd:a.eval d=v) (hx:a.eval x=u) {v':Value} {w':World} (hr:(Builtin.copy_ #[dT,sT] o.type #[v,u]).run P w= .ok v' w') (hK:K (a.put o.dst v') w'):
 if Region.wanted o (yielded ops a.tmps)=true then Oper.wp P o a w K Q else E:=by
 rw[if_pos (by simp[Region.wanted,hg])];unfold Oper.wp execOp;simp only[hop,resolve,invoke,builtin,Sem.run_bind,Sem.run_pure,Result.andThen_ok,xA,xJ,xL,hd,hx,hr];exact hK
theorem Lw {w:World} {ops:Array Oper} {o:Oper} {a:Act} {K:Act->World->Prop} {Q:Exit->Act->World->Prop} {E:Prop}
 (hg:o.guard=none) (d x:Operand) (dT sT:TypeId) (hop:o.op= .call {callee:= .builtin .append,args:= #[d,x],argTypes:= #[dT,sT]})
 (v u:Value) (hd:a.eval d=v) (hx:a.eval x=u) {v':Value} {w':World} (hr:(Builtin.append_ #[dT,sT] o.type #[v,u]).run P w= .ok v' w') (hK:K (a.put o.dst v') w'):
 if Region.wanted o (yielded ops a.tmps)=true then Oper.wp P o a w K Q else E:=by
 rw[if_pos (by simp[Region.wanted,hg])];unfold Oper.wp execOp;simp only[hop,resolve,invoke,builtin,Sem.run_bind,Sem.run_pure,Result.andThen_ok,xA,xJ,xL,hd,hx,hr];exact hK
theorem Oj (g:Nat):∀(vs:List Value) (o:Nat) (w:World),(w.drew.setCells g o vs).heap=(w.setCells g o vs).heap
 | [],_,_=>rfl
 | v::vs,o,w=>Oj g vs (o+1) (w.setCell ⟨g,o,none⟩ v)
theorem Qkj (hu:P.underlying t=some (.slice e)) (hO:OneAt w ei.size oa cap vb voff vs):Src P ei.size t (.slice (some ⟨vb,voff,none⟩) 1 vc) 1 vs w:=
 Src.ofSlice w hu _ _ _ _ (by rw[hO.len];omega) (λj u hj=>by rw[Addr.add_lit];exact hO.cells j u hj) hO.ones
theorem Qg8 (hu:P.underlying t=some (.slice e)) (hei:TiOk P e ei) (hn:0<ei.size) (hR:RowAt w ei.size oa m cap olds) (hO:OneAt w ei.size oa cap vb voff vs):
 ∃u w',(∀ty,(Builtin.append_ #[t,t] ty #[.slice oa m cap,.slice (some ⟨vb,voff,none⟩) 1 vc]).run P w= .ok u w')/\Qa7 w ei.size m oa m cap olds vs (.returned u) w':=by
 have hold:∀ad,oa=some ad->∀(j:Nat) (u:Value),olds[j]? =some u->w.cell? (ad.add j)=some u:=λad had j u hj=>by
  rcases hR.row with ⟨_,h0,_⟩ | ⟨g,cur,e0,h1,h2,h3,h4⟩
  . have:=hR.len;rw[h0,Nat.zero_mul] at this;rw[xB.1 this] at hj;simp at hj
  rw[had] at h1;obtain rfl:=Option.some.inj h1;rw[←h4] at hj;exact Pg h2 _ j u hj
 obtain ⟨g',cap',cur',e',w',hr,h1,h2,h3,h4,h5,h6,h7,h8,h9,h10⟩:=CO (ty:=0) hu hei hn hR.len hold (λh=>by
  rcases hR.row with ⟨_,h0,_⟩ | ⟨g,cur,e0,h1,_⟩
  . exact h0
  rw[h] at h1;cases h1) (hR.row.imp (λh=>h.2.2) λh=>h) hR.le (Qkj (vc:=vc) hu hO) (by have:=hR.lim;omega) (λ_=>by omega) hR.cap
 refine ⟨_,w',λty=>hr,_,rfl,⟨h6,h7,h8,h9,g',cap',cur',e',rfl,h1,h2, ?_,h4,h5, ?_⟩⟩
 . rw[h3,zS (by rw[hR.len];omega),List.drop_of_length_le (by rw[hR.len];omega),List.append_nil]
 exact h10.imp (λ⟨cur,e0,h1,h2,h3,h4⟩=>⟨h1,by omega,h4⟩) λ⟨h1,h2,h3⟩=>⟨by omega,h2,h3⟩
variable {g:Nat} {cur:Array Value} {e0:TypeId}
theorem AJ (hg:w.heap[g]? =some (.cells cur e0 (0,0))) (htk:cur.toList.take (m*ei.size)=olds) {k:Nat}:∀(j:Nat) (u:Value),(olds.drop k)[j]? =some u->w.cell? ((⟨g,k,none⟩:Addr).add j)=some u:=λj u hj=>by
 rw[List.getElem?_drop,←htk] at hj;have:=Pg hg _ _ u hj;rw[Addr.add_lit,yF] at this;rw[Addr.add_lit];exact this
theorem Bf (g:Nat):∀(vs:List Value) (o:Nat) (w:World),(w.setCells g o vs).os=w.os/\(w.setCells g o vs).tape=w.tape/\(w.setCells g o vs).output=w.output
 | [],_,_=>⟨rfl,rfl,rfl⟩
 | v::vs,o,w=>Bf g vs (o+1) (w.setCell ⟨g,o,none⟩ v)
theorem LR (hu:P.underlying t=some (.slice e)) (hei:TiOk P e ei) (hn:0<ei.size) (hg:w.heap[g]? =some (.cells cur e0 (0,0))) (hcs:cur.size=cap*ei.size) (htk:cur.toList.take (m*ei.size)=olds)
 (hR:RowAt w ei.size (some ⟨g,0,none⟩) m cap olds) (hO:OneAt w ei.size (some ⟨g,0,none⟩) cap vb voff vs) (hi:i<m) (hroom:m+1<=cap):
 (∀ty dc sc,(Builtin.copy_ #[t,t] ty #[.slice (some ⟨g,(i+1)*ei.size,none⟩) (m+1-(i+1)) dc,.slice (some ⟨g,i*ei.size,none⟩) (m+1-i) sc]).run P w= .ok (goInt (yO (m+1-i) (m+1-(i+1)))) (w.setCells g ((i+1)*ei.size) (olds.drop (i*ei.size))))/\
 (∀W:World,W.heap=(w.setCells g ((i+1)*ei.size) (olds.drop (i*ei.size))).heap->∀ty dc,(Builtin.copy_ #[t,t] ty #[.slice (some ⟨g,i*ei.size,none⟩) (m+1-i) dc,.slice (some ⟨vb,voff,none⟩) 1 vc]).run P W= .ok (goInt (yO 1 (m+1-i))) (W.setCells g (i*ei.size) vs))/\
 (∀W:World,W.heap=(w.setCells g ((i+1)*ei.size) (olds.drop (i*ei.size))).heap->W.os=w.os->W.tape=w.tape->W.output=w.output->Qa7 w ei.size i (some ⟨g,0,none⟩) m cap olds vs (.returned (.slice (some ⟨g,0,none⟩) (m+1) cap)) (W.setCells g (i*ei.size) vs)):=by
 obtain ⟨inf,z,hI,hsz,_⟩:=hei.info;obtain ⟨k1,k2,k3,k4⟩:=Qki (n:=ei.size) hi;have k5:m*ei.size+ei.size<=cap*ei.size:=by rw[←k4];exact zL _ hroom
 have hdl:(olds.drop (i*ei.size)).length=(m-i)*ei.size:=by rw[zW,hR.len,k3]
 have hfit1:(i+1)*ei.size+(olds.drop (i*ei.size)).length<=cur.size:=by rw[hdl];omega
 have hmin:yO (m+1-i) (m+1-(i+1))=m-i:=by simp only[xF];split<;>omega
 have hmin1:yO 1 (m+1-i)=1:=by simp only[xF];split<;>omega
 have hvb:vb≠g:=hO.ne g rfl (by omega);have hg1:=Uu g (olds.drop (i*ei.size)) ((i+1)*ei.size) w hg;have hfit2:i*ei.size+vs.length<=(putCells cur ((i+1)*ei.size) (olds.drop (i*ei.size))).size:=by rw[Ug,hO.len];omega
 refine ⟨λty dc sc=> ?_,λW hW ty dc=> ?_,λW hW ho ht hu'=> ?_⟩
 . exact UG w t t ty e inf g _ _ dc ⟨g,i*ei.size,none⟩ _ sc _ hu hI (by rw[hmin,hdl,hsz]) (AJ hg htk) hg hfit1 λv hv=>hR.ones v (yK hv)
 . refine UG W t t ty e inf g _ _ dc ⟨vb,voff,none⟩ _ vc _ hu hI (by rw[hmin1,hO.len,hsz,yJ]) (λj v hj=> ?_) (hW▸hg1) hfit2 hO.ones;rw[Addr.add_lit,World.cell?_of_block (w:=w) (by rw[hW];exact We g hvb _ _ _)];exact hO.cells j v hj
 obtain ⟨p1,p2,p3⟩:=Bf g vs (i*ei.size) W;have hg2:=Uu g vs (i*ei.size) W (hW▸hg1);refine ⟨_,rfl,⟨p1.trans ho,p2.trans ht,p3.trans hu', ?_,g,cap,_,e0,rfl,hg2,by rw[Ug,Ug];exact hcs, ?_,hroom,hR.cap,.inl ⟨rfl,by omega,λb hb=> ?_⟩⟩⟩
 . rw[Co,hW,Co];exact yY _
 . have hci:cur.toList.take (i*ei.size)=olds.take (i*ei.size):=by
    rw[←htk,yG];congr 1;omega
   have hA:((cur.toList.take ((i+1)*ei.size)++olds.drop (i*ei.size))++cur.toList.drop ((i+1)*ei.size+(olds.drop (i*ei.size)).length)).take (i*ei.size)=olds.take (i*ei.size):=by
    have hl:(cur.toList.take ((i+1)*ei.size)).length=(i+1)*ei.size:=by rw[zN,zV];omega
    rw[zU,zR (by rw[hl];omega),yG,←hci];congr 1;omega
   have hB:((cur.toList.take ((i+1)*ei.size)++olds.drop (i*ei.size))++cur.toList.drop ((i+1)*ei.size+(olds.drop (i*ei.size)).length)).drop (i*ei.size+vs.length)=olds.drop (i*ei.size)++cur.toList.drop ((i+1)*ei.size+(olds.drop (i*ei.size)).length):=by
    have hl:(cur.toList.take ((i+1)*ei.size)).length=i*ei.size+vs.length:=by rw[zN,zV,hO.len];omega
    rw[zU,←hl,List.drop_left]
   rw[Bj hfit2,Bj hfit1,hA,hB]
   have hl3:(olds.take (i*ei.size)++vs++olds.drop (i*ei.size)).length=(m+1)*ei.size:=by
    rw[zJ,zJ,hdl,hO.len,zN,hR.len,k3];omega
   rw[←zU,←hl3,yS]
 rw[We g hb,hW,We g hb]
theorem Qea {tn:TypeId} (hu:P.underlying t=some (.slice e)) (htn:P.underlying tn=some (.int .i64)) (hei:TiOk P e ei) (hn:0<ei.size) (hg:w.heap[g]? =some (.cells cur e0 (0,0))) (hcs:cur.size=cap*ei.size) (htk:cur.toList.take (m*ei.size)=olds)
 (hR:RowAt w ei.size (some ⟨g,0,none⟩) m cap olds) (hO:OneAt w ei.size (some ⟨g,0,none⟩) cap vb voff vs) (hvw:vb<w.heap.size) (hi:i<m) (hroom:cap<m+1):
 ∃G W1,m+1<=G/\G<=maxLen/\(∀ty k,k=((m+1-i:Nat):Int)->(Builtin.append_ #[t,tn] ty #[.slice (some ⟨g,0,none⟩) i cap,.int .i64 k]).run P w= .ok (.slice (some ⟨w.heap.size,0,none⟩) (m+1) G) W1)/\
 (∀W:World,W.heap=W1.heap->∀ty dc,(Builtin.copy_ #[t,t] ty #[.slice (some ⟨w.heap.size,i*ei.size,none⟩) (m+1-i) dc,.slice (some ⟨vb,voff,none⟩) 1 vc]).run P W= .ok (goInt (yO 1 (m+1-i))) (W.setCells w.heap.size (i*ei.size) vs))/\
 (∀W:World,W.heap=(W1.setCells w.heap.size (i*ei.size) vs).heap->∀ty dc sc,(Builtin.copy_ #[t,t] ty #[.slice (some ⟨w.heap.size,(i+1)*ei.size,none⟩) (m+1-(i+1)) dc,.slice (some ⟨g,i*ei.size,none⟩) (m-i) sc]).run P W= .ok (goInt (yO (m-i) (m+1-(i+1)))) (W.setCells w.heap.size ((i+1)*ei.size) (olds.drop (i*ei.size))))/\
 (∀W:World,W.heap=(W1.setCells w.heap.size (i*ei.size) vs).heap->W.os=w.os->W.tape=w.tape->W.output=w.output->Qa7 w ei.size i (some ⟨g,0,none⟩) m cap olds vs (.returned (.slice (some ⟨w.heap.size,0,none⟩) (m+1) G)) (W.setCells w.heap.size ((i+1)*ei.size) (olds.drop (i*ei.size))))/\
 W1.os=w.os/\W1.tape=w.tape/\W1.output=w.output:=by
 obtain ⟨inf,z,hI,hsz,hby,hz,hzs,_⟩:=hei.info;obtain ⟨k1,k2,k3,k4⟩:=Qki (n:=ei.size) hi;have hlim:=hR.lim;have hle:=hR.le;have hgw:g<w.heap.size:=Ye hg;have hdl:(olds.drop (i*ei.size)).length=(m-i)*ei.size:=by rw[zW,hR.len,k3]
 have htl:(olds.take (i*ei.size)).length=i*ei.size:=by rw[zN,hR.len];omega
 have hmin:yO (m-i) (m+1-(i+1))=m-i:=by simp only[xF];split<;>omega
 have hmin1:yO 1 (m+1-i)=1:=by simp only[xF];split<;>omega
 have hold:(Builtin.firstCells inf.size i (.slice (some ⟨g,0,none⟩) i cap)).run P w.drew= .ok (olds.take (i*ei.size)).toArray w.drew:=by
  refine run_firstCells_some w.drew inf.size i ⟨g,0,none⟩ i cap _ (by rw[htl,hsz]) λj u hj=> ?_
  rw[List.getElem?_take] at hj;split at hj
  . rw[←htk] at hj;exact Pg hg _ j u hj
  cases hj
 have hik:i+(m+1-i)=m+1:=by omega
 have hbytes:((m+1)+(m+1) / 4+192)*inf.bytes<=281474976710656:=xM (Nat.mul_le_mul (show _<=1342177472 by omega) hby) (by decide);have hkb:(m+1-i)*inf.bytes<=281474976710656:=xM (zL _ (by omega)) hbytes
 have hap:∀ty,(Builtin.append_ #[t,tn] ty #[.slice (some ⟨g,0,none⟩) i cap,.int .i64 ((m+1-i:Nat):Int)]).run P w=_:=λty=>
  Lib.run_append_grow_zeros w t tn ty e inf z .i64 .i64 hu htn hI hz (some ⟨g,0,none⟩) i cap (olds.take (i*ei.size)) hold (m+1-i) (by omega) (by omega) (by omega) (by omega) hkb (by rw[hik];exact growslice_fits_wide hroom hbytes)
 rw[hik] at hap;obtain ⟨G,hG⟩:∃G,G=grownCap w (m+1) cap e:=⟨_,rfl⟩;have hGn:m+1<=G:=by rw[hG];exact grownCap_ge w _ _ _
 have hGm:G<=maxLen:=by rw[hG];exact grownCap_le_maxLen w _ _ _ (by unfold maxLen;omega)
 rw[←hG] at hap;obtain ⟨ROW,hROW⟩:∃ROW:Array Value,ROW=(olds.take (i*ei.size)).toArray++Builtin.zeroCells z.cells (m+1-i)++Builtin.zeroCells z.cells (G-(m+1)):=⟨_,rfl⟩;rw[←hROW] at hap
 have hRs:ROW.size=G*ei.size:=by
  rw[hROW];simp only[Array.size_append,yX,size_zeroCells,hzs,htl,←yW]
  congr 1
  omega
 have hRt:ROW.toList.take (i*ei.size)=olds.take (i*ei.size):=by
  rw[hROW,xI,xI,zU];show (olds.take (i*ei.size)++_).take _=_;rw[zR (by rw[htl];omega),zS (by rw[htl];omega)]
 have hGe:(m+1)*ei.size<=G*ei.size:=zL _ hGn;obtain ⟨W1,hW1⟩:∃W1,W1=w.drew.alloc (.cells ROW e):=⟨_,rfl⟩;rw[←hW1] at hap;have hn1:W1.heap[w.heap.size]? =some (.cells ROW e (0,0)):=by rw[hW1];exact heap_alloc_new w.drew _
 have ho1:∀b,b<w.heap.size->W1.heap[b]? =w.heap[b]? :=λb hb=>by rw[hW1];exact heap_alloc_old w.drew _ hb
 have hs1:W1.heap.size=w.heap.size+1:=by rw[hW1];simp
 have hfitA:i*ei.size+vs.length<=ROW.size:=by rw[hO.len,hRs];omega
 have hg2:=Uu w.heap.size vs (i*ei.size) W1 hn1;have hfitB:(i+1)*ei.size+(olds.drop (i*ei.size)).length<=(putCells ROW (i*ei.size) vs).size:=by rw[Ug,hdl,hRs];omega
 refine ⟨G,W1,hGn,hGm,λty k hk=>by subst hk;exact hap ty,λW hW ty dc=> ?_,λW hW ty dc sc=> ?_,λW hW ho ht hu'=> ?_,by rw[hW1];rfl,by rw[hW1];rfl,by rw[hW1];rfl⟩
 . refine UG W t t ty e inf _ _ _ dc ⟨vb,voff,none⟩ _ vc _ hu hI (by rw[hmin1,hO.len,hsz,yJ]) (λj v hj=> ?_) (hW▸hn1) hfitA hO.ones;rw[Addr.add_lit,World.cell?_of_block (w:=w) (by rw[hW];exact ho1 _ hvw)];exact hO.cells j v hj
 . refine UG W t t ty e inf _ _ _ dc ⟨g,i*ei.size,none⟩ _ sc _ hu hI (by rw[hmin,hdl,hsz]) (λj v hj=> ?_) (hW▸hg2) hfitB λv hv=>hR.ones v (yK hv)
   have:=AJ hg htk j v hj;rw[Addr.add_lit] at this⊢;rw[World.cell?_of_block (w:=w) (by rw[hW];exact (We w.heap.size (show g≠w.heap.size by omega) _ _ _).trans (ho1 _ hgw))];exact this
 obtain ⟨p1,p2,p3⟩:=Bf w.heap.size (olds.drop (i*ei.size)) ((i+1)*ei.size) W;have hg3:=Uu w.heap.size (olds.drop (i*ei.size)) ((i+1)*ei.size) W (hW▸hg2);have hsz3:(W.setCells w.heap.size ((i+1)*ei.size) (olds.drop (i*ei.size))).heap.size=w.heap.size+1:=by rw[Co,hW,Co,hs1]
 refine ⟨_,rfl,⟨p1.trans ho,p2.trans ht,p3.trans hu',by omega,w.heap.size,G,_,e,rfl,hg3,by rw[Ug,Ug];exact hRs, ?_,hGn,hGm,.inr ⟨yY _,by omega,λb hb=> ?_⟩⟩⟩
 . rw[Bj hfitB,Bj hfitA,hRt];have hl:(olds.take (i*ei.size)++vs).length=(i+1)*ei.size:=by rw[zJ,htl,hO.len];omega
   rw[show ((olds.take (i*ei.size)++vs++ROW.toList.drop (i*ei.size+vs.length)).take ((i+1)*ei.size))=olds.take (i*ei.size)++vs from by rw[←hl,yS]]
   have hl3:(olds.take (i*ei.size)++vs++olds.drop (i*ei.size)).length=(m+1)*ei.size:=by
    rw[zJ,zJ,hdl,hO.len,htl,k3];omega
   rw[←hl3,yS]
 rw[We _ (show b≠w.heap.size by omega),hW,We _ (show b≠w.heap.size by omega)];exact ho1 b hb
theorem TL {z1:Nat} {z2:List C} {z3:List LK} {tt:List (Nat×TI)} (htt:Nj P tt=true) (g1:get tt t=some ⟨.sli e,z1,z2,z3⟩) (g2:get tt e=some ei) (hn:0<ei.size) (hg:w.heap[g]? =some (.cells cur e0 (0,0))) (hcs:cur.size=cap*ei.size) (htk:cur.toList.take (m*ei.size)=olds)
 (hR:RowAt w ei.size (some ⟨g,0,none⟩) m cap olds) (hi:i<m):
 ∃W1,(∀ty ad,(cap=i+1\/ad=⟨g,(i+1)*ei.size,none⟩)->(Builtin.append_ #[t,t] ty #[.slice (some ⟨g,0,none⟩) i cap,.slice (some ad) (m-(i+1)) (cap-(i+1))]).run P w= .ok (.slice (some ⟨g,0,none⟩) (m-1) cap) W1)/\W1.os=w.os/\W1.tape=w.tape/\W1.output=w.output/\
 ∀ W:World,W.heap=W1.heap->W.os=w.os->W.tape=w.tape->W.output=w.output->∃W2:World,(∀ty,(Builtin.clear_ #[t] ty #[.slice (some ⟨g,(m-1)*ei.size,none⟩) (m-(m-1)) (cap-(m-1))]).run P W= .ok (.tuple #[]) W2)/\
   ∀W3:World,W3.heap=W2.heap->W3.os=W2.os->W3.tape=W2.tape->W3.output=W2.output->PN w ei.size i (some ⟨g,0,none⟩) m cap olds (.returned (.slice (some ⟨g,0,none⟩) (m-1) cap)) W3:=by
 have hei:=Z7 htt g2;have hu:=(Z7 htt g1).sli;obtain ⟨inf,z,hI,hsz,hby,hz,hzs,_⟩:=hei.info;obtain ⟨k1,k2,k3,k4⟩:=Qki (n:=ei.size) hi;have hle:=hR.le;have hlim:=hR.lim;have k6:m*ei.size<=cap*ei.size:=zL _ hle;have k7:(m-1)*ei.size=m*ei.size-ei.size:=by rw[xO,yJ]
 have k8:(m-(i+1))*ei.size=m*ei.size-(i+1)*ei.size:=xO ..;have hdl:(olds.drop ((i+1)*ei.size)).length=(m-(i+1))*ei.size:=by rw[zW,hR.len,k8]
 have hfit:i*ei.size+(olds.drop ((i+1)*ei.size)).length<=cur.size:=by rw[hdl,hcs];omega
 have hg1:=Uu g (olds.drop ((i+1)*ei.size)) (i*ei.size) w hg;have hcs1:(putCells cur (i*ei.size) (olds.drop ((i+1)*ei.size))).size=cap*ei.size:=by rw[Ug];exact hcs
 obtain ⟨q1,q2,q3⟩:=Bf g (olds.drop ((i+1)*ei.size)) (i*ei.size) w
 have hlist:(putCells cur (i*ei.size) (olds.drop ((i+1)*ei.size))).toList.take ((m-1)*ei.size)=olds.take (i*ei.size)++olds.drop ((i+1)*ei.size):=by
  have hci:cur.toList.take (i*ei.size)=olds.take (i*ei.size):=by
   rw[←htk,yG];congr 1;omega
  have hl:(olds.take (i*ei.size)++olds.drop ((i+1)*ei.size)).length=(m-1)*ei.size:=by
   rw[zJ,hdl,zN,hR.len];omega
  rw[Bj hfit,hci,←hl,yS]
 refine ⟨w.setCells g (i*ei.size) (olds.drop ((i+1)*ei.size)),λty ad had=> ?_,q1,q2,q3,λW hW ho ht hu'=> ?_⟩
 . have hs:Src P inf.size t (.slice (some ad) (m-(i+1)) (cap-(i+1))) (m-(i+1)) (olds.drop ((i+1)*ei.size)) w:=by
    refine Src.ofSlice w hu _ _ _ _ (by rw[hdl,hsz]) (λj u hj=> ?_) λu hu=>hR.ones u (yK hu)
    rcases had with had | rfl
    . have:(olds.drop ((i+1)*ei.size)).length=0:=by rw[hdl,show m-(i+1)=0 by omega,Nat.zero_mul]
      rw[xB.1 this] at hj;simp at hj
    exact AJ hg htk j u hj
   have hr:=run_append_room_src (P:=P) w t t ty e inf hu hI g 0 i cap _ _ _ hs (by omega) (λj hj=>by
    rw[hsz];have:0+i*ei.size+j<cur.size:=by omega
    simp only[World.cell?,hg,yV this];rfl) (λj hj=>by simp[World.frozen?,hg])
   rw[hsz,yF,show i+(m-(i+1))=m-1 by omega] at hr;exact hr
 obtain ⟨zs,ps,hzl,hpl,hzv,hrun⟩:=LP (P:=P) (w:=W) (m:=m) (i:=m-1) htt g1 g2 rfl (hW▸hg1) hcs1 (by omega) hle 0;refine ⟨_,λty=>hrun,λW3 h3 o3 t3 u3=> ?_⟩;have hgw:=setRow_heap W g _ ((putCells cur (i*ei.size) (olds.drop ((i+1)*ei.size))).toList.take ((m-1)*ei.size)++(zG (m-(m-1)) zs).flatten++(putCells cur (i*ei.size) (olds.drop ((i+1)*ei.size))).toList.drop ((m-1)*ei.size+(m-(m-1))*ei.size)).toArray e0 (0,0) (hW▸hg1);rw[←h3] at hgw
 have hfl:((zG (m-(m-1)) zs).flatten).length=(m-(m-1))*ei.size:=by
  rw[yM,yQ,hzl];simp
 have h5:(m-(m-1))*ei.size=ei.size:=by rw[show m-(m-1)=1 by omega,yJ]
 refine ⟨_,rfl,⟨o3.trans ho,t3.trans ht,u3.trans hu', ?_,g,cap,_,e0,rfl,hgw, ?_, ?_,by omega,hR.cap,.inl ⟨rfl,by omega,λb hb=> ?_⟩⟩⟩
 . rw[h3];simp only[World.setRow,Array.size_modify];rw[hW,Co];exact yY _
 . simp only[yX,zJ,hfl,zN,zW,zV,hcs1];omega
 . show ((_:List Value)++_++_).take _=_
   have hl:((putCells cur (i*ei.size) (olds.drop ((i+1)*ei.size))).toList.take ((m-1)*ei.size)).length=(m-1)*ei.size:=by
    rw[zN,zV,hcs1];omega
   rw[zU,zR (by rw[hl];omega),zS (by rw[hl];omega),hlist]
 rw[h3,setRow_other W g b _ hb,hW,We g hb]
def N7 {α:Type} (l:List α) (j:Nat) (y:α):List α:=l.take j++ [y]++l.drop j
def BY {α:Type} (l:List α) (j:Nat):List α:=l.take j++l.drop (j+1)
theorem Qa8 {α:Type} [GoE α] {f n:Nat} (hok:E9 P f) (h0:0<n)
 (hrun:∀w oa m cap olds i vb voff vc vs,RowAt w n oa m cap olds->OneAt w n oa cap vb voff vs->i<=m->Calls P f #[.slice oa m cap,.int .i64 (i:Int),.slice (some ⟨vb,voff,none⟩) 1 vc] w (Qa7 w n i oa m cap olds vs))
 (l:List α) (y:α) {i:Int} (hi:0<=i) (hj:i<=l.length) (hl:l.length<1073741824):ATake P f n (eL l) [.one (.int .i64 i),.one (.slc .sh n (eL [y]))] true false (eL (N7 l i.toNat y)):=by
 have h:=Qd8 hok h0 hrun (l:=eL l) (x:=GoE.enc y) (i:=i) (j:=i.toNat) (by omega) (by simp[eL];omega) (by simpa [eL] using hl);rw[show eL (N7 l i.toNat y)=(eL l).take i.toNat++ [GoE.enc y]++(eL l).drop i.toNat by simp[N7,eL,List.map_take,List.map_drop]];exact h
theorem DW {α:Type} [GoE α] {f n:Nat} (hok:E9 P f)
 (hrun:∀w oa m cap olds i,RowAt w n oa m cap olds->i<m->Calls P f #[.slice oa m cap,.int .i64 (i:Int),.int .i64 ((i:Int)+1)] w (PN w n i oa m cap olds))
 (l:List α) {i k:Int} (hi:0<=i) (hk:k=i+1) (hj:i<l.length) (hl:l.length<1073741824):ATake P f n (eL l) [.one (.int .i64 i),.one (.int .i64 k)] true false (eL (BY l i.toNat)):=by
 have h:=Qd9 hok hrun (l:=eL l) (i:=i) (k:=k) (j:=i.toNat) (by omega) (by omega) (by simp[eL];omega) (by simpa [eL] using hl);rw[show eL (BY l i.toNat)=(eL l).take i.toNat++(eL l).drop (i.toNat+1) by simp[BY,eL,List.map_take,List.map_drop]];exact h
end
end
section
open Go.RowKit
theorem Qa9 {P:Program} {f n:Nat} {l l':List (List PV)} {args:List AV} (h:ATake P f n l args true false l') (hf:Ln l'):ATake P f n l args false false l':=by
 refine ⟨h.1,λw F G L v vals hok hFG _ hGs hnd hLG hrow hargs=> ?_⟩;refine (h.2 w G G L v vals hok (λ_ h=>h) (λ_ _ h=>h) hGs hnd hLG (OwnTop.keep hrow (λb hb=>⟨hFG b hb,rfl⟩) λ_ _=>rfl) hargs).mono ?_
 rintro e w' ⟨u,rfl,h1,h2,L',h3,h4,h5⟩
 refine ⟨u,rfl,h1,h2,L',h3,h4, ?_⟩;rcases h5 with h5 | ⟨g,cap,cur,e,rfl,rfl,hg,hs,hr,h5,h6⟩
 . exact .inl h5
 exact .inr ⟨g,cap,cur,e,rfl,rfl,hg,hs,OR.vr (VR.orr (w':=w') hr hf) λb hb=>(by simp at hb),h5,h6⟩
theorem Qlu {n:Nat} {hi:Int} (h0:0<=hi) (h1:hi<=(n:Int)):(0:Int)<=0/\0<=hi/\hi<=(n:Int):=⟨Int.le_refl _,h0,h1⟩
section
variable {α:Type} {p:α->Bool}
def ixF (p:α->Bool):List α->Int
 | []=> -1
 | a::l=>bif p a then 0 else bif ixF p l== -1 then-1 else ixF p l+1
theorem VU (p:α->Bool):∀l:List α,-1<=ixF p l/\ixF p l<l.length
 | []=>by simp[ixF]
 | a ::l=>by
   have ih:=VU p l;simp only[ixF,zM];cases p a with
   | true=>simp only[cond_true];omega
   | false=>
     simp only[cond_false];cases h:(ixF p l== -1) with
     | true=>simp only[cond_true];omega
     | false=>simp only[cond_false];omega
theorem Qip {f:Nat->α->Unit->Rd Int Unit Unit} {e:Nat->Unit->Unit} (hf:∀k a s,f k a s=bif p a then .ret ((k:Nat):Int) else .next ()):∀(l:List α) (k:Nat),Xz f e l k ()=bif ixF p l== -1 then .brk () else .ret ((k:Int)+ixF p l)
 | [],k=>rfl
 | a :: l,k=>by
   simp only[Xz,hf,ixF];cases p a with
   | true=>simp only[cond_true];rw[show ((0:Int)== -1)=false from rfl,cond_false,Int.add_zero]
   | false=>
     simp only[cond_false];rw[Qip hf l (k+1)];have hb:=VU p l;cases h:(ixF p l== -1) with
     | true=>simp only[cond_true];rfl
     | false=>
       have hne:ixF p l≠-1:=by simpa using h
       simp only[cond_false];rw[show (ixF p l+1== -1)=false by simp;omega,cond_false]
       congr 1;omega
theorem Qeb {f:Nat->α->Unit->Rd Int Unit Unit} {e:Nat->Unit->Unit} (hf:∀k a s,f k a s=bif p a then .ret ((k:Nat):Int) else .next ()) (l:List α):Out.on (Xz f e l 0 ()) (λ_=> -1)=ixF p l:=by
 rw[Qip hf];cases h:(ixF p l== -1) with
 | true=>simp only[cond_true,Out.on];exact (by simpa using h:ixF p l= -1).symm
 | false=>simp only[cond_false,Out.on];omega
theorem Qg9 {l :List α} (h:ixF p l= -1):∀a,a∈l->p a=false:=by
 induction l with
 | nil=>intro a ha;simp at ha
 | cons b l ih =>
   intro a ha;have hb:=VU p l;simp only[ixF] at h;cases hp:p b with
   | true=>rw[hp] at h;simp at h
   | false=>
     rw[hp] at h;simp only[cond_false] at h;cases h2:(ixF p l== -1) with
     | true => rcases List.mem_cons.1 ha with rfl | ha
               . exact hp
               exact ih (by simpa using h2) a ha
     | false=>rw[h2] at h;simp only[cond_false] at h;omega
theorem Qha {l:List α} {i:Nat} (h:ixF p l=(i:Int)):(l.take i).filter (λa=> !p a)=l.take i/\∃a,l[i]? =some a/\p a=true:=by
 induction l generalizing i with
 | nil=>simp[ixF] at h
 | cons b l ih=>
   have hb:=VU p l;simp only[ixF] at h;cases hp:p b with
   | true=>
     rw[hp] at h;simp only[cond_true] at h;obtain rfl:i=0:=by omega
     exact ⟨rfl,b,rfl,hp⟩
   | false=>
     rw[hp] at h;simp only[cond_false] at h;cases h2:(ixF p l== -1) with
     | true=>rw[h2] at h;simp only[cond_true] at h;omega
     | false=>
       rw[h2] at h;simp only[cond_false] at h;have:ixF p l≠-1:=by simpa using h2
       obtain ⟨j,rfl⟩:∃j,i=j+1:=⟨i-1,by omega⟩;obtain ⟨h3,a,h4,h5⟩:=ih (i:=j) (by omega);exact ⟨by simp[hp,h3],a,by simpa using h4,h5⟩
theorem TM {R S T:Type} {f:S->Rd R S T}:∀{n m:Nat} {s:S} {x:Out R T},whl f n s=some x->n<=m->whl f m s=some x
 | 0,_,_,_,h,_=>by simp[whl] at h
 | n+1,0,_,_,_,hm=>absurd hm (Nat.not_succ_le_zero n)
 | n+1,m+1,s,x,h,hm=>by
   simp only[whl] at h⊢;cases hf:f s with
   | brk t=>rw[hf] at h;exact h
   | ret r=>rw[hf] at h;exact h
   | next s'=>rw[hf] at h;exact TM h (by omega)
variable [Inhabited α]
def AK {R:Type} (f:List α×Int×Int->Rd R (List α×Int×Int) (List α×Int)) (p:α->Bool):Prop:=
 ∀(s:List α) (i j:Nat),i<j->j<=1073741824->f (s,(i:Int),(j:Int))=bif decide ((j:Int)<(s.length:Int)) then (bif p (nth s j) then .next (s,(i:Int),((j+1:Nat):Int)) else .next (s.set i (nth s j),((i+1:Nat):Int),((j+1:Nat):Int))) else .brk (s,(i:Int))
theorem PO {R:Type} {f:List α×Int×Int->Rd R (List α×Int×Int) (List α×Int)} (hf:AK f p) (o:List α) (ho:o.length<=1073741824):∀(n:Nat) (s:List α) (i j:Nat),j+n=o.length->i<j->s.length=o.length->s.take i=(o.take j).filter (λa=> !p a)->s.drop j=o.drop j->
 ∃s' i',whl f (n+1) (s,(i:Int),(j:Int))=some (.brk (s',((i':Nat):Int)))/\s'.take i'=o.filter (λa=> !p a)/\i'<o.length/\s'.length=o.length
 | 0,s,i,j,hn,hij,hl,ht,hd=>by
   refine ⟨s,i, ?_, ?_,by omega,hl⟩
   . simp only[whl,hf s i j hij (by omega)];rw[decide_eq_false (by omega)];rfl
   rw[ht,zS (by omega)]
 | n +1,s,i,j,hn,hij,hl,ht,hd=>by
   have hj:j<s.length:=by omega
   have hjo:j<o.length:=by omega
   have hx:nth s j=o[j]:=by
    have h1:s[j]? =o[j]? :=by
     have:=congrArg (λl=>l[0]?) hd;simpa [List.getElem?_drop] using this
    rw[yC hjo] at h1;simp[nth,xN,h1]
   have htj:o.take (j+1)=o.take j++ [o[j]]:=by rw[yZ,yC hjo];rfl
   have hd1:∀s2:List α,s2.drop (j+1)=s.drop (j+1)->s2.drop (j+1)=o.drop (j+1):=λs2 h2=>by
    have:=congrArg (yH 1) hd;rw[List.drop_drop,List.drop_drop] at this;exact h2.trans this
   have hst:f (s,(i:Int),(j:Int))=_:=hf s i j hij (by omega);rw[decide_eq_true (by omega),hx] at hst;simp only[cond_true] at hst;cases hp:p o[j] with
   | true=>
     rw[hp] at hst;simp only[whl,hst,cond_true];exact PO hf o ho n s i (j+1) (by omega) (by omega) hl (by rw[ht,htj,yT];simp[hp]) (hd1 s rfl)
   | false=>
     rw[hp] at hst;simp only[whl,hst,cond_false];refine PO hf o ho n (s.set i o[j]) (i+1) (j+1) (by omega) (by omega) (by simpa using hl) ?_ (hd1 _ (List.drop_set_of_lt (by omega)));rw[htj,yT,←ht];rw[yZ,List.take_set_of_le (yY i),List.getElem?_set_self (by omega)];simp[hp]
theorem TN {R:Type} {f:List α×Int×Int->Rd R (List α×Int×Int) (List α×Int)} (hf:AK f p) {o:List α} (ho:o.length<=1073741824) {ix:Int} (hix:ix=ixF p o) (hne:ix≠-1):
 ∃s' i',whl f (o.length+1) (o,ix,ix+1)=some (.brk (s',((i':Nat):Int)))/\s'.take i'=o.filter (λa=> !p a)/\i'<o.length/\s'.length=o.length:=by
 have hb:=VU p o;obtain ⟨i,hi⟩:∃i:Nat,ix=(i:Int):=⟨ix.toNat,by omega⟩;obtain ⟨h1,a,h2,h3⟩:=Qha (p:=p) (l:=o) (i:=i) (by omega);have hio:i<o.length:=by omega
 obtain ⟨s',i',h4,h5⟩:=PO hf o ho (o.length-(i+1)) o i (i+1) (by omega) (by omega) rfl (by
  rw[yZ,h2,yT,h1];simp[h3]) rfl
 refine ⟨s',i', ?_,h5⟩;subst hi;exact TM h4 (by omega)
theorem Qhb {R:Type} {f:List α×Int×Int->Rd R (List α×Int×Int) (List α×Int)} (hf:AK f p) {o:List α} (ho:o.length<=1073741824) {ix:Int} (hix:ix=ixF p o) (hne:ix≠-1):(whl f (o.length+1) (o,ix,ix+1)).isSome=true:=by
 obtain ⟨s',i',h,_⟩:=TN hf ho hix hne;rw[h];rfl
theorem Qlv {f:List α×Int×Int->Rd (List α) (List α×Int×Int) (List α×Int)} (hf:AK f p) {o:List α} (ho:o.length<=1073741824) {ix:Int} (hix:ix=ixF p o):
 (bif (ix==(-1:Int)) then o else Out.on (I0 f (o.length+1) (o,ix,ix+1)) (λy=>zT (yP y.2) y.1))=o.filter (λa=> !p a):=by
 cases h:(ix==(-1:Int)) with
 | true=>
   have h:ix= -1:=by simpa using h
   simp only[cond_true];exact (List.filter_eq_self.2 λa ha=>by simp[Qg9 (hix▸h) a ha]).symm
 | false=>
   obtain ⟨s',i',h1,h2,_⟩:=TN hf ho hix (by simpa using h);simp only[cond_false,I0,h1];simpa [Out.on] using h2
end
open GoE (enc wide)
def J3 (f:Xe) (user:Int):Bool:=((Je user)&&((f.2.1==user)|| f.2.2.1))
theorem FN (f:Xe) (user:Int):ACalls Tryz.prog 168 [.a [.i f.1,.i f.2.1,.b f.2.2.1,.i f.2.2.2.1,.h f.2.2.2.2],.i user] (.b (J3 f user)):=by
 refine en Qb Tryz.func168 λw0 F0 hG=> ?_
 refine sn Qb [1,2,4] [2] p0 <| Qc <| mz [(2,.p 2 0),(4,.b false)] [0] [(2, [.i f.1,.i f.2.1,.b f.2.2.1,.i f.2.2.2.1,.h f.2.2.2.2])] [] <| jn [(4,.b ((Je user)&&((f.2.1==user)|| f.2.2.1)))] [1,2,4] [] [2] (Je user) (λh1=> ?_) (λh1=> ?_) ?_
 ·refine Xu (f.2.1==user) (λh2=> ?_) (λh2=> ?_)
  ·refine rn Qb [4] [] (pc 1 (cb h1 (Hh user)) (pt 6 h2 p0)) ?_;exact zA (by rw[h1,h2]<;>kernel_rfl)
  refine rn Qb [4] [] (pc 1 (cb h1 (Hh user)) (pf 6 h2 p0)) ?_;exact zA (by rw[h1,h2]<;>kernel_rfl)
 ·refine rn Qb [4] [] (pc 1 (cb h1 (Hh user)) p0) ?_;exact zA (by rw[h1]<;>kernel_rfl)
 exact Qe <| pb [] (show J3 f user=((Je user)&&((f.2.1==user)|| f.2.2.1)) from rfl)
def Qp (f:Xe):Xe:=f
theorem Fd (f:Xe):ACalls Tryz.prog 99 [.a [.i f.1,.i f.2.1,.b f.2.2.1,.i f.2.2.2.1,.h f.2.2.2.2]] (.a [.i ((Qp f).1),.i ((Qp f).2.1),.b ((Qp f).2.2.1),.i ((Qp f).2.2.2.1),.o 0 ((Qp f).2.2.2.2)]):=by
 refine en Qb Tryz.func99 λw0 F0 hG=> ?_
 exact sn Qb [1,2] [1,2] p0 <| tn Qb [1,2] [1,2] (pc 2 (OU f.2.2.2.2) p0) <| tu Qb [(2,.p 2 0)] [0] [(2, [.i f.1,.i f.2.1,.b f.2.2.1,.i f.2.2.2.1,.o 320 f.2.2.2.2])] [] p0 <| Qe <| pz [] (show Qp f=f from rfl) (λz=> .a [.i z.1,.i z.2.1,.b z.2.2.1,.i z.2.2.2.1,.o 0 z.2.2.2.2])
def Cl (f:Xe) (q0:Int):Bool:=(f.1==q0)
theorem BZ (f:Xe) (q0:Int):ACalls Tryz.prog 150 [.a [.i f.1,.i f.2.1,.b f.2.2.1,.i f.2.2.2.1,.h f.2.2.2.2],.one (.rptr .sh [.i q0])] (.b (Cl f q0)):=by
 refine en Qb Tryz.func150 λw0 F0 hG=> ?_
 exact sn Qb [1,2,3] [2] p0 <| tn Qb [3] [] p0 <| Qe <| pb [] (show Cl f q0=(f.1==q0) from rfl)
def Yv (c0:Int) (k0:Nat) (a0:Xe) (_:Unit):Rd (Int) (Unit) (Unit):=(bif (Cl a0 c0) then (.ret (k0:Int)) else (.next ()))
def Zv (_:Nat) (_:Unit):Unit:=()
def Km (s_:List Xe) (c0:Int):Int:=(Out.on (Xz (Yv c0) Zv s_ 0 ()) (λ_=> -1))
theorem F4 (s_:List Xe) (c0:Int):ACalls Tryz.prog 149 [.h s_,.one (.fnr 150 [[.i c0]])] (.i (Km s_ c0)):=by
 refine en Qb Tryz.func149 λw0 F0 hG=> ?_
 refine sn Qb [0,1,4] [] p0 <| Qc <| tn Qb [0,1,4,7,8] [] (pl 1 s_ p0) <| mz [(4,.i 0),(7,.i (s_.length:Int)),(8,.i 0)] [] [] [] <| wT 0 0 .sh s_ (λhw1 hl2=> ?_)
 refine P0 (Yv c0) Zv s_ () (λk0 _=> [(8,.i (k0:Int))]) [8] (λ_=> []) [0,1,7,8] wf0 (λk0 s0 hk0 U=> ?_) (λk0 s0 hk0 U=> ?_) (λy0 hD0=> ?_)
 ·obtain ⟨a0,hx0⟩:=Xm (l:=s_) (i:=k0) hk0;refine sn Qb [0,1,4,7,8,9] [] (pe 0 (zB ((k0:Int)<(s_.length:Int))) p0) <| Qc <| ckT <| Qg <| Qc <| Qv <| tn Qb [0,1,4,5,7,8] [] p0 <| tu Qb [(5,.i (k0:Int)),(16,.b (Cl a0 c0))] [] [] [] (pn 3 hx0 (pc 5 (BZ a0 c0) p0)) <| ck (Cl a0 c0) (λh3=> ?_) (λh3=> ?_)
  ·refine sn Qb [0,1,4,7,8] [] p0 <| Qe ?_
   have hr4:(Xz (Yv c0) Zv s_ 0 ())= .ret (k0:Int):=Jv hx0 (Q4 h3 (rfl)) U;exact pi [] (Pd hr4)
  refine Qg <| rn Qb [0,1,4,7,8] [] (pe 0 (Jl (Qo k0 (by omega))) p0) ?_
  exact xw _ (Qt hx0 (Qi h3 (rfl)) U)
 ·exact sn Qb [0,1,4,7,8,9] [] (pe 0 (zC ((k0:Int)<(s_.length:Int))) p0) <| Qc <| ckF <| Q3 <| xw _ (Xn hk0 (rfl) U)
 exact sn Qb [4] [] p0 <| Qe <| pi [] (Wk hD0 (rfl))
def Xw (s_:Qz) (id:Int):Int:=(Km s_.2.1 id)
theorem Ok (s_:Qz) (id:Int):ACalls Tryz.prog 98 [.a [.h s_.1,.h s_.2.1,.i s_.2.2],.i id] (.i (Xw s_ id)):=by
 refine en Qb Tryz.func98 λw0 F0 hG=> ?_
 exact sn Qb [2,3,4] [2,3] p0 <| tn Qb [4] [] (pc 3 (F4 s_.2.1 id) p0) <| Qe <| pi [] (show Xw s_ id=(Km s_.2.1 id) from rfl)
def V9 (user:Int) (_:Nat) (a0:Xe) (s0:List Xe):Rd (Qz) (List Xe) (List Xe):=(bif (J3 a0 user) then (.next (s0++ [(Qp a0)])) else (.next s0))
def Vc (_:Nat) (s0:List Xe):(List Xe):=s0
def Kr (s_:Qz) (k1:Nat) (_:Xe) (s1:List Xe):Rd (Qz) (List Xe) (List Xe):=(bif decide ((Xw (s_.1,s1,s_.2.2) ((nth s1 k1).2.2.2.1))<(0:Int)) then (.next (zK s1 k1 ((nth s1 k1).1,(nth s1 k1).2.1,(nth s1 k1).2.2.1,0,(nth s1 k1).2.2.2.2))) else (.next s1))
def U5 (_:Nat) (s1:List Xe):(List Xe):=s1
def Qy (s_:Qz) (user:Int):Qz:=(Out.on (Xz (V9 user) Vc s_.2.1 0 []) (λy0=>(Out.on (Xz (Kr s_) U5 y0 0 y0) (λy1=>(s_.1,y1,s_.2.2)))))
theorem Ol (s_:Qz) (user:Int):ACalls Tryz.prog 115 [.a [.h s_.1,.h s_.2.1,.i s_.2.2],.i user] (.a [.o 0 ((Qy s_ user).1),.o 1 ((Qy s_ user).2.1),.i ((Qy s_ user).2.2)]):=by
 refine en Qb Tryz.func115 λw0 F0 hG=> ?_
 refine sn Qb [1,2,4] [2,4] p0 <| tN Qb Zg [1,2,4,5] [2,4,5] (pc 2 (VM s_.1) p0) <| Qc <| tu Qb [(4,.p 4 0),(5,.p 5 0),(17,.h s_.2.1),(18,.i (s_.2.1.length:Int)),(19,.i 0)] [0] [(4, [.e 2,.e 5,.i 0]),(5, [.o 768 s_.1,.e 5,.i s_.2.2])] [] (pl 2 s_.2.1 p0) <| wT 17 0 .sh s_.2.1 (λhw1 hl2=> ?_)
 refine YP (V9 user) Vc s_.2.1 [] (λk0 _=> [(19,.i (k0:Int))]) [19] (λ_ s0=> [(5, [.o 768 s_.1,.o 147210 s0,.i s_.2.2])]) [5] (λ_=> []) [1,17,18,19] (λy0=> [(5, [.o 768 s_.1,.o 147360 y0,.i s_.2.2])]) [5] (λk0 s0=>zD s0<=k0) (Ao [(true,5,1,true,320008,5)] [] [] [(320008,147210)] (by kernel_rfl)) (by simp) (λk0 s0 hk0 U=> ?_) (λk0 s0 hk0 U=> ?_) (λy0 hD0=> ?_)
 ·have hA0_0:=U.2;obtain ⟨a0,hx0⟩:=Xm (l:=s_.2.1) (i:=k0) hk0;refine su Qb [(20,.b true)] [] [] [] (pe 0 (zB ((k0:Int)<(s_.2.1.length:Int))) p0) <| Qc <| ckT <| Qg <| Qc <| Qv <| sn Qb [1,4,5,7,17,18,19] [4,5,7] (pn 0 hx0 p0) <| tn Qb [1,4,5,7,17,18,19,25] [4,5,7] (pc 2 (FN a0 user) p0) <| ck (J3 a0 user) (λh3=> ?_) (λh3=> ?_)
  ·refine wB 5 1 (.own true 147210) s0 (λhw4 hl5=> ?_);refine qU Qb Zg [] [20] [(5, [.o 768 s_.1,.slc (.own true 1984) 5 ((eL s0)++ [[.i ((Qp a0).1),.i ((Qp a0).2.1),.b ((Qp a0).2.2.1),.i ((Qp a0).2.2.2.1),.h ((Qp a0).2.2.2.2)]]),.i s_.2.2])] [5] (pc 3 (Fd a0) (pa s0 [(Qp a0)] p0)) ?_;refine eqn [] [] [(5, [.o 768 s_.1,.o 1984 (s0++ [(Qp a0)]),.i s_.2.2])] [5] (by rw[show ((eL s0)++ [[.i ((Qp a0).1),.i ((Qp a0).2.1),.b ((Qp a0).2.2.1),.i ((Qp a0).2.2.2.1),.h ((Qp a0).2.2.2.2)]])=(eL (s0++ [(Qp a0)])) from Ju (rfl) (rfl)];first | done | kernel_rfl) ?_;refine rn Qb [1,4,5,17,18,19] [4,5] (pe 0 (Jl (Qo k0 (by omega))) p0) ?_;exact zE (s0++ [(Qp a0)]) (zH (Xg [(1984,147210)] (by kernel_rfl)) ⟨Qt hx0 (Q4 h3 (rfl)) U.1,by first|omega|(simp;omega) | simp⟩)
  refine Qg <| qu Qb [(19,.i ((k0+1:Nat):Int))] [19,20] [] [] (pe 0 (Jl (Qo k0 (by omega))) p0) ?_
  exact xw s0 ⟨Qt hx0 (Qi h3 (rfl)) U.1,by first|omega|(simp;omega) | simp⟩
 ·have hA0_0:=U.2;exact su Qb [(20,.b false)] [] [] [] (pe 0 (zC ((k0:Int)<(s_.2.1.length:Int))) p0) <| Qc <| ckF <| Q3 <| zE _ (zH (Xg [(147210,147360)] (by kernel_rfl)) (Xn hk0 (rfl) U.1))
 refine Qc <| sn Qb [4,5,35,36,37] [4,5] (pl 2 y0 p0) <| mz [(35,.o 147360 y0),(36,.i (y0.length:Int)),(37,.i 0)] [] [] [] <| wT 35 0 (.own true 147360) y0 (λhw6 hl7=> ?_)
 refine YP (Kr s_) U5 y0 y0 (λk1 s1=> [(35,.o 147360 s1),(37,.i (k1:Int))]) [35,37] (λ_ s1=> [(5, [.o 768 s_.1,.o 147360 s1,.i s_.2.2])]) [5] (λ_=> []) [35,36,37] (λy1=> [(5, [.o 768 s_.1,.o 147360 y1,.i s_.2.2])]) [5] (λ_ s1=>zD s1=zD y0) wf0 (by simp) (λk1 s1 hk1 hI1=> ?_) (λk1 s1 hk1 hI1=> ?_) (λy1 hD1=> ?_)
 ·have hA1_0:=hI1.2;obtain ⟨a1,hx1⟩:=Xm (l:=y0) (i:=k1) hk1;refine su Qb [(38,.b true)] [] [] [] (pe 0 (zB ((k1:Int)<(y0.length:Int))) p0) <| Qc <| ckT <| Qg <| Qc <| Qv <| wT 35 0 (.own true 147360) s1 (λhw9 hl10=> ?_)
  have hx8:=ng s1 k1;refine sn Qb [4,5,8,9,35,36,37] [4,5,9] (pN 1 hx8 p0) <| tn Qb [4,5,8,35,36,37,46] [4,5] (pc 3 (Ok (s_.1,s1,s_.2.2) ((nth s1 k1).2.2.2.1)) p0) <| ck (decide ((Xw (s_.1,s1,s_.2.2) ((nth s1 k1).2.2.2.1))<(0:Int))) (λh11=> ?_) (λh11=> ?_)
  ·have h11d:=of_decide_eq_true h11;refine qu Qb [(35,.one (.slc (.own true 147360) 5 (setRow (eL s1) k1 3 [.i 0])))] [35,38] [(5, [.o 768 s_.1,.slc (.own true 147360) 5 (setRow (eL s1) k1 3 [.i 0]),.i s_.2.2])] [5] (pN 3 hx8 p0) ?_;refine eqn [(35,.o 147360 (zK s1 k1 ((nth s1 k1).1,(nth s1 k1).2.1,(nth s1 k1).2.2.1,0,(nth s1 k1).2.2.2.2)))] [35] [(5, [.o 768 s_.1,.o 147360 (zK s1 k1 ((nth s1 k1).1,(nth s1 k1).2.1,(nth s1 k1).2.2.1,0,(nth s1 k1).2.2.2.2)),.i s_.2.2])] [5] (by rw[Jm (y:=((nth s1 k1).1,(nth s1 k1).2.1,(nth s1 k1).2.2.1,0,(nth s1 k1).2.2.2.2)) hx8 rfl]<;>kernel_rfl) ?_;refine rn Qb [4,5,35,36,37] [4,5] (pe 0 (Jl (Qo k1 (by omega))) p0) ?_;exact xw (zK s1 k1 ((nth s1 k1).1,(nth s1 k1).2.1,(nth s1 k1).2.2.1,0,(nth s1 k1).2.2.2.2)) ⟨Qt hx1 (Q4 h11 (rfl)) hI1.1,(by first|omega|(simp only[zF];omega))⟩
  have h11d:=of_decide_eq_false h11;refine Qg <| qu Qb [(37,.i ((k1+1:Nat):Int))] [37,38] [] [] (pe 0 (Jl (Qo k1 (by omega))) p0) ?_
  exact xw s1 ⟨Qt hx1 (Qi h11 (rfl)) hI1.1,(by first|omega|(simp only[zF];omega))⟩
 ·have hA1_0:=hI1.2;exact su Qb [(38,.b false)] [] [] [] (pe 0 (zC ((k1:Int)<(y0.length:Int))) p0) <| Qc <| ckF <| Q3 <| xw _ (Xn hk1 (rfl) hI1.1)
 exact sn Qb [4] [4] p0 <| Qe <| pz [] (show Qy s_ user=_ from Wk hD0 (Wk hD1 (rfl))) (λz=> .a [.o 0 z.1,.o 1 z.2.1,.i z.2.2])
def Ya (s_:Qz) (d:List X0) (user:Int):(List Qm)×Bool:=(bif ((!(Qj s_))|| (!(Je user))) then ([],false) else (((Yu (Qy s_ user) d)).1,((Yu (Qy s_ user) d)).2))
theorem Me (s_:Qz) (d:List X0) (user:Int):ACalls Tryz.prog 55 [.a [.h s_.1,.h s_.2.1,.i s_.2.2],.h d,.i user] (.tup [(false, [.o 0 (((Ya s_ d user)).1)]),(false, [.b (((Ya s_ d user)).2)])]):=by
 refine en Qb Tryz.func55 λw0 F0 hG=> ?_
 refine sn Qb [1,2,3,6,7] [3] p0 <| Qc <| Qc <| mz [(3,.p 3 0),(6,.e 0),(7,.b false)] [0] [(3, [.h s_.1,.h s_.2.1,.i s_.2.2])] [] <| jn [(15,.b ((!(Qj s_))|| (!(Je user))))] [] [] [] (!(Qj s_)) (λh1=> ?_) (λh1=> ?_) ?_
 ·have h1n:(Qj s_)=false:=Vj h1;refine rn Qb [1,2,3,6,7,15] [3] (pc 1 (cb h1n (Kk s_)) (pe 2 (show .b (!false)= .b true from rfl) p0)) ?_;exact zA (by rw[h1]<;>kernel_rfl)
 ·have h1n:(Qj s_)=true:=Za h1;refine rn Qb [1,2,3,6,7,15] [3] (pc 1 (cb h1n (Kk s_)) (pe 2 (show .b (!true)= .b false from rfl) (pc 5 (Hh user) p0))) ?_;exact zA (by rw[h1]<;>kernel_rfl)
 refine ck ((!(Qj s_))|| (!(Je user))) (λh2=> ?_) (λh2=> ?_)
 ·refine su Qb [] [15] [] [] p0 <| opn [(false,6,0,true,384000,2)] ?_
  exact Qe <| pz [] (show Ya s_ d user=_ from Q4 h2 (rfl)) (λz=> .tup [(false, [.o 0 z.1]),(false, [.b z.2])])
 exact Qg <| sn Qb [6,7] [] (pc 2 (Ol s_ user) (pc 4 (T3 (Qy s_ user) d) p0)) <| Qe <| pz [] (show Ya s_ d user=_ from Qi h2 (rfl)) (λz=> .tup [(false, [.o 0 z.1]),(false, [.b z.2])])
def Jd (s_:Qz) (d:List X0) (user:Int) (name:ByteArray):(List Int):=(Xj (((Ya s_ d user)).1) name)
theorem FO (s_:Qz) (d:List X0) (user:Int) (name:ByteArray):ACalls Tryz.prog 117 [.a [.h s_.1,.h s_.2.1,.i s_.2.2],.h d,.i user,.s name] (.o 0 (Jd s_ d user name)):=by
 refine en Qb Tryz.func117 λw0 F0 hG=> ?_
 exact sn Qb [1,2,3,4,8] [4] p0 <| tn Qb [3,8,9] [] (pc 3 (Me s_ d user) p0) <| tu Qb [(8,.o 1280 (Xj (((Ya s_ d user)).1) name))] [0,1,2,3] [] [] (pc 2 (Dy (((Ya s_ d user)).1) name) p0) <| Qe <| po0 [] (show Jd s_ d user name=(Xj (((Ya s_ d user)).1) name) from rfl)
def Rp (f:Xe) (u:Int):Bool:=((Xf u 0 2)&&((f.2.1==u)|| f.2.2.1))
theorem FP (f:Xe) (u:Int):ACalls Tryz.prog 76 [.a [.i f.1,.i f.2.1,.b f.2.2.1,.i f.2.2.2.1,.h f.2.2.2.2],.i u] (.b (Rp f u)):=by
 refine en Qb Tryz.func76 λw0 F0 hG=> ?_
 refine sn Qb [1,2,4] [2] p0 <| Qc <| mz [(2,.p 2 0),(4,.b false)] [0] [(2, [.i f.1,.i f.2.1,.b f.2.2.1,.i f.2.2.2.1,.h f.2.2.2.2])] [] <| jn [(4,.b ((Xf u 0 2)&&((f.2.1==u)|| f.2.2.1)))] [1,2,4] [] [2] (Xf u 0 2) (λh1=> ?_) (λh1=> ?_) ?_
 ·have h1w:=Dr.1 h1;refine Xu (f.2.1==u) (λh2=> ?_) (λh2=> ?_)
  ·refine rn Qb [4] [] (pc 1 (cb h1 (Z8 u 0 2)) (pt 6 h2 p0)) ?_;exact zA (by rw[h1,h2]<;>kernel_rfl)
  refine rn Qb [4] [] (pc 1 (cb h1 (Z8 u 0 2)) (pf 6 h2 p0)) ?_;exact zA (by rw[h1,h2]<;>kernel_rfl)
 ·refine rn Qb [4] [] (pc 1 (cb h1 (Z8 u 0 2)) p0) ?_;exact zA (by rw[h1]<;>kernel_rfl)
 exact Qe <| pb [] (show Rp f u=((Xf u 0 2)&&((f.2.1==u)|| f.2.2.1)) from rfl)
def Qu (f:Xe):Xe:=f
theorem Ih (f:Xe):ACalls Tryz.prog 60 [.a [.i f.1,.i f.2.1,.b f.2.2.1,.i f.2.2.2.1,.h f.2.2.2.2]] (.a [.i ((Qu f).1),.i ((Qu f).2.1),.b ((Qu f).2.2.1),.i ((Qu f).2.2.2.1),.o 0 ((Qu f).2.2.2.2)]):=by
 refine en Qb Tryz.func60 λw0 F0 hG=> ?_
 refine sn Qb [1,2] [1,2] p0 <| wB 1 4 .sh f.2.2.2.2 (λhw1 hl2=> ?_)
 exact tn Qb [1,2] [1,2] (po 3 (.flat) (px (Ey (n:=(([]:List (List PV)).length+((eL f.2.2.2.2):List (List PV)).length)) (G0 (rfl) (Zu f.2.2.2.2) (by first|omega|(simp only[zM,yD];omega) | (simp;omega) | simp))) (px (Cp (B8 f.2.2.2.2)) p0))) <| tu Qb [(2,.p 2 0)] [0] [(2, [.i f.1,.i f.2.1,.b f.2.2.1,.i f.2.2.2.1,.o 384 f.2.2.2.2])] [] p0 <| Qe <| pz [] (show Qu f=f from rfl) (λz=> .a [.i z.1,.i z.2.1,.b z.2.2.1,.i z.2.2.2.1,.o 0 z.2.2.2.2])
def Ii (id:Int) (k0:Nat) (a0:Xe) (_:Unit):Rd (Int) (Unit) (Unit):=(bif (a0.1==id) then (.ret (k0:Int)) else (.next ()))
def Ij (_:Nat) (_:Unit):Unit:=()
def Xd (s_:Qz) (id:Int):Int:=(Out.on (Xz (Ii id) Ij s_.2.1 0 ()) (λ_=> -1))
theorem KM (s_:Qz) (id:Int): -1<=Xd s_ id/\Xd s_ id<(zD s_.2.1:Int):=by
 unfold Xd;rw[Qeb (p:=λa:Xe=>a.1==id) (f:=Ii id) (e:=Ij) (λ_ _ _=>rfl)];exact VU _ _
theorem Lx (s_:Qz) (id:Int):ACalls Tryz.prog 59 [.a [.h s_.1,.h s_.2.1,.i s_.2.2],.i id] (.i (Xd s_ id)):=by
 refine en Qb Tryz.func59 λw0 F0 hG=> ?_
 refine sn Qb [1,2,4] [2] p0 <| Qc <| tn Qb [1,2,4,5] [2] p0 <| mz [(2,.p 2 0),(4,.i 0),(5,.i 0)] [0] [(2, [.h s_.1,.h s_.2.1,.i s_.2.2])] [] <| wB 2 1 .sh s_.2.1 (λhw1 hl2=> ?_)
 refine Qgj (Ii id) Ij s_.2.1 () (λk0 _=> [(5,.i (k0:Int))]) [5] (λ_ _=> []) [] (λ_=> []) [1,2,5] (λ_=> []) [2] wf0 (λk0 s0 hk0 U=> ?_) (λk0 s0 hk0 U=> ?_) (λy0 hD0=> ?_)
 ·obtain ⟨a0,hx0⟩:=Xm (l:=s_.2.1) (i:=k0) hk0;refine Qc <| sn Qb [1,2,4,5,10] [2] (pl 3 s_.2.1 (pe 4 (zB ((k0:Int)<(s_.2.1.length:Int))) p0)) <| ckT <| Qg <| Qc <| Qv <| tn Qb [1,2,4,5,20] [2] (pn 3 hx0 p0) <| ck (a0.1==id) (λh3=> ?_) (λh3=> ?_)
  ·refine tu Qb [(4,.i (k0:Int))] [4] [] [] p0 <| Qe ?_
   have hr4:(Xz (Ii id) Ij s_.2.1 0 ())= .ret (k0:Int):=Jv hx0 (Q4 h3 (rfl)) U;exact pi [] (Pd hr4)
  have h3d:=Y4 h3;refine Qg <| qu Qb [(5,.i ((k0+1:Nat):Int))] [5] [] [] (pe 1 (Jl (Qo k0 (by omega))) p0) ?_
  exact xw _ (Qt hx0 (Qi h3 (rfl)) U)
 ·exact Qc <| sn Qb [1,2,4,5,10] [2] (pl 3 s_.2.1 (pe 4 (zC ((k0:Int)<(s_.2.1.length:Int))) p0)) <| ckF <| Q3 <| xw _ (Xn hk0 (rfl) U)
 exact sn Qb [4] [] p0 <| Qe <| pi [] (Wk hD0 (rfl))
def F5 (u:Int) (_:Nat) (a0:Xe) (s0:List Xe):Rd (Qz) (List Xe) (List Xe):=(bif (Rp a0 u) then (.next (s0++ [(Qu a0)])) else (.next s0))
def F6 (_:Nat) (s0:List Xe):(List Xe):=s0
def F7 (s_:Qz) (k1:Nat) (s1:List Xe):Rd (Qz) (List Xe) (List Xe):=(bif decide ((Xd (s_.1,s1,s_.2.2) ((nth s1 k1).2.2.2.1))<(0:Int)) then (.next (zK s1 k1 ((nth s1 k1).1,(nth s1 k1).2.1,(nth s1 k1).2.2.1,0,(nth s1 k1).2.2.2.2))) else (.next s1))
def F8 (_:Nat) (s1:List Xe):(List Xe):=s1
def Q9 (s_:Qz) (u:Int):Qz:=(Out.on (Xz (F5 u) F6 s_.2.1 0 []) (λy0=>(Out.on (Uy (F7 s_) F8 (zD y0) 0 y0) (λy1=>(s_.1,y1,s_.2.2)))))
theorem Dk (s_:Qz) (u:Int):ACalls Tryz.prog 30 [.a [.h s_.1,.h s_.2.1,.i s_.2.2],.i u] (.a [.o 0 ((Q9 s_ u).1),.o 1 ((Q9 s_ u).2.1),.i ((Q9 s_ u).2.2)]):=by
 refine en Qb Tryz.func30 λw0 F0 hG=> ?_
 refine sn Qb [1,2,4] [2,4] p0 <| wB 2 0 .sh s_.1 (λhw1 hl2=> ?_)
 refine tN Qb Zg [1,2,4,5] [2,4,5] (po 3 (.flat) (px (Ey (n:=(([]:List (List PV)).length+((eL s_.1):List (List PV)).length)) (G0 (rfl) (Zu s_.1) (by first|omega|(simp only[zM,yD];omega) | (simp;omega) | simp))) (px (Cp (B8 s_.1)) p0))) <| Qc <| tu Qb [(2,.p 2 0),(4,.p 4 0),(5,.p 5 0),(6,.i 0)] [0] [(2, [.h s_.1,.h s_.2.1,.i s_.2.2]),(4, [.e 2,.e 5,.i 0]),(5, [.o 704 s_.1,.e 5,.i s_.2.2])] [] p0 <| wB 2 1 .sh s_.2.1 (λhw3 hl4=> ?_)
 refine YP (F5 u) F6 s_.2.1 [] (λk0 _=> [(6,.i (k0:Int))]) [6] (λ_ s0=> [(5, [.o 704 s_.1,.o 147212 s0,.i s_.2.2])]) [5] (λ_=> []) [1,2,6] (λy0=> [(5, [.o 704 s_.1,.o 147362 y0,.i s_.2.2])]) [2,5] (λk0 s0=>zD s0<=k0) (Ao [(true,5,1,true,320008,5)] [] [] [(320008,147212)] (by kernel_rfl)) (by simp) (λk0 s0 hk0 U=> ?_) (λk0 s0 hk0 U=> ?_) (λy0 hD0=> ?_)
 ·have hA0_0:=U.2;obtain ⟨a0,hx0⟩:=Xm (l:=s_.2.1) (i:=k0) hk0;refine Qc <| su Qb [(19,.b true)] [] [] [] (pl 3 s_.2.1 (pe 4 (zB ((k0:Int)<(s_.2.1.length:Int))) p0)) <| ckT <| Qg <| Qc <| Qv <| sn Qb [1,2,4,5,6,28] [2,4,5] (pn 3 hx0 (pc 6 (FP a0 u) p0)) <| ck (Rp a0 u) (λh5=> ?_) (λh5=> ?_)
  ·refine wB 5 1 (.own true 147212) s0 (λhw6 hl7=> ?_);refine qU Qb Zg [] [19] [(5, [.o 704 s_.1,.slc (.own true 2432) 5 ((eL s0)++ [[.i ((Qu a0).1),.i ((Qu a0).2.1),.b ((Qu a0).2.2.1),.i ((Qu a0).2.2.2.1),.h ((Qu a0).2.2.2.2)]]),.i s_.2.2])] [5] (pn 5 hx0 (pc 7 (Ih a0) (pa s0 [(Qu a0)] p0))) ?_;refine eqn [] [] [(5, [.o 704 s_.1,.o 2432 (s0++ [(Qu a0)]),.i s_.2.2])] [5] (by rw[show ((eL s0)++ [[.i ((Qu a0).1),.i ((Qu a0).2.1),.b ((Qu a0).2.2.1),.i ((Qu a0).2.2.2.1),.h ((Qu a0).2.2.2.2)]])=(eL (s0++ [(Qu a0)])) from Ju (rfl) (rfl)];first | done | kernel_rfl) ?_;refine rn Qb [1,2,4,5,6] [2,4,5] (pe 1 (Jl (Qo k0 (by omega))) p0) ?_;exact zE (s0++ [(Qu a0)]) (zH (Xg [(2432,147212)] (by kernel_rfl)) ⟨Qt hx0 (Q4 h5 (rfl)) U.1,by first|omega|(simp;omega) | simp⟩)
  refine Qg <| qn Qb [1,2,4,5,6] [2,4,5] (pe 1 (Jl (Qo k0 (by omega))) p0) ?_
  exact xw s0 ⟨Qt hx0 (Qi h5 (rfl)) U.1,by first|omega|(simp;omega) | simp⟩
 ·have hA0_0:=U.2;exact Qc <| su Qb [(19,.b false)] [] [] [] (pl 3 s_.2.1 (pe 4 (zC ((k0:Int)<(s_.2.1.length:Int))) p0)) <| ckF <| Q3 <| zE _ (zH (Xg [(147212,147362)] (by kernel_rfl)) (Xn hk0 (rfl) U.1))
 refine Qc <| sn Qb [4,5,7] [4,5] p0 <| mz [(7,.i 0)] [] [] [] <| Qmp (F7 s_) F8 (zD y0) y0 (λk1 _=> [(7,.i (k1:Int))]) [7] (λ_ s1=> [(5, [.o 704 s_.1,.o 147362 s1,.i s_.2.2])]) [5] (λ_=> []) [7] (λy1=> [(5, [.o 704 s_.1,.o 147362 y1,.i s_.2.2])]) [5] (λ_ s1=>zD s1=zD y0) (λy1=>zD y1=zD y0) wf0 (by simp) (λk1 s1 hk1 hI1=> ?_) (λk1 s1 hk1 hI1=> ?_) (λy1 hD1=> ?_)
 ·have hA1_0:=hI1.2;refine Qc <| sn Qb [4,5,7,44] [4,5] (pl 3 s1 (pe 4 (zB ((k1:Int)<(s1.length:Int))) p0)) <| ckT <| Qg <| Qc <| Qv <| wB 5 1 (.own true 147362) s1 (λhw9 hl10=> ?_)
  have hx8:=ng s1 k1;refine tN Qb Zg [4,5,7,55] [4,5] (pN 4 hx8 (pc 7 (Lx (s_.1,s1,s_.2.2) ((nth s1 k1).2.2.2.1)) p0)) <| ck (decide ((Xd (s_.1,s1,s_.2.2) ((nth s1 k1).2.2.2.1))<(0:Int))) (λh11=> ?_) (λh11=> ?_)
  ·have h11d:=of_decide_eq_true h11;refine qu Qb [] [] [(5, [.o 704 s_.1,.slc (.own true 147362) 5 (setRow (eL s1) k1 3 [.i 0]),.i s_.2.2])] [5] (pN 3 hx8 p0) ?_;refine eqn [] [] [(5, [.o 704 s_.1,.o 147362 (zK s1 k1 ((nth s1 k1).1,(nth s1 k1).2.1,(nth s1 k1).2.2.1,0,(nth s1 k1).2.2.2.2)),.i s_.2.2])] [5] (by rw[Jm (y:=((nth s1 k1).1,(nth s1 k1).2.1,(nth s1 k1).2.2.1,0,(nth s1 k1).2.2.2.2)) hx8 rfl]<;>kernel_rfl) ?_;refine rn Qb [4,5,7] [4,5] (pe 1 (Jl (Qo k1 (by omega))) p0) ?_;exact xw (zK s1 k1 ((nth s1 k1).1,(nth s1 k1).2.1,(nth s1 k1).2.2.1,0,(nth s1 k1).2.2.2.2)) ⟨V2 hk1 (Q4 h11 (rfl)) hI1.1,(by first|omega|(simp only[zF];omega))⟩
  have h11d:=of_decide_eq_false h11;refine Qg <| qu Qb [(7,.i ((k1+1:Nat):Int))] [7] [] [] (pe 1 (Jl (Qo k1 (by omega))) p0) ?_
  exact xw s1 ⟨V2 hk1 (Qi h11 (rfl)) hI1.1,(by first|omega|(simp only[zF];omega))⟩
 ·have hA1_0:=hI1.2;exact Qc <| sn Qb [4,5,7,44] [4,5] (pl 3 s1 (pe 4 (zC ((k1:Int)<(s1.length:Int))) p0)) <| ckF <| Q3 <| xw s1 ⟨Dc hk1 (rfl) hI1.1,by first|omega|(simp only[zF];omega)⟩
 have hD1_0:=hD1.2;exact sn Qb [4] [4] p0 <| Qe <| pz [] (show Q9 s_ u=_ from Wk hD0 (Wk hD1.1 (rfl))) (λz=> .a [.o 0 z.1,.o 1 z.2.1,.i z.2.2])
def Zy (s_:Qz) (d:List X0) (u:Int):(List Qm)×Bool:=(bif ((!(Xf u 0 2))|| (!(Xc s_))) then ([],false) else (((Js (Q9 s_ u) d)).1,((Js (Q9 s_ u) d)).2))
theorem Mf (s_:Qz) (d:List X0) (u:Int):ACalls Tryz.prog 57 [.a [.h s_.1,.h s_.2.1,.i s_.2.2],.h d,.i u] (.tup [(false, [.o 0 (((Zy s_ d u)).1)]),(false, [.b (((Zy s_ d u)).2)])]):=by
 refine en Qb Tryz.func57 λw0 F0 hG=> ?_
 refine sn Qb [1,2,3,6,7] [3] p0 <| Qc <| Qc <| mz [(3,.p 3 0),(6,.e 0),(7,.b false)] [0] [(3, [.h s_.1,.h s_.2.1,.i s_.2.2])] [] <| jn [(15,.b ((!(Xf u 0 2))|| (!(Xc s_))))] [] [] [] (!(Xf u 0 2)) (λh1=> ?_) (λh1=> ?_) ?_
 ·have h1n:(Xf u 0 2)=false:=Vj h1;refine rn Qb [1,2,3,6,7,15] [3] (pc 1 (cb h1n (Z8 u 0 2)) (pe 2 (show .b (!false)= .b true from rfl) p0)) ?_;exact zA (by rw[h1]<;>kernel_rfl)
 ·have h1n:(Xf u 0 2)=true:=Za h1;have h1nw:=Dr.1 h1n;refine rn Qb [1,2,3,6,7,15] [3] (pc 1 (cb h1n (Z8 u 0 2)) (pe 2 (show .b (!true)= .b false from rfl) (pc 5 (Kl s_) p0))) ?_;exact zA (by rw[h1]<;>kernel_rfl)
 refine ck ((!(Xf u 0 2))|| (!(Xc s_))) (λh2=> ?_) (λh2=> ?_)
 ·exact sn Qb [1,2,3,6,7] [3] p0 <| Qe <| pz [] (show Zy s_ d u=_ from Q4 h2 (rfl)) (λz=> .tup [(false, [.o 0 z.1]),(false, [.b z.2])])
 have h2l:((!(Xf u 0 2)))=false:=Re h2;have h2ln:(Xf u 0 2)=true:=Za h2l;have h2lnw:=Dr.1 h2ln;exact Qg <| sn Qb [6,7] [] (pc 2 (Dk s_ u) (pc 4 (O6 (Q9 s_ u) d) p0)) <| Qe <| pz [] (show Zy s_ d u=_ from Qi h2 (rfl)) (λz=> .tup [(false, [.o 0 z.1]),(false, [.b z.2])])
def Wa (s_:Qz) (d:List X0) (u:Int) (name:ByteArray):(List Int):=(Xp (((Zy s_ d u)).1) name)
theorem FQ (s_:Qz) (d:List X0) (u:Int) (name:ByteArray):ACalls Tryz.prog 120 [.a [.h s_.1,.h s_.2.1,.i s_.2.2],.h d,.i u,.s name] (.o 0 (Wa s_ d u name)):=by
 refine en Qb Tryz.func120 λw0 F0 hG=> ?_
 exact sn Qb [1,2,3,4,8] [4] p0 <| tn Qb [3,8,9] [] (pc 3 (Mf s_ d u) p0) <| tu Qb [(8,.o 1280 (Xp (((Zy s_ d u)).1) name))] [0,1,2,3] [] [] (pc 2 (D0 (((Zy s_ d u)).1) name) p0) <| Qe <| po0 [] (show Wa s_ d u name=(Xp (((Zy s_ d u)).1) name) from rfl)
theorem LS {α R S T:Type} {f:Nat->α->S->Rd R S T} {g:Nat->S->Rd R S T} {e e':Nat->S->T} (hf:∀k a s,f k a s=g k s) (he:∀k s,e k s=e' k s):∀(l:List α) (k:Nat) (s:S),Xz f e l k s=Uy g e' l.length k s
 | [],k,s=>by simp[Xz,Uy,he]
 | a::l,k,s=>by
   simp only[Xz,Uy,zM,hf];cases g k s with
   | next s'=>exact LS hf he l (k+1) s'
   | brk t=>rfl
   | ret r=>rfl
theorem Nf (s:Qz) (u:Int):Q9 s u=Qy s u:=by
 unfold Q9 Qy;rw[Pk (f:=F5 u) (g:=V9 u) (e:=F6) (e':=Vc) (λ_ _=>rfl) s.2.1 0 _ (λi a t _=>rfl)]
 congr 1
 funext y
 rw[LS (f:=Kr s) (g:=F7 s) (e:=U5) (e':=F8) (λ_ _ _=>rfl) (λ_ _=>rfl)]
theorem XN (s:Qz) (d:List X0) (u:Int):Zy s d u=Ya s d u:=by
 unfold Zy Ya;rw[Bo,Nf,Rn];have h:Xf u 0 2=Je u:=rfl;rw[h,Bool.or_comm]
theorem KN (s:Qz) (d:List X0) (u:Int) (n:ByteArray):Wa s d u n=Jd s d u n:=by
 unfold Wa Jd;rw[XN];rfl
theorem KO {s:Qz} (h:Qj s=true):s.2.1.length<=12:=by
 unfold Qj at h;cases hf:Xz (Y6 s) Kq s.2.1 0 () with
 | brk t=>
   rw[hf] at h;simp only[Out.on,zQ,decide_eq_true_eq] at h;omega
 | ret r=>
   rw[hf] at h;obtain rfl:r=true:=h;exfalso
   have key:∀(l:List Xe) k,Xz (Y6 s) Kq l k ()≠ .ret true:=by
    intro l
    induction l with
    | nil=>intro k h;simp[Xz] at h
    | cons a l ih=>
      intro k h;simp only[Xz] at h;unfold Y6 at h;split at h
      . rename_i hf;exact ih _ h
      . cases h
      rename_i r hf;cases h;revert hf;generalize (_|| _:Bool)=c;cases c<;>simp
   exact key _ _ hf
theorem Qlw {fs:List Xe} {p:Xe->Bool} {x:Int} (h:x∈sel fs (λf=>f.1) p):∃f,f∈fs/\f.1=x:=by
 obtain ⟨f,hf,e⟩:=xK.1 h;exact ⟨f,(List.mem_filter.1 hf).1,e⟩
theorem Qec {s:Qz} (h:Qj s=true) {f:Xe} (hf:f∈s.2.1):1<=f.1/\f.1<=60:=by
 have hv:Yc s.1 f=true:=by
  unfold Qj at h;obtain ⟨i,hi⟩:=yA hf;cases hl:Xz (Y6 s) Kq s.2.1 0 () with
  | brk t=>
    have:=Mz (λk a t=>by unfold Y6;generalize (_|| _:Bool)=c;cases c<;>simp) hl i f hi;unfold Y6 at this;cases hv:Yc s.1 f with
    | true=>rfl
    | false=>rw[hv] at this;simp at this
  | ret r=>
    rw[hl] at h;obtain rfl:r=true:=h;exfalso
    have key:∀(l:List Xe) k,Xz (Y6 s) Kq l k ()≠ .ret true:=by
     intro l
     induction l with
     | nil=>intro k h;simp[Xz] at h
     | cons a l ih=>
       intro k h;simp only[Xz] at h;unfold Y6 at h;split at h
       . rename_i hf;exact ih _ h
       . cases h
       rename_i r hf;cases h;revert hf;generalize (_|| _:Bool)=c;cases c<;>simp
    exact key _ _ hl
 unfold Yc at hv;cases hl:Xz (Y7 s.1 f) K6 f.2.2.2.2 0 () with
 | brk t=>
   rw[hl] at hv;simp only[Out.on] at hv;cases hw:Zp f.1 1 60 with
   | true=>exact Pn.1 hw
   | false=>rw[hw] at hv;simp at hv
 | ret r=>
   rw[hl] at hv;obtain rfl:r=true:=hv;exfalso
   have key:∀(l:List Bl) k,Xz (Y7 s.1 f) K6 l k ()≠ .ret true:=by
    intro l
    induction l with
    | nil=>intro k h;simp[Xz] at h
    | cons a l ih=>
      intro k h;simp only[Xz] at h;unfold Y7 at h;split at h
      . rename_i hf;exact ih _ h
      . cases h
      rename_i r hf;cases h;revert hf;generalize (bif decide (((k:Nat):Int)>(0:Int)) then _ else _:Bool)=c;cases c<;>simp
   exact key _ _ hl
theorem Qed (s:Qz) (d:List X0) (u:Int):((Ya s d u)).1.length<=5/\∀x,x∈((Ya s d u)).1->x.2.length<=12/\∀n,n∈x.2->1<=n/\n<=60:=by
 unfold Ya;cases hc:((!(Qj s))|| (!(Je u))) with
 | true=>exact ⟨yB _,λx hx=>by simp at hx⟩
 | false=>
   simp only[cond_false];cases he:(Yu (Qy s u) d).2 with
   | false=>rw[PM he];exact ⟨yB _,λx hx=>by simp at hx⟩
   | true=>
     obtain ⟨h1,h2,h3,h4⟩:=Ro he;have h5:=KO h2;have hlen:=congrArg zD h3;rw[zO,zO] at hlen;refine ⟨by omega,λx hx=> ?_⟩;obtain ⟨p,hp⟩:=h4 x hx;refine ⟨by rw[hp];exact xM (Qdx _ _ _) h5,λn hn=> ?_⟩;rw[hp] at hn;obtain ⟨f,hf,rfl⟩:=Qlw hn;exact Qec h2 hf
theorem FR (nm:ByteArray):∀(o:List Qm) (k:Nat),Xz (Ww nm) Ht o k ()= .brk ()\/∃x,x∈o/\Xz (Ww nm) Ht o k ()= .ret x.2
 | [],_=> .inl rfl
 | b ::o,k=>by
   simp only[Xz,Ww];cases (b.1.toList==nm.toList) with
   | true=>exact .inr ⟨b,zP ..,rfl⟩
   | false=>
     simp only[cond_false];rcases FR nm o (k+1) with h | ⟨x,hx,h⟩
     . exact .inl h
     exact .inr ⟨x,zI _ hx,h⟩
theorem Qq0 (s:Qz) (d:List X0) (u:Int) (n:ByteArray):(Jd s d u n).length<=12:=by
 unfold Jd Xj;rcases FR n (Ya s d u).1 0 with h | ⟨x,hx,h⟩
 . rw[h];exact yB _
 rw[h];exact ((Qed s d u).2 x hx).1
theorem Rq (s:Qz) (d:List X0) (u:Int) (n:ByteArray):∀x,x∈Jd s d u n->1<=x/\x<=60:=by
 unfold Jd Xj;rcases FR n (Ya s d u).1 0 with h | ⟨x,hx,h⟩
 . rw[h];intro x hx;simp[Out.on] at hx
 rw[h];exact ((Qed s d u).2 x hx).2
theorem TO (s:Qz) (n:Int):Xd s n=Xw s n:=rfl
theorem Qiq (n:Int):∀(l:List Xe) (k:Nat),Xz (Yv n) Zv l k ()= .brk ()\/∃i:Nat,i<l.length/\Xz (Yv n) Zv l k ()= .ret (((k+i:Nat)):Int)
 | [],_=> .inl rfl
 | a ::l,k=>by
   simp only[Xz,Yv];cases (Cl a n) with
   | true=>exact .inr ⟨0,by simp,rfl⟩
   | false=>
     simp only[cond_false];rcases Qiq n l (k+1) with h | ⟨i,hi,h⟩
     . exact .inl h
     exact .inr ⟨i+1,by simpa using hi,by rw[h,show k+1+i=k+(i+1) by omega]⟩
theorem T5 (s:Qz) (n:Int): -1<=Xw s n/\Xw s n<(zD s.2.1:Int):=by
 unfold Xw Km;rcases Qiq n s.2.1 0 with h | ⟨i,hi,h⟩
 . rw[h];simp only[Out.on];omega
 rw[h];simp only[Out.on];omega
end
section
theorem UH {α:Type} [DecidableEq α]:∀{l N:List α},l.Nodup->(∀x,x∈l->x∈N)->l.length<=N.length
 | [],_,_,_=>yB _
 | a::l,N,hn,hs=>by
   have hn':=List.nodup_cons.1 hn;have ha:=hs a (zP ..);have h:=UH (l:=l) (N:=N.erase a) hn'.2 λx hx=>(List.mem_erase_of_ne (λe:x=a=>hn'.1 (by rw[←e];exact hx))).2 (hs x (zI _ hx))
   rw[List.length_erase_of_mem ha] at h;have:0<N.length:=List.length_pos_of_mem ha;rw[zM];omega
def Fresh {α:Type} (N out out':List α):Prop:=∃new:List α,out'=out++new/\new.Nodup/\∀x,x∈new->x∉out/\x∈N
theorem Fresh.refl {α:Type} (N out:List α):Fresh N out out:=⟨[],by simp,List.nodup_nil,by simp⟩
theorem Fresh.one {α:Type} {N out:List α} {x:α} (h1:x∉out) (h2:x∈N):Fresh N out (out++ [x]):=⟨[x],rfl,by simp,by simp[h1,h2]⟩
theorem Fresh.trans {α:Type} {N a b c:List α} (h:Fresh N a b) (k:Fresh N b c):Fresh N a c:=by
 obtain ⟨p,rfl,h1,h2⟩:=h;obtain ⟨q,rfl,k1,k2⟩:=k;refine ⟨p++q,by rw[zU],List.nodup_append.2 ⟨h1,k1,λx hx y hy e=> ?_⟩,λx hx=> ?_⟩
 . subst e;exact (k2 _ hy).1 (List.mem_append_right _ hx)
 rcases List.mem_append.1 hx with hx | hx
 . exact h2 x hx
 exact ⟨λh=>(k2 x hx).1 (List.mem_append_left _ h),(k2 x hx).2⟩
theorem LT {α:Type} [DecidableEq α] {N a b:List α} (h:Fresh N a b):b.length<=a.length+N.length:=by
 obtain ⟨new,rfl,h1,h2⟩:=h;have:=UH h1 λx hx=>(h2 x hx).2
 rw[zJ];omega
theorem Qee {α R T:Type} [DecidableEq α] {N names:List α} {f:List α×Int->Rd R (List α×Int) T}
 (hf:∀out i s',0<=i->out.length<=names.length+N.length->f (out,i)= .next s'->i<(out.length:Int)/\s'.2=i+1/\Fresh N out s'.1):∀(n:Nat) (out:List α) (i:Int),0<=i->Fresh N names out->(names.length:Int)+N.length<=i+n->(whl f (n+1) (out,i)).isSome=true
 | n, out,i,h0,hF,hn=>by
   simp only[whl];cases hc:f (out,i) with
   | brk t=>rfl
   | ret r=>rfl
   | next s'=>
     have hl:=LT hF;obtain ⟨h1,h2,h3⟩:=hf out i s' h0 hl hc;cases n with
     | zero=>omega
     | succ n=>
       obtain ⟨o',i'⟩:=s';obtain rfl:i'=i+1:=h2;exact Qee hf n o' (i+1) (by omega) (hF.trans h3) (by omega)
theorem Qef {α R T:Type} [DecidableEq α] {N names:List α} {f:List α×Int->Rd R (List α×Int) T}
 (hf:∀out i s',0<=i->out.length<=names.length+N.length->f (out,i)= .next s'->i<(out.length:Int)/\s'.2=i+1/\Fresh N out s'.1):(whl f (zD names+zD N+1) (names,0)).isSome=true:=
 Qee hf _ names 0 (Int.le_refl 0) (Fresh.refl N names) (by omega)
theorem FT {l:List ByteArray} (h:∀i,i+1<l.length->bl (nth l i) (nth l (i+1))=true):KF l:=by
 have key:∀j i,i<j->j<l.length->bl (nth l i) (nth l j)=true:=by
  intro j
  induction j with
  | zero=>intro i hi;omega
  | succ j ih=>
    intro i hi hj;by_cases e:i=j
    . subst e;exact h i hj
    exact UA (ih i (by omega) (by omega)) (h j hj)
 unfold KF;rw[List.pairwise_iff_getElem];intro i j hi hj hij;have:=key j i hij hj;simpa [nth,xN,hi,hj] using this
theorem AL {l:List ByteArray} (h:KF l):l.Nodup:=h.imp λ{a b} hab e=>by
 subst e;rw[SU] at hab;cases hab
theorem Qir (n:ByteArray):∀(l:List Jf) (k:Nat),Out.on (Xz (Cx n) Fn l k ()) (λ_=>0)≠0->n∈l.map (·.1)
 | [],_,h=>by simp[Xz,Out.on] at h
 | a ::l,k,h=>by
   simp only[Xz,Cx] at h;cases hc:(a.1.toList==n.toList) with
   | true=>
     rw[toList_inj] at hc;have:a.1=n:=of_decide_eq_true hc;rw[←this];simp
   | false=>
     rw[hc] at h;simp only[cond_false] at h;exact zI _ (Qir n l (k+1) h)
theorem Qkk {s:List Jf} (h:Jn s=true):s.length<=5:=by
 unfold Jn at h;cases hf:Xz (Vv s) Ut s 0 () with
 | brk t=>
   rw[hf] at h;simp only[Out.on,decide_eq_true_eq] at h;omega
 | ret r=>
   rw[hf] at h;obtain rfl:r=true:=h;exfalso
   have key:∀(l:List Jf) k,Xz (Vv s) Ut l k ()≠ .ret true:=by
    intro l
    induction l with
    | nil=>intro k h;simp[Xz] at h
    | cons a l ih=>
      intro k h;simp only[Xz] at h;unfold Vv at h;split at h
      . rename_i hf;exact ih _ h
      . cases h
      rename_i r hf;cases h;revert hf;generalize (_|| _:Bool)=c;cases c<;>simp
   exact key _ _ hf
theorem LU {s:List Jf} {f:Xe} (h:Yc s f=true):(∃t,Xz (Y7 s f) K6 f.2.2.2.2 0 ()= .brk t)/\Jn s=true:=by
 unfold Yc at h;cases hl:Xz (Y7 s f) K6 f.2.2.2.2 0 () with
 | brk t=>
   rw[hl] at h;simp only[Out.on,zQ] at h;exact ⟨⟨t,rfl⟩,h.2.2.2⟩
 | ret r=>
   rw[hl] at h;obtain rfl:r=true:=h;exfalso
   have key:∀(l:List Bl) k,Xz (Y7 s f) K6 l k ()≠ .ret true:=by
    intro l
    induction l with
    | nil=>intro k h;simp[Xz] at h
    | cons a l ih=>
      intro k h;simp only[Xz] at h;unfold Y7 at h;split at h
      . rename_i hf;exact ih _ h
      . cases h
      rename_i r hf;cases h;revert hf;generalize (bif decide (((k:Nat):Int)>(0:Int)) then _ else _:Bool)=c;cases c<;>simp
   exact key _ _ hl
theorem XO {s:List Jf} {f:Xe} (h:Yc s f=true):zD f.2.2.2.2<=5:=by
 obtain ⟨⟨t,hl⟩,hs⟩:=LU h
 have hat:∀i a,f.2.2.2.2[i]? =some a->(0<i->bl (nth f.2.2.2.2 (i-1)).1 a.1=true)/\Z3 s a.1 a.2=true:=λi a hi=>by
  have:=Mz (λk a t=>by unfold Y7;generalize (bif decide (((k:Nat):Int)>(0:Int)) then _ else _:Bool)=c;cases c<;>simp) hl i a hi;rw[yF] at this;unfold Y7 at this;cases hm:Z3 s a.1 a.2 with
  | false=>rw[hm] at this;simp at this
  | true=>
    refine ⟨λh0=> ?_,rfl⟩;rw[hm,decide_eq_true (show ((i:Nat):Int)>0 by omega)] at this;simp only[cond_true,yI,Bool.or_false] at this;rw[show yP (((i:Nat):Int)-1)=i-1 by omega] at this;cases hb:bl (nth f.2.2.2.2 (i-1)).1 a.1 with
    | true=>rfl
    | false=>
      unfold bl at hb;rw[hb] at this;simp at this
 have hasc:KF (f.2.2.2.2.map (·.1)):=FT λi hi=>by
  rw[zO] at hi;have:=(hat (i+1) _ (Wg hi)).1 (by omega);have e:∀j,j<f.2.2.2.2.length->nth (f.2.2.2.2.map (·.1)) j=(nth f.2.2.2.2 j).1:=λj hj=>by simp[nth,xN,hj]
  rw[e i (by omega),e (i+1) hi];exact this
 have hsub:∀x,x∈f.2.2.2.2.map (·.1)->x∈s.map (·.1):=λx hx=>by
  obtain ⟨a,ha,rfl⟩:=xK.1 hx;obtain ⟨i,hi⟩:=yA ha;have hm:=(hat i a hi).2;unfold Z3 at hm;simp only[zQ,bne_iff_ne,beq_iff_eq] at hm;exact Qir a.1 s 0 λe=>hm.2.1 (hm.2.2.trans e)
 have:=UH (AL hasc) hsub;rw[zO,zO] at this;have:=Qkk hs;omega
theorem AM {s:Qz} (h:Qj s=true) {f:Xe} (hf:f∈s.2.1):Yc s.1 f=true:=by
 unfold Qj at h;obtain ⟨i,hi⟩:=yA hf;cases hl:Xz (Y6 s) Kq s.2.1 0 () with
 | brk t=>
   have:=Mz (λk a t=>by unfold Y6;generalize (_|| _:Bool)=c;cases c<;>simp) hl i f hi;unfold Y6 at this;cases hv:Yc s.1 f with
   | true=>rfl
   | false=>rw[hv] at this;simp at this
 | ret r=>
   rw[hl] at h;obtain rfl:r=true:=h;exfalso
   have key:∀(l:List Xe) k,Xz (Y6 s) Kq l k ()≠ .ret true:=by
    intro l
    induction l with
    | nil=>intro k h;simp[Xz] at h
    | cons a l ih=>
      intro k h;simp only[Xz] at h;unfold Y6 at h;split at h
      . rename_i hf;exact ih _ h
      . cases h
      rename_i r hf;cases h;revert hf;generalize (_|| _:Bool)=c;cases c<;>simp
   exact key _ _ hl
theorem VW {s:Qz} (h:Qj s=true) {f:Xe} (hf:f∈s.2.1):zD f.2.2.2.2<=5:=XO (AM h hf)
theorem Om (l:List ByteArray):ACalls Tryz.prog 113 [.h l] (.h (E4 [] l)):=by
 have h:=Rz l;rw[show Lq l=E4 [] l from SW l] at h;exact h
open GoE (enc wide)
set_option maxRecDepth 100000 in
set_option maxHeartbeats 4000000 in
theorem Qba (w:World) (oa:Option Addr) (m cap:Nat) (olds:List Value) (i vb voff vc:Nat) (vs:List Value) (hR:RowAt w 2 oa m cap olds) (hO:OneAt w 2 oa cap vb voff vs) (hi:i<=m):Calls Tryz.prog 156 #[.slice oa m cap,.int .i64 (i:Int),.slice (some ⟨vb,voff,none⟩) 1 vc] w (Qa7 w 2 i oa m cap olds vs):=by
 have hei:=Z7 Qb (t:=37) rfl;have hu:=(Z7 Qb (t:=28) rfl).sli;have hui:=run_underlying (P:=Tryz.prog) hu;have hsz:∀w,(Go.sizeOf 37).run Tryz.prog w= .ok 2 w:=λw=>B7 (Z7 Qb (t:=37) rfl) w
 have hlim:=hR.lim;have hle:=hR.le;have hcm:cap<=9223372036854775807:=by have:=hR.cap;unfold maxLen at this;omega
 have mixed:=Zg;have hz1:¬((1:Int)=0):=by omega
 by_cases him:i=m
 . subst him;obtain ⟨u,w',hrun,u',h1,hT⟩:=Qg8 (vc:=vc) hu hei (by decide) hR hO;cases h1
   have hc:Calls Tryz.prog 156 #[.slice oa i cap,.int .i64 (i:Int),.slice (some ⟨vb,voff,none⟩) 1 vc] w (λe w2=>e= .returned u/\w2=w'):=by
    clear hT hR hO hei;go_enter Tryz.func156,Tryz.ntmps156
    cases oa with
    | none=>
      go_wp2_with (at_builtin;refine Lib.wpList_append_run _ rfl _ _ _ _ rfl _ _ rfl rfl _ _ (hrun _) ?_)
      all_goals (go_ret;exact ⟨rfl,rfl⟩)
    | some a=>
      obtain ⟨ab,ao,asp⟩:=a;go_wp2_with (at_builtin;refine Lib.wpList_append_run _ rfl _ _ _ _ rfl _ _ rfl rfl _ _ (hrun _) ?_)
      all_goals (go_ret;exact ⟨rfl,rfl⟩)
   exact hc.mono (by rintro e w2 ⟨rfl,rfl⟩;exact ⟨_,rfl,hT⟩)
 rcases hR.row with ⟨_,h0,_⟩ | ⟨g,cur,e0,rfl,hg,hcs,htk⟩
 . omega
 have him2:i<m:=by omega
 have hz2:¬((i:Int)=(m:Int)):=by omega
 have hw1:IntKind.i64.wrap ((m:Int)+1)=(m:Int)+1:=by rw[IntKind.wrap_i64];omega
 have hw2:IntKind.i64.wrap ((i:Int)+1)=(i:Int)+1:=by rw[IntKind.wrap_i64];omega
 have htn:((i:Int)+1).toNat=i+1:=by omega
 have htm:((m:Int)+1).toNat=m+1:=by omega
 have hb1:(0:Int)<=(i:Int)+1:=by omega
 have hb3:(i:Int)<=(m:Int)+1:=by omega
 have hbm:(0:Int)<=(m:Int)+1:=by omega
 have hin:i<=m:=hi;obtain ⟨hvw,arrA,tA,frA,hA,hposA⟩:=hO.block (by decide);have hcp:0<cap:=by omega
 have hvg:vb≠g:=hO.ne g rfl hcp
 have hov:∀o lb cb,(callFunc 198 #[.slice (some ⟨vb,voff,none⟩) 1 vc,.slice (some ⟨g,o,none⟩) lb cb]).run Tryz.prog w= .ok (.value (.bool false)) w:=λo lb cb=>by
  rw[run_callFunc_extern Tryz.func198 (by kernel_rfl) (by kernel_rfl) (by kernel_rfl) (e:=Extern.SlicesOverlaps.overlaps #[28,28] #[4]) (by kernel_rfl),LQ w 28 4 37 hu 2 hsz ⟨vb,voff,none⟩ ⟨g,o,none⟩ 1 vc lb cb hvg hA hg (by omega) hposA];rfl
 by_cases hroom:m+1<=cap
 . obtain ⟨q1,q2,q3⟩:=LR (vc:=vc) (w:=w) hu hei (by decide) hg hcs htk hR hO him2 hroom;have hb2:¬(cap=i+1):=by omega
   have hb4:¬(cap=i):=by omega
   have hng:¬((cap:Int)<(m:Int)+1):=by omega
   have hmc:((m:Int)+1)<=(cap:Int):=by omega
   have hc:Calls Tryz.prog 156 #[.slice (some ⟨g,0,none⟩) m cap,.int .i64 (i:Int),.slice (some ⟨vb,voff,none⟩) 1 vc] w (λe w2=>e= .returned (.slice (some ⟨g,0,none⟩) (m+1) cap)/\w2=(w.drew.setCells g ((i+1)*2) (olds.drop (i*2))).setCells g (i*2) vs):=by
    obtain ⟨q4,q5,q6⟩:=LR (vc:=vc) (w:=w.drew) hu hei (by decide) hg hcs htk ⟨hR.len,hR.row,hR.le,hR.cap,hR.lim,hR.ones⟩ ⟨hO.len,hO.cells,hO.ones,hO.ne⟩ him2 hroom;clear hR hO hei q1 q2 q3 q6 hg hA hcs htk;go_enter Tryz.func156,Tryz.ntmps156
    go_wp2_with (simp only[hov])
    go_region_law (refine VT rfl _ _ 28 28 rfl (.slice (some ⟨g,(i+1)*2,none⟩) (m+1-(i+1)) (cap-(i+1))) (.slice (some ⟨g,i*2,none⟩) (m+1-i) (cap-i)) (by simp[Act.eval,Act.put]) (by simp[Act.eval,Act.put]) (q4 _ _ _) ?_)
    go_wp2_with (at_builtin;refine T4 rfl _ _ 28 28 rfl (.slice (some ⟨g,i*2,none⟩) (m+1-i) (cap-i)) _ (by simp[Act.eval,Act.put]) rfl (q5 _ rfl _ _) ?_)
    go_ret
    exact ⟨rfl,rfl⟩
   refine hc.mono ?_
   rintro e w2 ⟨rfl,rfl⟩
   obtain ⟨p1,p2,p3⟩:=Bf g (olds.drop (i*2)) ((i+1)*2) w.drew;exact q3 _ (Oj g _ _ w) p1 p2 p3
 obtain ⟨G,W1,hG1,hG2,qa,qb,qc,qd,o1,o2,o3⟩:=Qea (vc:=vc) (tn:=3) hu (by kernel_rfl) hei (by decide) hg hcs htk hR hO hvw him2 (by omega);have hG63:G<=9223372036854775807:=by unfold maxLen at hG2;omega
 have hGi:¬(G=i):=by omega
 have hGim:¬(G=i+1):=by omega
 have hci:¬(cap=i):=by omega
 have hlt:(cap:Int)<(m:Int)+1:=by omega
 have hw3:IntKind.i64.wrap ((m:Int)+1-(i:Int))=(m:Int)+1-(i:Int):=by rw[IntKind.wrap_i64];omega
 have hii:(i:Int)<=(m:Int):=by omega
 have hqa:∀ty,(Builtin.append_ #[28,3] ty #[.slice (some ⟨g,0,none⟩) i cap,.int .i64 ((m:Int)+1-(i:Int))]).run Tryz.prog w= .ok (.slice (some ⟨w.heap.size,0,none⟩) (m+1) G) W1:=λty=>qa ty _ (by omega)
 have hqb:=qb W1 rfl;have hqc:=qc (W1.setCells w.heap.size (i*2) vs).drew rfl
 have hc:Calls Tryz.prog 156 #[.slice (some ⟨g,0,none⟩) m cap,.int .i64 (i:Int),.slice (some ⟨vb,voff,none⟩) 1 vc] w (λe w2=>e= .returned (.slice (some ⟨w.heap.size,0,none⟩) (m+1) G)/\w2=(W1.setCells w.heap.size (i*2) vs).drew.setCells w.heap.size ((i+1)*2) (olds.drop (i*2))):=by
  clear hR hO hei qa qb qc qd hg hA hcs htk hov hG1 hG2;go_enter Tryz.func156,Tryz.ntmps156
  go_wp2_with (first
   | (at_builtin;refine Lib.wpList_append_run _ rfl _ _ _ _ rfl _ _ rfl rfl _ _ (hqa _) ?_)
   | (at_builtin;refine T4 rfl _ _ 28 28 rfl (.slice (some ⟨w.heap.size,i*2,none⟩) (m+1-i) (G-i)) _ (by simp[Act.eval,Act.put]) rfl (hqb _ _) ?_))
  go_region_law (refine VT rfl _ _ 28 28 rfl (.slice (some ⟨w.heap.size,(i+1)*2,none⟩) (m+1-(i+1)) (G-(i+1))) (.slice (some ⟨g,i*2,none⟩) (m-i) (cap-i)) (by simp[Act.eval,Act.put]) (by simp[Act.eval,Act.put]) (hqc _ _ _) ?_)
  go_wp2
  go_ret
  exact ⟨rfl,rfl⟩
 refine hc.mono ?_
 rintro e w2 ⟨rfl,rfl⟩
 obtain ⟨p1,p2,p3⟩:=Bf w.heap.size vs (i*2) W1;exact qd _ rfl (p1.trans o1) (p2.trans o2) (p3.trans o3)
theorem TP (l:List X0) (y:X0) {i:Int} (hi:0<=i) (hj:i<=l.length) (hl:l.length<1073741824):ATake Tryz.prog 156 2 (eL l) [.one (.int .i64 i),.one (.slc .sh 2 (eL [y]))] true false (eL (N7 l i.toNat y)):=
 Qa8 (by unfold E9;kernel_rfl) (by decide) (λw oa m cap olds i vb voff vc vs=>Qba w oa m cap olds i vb voff vc vs) l y hi hj hl
set_option maxRecDepth 100000 in
set_option maxHeartbeats 4000000 in
theorem Qbb (w:World) (oa:Option Addr) (m cap:Nat) (olds:List Value) (i:Nat) (hR:RowAt w 2 oa m cap olds) (hi:i<m):Calls Tryz.prog 107 #[.slice oa m cap,.int .i64 (i:Int),.int .i64 ((i:Int)+1)] w (PN w 2 i oa m cap olds):=by
 have hu:=(Z7 Qb (t:=28) rfl).sli;have hui:=run_underlying (P:=Tryz.prog) hu;have hsz:∀w,(Go.sizeOf 37).run Tryz.prog w= .ok 2 w:=λw=>B7 (Z7 Qb (t:=37) rfl) w
 have hlim:=hR.lim;have hle:=hR.le;have hcm:cap<=9223372036854775807:=by have:=hR.cap;unfold maxLen at this;omega
 have mixed:=Zg;rcases hR.row with ⟨_,h0,_⟩ | ⟨g,cur,e0,rfl,hg,hcs,htk⟩
 . omega
 obtain ⟨W1,qa,o1,o2,o3,qw⟩:=TL (w:=w.drew) Qb (t:=28) (e:=37) rfl rfl (by decide) hg hcs htk ⟨hR.len,hR.row,hR.le,hR.cap,hR.lim,hR.ones⟩ hi;obtain ⟨W2,hcl,qd⟩:=qw W1 rfl o1 o2 o3
 have hd:PN w 2 i (some ⟨g,0,none⟩) m cap olds (.returned (.slice (some ⟨g,0,none⟩) (m-1) cap)) W2:=by
  obtain ⟨u,h1,h2⟩:=qd W2 rfl rfl rfl rfl;exact ⟨u,h1,⟨h2.os,h2.tape,h2.output,h2.size,h2.row⟩⟩
 have hz2:¬((i:Int)=(i:Int)+1):=by omega
 have htn:((i:Int)+1).toNat=i+1:=by omega
 have hb1:(0:Int)<=(i:Int)+1:=by omega
 have hb2:(i:Int)<=(i:Int)+1:=by omega
 have hb3:(i:Int)+1<=(m:Int):=by omega
 have hb4:(i:Int)<=(cap:Int):=by omega
 have hb5:(i:Int)+1<=(cap:Int):=by omega
 have hb6:(m:Int)<=(cap:Int):=by omega
 have hm1:((m-1:Nat):Int)=(m:Int)-1:=by omega
 have hb7:m-1<=m:=by omega
 have hb8:((m-1:Nat):Int)<=(m:Int):=by omega
 have hic:¬(cap=i):=by omega
 have hcm1:¬(cap=m-1):=by omega
 have hc:Calls Tryz.prog 107 #[.slice (some ⟨g,0,none⟩) m cap,.int .i64 (i:Int),.int .i64 ((i:Int)+1)] w (λe w2=>e= .returned (.slice (some ⟨g,0,none⟩) (m-1) cap)/\w2=W2):=by
  by_cases hc1:cap=i+1
  . have hqa:∀ty,_:=λty=>qa ty ⟨g,0,none⟩ (.inl hc1)
    clear hR hg hcs htk qa qw qd hd hm1;subst hc1;go_enter Tryz.func107,Tryz.ntmps107
    go_wp2_with fail
    go_region_law (refine Lw rfl _ _ 28 28 rfl (.slice (some ⟨g,0,none⟩) i (i+1)) (.slice (some ⟨g,0,none⟩) (m-(i+1)) (i+1-(i+1))) (by simp[Act.eval,Act.put]) (by first | (simp[Act.eval,Act.put];done) | (simp[Act.eval,Act.put];omega)) (hqa _) ?_)
    go_wp2
    go_ret
    exact ⟨rfl,rfl⟩
  have hqa:∀ty,_:=λty=>qa ty ⟨g,(i+1)*2,none⟩ (.inr rfl)
  clear hR hg hcs htk qa qw qd hd hm1;go_enter Tryz.func107,Tryz.ntmps107
  go_wp2_with fail
  go_region_law (refine Lw rfl _ _ 28 28 rfl (.slice (some ⟨g,0,none⟩) i cap) (.slice (some ⟨g,(i+1)*2,none⟩) (m-(i+1)) (cap-(i+1))) (by simp[Act.eval,Act.put]) (by simp[Act.eval,Act.put,hc1]) (hqa _) ?_)
  go_wp2
  go_ret
  exact ⟨rfl,rfl⟩
 exact hc.mono (by rintro e w2 ⟨rfl,rfl⟩;exact hd)
theorem Qhc (l:List X0) {i k:Int} (hi:0<=i) (hk:k=i+1) (hj:i<l.length) (hl:l.length<1073741824):ATake Tryz.prog 107 2 (eL l) [.one (.int .i64 i),.one (.int .i64 k)] true false (eL (BY l i.toNat)):=
 DW (by unfold E9;kernel_rfl) (λw oa m cap olds i=>Qbb w oa m cap olds i) l hi hk hj hl
set_option maxRecDepth 100000 in
set_option maxHeartbeats 4000000 in
theorem PP (w:World) (oa:Option Addr) (m cap:Nat) (olds:List Value) (i:Nat) (hR:RowAt w 5 oa m cap olds) (hi:i<m):Calls Tryz.prog 153 #[.slice oa m cap,.int .i64 (i:Int),.int .i64 ((i:Int)+1)] w (PN w 5 i oa m cap olds):=by
 have hu:=(Z7 Qb (t:=25) rfl).sli;have hui:=run_underlying (P:=Tryz.prog) hu;have hsz:∀w,(Go.sizeOf 34).run Tryz.prog w= .ok 5 w:=λw=>B7 (Z7 Qb (t:=34) rfl) w
 have hlim:=hR.lim;have hle:=hR.le;have hcm:cap<=9223372036854775807:=by have:=hR.cap;unfold maxLen at this;omega
 have mixed:=Zg;rcases hR.row with ⟨_,h0,_⟩ | ⟨g,cur,e0,rfl,hg,hcs,htk⟩
 . omega
 obtain ⟨W1,qa,o1,o2,o3,qw⟩:=TL (w:=w.drew) Qb (t:=25) (e:=34) rfl rfl (by decide) hg hcs htk ⟨hR.len,hR.row,hR.le,hR.cap,hR.lim,hR.ones⟩ hi;obtain ⟨W2,hcl,qd⟩:=qw W1 rfl o1 o2 o3
 have hd:PN w 5 i (some ⟨g,0,none⟩) m cap olds (.returned (.slice (some ⟨g,0,none⟩) (m-1) cap)) W2:=by
  obtain ⟨u,h1,h2⟩:=qd W2 rfl rfl rfl rfl;exact ⟨u,h1,⟨h2.os,h2.tape,h2.output,h2.size,h2.row⟩⟩
 have hz2:¬((i:Int)=(i:Int)+1):=by omega
 have htn:((i:Int)+1).toNat=i+1:=by omega
 have hb1:(0:Int)<=(i:Int)+1:=by omega
 have hb2:(i:Int)<=(i:Int)+1:=by omega
 have hb3:(i:Int)+1<=(m:Int):=by omega
 have hb4:(i:Int)<=(cap:Int):=by omega
 have hb5:(i:Int)+1<=(cap:Int):=by omega
 have hb6:(m:Int)<=(cap:Int):=by omega
 have hm1:((m-1:Nat):Int)=(m:Int)-1:=by omega
 have hb7:m-1<=m:=by omega
 have hb8:((m-1:Nat):Int)<=(m:Int):=by omega
 have hic:¬(cap=i):=by omega
 have hcm1:¬(cap=m-1):=by omega
 have hc:Calls Tryz.prog 153 #[.slice (some ⟨g,0,none⟩) m cap,.int .i64 (i:Int),.int .i64 ((i:Int)+1)] w (λe w2=>e= .returned (.slice (some ⟨g,0,none⟩) (m-1) cap)/\w2=W2):=by
  by_cases hc1:cap=i+1
  . have hqa:∀ty,_:=λty=>qa ty ⟨g,0,none⟩ (.inl hc1)
    clear hR hg hcs htk qa qw qd hd hm1;subst hc1;go_enter Tryz.func153,Tryz.ntmps153
    go_wp2_with fail
    go_region_law (refine Lw rfl _ _ 25 25 rfl (.slice (some ⟨g,0,none⟩) i (i+1)) (.slice (some ⟨g,0,none⟩) (m-(i+1)) (i+1-(i+1))) (by simp[Act.eval,Act.put]) (by first | (simp[Act.eval,Act.put];done) | (simp[Act.eval,Act.put];omega)) (hqa _) ?_)
    go_wp2
    go_ret
    exact ⟨rfl,rfl⟩
  have hqa:∀ty,_:=λty=>qa ty ⟨g,(i+1)*5,none⟩ (.inr rfl)
  clear hR hg hcs htk qa qw qd hd hm1;go_enter Tryz.func153,Tryz.ntmps153
  go_wp2_with fail
  go_region_law (refine Lw rfl _ _ 25 25 rfl (.slice (some ⟨g,0,none⟩) i cap) (.slice (some ⟨g,(i+1)*5,none⟩) (m-(i+1)) (cap-(i+1))) (by simp[Act.eval,Act.put]) (by simp[Act.eval,Act.put,hc1]) (hqa _) ?_)
  go_wp2
  go_ret
  exact ⟨rfl,rfl⟩
 exact hc.mono (by rintro e w2 ⟨rfl,rfl⟩;exact hd)
theorem Qeg (l:List Xe) {i k:Int} (hi:0<=i) (hk:k=i+1) (hj:i<l.length) (hl:l.length<1073741824):ATake Tryz.prog 153 5 (eL l) [.one (.int .i64 i),.one (.int .i64 k)] true false (eL (BY l i.toNat)):=
 DW (by unfold E9;kernel_rfl) (λw oa m cap olds i=>PP w oa m cap olds i) l hi hk hj hl
def Wx (id:Int) (q0:List Int):Bool:=(Wm q0 id)
theorem S4 (id:Int) (q0:List Int):ACalls Tryz.prog 237 [.i id,.one (.rptr .sh [.h q0])] (.b (Wx id q0)):=by
 refine en Qb Tryz.func237 λw0 F0 hG=> ?_
 exact sn Qb [0,1,3] [] p0 <| tn Qb [3] [] (pc 2 (Mw q0 id) p0) <| Qe <| pb [] (show Wx id q0=(Wm q0 id) from rfl)
def Wp (c0:List Int) (k0:Nat) (a0:Int) (_:Unit):Rd (Int) (Unit) (Unit):=(bif (Wx a0 c0) then (.ret (k0:Int)) else (.next ()))
def Wq (_:Nat) (_:Unit):Unit:=()
def Q2 (s_:List Int) (c0:List Int):Int:=(Out.on (Xz (Wp c0) Wq s_ 0 ()) (λ_=> -1))
theorem Wr (s_:List Int) (c0:List Int):Q2 s_ c0=ixF (λa=>Wx a c0) s_:=Qeb (λ_ _ _=>rfl) s_
theorem Fe (s_:List Int) (c0:List Int): -1<=Q2 s_ c0/\Q2 s_ c0<(zD s_:Int):=by rw[Wr];exact VU _ _
theorem F9 (s_:List Int) (c0:List Int):ACalls Tryz.prog 256 [.h s_,.one (.fnr 237 [[.h c0]])] (.i (Q2 s_ c0)):=by
 refine en Qb Tryz.func256 λw0 F0 hG=> ?_
 refine sn Qb [0,1,4] [] p0 <| Qc <| tn Qb [0,1,4,7,8] [] (pl 1 s_ p0) <| mz [(4,.i 0),(7,.i (s_.length:Int)),(8,.i 0)] [] [] [] <| wT 0 0 .sh s_ (λhw1 hl2=> ?_)
 refine P0 (Wp c0) Wq s_ () (λk0 _=> [(8,.i (k0:Int))]) [8] (λ_=> []) [0,1,7,8] wf0 (λk0 s0 hk0 U=> ?_) (λk0 s0 hk0 U=> ?_) (λy0 hD0=> ?_)
 ·obtain ⟨a0,hx0⟩:=Xm (l:=s_) (i:=k0) hk0;refine sn Qb [0,1,4,7,8,9] [] (pe 0 (zB ((k0:Int)<(s_.length:Int))) p0) <| Qc <| ckT <| Qg <| Qc <| Qv <| tn Qb [0,1,4,5,7,8] [] p0 <| tu Qb [(5,.i (k0:Int)),(16,.b (Wx a0 c0))] [] [] [] (pn 3 hx0 (pc 5 (S4 a0 c0) p0)) <| ck (Wx a0 c0) (λh3=> ?_) (λh3=> ?_)
  ·refine sn Qb [0,1,4,7,8] [] p0 <| Qe ?_
   have hr4:(Xz (Wp c0) Wq s_ 0 ())= .ret (k0:Int):=Jv hx0 (Q4 h3 (rfl)) U;exact pi [] (Pd hr4)
  refine Qg <| rn Qb [0,1,4,7,8] [] (pe 0 (Jl (Qo k0 (by omega))) p0) ?_
  exact xw _ (Qt hx0 (Qi h3 (rfl)) U)
 ·exact sn Qb [0,1,4,7,8,9] [] (pe 0 (zC ((k0:Int)<(s_.length:Int))) p0) <| Qc <| ckF <| Q3 <| xw _ (Xn hk0 (rfl) U)
 exact sn Qb [4] [] p0 <| Qe <| pi [] (Wk hD0 (rfl))
def Zq (c0:List Int) (s0:(List Int)×Int×Int):Rd (List Int) ((List Int)×Int×Int) ((List Int)×Int):=(bif decide (s0.2.2<(s0.1.length:Int)) then (bif (!(Wx (nth s0.1 s0.2.2.toNat) c0)) then (.next (zK s0.1 s0.2.1.toNat (nth s0.1 s0.2.2.toNat),(s0.2.1+1),(s0.2.2+1))) else (.next (s0.1,s0.2.1,(s0.2.2+1)))) else (.brk (s0.1,s0.2.1)))
def Yp (s_:List Int) (c0:List Int):(List Int):=(bif ((Q2 s_ c0)==(-1:Int)) then s_ else (Out.on (I0 (Zq c0) (zD s_+1) (s_,(Q2 s_ c0),((Q2 s_ c0)+1))) (λy0=>zT y0.2.toNat y0.1)))
theorem H3 (c0:List Int):AK (Zq c0) (λa=>Wx a c0):=by
 intro s i j hij hj;unfold Zq;by_cases h:(j:Int)<(s.length:Int)<;>cases hp:Wx (nth s j) c0<;>simp[h,hp]
theorem Ff (s_:List Int) (c0:List Int) (hp:zD s_<=1073741824) (h:Q2 s_ c0≠-1):(whl (Zq c0) (zD s_+1) (s_,Q2 s_ c0,Q2 s_ c0+1)).isSome=true:=Qhb (H3 c0) hp (Wr s_ c0) h
theorem E6 (s_:List Int) (c0:List Int) (hp:zD s_<=1073741824):Yp s_ c0=s_.filter (λa=> !(Wx a c0)):=by
 unfold Yp;exact Qlv (H3 c0) hp (Wr s_ c0)
theorem E7 (s_:List Int) (c0:List Int) (hp:zD s_<=1073741824):zD (Yp s_ c0)<=zD s_:=by rw[E6 _ _ hp];exact List.length_filter_le _ _
theorem Fg (s_:List Int) (c0:List Int):ATake Tryz.prog 236 1 (eL s_) [.one (.fnr 237 [[.h c0]])] true false (eL (Yp s_ c0)):=by
 refine Qg5 (tt:=tt) Qb Tryz.func236 (fn:=Tryz.f236) rfl (by unfold E9;kernel_rfl) (Nat.le_of_ble_eq_true rfl) (by simp[AV.cells,C.key,C.bkeys]) (t:=4) rfl λw0 F0 hG=> ?_
 refine wT 0 0 (.own false 63) s_ (λhw1 hl2=> ?_);have hix:=Fe s_ c0;refine sn Qb [0,1,4] [] p0 <| tn Qb [0,1,4,5] [] (pc 2 (F9 s_ c0) p0) <| Qc <| tu Qb [(4,.e 0),(5,.i (Q2 s_ c0)),(12,.b ((Q2 s_ c0)==(-1:Int)))] [] [] [] p0 <| ck ((Q2 s_ c0)==(-1:Int)) (λh3=> ?_) (λh3=> ?_)
 ·refine sn Qb [0,1,4,5] [] p0 <| Qe ?_
  have hE4:Yp s_ c0=s_:=Q4 h3 (rfl);exact ⟨.inl rfl,63,by rw[hE4];kernel_rfl⟩
 have h3d:=Y4 h3;refine Qg <| Qc <| sn Qb [0,1,4,5,6] [] (pe 1 (Jl (IntWalk.i64_in ((Q2 s_ c0)+1) (by omega))) p0) <| mz [(6,.i ((Q2 s_ c0)+1))] [12] [] [] <| blw (λ(s0:(List Int)×Int×Int)=> [(0,.q 63 s0.1),(5,.i s0.2.1),(6,.i s0.2.2)]) [0,5,6] (λs0=> []) [] (λ(y0:(List Int)×Int)=> [(0,.q 63 y0.1),(5,.i y0.2)]) [0,1,5,6] (λy0=> []) [] (λ(k0:Nat) (s0:(List Int)×Int×Int)=>whl (Zq c0) k0 s0=some (I0 (Zq c0) (zD s_+1) (s_,(Q2 s_ c0),((Q2 s_ c0)+1)))/\0<=s0.2.1/\s0.2.1<s0.2.2/\s0.2.2<=(zD s0.1:Int)/\zD s0.1=zD s_) (λ(y0:(List Int)×Int)=>(I0 (Zq c0) (zD s_+1) (s_,(Q2 s_ c0),((Q2 s_ c0)+1)))= .brk y0/\0<=y0.2/\y0.2<(zD y0.1:Int)/\zD y0.1=zD s_) (zD s_+1) (s_,(Q2 s_ c0),((Q2 s_ c0)+1)) wf0 ⟨Fl (Ff s_ c0 hl2 h3d),(by first|omega|(dsimp only;omega) | rfl),(by first|omega|(dsimp only;omega) | rfl),(by first|omega|(dsimp only;omega) | rfl),(by first|omega|(dsimp only;omega) | rfl)⟩ (λ_ h=>G1 h.1) (λk0 s0 U=> ?_) (λy0 hD0=> ?_)
 ·have hA0_0:=U.2.1;have hA0_1:=U.2.2.1;have hA0_2:=U.2.2.2.1;have hA0_3:=U.2.2.2.2;refine Qc <| sn Qb [0,1,4,5,6,19] [] (pl 2 s0.1 p0) <| ck (decide (s0.2.2<(s0.1.length:Int))) (λh5=> ?_) (λh5=> ?_)
  ·have h5d:=of_decide_eq_true h5;refine Qg <| Qc <| Qv <| wT 0 0 (.own false 63) s0.1 (λhw7 hl8=> ?_)
   have hx6:=ng s0.1 s0.2.2.toNat;refine tn Qb [0,1,4,5,6,7] [] (pG 2 s0.2.2 hx6 p0) <| tu Qb [(7,.i (nth s0.1 s0.2.2.toNat)),(29,.b (!(Wx (nth s0.1 s0.2.2.toNat) c0)))] [] [] [] (pc 2 (S4 (nth s0.1 s0.2.2.toNat) c0) p0) <| ck (!(Wx (nth s0.1 s0.2.2.toNat) c0)) (λh9=> ?_) (λh9=> ?_)
   ·have hx10:=ng s0.1 s0.2.1.toNat;refine su Qb [(0,.one (.slc (.own false 63) 1 (setRow (eL s0.1) s0.2.1.toNat 0 [.i (nth s0.1 s0.2.2.toNat)])))] [0,7,29] [] [] (pG 3 s0.2.1 hx10 p0) <| eqn [(0,.q 63 (zK s0.1 s0.2.1.toNat (nth s0.1 s0.2.2.toNat)))] [0] [] [] (by rw[Jm (y:=(nth s0.1 s0.2.2.toNat)) hx10 rfl]<;>kernel_rfl) ?_
    refine rn Qb [0,1,4,5,6] [] (pe 1 (Jl (IntWalk.i64_in (s0.2.1+1) (by omega))) p0) ?_;refine qn Qb [0,1,4,5,6] [] (pe 1 (Jl (IntWalk.i64_in (s0.2.2+1) (by omega))) p0) ?_;exact xw (zK s0.1 s0.2.1.toNat (nth s0.1 s0.2.2.toNat),(s0.2.1+1),(s0.2.2+1)) ⟨wn U.1 (Q4 h5 (Q4 h9 (rfl))),(by first|omega|(dsimp only;omega) | (simp only[zF];omega)),(by first|omega|(dsimp only;omega) | (simp only[zF];omega)),(by first|omega|(dsimp only;omega) | (simp only[zF];omega)),(by first|omega|(dsimp only;omega) | (simp only[zF];omega))⟩
   refine Qg <| rn Qb [0,1,4,5,6] [] (pe 1 (Jl (IntWalk.i64_in (s0.2.2+1) (by omega))) p0) ?_
   exact xw (s0.1,s0.2.1,(s0.2.2+1)) ⟨wn U.1 (Q4 h5 (Qi h9 (rfl))),(by first|omega|(dsimp only;omega) | (simp only[zF];omega)),(by first|omega|(dsimp only;omega) | (simp only[zF];omega)),(by first|omega|(dsimp only;omega) | (simp only[zF];omega)),(by first|omega|(dsimp only;omega) | (simp only[zF];omega))⟩
  have h5d:=of_decide_eq_false h5;exact Q3 <| xw (s0.1,s0.2.1) ⟨wb U.1 (Qi h5 (rfl)),by first|omega|(simp only[zF];omega),by first|omega|(simp only[zF];omega),by first|omega|(simp only[zF];omega)⟩
 have hD0_0:=hD0.2.1;have hD0_1:=hD0.2.2.1;have hD0_2:=hD0.2.2.2;refine Qc <| Qd7 Qb rfl (by kernel_rfl) rfl rfl rfl rfl rfl (by omega) (by rw[Zu];omega) (λlc11 hllc11 htlc11=> ?_)
 refine sn Qb [4] [] (po 2 (.cut (eL (zT y0.2.toNat y0.1))) (px (Qmm (show .one (.slc (.own false 0) 1 ((lc11.take y0.2.toNat).drop (yP 0)))= .q 0 (zT y0.2.toNat y0.1) from (congrArg (λz=>AV.one (.slc (.own false 0) 1 (z.drop (yP 0)))) htlc11).trans (KB (.own false 0) 1 y0.2.toNat y0.2 y0.1 rfl))) (px (Ph (lo:=0) (hi:=y0.2) (n:=(zD lc11)) (Qlu (by omega) (by rw[hllc11,Zu];omega))) p0))) <| Qe ?_
 have hE12:Yp s_ c0=zT y0.2.toNat y0.1:=Qi h3 (Wk hD0.1 (rfl));exact ⟨.inl rfl,0,by rw[hE12];kernel_rfl⟩
def Lb (a_:List Int) (b:List Int):(List Int):=Yp a_ b
theorem ZJ (a_:List Int) (b:List Int):ACalls Tryz.prog 205 [.h a_,.h b] (.o 0 (Lb a_ b)):=by
 refine en Qb Tryz.func205 λw0 F0 hG=> ?_
 refine sn Qb [0,3,4] [3] p0 <| wT 0 0 .sh a_ (λhw1 hl2=> ?_)
 have hq3:=E7 a_ b hl2;exact tn Qb [4] [] (pc 1 (KE a_) (po 3 (.take false false (eL (Yp a_ b))) (px (QV (Qa9 (Fg a_ b) (B8 _))) (px (Cp (B8 a_)) (px (Cp (B8 (Yp a_ b))) p0))))) <| Qe <| po0 [] (show Lb a_ b=Yp a_ b from rfl)
def Mm (_:Nat) (a0:Xe) (s0:List Xe):Rd (List Xe) (List Xe) (List Xe):=(.next (s0++ [(Qp a0)]))
def Fr (_:Nat) (s0:List Xe):(List Xe):=s0
def Ik (l:List Xe):(List Xe):=(Out.on (Xz Mm Fr l 0 []) (λy0=>y0))
theorem AN (l:List Xe):ACalls Tryz.prog 145 [.h l] (.o 0 (Ik l)):=by
 refine en Qb Tryz.func145 λw0 F0 hG=> ?_
 refine sn Qb [0,2] [] p0 <| tn Qb [0,2,3] [] p0 <| Qc <| tu Qb [(2,.e 0),(3,.one (.slc (.own true 384) 5 [])),(7,.h l),(8,.i (l.length:Int)),(9,.i 0)] [0] [] [] (pl 1 l p0) <| wT 7 0 .sh l (λhw1 hl2=> ?_)
 refine KD Mm Fr l [] (λk0 s0=> [(3,.o 147201 s0),(9,.i (k0:Int))]) [3,9] (λy0=> [(3,.o 147351 y0)]) [3,7,8,9] (λk0 s0=>zD s0<=k0) (Xg [(384,147201)] (by kernel_rfl)) (by simp) (λk0 s0 hk0 U=> ?_) (λk0 s0 hk0 U=> ?_) (λy0 hD0=> ?_)
 ·have hA0_0:=U.2;obtain ⟨a0,hx0⟩:=Xm (l:=l) (i:=k0) hk0;refine sn Qb [2,3,7,8,9,10] [] (pe 0 (zB ((k0:Int)<(l.length:Int))) p0) <| Qc <| ckT <| Qg <| Qc <| Qv <| tn Qb [2,3,5,7,8,9] [5] (pn 0 hx0 p0) <| wT 3 0 (.own true 147201) s0 (λhw3 hl4=> ?_)
  refine qu Qb [(3,.one (.slc (.own true 1088) 5 ((eL s0)++ [[.i ((Qp a0).1),.i ((Qp a0).2.1),.b ((Qp a0).2.2.1),.i ((Qp a0).2.2.2.1),.h ((Qp a0).2.2.2.2)]])))] [3] [] [] (pc 2 (Fd a0) (pa s0 [(Qp a0)] p0)) ?_;refine eqn [(3,.o 1088 (s0++ [(Qp a0)]))] [3] [] [] (by rw[show ((eL s0)++ [[.i ((Qp a0).1),.i ((Qp a0).2.1),.b ((Qp a0).2.2.1),.i ((Qp a0).2.2.2.1),.h ((Qp a0).2.2.2.2)]])=(eL (s0++ [(Qp a0)])) from Ju (rfl) (rfl)];first | done | kernel_rfl) ?_;refine rn Qb [2,3,7,8,9] [] (pe 0 (Jl (Qo k0 (by omega))) p0) ?_;exact zE (s0++ [(Qp a0)]) (zH (Xg [(1088,147201)] (by kernel_rfl)) ⟨Qt hx0 (rfl) U.1,by first|omega|(simp;omega) | simp⟩)
 ·have hA0_0:=U.2;exact sn Qb [2,3,7,8,9,10] [] (pe 0 (zC ((k0:Int)<(l.length:Int))) p0) <| Qc <| ckF <| Q3 <| zE _ (zH (Xg [(147201,147351)] (by kernel_rfl)) (Xn hk0 (rfl) U.1))
 exact sn Qb [2] [] p0 <| Qe <| po0 [] (Wk hD0 (rfl))
def Xh (s_:Qz):Qz:=(s_.1,(Ik s_.2.1),s_.2.2)
theorem VX (l:List Xe):Ik l=l:=by
 unfold Ik;rw[Bk (f:=Mm) (e:=Fr) (g:=id) (λk a s=>rfl) l 0 []];simp[Out.on,Fr]
theorem Rr (s_:Qz):(Xh s_).2.1.length=s_.2.1.length:=by unfold Xh;rw[VX]
theorem Cm (s_:Qz):Xh s_=s_:=by unfold Xh;rw[VX]
theorem D2 (s_:Qz):ACalls Tryz.prog 93 [.a [.h s_.1,.h s_.2.1,.i s_.2.2]] (.a [.o 0 ((Xh s_).1),.o 1 ((Xh s_).2.1),.i ((Xh s_).2.2)]):=by
 refine en Qb Tryz.func93 λw0 F0 hG=> ?_
 exact sn Qb [1,2] [1,2] p0 <| tN Qb Zg [2] [2] (pc 2 (VM s_.1) (pc 5 (AN s_.2.1) p0)) <| Qe <| pz [] (show Xh s_=(s_.1,(Ik s_.2.1),s_.2.2) from rfl) (λz=> .a [.o 0 z.1,.o 1 z.2.1,.i z.2.2])
def X6 (s_:Qz) (f:Xe):Qz×Int×Bool:=(bif ((!(Qj s_))|| (decide ((s_.2.1.length:Int)>=(12:Int))|| (!(Yc s_.1 (s_.2.2,(Qp f).2.1,(Qp f).2.2.1,(Qp f).2.2.2.1,(Qp f).2.2.2.2))))) then ((Xh s_),0,false) else (((Xh s_).1,(Xh s_).2.1++ [(s_.2.2,(Qp f).2.1,(Qp f).2.2.1,(Qp f).2.2.2.1,(Qp f).2.2.2.2)],IntKind.i64.wrap ((Xh s_).2.2+1)),s_.2.2,true))
theorem WF (s_:Qz) (f:Xe):ACalls Tryz.prog 96 [.a [.h s_.1,.h s_.2.1,.i s_.2.2],.a [.i f.1,.i f.2.1,.b f.2.2.1,.i f.2.2.2.1,.h f.2.2.2.2]] (.tup [(true, [.o 0 ((((X6 s_ f)).1).1),.o 1 ((((X6 s_ f)).1).2.1),.i ((((X6 s_ f)).1).2.2)]),(false, [.i (((X6 s_ f)).2.1)]),(false, [.b (((X6 s_ f)).2.2)])]):=by
 refine en Qb Tryz.func96 λw0 F0 hG=> ?_
 have hcl:=Rr s_;refine sn Qb [2,3,4,5,6] [2,3,4] p0 <| tn Qb [2,3,4,5,6,7] [2,3,4,7] (pc 1 (D2 s_) p0) <| tu Qb [(2,.p 2 0),(3,.p 3 0),(4,.p 4 0),(5,.i 0),(6,.b false),(7,.p 7 0)] [0,1] [(2, [.h s_.1,.h s_.2.1,.i s_.2.2]),(3, [.i ((Qp f).1),.i ((Qp f).2.1),.b ((Qp f).2.2.1),.i ((Qp f).2.2.2.1),.o 704 ((Qp f).2.2.2.2)]),(4, [.e 2,.e 5,.i 0]),(7, [.o 576 ((Xh s_).1),.o 577 ((Xh s_).2.1),.i ((Xh s_).2.2)])] [] (pc 1 (Fd f) p0) <| sn Qb [2,3,4,5,6,7] [2,3,4,7] p0 <| Qc <| Qc <| mz [] [] [(3, [.i s_.2.2,.i ((Qp f).2.1),.b ((Qp f).2.2.1),.i ((Qp f).2.2.2.1),.o 704 ((Qp f).2.2.2.2)])] [3] <| jn [(30,.b ((!(Qj s_))|| (decide ((s_.2.1.length:Int)>=(12:Int))|| (!(Yc s_.1 (s_.2.2,(Qp f).2.1,(Qp f).2.2.1,(Qp f).2.2.2.1,(Qp f).2.2.2.2))))))] [2] [] [2] (!(Qj s_)) (λh1=> ?_) (λh1=> ?_) ?_
 ·have h1n:(Qj s_)=false:=Vj h1;refine ru Qb [(30,.b true)] [2] [] [2] (pc 1 (cb h1n (Kk s_)) (pe 2 (show .b (!false)= .b true from rfl) p0)) ?_;exact zA (by rw[h1]<;>kernel_rfl)
 ·have h1n:(Qj s_)=true:=Za h1;refine Xu (decide ((s_.2.1.length:Int)>=(12:Int))) (λh2=> ?_) (λh2=> ?_)
  ·refine ru Qb [(30,.b true)] [2] [] [2] (pc 1 (cb h1n (Kk s_)) (pe 2 (show .b (!true)= .b false from rfl) (pl 6 s_.2.1 (pt 7 h2 p0)))) ?_;exact zA (by rw[h1,h2]<;>kernel_rfl)
  refine rn Qb [3,4,5,6,7,30] [3,4,7] (pc 1 (cb h1n (Kk s_)) (pe 2 (show .b (!true)= .b false from rfl) (pl 6 s_.2.1 (pf 7 h2 (pc 13 (Af s_.1 (s_.2.2,(Qp f).2.1,(Qp f).2.2.1,(Qp f).2.2.2.1,(Qp f).2.2.2.2)) p0))))) ?_;exact zA (by rw[h1,h2]<;>kernel_rfl)
 refine ck ((!(Qj s_))|| (decide ((s_.2.1.length:Int)>=(12:Int))|| (!(Yc s_.1 (s_.2.2,(Qp f).2.1,(Qp f).2.2.1,(Qp f).2.2.2.1,(Qp f).2.2.2.2))))) (λh3=> ?_) (λh3=> ?_)
 ·exact sn Qb [3,4,5,6,7] [3,4,7] p0 <| Qe <| pz [] (show X6 s_ f=_ from Q4 h3 (rfl)) (λz=> .tup [(true, [.o 0 z.1.1,.o 1 z.1.2.1,.i z.1.2.2]),(false, [.i z.2.1]),(false, [.b z.2.2])])
 have h3r:((decide ((s_.2.1.length:Int)>=(12:Int))|| (!(Yc s_.1 (s_.2.2,(Qp f).2.1,(Qp f).2.2.1,(Qp f).2.2.2.1,(Qp f).2.2.2.2)))))=false:=Pz h3;have h3rl:(decide ((s_.2.1.length:Int)>=(12:Int)))=false:=Re h3r;have h3rld:=of_decide_eq_false h3rl;refine Qg <| wB 7 1 (.own true 577) ((Xh s_).2.1) (λhw4 hl5=> ?_)
 refine su Qb [] [30] [(3, [.i s_.2.2,.i ((Qp f).2.1),.b ((Qp f).2.2.1),.i ((Qp f).2.2.2.1),.dead]),(7, [.o 576 ((Xh s_).1),.slc (.own true 2304) 5 ((eL ((Xh s_).2.1))++ [[.i s_.2.2,.i ((Qp f).2.1),.b ((Qp f).2.2.1),.i ((Qp f).2.2.2.1),.h ((Qp f).2.2.2.2)]]),.i ((Xh s_).2.2)])] [3,7] (pa ((Xh s_).2.1) [(s_.2.2,(Qp f).2.1,(Qp f).2.2.1,(Qp f).2.2.2.1,(Qp f).2.2.2.2)] p0) <| eqn [] [] [(7, [.o 576 ((Xh s_).1),.o 2304 ((Xh s_).2.1++ [(s_.2.2,(Qp f).2.1,(Qp f).2.2.1,(Qp f).2.2.2.1,(Qp f).2.2.2.2)]),.i ((Xh s_).2.2)])] [7] (by rw[show ((eL ((Xh s_).2.1))++ [[.i s_.2.2,.i ((Qp f).2.1),.b ((Qp f).2.2.1),.i ((Qp f).2.2.2.1),.h ((Qp f).2.2.2.2)]])=(eL ((Xh s_).2.1++ [(s_.2.2,(Qp f).2.1,(Qp f).2.2.1,(Qp f).2.2.2.1,(Qp f).2.2.2.2)])) from Ju (rfl) (rfl)];first | done | kernel_rfl) ?_
 exact sn Qb [3,4,5,6,7] [3,4,7] p0 <| tN Qb Zg [4,5,6] [4] p0 <| Qe <| pz [] (show X6 s_ f=_ from Qi h3 (rfl)) (λz=> .tup [(true, [.o 0 z.1.1,.o 1 z.1.2.1,.i z.1.2.2]),(false, [.i z.2.1]),(false, [.b z.2.2])])
def Qn (s_:Qz) (id:Int):Xe×Bool:=(bif decide ((Xw s_ id)>=(0:Int)) then ((Qp (nth s_.2.1 (Xw s_ id).toNat)),true) else ((0,0,false,0, []),false))
theorem DX {s:Qz} (h:Qj s=true) (id:Int):zD (Qn s id).1.2.2.2.2<=5:=by
 unfold Qn;by_cases hc:Xw s id>=(0:Int)
 . rw[decide_eq_true hc,cond_true];have hl:=T5 s id;exact VW h (xE (Wg (l:=s.2.1) (i:=yP (Xw s id)) (by omega)))
 rw[decide_eq_false hc,cond_false];exact yB _
theorem Ly (s_:Qz) (id:Int):ACalls Tryz.prog 47 [.a [.h s_.1,.h s_.2.1,.i s_.2.2],.i id] (.tup [(true, [.i ((((Qn s_ id)).1).1),.i ((((Qn s_ id)).1).2.1),.b ((((Qn s_ id)).1).2.2.1),.i ((((Qn s_ id)).1).2.2.2.1),.o 0 ((((Qn s_ id)).1).2.2.2.2)]),(false, [.b (((Qn s_ id)).2)])]):=by
 refine en Qb Tryz.func47 λw0 F0 hG=> ?_
 refine sn Qb [1,2,4,5] [2,4] p0 <| Qc <| tn Qb [2,4,5,6] [2,4] (pc 2 (Ok s_ id) p0) <| tu Qb [(2,.p 2 0),(4,.p 4 0),(5,.b false),(6,.i (Xw s_ id)),(11,.b (decide ((Xw s_ id)>=(0:Int))))] [0,1] [(2, [.h s_.1,.h s_.2.1,.i s_.2.2]),(4, [.i 0,.i 0,.b false,.i 0,.e 4])] [] p0 <| ck (decide ((Xw s_ id)>=(0:Int))) (λh1=> ?_) (λh1=> ?_)
 ·have h1p:=T5 s_ id;have h1d:=of_decide_eq_true h1;refine wB 2 1 .sh s_.2.1 (λhw3 hl4=> ?_);have hx2:=ng s_.2.1 (Xw s_ id).toNat;exact sn Qb [4,5] [4] (pg 3 (Xw s_ id) hx2 (pc 5 (Fd (nth s_.2.1 (Xw s_ id).toNat)) p0)) <| Qe <| pz [] (show Qn s_ id=_ from Q4 h1 (rfl)) (λz=> .tup [(true, [.i z.1.1,.i z.1.2.1,.b z.1.2.2.1,.i z.1.2.2.2.1,.o 0 z.1.2.2.2.2]),(false, [.b z.2])])
 refine Qg <| sn Qb [4,5] [4] p0 <| opn [(true,4,4,true,384000,4)] ?_
 exact Qe <| pz [] (show Qn s_ id=_ from Qi h1 (rfl)) (λz=> .tup [(true, [.i z.1.1,.i z.1.2.1,.b z.1.2.2.1,.i z.1.2.2.2.1,.o 0 z.1.2.2.2.2]),(false, [.b z.2])])
def Xr (s_:Qz) (f:Xe):Qz×Bool:=(bif ((!(Qj s_))|| (decide ((Xw s_ f.1)<(0:Int))|| (!(Yc s_.1 f)))) then ((Xh s_),false) else (((Xh s_).1,zK ((Xh s_).2.1) (Xw s_ f.1).toNat (Qp f),(Xh s_).2.2),true))
theorem DY {s:Qz} {f:Xe} (h:(Xr s f).2=true):Qj s=true/\zD f.2.2.2.2<=5:=by
 unfold Xr at h;cases hv:Qj s with
 | false=>rw[hv] at h;simp at h
 | true=>
  refine ⟨rfl, ?_⟩;cases hf:Yc s.1 f with
  | true=>exact XO hf
  | false=>
   rw[hv,hf] at h;simp at h
theorem KP (s_:Qz) (f:Xe):ACalls Tryz.prog 100 [.a [.h s_.1,.h s_.2.1,.i s_.2.2],.a [.i f.1,.i f.2.1,.b f.2.2.1,.i f.2.2.2.1,.h f.2.2.2.2]] (.tup [(true, [.o 0 ((((Xr s_ f)).1).1),.o 1 ((((Xr s_ f)).1).2.1),.i ((((Xr s_ f)).1).2.2)]),(false, [.b (((Xr s_ f)).2)])]):=by
 refine en Qb Tryz.func100 λw0 F0 hG=> ?_
 have hcl:=Rr s_;refine sn Qb [2,3,4,5] [2,3,4] p0 <| tn Qb [2,3,4,5,6] [2,3,4,6] (pc 1 (D2 s_) p0) <| tu Qb [(2,.p 2 0),(3,.p 3 0),(4,.p 4 0),(5,.b false),(6,.p 6 0),(7,.i (Xw s_ f.1))] [0,1] [(2, [.h s_.1,.h s_.2.1,.i s_.2.2]),(3, [.i f.1,.i f.2.1,.b f.2.2.1,.i f.2.2.2.1,.h f.2.2.2.2]),(4, [.e 2,.e 5,.i 0]),(6, [.o 576 ((Xh s_).1),.o 577 ((Xh s_).2.1),.i ((Xh s_).2.2)])] [] (pc 3 (Ok s_ f.1) p0) <| Qc <| Qc <| jn [(27,.b ((!(Qj s_))|| (decide ((Xw s_ f.1)<(0:Int))|| (!(Yc s_.1 f)))))] [2] [] [2] (!(Qj s_)) (λh1=> ?_) (λh1=> ?_) ?_
 ·have h1n:(Qj s_)=false:=Vj h1;refine ru Qb [(27,.b true)] [2] [] [2] (pc 1 (cb h1n (Kk s_)) (pe 2 (show .b (!false)= .b true from rfl) p0)) ?_;exact zA (by rw[h1]<;>kernel_rfl)
 ·have h1n:(Qj s_)=true:=Za h1;have h1ns:=KO h1n;refine Xu (decide ((Xw s_ f.1)<(0:Int))) (λh2=> ?_) (λh2=> ?_)
  ·refine ru Qb [(27,.b true)] [2] [] [2] (pc 1 (cb h1n (Kk s_)) (pe 2 (show .b (!true)= .b false from rfl) (pt 5 h2 p0))) ?_;exact zA (by rw[h1,h2]<;>kernel_rfl)
  have h2p:=T5 s_ f.1;refine rn Qb [3,4,5,6,7,27] [3,4,6] (pc 1 (cb h1n (Kk s_)) (pe 2 (show .b (!true)= .b false from rfl) (pf 5 h2 (pc 11 (Af s_.1 f) p0)))) ?_;exact zA (by rw[h1,h2]<;>kernel_rfl)
 refine ck ((!(Qj s_))|| (decide ((Xw s_ f.1)<(0:Int))|| (!(Yc s_.1 f)))) (λh3=> ?_) (λh3=> ?_)
 ·exact sn Qb [3,4,5,6,7] [3,4,6] p0 <| Qe <| pz [] (show Xr s_ f=_ from Q4 h3 (rfl)) (λz=> .tup [(true, [.o 0 z.1.1,.o 1 z.1.2.1,.i z.1.2.2]),(false, [.b z.2])])
 have h3l:((!(Qj s_)))=false:=Re h3;have h3ln:(Qj s_)=true:=Za h3l;have h3lns:=KO h3ln;have h3r:((decide ((Xw s_ f.1)<(0:Int))|| (!(Yc s_.1 f))))=false:=Pz h3;have h3rl:(decide ((Xw s_ f.1)<(0:Int)))=false:=Re h3r;have h3rlp:=T5 s_ f.1;have h3rld:=of_decide_eq_false h3rl;refine Qg <| wB 6 1 (.own true 577) ((Xh s_).2.1) (λhw5 hl6=> ?_)
 have hx4:=ng ((Xh s_).2.1) (Xw s_ f.1).toNat;refine sU Qb Zg [] [3,7,27] [(6, [.o 576 ((Xh s_).1),.slc (.own true 577) 5 (setRow (eL ((Xh s_).2.1)) (Xw s_ f.1).toNat 0 [.i ((Qp f).1),.i ((Qp f).2.1),.b ((Qp f).2.2.1),.i ((Qp f).2.2.2.1),.h ((Qp f).2.2.2.2)]),.i ((Xh s_).2.2)])] [3,6] (pc 4 (Fd f) (pG 5 (Xw s_ f.1) hx4 p0)) <| eqn [] [] [(6, [.o 576 ((Xh s_).1),.o 577 (zK ((Xh s_).2.1) (Xw s_ f.1).toNat (Qp f)),.i ((Xh s_).2.2)])] [6] (by rw[Jm (y:=(Qp f)) hx4 rfl]<;>kernel_rfl) ?_
 exact sn Qb [4,5] [4] p0 <| Qe <| pz [] (show Xr s_ f=_ from Qi h3 (rfl)) (λz=> .tup [(true, [.o 0 z.1.1,.o 1 z.1.2.1,.i z.1.2.2]),(false, [.b z.2])])
def Zb (s_:Qz) (id:Int):Qz×Bool:=(bif ((!(Qj s_))|| decide ((Xw s_ id)<(0:Int))) then ((Xh s_),false) else (((Xh s_).1,BY ((Xh s_).2.1) (Xw s_ id).toNat,(Xh s_).2.2),true))
theorem WG (s_:Qz) (id:Int):ACalls Tryz.prog 102 [.a [.h s_.1,.h s_.2.1,.i s_.2.2],.i id] (.tup [(true, [.h ((((Zb s_ id)).1).1),.h ((((Zb s_ id)).1).2.1),.i ((((Zb s_ id)).1).2.2)]),(false, [.b (((Zb s_ id)).2)])]):=by
 refine en Qb Tryz.func102 λw0 F0 hG=> ?_
 have hcl:=Rr s_;refine sn Qb [1,2,4,5] [2,4] p0 <| tn Qb [1,2,4,5,6] [2,4,6] (pc 1 (D2 s_) p0) <| tu Qb [(2,.p 2 0),(4,.p 4 0),(5,.b false),(6,.p 6 0),(7,.i (Xw s_ id))] [0,1] [(2, [.h s_.1,.h s_.2.1,.i s_.2.2]),(4, [.e 2,.e 5,.i 0]),(6, [.o 576 ((Xh s_).1),.o 577 ((Xh s_).2.1),.i ((Xh s_).2.2)])] [] (pc 2 (Ok s_ id) p0) <| Qc <| Qc <| jn [(19,.b ((!(Qj s_))|| decide ((Xw s_ id)<(0:Int))))] [2] [] [2] (!(Qj s_)) (λh1=> ?_) (λh1=> ?_) ?_
 ·have h1n:(Qj s_)=false:=Vj h1;refine rn Qb [4,5,6,7,19] [4,6] (pc 1 (cb h1n (Kk s_)) (pe 2 (show .b (!false)= .b true from rfl) p0)) ?_;exact zA (by rw[h1]<;>kernel_rfl)
 ·have h1n:(Qj s_)=true:=Za h1;have h1ns:=KO h1n;refine rn Qb [4,5,6,7,19] [4,6] (pc 1 (cb h1n (Kk s_)) (pe 2 (show .b (!true)= .b false from rfl) p0)) ?_;exact zA (by rw[h1]<;>kernel_rfl)
 refine ck ((!(Qj s_))|| decide ((Xw s_ id)<(0:Int))) (λh2=> ?_) (λh2=> ?_)
 ·exact sn Qb [4,5,6,7] [4,6] p0 <| Qe <| pz [576,577] (show Zb s_ id=_ from Q4 h2 (rfl)) (λz=> .tup [(true, [.h z.1.1,.h z.1.2.1,.i z.1.2.2]),(false, [.b z.2])])
 have h2l:((!(Qj s_)))=false:=Re h2;have h2ln:(Qj s_)=true:=Za h2l;have h2lns:=KO h2ln;have h2r:(decide ((Xw s_ id)<(0:Int)))=false:=Pz h2;have h2rp:=T5 s_ id;have h2rd:=of_decide_eq_false h2r;refine Qg <| Hr [577] rfl ?_
 refine wB 6 1 (.own false 577) ((Xh s_).2.1) (λhw3 hl4=> ?_);exact sn Qb [4,5,6] [4,6] (po 5 (.take true false (eL (BY ((Xh s_).2.1) (Xw s_ id).toNat))) (px (QV (Qeg ((Xh s_).2.1) (i:=(Xw s_ id)) (k:=IntKind.i64.wrap ((Xw s_ id)+1)) (by omega) (by first | omega | exact IntWalk.i64_in _ (by omega)) (by omega) (by omega))) p0)) <| tn Qb [4,5] [4] p0 <| Qe <| pz [576,1664] (show Zb s_ id=_ from Qi h2 (rfl)) (λz=> .tup [(true, [.h z.1.1,.h z.1.2.1,.i z.1.2.2]),(false, [.b z.2])])
open GoE (enc wide)
def Ky (d:List X0):Bool:=((Qx d)).2
theorem LV {d:List X0} (h:Ky d=true):zD d<=5:=(Gm (d:=d) h).2.1
theorem ZK (d:List X0):ACalls Tryz.prog 104 [.h d] (.b (Ky d)):=by
 refine en Qb Tryz.func104 λw0 F0 hG=> ?_
 exact sn Qb [0,2] [] p0 <| tn Qb [2,4] [] (pc 1 (Sz d) p0) <| tu Qb [(2,.b (((Qx d)).2))] [0] [] [] p0 <| Qe <| pb [] (show Ky d=((Qx d)).2 from rfl)
def Yx (x:X0):X0:=x
theorem M9 (x:X0):ACalls Tryz.prog 146 [.a [.s x.1,.h x.2]] (.a [.s ((Yx x).1),.o 0 ((Yx x).2)]):=by
 refine en Qb Tryz.func146 λw0 F0 hG=> ?_
 exact sn Qb [1,2] [1,2] p0 <| tn Qb [1,2] [1,2] (pc 2 (OX x.2) p0) <| tu Qb [(2,.p 2 0)] [0] [(2, [.s x.1,.o 320 x.2])] [] p0 <| Qe <| pz [] (show Yx x=x from rfl) (λz=> .a [.s z.1,.o 0 z.2])
def Nz (_:Nat) (a0:X0) (s0:List X0):Rd (List X0) (List X0) (List X0):=(.next (s0++ [(Yx a0)]))
def S6 (_:Nat) (s0:List X0):(List X0):=s0
def X7 (d:List X0):(List X0):=(Out.on (Xz Nz S6 d 0 []) (λy0=>y0))
theorem D3 (d:List X0):X7 d=d:=by
 unfold X7;rw[Bk (f:=Nz) (g:=id) (λ_ _ _=>rfl),List.map_id];rfl
theorem VY (d:List X0):(X7 d).length=d.length:=by rw[D3]
theorem Bz (d:List X0):ACalls Tryz.prog 94 [.h d] (.o 0 (X7 d)):=by
 refine en Qb Tryz.func94 λw0 F0 hG=> ?_
 refine sn Qb [0,2] [] p0 <| tn Qb [0,2,3] [] p0 <| Qc <| tu Qb [(2,.e 0),(3,.one (.slc (.own true 384) 2 [])),(7,.h d),(8,.i (d.length:Int)),(9,.i 0)] [0] [] [] (pl 1 d p0) <| wT 7 0 .sh d (λhw1 hl2=> ?_)
 refine KD Nz S6 d [] (λk0 s0=> [(3,.o 147201 s0),(9,.i (k0:Int))]) [3,9] (λy0=> [(3,.o 147351 y0)]) [3,7,8,9] (λk0 s0=>zD s0<=k0) (Xg [(384,147201)] (by kernel_rfl)) (by simp) (λk0 s0 hk0 U=> ?_) (λk0 s0 hk0 U=> ?_) (λy0 hD0=> ?_)
 ·have hA0_0:=U.2;obtain ⟨a0,hx0⟩:=Xm (l:=d) (i:=k0) hk0;refine sn Qb [2,3,7,8,9,10] [] (pe 0 (zB ((k0:Int)<(d.length:Int))) p0) <| Qc <| ckT <| Qg <| Qc <| Qv <| tn Qb [2,3,5,7,8,9] [5] (pn 0 hx0 p0) <| wT 3 0 (.own true 147201) s0 (λhw3 hl4=> ?_)
  refine qu Qb [(3,.one (.slc (.own true 1088) 2 ((eL s0)++ [[.s ((Yx a0).1),.h ((Yx a0).2)]])))] [3] [] [] (pc 2 (M9 a0) (pa s0 [(Yx a0)] p0)) ?_;refine eqn [(3,.o 1088 (s0++ [(Yx a0)]))] [3] [] [] (by rw[show ((eL s0)++ [[.s ((Yx a0).1),.h ((Yx a0).2)]])=(eL (s0++ [(Yx a0)])) from Ju (rfl) (rfl)];first | done | kernel_rfl) ?_;refine rn Qb [2,3,7,8,9] [] (pe 0 (Jl (Qo k0 (by omega))) p0) ?_;exact zE (s0++ [(Yx a0)]) (zH (Xg [(1088,147201)] (by kernel_rfl)) ⟨Qt hx0 (rfl) U.1,by first|omega|(simp;omega) | simp⟩)
 ·have hA0_0:=U.2;exact sn Qb [2,3,7,8,9,10] [] (pe 0 (zC ((k0:Int)<(d.length:Int))) p0) <| Qc <| ckF <| Q3 <| zE _ (zH (Xg [(147201,147351)] (by kernel_rfl)) (Xn hk0 (rfl) U.1))
 exact sn Qb [2] [] p0 <| Qe <| po0 [] (Wk hD0 (rfl))
def Cn (o:X0) (q0:X0):Bool:=(!(Op.bytesLess o.1.toList q0.1.toList|| o.1.toList==q0.1.toList))
theorem CA (o:X0) (q0:X0):ACalls Tryz.prog 155 [.a [.s o.1,.h o.2],.one (.rptr .sh [.s q0.1,.h q0.2])] (.b (Cn o q0)):=by
 refine en Qb Tryz.func155 λw0 F0 hG=> ?_
 exact sn Qb [1,2,3] [2] p0 <| tn Qb [3] [] p0 <| Qe <| pb [] (show Cn o q0=(!(Op.bytesLess o.1.toList q0.1.toList|| o.1.toList==q0.1.toList)) from rfl)
def Jh (c0:X0) (k0:Nat) (a0:X0) (_:Unit):Rd (Int) (Unit) (Unit):=(bif (Cn a0 c0) then (.ret (k0:Int)) else (.next ()))
def J4 (_:Nat) (_:Unit):Unit:=()
def Q6 (s_:List X0) (c0:X0):Int:=(Out.on (Xz (Jh c0) J4 s_ 0 ()) (λ_=> -1))
theorem Ga (s_:List X0) (c0:X0):Q6 s_ c0=ixF (λa=>Cn a c0) s_:=Qeb (λ_ _ _=>rfl) s_
theorem Gb (s_:List X0) (c0:X0): -1<=Q6 s_ c0/\Q6 s_ c0<(zD s_:Int):=by rw[Ga];exact VU _ _
theorem Gs (s_:List X0) (c0:X0):ACalls Tryz.prog 154 [.h s_,.one (.fnr 155 [[.s c0.1,.h c0.2]])] (.i (Q6 s_ c0)):=by
 refine en Qb Tryz.func154 λw0 F0 hG=> ?_
 refine sn Qb [0,1,4] [] p0 <| Qc <| tn Qb [0,1,4,7,8] [] (pl 1 s_ p0) <| mz [(4,.i 0),(7,.i (s_.length:Int)),(8,.i 0)] [] [] [] <| wT 0 0 .sh s_ (λhw1 hl2=> ?_)
 refine P0 (Jh c0) J4 s_ () (λk0 _=> [(8,.i (k0:Int))]) [8] (λ_=> []) [0,1,7,8] wf0 (λk0 s0 hk0 U=> ?_) (λk0 s0 hk0 U=> ?_) (λy0 hD0=> ?_)
 ·obtain ⟨a0,hx0⟩:=Xm (l:=s_) (i:=k0) hk0;refine sn Qb [0,1,4,7,8,9] [] (pe 0 (zB ((k0:Int)<(s_.length:Int))) p0) <| Qc <| ckT <| Qg <| Qc <| Qv <| tn Qb [0,1,4,5,7,8] [] p0 <| tu Qb [(5,.i (k0:Int)),(16,.b (Cn a0 c0))] [] [] [] (pn 3 hx0 (pc 5 (CA a0 c0) p0)) <| ck (Cn a0 c0) (λh3=> ?_) (λh3=> ?_)
  ·refine sn Qb [0,1,4,7,8] [] p0 <| Qe ?_
   have hr4:(Xz (Jh c0) J4 s_ 0 ())= .ret (k0:Int):=Jv hx0 (Q4 h3 (rfl)) U;exact pi [] (Pd hr4)
  refine Qg <| rn Qb [0,1,4,7,8] [] (pe 0 (Jl (Qo k0 (by omega))) p0) ?_
  exact xw _ (Qt hx0 (Qi h3 (rfl)) U)
 ·exact sn Qb [0,1,4,7,8,9] [] (pe 0 (zC ((k0:Int)<(s_.length:Int))) p0) <| Qc <| ckF <| Q3 <| xw _ (Xn hk0 (rfl) U)
 exact sn Qb [4] [] p0 <| Qe <| pi [] (Wk hD0 (rfl))
def Y3 (d:List X0) (x:X0):(List X0)×Bool:=(bif decide ((Q8 d x.1)>=(0:Int)) then (bif ((!(Qw d))|| (!(Qw (zK (X7 d) (Q8 d x.1).toNat (Yx x))))) then ((X7 d),false) else (zK (X7 d) (Q8 d x.1).toNat (Yx x),true)) else (bif decide ((Q6 d x)<(0:Int)) then (bif ((!(Qw d))|| (!(Qw (N7 (X7 d) (d.length:Int).toNat (Yx x))))) then ((X7 d),false) else (N7 (X7 d) (d.length:Int).toNat (Yx x),true)) else (bif ((!(Qw d))|| (!(Qw (N7 (X7 d) (Q6 d x).toNat (Yx x))))) then ((X7 d),false) else (N7 (X7 d) (Q6 d x).toNat (Yx x),true))))
theorem LW (d:List X0) (x:X0) (hp:zD d<1073741000):ACalls Tryz.prog 103 [.h d,.a [.s x.1,.h x.2]] (.tup [(false, [.h (((Y3 d x)).1)]),(false, [.b (((Y3 d x)).2)])]):=by
 refine en Qb Tryz.func103 λw0 F0 hG=> ?_
 have hcl:=VY d;have hbd:=Gb d x;refine sn Qb [0,3,4,5] [3] p0 <| tn Qb [0,3,4,5,6] [3] (pc 1 (Bz d) p0) <| tu Qb [(3,.p 3 0),(4,.e 0),(5,.b false),(6,.o 576 (X7 d)),(7,.i (Q8 d x.1))] [1] [(3, [.s x.1,.h x.2])] [] (pc 3 (XJ d x.1) p0) <| Qc <| sn Qb [0,3,4,5,6,7,15] [3] p0 <| ck (decide ((Q8 d x.1)>=(0:Int))) (λh1=> ?_) (λh1=> ?_)
 ·have h1p:=ZD d x.1;have h1d:=of_decide_eq_true h1;refine wT 6 0 (.own true 576) (X7 d) (λhw3 hl4=> ?_);have hx2:=ng (X7 d) (Q8 d x.1).toNat;refine qu Qb [(6,.one (.slc (.own true 576) 2 (setRow (eL (X7 d)) (Q8 d x.1).toNat 0 [.s ((Yx x).1),.h ((Yx x).2)])))] [3,6,7] [] [3] (pc 3 (M9 x) (pG 4 (Q8 d x.1) hx2 p0)) ?_;refine eqn [(6,.o 576 (zK (X7 d) (Q8 d x.1).toNat (Yx x)))] [6] [] [] (by rw[Jm (y:=(Yx x)) hx2 rfl]<;>kernel_rfl) ?_;refine Qc <| Qc <| jn [(41,.b ((!(Qw d))|| (!(Qw (zK (X7 d) (Q8 d x.1).toNat (Yx x))))))] [] [] [] (!(Qw d)) (λh5=> ?_) (λh5=> ?_) ?_
  ·have h5n:(Qw d)=false:=Vj h5;refine rn Qb [0,4,5,6,41] [] (pc 1 (cb h5n (Kh d)) (pe 2 (show .b (!false)= .b true from rfl) p0)) ?_;exact zA (by rw[h5]<;>kernel_rfl)
  ·have h5n:(Qw d)=true:=Za h5;refine rn Qb [0,4,5,6,41] [] (pc 1 (cb h5n (Kh d)) (pe 2 (show .b (!true)= .b false from rfl) (pc 5 (Kh (zK (X7 d) (Q8 d x.1).toNat (Yx x))) p0))) ?_;exact zA (by rw[h5]<;>kernel_rfl)
  refine ck ((!(Qw d))|| (!(Qw (zK (X7 d) (Q8 d x.1).toNat (Yx x))))) (λh6=> ?_) (λh6=> ?_)
  ·exact sn Qb [4,5,6] [] (pc 1 (Bz d) p0) <| Qe <| pz [2752] (show Y3 d x=_ from Q4 h1 (Q4 h6 (rfl))) (λz=> .tup [(false, [.h z.1]),(false, [.b z.2])])
  exact Qg <| sn Qb [4,5] [] p0 <| Qe <| pz [576] (show Y3 d x=_ from Q4 h1 (Qi h6 (rfl))) (λz=> .tup [(false, [.h z.1]),(false, [.b z.2])])
 have h1d:=of_decide_eq_false h1;refine tn Qb [0,3,4,5,6,7] [3] (pc 2 (Gs d x) p0) <| Qc <| tu Qb [(7,.i (Q6 d x)),(25,.b (decide ((Q6 d x)<(0:Int))))] [7] [] [] p0 <| ck (decide ((Q6 d x)<(0:Int))) (λh7=> ?_) (λh7=> ?_)
 ·have h7d:=of_decide_eq_true h7;refine rn Qb [0,3,4,5,6,7] [3] (pl 1 d p0) ?_;refine mz [(7,.i (d.length:Int))] [7,25] [] [] <| Hr [576] rfl ?_
  refine wT 6 0 (.own false 576) (X7 d) (λhw8 hl9=> ?_);refine rn Qb [0,4,5,6] [] (pc 3 (M9 x) (po 5 (.take true false (eL (N7 (X7 d) (d.length:Int).toNat (Yx x)))) (px (QV (TP (X7 d) (Yx x) (i:=(d.length:Int)) (by omega) (by omega) (by omega))) p0))) ?_;refine Qc <| Qc <| mz [(6,.q 2112 (N7 (X7 d) (d.length:Int).toNat (Yx x)))] [3,6,7] [] [3] <| jn [(41,.b ((!(Qw d))|| (!(Qw (N7 (X7 d) (d.length:Int).toNat (Yx x))))))] [] [] [] (!(Qw d)) (λh10=> ?_) (λh10=> ?_) ?_
  ·have h10n:(Qw d)=false:=Vj h10;refine rn Qb [0,4,5,6,41] [] (pc 1 (cb h10n (Kh d)) (pe 2 (show .b (!false)= .b true from rfl) p0)) ?_;exact zA (by rw[h10]<;>kernel_rfl)
  ·have h10n:(Qw d)=true:=Za h10;refine rn Qb [0,4,5,6,41] [] (pc 1 (cb h10n (Kh d)) (pe 2 (show .b (!true)= .b false from rfl) (pc 5 (Kh (N7 (X7 d) (d.length:Int).toNat (Yx x))) p0))) ?_;exact zA (by rw[h10]<;>kernel_rfl)
  refine ck ((!(Qw d))|| (!(Qw (N7 (X7 d) (d.length:Int).toNat (Yx x))))) (λh11=> ?_) (λh11=> ?_)
  ·exact sn Qb [4,5,6] [] (pc 1 (Bz d) p0) <| Qe <| pz [2752] (show Y3 d x=_ from Qi h1 (Q4 h7 (Q4 h11 (rfl)))) (λz=> .tup [(false, [.h z.1]),(false, [.b z.2])])
  exact Qg <| sn Qb [4,5] [] p0 <| Qe <| pz [2112] (show Y3 d x=_ from Qi h1 (Q4 h7 (Qi h11 (rfl)))) (λz=> .tup [(false, [.h z.1]),(false, [.b z.2])])
 have h7d:=of_decide_eq_false h7;refine Qg <| Hr [576] rfl ?_
 refine wT 6 0 (.own false 576) (X7 d) (λhw12 hl13=> ?_);refine rn Qb [0,4,5,6] [] (pc 3 (M9 x) (po 5 (.take true false (eL (N7 (X7 d) (Q6 d x).toNat (Yx x)))) (px (QV (TP (X7 d) (Yx x) (i:=(Q6 d x)) (by omega) (by omega) (by omega))) p0))) ?_;refine Qc <| Qc <| mz [(6,.q 2112 (N7 (X7 d) (Q6 d x).toNat (Yx x)))] [3,6,7,25] [] [3] <| jn [(41,.b ((!(Qw d))|| (!(Qw (N7 (X7 d) (Q6 d x).toNat (Yx x))))))] [] [] [] (!(Qw d)) (λh14=> ?_) (λh14=> ?_) ?_
 ·have h14n:(Qw d)=false:=Vj h14;refine rn Qb [0,4,5,6,41] [] (pc 1 (cb h14n (Kh d)) (pe 2 (show .b (!false)= .b true from rfl) p0)) ?_;exact zA (by rw[h14]<;>kernel_rfl)
 ·have h14n:(Qw d)=true:=Za h14;refine rn Qb [0,4,5,6,41] [] (pc 1 (cb h14n (Kh d)) (pe 2 (show .b (!true)= .b false from rfl) (pc 5 (Kh (N7 (X7 d) (Q6 d x).toNat (Yx x))) p0))) ?_;exact zA (by rw[h14]<;>kernel_rfl)
 refine ck ((!(Qw d))|| (!(Qw (N7 (X7 d) (Q6 d x).toNat (Yx x))))) (λh15=> ?_) (λh15=> ?_)
 ·exact sn Qb [4,5,6] [] (pc 1 (Bz d) p0) <| Qe <| pz [2752] (show Y3 d x=_ from Qi h1 (Qi h7 (Q4 h15 (rfl)))) (λz=> .tup [(false, [.h z.1]),(false, [.b z.2])])
 exact Qg <| sn Qb [4,5] [] p0 <| Qe <| pz [2112] (show Y3 d x=_ from Qi h1 (Qi h7 (Qi h15 (rfl)))) (λz=> .tup [(false, [.h z.1]),(false, [.b z.2])])
def Z9 (d:List X0) (name:ByteArray):(List X0)×Bool:=(bif ((!(Qw d))|| decide ((Q8 d name)<(0:Int))) then ((X7 d),false) else (BY (X7 d) (Q8 d name).toNat,true))
theorem AO (d:List X0) (name:ByteArray):ACalls Tryz.prog 52 [.h d,.s name] (.tup [(false, [.h (((Z9 d name)).1)]),(false, [.b (((Z9 d name)).2)])]):=by
 refine en Qb Tryz.func52 λw0 F0 hG=> ?_
 have hcl:=VY d;refine sn Qb [0,1,4,5] [] p0 <| tn Qb [0,1,4,5,6] [] (pc 1 (Bz d) p0) <| tu Qb [(4,.e 0),(5,.b false),(6,.o 576 (X7 d)),(7,.i (Q8 d name))] [1] [] [] (pc 2 (XJ d name) p0) <| Qc <| Qc <| jn [(19,.b ((!(Qw d))|| decide ((Q8 d name)<(0:Int))))] [0] [] [] (!(Qw d)) (λh1=> ?_) (λh1=> ?_) ?_
 ·have h1n:(Qw d)=false:=Vj h1;refine rn Qb [4,5,6,7,19] [] (pc 1 (cb h1n (Kh d)) (pe 2 (show .b (!false)= .b true from rfl) p0)) ?_;exact zA (by rw[h1]<;>kernel_rfl)
 ·have h1n:(Qw d)=true:=Za h1;have h1ns:=Hg h1n;refine rn Qb [4,5,6,7,19] [] (pc 1 (cb h1n (Kh d)) (pe 2 (show .b (!true)= .b false from rfl) p0)) ?_;exact zA (by rw[h1]<;>kernel_rfl)
 refine ck ((!(Qw d))|| decide ((Q8 d name)<(0:Int))) (λh2=> ?_) (λh2=> ?_)
 ·exact sn Qb [4,5,6,7] [] p0 <| Qe <| pz [576] (show Z9 d name=_ from Q4 h2 (rfl)) (λz=> .tup [(false, [.h z.1]),(false, [.b z.2])])
 have h2l:((!(Qw d)))=false:=Re h2;have h2ln:(Qw d)=true:=Za h2l;have h2lns:=Hg h2ln;have h2r:(decide ((Q8 d name)<(0:Int)))=false:=Pz h2;have h2rp:=ZD d name;have h2rd:=of_decide_eq_false h2r;refine Qg <| Hr [576] rfl ?_
 refine wT 6 0 (.own false 576) (X7 d) (λhw3 hl4=> ?_);exact sn Qb [4,5] [] (po 4 (.take true false (eL (BY (X7 d) (Q8 d name).toNat))) (px (QV (Qhc (X7 d) (i:=(Q8 d name)) (k:=IntKind.i64.wrap ((Q8 d name)+1)) (by omega) (by first | omega | exact IntWalk.i64_in _ (by omega)) (by omega) (by omega))) p0)) <| Qe <| pz [1600] (show Z9 d name=_ from Qi h2 (rfl)) (λz=> .tup [(false, [.h z.1]),(false, [.b z.2])])
def Mn (_:Nat) (a0:Yw) (s0:Z):Rd Z Z Z:=(bif (J9 a0) then (.next (s0++ [a0.2.2.2.1])) else (.next s0))
def R3 (_:Nat) (s0:Z):Z:=s0
def Wy (q:List Yw):Z:=(Out.on (Xz Mn R3 q 0 []) (λy0=>(E4 [] y0)))
theorem AP (q:List Yw):ACalls Tryz.prog 163 [.h q] (.h (Wy q)):=by
 refine en Qb Tryz.func163 λw0 F0 hG=> ?_
 refine sn Qb [0,2] [] p0 <| tn Qb [0,2,3] [] p0 <| Qc <| tu Qb [(2,.e 0),(3,.one (.slc (.own true 384) 1 [])),(7,.h q),(8,.i (q.length:Int)),(9,.i 0)] [0] [] [] (pl 1 q p0) <| wT 7 0 .sh q (λhw1 hl2=> ?_)
 refine KD Mn R3 q [] (λk0 s0=> [(3,.o 147201 s0),(9,.i (k0:Int))]) [3,9] (λy0=> [(3,.o 147351 y0)]) [3,7,8,9] (λk0 s0=>zD s0<=k0) (Xg [(384,147201)] (by kernel_rfl)) (by simp) (λk0 s0 hk0 U=> ?_) (λk0 s0 hk0 U=> ?_) (λy0 hD0=> ?_)
 ·have hA0_0:=U.2;obtain ⟨a0,hx0⟩:=Xm (l:=q) (i:=k0) hk0;refine sn Qb [2,3,7,8,9,10] [] (pe 0 (zB ((k0:Int)<(q.length:Int))) p0) <| Qc <| ckT <| Qg <| Qc <| Qv <| tn Qb [2,3,5,7,8,9] [5] (pn 0 hx0 p0) <| tu Qb [(5,.p 5 0),(14,.b (J9 a0))] [] [(5, [.i a0.1,.i a0.2.1,.i a0.2.2.1,.s a0.2.2.2.1,.i a0.2.2.2.2.1,.i a0.2.2.2.2.2.1,.s a0.2.2.2.2.2.2])] [] (pc 1 (O2 a0) p0) <| ck (J9 a0) (λh3=> ?_) (λh3=> ?_)
  ·refine wT 3 0 (.own true 147201) s0 (λhw4 hl5=> ?_);refine ru Qb [(3,.one (.slc (.own true 1216) 1 ((eL s0)++ [[.s a0.2.2.2.1]])))] [3,5,14] [] [5] (pa s0 [a0.2.2.2.1] p0) ?_;refine eqn [(3,.o 1216 (s0++ [a0.2.2.2.1]))] [3] [] [] (by rw[show ((eL s0)++ [[.s a0.2.2.2.1]])=(eL (s0++ [a0.2.2.2.1])) from Ju (rfl) (rfl)];first | done | kernel_rfl) ?_;refine rn Qb [2,3,7,8,9] [] (pe 0 (Jl (Qo k0 (by omega))) p0) ?_;exact zE (s0++ [a0.2.2.2.1]) (zH (Xg [(1216,147201)] (by kernel_rfl)) ⟨Qt hx0 (Q4 h3 (rfl)) U.1,by first|omega|(simp;omega) | simp⟩)
  refine Qg <| rn Qb [2,3,7,8,9] [] (pe 0 (Jl (Qo k0 (by omega))) p0) ?_
  exact xw s0 ⟨Qt hx0 (Qi h3 (rfl)) U.1,by first|omega|(simp;omega) | simp⟩
 ·have hA0_0:=U.2;exact sn Qb [2,3,7,8,9,10] [] (pe 0 (zC ((k0:Int)<(q.length:Int))) p0) <| Qc <| ckF <| Q3 <| zE _ (zH (Xg [(147201,147351)] (by kernel_rfl)) (Xn hk0 (rfl) U.1))
 exact sn Qb [2] [] (pc 1 (Om y0) p0) <| Qe <| ph0 [] (Wk hD0 (rfl))
def Cc (name:ByteArray) (_:Nat) (a0:X0) (s0:Z):Rd Z Z Z:=(bif (Qr (Wy a0.2) name) then (.next (s0++ [a0.1])) else (.next s0))
def Ei (_:Nat) (s0:Z):Z:=s0
def Z0 (d:List X0) (name:ByteArray):Z:=(Out.on (Xz (Cc name) Ei d 0 []) (λy0=>y0))
theorem WH (d:List X0) (name:ByteArray):ACalls Tryz.prog 111 [.h d,.s name] (.o 0 (Z0 d name)):=by
 refine en Qb Tryz.func111 λw0 F0 hG=> ?_
 refine sn Qb [0,1,4] [] p0 <| tn Qb [0,1,4,5] [] p0 <| Qc <| tu Qb [(4,.e 0),(5,.one (.slc (.own true 512) 1 [])),(9,.h d),(10,.i (d.length:Int)),(11,.i 0)] [0] [] [] (pl 1 d p0) <| wT 9 0 .sh d (λhw1 hl2=> ?_)
 refine KD (Cc name) Ei d [] (λk0 s0=> [(5,.o 147202 s0),(11,.i (k0:Int))]) [5,11] (λy0=> [(5,.o 147352 y0)]) [1,5,9,10,11] (λk0 s0=>zD s0<=k0) (Xg [(512,147202)] (by kernel_rfl)) (by simp) (λk0 s0 hk0 U=> ?_) (λk0 s0 hk0 U=> ?_) (λy0 hD0=> ?_)
 ·have hA0_0:=U.2;obtain ⟨a0,hx0⟩:=Xm (l:=d) (i:=k0) hk0;refine su Qb [(12,.b true)] [] [] [] (pe 0 (zB ((k0:Int)<(d.length:Int))) p0) <| Qc <| ckT <| Qg <| Qc <| Qv <| sn Qb [1,4,5,7,9,10,11] [7] (pn 0 hx0 p0) <| tn Qb [1,4,5,7,9,10,11,19] [7] (pc 2 (AP a0.2) (pc 4 (Wh (Wy a0.2) name) p0)) <| ck (Qr (Wy a0.2) name) (λh3=> ?_) (λh3=> ?_)
  ·refine wT 5 0 (.own true 147202) s0 (λhw4 hl5=> ?_);refine qu Qb [(5,.one (.slc (.own true 1536) 1 ((eL s0)++ [[.s a0.1]])))] [5,12] [] [] (pa s0 [a0.1] p0) ?_;refine eqn [(5,.o 1536 (s0++ [a0.1]))] [5] [] [] (by rw[show ((eL s0)++ [[.s a0.1]])=(eL (s0++ [a0.1])) from Ju (rfl) (rfl)];first | done | kernel_rfl) ?_;refine rn Qb [1,4,5,9,10,11] [] (pe 0 (Jl (Qo k0 (by omega))) p0) ?_;exact zE (s0++ [a0.1]) (zH (Xg [(1536,147202)] (by kernel_rfl)) ⟨Qt hx0 (Q4 h3 (rfl)) U.1,by first|omega|(simp;omega) | simp⟩)
  refine Qg <| qu Qb [(11,.i ((k0+1:Nat):Int))] [11,12] [] [] (pe 0 (Jl (Qo k0 (by omega))) p0) ?_
  exact xw s0 ⟨Qt hx0 (Qi h3 (rfl)) U.1,by first|omega|(simp;omega) | simp⟩
 ·have hA0_0:=U.2;exact su Qb [(12,.b false)] [] [] [] (pe 0 (zC ((k0:Int)<(d.length:Int))) p0) <| Qc <| ckF <| Q3 <| zE _ (zH (Xg [(147202,147352)] (by kernel_rfl)) (Xn hk0 (rfl) U.1))
 exact sn Qb [4] [] p0 <| Qe <| po0 [] (Wk hD0 (rfl))
def J5 (_:Nat) (a1:ByteArray) (s1:Z):Rd (Rd Z (Z×Int) Z) Z Z:=(bif (!(Qr s1 a1)) then (.next (s1++ [a1])) else (.next s1))
def K2 (_:Nat) (s1:Z):Z:=s1
def Yt (d:List X0) (s0:Z×Int):Rd Z (Z×Int) Z:=(bif decide (s0.2<(s0.1.length:Int)) then (Out.on (Xz J5 K2 (Z0 d (nth s0.1 s0.2.toNat)) 0 s0.1) (λy1=>(.next (y1,(s0.2+1))))) else (.brk s0.1))
def Yg (d:List X0) (names:Z):Z:=(Out.on (I0 (Yt d) (zD names+zD d+1) (names,0)) (λy0=>(E4 [] y0)))
theorem Ej (nm:ByteArray):∀(l:List X0) (k:Nat) (s:Z),∃s',Xz (Cc nm) Ei l k s= .brk s'/\s'.length<=s.length+l.length/\∀x,x∈s'->x∈s\/x∈l.map (·.1)
 | [],k,s=>⟨s,rfl,by simp,λx hx=> .inl hx⟩
 | a :: l,k,s=>by
   simp only[Xz,Cc];cases Qr (Wy a.2) nm with
   | true=>
     obtain ⟨s',h1,h2,h3⟩:=Ej nm l (k+1) (s++ [a.1]);refine ⟨s',h1,by simp at h2⊢;omega,λx hx=> ?_⟩;rcases h3 x hx with h | h
     . rcases List.mem_append.1 h with h | h
       . exact .inl h
       exact .inr (by rw[yR.1 h];simp)
     exact .inr (zI _ h)
   | false=>
     obtain ⟨s',h1,h2,h3⟩:=Ej nm l (k+1) s;refine ⟨s',h1,by simp at h2⊢;omega,λx hx=>(h3 x hx).imp id λh=>zI _ h⟩
theorem ZL (d:List X0) (nm:ByteArray):zD (Z0 d nm)<=zD d:=by
 obtain ⟨s',h1,h2,_⟩:=Ej nm d 0 [];unfold Z0;rw[h1];exact (by simpa using h2:s'.length<=d.length)
theorem On (d:List X0) (nm:ByteArray):∀x,x∈Z0 d nm->x∈d.map (·.1):=by
 obtain ⟨s',h1,_,h3⟩:=Ej nm d 0 [];unfold Z0;rw[h1];intro x hx;exact (h3 x hx).resolve_left (by simp)
theorem Uk (N:Z):∀(l:Z) (k:Nat) (s:Z),(∀x,x∈l->x∈N)->∃s',Xz J5 K2 l k s= .brk s'/\Fresh N s s'
 | [],k,s,_=>⟨s,rfl,Fresh.refl N s⟩
 | a::l,k,s,h=>by
  simp only[Xz,J5];cases hc:Qr s a with
  | true=>
   simp only[yI,cond_false];exact Uk N l (k+1) s λx hx=>h x (zI _ hx)
  | false=>
   simp only[Bool.not_false,cond_true];obtain ⟨s',h1,h2⟩:=Uk N l (k+1) (s++ [a]) λx hx=>h x (zI _ hx)
   exact ⟨s',h1,(Fresh.one (λhm=>by rw[(Bt a s).2 hm] at hc;cases hc) (h a (zP ..))).trans h2⟩
theorem Ul {d:List X0} {names out y:Z} {nm:ByteArray} (hF:Fresh (xG (·.1) d) names out) (hD:Xz J5 K2 (Z0 d nm) 0 out= .brk y):Fresh (xG (·.1) d) names y:=by
 obtain ⟨s',h1,h2⟩:=Uk (xG (·.1) d) (Z0 d nm) 0 out (On d nm);rw[h1] at hD;obtain rfl:s'=y:=by simpa using hD
 exact hF.trans h2
theorem Ez (d:List X0) (names:Z) (hp:(zD names:Int)+zD d<=1000000):(whl (Yt d) (zD names+zD d+1) (names,0)).isSome=true:=by
 have h:=Qef (N:=xG (·.1) d) (names:=names) (f:=Yt d) (λout i s' h0 hl hs=>by
  rw[zO] at hl;unfold Yt at hs;by_cases hc:i<(out.length:Int)
  . simp only[decide_eq_true hc,cond_true] at hs;obtain ⟨y,h1,h2⟩:=Uk (xG (·.1) d) (Z0 d (nth out i.toNat)) 0 out (On d _);rw[h1] at hs;simp only[Out.on] at hs;have hs:=Rd.next.inj hs;rw[←hs];exact ⟨hc,by first | rfl | exact IntWalk.i64_in _ (by omega),h2⟩
  simp only[decide_eq_false hc,cond_false] at hs;cases hs)
 rwa [zO] at h
theorem A9 (d:List X0) (names:Z) (hp:(zD names:Int)+zD d<=1000000):ACalls Tryz.prog 54 [.h d,.h names] (.h (Yg d names)):=by
 refine en Qb Tryz.func54 λw0 F0 hG=> ?_
 refine sn Qb [0,1,4] [] p0 <| tn Qb [0,4,5] [] (pc 1 (YQ names) p0) <| Qc <| tu Qb [(4,.e 0),(5,.o 640 names),(6,.i 0)] [1] [] [] p0 <| blw (λ(s0:Z×Int)=> [(5,.o 147202 s0.1),(6,.i s0.2)]) [5,6] (λs0=> []) [] (λ(y0:Z)=> [(5,.o 147352 y0)]) [0,5,6] (λy0=> []) [] (λ(k0:Nat) (s0:Z×Int)=>whl (Yt d) k0 s0=some (I0 (Yt d) (zD names+zD d+1) (names,0))/\0<=s0.2/\Fresh (xG (·.1) d) names s0.1) (λ(y0:Z)=>(I0 (Yt d) (zD names+zD d+1) (names,0))= .brk y0/\zD y0<=zD names+zD d) (zD names+zD d+1) (names,0) (Xg [(640,147202)] (by kernel_rfl)) ⟨Fl (Ez d names hp),(by first | exact Fresh.refl _ _ | omega),(by first | exact Fresh.refl _ _ | omega)⟩ (λ_ h=>G1 h.1) (λk0 s0 U=> ?_) (λy0 hD0=> ?_)
 ·have hA0_0:=U.2.1;have hA0_1:=U.2.2;have hfl:=LT hA0_1;rw[zO] at hfl;have hdl:=ZL d (nth s0.1 s0.2.toNat);refine Qc <| sn Qb [0,4,5,6,14] [] (pl 2 s0.1 p0) <| ck (decide (s0.2<(s0.1.length:Int))) (λh1=> ?_) (λh1=> ?_)
  ·have h1d:=of_decide_eq_true h1;refine Qg <| Qc <| Qv <| wT 5 0 (.own true 147202) s0.1 (λhw3 hl4=> ?_)
   have hx2:=ng s0.1 s0.2.toNat;refine tn Qb [0,4,5,6,22,23,24] [] (pG 3 s0.2 hx2 (pc 5 (WH d (nth s0.1 s0.2.toNat)) (pl 6 (Z0 d (nth s0.1 s0.2.toNat)) p0))) <| mz [(22,.o 1408 (Z0 d (nth s0.1 s0.2.toNat))),(23,.i ((Z0 d (nth s0.1 s0.2.toNat)).length:Int)),(24,.i 0)] [] [] [] <| wT 22 0 (.own true 1408) (Z0 d (nth s0.1 s0.2.toNat)) (λhw5 hl6=> ?_)
   refine KD J5 K2 (Z0 d (nth s0.1 s0.2.toNat)) s0.1 (λk1 s1=> [(5,.o 166402 s1),(24,.i (k1:Int))]) [5,24] (λy1=> [(5,.o 166552 y1)]) [5,22,23,24] (λk1 s1=>zD s1<=s0.1.length+k1) (Xg [(147202,166402)] (by kernel_rfl)) (by simp) (λk1 s1 hk1 hI1=> ?_) (λk1 s1 hk1 hI1=> ?_) (λy1 hD1=> ?_)
   ·have hA1_0:=hI1.2;obtain ⟨a1,hx1⟩:=Xm (l:=Z0 d (nth s0.1 s0.2.toNat)) (i:=k1) hk1;refine su Qb [(25,.b true)] [] [] [] (pe 0 (zB ((k1:Int)<((Z0 d (nth s0.1 s0.2.toNat)).length:Int))) p0) <| Qc <| ckT <| Qg <| Qc <| Qv <| su Qb [(8,.s a1)] [25] [] [] (pN 0 hx1 p0) <| sn Qb [0,4,5,6,8,22,23,24,31] [] (pc 2 (Wh s1 a1) p0) <| ck (!(Qr s1 a1)) (λh7=> ?_) (λh7=> ?_)
    ·have h7n:(Qr s1 a1)=false:=Vj h7;refine wT 5 0 (.own true 166402) s1 (λhw8 hl9=> ?_);refine qu Qb [(5,.one (.slc (.own true 2240) 1 ((eL s1)++ [[.s a1]])))] [5,8] [] [] (pa s1 [a1] p0) ?_;refine eqn [(5,.o 2240 (s1++ [a1]))] [5] [] [] (by rw[show ((eL s1)++ [[.s a1]])=(eL (s1++ [a1])) from Ju (rfl) (rfl)];first | done | kernel_rfl) ?_;refine rn Qb [0,4,5,6,22,23,24] [] (pe 0 (Jl (Qo k1 (by omega))) p0) ?_;exact zE (s1++ [a1]) (zH (Xg [(2240,166402)] (by kernel_rfl)) ⟨Qt hx1 (Q4 h7 (rfl)) hI1.1,by first|omega|(simp;omega) | simp⟩)
    have h7n:(Qr s1 a1)=true:=Za h7;refine Qg <| qn Qb [0,4,5,6,22,23,24] [] (pe 0 (Jl (Qo k1 (by omega))) p0) ?_
    exact xw s1 ⟨Qt hx1 (Qi h7 (rfl)) hI1.1,by first|omega|(simp;omega) | simp⟩
   ·have hA1_0:=hI1.2;exact su Qb [(25,.b false)] [] [] [] (pe 0 (zC ((k1:Int)<((Z0 d (nth s0.1 s0.2.toNat)).length:Int))) p0) <| Qc <| ckF <| Q3 <| zE _ (zH (Xg [(166402,166552)] (by kernel_rfl)) (Xn hk1 (rfl) hI1.1))
   refine rn Qb [0,4,5,6] [] (pe 1 (Jl (IntWalk.i64_in (s0.2+1) (by omega))) p0) ?_;exact zE (y1,(s0.2+1)) (zH (Xg [(166552,147202)] (by kernel_rfl)) ⟨wn U.1 (Q4 h1 (Wk hD1 (rfl))),(by first | omega | exact Ul (by assumption) hD1 | exact Ul (by assumption) hD1.1),(by first | omega | exact Ul (by assumption) hD1 | exact Ul (by assumption) hD1.1)⟩)
  have h1d:=of_decide_eq_false h1;exact Q3 <| zE s0.1 (zH (Xg [(147202,147352)] (by kernel_rfl)) ⟨wb U.1 (Qi h1 (rfl)),by first|omega|(simp only[zF];omega)⟩)
 have hD0_0:=hD0.2;exact sn Qb [4] [] (pc 1 (Om y0) p0) <| Qe <| ph0 [] (Wk hD0.1 (rfl))
def Fs (_:Nat) (a0:Bl) (s0:Z):Rd Z Z Z:=(.next (s0++ [a0.1]))
def Mo (_:Nat) (s0:Z):Z:=s0
def Qk (f:Xe):Z:=(Out.on (Xz Fs Mo f.2.2.2.2 0 []) (λy0=>y0))
theorem ZM (f:Xe):(Qk f).length=f.2.2.2.2.length:=by
 unfold Qk;rw[Bk (f:=Fs) (g:=λa:Bl=>a.1) (λ_ _ _=>rfl)];simp[Out.on,Mo]
theorem S7 (f:Xe):ACalls Tryz.prog 231 [.a [.i f.1,.i f.2.1,.b f.2.2.1,.i f.2.2.2.1,.h f.2.2.2.2]] (.o 0 (Qk f)):=by
 refine en Qb Tryz.func231 λw0 F0 hG=> ?_
 refine sn Qb [1,2] [1] p0 <| tn Qb [1,2,3] [1] p0 <| Qc <| tu Qb [(2,.e 0),(3,.one (.slc (.own true 384) 1 [])),(8,.h f.2.2.2.2),(9,.i (f.2.2.2.2.length:Int)),(10,.i 0)] [0] [] [] (pl 2 f.2.2.2.2 p0) <| wT 8 0 .sh f.2.2.2.2 (λhw1 hl2=> ?_)
 refine KD Fs Mo f.2.2.2.2 [] (λk0 s0=> [(3,.o 147201 s0),(10,.i (k0:Int))]) [3,10] (λy0=> [(3,.o 147351 y0)]) [3,8,9,10] (λk0 s0=>zD s0<=k0) (Xg [(384,147201)] (by kernel_rfl)) (by simp) (λk0 s0 hk0 U=> ?_) (λk0 s0 hk0 U=> ?_) (λy0 hD0=> ?_)
 ·have hA0_0:=U.2;obtain ⟨a0,hx0⟩:=Xm (l:=f.2.2.2.2) (i:=k0) hk0;refine sn Qb [2,3,8,9,10,11] [] (pe 0 (zB ((k0:Int)<(f.2.2.2.2.length:Int))) p0) <| Qc <| ckT <| Qg <| Qc <| Qv <| tn Qb [2,3,5,8,9,10] [5] (pn 0 hx0 p0) <| wT 3 0 (.own true 147201) s0 (λhw3 hl4=> ?_)
  refine qu Qb [(3,.one (.slc (.own true 1152) 1 ((eL s0)++ [[.s a0.1]])))] [3] [] [] (pa s0 [a0.1] p0) ?_;refine eqn [(3,.o 1152 (s0++ [a0.1]))] [3] [] [] (by rw[show ((eL s0)++ [[.s a0.1]])=(eL (s0++ [a0.1])) from Ju (rfl) (rfl)];first | done | kernel_rfl) ?_;refine rn Qb [2,3,8,9,10] [] (pe 0 (Jl (Qo k0 (by omega))) p0) ?_;exact zE (s0++ [a0.1]) (zH (Xg [(1152,147201)] (by kernel_rfl)) ⟨Qt hx0 (rfl) U.1,by first|omega|(simp;omega) | simp⟩)
 ·have hA0_0:=U.2;exact sn Qb [2,3,8,9,10,11] [] (pe 0 (zC ((k0:Int)<(f.2.2.2.2.length:Int))) p0) <| Qc <| ckF <| Q3 <| zE _ (zH (Xg [(147201,147351)] (by kernel_rfl)) (Xn hk0 (rfl) U.1))
 exact sn Qb [2] [] p0 <| Qe <| po0 [] (Wk hD0 (rfl))
def Gc (a_:Xe) (b:Xe) (k0:Nat) (s0:Z):Rd Z Z Z:=(bif (!(((Xl a_ (nth (Qk a_++(Qk b)) k0)).1==(Xl b (nth (Qk a_++(Qk b)) k0)).1)&&(((Xl a_ (nth (Qk a_++(Qk b)) k0)).2.1==(Xl b (nth (Qk a_++(Qk b)) k0)).2.1)&&((((Xl a_ (nth (Qk a_++(Qk b)) k0)).2.2).toList==((Xl b (nth (Qk a_++(Qk b)) k0)).2.2).toList)&&true)))) then (.next (s0++ [(nth (Qk a_++(Qk b)) k0)])) else (.next s0))
def Gd (_:Nat) (s0:Z):Z:=s0
def Kz (a_:Xe) (b:Xe):Z:=(Out.on (Uy (Gc a_ b) Gd (((Qk a_).length+(Qk b).length):Int).toNat 0 []) (λy0=>(E4 [] y0)))
theorem ZN (a_:Xe) (b:Xe) (hp:(zD a_.2.2.2.2:Int)+zD b.2.2.2.2<=1073741000):ACalls Tryz.prog 192 [.a [.i a_.1,.i a_.2.1,.b a_.2.2.1,.i a_.2.2.2.1,.h a_.2.2.2.2],.a [.i b.1,.i b.2.1,.b b.2.2.1,.i b.2.2.2.1,.h b.2.2.2.2]] (.h (Kz a_ b)):=by
 refine en Qb Tryz.func192 λw0 F0 hG=> ?_
 have hn1:=ZM a_;have hn2:=ZM b;refine sn Qb [2,3,4] [2,3] p0 <| tn Qb [2,3,4,5] [2,3] p0 <| Qc <| tU Qb Zg [(2,.p 2 0),(3,.p 3 0),(4,.e 0),(5,.one (.slc (.own true 512) 1 [])),(13,.one (.slc (.own true 832) 1 ((eL (Qk a_))++(eL (Qk b))))),(14,.i (((Qk a_).length+(Qk b).length):Int)),(15,.i 0)] [0,1] [(2, [.i a_.1,.i a_.2.1,.b a_.2.2.1,.i a_.2.2.2.1,.h a_.2.2.2.2]),(3, [.i b.1,.i b.2.1,.b b.2.2.1,.i b.2.2.2.1,.h b.2.2.2.2])] [] (pc 1 (S7 a_) (pc 3 (S7 b) (pa (Qk a_) (Qk b) (pe 5 (show .i ((((eL (Qk a_))++(eL (Qk b))):List (List PV)).length:Int)= .i (((Qk a_).length+(Qk b).length):Int) from by simp[Zu]) p0)))) <| eqn [(13,.o 832 (Qk a_++(Qk b)))] [13] [] [] (by rw[show ((eL (Qk a_))++(eL (Qk b)))=(eL (Qk a_++(Qk b))) from Ju (rfl) (rfl)]<;>kernel_rfl) ?_
 refine Qc5 (Gc a_ b) Gd (((Qk a_).length+(Qk b).length):Int).toNat [] (λk0 s0=> [(5,.o 147203 s0),(15,.i (k0:Int))]) [5,15] (λ_ _=> []) [] (λy0=> [(5,.o 147353 y0)]) [2,3,5,13,14,15] (λ_=> []) [2,3] (λk0 s0=>zD s0<=k0) (Xg [(512,147203)] (by kernel_rfl)) (by simp) (λk0 s0 hk0 U=> ?_) (λk0 s0 hk0 U=> ?_) (λy0 hD0=> ?_)
 ·have hA0_0:=U.2;refine su Qb [(16,.b true)] [] [] [] (pe 0 (zB ((k0:Int)<(((Qk a_).length+(Qk b).length):Int))) p0) <| Qc <| ckT <| Qg <| Qc <| Qv <| wT 13 0 (.own true 832) (Qk a_++(Qk b)) (λhw2 hl3=> ?_)
  have hx1:=ng (Qk a_++(Qk b)) k0 (by first|omega|(rw[zJ];omega));refine sn Qb [2,3,4,5,7,13,14,15] [2,3] (pN 0 hx1 p0) <| tN Qb Zg [2,3,4,5,7,13,14,15,25] [2,3] (pc 2 (Ee a_ (nth (Qk a_++(Qk b)) k0)) (pc 5 (Ee b (nth (Qk a_++(Qk b)) k0)) p0)) <| ck (!(((Xl a_ (nth (Qk a_++(Qk b)) k0)).1==(Xl b (nth (Qk a_++(Qk b)) k0)).1)&&(((Xl a_ (nth (Qk a_++(Qk b)) k0)).2.1==(Xl b (nth (Qk a_++(Qk b)) k0)).2.1)&&((((Xl a_ (nth (Qk a_++(Qk b)) k0)).2.2).toList==((Xl b (nth (Qk a_++(Qk b)) k0)).2.2).toList)&&true)))) (λh4=> ?_) (λh4=> ?_)
  ·refine wT 5 0 (.own true 147203) s0 (λhw5 hl6=> ?_);refine qu Qb [(5,.one (.slc (.own true 1856) 1 ((eL s0)++ [[.s (nth (Qk a_++(Qk b)) k0)]])))] [5,16] [] [] (pa s0 [(nth (Qk a_++(Qk b)) k0)] p0) ?_;refine eqn [(5,.o 1856 (s0++ [(nth (Qk a_++(Qk b)) k0)]))] [5] [] [] (by rw[show ((eL s0)++ [[.s (nth (Qk a_++(Qk b)) k0)]])=(eL (s0++ [(nth (Qk a_++(Qk b)) k0)])) from Ju (rfl) (rfl)];first | done | kernel_rfl) ?_;refine rn Qb [2,3,4,5,13,14,15] [2,3] (pe 0 (Jl (Qo k0 (by omega))) p0) ?_;exact zE (s0++ [(nth (Qk a_++(Qk b)) k0)]) (zH (Xg [(1856,147203)] (by kernel_rfl)) ⟨V2 hk0 (Q4 h4 (rfl)) U.1,by first|omega|(simp;omega) | simp⟩)
  have h4n:(((Xl a_ (nth (Qk a_++(Qk b)) k0)).1==(Xl b (nth (Qk a_++(Qk b)) k0)).1)&&(((Xl a_ (nth (Qk a_++(Qk b)) k0)).2.1==(Xl b (nth (Qk a_++(Qk b)) k0)).2.1)&&((((Xl a_ (nth (Qk a_++(Qk b)) k0)).2.2).toList==((Xl b (nth (Qk a_++(Qk b)) k0)).2.2).toList)&&true)))=true:=Za h4;have h4nl:(((Xl a_ (nth (Qk a_++(Qk b)) k0)).1==(Xl b (nth (Qk a_++(Qk b)) k0)).1))=true:=XA h4n;have h4nld:=eq_of_beq h4nl;have h4nr:((((Xl a_ (nth (Qk a_++(Qk b)) k0)).2.1==(Xl b (nth (Qk a_++(Qk b)) k0)).2.1)&&((((Xl a_ (nth (Qk a_++(Qk b)) k0)).2.2).toList==((Xl b (nth (Qk a_++(Qk b)) k0)).2.2).toList)&&true)))=true:=KC h4n;have h4nrl:(((Xl a_ (nth (Qk a_++(Qk b)) k0)).2.1==(Xl b (nth (Qk a_++(Qk b)) k0)).2.1))=true:=XA h4nr;have h4nrld:=eq_of_beq h4nrl;refine Qg <| qu Qb [(15,.i ((k0+1:Nat):Int))] [15,16] [] [] (pe 0 (Jl (Qo k0 (by omega))) p0) ?_
  exact xw s0 ⟨V2 hk0 (Qi h4 (rfl)) U.1,by first|omega|(simp;omega) | simp⟩
 ·have hA0_0:=U.2;exact su Qb [(16,.b false)] [] [] [] (pe 0 (zC ((k0:Int)<(((Qk a_).length+(Qk b).length):Int))) p0) <| Qc <| ckF <| Q3 <| zE _ (zH (Xg [(147203,147353)] (by kernel_rfl)) (Dc hk0 (rfl) U.1))
 exact sn Qb [4] [] (pc 1 (Om y0) p0) <| Qe <| ph0 [] (Wk hD0 (rfl))
def Lc (_:Nat) (a0:Yw) (s0:Z):Rd Z Z Z:=(bif ((a0.1==(2:Int))|| ((a0.1==(3:Int))|| (a0.1==(4:Int)))) then (.next (s0++ [a0.2.2.2.1])) else (.next s0))
def Ps (_:Nat) (s0:Z):Z:=s0
def Ws (q:List Yw):Z:=(Out.on (Xz Lc Ps q 0 []) (λy0=>(E4 [] y0)))
theorem WI (q:List Yw):ACalls Tryz.prog 193 [.h q] (.h (Ws q)):=by
 refine en Qb Tryz.func193 λw0 F0 hG=> ?_
 refine sn Qb [0,2] [] p0 <| tn Qb [0,2,3] [] p0 <| Qc <| tu Qb [(2,.e 0),(3,.one (.slc (.own true 384) 1 [])),(7,.h q),(8,.i (q.length:Int)),(9,.i 0)] [0] [] [] (pl 1 q p0) <| wT 7 0 .sh q (λhw1 hl2=> ?_)
 refine KD Lc Ps q [] (λk0 s0=> [(3,.o 147201 s0),(9,.i (k0:Int))]) [3,9] (λy0=> [(3,.o 147351 y0)]) [3,7,8,9] (λk0 s0=>zD s0<=k0) (Xg [(384,147201)] (by kernel_rfl)) (by simp) (λk0 s0 hk0 U=> ?_) (λk0 s0 hk0 U=> ?_) (λy0 hD0=> ?_)
 ·have hA0_0:=U.2;obtain ⟨a0,hx0⟩:=Xm (l:=q) (i:=k0) hk0;refine sn Qb [2,3,7,8,9,10] [] (pe 0 (zB ((k0:Int)<(q.length:Int))) p0) <| Qc <| ckT <| Qg <| Qc <| Qv <| tn Qb [2,3,5,7,8,9] [5] (pn 0 hx0 p0) <| Qc <| mz [(5,.p 5 0)] [] [(5, [.i a0.1,.i a0.2.1,.i a0.2.2.1,.s a0.2.2.2.1,.i a0.2.2.2.2.1,.i a0.2.2.2.2.2.1,.s a0.2.2.2.2.2.2])] [] <| jn [(25,.b ((a0.1==(2:Int))|| ((a0.1==(3:Int))|| (a0.1==(4:Int)))))] [] [] [] (a0.1==(2:Int)) (λh3=> ?_) (λh3=> ?_) ?_
  ·refine ru Qb [(25,.b true)] [] [] [] (pt 2 h3 p0) ?_;exact zA (by rw[h3]<;>kernel_rfl)
  ·refine Xu (a0.1==(3:Int)) (λh4=> ?_) (λh4=> ?_)
   ·refine ru Qb [(25,.b true)] [] [] [] (pf 2 h3 (pt 6 h4 p0)) ?_;exact zA (by rw[h3,h4]<;>kernel_rfl)
   refine rn Qb [2,3,5,7,8,9,25] [5] (pf 2 h3 (pf 6 h4 p0)) ?_;exact zA (by rw[h3,h4]<;>kernel_rfl)
  refine ck ((a0.1==(2:Int))|| ((a0.1==(3:Int))|| (a0.1==(4:Int)))) (λh5=> ?_) (λh5=> ?_)
  ·refine wT 3 0 (.own true 147201) s0 (λhw6 hl7=> ?_);refine ru Qb [(3,.one (.slc (.own true 1920) 1 ((eL s0)++ [[.s a0.2.2.2.1]])))] [3,5,25] [] [5] (pa s0 [a0.2.2.2.1] p0) ?_;refine eqn [(3,.o 1920 (s0++ [a0.2.2.2.1]))] [3] [] [] (by rw[show ((eL s0)++ [[.s a0.2.2.2.1]])=(eL (s0++ [a0.2.2.2.1])) from Ju (rfl) (rfl)];first | done | kernel_rfl) ?_;refine rn Qb [2,3,7,8,9] [] (pe 0 (Jl (Qo k0 (by omega))) p0) ?_;exact zE (s0++ [a0.2.2.2.1]) (zH (Xg [(1920,147201)] (by kernel_rfl)) ⟨Qt hx0 (Q4 h5 (rfl)) U.1,by first|omega|(simp;omega) | simp⟩)
  have h5l:((a0.1==(2:Int)))=false:=Re h5;have h5ld:=Y4 h5l;have h5r:(((a0.1==(3:Int))|| (a0.1==(4:Int))))=false:=Pz h5;have h5rl:((a0.1==(3:Int)))=false:=Re h5r;have h5rld:=Y4 h5rl;have h5rr:((a0.1==(4:Int)))=false:=Pz h5r;have h5rrd:=Y4 h5rr;refine Qg <| rn Qb [2,3,7,8,9] [] (pe 0 (Jl (Qo k0 (by omega))) p0) ?_
  exact xw s0 ⟨Qt hx0 (Qi h5 (rfl)) U.1,by first|omega|(simp;omega) | simp⟩
 ·have hA0_0:=U.2;exact sn Qb [2,3,7,8,9,10] [] (pe 0 (zC ((k0:Int)<(q.length:Int))) p0) <| Qc <| ckF <| Q3 <| zE _ (zH (Xg [(147201,147351)] (by kernel_rfl)) (Xn hk0 (rfl) U.1))
 exact sn Qb [2] [] (pc 1 (Om y0) p0) <| Qe <| ph0 [] (Wk hD0 (rfl))
def V0 (name:ByteArray) (q0:Z):Bool:=(Qr q0 name)
theorem Pt (name:ByteArray) (q0:Z):ACalls Tryz.prog 195 [.s name,.one (.rptr .sh [.h q0])] (.b (V0 name q0)):=by
 refine en Qb Tryz.func195 λw0 F0 hG=> ?_
 exact sn Qb [0,1,3] [] p0 <| tn Qb [3] [] (pc 2 (Wh q0 name) p0) <| Qe <| pb [] (show V0 name q0=(Qr q0 name) from rfl)
def Kn (c0:Z) (k0:Nat) (a0:ByteArray) (_:Unit):Rd (Int) (Unit) (Unit):=(bif (V0 a0 c0) then (.ret (k0:Int)) else (.next ()))
def Ko (_:Nat) (_:Unit):Unit:=()
def K3 (s_:Z) (c0:Z):Int:=(Out.on (Xz (Kn c0) Ko s_ 0 ()) (λ_=> -1))
theorem B0 (s_:Z) (c0:Z):ACalls Tryz.prog 232 [.h s_,.one (.fnr 195 [[.h c0]])] (.i (K3 s_ c0)):=by
 refine en Qb Tryz.func232 λw0 F0 hG=> ?_
 refine sn Qb [0,1,4] [] p0 <| Qc <| tn Qb [0,1,4,7,8] [] (pl 1 s_ p0) <| mz [(4,.i 0),(7,.i (s_.length:Int)),(8,.i 0)] [] [] [] <| wT 0 0 .sh s_ (λhw1 hl2=> ?_)
 refine P0 (Kn c0) Ko s_ () (λk0 _=> [(8,.i (k0:Int))]) [8] (λ_=> []) [0,1,7,8] wf0 (λk0 s0 hk0 U=> ?_) (λk0 s0 hk0 U=> ?_) (λy0 hD0=> ?_)
 ·obtain ⟨a0,hx0⟩:=Xm (l:=s_) (i:=k0) hk0;refine sn Qb [0,1,4,7,8,9] [] (pe 0 (zB ((k0:Int)<(s_.length:Int))) p0) <| Qc <| ckT <| Qg <| Qc <| Qv <| tn Qb [0,1,4,5,7,8] [] p0 <| tu Qb [(5,.i (k0:Int)),(16,.b (V0 a0 c0))] [] [] [] (pn 3 hx0 (pc 5 (Pt a0 c0) p0)) <| ck (V0 a0 c0) (λh3=> ?_) (λh3=> ?_)
  ·refine sn Qb [0,1,4,7,8] [] p0 <| Qe ?_
   have hr4:(Xz (Kn c0) Ko s_ 0 ())= .ret (k0:Int):=Jv hx0 (Q4 h3 (rfl)) U;exact pi [] (Pd hr4)
  refine Qg <| rn Qb [0,1,4,7,8] [] (pe 0 (Jl (Qo k0 (by omega))) p0) ?_
  exact xw _ (Qt hx0 (Qi h3 (rfl)) U)
 ·exact sn Qb [0,1,4,7,8,9] [] (pe 0 (zC ((k0:Int)<(s_.length:Int))) p0) <| Qc <| ckF <| Q3 <| xw _ (Xn hk0 (rfl) U)
 exact sn Qb [4] [] p0 <| Qe <| pi [] (Wk hD0 (rfl))
def X8 (s_:Z) (c0:Z):Bool:=decide ((K3 s_ c0)>=(0:Int))
theorem A8 (s_:Z) (c0:Z):ACalls Tryz.prog 194 [.h s_,.one (.fnr 195 [[.h c0]])] (.b (X8 s_ c0)):=by
 refine en Qb Tryz.func194 λw0 F0 hG=> ?_
 exact sn Qb [0,1,4] [] p0 <| tn Qb [4] [] (pc 2 (B0 s_ c0) p0) <| Qe <| pb [] (show X8 s_ c0=decide ((K3 s_ c0)>=(0:Int)) from rfl)
def J7 (n:Yw):Bool:=(n.1==(9:Int))
theorem Pu (n:Yw):ACalls Tryz.prog 197 [.a [.i n.1,.i n.2.1,.i n.2.2.1,.s n.2.2.2.1,.i n.2.2.2.2.1,.i n.2.2.2.2.2.1,.s n.2.2.2.2.2.2]] (.b (J7 n)):=by
 refine en Qb Tryz.func197 λw0 F0 hG=> ?_
 exact sn Qb [1,2] [1] p0 <| tn Qb [2] [] p0 <| Qe <| pb [] (show J7 n=(n.1==(9:Int)) from rfl)
def Kt (k0:Nat) (a0:Yw) (_:Unit):Rd (Int) (Unit) (Unit):=(bif (J7 a0) then (.ret (k0:Int)) else (.next ()))
def Ku (_:Nat) (_:Unit):Unit:=()
def Vd (s_:List Yw):Int:=(Out.on (Xz Kt Ku s_ 0 ()) (λ_=> -1))
theorem Cd (s_:List Yw):ACalls Tryz.prog 233 [.h s_,.one (.fnr 197 [])] (.i (Vd s_)):=by
 refine en Qb Tryz.func233 λw0 F0 hG=> ?_
 refine sn Qb [0,1,4] [] p0 <| Qc <| tn Qb [0,1,4,7,8] [] (pl 1 s_ p0) <| mz [(4,.i 0),(7,.i (s_.length:Int)),(8,.i 0)] [] [] [] <| wT 0 0 .sh s_ (λhw1 hl2=> ?_)
 refine P0 Kt Ku s_ () (λk0 _=> [(8,.i (k0:Int))]) [8] (λ_=> []) [0,1,7,8] wf0 (λk0 s0 hk0 U=> ?_) (λk0 s0 hk0 U=> ?_) (λy0 hD0=> ?_)
 ·obtain ⟨a0,hx0⟩:=Xm (l:=s_) (i:=k0) hk0;refine sn Qb [0,1,4,7,8,9] [] (pe 0 (zB ((k0:Int)<(s_.length:Int))) p0) <| Qc <| ckT <| Qg <| Qc <| Qv <| tn Qb [0,1,4,5,7,8] [] p0 <| tu Qb [(5,.i (k0:Int)),(16,.b (J7 a0))] [] [] [] (pn 3 hx0 (pc 5 (Pu a0) p0)) <| ck (J7 a0) (λh3=> ?_) (λh3=> ?_)
  ·refine sn Qb [0,1,4,7,8] [] p0 <| Qe ?_
   have hr4:(Xz Kt Ku s_ 0 ())= .ret (k0:Int):=Jv hx0 (Q4 h3 (rfl)) U;exact pi [] (Pd hr4)
  refine Qg <| rn Qb [0,1,4,7,8] [] (pe 0 (Jl (Qo k0 (by omega))) p0) ?_
  exact xw _ (Qt hx0 (Qi h3 (rfl)) U)
 ·exact sn Qb [0,1,4,7,8,9] [] (pe 0 (zC ((k0:Int)<(s_.length:Int))) p0) <| Qc <| ckF <| Q3 <| xw _ (Xn hk0 (rfl) U)
 exact sn Qb [4] [] p0 <| Qe <| pi [] (Wk hD0 (rfl))
def Yf (s_:List Yw):Bool:=decide ((Vd s_)>=(0:Int))
theorem Bu (s_:List Yw):ACalls Tryz.prog 196 [.h s_,.one (.fnr 197 [])] (.b (Yf s_)):=by
 refine en Qb Tryz.func196 λw0 F0 hG=> ?_
 exact sn Qb [0,1,4] [] p0 <| tn Qb [4] [] (pc 2 (Cd s_) p0) <| Qe <| pb [] (show Yf s_=decide ((Vd s_)>=(0:Int)) from rfl)
def Wi (before:Xe) (after:Xe) (_:Nat) (a0:X0) (s0:Z):Rd Z Z Z:=(bif ((X8 (Kz before after) (Ws a0.2))|| ((Yf a0.2)&&(before.2.2.2.1 !=after.2.2.2.1))) then (.next (s0++ [a0.1])) else (.next s0))
def H7 (_:Nat) (s0:Z):Z:=s0
def Vw (d:List X0) (before:Xe) (after:Xe):Z:=(bif (before.1 !=after.1) then (Xv d) else (Out.on (Xz (Wi before after) H7 d 0 []) (λy0=>y0)))
theorem XP (a b:Xe):∀(l:List X0) (k:Nat) (s:Z),∃s',Xz (Wi a b) H7 l k s= .brk s'/\s'.length<=s.length+l.length
 | [],k,s=>⟨s,rfl,by simp⟩
 | x::l,k,s=>by
  simp only[Xz,Wi];generalize (_|| _:Bool)=c;cases c with
  | true=>obtain ⟨s',h1,h2⟩:=XP a b l (k+1) (s++ [x.1]);exact ⟨s',h1,by simp at h2⊢;omega⟩
  | false=>obtain ⟨s',h1,h2⟩:=XP a b l (k+1) s;exact ⟨s',h1,by simp at h2⊢;omega⟩
theorem VZ (d:List X0) (a b:Xe):(Vw d a b).length<=d.length:=by
 unfold Vw;obtain ⟨s',h1,h2⟩:=XP a b d 0 [];rw[h1,XM];generalize (a.1 !=b.1)=c;cases c with
 | true=>simp
 | false=>exact (by simpa using h2:s'.length<=d.length)
theorem R9 (d:List X0) (before:Xe) (after:Xe) (hp:(zD before.2.2.2.2:Int)+zD after.2.2.2.2<=1073741000):ACalls Tryz.prog 152 [.h d,.a [.i before.1,.i before.2.1,.b before.2.2.1,.i before.2.2.2.1,.h before.2.2.2.2],.a [.i after.1,.i after.2.1,.b after.2.2.1,.i after.2.2.2.1,.h after.2.2.2.2]] (.o 0 (Vw d before after)):=by
 refine en Qb Tryz.func152 λw0 F0 hG=> ?_
 refine sn Qb [0,4,5,6] [4,5] p0 <| Qc <| tn Qb [0,4,5,6,18] [4,5] p0 <| ck (before.1 !=after.1) (λh1=> ?_) (λh1=> ?_)
 ·exact tu Qb [(4,.p 4 0),(5,.p 5 0),(6,.o 1280 (Xv d))] [1,2] [(4, [.i before.1,.i before.2.1,.b before.2.2.1,.i before.2.2.2.1,.h before.2.2.2.2]),(5, [.i after.1,.i after.2.1,.b after.2.2.1,.i after.2.2.2.1,.h after.2.2.2.2])] [] (pc 1 (Lt d) p0) <| Qe <| po0 [] (Q4 h1 (rfl))
 have h1d:=Vi h1;refine Qg <| tu Qb [(4,.p 4 0),(5,.p 5 0),(6,.e 0),(7,.h (Kz before after))] [1,2] [(4, [.i before.1,.i before.2.1,.b before.2.2.1,.i before.2.2.2.1,.h before.2.2.2.2]),(5, [.i after.1,.i after.2.1,.b after.2.2.1,.i after.2.2.2.1,.h after.2.2.2.2])] [] (pc 2 (ZN before after (by first|omega|(simp;omega))) p0) <| sn Qb [0,4,5,6,7,8] [4,5] p0 <| Qc <| tn Qb [4,5,6,7,8,25,26,27] [4,5] (pl 1 d p0) <| mz [(8,.one (.slc (.own true 1536) 1 [])),(25,.h d),(26,.i (d.length:Int)),(27,.i 0)] [0] [] [] <| wT 25 0 .sh d (λhw2 hl3=> ?_)
 refine YP (Wi before after) H7 d [] (λk0 s0=> [(8,.o 147204 s0),(27,.i (k0:Int))]) [8,27] (λ_ _=> []) [] (λy0=> [(8,.o 147354 y0)]) [4,5,7,8,25,26,27] (λ_=> []) [4,5] (λk0 s0=>zD s0<=k0) (Xg [(1536,147204)] (by kernel_rfl)) (by simp) (λk0 s0 hk0 U=> ?_) (λk0 s0 hk0 U=> ?_) (λy0 hD0=> ?_)
 ·have hA0_0:=U.2;obtain ⟨a0,hx0⟩:=Xm (l:=d) (i:=k0) hk0;refine su Qb [(28,.b true)] [] [] [] (pe 0 (zB ((k0:Int)<(d.length:Int))) p0) <| Qc <| ckT <| Qg <| Qc <| Qv <| sn Qb [4,5,6,7,8,10,25,26,27] [4,5,10] (pn 0 hx0 p0) <| tn Qb [4,5,6,7,8,10,11,25,26,27] [4,5,10,11] (pc 2 (WI a0.2) p0) <| tu Qb [(10,.p 10 0),(12,.b (X8 (Kz before after) (Ws a0.2)))] [28] [(10, [.s a0.1,.h a0.2])] [] (pc 2 (A8 (Kz before after) (Ws a0.2)) p0) <| sn Qb [4,5,6,7,8,10,12,13,25,26,27] [4,5,10] (pc 2 (Bu a0.2) p0) <| Qc <| mz [(13,.b (Yf a0.2))] [] [] [] <| jn [(50,.b ((X8 (Kz before after) (Ws a0.2))|| ((Yf a0.2)&&(before.2.2.2.1 !=after.2.2.2.1))))] [12,13] [] [] (X8 (Kz before after) (Ws a0.2)) (λh4=> ?_) (λh4=> ?_) ?_
  ·refine ru Qb [(50,.b true)] [12,13] [] [] (pt 0 h4 p0) ?_;exact zA (by rw[h4]<;>kernel_rfl)
  ·refine Xu (Yf a0.2) (λh5=> ?_) (λh5=> ?_)
   ·refine rn Qb [4,5,6,7,8,10,25,26,27,50] [4,5,10] (pf 0 h4 (pt 2 h5 p0)) ?_;exact zA (by rw[h4,h5]<;>kernel_rfl)
   refine ru Qb [(50,.b false)] [12,13] [] [] (pf 0 h4 (pf 2 h5 p0)) ?_;exact zA (by rw[h4,h5]<;>kernel_rfl)
  refine ck ((X8 (Kz before after) (Ws a0.2))|| ((Yf a0.2)&&(before.2.2.2.1 !=after.2.2.2.1))) (λh6=> ?_) (λh6=> ?_)
  ·refine wT 8 0 (.own true 147204) s0 (λhw7 hl8=> ?_);refine ru Qb [(8,.one (.slc (.own true 3520) 1 ((eL s0)++ [[.s a0.1]])))] [8,10,50] [] [10] (pa s0 [a0.1] p0) ?_;refine eqn [(8,.o 3520 (s0++ [a0.1]))] [8] [] [] (by rw[show ((eL s0)++ [[.s a0.1]])=(eL (s0++ [a0.1])) from Ju (rfl) (rfl)];first | done | kernel_rfl) ?_;refine rn Qb [4,5,6,7,8,25,26,27] [4,5] (pe 0 (Jl (Qo k0 (by omega))) p0) ?_;exact zE (s0++ [a0.1]) (zH (Xg [(3520,147204)] (by kernel_rfl)) ⟨Qt hx0 (Q4 h6 (rfl)) U.1,by first|omega|(simp;omega) | simp⟩)
  refine Qg <| rn Qb [4,5,6,7,8,25,26,27] [4,5] (pe 0 (Jl (Qo k0 (by omega))) p0) ?_
  exact xw s0 ⟨Qt hx0 (Qi h6 (rfl)) U.1,by first|omega|(simp;omega) | simp⟩
 ·have hA0_0:=U.2;exact su Qb [(28,.b false)] [] [] [] (pe 0 (zC ((k0:Int)<(d.length:Int))) p0) <| Qc <| ckF <| Q3 <| zE _ (zH (Xg [(147204,147354)] (by kernel_rfl)) (Xn hk0 (rfl) U.1))
 exact sn Qb [6] [] p0 <| Qe <| po0 [] (Qi h1 (Wk hD0 (rfl)))
def Vn (d:List X0) (before:Xe) (after:Xe):Z:=(Yg d (Vw d before after))
theorem ZO (d:List X0) (before:Xe) (after:Xe) (hp:(zD before.2.2.2.2:Int)+zD after.2.2.2.2<=1073741000) (hd:zD d<=1000):ACalls Tryz.prog 101 [.h d,.a [.i before.1,.i before.2.1,.b before.2.2.1,.i before.2.2.2.1,.h before.2.2.2.2],.a [.i after.1,.i after.2.1,.b after.2.2.1,.i after.2.2.2.1,.h after.2.2.2.2]] (.h (Vn d before after)):=by
 refine en Qb Tryz.func101 λw0 F0 hG=> ?_
 have hdl:=VZ d before after;exact sn Qb [0,4,5,6] [4,5] p0 <| tn Qb [6] [] (pc 4 (R9 d before after (by first|omega|(simp;omega))) (pc 5 (A9 d (Vw d before after) (by first|omega|(simp;omega))) p0)) <| Qe <| ph0 [] (show Vn d before after=(Yg d (Vw d before after)) from rfl)
def Ji (a_:List Int) (b:List Int):(List Int)×(List Int):=((Lb b a_),(Lb a_ b))
theorem FU (a_:List Int) (b:List Int):ACalls Tryz.prog 161 [.h a_,.h b] (.tup [(false, [.o 0 (((Ji a_ b)).1)]),(false, [.o 1 (((Ji a_ b)).2)])]):=by
 refine en Qb Tryz.func161 λw0 F0 hG=> ?_
 exact sn Qb [0,1,4,5] [] p0 <| tn Qb [4,5] [] (pc 2 (ZJ b a_) (pc 5 (ZJ a_ b) p0)) <| Qe <| pz [] (show Ji a_ b=((Lb b a_),(Lb a_ b)) from rfl) (λz=> .tup [(false, [.o 0 z.1]),(false, [.o 1 z.2])])
def Oo (a_:List Qm) (_:Nat) (a0:Qm) (s0:List I5):Rd (List I5) (List I5) (List I5):=(bif decide (IntKind.i64.wrap (((((Ji (Xj a_ a0.1) a0.2)).1).length:Int)+((((Ji (Xj a_ a0.1) a0.2)).2).length:Int))>(0:Int)) then (.next (s0++ [(a0.1,((Ji (Xj a_ a0.1) a0.2)).1,((Ji (Xj a_ a0.1) a0.2)).2)])) else (.next s0))
def Oq (_:Nat) (s0:List I5):(List I5):=s0
def S8 (a_:List Qm) (b:List Qm):(List I5):=(Out.on (Xz (Oo a_) Oq b 0 []) (λy0=>y0))
theorem KQ (a_:List Qm) (b:List Qm):ACalls Tryz.prog 109 [.h a_,.h b] (.o 0 (S8 a_ b)):=by
 refine en Qb Tryz.func109 λw0 F0 hG=> ?_
 refine sn Qb [0,1,4] [] p0 <| tn Qb [0,1,4,5] [] p0 <| Qc <| tu Qb [(4,.e 0),(5,.one (.slc (.own true 640) 3 [])),(11,.h b),(12,.i (b.length:Int)),(13,.i 0)] [1] [] [] (pl 1 b p0) <| wT 11 0 .sh b (λhw1 hl2=> ?_)
 refine KD (Oo a_) Oq b [] (λk0 s0=> [(5,.o 147202 s0),(13,.i (k0:Int))]) [5,13] (λy0=> [(5,.o 147352 y0)]) [0,5,11,12,13] (λk0 s0=>zD s0<=k0) (Xg [(640,147202)] (by kernel_rfl)) (by simp) (λk0 s0 hk0 U=> ?_) (λk0 s0 hk0 U=> ?_) (λy0 hD0=> ?_)
 ·have hA0_0:=U.2;obtain ⟨a0,hx0⟩:=Xm (l:=b) (i:=k0) hk0;refine su Qb [(14,.b true)] [] [] [] (pe 0 (zB ((k0:Int)<(b.length:Int))) p0) <| Qc <| ckT <| Qg <| Qc <| Qv <| sn Qb [0,4,5,7,11,12,13] [7] (pn 0 hx0 p0) <| tN Qb Zg [0,4,5,7,8,9,11,12,13] [7] (pc 3 (Dy a_ a0.1) (pc 6 (FU (Xj a_ a0.1) a0.2) p0)) <| tu Qb [(7,.p 7 0),(8,.o 1536 (((Ji (Xj a_ a0.1) a0.2)).1)),(9,.o 1537 (((Ji (Xj a_ a0.1) a0.2)).2)),(32,.b (decide (IntKind.i64.wrap (((((Ji (Xj a_ a0.1) a0.2)).1).length:Int)+((((Ji (Xj a_ a0.1) a0.2)).2).length:Int))>(0:Int))))] [14] [(7, [.s a0.1,.h a0.2])] [] (pl 1 (((Ji (Xj a_ a0.1) a0.2)).1) (pl 3 (((Ji (Xj a_ a0.1) a0.2)).2) p0)) <| ck (decide (IntKind.i64.wrap (((((Ji (Xj a_ a0.1) a0.2)).1).length:Int)+((((Ji (Xj a_ a0.1) a0.2)).2).length:Int))>(0:Int))) (λh3=> ?_) (λh3=> ?_)
  ·have h3d:=of_decide_eq_true h3;refine wT 5 0 (.own true 147202) s0 (λhw4 hl5=> ?_);refine ru Qb [(5,.one (.slc (.own true 2560) 3 ((eL s0)++ [[.s a0.1,.h (((Ji (Xj a_ a0.1) a0.2)).1),.h (((Ji (Xj a_ a0.1) a0.2)).2)]])))] [5,7,8,9,32] [] [7] (pa s0 [(a0.1,((Ji (Xj a_ a0.1) a0.2)).1,((Ji (Xj a_ a0.1) a0.2)).2)] p0) ?_;refine eqn [(5,.o 2560 (s0++ [(a0.1,((Ji (Xj a_ a0.1) a0.2)).1,((Ji (Xj a_ a0.1) a0.2)).2)]))] [5] [] [] (by rw[show ((eL s0)++ [[.s a0.1,.h (((Ji (Xj a_ a0.1) a0.2)).1),.h (((Ji (Xj a_ a0.1) a0.2)).2)]])=(eL (s0++ [(a0.1,((Ji (Xj a_ a0.1) a0.2)).1,((Ji (Xj a_ a0.1) a0.2)).2)])) from Ju (rfl) (rfl)];first | done | kernel_rfl) ?_;refine rn Qb [0,4,5,11,12,13] [] (pe 0 (Jl (Qo k0 (by omega))) p0) ?_;exact zE (s0++ [(a0.1,((Ji (Xj a_ a0.1) a0.2)).1,((Ji (Xj a_ a0.1) a0.2)).2)]) (zH (Xg [(2560,147202)] (by kernel_rfl)) ⟨Qt hx0 (Q4 h3 (rfl)) U.1,by first|omega|(simp;omega) | simp⟩)
  have h3d:=of_decide_eq_false h3;refine Qg <| rn Qb [0,4,5,11,12,13] [] (pe 0 (Jl (Qo k0 (by omega))) p0) ?_
  exact xw s0 ⟨Qt hx0 (Qi h3 (rfl)) U.1,by first|omega|(simp;omega) | simp⟩
 ·have hA0_0:=U.2;exact su Qb [(14,.b false)] [] [] [] (pe 0 (zC ((k0:Int)<(b.length:Int))) p0) <| Qc <| ckF <| Q3 <| zE _ (zH (Xg [(147202,147352)] (by kernel_rfl)) (Xn hk0 (rfl) U.1))
 exact sn Qb [4] [] p0 <| Qe <| po0 [] (Wk hD0 (rfl))
def Ho (x:Qm) (y_:Qm):Bool:=((x.1.toList==y_.1.toList)&&(Vl x.2 y_.2))
theorem Tu (x:Qm) (y_:Qm):ACalls Tryz.prog 142 [.a [.s x.1,.h x.2],.a [.s y_.1,.h y_.2]] (.b (Ho x y_)):=by
 refine en Qb Tryz.func142 λw0 F0 hG=> ?_
 refine sn Qb [2,3,4] [2,3] p0 <| Qc <| mz [(2,.p 2 0),(3,.p 3 0),(4,.b false)] [0,1] [(2, [.s x.1,.h x.2]),(3, [.s y_.1,.h y_.2])] [] <| jn [(4,.b ((x.1.toList==y_.1.toList)&&(Vl x.2 y_.2)))] [2,3,4] [] [2,3] (x.1.toList==y_.1.toList) (λh1=> ?_) (λh1=> ?_) ?_
 ·refine rn Qb [4] [] (pt 4 h1 (pc 10 (Pr x.2 y_.2) p0)) ?_;exact zA (by rw[h1]<;>kernel_rfl)
 ·refine rn Qb [4] [] (pf 4 h1 p0) ?_;exact zA (by rw[h1]<;>kernel_rfl)
 exact Qe <| pb [] (show Ho x y_=((x.1.toList==y_.1.toList)&&(Vl x.2 y_.2)) from rfl)
def Z6 (s2_:List Qm) (k0:Nat) (a0:Qm) (_:Unit):Rd (Bool) (Unit) (Unit):=(bif (!(Ho a0 (nth s2_ k0))) then (.ret false) else (.next ()))
def Jt (_:Nat) (_:Unit):Unit:=()
def J8 (s1_:List Qm) (s2_:List Qm):Bool:=(bif ((s1_.length:Int) !=(s2_.length:Int)) then false else (Out.on (Xz (Z6 s2_) Jt s1_ 0 ()) (λ_=>true)))
theorem Ct (s1_:List Qm) (s2_:List Qm):ACalls Tryz.prog 141 [.h s1_,.h s2_,.one (.fnr 142 [])] (.b (J8 s1_ s2_)):=by
 refine en Qb Tryz.func141 λw0 F0 hG=> ?_
 refine sn Qb [0,1,2,6] [] p0 <| Qc <| tn Qb [0,1,2,6,14] [] (pl 1 s1_ (pl 3 s2_ p0)) <| ck ((s1_.length:Int) !=(s2_.length:Int)) (λh1=> ?_) (λh1=> ?_)
 ·exact tu Qb [(6,.b false)] [] [] [] p0 <| Qe <| pb [] (Q4 h1 (rfl))
 have h1d:=Vi h1;refine Qg <| Qc <| tu Qb [(6,.b false),(15,.h s1_),(16,.i (s1_.length:Int)),(17,.i 0)] [0] [] [] (pl 1 s1_ p0) <| wT 15 0 .sh s1_ (λhw2 hl3=> ?_)
 refine P0 (Z6 s2_) Jt s1_ () (λk0 _=> [(17,.i (k0:Int))]) [17] (λ_=> []) [1,2,15,16,17] wf0 (λk0 s0 hk0 U=> ?_) (λk0 s0 hk0 U=> ?_) (λy0 hD0=> ?_)
 ·obtain ⟨a0,hx0⟩:=Xm (l:=s1_) (i:=k0) hk0;refine su Qb [(18,.b true)] [] [] [] (pe 0 (zB ((k0:Int)<(s1_.length:Int))) p0) <| Qc <| ckT <| Qg <| Qc <| Qv <| sn Qb [1,2,6,7,8,15,16,17] [8] (pn 1 hx0 p0) <| wT 1 0 .sh s2_ (λhw5 hl6=> ?_)
  have hx4:=ng s2_ k0;refine tn Qb [1,2,6,8,9,15,16,17] [8,9] (pn 2 hx4 p0) <| tu Qb [(30,.b (!(Ho a0 (nth s2_ k0))))] [18] [] [] (pc 3 (Tu a0 (nth s2_ k0)) p0) <| ck (!(Ho a0 (nth s2_ k0))) (λh7=> ?_) (λh7=> ?_)
  ·refine su Qb [] [30] [] [] p0 <| Qe ?_
   have hr8:(Xz (Z6 s2_) Jt s1_ 0 ())= .ret false:=Jv hx0 (Q4 h7 (rfl)) U;exact pb [] (Qi h1 (Pd hr8))
  refine Qg <| rn Qb [1,2,6,15,16,17] [] (pe 0 (Jl (Qo k0 (by omega))) p0) ?_
  exact xw _ (Qt hx0 (Qi h7 (rfl)) U)
 ·exact su Qb [(18,.b false)] [] [] [] (pe 0 (zC ((k0:Int)<(s1_.length:Int))) p0) <| Qc <| ckF <| Q3 <| xw _ (Xn hk0 (rfl) U)
 exact sn Qb [6] [] p0 <| Qe <| pb [] (Qi h1 (Wk hD0 (rfl)))
def Hv (a_:List Qm) (b:List Qm):Bool:=(J8 a_ b)
theorem ZP (a_:List Qm) (b:List Qm):ACalls Tryz.prog 92 [.h a_,.h b] (.b (Hv a_ b)):=by
 refine en Qb Tryz.func92 λw0 F0 hG=> ?_
 exact sn Qb [0,1,4] [] p0 <| tn Qb [4] [] (pc 2 (Ct a_ b) p0) <| Qe <| pb [] (show Hv a_ b=(J8 a_ b) from rfl)
def Xo (c:X4):Bool:=(((Yu c.1 c.2.1)).2&&(Hv (((Yu c.1 c.2.1)).1) c.2.2))
theorem W9 {c:X4} (h:Xo c=true):zD c.2.1<=5/\Qj c.1=true:=by
 unfold Xo at h;cases he:(Yu c.1 c.2.1).2 with
 | false=>rw[he] at h;simp at h
 | true=>obtain ⟨h1,h2,_⟩:=Ro he;exact ⟨h1,h2⟩
theorem Ce (c:X4):ACalls Tryz.prog 44 [.a [.h c.1.1,.h c.1.2.1,.i c.1.2.2,.h c.2.1,.h c.2.2]] (.b (Xo c)):=by
 refine en Qb Tryz.func44 λw0 F0 hG=> ?_
 refine sn Qb [1,2] [1] p0 <| tn Qb [1,2,3,4] [1] (pc 4 (T3 c.1 c.2.1) p0) <| Qc <| mz [(1,.p 1 0),(2,.b false),(3,.o 640 (((Yu c.1 c.2.1)).1)),(4,.b (((Yu c.1 c.2.1)).2))] [0] [(1, [.h c.1.1,.h c.1.2.1,.i c.1.2.2,.h c.2.1,.h c.2.2])] [] <| jn [(2,.b (((Yu c.1 c.2.1)).2&&(Hv (((Yu c.1 c.2.1)).1) c.2.2)))] [1,2,3,4] [] [1] (((Yu c.1 c.2.1)).2) (λh1=> ?_) (λh1=> ?_) ?_
 ·refine rn Qb [2] [] (pt 0 h1 (pc 5 (ZP (((Yu c.1 c.2.1)).1) c.2.2) p0)) ?_;exact zA (by rw[h1]<;>kernel_rfl)
 ·refine rn Qb [2] [] (pf 0 h1 p0) ?_;exact zA (by rw[h1]<;>kernel_rfl)
 exact Qe <| pb [] (show Xo c=(((Yu c.1 c.2.1)).2&&(Hv (((Yu c.1 c.2.1)).1) c.2.2)) from rfl)
open GoE (enc wide)
def Il (_:Nat) (a0:Qm) (s0:List Qm):Rd (List Qm) (List Qm) (List Qm):=(.next (s0++ [a0]))
def Im (_:Nat) (s0:List Qm):(List Qm):=s0
def D4 (r:List Qm):(List Qm):=(Out.on (Xz Il Im r 0 []) (λy0=>y0))
theorem KR (r:List Qm):ACalls Tryz.prog 95 [.h r] (.o 0 (D4 r)):=by
 refine en Qb Tryz.func95 λw0 F0 hG=> ?_
 refine sn Qb [0,2] [] p0 <| tn Qb [0,2,3] [] p0 <| Qc <| tu Qb [(2,.e 0),(3,.one (.slc (.own true 384) 2 [])),(7,.h r),(8,.i (r.length:Int)),(9,.i 0)] [0] [] [] (pl 1 r p0) <| wT 7 0 .sh r (λhw1 hl2=> ?_)
 refine KD Il Im r [] (λk0 s0=> [(3,.o 147201 s0),(9,.i (k0:Int))]) [3,9] (λy0=> [(3,.o 147351 y0)]) [3,7,8,9] (λk0 s0=>zD s0<=k0) (Xg [(384,147201)] (by kernel_rfl)) (by simp) (λk0 s0 hk0 U=> ?_) (λk0 s0 hk0 U=> ?_) (λy0 hD0=> ?_)
 ·have hA0_0:=U.2;obtain ⟨a0,hx0⟩:=Xm (l:=r) (i:=k0) hk0;refine sn Qb [2,3,7,8,9,10] [] (pe 0 (zB ((k0:Int)<(r.length:Int))) p0) <| Qc <| ckT <| Qg <| Qc <| Qv <| tn Qb [2,3,5,7,8,9] [5] (pn 0 hx0 p0) <| wT 3 0 (.own true 147201) s0 (λhw3 hl4=> ?_)
  refine qU Qb Zg [(3,.one (.slc (.own true 1344) 2 ((eL s0)++ [[.s a0.1,.h a0.2]])))] [3] [] [] (pc 5 (KE a0.2) (pa s0 [a0] p0)) ?_;refine eqn [(3,.o 1344 (s0++ [a0]))] [3] [] [] (by rw[show ((eL s0)++ [[.s a0.1,.h a0.2]])=(eL (s0++ [a0])) from Ju (rfl) (rfl)];first | done | kernel_rfl) ?_;refine rn Qb [2,3,7,8,9] [] (pe 0 (Jl (Qo k0 (by omega))) p0) ?_;exact zE (s0++ [a0]) (zH (Xg [(1344,147201)] (by kernel_rfl)) ⟨Qt hx0 (rfl) U.1,by first|omega|(simp;omega) | simp⟩)
 ·have hA0_0:=U.2;exact sn Qb [2,3,7,8,9,10] [] (pe 0 (zC ((k0:Int)<(r.length:Int))) p0) <| Qc <| ckF <| Q3 <| zE _ (zH (Xg [(147201,147351)] (by kernel_rfl)) (Xn hk0 (rfl) U.1))
 exact sn Qb [2] [] p0 <| Qe <| po0 [] (Wk hD0 (rfl))
def Yj (c:X4):X4:=((Xh c.1),(X7 c.2.1),(D4 c.2.2))
theorem K4 (c:X4):ACalls Tryz.prog 45 [.a [.h c.1.1,.h c.1.2.1,.i c.1.2.2,.h c.2.1,.h c.2.2]] (.a [.o 0 ((Yj c).1.1),.o 1 ((Yj c).1.2.1),.i ((Yj c).1.2.2),.o 2 ((Yj c).2.1),.o 3 ((Yj c).2.2)]):=by
 refine en Qb Tryz.func45 λw0 F0 hG=> ?_
 exact sn Qb [1,2] [1,2] p0 <| tN Qb Zg [2] [2] (pc 2 (D2 c.1) (pc 5 (Bz c.2.1) (pc 8 (KR c.2.2) p0))) <| Qe <| pz [] (show Yj c=((Xh c.1),(X7 c.2.1),(D4 c.2.2)) from rfl) (λz=> .a [.o 0 z.1.1,.o 1 z.1.2.1,.i z.1.2.2,.o 2 z.2.1,.o 3 z.2.2])
def Wt (s_:Qz) (d:List X0) (r:List Qm) (names:Z):(List Qm)×Bool:=(((Yn s_ d r names)).1,((Yn s_ d r names)).2.2)
theorem WJ (s_:Qz) (d:List X0) (r:List Qm) (names:Z):ACalls Tryz.prog 108 [.a [.h s_.1,.h s_.2.1,.i s_.2.2],.h d,.h r,.h names] (.tup [(false, [.o 0 (((Wt s_ d r names)).1)]),(false, [.b (((Wt s_ d r names)).2)])]):=by
 refine en Qb Tryz.func108 λw0 F0 hG=> ?_
 exact sn Qb [1,2,3,4,8,9] [4] p0 <| tn Qb [8,9,10,12] [] (pc 4 (S1 s_ d r names) p0) <| tu Qb [(8,.o 1152 (((Yn s_ d r names)).1)),(9,.b (((Yn s_ d r names)).2.2))] [0,1,2,3] [] [] p0 <| Qe <| pz [] (show Wt s_ d r names=(((Yn s_ d r names)).1,((Yn s_ d r names)).2.2) from rfl) (λz=> .tup [(false, [.o 0 z.1]),(false, [.b z.2])])
def Yo (c:X4) (s_:Qz) (d:List X0) (names:Z):X4×(List I5)×Bool:=(bif (!(((Wt s_ d c.2.2 names)).2)) then ((Yj c), [],false) else (((Xh s_),(X7 d),((Wt s_ d c.2.2 names)).1),(S8 c.2.2 (((Wt s_ d c.2.2 names)).1)),true))
theorem D5 (c:X4) (s_:Qz) (d:List X0) (names:Z):ACalls Tryz.prog 53 [.a [.h c.1.1,.h c.1.2.1,.i c.1.2.2,.h c.2.1,.h c.2.2],.a [.h s_.1,.h s_.2.1,.i s_.2.2],.h d,.h names] (.tup [(true, [.o 0 ((((Yo c s_ d names)).1).1.1),.o 1 ((((Yo c s_ d names)).1).1.2.1),.i ((((Yo c s_ d names)).1).1.2.2),.o 2 ((((Yo c s_ d names)).1).2.1),.o 3 ((((Yo c s_ d names)).1).2.2)]),(false, [.o 4 (((Yo c s_ d names)).2.1)]),(false, [.b (((Yo c s_ d names)).2.2)])]):=by
 refine en Qb Tryz.func53 λw0 F0 hG=> ?_
 refine sn Qb [2,3,4,5,8,9,10] [4,5,8] p0 <| tn Qb [2,4,5,8,9,10,11,12] [4,5,8] (pc 5 (WJ s_ d c.2.2 names) p0) <| Qc <| tu Qb [(4,.p 4 0),(5,.p 5 0),(8,.p 8 0),(9,.e 0),(10,.b false),(11,.o 1216 (((Wt s_ d c.2.2 names)).1)),(23,.b (!(((Wt s_ d c.2.2 names)).2)))] [0,1,3] [(4, [.h c.1.1,.h c.1.2.1,.i c.1.2.2,.h c.2.1,.h c.2.2]),(5, [.h s_.1,.h s_.2.1,.i s_.2.2]),(8, [.e 2,.e 5,.i 0,.e 2,.e 2])] [] p0 <| ck (!(((Wt s_ d c.2.2 names)).2)) (λh1=> ?_) (λh1=> ?_)
 ·refine sn Qb [2,4,5,8,9,10,11] [4,5,8] (pc 1 (K4 c) p0) <| opn [(false,9,0,true,384000,3)] ?_
  exact Qe <| pz [] (show Yo c s_ d names=_ from Q4 h1 (rfl)) (λz=> .tup [(true, [.o 0 z.1.1.1,.o 1 z.1.1.2.1,.i z.1.1.2.2,.o 2 z.1.2.1,.o 3 z.1.2.2]),(false, [.o 4 z.2.1]),(false, [.b z.2.2])])
 exact Qg <| sN Qb Zg [8,9,10] [8] (pc 1 (D2 s_) (pc 3 (Bz d) (pc 9 (KQ c.2.2 (((Wt s_ d c.2.2 names)).1)) p0))) <| Qe <| pz [] (show Yo c s_ d names=_ from Qi h1 (rfl)) (λz=> .tup [(true, [.o 0 z.1.1.1,.o 1 z.1.1.2.1,.i z.1.1.2.2,.o 2 z.1.2.1,.o 3 z.1.2.2]),(false, [.o 4 z.2.1]),(false, [.b z.2.2])])
def Zw (c:X4) (f:Xe):X4×Int×(List I5)×Bool:=(bif ((!(((X6 c.1 f)).2.2))|| (!(Xo c))) then ((Yj c),0, [],false) else ((((Yo c (((X6 c.1 f)).1) c.2.1 (Xv c.2.1))).1),((X6 c.1 f)).2.1,((Yo c (((X6 c.1 f)).1) c.2.1 (Xv c.2.1))).2.1,((Yo c (((X6 c.1 f)).1) c.2.1 (Xv c.2.1))).2.2))
theorem FV (c:X4) (f:Xe):ACalls Tryz.prog 46 [.a [.h c.1.1,.h c.1.2.1,.i c.1.2.2,.h c.2.1,.h c.2.2],.a [.i f.1,.i f.2.1,.b f.2.2.1,.i f.2.2.2.1,.h f.2.2.2.2]] (.tup [(true, [.o 0 ((((Zw c f)).1).1.1),.o 1 ((((Zw c f)).1).1.2.1),.i ((((Zw c f)).1).1.2.2),.o 2 ((((Zw c f)).1).2.1),.o 3 ((((Zw c f)).1).2.2)]),(false, [.i (((Zw c f)).2.1)]),(false, [.o 4 (((Zw c f)).2.2.1)]),(false, [.b (((Zw c f)).2.2.2)])]):=by
 refine en Qb Tryz.func46 λw0 F0 hG=> ?_
 refine sn Qb [2,3,4,5,6,7] [2,3,4] p0 <| tn Qb [2,4,5,6,7,8,9,10] [2,4,8] (pc 3 (WF c.1 f) p0) <| Qc <| Qc <| mz [(2,.p 2 0),(4,.p 4 0),(5,.i 0),(6,.e 0),(7,.b false),(8,.p 8 0),(9,.i (((X6 c.1 f)).2.1)),(10,.b (((X6 c.1 f)).2.2))] [0,1] [(2, [.h c.1.1,.h c.1.2.1,.i c.1.2.2,.h c.2.1,.h c.2.2]),(4, [.e 2,.e 5,.i 0,.e 2,.e 2]),(8, [.o 1088 ((((X6 c.1 f)).1).1),.o 1089 ((((X6 c.1 f)).1).2.1),.i ((((X6 c.1 f)).1).2.2)])] [] <| jn [(27,.b ((!(((X6 c.1 f)).2.2))|| (!(Xo c))))] [] [] [] (!(((X6 c.1 f)).2.2)) (λh1=> ?_) (λh1=> ?_) ?_
 ·have h1n:(((X6 c.1 f)).2.2)=false:=Vj h1;refine ru Qb [(27,.b true)] [] [] [] (pf 0 h1n (pe 1 (show .b (!false)= .b true from rfl) p0)) ?_;exact zA (by rw[h1]<;>kernel_rfl)
 ·have h1n:(((X6 c.1 f)).2.2)=true:=Za h1;refine rn Qb [2,4,5,6,7,8,9,10,27] [2,4,8] (pt 0 h1n (pe 1 (show .b (!true)= .b false from rfl) (pc 4 (Ce c) p0))) ?_;exact zA (by rw[h1]<;>kernel_rfl)
 refine ck ((!(((X6 c.1 f)).2.2))|| (!(Xo c))) (λh2=> ?_) (λh2=> ?_)
 ·refine sn Qb [2,4,5,6,7,8,9,10] [2,4,8] (pc 1 (K4 c) p0) <| opn [(false,6,0,true,384000,3)] ?_
  exact Qe <| pz [] (show Zw c f=_ from Q4 h2 (rfl)) (λz=> .tup [(true, [.o 0 z.1.1.1,.o 1 z.1.1.2.1,.i z.1.1.2.2,.o 2 z.1.2.1,.o 3 z.1.2.2]),(false, [.i z.2.1]),(false, [.o 4 z.2.2.1]),(false, [.b z.2.2.2])])
 have h2r:((!(Xo c)))=false:=Pz h2;have h2rn:(Xo c)=true:=Za h2r;have h2rnc:=W9 h2rn;exact Qg <| sN Qb Zg [4,5,6,7,9,10,11,12] [4,11] (pc 6 (Lt c.2.1) (pc 7 (D5 c (((X6 c.1 f)).1) c.2.1 (Xv c.2.1)) p0)) <| tn Qb [4,5,6,7] [4] p0 <| Qe <| pz [] (show Zw c f=_ from Qi h2 (rfl)) (λz=> .tup [(true, [.o 0 z.1.1.1,.o 1 z.1.1.2.1,.i z.1.1.2.2,.o 2 z.1.2.1,.o 3 z.1.2.2]),(false, [.i z.2.1]),(false, [.o 4 z.2.2.1]),(false, [.b z.2.2.2])])
def Zo (c:X4) (f:Xe):X4×(List I5)×Bool:=(bif ((!(((Xr c.1 f)).2))|| (!(Xo c))) then ((Yj c), [],false) else ((((Yo c (((Xr c.1 f)).1) c.2.1 (Vn c.2.1 (((Qn c.1 f.1)).1) f))).1),((Yo c (((Xr c.1 f)).1) c.2.1 (Vn c.2.1 (((Qn c.1 f.1)).1) f))).2.1,((Yo c (((Xr c.1 f)).1) c.2.1 (Vn c.2.1 (((Qn c.1 f.1)).1) f))).2.2))
theorem WK (c:X4) (f:Xe):ACalls Tryz.prog 49 [.a [.h c.1.1,.h c.1.2.1,.i c.1.2.2,.h c.2.1,.h c.2.2],.a [.i f.1,.i f.2.1,.b f.2.2.1,.i f.2.2.2.1,.h f.2.2.2.2]] (.tup [(true, [.o 0 ((((Zo c f)).1).1.1),.o 1 ((((Zo c f)).1).1.2.1),.i ((((Zo c f)).1).1.2.2),.o 2 ((((Zo c f)).1).2.1),.o 3 ((((Zo c f)).1).2.2)]),(false, [.o 4 (((Zo c f)).2.1)]),(false, [.b (((Zo c f)).2.2)])]):=by
 refine en Qb Tryz.func49 λw0 F0 hG=> ?_
 refine sn Qb [2,3,4,5,6] [2,3,4] p0 <| tn Qb [2,3,4,5,6,7,8] [2,3,4,7] (pc 3 (KP c.1 f) p0) <| Qc <| Qc <| mz [(2,.p 2 0),(3,.p 3 0),(4,.p 4 0),(5,.e 0),(6,.b false),(7,.p 7 0),(8,.b (((Xr c.1 f)).2))] [0,1] [(2, [.h c.1.1,.h c.1.2.1,.i c.1.2.2,.h c.2.1,.h c.2.2]),(3, [.i f.1,.i f.2.1,.b f.2.2.1,.i f.2.2.2.1,.h f.2.2.2.2]),(4, [.e 2,.e 5,.i 0,.e 2,.e 2]),(7, [.o 960 ((((Xr c.1 f)).1).1),.o 961 ((((Xr c.1 f)).1).2.1),.i ((((Xr c.1 f)).1).2.2)])] [] <| jn [(24,.b ((!(((Xr c.1 f)).2))|| (!(Xo c))))] [8] [] [] (!(((Xr c.1 f)).2)) (λh1=> ?_) (λh1=> ?_) ?_
 ·have h1n:(((Xr c.1 f)).2)=false:=Vj h1;refine ru Qb [(24,.b true)] [8] [] [] (pf 0 h1n (pe 1 (show .b (!false)= .b true from rfl) p0)) ?_;exact zA (by rw[h1]<;>kernel_rfl)
 ·have h1n:(((Xr c.1 f)).2)=true:=Za h1;have h1nr:=DY h1n;have h1nf:=DX h1nr.1 f.1;refine rn Qb [2,3,4,5,6,7,24] [2,3,4,7] (pt 0 h1n (pe 1 (show .b (!true)= .b false from rfl) (pc 4 (Ce c) p0))) ?_;exact zA (by rw[h1]<;>kernel_rfl)
 refine ck ((!(((Xr c.1 f)).2))|| (!(Xo c))) (λh2=> ?_) (λh2=> ?_)
 ·refine sn Qb [2,3,4,5,6,7] [2,3,4,7] (pc 1 (K4 c) p0) <| opn [(false,5,0,true,384000,3)] ?_
  exact Qe <| pz [] (show Zo c f=_ from Q4 h2 (rfl)) (λz=> .tup [(true, [.o 0 z.1.1.1,.o 1 z.1.1.2.1,.i z.1.1.2.2,.o 2 z.1.2.1,.o 3 z.1.2.2]),(false, [.o 4 z.2.1]),(false, [.b z.2.2])])
 have h2l:((!(((Xr c.1 f)).2)))=false:=Re h2;have h2ln:(((Xr c.1 f)).2)=true:=Za h2l;have h2lnr:=DY h2ln;have h2lnf:=DX h2lnr.1 f.1;have h2r:((!(Xo c)))=false:=Pz h2;have h2rn:(Xo c)=true:=Za h2r;have h2rnc:=W9 h2rn;exact Qg <| sn Qb [2,3,4,5,6,7,9] [2,3,4,7,9] (pc 4 (Ly c.1 f.1) p0) <| tN Qb Zg [4,5,6] [4] (pc 8 (ZO c.2.1 (((Qn c.1 f.1)).1) f (by omega) (by omega)) (pc 9 (D5 c (((Xr c.1 f)).1) c.2.1 (Vn c.2.1 (((Qn c.1 f.1)).1) f)) p0)) <| Qe <| pz [] (show Zo c f=_ from Qi h2 (rfl)) (λz=> .tup [(true, [.o 0 z.1.1.1,.o 1 z.1.1.2.1,.i z.1.1.2.2,.o 2 z.1.2.1,.o 3 z.1.2.2]),(false, [.o 4 z.2.1]),(false, [.b z.2.2])])
def Ka (c:X4) (id:Int):X4×(List I5)×Bool:=(bif ((!(((Zb c.1 id)).2))|| (!(Xo c))) then ((Yj c), [],false) else ((((Yo c (((Zb c.1 id)).1) c.2.1 (Xv c.2.1))).1),((Yo c (((Zb c.1 id)).1) c.2.1 (Xv c.2.1))).2.1,((Yo c (((Zb c.1 id)).1) c.2.1 (Xv c.2.1))).2.2))
theorem WL (c:X4) (id:Int):ACalls Tryz.prog 50 [.a [.h c.1.1,.h c.1.2.1,.i c.1.2.2,.h c.2.1,.h c.2.2],.i id] (.tup [(true, [.o 0 ((((Ka c id)).1).1.1),.o 1 ((((Ka c id)).1).1.2.1),.i ((((Ka c id)).1).1.2.2),.o 2 ((((Ka c id)).1).2.1),.o 3 ((((Ka c id)).1).2.2)]),(false, [.o 4 (((Ka c id)).2.1)]),(false, [.b (((Ka c id)).2.2)])]):=by
 refine en Qb Tryz.func50 λw0 F0 hG=> ?_
 refine sn Qb [1,2,4,5,6] [2,4] p0 <| tn Qb [2,4,5,6,7,8] [2,4,7] (pc 3 (WG c.1 id) p0) <| Qc <| Qc <| mz [(2,.p 2 0),(4,.p 4 0),(5,.e 0),(6,.b false),(7,.p 7 0),(8,.b (((Zb c.1 id)).2))] [0,1] [(2, [.h c.1.1,.h c.1.2.1,.i c.1.2.2,.h c.2.1,.h c.2.2]),(4, [.e 2,.e 5,.i 0,.e 2,.e 2]),(7, [.h ((((Zb c.1 id)).1).1),.h ((((Zb c.1 id)).1).2.1),.i ((((Zb c.1 id)).1).2.2)])] [] <| jn [(22,.b ((!(((Zb c.1 id)).2))|| (!(Xo c))))] [8] [] [] (!(((Zb c.1 id)).2)) (λh1=> ?_) (λh1=> ?_) ?_
 ·have h1n:(((Zb c.1 id)).2)=false:=Vj h1;refine ru Qb [(22,.b true)] [8] [] [] (pf 0 h1n (pe 1 (show .b (!false)= .b true from rfl) p0)) ?_;exact zA (by rw[h1]<;>kernel_rfl)
 ·have h1n:(((Zb c.1 id)).2)=true:=Za h1;refine rn Qb [2,4,5,6,7,22] [2,4,7] (pt 0 h1n (pe 1 (show .b (!true)= .b false from rfl) (pc 4 (Ce c) p0))) ?_;exact zA (by rw[h1]<;>kernel_rfl)
 refine ck ((!(((Zb c.1 id)).2))|| (!(Xo c))) (λh2=> ?_) (λh2=> ?_)
 ·refine sn Qb [2,4,5,6,7] [2,4,7] (pc 1 (K4 c) p0) <| opn [(false,5,0,true,384000,3)] ?_
  exact Qe <| pz [] (show Ka c id=_ from Q4 h2 (rfl)) (λz=> .tup [(true, [.o 0 z.1.1.1,.o 1 z.1.1.2.1,.i z.1.1.2.2,.o 2 z.1.2.1,.o 3 z.1.2.2]),(false, [.o 4 z.2.1]),(false, [.b z.2.2])])
 have h2r:((!(Xo c)))=false:=Pz h2;have h2rn:(Xo c)=true:=Za h2r;have h2rnc:=W9 h2rn;exact Qg <| sN Qb Zg [4,5,6] [4] (pc 6 (Lt c.2.1) (pc 7 (D5 c (((Zb c.1 id)).1) c.2.1 (Xv c.2.1)) p0)) <| Qe <| pz [] (show Ka c id=_ from Qi h2 (rfl)) (λz=> .tup [(true, [.o 0 z.1.1.1,.o 1 z.1.1.2.1,.i z.1.1.2.2,.o 2 z.1.2.1,.o 3 z.1.2.2]),(false, [.o 4 z.2.1]),(false, [.b z.2.2])])
def Kv (c:X4) (x:X0):X4×(List I5)×Bool:=(bif ((!(((Y3 c.2.1 x)).2))|| ((!(Xo c))|| (!(Ky (((Y3 c.2.1 x)).1))))) then ((Yj c), [],false) else ((((Yo c c.1 (((Y3 c.2.1 x)).1) (Yg (((Y3 c.2.1 x)).1) [x.1]))).1),((Yo c c.1 (((Y3 c.2.1 x)).1) (Yg (((Y3 c.2.1 x)).1) [x.1]))).2.1,((Yo c c.1 (((Y3 c.2.1 x)).1) (Yg (((Y3 c.2.1 x)).1) [x.1]))).2.2))
theorem AQ (c:X4) (x:X0) (hp:zD c.2.1<1073741000):ACalls Tryz.prog 51 [.a [.h c.1.1,.h c.1.2.1,.i c.1.2.2,.h c.2.1,.h c.2.2],.a [.s x.1,.h x.2]] (.tup [(true, [.o 0 ((((Kv c x)).1).1.1),.o 1 ((((Kv c x)).1).1.2.1),.i ((((Kv c x)).1).1.2.2),.o 2 ((((Kv c x)).1).2.1),.o 3 ((((Kv c x)).1).2.2)]),(false, [.o 4 (((Kv c x)).2.1)]),(false, [.b (((Kv c x)).2.2)])]):=by
 refine en Qb Tryz.func51 λw0 F0 hG=> ?_
 refine sn Qb [2,3,4,5,6] [2,3,4] p0 <| tn Qb [2,3,4,5,6,7,8] [2,3,4] (pc 3 (LW c.2.1 x (by first|omega|(simp;omega))) p0) <| Qc <| Qc <| mz [(2,.p 2 0),(3,.p 3 0),(4,.p 4 0),(5,.e 0),(6,.b false),(7,.h (((Y3 c.2.1 x)).1)),(8,.b (((Y3 c.2.1 x)).2))] [0,1] [(2, [.h c.1.1,.h c.1.2.1,.i c.1.2.2,.h c.2.1,.h c.2.2]),(3, [.s x.1,.h x.2]),(4, [.e 2,.e 5,.i 0,.e 2,.e 2])] [] <| jn [(27,.b ((!(((Y3 c.2.1 x)).2))|| ((!(Xo c))|| (!(Ky (((Y3 c.2.1 x)).1))))))] [8] [] [] (!(((Y3 c.2.1 x)).2)) (λh1=> ?_) (λh1=> ?_) ?_
 ·have h1n:(((Y3 c.2.1 x)).2)=false:=Vj h1;refine ru Qb [(27,.b true)] [8] [] [] (pf 0 h1n (pe 1 (show .b (!false)= .b true from rfl) p0)) ?_;exact zA (by rw[h1]<;>kernel_rfl)
 ·have h1n:(((Y3 c.2.1 x)).2)=true:=Za h1;refine Xu (!(Xo c)) (λh2=> ?_) (λh2=> ?_)
  ·have h2n:(Xo c)=false:=Vj h2;refine ru Qb [(27,.b true)] [8] [] [] (pt 0 h1n (pe 1 (show .b (!true)= .b false from rfl) (pc 4 (cb h2n (Ce c)) (pe 5 (show .b (!false)= .b true from rfl) p0)))) ?_;exact zA (by rw[h1,h2]<;>kernel_rfl)
  have h2n:(Xo c)=true:=Za h2;have h2nc:=W9 h2n;refine rn Qb [2,3,4,5,6,7,27] [2,3,4] (pt 0 h1n (pe 1 (show .b (!true)= .b false from rfl) (pc 4 (cb h2n (Ce c)) (pe 5 (show .b (!true)= .b false from rfl) (pc 9 (ZK (((Y3 c.2.1 x)).1)) p0))))) ?_;exact zA (by rw[h1,h2]<;>kernel_rfl)
 refine ck ((!(((Y3 c.2.1 x)).2))|| ((!(Xo c))|| (!(Ky (((Y3 c.2.1 x)).1))))) (λh3=> ?_) (λh3=> ?_)
 ·refine sn Qb [2,3,4,5,6,7] [2,3,4] (pc 1 (K4 c) p0) <| opn [(false,5,0,true,384000,3)] ?_
  exact Qe <| pz [] (show Kv c x=_ from Q4 h3 (rfl)) (λz=> .tup [(true, [.o 0 z.1.1.1,.o 1 z.1.1.2.1,.i z.1.1.2.2,.o 2 z.1.2.1,.o 3 z.1.2.2]),(false, [.o 4 z.2.1]),(false, [.b z.2.2])])
 have h3r:(((!(Xo c))|| (!(Ky (((Y3 c.2.1 x)).1)))))=false:=Pz h3;have h3rl:((!(Xo c)))=false:=Re h3r;have h3rln:(Xo c)=true:=Za h3rl;have h3rlnc:=W9 h3rln;have h3rr:((!(Ky (((Y3 c.2.1 x)).1))))=false:=Pz h3r;have h3rrn:(Ky (((Y3 c.2.1 x)).1))=true:=Za h3rr;have h3rrnc:=LV h3rrn;exact Qg <| sN Qb Zg [4,5,6] [4] (pc 8 (A9 (((Y3 c.2.1 x)).1) [x.1] (by first|omega|(simp;omega))) (pc 9 (D5 c c.1 (((Y3 c.2.1 x)).1) (Yg (((Y3 c.2.1 x)).1) [x.1])) p0)) <| Qe <| pz [] (show Kv c x=_ from Qi h3 (rfl)) (λz=> .tup [(true, [.o 0 z.1.1.1,.o 1 z.1.1.2.1,.i z.1.1.2.2,.o 2 z.1.2.1,.o 3 z.1.2.2]),(false, [.o 4 z.2.1]),(false, [.b z.2.2])])
def Wn (f:Xe) (user:Int):Bool:=((Je user)&&(f.2.1==user))
theorem O7 (f:Xe) (user:Int):ACalls Tryz.prog 48 [.a [.i f.1,.i f.2.1,.b f.2.2.1,.i f.2.2.2.1,.h f.2.2.2.2],.i user] (.b (Wn f user)):=by
 refine en Qb Tryz.func48 λw0 F0 hG=> ?_
 refine sn Qb [1,2,4] [2] p0 <| Qc <| mz [(2,.p 2 0),(4,.b false)] [0] [(2, [.i f.1,.i f.2.1,.b f.2.2.1,.i f.2.2.2.1,.h f.2.2.2.2])] [] <| jn [(4,.b ((Je user)&&(f.2.1==user)))] [1,2,4] [] [2] (Je user) (λh1=> ?_) (λh1=> ?_) ?_
 ·refine rn Qb [4] [] (pc 1 (cb h1 (Hh user)) p0) ?_;exact zA (by rw[h1]<;>kernel_rfl)
 ·refine rn Qb [4] [] (pc 1 (cb h1 (Hh user)) p0) ?_;exact zA (by rw[h1]<;>kernel_rfl)
 exact Qe <| pb [] (show Wn f user=((Je user)&&(f.2.1==user)) from rfl)
def Q0 (c:X4) (user:Int) (x:E3):X4×(List I5)×Bool:=(bif ((!(Je user))|| (!(Xo c))) then ((Yj c), [],false) else (bif (x.1==(1:Int)) then (bif (x.2.1.2.1==user) then ((((Zw c x.2.1)).1),((Zw c x.2.1)).2.2.1,((Zw c x.2.1)).2.2.2) else ((Yj c), [],false)) else (bif (x.1==(2:Int)) then (bif (((Qn c.1 x.2.1.1)).2&&((Wn (((Qn c.1 x.2.1.1)).1) user)&&(x.2.1.2.1==user))) then ((((Zo c x.2.1)).1),((Zo c x.2.1)).2.1,((Zo c x.2.1)).2.2) else ((Yj c), [],false)) else (bif (x.1==(3:Int)) then (bif (((Qn c.1 x.2.2.1)).2&&(Wn (((Qn c.1 x.2.2.1)).1) user)) then ((((Ka c x.2.2.1)).1),((Ka c x.2.2.1)).2.1,((Ka c x.2.2.1)).2.2) else ((Yj c), [],false)) else (bif (x.1==(4:Int)) then ((((Kv c x.2.2.2)).1),((Kv c x.2.2.2)).2.1,((Kv c x.2.2.2)).2.2) else (bif (x.1==(5:Int)) then (bif ((Z9 c.2.1 x.2.2.2.1)).2 then ((((Yo c c.1 (((Z9 c.2.1 x.2.2.2.1)).1) (Yg c.2.1 [x.2.2.2.1]))).1),((Yo c c.1 (((Z9 c.2.1 x.2.2.2.1)).1) (Yg c.2.1 [x.2.2.2.1]))).2.1,((Yo c c.1 (((Z9 c.2.1 x.2.2.2.1)).1) (Yg c.2.1 [x.2.2.2.1]))).2.2) else ((Yj c), [],false)) else ((Yj c), [],false)))))))
theorem KS (c:X4) (user:Int) (x:E3):ACalls Tryz.prog 15 [.a [.h c.1.1,.h c.1.2.1,.i c.1.2.2,.h c.2.1,.h c.2.2],.i user,.a [.i x.1,.i x.2.1.1,.i x.2.1.2.1,.b x.2.1.2.2.1,.i x.2.1.2.2.2.1,.h x.2.1.2.2.2.2,.i x.2.2.1,.s x.2.2.2.1,.h x.2.2.2.2]] (.tup [(true, [.o 0 ((((Q0 c user x)).1).1.1),.o 1 ((((Q0 c user x)).1).1.2.1),.i ((((Q0 c user x)).1).1.2.2),.o 2 ((((Q0 c user x)).1).2.1),.o 3 ((((Q0 c user x)).1).2.2)]),(false, [.o 4 (((Q0 c user x)).2.1)]),(false, [.b (((Q0 c user x)).2.2)])]):=by
 refine en Qb Tryz.func15 λw0 F0 hG=> ?_
 refine sn Qb [1,3,5,6,7,8] [3,5,6] p0 <| Qc <| Qc <| mz [(3,.p 3 0),(5,.p 5 0),(6,.p 6 0),(7,.e 0),(8,.b false)] [0,2] [(3, [.h c.1.1,.h c.1.2.1,.i c.1.2.2,.h c.2.1,.h c.2.2]),(5, [.i x.1,.i x.2.1.1,.i x.2.1.2.1,.b x.2.1.2.2.1,.i x.2.1.2.2.2.1,.h x.2.1.2.2.2.2,.i x.2.2.1,.s x.2.2.2.1,.h x.2.2.2.2]),(6, [.e 2,.e 5,.i 0,.e 2,.e 2])] [] <| jn [(26,.b ((!(Je user))|| (!(Xo c))))] [] [] [] (!(Je user)) (λh1=> ?_) (λh1=> ?_) ?_
 ·have h1n:(Je user)=false:=Vj h1;refine ru Qb [(26,.b true)] [] [] [] (pc 1 (cb h1n (Hh user)) (pe 2 (show .b (!false)= .b true from rfl) p0)) ?_;exact zA (by rw[h1]<;>kernel_rfl)
 ·have h1n:(Je user)=true:=Za h1;refine rn Qb [1,3,5,6,7,8,26] [3,5,6] (pc 1 (cb h1n (Hh user)) (pe 2 (show .b (!true)= .b false from rfl) (pc 5 (Ce c) p0))) ?_;exact zA (by rw[h1]<;>kernel_rfl)
 refine ck ((!(Je user))|| (!(Xo c))) (λh2=> ?_) (λh2=> ?_)
 ·refine sn Qb [1,3,5,6,7,8] [3,5,6] (pc 1 (K4 c) p0) <| opn [(false,7,0,true,384000,3)] ?_
  exact Qe <| pz [] (show Q0 c user x=_ from Q4 h2 (rfl)) (λz=> .tup [(true, [.o 0 z.1.1.1,.o 1 z.1.1.2.1,.i z.1.1.2.2,.o 2 z.1.2.1,.o 3 z.1.2.2]),(false, [.o 4 z.2.1]),(false, [.b z.2.2])])
 have h2r:((!(Xo c)))=false:=Pz h2;have h2rn:(Xo c)=true:=Za h2r;have h2rnc:=W9 h2rn;refine Qg <| Qc <| su Qb [(30,.i x.1)] [26] [] [] p0 <| Qv <| sn Qb [1,3,5,6,7,8,30,31] [3,5,6] p0 <| ck (x.1==(1:Int)) (λh3=> ?_) (λh3=> ?_)
 ·refine tn Qb [3,5,6,7,8,37] [3,5,6] p0 <| ck (x.2.1.2.1==user) (λh4=> ?_) (λh4=> ?_)
  ·exact tu Qb [(9,.p 9 0),(11,.o 2692 (((Zw c x.2.1)).2.2.1)),(12,.b (((Zw c x.2.1)).2.2.2))] [1,5,30] [(9, [.o 2688 ((((Zw c x.2.1)).1).1.1),.o 2689 ((((Zw c x.2.1)).1).1.2.1),.i ((((Zw c x.2.1)).1).1.2.2),.o 2690 ((((Zw c x.2.1)).1).2.1),.o 2691 ((((Zw c x.2.1)).1).2.2)])] [5] (pc 3 (FV c x.2.1) p0) <| sn Qb [3,6,7,8] [3,6] p0 <| Qe <| pz [] (show Q0 c user x=_ from Qi h2 (Q4 h3 (Q4 h4 (rfl)))) (λz=> .tup [(true, [.o 0 z.1.1.1,.o 1 z.1.1.2.1,.i z.1.1.2.2,.o 2 z.1.2.1,.o 3 z.1.2.2]),(false, [.o 4 z.2.1]),(false, [.b z.2.2])])
  refine Qg <| tu Qb [] [1,3,5,30] [(6, [.o 9024 ((Yj c).1.1),.o 9025 ((Yj c).1.2.1),.i ((Yj c).1.2.2),.o 9026 ((Yj c).2.1),.o 9027 ((Yj c).2.2)])] [3,5,6] (pc 1 (K4 c) p0) <| opn [(false,7,0,true,384000,3)] ?_
  exact Qe <| pz [] (show Q0 c user x=_ from Qi h2 (Q4 h3 (Qi h4 (rfl)))) (λz=> .tup [(true, [.o 0 z.1.1.1,.o 1 z.1.1.2.1,.i z.1.1.2.2,.o 2 z.1.2.1,.o 3 z.1.2.2]),(false, [.o 4 z.2.1]),(false, [.b z.2.2])])
 have h3d:=Y4 h3;refine tn Qb [1,3,5,6,7,8,30,50] [3,5,6] p0 <| ck (x.1==(2:Int)) (λh5=> ?_) (λh5=> ?_)
 ·refine tu Qb [(13,.p 13 0),(14,.b (((Qn c.1 x.2.1.1)).2))] [30] [(13, [.i ((((Qn c.1 x.2.1.1)).1).1),.i ((((Qn c.1 x.2.1.1)).1).2.1),.b ((((Qn c.1 x.2.1.1)).1).2.2.1),.i ((((Qn c.1 x.2.1.1)).1).2.2.2.1),.o 3712 ((((Qn c.1 x.2.1.1)).1).2.2.2.2)])] [] (pc 5 (Ly c.1 x.2.1.1) p0) <| Qc <| jn [(73,.b (((Qn c.1 x.2.1.1)).2&&((Wn (((Qn c.1 x.2.1.1)).1) user)&&(x.2.1.2.1==user))))] [1,13,14] [] [13] (((Qn c.1 x.2.1.1)).2) (λh6=> ?_) (λh6=> ?_) ?_
  ·refine Xu (Wn (((Qn c.1 x.2.1.1)).1) user) (λh7=> ?_) (λh7=> ?_)
   ·refine rn Qb [3,5,6,7,8,73] [3,5,6] (pt 0 h6 (pc 4 (cb h7 (O7 (((Qn c.1 x.2.1.1)).1) user)) p0)) ?_;exact zA (by rw[h6,h7]<;>kernel_rfl)
   refine rn Qb [3,5,6,7,8,73] [3,5,6] (pt 0 h6 (pc 4 (cb h7 (O7 (((Qn c.1 x.2.1.1)).1) user)) p0)) ?_;exact zA (by rw[h6,h7]<;>kernel_rfl)
  ·refine rn Qb [3,5,6,7,8,73] [3,5,6] (pf 0 h6 p0) ?_;exact zA (by rw[h6]<;>kernel_rfl)
  refine ck (((Qn c.1 x.2.1.1)).2&&((Wn (((Qn c.1 x.2.1.1)).1) user)&&(x.2.1.2.1==user))) (λh8=> ?_) (λh8=> ?_)
  ·exact sn Qb [3,6,7,8] [3,6] (pc 3 (WK c x.2.1) p0) <| Qe <| pz [] (show Q0 c user x=_ from Qi h2 (Qi h3 (Q4 h5 (Q4 h8 (rfl))))) (λz=> .tup [(true, [.o 0 z.1.1.1,.o 1 z.1.1.2.1,.i z.1.1.2.2,.o 2 z.1.2.1,.o 3 z.1.2.2]),(false, [.o 4 z.2.1]),(false, [.b z.2.2])])
  refine Qg <| sn Qb [6,7,8] [6] (pc 1 (K4 c) p0) <| opn [(false,7,0,true,384000,3)] ?_
  exact Qe <| pz [] (show Q0 c user x=_ from Qi h2 (Qi h3 (Q4 h5 (Qi h8 (rfl))))) (λz=> .tup [(true, [.o 0 z.1.1.1,.o 1 z.1.1.2.1,.i z.1.1.2.2,.o 2 z.1.2.1,.o 3 z.1.2.2]),(false, [.o 4 z.2.1]),(false, [.b z.2.2])])
 have h5d:=Y4 h5;refine tu Qb [(81,.b (x.1==(3:Int)))] [] [] [] p0 <| ck (x.1==(3:Int)) (λh9=> ?_) (λh9=> ?_)
 ·refine sn Qb [1,3,5,6,7,8,15,16] [3,5,6,15] (pc 4 (Ly c.1 x.2.2.1) p0) <| Qc <| mz [(15,.p 15 0),(16,.b (((Qn c.1 x.2.2.1)).2))] [30,81] [(15, [.i ((((Qn c.1 x.2.2.1)).1).1),.i ((((Qn c.1 x.2.2.1)).1).2.1),.b ((((Qn c.1 x.2.2.1)).1).2.2.1),.i ((((Qn c.1 x.2.2.1)).1).2.2.2.1),.o 5632 ((((Qn c.1 x.2.2.1)).1).2.2.2.2)])] [] <| jn [(96,.b (((Qn c.1 x.2.2.1)).2&&(Wn (((Qn c.1 x.2.2.1)).1) user)))] [1,15,16] [] [15] (((Qn c.1 x.2.2.1)).2) (λh10=> ?_) (λh10=> ?_) ?_
  ·refine rn Qb [3,5,6,7,8,96] [3,5,6] (pt 0 h10 (pc 4 (O7 (((Qn c.1 x.2.2.1)).1) user) p0)) ?_;exact zA (by rw[h10]<;>kernel_rfl)
  ·refine rn Qb [3,5,6,7,8,96] [3,5,6] (pf 0 h10 p0) ?_;exact zA (by rw[h10]<;>kernel_rfl)
  refine ck (((Qn c.1 x.2.2.1)).2&&(Wn (((Qn c.1 x.2.2.1)).1) user)) (λh11=> ?_) (λh11=> ?_)
  ·exact sn Qb [3,6,7,8] [3,6] (pc 3 (WL c x.2.2.1) p0) <| Qe <| pz [] (show Q0 c user x=_ from Qi h2 (Qi h3 (Qi h5 (Q4 h9 (Q4 h11 (rfl)))))) (λz=> .tup [(true, [.o 0 z.1.1.1,.o 1 z.1.1.2.1,.i z.1.1.2.2,.o 2 z.1.2.1,.o 3 z.1.2.2]),(false, [.o 4 z.2.1]),(false, [.b z.2.2])])
  refine Qg <| sn Qb [6,7,8] [6] (pc 1 (K4 c) p0) <| opn [(false,7,0,true,384000,3)] ?_
  exact Qe <| pz [] (show Q0 c user x=_ from Qi h2 (Qi h3 (Qi h5 (Q4 h9 (Qi h11 (rfl)))))) (λz=> .tup [(true, [.o 0 z.1.1.1,.o 1 z.1.1.2.1,.i z.1.1.2.2,.o 2 z.1.2.1,.o 3 z.1.2.2]),(false, [.o 4 z.2.1]),(false, [.b z.2.2])])
 have h9d:=Y4 h9;refine sn Qb [3,5,6,7,8,30,104] [3,5,6] p0 <| ck (x.1==(4:Int)) (λh12=> ?_) (λh12=> ?_)
 ·have h12d:=eq_of_beq h12;exact tn Qb [3,6,7,8] [3,6] (pc 3 (AQ c x.2.2.2 (by first|omega|(simp;omega))) p0) <| Qe <| pz [] (show Q0 c user x=_ from Qi h2 (Qi h3 (Qi h5 (Qi h9 (Q4 h12 (rfl)))))) (λz=> .tup [(true, [.o 0 z.1.1.1,.o 1 z.1.1.2.1,.i z.1.1.2.2,.o 2 z.1.2.1,.o 3 z.1.2.2]),(false, [.o 4 z.2.1]),(false, [.b z.2.2])])
 have h12d:=Y4 h12;refine tn Qb [3,5,6,7,8,113] [3,5,6] p0 <| ck (x.1==(5:Int)) (λh13=> ?_) (λh13=> ?_)
 ·have h13d:=eq_of_beq h13;refine tu Qb [(17,.h (((Z9 c.2.1 x.2.2.2.1)).1)),(18,.b (((Z9 c.2.1 x.2.2.2.1)).2))] [1,30,81] [] [] (pc 5 (AO c.2.1 x.2.2.2.1) p0) <| sn Qb [3,5,6,7,8,17,124] [3,5,6] p0 <| ck (((Z9 c.2.1 x.2.2.2.1)).2) (λh14=> ?_) (λh14=> ?_)
  ·exact tN Qb Zg [3,6,7,8] [3,6] (pc 10 (A9 c.2.1 [x.2.2.2.1] (by first|omega|(simp;omega))) (pc 11 (D5 c c.1 (((Z9 c.2.1 x.2.2.2.1)).1) (Yg c.2.1 [x.2.2.2.1])) p0)) <| Qe <| pz [] (show Q0 c user x=_ from Qi h2 (Qi h3 (Qi h5 (Qi h9 (Qi h12 (Q4 h13 (Q4 h14 (rfl)))))))) (λz=> .tup [(true, [.o 0 z.1.1.1,.o 1 z.1.1.2.1,.i z.1.1.2.2,.o 2 z.1.2.1,.o 3 z.1.2.2]),(false, [.o 4 z.2.1]),(false, [.b z.2.2])])
  refine Qg <| tn Qb [6,7,8] [6] (pc 1 (K4 c) p0) <| opn [(false,7,0,true,384000,3)] ?_
  exact Qe <| pz [] (show Q0 c user x=_ from Qi h2 (Qi h3 (Qi h5 (Qi h9 (Qi h12 (Q4 h13 (Qi h14 (rfl)))))))) (λz=> .tup [(true, [.o 0 z.1.1.1,.o 1 z.1.1.2.1,.i z.1.1.2.2,.o 2 z.1.2.1,.o 3 z.1.2.2]),(false, [.o 4 z.2.1]),(false, [.b z.2.2])])
 refine Qg <| tu Qb [] [1,3,5,30,81] [(6, [.o 9024 ((Yj c).1.1),.o 9025 ((Yj c).1.2.1),.i ((Yj c).1.2.2),.o 9026 ((Yj c).2.1),.o 9027 ((Yj c).2.2)])] [3,5,6] (pc 1 (K4 c) p0) <| opn [(false,7,0,true,384000,3)] ?_
 exact Qe <| pz [] (show Q0 c user x=_ from Qi h2 (Qi h3 (Qi h5 (Qi h9 (Qi h12 (Qi h13 (rfl))))))) (λz=> .tup [(true, [.o 0 z.1.1.1,.o 1 z.1.1.2.1,.i z.1.1.2.2,.o 2 z.1.2.1,.o 3 z.1.2.2]),(false, [.o 4 z.2.1]),(false, [.b z.2.2])])
open GoE (enc wide)
def Fh (_:Nat) (a0:Xe) (s0:List Xe):Rd (Qz) (List Xe) (List Xe):=(.next (s0++ [(Qu a0)]))
def Fi (_:Nat) (s0:List Xe):(List Xe):=s0
def Qh (s_:Qz):Qz:=(Out.on (Xz Fh Fi s_.2.1 0 []) (λy0=>(s_.1,y0,s_.2.2)))
theorem Io (s_:Qz):ACalls Tryz.prog 61 [.a [.h s_.1,.h s_.2.1,.i s_.2.2]] (.a [.o 0 ((Qh s_).1),.o 1 ((Qh s_).2.1),.i ((Qh s_).2.2)]):=by
 refine en Qb Tryz.func61 λw0 F0 hG=> ?_
 refine sn Qb [1,2] [1,2] p0 <| wB 1 0 .sh s_.1 (λhw1 hl2=> ?_)
 refine tN Qb Zg [1,2,3] [1,2,3] (po 3 (.flat) (px (Ey (n:=(([]:List (List PV)).length+((eL s_.1):List (List PV)).length)) (G0 (rfl) (Zu s_.1) (by first|omega|(simp only[zM,yD];omega) | (simp;omega) | simp))) (px (Cp (B8 s_.1)) p0))) <| Qc <| tu Qb [(1,.p 1 0),(2,.p 2 0),(3,.p 3 0),(4,.i 0)] [0] [(1, [.h s_.1,.h s_.2.1,.i s_.2.2]),(2, [.e 2,.e 5,.i 0]),(3, [.o 512 s_.1,.e 5,.i s_.2.2])] [] p0 <| wB 1 1 .sh s_.2.1 (λhw3 hl4=> ?_)
 refine YP Fh Fi s_.2.1 [] (λk0 _=> [(4,.i (k0:Int))]) [4] (λ_ s0=> [(3, [.o 512 s_.1,.o 147211 s0,.i s_.2.2])]) [3] (λ_=> []) [1,4] (λy0=> [(3, [.o 512 s_.1,.o 147361 y0,.i s_.2.2])]) [1,3] (λk0 s0=>zD s0<=k0) (Ao [(true,3,1,true,320008,5)] [] [] [(320008,147211)] (by kernel_rfl)) (by simp) (λk0 s0 hk0 U=> ?_) (λk0 s0 hk0 U=> ?_) (λy0 hD0=> ?_)
 ·have hA0_0:=U.2;obtain ⟨a0,hx0⟩:=Xm (l:=s_.2.1) (i:=k0) hk0;refine Qc <| su Qb [(16,.b true)] [] [] [] (pl 3 s_.2.1 (pe 4 (zB ((k0:Int)<(s_.2.1.length:Int))) p0)) <| ckT <| Qg <| Qc <| Qv <| wB 3 1 (.own true 147211) s0 (λhw5 hl6=> ?_)
  refine rU Qb Zg [] [16] [(3, [.o 512 s_.1,.slc (.own true 1792) 5 ((eL s0)++ [[.i ((Qu a0).1),.i ((Qu a0).2.1),.b ((Qu a0).2.2.1),.i ((Qu a0).2.2.2.1),.h ((Qu a0).2.2.2.2)]]),.i s_.2.2])] [3] (pn 5 hx0 (pc 7 (Ih a0) (pa s0 [(Qu a0)] p0))) ?_;refine eqn [] [] [(3, [.o 512 s_.1,.o 1792 (s0++ [(Qu a0)]),.i s_.2.2])] [3] (by rw[show ((eL s0)++ [[.i ((Qu a0).1),.i ((Qu a0).2.1),.b ((Qu a0).2.2.1),.i ((Qu a0).2.2.2.1),.h ((Qu a0).2.2.2.2)]])=(eL (s0++ [(Qu a0)])) from Ju (rfl) (rfl)];first | done | kernel_rfl) ?_;refine rn Qb [1,2,3,4] [1,2,3] (pe 1 (Jl (Qo k0 (by omega))) p0) ?_;exact zE (s0++ [(Qu a0)]) (zH (Xg [(1792,147211)] (by kernel_rfl)) ⟨Qt hx0 (rfl) U.1,by first|omega|(simp;omega) | simp⟩)
 ·have hA0_0:=U.2;exact Qc <| su Qb [(16,.b false)] [] [] [] (pl 3 s_.2.1 (pe 4 (zC ((k0:Int)<(s_.2.1.length:Int))) p0)) <| ckF <| Q3 <| zE _ (zH (Xg [(147211,147361)] (by kernel_rfl)) (Xn hk0 (rfl) U.1))
 exact sn Qb [2] [2] p0 <| Qe <| pz [] (show Qh s_=_ from Wk hD0 (rfl)) (λz=> .a [.o 0 z.1,.o 1 z.2.1,.i z.2.2])
def Xx (s_:Qz) (f:Xe):Qz×Int×Bool:=(bif ((!(Xc (Qh s_)))|| (decide ((((Qh s_).2.1).length:Int)>=(12:Int))|| (!(Yd ((Qh s_).1) ((Qh s_).2.2,(Qu f).2.1,(Qu f).2.2.1,(Qu f).2.2.2.1,(Qu f).2.2.2.2))))) then ((Qh s_),0,false) else (((Qh s_).1,(Qh s_).2.1++ [((Qh s_).2.2,(Qu f).2.1,(Qu f).2.2.1,(Qu f).2.2.2.1,(Qu f).2.2.2.2)],IntKind.i64.wrap ((Qh s_).2.2+1)),(Qh s_).2.2,true))
theorem Mp (s_:Qz) (f:Xe):ACalls Tryz.prog 66 [.a [.h s_.1,.h s_.2.1,.i s_.2.2],.a [.i f.1,.i f.2.1,.b f.2.2.1,.i f.2.2.2.1,.h f.2.2.2.2]] (.tup [(true, [.o 0 ((((Xx s_ f)).1).1),.o 1 ((((Xx s_ f)).1).2.1),.i ((((Xx s_ f)).1).2.2)]),(false, [.i (((Xx s_ f)).2.1)]),(false, [.b (((Xx s_ f)).2.2)])]):=by
 refine en Qb Tryz.func66 λw0 F0 hG=> ?_
 refine sn Qb [2,3,4,5,6] [2,3,4] p0 <| tn Qb [2,3,4,5,6] [2,3,4] (pc 1 (Io s_) p0) <| tu Qb [(2,.p 2 0),(3,.p 3 0),(4,.p 4 0),(5,.i 0),(6,.b false)] [0,1] [(2, [.o 512 ((Qh s_).1),.o 513 ((Qh s_).2.1),.i ((Qh s_).2.2)]),(3, [.i ((Qu f).1),.i ((Qu f).2.1),.b ((Qu f).2.2.1),.i ((Qu f).2.2.2.1),.o 640 ((Qu f).2.2.2.2)]),(4, [.e 2,.e 5,.i 0])] [] (pc 1 (Ih f) p0) <| sn Qb [2,3,4,5,6] [2,3,4] p0 <| Qc <| Qc <| mz [] [] [(3, [.i ((Qh s_).2.2),.i ((Qu f).2.1),.b ((Qu f).2.2.1),.i ((Qu f).2.2.2.1),.o 640 ((Qu f).2.2.2.2)])] [3] <| jn [(29,.b ((!(Xc (Qh s_)))|| (decide ((((Qh s_).2.1).length:Int)>=(12:Int))|| (!(Yd ((Qh s_).1) ((Qh s_).2.2,(Qu f).2.1,(Qu f).2.2.1,(Qu f).2.2.2.1,(Qu f).2.2.2.2))))))] [] [] [] (!(Xc (Qh s_))) (λh1=> ?_) (λh1=> ?_) ?_
 ·have h1n:(Xc (Qh s_))=false:=Vj h1;refine ru Qb [(29,.b true)] [] [] [] (pc 1 (cb h1n (Kl (Qh s_))) (pe 2 (show .b (!false)= .b true from rfl) p0)) ?_;exact zA (by rw[h1]<;>kernel_rfl)
 ·have h1n:(Xc (Qh s_))=true:=Za h1;refine Xu (decide ((((Qh s_).2.1).length:Int)>=(12:Int))) (λh2=> ?_) (λh2=> ?_)
  ·refine ru Qb [(29,.b true)] [] [] [] (pc 1 (cb h1n (Kl (Qh s_))) (pe 2 (show .b (!true)= .b false from rfl) (pl 6 ((Qh s_).2.1) (pt 7 h2 p0)))) ?_;exact zA (by rw[h1,h2]<;>kernel_rfl)
  refine rn Qb [2,3,4,5,6,29] [2,3,4] (pc 1 (cb h1n (Kl (Qh s_))) (pe 2 (show .b (!true)= .b false from rfl) (pl 6 ((Qh s_).2.1) (pf 7 h2 (pc 13 (Ag ((Qh s_).1) ((Qh s_).2.2,(Qu f).2.1,(Qu f).2.2.1,(Qu f).2.2.2.1,(Qu f).2.2.2.2)) p0))))) ?_;exact zA (by rw[h1,h2]<;>kernel_rfl)
 refine ck ((!(Xc (Qh s_)))|| (decide ((((Qh s_).2.1).length:Int)>=(12:Int))|| (!(Yd ((Qh s_).1) ((Qh s_).2.2,(Qu f).2.1,(Qu f).2.2.1,(Qu f).2.2.2.1,(Qu f).2.2.2.2))))) (λh3=> ?_) (λh3=> ?_)
 ·exact sn Qb [2,3,4,5,6] [2,3,4] p0 <| Qe <| pz [] (show Xx s_ f=_ from Q4 h3 (rfl)) (λz=> .tup [(true, [.o 0 z.1.1,.o 1 z.1.2.1,.i z.1.2.2]),(false, [.i z.2.1]),(false, [.b z.2.2])])
 have h3r:((decide ((((Qh s_).2.1).length:Int)>=(12:Int))|| (!(Yd ((Qh s_).1) ((Qh s_).2.2,(Qu f).2.1,(Qu f).2.2.1,(Qu f).2.2.2.1,(Qu f).2.2.2.2)))))=false:=Pz h3;have h3rl:(decide ((((Qh s_).2.1).length:Int)>=(12:Int)))=false:=Re h3r;have h3rld:=of_decide_eq_false h3rl;refine Qg <| wB 2 1 (.own true 513) ((Qh s_).2.1) (λhw4 hl5=> ?_)
 refine su Qb [] [29] [(2, [.o 512 ((Qh s_).1),.slc (.own true 2240) 5 ((eL ((Qh s_).2.1))++ [[.i ((Qh s_).2.2),.i ((Qu f).2.1),.b ((Qu f).2.2.1),.i ((Qu f).2.2.2.1),.h ((Qu f).2.2.2.2)]]),.i ((Qh s_).2.2)]),(3, [.i ((Qh s_).2.2),.i ((Qu f).2.1),.b ((Qu f).2.2.1),.i ((Qu f).2.2.2.1),.dead])] [2,3] (pa ((Qh s_).2.1) [((Qh s_).2.2,(Qu f).2.1,(Qu f).2.2.1,(Qu f).2.2.2.1,(Qu f).2.2.2.2)] p0) <| eqn [] [] [(2, [.o 512 ((Qh s_).1),.o 2240 ((Qh s_).2.1++ [((Qh s_).2.2,(Qu f).2.1,(Qu f).2.2.1,(Qu f).2.2.2.1,(Qu f).2.2.2.2)]),.i ((Qh s_).2.2)])] [2] (by rw[show ((eL ((Qh s_).2.1))++ [[.i ((Qh s_).2.2),.i ((Qu f).2.1),.b ((Qu f).2.2.1),.i ((Qu f).2.2.2.1),.h ((Qu f).2.2.2.2)]])=(eL ((Qh s_).2.1++ [((Qh s_).2.2,(Qu f).2.1,(Qu f).2.2.1,(Qu f).2.2.2.1,(Qu f).2.2.2.2)])) from Ju (rfl) (rfl)];first | done | kernel_rfl) ?_
 exact sn Qb [2,3,4,5,6] [2,3,4] p0 <| tN Qb Zg [4,5,6] [4] p0 <| Qe <| pz [] (show Xx s_ f=_ from Qi h3 (rfl)) (λz=> .tup [(true, [.o 0 z.1.1,.o 1 z.1.2.1,.i z.1.2.2]),(false, [.i z.2.1]),(false, [.b z.2.2])])
def K9 (s_:List Jf):Qz:=(s_, [],1)
theorem CB (s_:List Jf):ACalls Tryz.prog 133 [.h s_] (.a [.o 0 ((K9 s_).1),.o 1 ((K9 s_).2.1),.i ((K9 s_).2.2)]):=by
 refine en Qb Tryz.func133 λw0 F0 hG=> ?_
 refine sn Qb [0,2] [2] p0 <| wT 0 0 .sh s_ (λhw1 hl2=> ?_)
 refine tn Qb [2] [2] (po 2 (.flat) (px (Ey (n:=(([]:List (List PV)).length+((eL s_):List (List PV)).length)) (G0 (rfl) (Zu s_) (by first|omega|(simp only[zM,yD];omega) | (simp;omega) | simp))) (px (Cp (B8 s_)) p0))) <| opn [(true,2,1,true,384000,5)] ?_
 exact Qe <| pz [] (show K9 s_=(s_, [],1) from rfl) (λz=> .a [.o 0 z.1,.o 1 z.2.1,.i z.2.2])
def Yz (s_:Qz) (id:Int):Qz×Bool:=(bif ((!(Xc (Qh s_)))|| decide ((Xd (Qh s_) id)<(0:Int))) then ((Qh s_),false) else (((Qh s_).1,zT (Xd (Qh s_) id).toNat ((Qh s_).2.1)++(yH ((Xd (Qh s_) id)+1).toNat ((Qh s_).2.1)),(Qh s_).2.2),true))
theorem R4 (s_:Qz) (id:Int):ACalls Tryz.prog 71 [.a [.h s_.1,.h s_.2.1,.i s_.2.2],.i id] (.tup [(true, [.o 0 ((((Yz s_ id)).1).1),.q 1 ((((Yz s_ id)).1).2.1),.i ((((Yz s_ id)).1).2.2)]),(false, [.b (((Yz s_ id)).2)])]):=by
 refine en Qb Tryz.func71 λw0 F0 hG=> ?_
 refine sn Qb [1,2,4,5] [2,4] p0 <| tn Qb [1,2,4,5] [2,4] (pc 1 (Io s_) p0) <| tu Qb [(2,.p 2 0),(4,.p 4 0),(5,.b false),(6,.i (Xd (Qh s_) id))] [0,1] [(2, [.o 512 ((Qh s_).1),.o 513 ((Qh s_).2.1),.i ((Qh s_).2.2)]),(4, [.e 2,.e 5,.i 0])] [] (pc 2 (Lx (Qh s_) id) p0) <| Qc <| Qc <| jn [(18,.b ((!(Xc (Qh s_)))|| decide ((Xd (Qh s_) id)<(0:Int))))] [] [] [] (!(Xc (Qh s_))) (λh1=> ?_) (λh1=> ?_) ?_
 ·have h1n:(Xc (Qh s_))=false:=Vj h1;refine rn Qb [2,4,5,6,18] [2,4] (pc 1 (cb h1n (Kl (Qh s_))) (pe 2 (show .b (!false)= .b true from rfl) p0)) ?_;exact zA (by rw[h1]<;>kernel_rfl)
 ·have h1n:(Xc (Qh s_))=true:=Za h1;refine rn Qb [2,4,5,6,18] [2,4] (pc 1 (cb h1n (Kl (Qh s_))) (pe 2 (show .b (!true)= .b false from rfl) p0)) ?_;exact zA (by rw[h1]<;>kernel_rfl)
 refine ck ((!(Xc (Qh s_)))|| decide ((Xd (Qh s_) id)<(0:Int))) (λh2=> ?_) (λh2=> ?_)
 ·refine sn Qb [2,4,5,6] [2,4] p0 <| Hr [513] rfl ?_
  exact Qe <| pz [] (show Yz s_ id=_ from Q4 h2 (rfl)) (λz=> .tup [(true, [.o 0 z.1.1,.q 1 z.1.2.1,.i z.1.2.2]),(false, [.b z.2])])
 have h2r:(decide ((Xd (Qh s_) id)<(0:Int)))=false:=Pz h2;have h2rp:=KM (Qh s_) id;have h2rd:=of_decide_eq_false h2r;refine Qg <| wB 2 1 (.own true 513) ((Qh s_).2.1) (λhw3 hl4=> ?_)
 have hl5:zD (zT (Xd (Qh s_) id).toNat ((Qh s_).2.1))<=1073741824:=Gz (HO (Xd (Qh s_) id).toNat (hw3));have hl6:zD (yH ((Xd (Qh s_) id)+1).toNat ((Qh s_).2.1))<=1073741824:=Gz (HP ((Xd (Qh s_) id)+1).toNat (hw3));refine P9 (Fx [513] rfl) ?_;refine sU Qb Zg [] [6,18] [(2, [.o 512 ((Qh s_).1),.slc (.own false 1984) 5 (([]++(eL (zT (Xd (Qh s_) id).toNat ((Qh s_).2.1))))++(eL (yH ((Xd (Qh s_) id)+1).toNat ((Qh s_).2.1)))),.i ((Qh s_).2.2)])] [2] (pe 4 (KB .sh 5 (Xd (Qh s_) id).toNat (Xd (Qh s_) id) ((Qh s_).2.1) rfl) (px (Ph (lo:=0) (hi:=(Xd (Qh s_) id)) (n:=(zD (eL ((Qh s_).2.1)))) (IT (by omega) (by omega) (by omega))) (px (Ey (n:=(([]:List (List PV)).length+((eL (zT (Xd (Qh s_) id).toNat ((Qh s_).2.1))):List (List PV)).length)) (G0 (rfl) (Zu (zT (Xd (Qh s_) id).toNat ((Qh s_).2.1))) (by first|omega|(simp only[zM,yD];omega) | (simp;omega) | simp))) (pe 9 (Jl (IntWalk.i64_in ((Xd (Qh s_) id)+1) (by omega))) (pe 10 (OP .sh 5 ((Xd (Qh s_) id)+1).toNat ((Xd (Qh s_) id)+1) ((Qh s_).2.1) rfl) (px (Ph (lo:=((Xd (Qh s_) id)+1)) (hi:=(((eL ((Qh s_).2.1)):List (List PV)).length:Int)) (n:=(zD (eL ((Qh s_).2.1)))) (OQ (by omega) (by omega))) (px (Ey (n:=((([]++(eL (zT (Xd (Qh s_) id).toNat ((Qh s_).2.1)))):List (List PV)).length+((eL (yH ((Xd (Qh s_) id)+1).toNat ((Qh s_).2.1))):List (List PV)).length)) (by simp[Zu];omega)) p0))))))) <| eqn [] [] [(2, [.o 512 ((Qh s_).1),.q 1984 (zT (Xd (Qh s_) id).toNat ((Qh s_).2.1)++(yH ((Xd (Qh s_) id)+1).toNat ((Qh s_).2.1))),.i ((Qh s_).2.2)])] [2] (by rw[show (([]++(eL (zT (Xd (Qh s_) id).toNat ((Qh s_).2.1))))++(eL (yH ((Xd (Qh s_) id)+1).toNat ((Qh s_).2.1))))=(eL (zT (Xd (Qh s_) id).toNat ((Qh s_).2.1)++(yH ((Xd (Qh s_) id)+1).toNat ((Qh s_).2.1)))) from Ju (rfl) (rfl)];first | done | kernel_rfl) ?_
 exact sn Qb [4,5] [4] p0 <| Qe <| pz [] (show Yz s_ id=_ from Qi h2 (rfl)) (λz=> .tup [(true, [.o 0 z.1.1,.q 1 z.1.2.1,.i z.1.2.2]),(false, [.b z.2])])
def Xa (s_:Qz) (id:Int):Xe×Bool:=(bif decide ((Xd s_ id)<(0:Int)) then ((0,0,false,0, []),false) else ((Qu (nth s_.2.1 (Xd s_ id).toNat)),true))
theorem Fj (s_:Qz) (id:Int):ACalls Tryz.prog 20 [.a [.h s_.1,.h s_.2.1,.i s_.2.2],.i id] (.tup [(true, [.i ((((Xa s_ id)).1).1),.i ((((Xa s_ id)).1).2.1),.b ((((Xa s_ id)).1).2.2.1),.i ((((Xa s_ id)).1).2.2.2.1),.o 0 ((((Xa s_ id)).1).2.2.2.2)]),(false, [.b (((Xa s_ id)).2)])]):=by
 refine en Qb Tryz.func20 λw0 F0 hG=> ?_
 refine sn Qb [1,2,4,5] [2,4] p0 <| tn Qb [2,4,5,6] [2,4] (pc 2 (Lx s_ id) p0) <| Qc <| tu Qb [(2,.p 2 0),(4,.p 4 0),(5,.b false),(6,.i (Xd s_ id)),(11,.b (decide ((Xd s_ id)<(0:Int))))] [0,1] [(2, [.h s_.1,.h s_.2.1,.i s_.2.2]),(4, [.i 0,.i 0,.b false,.i 0,.e 4])] [] p0 <| ck (decide ((Xd s_ id)<(0:Int))) (λh1=> ?_) (λh1=> ?_)
 ·refine su Qb [] [11] [] [] p0 <| opn [(true,4,4,true,384000,4)] ?_
  exact Qe <| pz [] (show Xa s_ id=_ from Q4 h1 (rfl)) (λz=> .tup [(true, [.i z.1.1,.i z.1.2.1,.b z.1.2.2.1,.i z.1.2.2.2.1,.o 0 z.1.2.2.2.2]),(false, [.b z.2])])
 have h1p:=KM s_ id;have h1d:=of_decide_eq_false h1;refine Qg <| wB 2 1 .sh s_.2.1 (λhw3 hl4=> ?_)
 have hx2:=ng s_.2.1 (Xd s_ id).toNat;exact sn Qb [4,5] [4] (pg 3 (Xd s_ id) hx2 (pc 5 (Ih (nth s_.2.1 (Xd s_ id).toNat)) p0)) <| Qe <| pz [] (show Xa s_ id=_ from Qi h1 (rfl)) (λz=> .tup [(true, [.i z.1.1,.i z.1.2.1,.b z.1.2.2.1,.i z.1.2.2.2.1,.o 0 z.1.2.2.2.2]),(false, [.b z.2])])
end
end Go.Proofs.YtgmlioidliojkaaGreatDoor
