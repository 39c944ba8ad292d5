/- A part. -/
import Derived.Test.YtlipbhahenojhaaGreatDoorP4
import Derived.Laws.Externs
import Derived.Lib.AppendZerosOnto
import Derived.Deep.RegionLaw
set_option linter.unusedVariables false
set_option linter.unusedSimpArgs false
namespace Go.Proofs.YtlipbhahenojhaaGreatDoor
open _root_ renaming Int → I, List → H, Nat → uA, Bool → uD, Unit → uE, cond_false → uH, ByteArray → uI, cond_true → uJ, if_pos → uK, of_decide_eq_false → uL, Array → uN, decide_eq_false → uO, decide_eq_true → uP, if_neg → uQ, congrArg → uR, Option → uS, of_decide_eq_true → uT, decide_eq_true_eq → uV, DecidableEq → uX, beq_iff_eq → uY, beq_eq_false_iff_ne → uZ
open _root_.Bool renaming true → D, false → A
open _root_.Go renaming Value → uF, World → uG, TypeId → uM, maxLen → uU, Program → uW
open _root_.Option renaming some → uB, none → uC
open _root_.Go.IntKind renaming wrap → vA, i64 → vB
open _root_.Go.Proofs.Tryz renaming prog → vC
open _root_.Go.Proofs.Tryz
open _root_.And renaming intro → zH
open _root_.Array renaming length_toList → zX, getD_eq_getD_getElem? → yD, getElem?_eq_getElem → yW, toList_append → xN
open _root_.Bool renaming and_eq_true → zK, not_true → yE
open _root_.Exists renaming intro → zE
open _root_.Int renaming toNat → zS, toNat_natCast → yH, natCast_add → xE, le_refl → xR
open _root_.List renaming length → zD, length_set → zF, replicate → zG, length_append → zJ, mem_cons_of_mem → zL, length_take → zN, take → zO, getElem?_eq_some_iff → zP, set → zQ, take_append_of_le_length → zR, length_map → zT, take_of_length_le → zU, mem_cons_self → zV, append_assoc → zW, length_drop → zY, getElem?_cons_zero → zZ, drop → yB, getElem?_toArray → yC, getElem?_eq_getElem → yF, getElem?_cons_succ → yG, take_take → yI, getElem?_of_mem → yJ, mem_of_mem_drop → yM, length_flatten → yN, getD → yQ, map_replicate → yR, mem_singleton → yS, getElem?_drop → yT, take_left → yU, filter_append → yV, size_toArray → yZ, take_add_one → xA, map_cons → xB, map_toArray → xC, length_eq_zero_iff → xD, foldl_cons → xF, drop_drop → xH, mem_of_getElem? → xI, map → xK, getElem?_append → xL, replicate_succ → xM, map_nil → xO, range' → xP
open _root_.Nat renaming mul_le_mul_right → zM, zero_add → yA, le_refl → yK, one_mul → yL, beq → yO, min → yP, zero_le → yX, add_mul → yY, eq_of_beq_eq_true → xG, min_def → xJ, sub_mul → xQ
section
open Go.RowKit
theorem Qmc(nm:uI):∀(d:H Yj) (o:H Qi) (k:uA),o.map (·.1)=d.map (·.1)->
 (X5 (Yd nm) Zg d k ()= .brk ()/\X5 (B2 nm) Dm o k ()= .brk ())\/
 ∃i:uA,i<d.length/\X5 (Yd nm) Zg d k ()= .ret (((k+i:uA)):I)/\X5 (B2 nm) Dm o k ()= .ret (nth o i).2
 | [], [],_,_=> .inl ⟨rfl,rfl⟩
 | [],_::_,_,h=>by simp at h
 | _::_, [],_,h=>by simp at h
 | a ::d,b::o,k,h=>by
   simp only[xB,List.cons.injEq] at h;obtain⟨c,e⟩:=h;simp only[X5,Yd,B2,Eg,c];cases(a.1.toList==nm.toList) with
   | true=>exact .inr ⟨0,by simp,rfl,rfl⟩
   | false=>
     simp only[uH];rcases Qmc nm d o (k+1) e with h | ⟨i,f,g,j⟩
     . exact .inl h
     exact .inr ⟨i+1,by simpa using f,by rw[g,show k+1+i=k+(i+1) by omega],j⟩
theorem FV{d:H Yj}{o:H Qi}(h:o.map (·.1)=d.map (·.1))(nm:uI):(Q9 d nm<0/\X8 o nm= [])\/(0<=Q9 d nm/\zS (Q9 d nm)<d.length/\X8 o nm=(nth o (zS (Q9 d nm))).2):=by
 unfold Q9 Ke X8;rcases Qmc nm d o 0 h with⟨a,b⟩ | ⟨i,c,a,b⟩
 . rw[a,b];refine .inl ⟨?_, ?_⟩
   . show(-1:I)<0;omega
   rfl
 rw[a,b];simp only[Out.on,yA,yH];exact .inr ⟨by omega,c,trivial⟩
abbrev RH(d:H Yj)(k:uA)(o:H Qi)(f:Xt):uD:=Ai (nth d k).2 f o
theorem Qur{d:H Yj}{L:H I}(h:Qr d=(L,D))(u:H Xt){c:uA->uD}{e:I}(r:∀k,c k=D->nth L k=e):Qqg u (RH d) c (d.map (·.1)):=by
 intro a b i g j k s l f _ v;rw[zT] at s;refine Qa5 (⟨λnm x n=>?_,λnm w=>?_⟩:Seen (nth d k).2 a b) f v
 . rcases FV i nm with⟨o,m⟩ | ⟨o,m,p⟩
   . rw[m] at n;simp at n
   rcases FV g nm with⟨t,_⟩ | ⟨_,_,q⟩
   . omega
   rw[p] at n;rw[q];exact(j _).1 x n
 rcases FV i nm with⟨o,m⟩ | ⟨o,m,p⟩
 . rcases FV g nm with⟨_,y⟩ | ⟨t,_,_⟩
   . rw[m,y]
   omega
 rcases FV g nm with⟨t,_⟩ | ⟨_,_,q⟩
 . omega
 rw[p,q];refine(j _).2 ?_;have z:=Qie h s w o;cases hp:c (zS (Q9 d nm)) with
 | false=>rfl
 | true=>have:=r _ hp;have:=r _ l;omega
structure EvS (d:H Yj) (L:H I) (on:uA->uD) (fs:H Xt) (k:I) (o:H Qi):Prop where
 names:o.map (·.1)=d.map (·.1)
 none:∀j,k<=nth L j->on j=D->(nth o j).2= []
 some_:∀j,j<d.length->on j=D->∃p:Xt->uD,(nth o j).2=sel fs (λf=>f.1) p
def Qa6(L:H I)(on:uA->uD)(k:I)(j:uA):uD:=(nth L j==k)&&on j
theorem Qmd{d:H Yj}{L:H I}{on:uA->uD}{b:H Xt}{k:I}{o:H Qi}(h:EvS d L on b k o):StateC b (λf:Xt=>f.1) (RH d) (Qa6 L on k) (d.map (·.1)) o o:=
 ⟨h.names,λj _ a=>⟨λ_=>A,by
  unfold Qa6 at a;simp only[zK,uY] at a;rw[h.none j (by omega) a.2];simp[sel],λf _ c=>by cases c⟩,λ_ _=>rfl⟩
theorem Qqn{d:H Yj}{L:H I}{on:uA->uD}{k:I}{o o':H Qi}{b:H Xt}(h:EvS d L on b k o)(h':StateC b (λf:Xt=>f.1) (RH d) (Qa6 L on k) (d.map (·.1)) o o'):EvS d L on b (k+1) o':=
 ⟨h'.names,λj c a=>by
  rw[h'.rest j (by unfold Qa6;rw[Bool.and_eq_false_iff];exact .inl (uZ.2 (by omega)))];exact h.none j (by omega) a,λj c a=>by
  cases ha:Qa6 L on k j with
  | false=>rw[h'.rest j ha];exact h.some_ j c a
  | true=>
    have e:o'.length=d.length:=by have:=uR zD h'.names;simpa using this
    obtain⟨p,g,_⟩:=h'.good j (by omega) ha;exact⟨p,g⟩⟩
theorem Dw{d:H Yj}{L:H I}{on:uA->uD}{fs:H Xt}{k:I}{o:H Qi}(h:EvS d L on fs k o):zD o=zD d:=by have:=uR zD h.names;simpa using this
theorem DK(a b:H I):Vq a b=decide (a=b):=by
 by_cases h:a.length=b.length
 . exact Ql3 a b h
 have hb:((a.length:I) !=(b.length:I))=D:=by simpa using λe:(a.length:I)=(b.length:I)=>h (by omega)
 unfold Vq;rw[hb,uO (λe=>h (uR zD e))];rfl
def Qme(s:X2)(d:H Yj)(L:H I)(on:uA->uD)(b:I){R T:Type}(f:uA->Yj->H Qi×uD->Rd R (H Qi×uD) T):Prop:=
 ∀k a o c,d[k]? =uB a->f k a (o,c)=bif Qa6 L on b k then(bif !(decide (Jc s a.2 o=(nth o k).2)) then .next (zQ o k ((nth o k).1,Jc s a.2 o),D) else .next (o,c)) else .next (o,c)
theorem HZ{R:Type}{s:X2}{d:H Yj}{L:H I}{on:uA->uD}{g:I}{f:uA->Yj->H Qi×uD->Rd R (H Qi×uD) (H Qi×uD)}{e:uA->H Qi×uD->H Qi×uD}
 (i:Qme s d L on g f) (j:∀k s,e k s=s):∀(l:H Yj) (k:uA) (o:H Qi) (c:uD),d.drop k=l->X5 f e l k (o,c)= .brk (RE s.2.1 (λf:Xt=>f.1) (RH d) (Qa6 L on g) (xP k l.length) (o,c))
 | [],k,o,c,_=>by simp[X5,RE,j]
 | a ::l,k,o,c,hl=>by
   have n:d[k]? =uB a:=by
    have:=uR (·[0]?) hl;simpa using this
   have ha:nth d k=a:=T7 n;have b:d.drop (k+1)=l:=by rw[←xH,hl];rfl
   have p:RE s.2.1 (λf:Xt=>f.1) (RH d) (Qa6 L on g) (xP k (a::l).length) (o,c)=RE s.2.1 (λf:Xt=>f.1) (RH d) (Qa6 L on g) (xP (k+1) l.length) (Qa3 s.2.1 (λf:Xt=>f.1) (RH d) (Qa6 L on g) (o,c) k):=by
    rw[List.length_cons,List.range'_succ];rfl
   have h:sel s.2.1 (λf:Xt=>f.1) (RH d k o)=Jc s a.2 o:=by rw[Qid,←ha]
   rw[p];simp only[X5,i k a o c n];unfold Qa3;cases Qa6 L on g k with
   | false=>simp only[uH];exact HZ i j l (k+1) o c b
   | true=>
     simp only[uJ,h];by_cases m:Jc s a.2 o=(nth o k).2
     . rw[uP m,uK m];exact HZ i j l (k+1) o c b
     rw[uO m,uQ m];exact HZ i j l (k+1) _ D b
theorem Qsg{q:Type}{s:X2}{d:H Yj}{L:H I}{on:uA->uD}{b:I}{f:uA->Yj->H Qi×uD->Rd (Rd q (H Qi×I×uD) (H Qi×I)) (H Qi×uD) (H Qi×uD)}{e:uA->H Qi×uD->H Qi×uD}{F:H Qi×I×uD->Rd q (H Qi×I×uD) (H Qi×I)}
 (u:Qme s d L on b f) (v:∀k s,e k s=s) (g:∀x,F x=bif x.2.2 then(Out.on (X5 f e d 0 (x.1,A)) λy=> .next (y.1,vA vB (x.2.1+1),y.2)) else .brk (x.1,x.2.1))
 (w:Qr d=(L,D)) {o:H Qi} (h:EvS d L on s.2.1 b o) (p:I):
 ∃o' z,whl F (zD d*zD s.2.1+2) (o,p,D)=uB (.brk (o',z))/\EvS d L on s.2.1 (b+1) o':=by
 have c:o.length=d.length:=by have:=uR zD h.names;simpa using this
 have a:=Ql7 s.2.1.length (Qa6 L on b) o 0;rw[c] at a
 obtain⟨s',h1,hc,t,r,h3⟩:=Qys (fs:=s.2.1) (idOf:=λf:Xt=>f.1) (m:=RH d) (act:=Qa6 L on b) (nm:=d.map (·.1)) (F:=F) (out:=λx=>x.1) (ch:=λx=>x.2.2) (n:=d.length) (by simp)
  (λx i=>⟨_,by rw[g,i,uJ,HZ u v d 0 x.1 A rfl];rfl,by rw[List.range_eq_range']⟩)
  (λx i=>⟨_,by rw[g,i,uH]⟩) (Qur w s.2.1 λk j=>by unfold Qa6 at j;simp only[zK,uY] at j;exact j.1) (o:=o) (zD d*zD s.2.1+2) (o,p,D) (Qmd h) (by simp only[uJ];omega)
 have l:s'.2.2=A:=hc;have hb:F s'= .brk (s'.1,s'.2.1):=by rw[g,l];rfl
 rw[hb] at r;cases r
 exact⟨s'.1,s'.2.1,h3,Qqn h h1⟩
theorem ZA{R T:Type}{d:H Yj}{L:H I}{on:uA->uD}{fs:H Xt}{g:Yj->H I}{f:uA->Yj->H Qi->Rd R (H Qi) T}{e:uA->H Qi->T}(l:∀k a s,f k a s= .next (s++ [(a.1,g a)]))(i:∀j,j<d.length->on j=D->g (nth d j)= []):
 X5 f e d 0 []= .brk (e d.length (d.map λa=>(a.1,g a)))/\EvS d L on fs 0 (d.map λa=>(a.1,g a)):=by
 refine⟨by rw[Ww (g:=λa=>((a.1,g a):Qi)) l];simp, ?_,λj _ c=>?_,λj c h=>?_⟩
 . rw[List.map_map];rfl
 . by_cases b:j<d.length
   . have:nth (d.map λa=>((a.1,g a):Qi)) j=((nth d j).1,g (nth d j)):=by simp[nth,yQ,b]
     rw[this];exact i j b c
   have:nth (d.map λa=>((a.1,g a):Qi)) j=default:=by simp[nth,yQ,b]
   rw[this];rfl
 have:nth (d.map λa=>((a.1,g a):Qi)) j=((nth d j).1,g (nth d j)):=by simp[nth,yQ,c]
 exact⟨λ_=>A,by rw[this,i j c h];simp[sel]⟩
theorem Ir{d:H Yj}(h:((Qr d)).2=D):zD ((Qr d)).1=zD d/\zD d<=5/\∀x,x∈((Qr d)).1->0<=x/\x<=5:=by
 have b:Qr d=((Qr d).1,D):=Prod.ext rfl h;obtain⟨c,a,j,e⟩:=WI b;have f:=Hl c;refine⟨a,f,λx g=>?_⟩;obtain⟨i,k,rfl⟩:=FE g;refine⟨e i, ?_⟩;have hb:=Qmb b i;omega
open GoE (enc wide)
def Pp(_:uA)(a:Yj)(b:Z):Rd Z Z Z:=(.next (b++ [a.1]))
def Pq(_:uA)(a:Z):Z:=a
def Zd(d:H Yj):Z:=(Out.on (X5 Pp Pq d 0 []) (λa=>a))
theorem Mz(d:H Yj):ACalls vC 215 [.h d] (.o 0 (Zd d)):=by
 refine en func215 λ_ _ _=>sn [0,2] [] p0 ?_
 refine tn [0,2,3] [] p0<|Qa<|tu [(2,.e 0),(3,.one (.slc (.own D 384) 1 [])),(7,.h d),(8,.i (d.length:I)),(9,.i 0)] [0] [] [] (pl 1 d p0)<|wT 7 0 .sh d (λj k=>?_)
 refine HN Pp Pq d [] (λb a=> [(3,.o 104 a),(9,.i (b:I))]) [3,9] (λh=> [(3,.o 105 h)]) [3,7,8,9] (λb a=>zD a<=b) (wsf [(384,104)]) (by simp) (λb a c U=>?_) (λb a c U=>?_) (λh g=>?_)
 ·have e:=U.2;obtain⟨f,V⟩:=Xn (l:=d) (i:=b) c;refine sn [2,3,7,8,9,10] [] (pe 0 (zB ((b:I)<(d.length:I))) p0)<|Qa<|ckT<|Qd<|Qa<|Qn<|tn [2,3,5,7,8,9] [5] (pn 0 V p0)<|wT 3 0 (.own D 104) a (λm n=>?_)
  refine qu [(3,.one (.slc (.own D 1088) 1 (eA a f.1)))] [3] [] [] (pa a [f.1] p0) ?_;refine eqn [(3,.o 1088 (a++ [f.1]))] [3] [] [] (by rw[Wu]<;>kernel_rfl) ?_;refine rn [2,3,7,8,9] [] (pw 0 b p0) ?_;exact zE (a++ [f.1]) (zH (wsf [(1088,104)]) ⟨Qp V rfl U.1,by first|omega|(simp;omega) | simp⟩)
 ·have e:=U.2;exact sn [2,3,7,8,9,10] [] (pe 0 (zC ((b:I)<(d.length:I))) p0)<|Qa<|ckF<|Qv<|zE _ (zH (wsf [(104,105)]) (Xo c rfl U.1))
 exact sn [2] [] p0<|Qc<|po0 [] (Vz g rfl)
def H2(v:uI)(a:uA)(b:uI)(_:uE):Rd (I) (uE) (uE):=(bif (v.toList==b.toList) then(.ret (a:I)) else(.next ()))
def Cc(_:uA)(_:uE):uE:=()
def D4(a:Z)(v:uI):I:=(Out.on (X5 (H2 v) Cc a 0 ()) (λ_=> -1))
theorem ZE(a:Z)(v:uI):ACalls vC 277 [.h a,.s v] (.i (D4 a v)):=by
 refine en func277 λ_ _ _=>sn [0,1,4] [] p0 ?_
 refine Qa<|tn [0,1,4,7,8] [] (pl 1 a p0)<|mz [(4,.i 0),(7,.i (a.length:I)),(8,.i 0)] [] [] []<|wT 0 0 .sh a (λh j=>?_)
 refine S8 (H2 v) Cc a () (λb _=> [(8,.i (b:I))]) [8] (λ_=> []) [0,1,7,8] wf0 (λb k c U=>?_) (λb k c U=>?_) (λm d=>?_)
 ·obtain⟨g,V⟩:=Xn (l:=a) (i:=b) c;refine sn [0,1,4,7,8,9] [] (pe 0 (zB ((b:I)<(a.length:I))) p0)<|Qa<|ckT<|Qd<|Qa<|Qn<|tn [0,1,4,5,7,8] [] p0<|tu [(5,.i (b:I)),(16,.b (v.toList==g.toList))] [] [] [] (pn 3 V p0)<|ck (v.toList==g.toList) (λe=>?_) (λe=>?_)
  ·refine sn [0,1,4,7,8] [] p0<|Qc ?_
   have f:(X5 (H2 v) Cc a 0 ())= .ret (b:I):=Kc V (Qu e rfl) U;exact pi [] (Pe f)
  refine Qd<|rn [0,1,4,7,8] [] (pw 0 b p0) ?_
  exact xw _ (Qp V (Qh e rfl) U)
 ·exact sn [0,1,4,7,8,9] [] (pe 0 (zC ((b:I)<(a.length:I))) p0)<|Qa<|ckF<|Qv<|xw _ (Xo c rfl U)
 exact sn [4] [] p0<|Qc<|pi [] (Vz d rfl)
def Qx(a:Z)(v:uI):uD:=decide ((D4 a v)>=(0:I))
theorem Uz(a:Z)(v:uI):ACalls vC 232 [.h a,.s v] (.b (Qx a v)):=by
 refine en func232 λ_ _ _=>sn [0,1,4] [] p0 ?_
 exact tn [4] [] (pc 2 (ZE a v) p0)<|Qc<|pb [] (show Qx a v=decide ((D4 a v)>=(0:I)) from rfl)
def B3(x:H I)(a:uA)(b:I):Rd (I) (I) (I):=(.next (max b (nth x (a+1))))
def Gq(_:uA)(a:I):I:=a
def Og(x:H I):I:=(Out.on (Vj (B3 x) Gq (x.length-1) 0 (nth x 0)) (λa=>a))
theorem FW(x:H I)(j:0<x.length):ACalls vC 306 [.h x] (.i (Og x)):=by
 refine en func306 λ_ _ _=>sn [0,2] [] p0 ?_
 refine Qa<|tn [0,2,7] [] (pl 1 x (pe 2 (show .b (decide ((x.length:I)<(1:I)))= .b A from Qk (uO (by omega))) p0))<|ckF<|Qd<|wT 0 0 .sh x (λh i=>?_)
 have d:=ng x 0;refine tu [(2,.i 0),(3,.i (nth x 0))] [] [] [] (pg 1 0 d p0)<|Qa<|sn [0,2,3,4] [] p0<|mz [(4,.i 1)] [] [] []<|Qx7 (B3 x) Gq (x.length-1) (nth x 0) (λa c=> [(3,.i c),(4,.i ((a+1:uA):I))]) [3,4] (λg=> [(3,.i g)]) [0,3,4] wf0 (λa c b U=>?_) (λa c b U=>?_) (λg e=>?_)
 ·refine Qa<|sn [0,2,3,4,15] [] (pl 2 x (pe 3 (zB (((a+1:uA):I)<(x.length:I))) p0))<|ckT<|Qd<|Qa<|Qn ?_
  have f:=ng x (a+1);refine qn [0,2,3,4] [] (pg 3 ((a+1:uA):I) f p0) ?_;refine qu [(3,.i (max c (nth x (a+1)))),(4,.i ((a+2:uA):I))] [3,4] [] [] (pe 1 (show .i (vA vB (((a+1:uA):I)+1))= .i ((a+2:uA):I) from Nn ((IntWalk.i64_in _ (by omega)).trans (by omega))) p0) ?_;exact xw _ (Kb b rfl U)
 ·exact Qa<|sn [0,2,3,4,15] [] (pl 2 x (pe 3 (zC (((a+1:uA):I)<(x.length:I))) p0))<|ckF<|Qv<|xw _ (Hu b rfl U)
 exact sn [2] [] p0<|Qc<|pi [] (Vz e rfl)
def W7(d:H Yj):I:=(bif ((!(((Qr d)).2))|| (((((Qr d)).1).length:I)==(0:I))) then-1 else(Og (((Qr d)).1)))
theorem QC(d:H Yj):ACalls vC 265 [.h d] (.i (W7 d)):=by
 refine en func265 λ_ _ _=>sn [0,2] [] p0 ?_
 refine tn [2,3,4] [] (pc 1 (XV d) p0)<|Qa<|Qa<|mz [(2,.i 0),(3,.o 448 (((Qr d)).1)),(4,.b (((Qr d)).2))] [0] [] []<|jn [(16,.b ((!(((Qr d)).2))|| (((((Qr d)).1).length:I)==(0:I))))] [4] [] [] (!(((Qr d)).2)) (λb=>?_) (λb=>?_) ?_
 ·have a:(((Qr d)).2)=A:=Kj b;exact rn [2,3,16] [] (pf 0 a (pe 1 (show .b (!A)= .b D from rfl) p0))<|zA (by rw[b]<;>kernel_rfl)
 ·have a:(((Qr d)).2)=D:=Yu b;exact rn [2,3,16] [] (pt 0 a (pe 1 (show .b (!D)= .b A from rfl) (pl 4 (((Qr d)).1) p0)))<|zA (by rw[b]<;>kernel_rfl)
 refine ck ((!(((Qr d)).2))|| (((((Qr d)).1).length:I)==(0:I))) (λc=>?_) (λc=>?_)
 ·exact sn [2,3] [] p0<|Qc<|pi [] (Qu c rfl)
 have e:((!(((Qr d)).2)))=A:=Sl c;have g:(((Qr d)).2)=D:=Yu e;have f:((((((Qr d)).1).length:I)==(0:I)))=A:=Rz c;have h:=Yt f;exact Qd<|sn [2] [] (pc 1 (FW (((Qr d)).1) (by first|omega|(simp_all;omega))) p0)<|Qc<|pi [] (Qh c rfl)
def Cd(a:H I)(b:uA)(c:I)(_:uE):Rd (uD) (uE) (uE):=(bif (c !=(nth a b)) then(.ret A) else(.next ()))
def D5(_:uA)(_:uE):uE:=()
def Vv(a:H I)(b:H I):uD:=(bif ((a.length:I) !=(b.length:I)) then A else(Out.on (X5 (Cd b) D5 a 0 ()) (λ_=>D)))
theorem Ss(a:H I)(b:H I):ACalls vC 218 [.h a,.h b] (.b (Vv a b)):=by
 refine en func218 λ_ _ _=>sn [0,1,4] [] p0 ?_
 refine Qa<|tn [0,1,4,10] [] (pl 1 a (pl 3 b p0))<|ck ((a.length:I) !=(b.length:I)) (λe=>?_) (λe=>?_)
 ·exact tu [(4,.b A)] [] [] [] p0<|Qc<|pb [] (Qu e rfl)
 have k:=Ut e;refine Qd<|Qa<|tu [(4,.b A),(12,.i (a.length:I)),(13,.i 0)] [] [] [] (pl 1 a p0)<|wT 0 0 .sh a (λm n=>?_)
 refine S8 (Cd b) D5 a () (λc _=> [(13,.i (c:I))]) [13] (λ_=> []) [0,1,12,13] wf0 (λc o d U=>?_) (λc o d U=>?_) (λs f=>?_)
 ·obtain⟨p,V⟩:=Xn (l:=a) (i:=c) d;refine su [(14,.b D)] [] [] [] (pe 0 (zB ((c:I)<(a.length:I))) p0)<|Qa<|ckT<|Qd<|Qa<|Qn<|sn [0,1,4,5,12,13] [] p0<|wT 1 0 .sh b (λq r=>?_)
  have g:=ng b c;refine tN [0,1,4,12,13,24] [] (pn 2 V (pn 6 g p0))<|ck (p !=(nth b c)) (λh=>?_) (λh=>?_)
  ·refine tu [] [14] [] [] p0<|Qc ?_
   have j:(X5 (Cd b) D5 a 0 ())= .ret A:=Kc V (Qu h rfl) U;exact pb [] (Qh e (Pe j))
  refine Qd<|qu [(13,.i ((c+1:uA):I))] [13,14] [] [] (pw 0 c p0) ?_
  exact xw _ (Qp V (Qh h rfl) U)
 ·exact sn [0,1,4,12,13,14] [] (pe 0 (zC ((c:I)<(a.length:I))) p0)<|Qa<|ckF<|Qv<|xw _ (Xo d rfl U)
 exact sn [4] [] p0<|Qc<|pb [] (Qh e (Vz f rfl))
def Vw(r:H Qi)(names:Z)(_:uA)(a:Yj)(b:H Qi):Rd ((H Qi)×I×uD) (H Qi) (H Qi):=(bif (!(Qx names a.1)) then(.next (b++ [(a.1,(X8 r a.1))])) else(.next (b++ [((a.1, []):Qi)])))
def Ug(_:uA)(a:H Qi):(H Qi):=a
def Hd(e:X2)(d:H Yj)(names:Z)(f:uA)(b:uA)(c:Yj)(a:(H Qi)×uD):Rd (Rd (Rd ((H Qi)×I×uD) ((H Qi)×I) ((H Qi)×I)) ((H Qi)×I×uD) ((H Qi)×I)) ((H Qi)×uD) ((H Qi)×uD):=(bif (((nth (((Qr d)).1) b) !=(f:I))|| (!(Qx names c.1))) then(.next (a.1,a.2)) else(bif (!(Vv (Jc e c.2 a.1) ((nth a.1 b).2))) then(.next (zQ a.1 b ((nth a.1 b).1,(Jc e c.2 a.1)),D)) else(.next (a.1,a.2))))
def Dn(_:uA)(a:(H Qi)×uD):(H Qi)×uD:=(a.1,a.2)
def Vx(c:X2)(d:H Yj)(names:Z)(e:uA)(a:(H Qi)×I×uD):Rd (Rd ((H Qi)×I×uD) ((H Qi)×I) ((H Qi)×I)) ((H Qi)×I×uD) ((H Qi)×I):=(bif a.2.2 then(Out.on (X5 (Hd c d names e) Dn d 0 (a.1,A)) (λb=>(.next (b.1,vA vB (a.2.1+1),b.2)))) else(.brk (a.1,a.2.1)))
def He(a:X2)(d:H Yj)(names:Z)(e:uA)(b:(H Qi)×I):Rd ((H Qi)×I×uD) ((H Qi)×I) ((H Qi)×I):=(Out.on (N2 (Vx a d names e) (zD d*zD a.2.1+2) (b.1,b.2,D)) (λc=>(.next (c.1,c.2))))
def Gr(_:uA)(a:(H Qi)×I):(H Qi)×I:=(a.1,a.2)
def Zm(a:X2)(d:H Yj)(r:H Qi)(names:Z):(H Qi)×I×uD:=(bif ((!(((Qr d)).2))|| (!(Qq a))) then([],0,A) else(Out.on (X5 (Vw r names) Ug d 0 []) (λc=>(Out.on (Vj (He a d names) Gr ((W7 d)+1).toNat 0 (c,0)) (λb=>(b.1,b.2,D))))))
theorem Qsh{B:I}{x:H I}(b:∀a,a∈x->a<=B)(c:0<=B):∀(n k:uA) (s:I),s<=B->∃t,Vj (B3 x) Gq n k s= .brk t/\t<=B
 | 0,k,s,h=>⟨s,rfl,h⟩
 | n +1,k,s,h=>by
   obtain⟨t,d,e⟩:=Qsh b c n (k+1) (max s (nth x (k+1))) (by
    by_cases f:k+1<x.length
    . have:=b _ (Qdz f);omega
    rw[JZ (by omega)];omega)
   exact⟨t,by simp only[Vj,B3];exact d,e⟩
theorem WJ{d:H Yj}(h:((Qr d)).2=D):zD ((Qr d)).1=zD d/\zD d<=5/\W7 d<=5:=by
 obtain⟨c,f,b⟩:=Ir h;refine⟨c,f, ?_⟩;unfold W7;rw[h];simp only[yE,Bool.false_or];cases g:(((((Qr d)).1).length:I)==(0:I)) with
 | true=>simp only[uJ];omega
 | false=>
  simp only[uH];have i:0<(((Qr d)).1).length:=by have:=Yt g;omega
  unfold Og;obtain⟨t,e,j⟩:=Qsh (B:=5) (x:=((Qr d)).1) (λa ha=>(b a ha).2) (by omega) ((((Qr d)).1).length-1) 0 (nth ((Qr d)).1 0) (b _ (Qdz i)).2;rw[e];exact j
theorem Qsi(b:H I):∀(l:H I) (k:uA),l.length=(b.drop k).length->Out.on (X5 (Cd b) D5 l k ()) (λ_=>D)=decide (l=b.drop k)
 | [],k,h=>by
   have:b.drop k= []:=List.eq_nil_of_length_eq_zero (by rw[←h];rfl);rw[this];rfl
 | a ::l,k,h=>by
   have c:k<b.length:=by simp only[List.length_cons,zY] at h;omega
   have hd:b.drop k=nth b k::b.drop (k+1):=by
    rw[List.drop_eq_getElem_cons c,show nth b k=b[k] by simp[nth,yQ,c]]
   rw[hd] at h⊢;simp only[X5,Cd];by_cases e:a=nth b k
   . rw[show(a !=nth b k)=A by simp[e],uH,Qsi b l (k+1) (by simpa using h)];simp[e]
   rw[show(a !=nth b k)=D by simp[e],uJ];simp[e,Out.on]
theorem Qwu(a b:H I)(h:a.length=b.length):Vv a b=decide (a=b):=by
 unfold Vv;rw[show((a.length:I) !=(b.length:I))=A by simp[h],uH,Qsi b a 0 (by simpa using h),List.drop_zero]
theorem Qd9(a b:H I):Vv a b=decide (a=b):=by
 by_cases h:a.length=b.length
 . exact Qwu a b h
 have hb:((a.length:I) !=(b.length:I))=D:=by simpa using λe:(a.length:I)=(b.length:I)=>h (by omega)
 unfold Vv;rw[hb,uO (λe=>h (uR zD e))];rfl
def onD(d:H Yj)(names:Z)(j:uA):uD:=Qx names (nth d j).1
theorem ZU(e:X2)(d:H Yj)(names:Z)(b:uA):Qme e d (Qr d).1 (onD d names) (b:I) (Hd e d names b):=by
 intro k a o c f;have ha:nth d k=a:=T7 f;unfold Hd Qa6 onD;rw[ha,Qd9];simp only[bne];cases(nth (Qr d).1 k==(b:I))<;>cases Qx names a.1<;>rfl
section
variable {s_:X2} {d:H Yj} {names:Z} {k1:uA} {o:H Qi} {p:I}
theorem Ll(a:((Qr d)).2=D)(h:EvS d ((Qr d)).1 (onD d names) s_.2.1 (k1:I) o):∃o' b,whl (Vx s_ d names k1) (zD d*zD s_.2.1+2) (o,p,D)=uB (.brk (o',b))/\EvS d ((Qr d)).1 (onD d names) s_.2.1 ((k1:I)+1) o':=
 Qsg (f:=Hd s_ d names k1) (e:=Dn) (ZU s_ d names k1) (λ_ _=>rfl) (λ_=>rfl) (Prod.ext rfl a) h p
theorem Qea(a:((Qr d)).2=D)(h:EvS d ((Qr d)).1 (onD d names) s_.2.1 (((k1:uA)):I) o):(whl (Vx s_ d names k1) (zD d*zD s_.2.1+2) (o,p,D)).isSome=D:=by
 obtain⟨c,e,b,_⟩:=Ll (p:=p) a h;rw[b];rfl
theorem M0{y:H Qi×I}(b:((Qr d)).2=D)(h:EvS d ((Qr d)).1 (onD d names) s_.2.1 (((k1:uA)):I) o)(a:N2 (Vx s_ d names k1) (zD d*zD s_.2.1+2) (o,p,D)= .brk y):EvS d ((Qr d)).1 (onD d names) s_.2.1 ((((k1+1):uA)):I) y.1:=by
 obtain⟨c,f,g,i⟩:=Ll (p:=p) b h;unfold N2 at a;rw[g] at a;have e:(c,f)=y:=by simpa using a
 rw[←e,xE];exact i
def Ni(r:H Qi)(names:Z)(a:Yj):H I:=bif (!(Qx names a.1)) then(X8 r a.1) else []
theorem H3{r:H Qi}(b:X5 (Vw r names) Ug d 0 []= .brk o):EvS d ((Qr d)).1 (onD d names) s_.2.1 (((0:uA)):I) o:=by
 obtain⟨h,i⟩:=ZA (L:=((Qr d)).1) (on:=onD d names) (fs:=s_.2.1) (g:=Ni r names) (f:=Vw r names) (e:=Ug) (d:=d) (λk a s=>by
  unfold Vw Ni;cases Qx names a.1<;>rfl) (λj _ c=>by unfold onD at c;unfold Ni;rw[c];rfl)
 rw[h] at b;have e:(d.map λa=>((a.1,Ni r names a):Qi))=o:=Out.brk.inj b;rw[←e];exact i
end
theorem XY(a:X2)(d:H Yj)(r:H Qi)(names:Z):ACalls vC 214 [.a [.h a.1,.h a.2.1,.i a.2.2],.h d,.h r,.h names] (.tup [(A, [.o 0 (((Zm a d r names)).1)]),(A, [.i (((Zm a d r names)).2.1)]),(A, [.b (((Zm a d r names)).2.2)])]):=by
 refine en func214 λ_ _ _=>sn [1,2,3,4,8,9,10] [4] p0 ?_
 refine tn [1,2,3,4,8,9,10,11,12] [4] (pc 1 (XV d) p0)<|Qa<|Qa<|mz [(4,.p 4 0),(8,.e 0),(9,.i 0),(10,.b A),(11,.o 1600 (((Qr d)).1)),(12,.b (((Qr d)).2))] [0] [(4, [.h a.1,.h a.2.1,.i a.2.2])] []<|jn [(34,.b ((!(((Qr d)).2))|| (!(Qq a))))] [12] [] [] (!(((Qr d)).2)) (λh1=>?_) (λh1=>?_) ?_
 ·have v:(((Qr d)).2)=A:=Kj h1;exact ru [(34,.b D)] [12] [] [] (pf 0 v (pe 1 (show .b (!A)= .b D from rfl) p0))<|zA (by rw[h1]<;>kernel_rfl)
 ·have v:(((Qr d)).2)=D:=Yu h1;have al:=WJ v;exact rn [1,2,3,4,8,9,10,11,34] [4] (pt 0 v (pe 1 (show .b (!D)= .b A from rfl) (pc 4 (K6 a) p0)))<|zA (by rw[h1]<;>kernel_rfl)
 refine ck ((!(((Qr d)).2))|| (!(Qq a))) (λh2=>?_) (λh2=>?_)
 ·refine su [] [34] [] [] p0<|opn [(A,8,0,D,106,2)] ?_
  exact Qc<|pz [] (show Zm a d r names=_ from Qu h2 rfl) (λz=> .tup [(A, [.o 0 z.1]),(A, [.i z.2.1]),(A, [.b z.2.2])])
 have am:((!(((Qr d)).2)))=A:=Sl h2;have ab:(((Qr d)).2)=D:=Yu am;have ak:=WJ ab;have an:((!(Qq a)))=A:=Rz h2;have ax:(Qq a)=D:=Yu an;refine Qd<|sn [1,2,3,4,8,9,10,11,13] [4] p0<|Qa<|tn [1,2,3,4,8,9,10,11,13,36,37,38] [4] (pl 1 d p0)<|mz [(13,.one (.slc (.own D 2240) 2 [])),(36,.h d),(37,.i (d.length:I)),(38,.i 0)] [34] [] []<|wT 1 0 .sh d (λb5 b6=>?_)
 refine HN (Vw r names) Ug d [] (λs j=> [(13,.o 104 j),(38,.i (s:I))]) [13,38] (λy0=> [(13,.o 105 y0)]) [2,13,36,37,38] (λs j=>zD j<=s) (wsf [(2240,104)]) (by simp) (λs j a1 U=>?_) (λs j a1 U=>?_) (λy0 f=>?_)
 ·have a2:=U.2;obtain⟨e,V⟩:=Xn (l:=d) (i:=s) a1;refine su [(39,.b D)] [] [] [] (pe 0 (zB ((s:I)<(d.length:I))) p0)<|Qa<|ckT<|Qd<|Qa<|Qn<|su [(15,.p 15 0)] [39] [(15, [.s e.1,.h e.2])] [] (pn 0 V p0)<|su [(16,.p 16 0)] [] [(16, [.s e.1,.e 1])] [] p0<|Qa<|su [(49,.b (!(Qx names e.1)))] [] [] [] (pc 3 (Uz names e.1) p0)<|ck (!(Qx names e.1)) (λh5=>?_) (λh5=>?_)
  ·have ao:(Qx names e.1)=A:=Kj h5;refine rn [1,2,3,4,8,9,10,11,13,16,36,37,38] [4,16] (pc 3 (Lf r e.1) p0) ?_;refine wT 13 0 (.own D 104) j (λb7 b8=>?_);refine qu [(13,.one (.slc (.own D 3712) 2 (eA j (e.1,(X8 r e.1)))))] [13,15,16,49] [] [15,16] (pa j [(e.1,(X8 r e.1))] p0) ?_;refine eqn [(13,.o 3712 (j++ [(e.1,(X8 r e.1))]))] [13] [] [] (by rw[Wu]<;>kernel_rfl) ?_;refine ru [(38,.i ((s+1:uA):I))] [38] [] [] (pw 0 s p0) ?_;exact zE (j++ [(e.1,(X8 r e.1))]) (zH (wsf [(3712,104)]) ⟨Qp V (Qu h5 rfl) U.1,by first|omega|(simp;omega) | simp⟩)
  have ao:(Qx names e.1)=D:=Yu h5;refine Qd<|wT 13 0 (.own D 104) j (λb9 ba=>?_)
  refine ru [(13,.one (.slc (.own D 3712) 2 (eA j ((e.1, []):Qi))))] [13,15,16,49] [] [15,16] (pa j [((e.1, []):Qi)] p0) ?_;refine eqn [(13,.o 3712 (j++ [((e.1, []):Qi)]))] [13] [] [] (by rw[Wu]<;>kernel_rfl) ?_;refine ru [(38,.i ((s+1:uA):I))] [38] [] [] (pw 0 s p0) ?_;exact zE (j++ [((e.1, []):Qi)]) (zH (wsf [(3712,104)]) ⟨Qp V (Qh h5 rfl) U.1,by first|omega|(simp;omega) | simp⟩)
 ·have a2:=U.2;exact su [(39,.b A)] [] [] [] (pe 0 (zC ((s:I)<(d.length:I))) p0)<|Qa<|ckF<|Qv<|zE _ (zH (wsf [(104,105)]) (Xo a1 rfl U.1))
 refine su [(17,.i 0)] [] [] [] p0<|Qa<|su [(18,.i 0)] [] [] [] p0<|Qpz (He a d names) Gr ((W7 d)+1).toNat (y0,0) (λk1 p=> [(13,.o 105 p.1),(17,.i p.2),(18,.i (k1:I))]) [13,17,18] (λ_ _=> []) [] (λy1=> [(13,.o 105 y1.1),(17,.i y1.2)]) [1,3,4,11,13,17,18] (λ_=> []) [4] (λk1 p=>EvS d ((Qr d)).1 (onD d names) a.2.1 (((k1:uA)):I) p.1/\zD p.1=zD d) wf0 ⟨(by first | exact H3 f | exact H3 f.1 | exact Dw (fs:=a.2.1) (H3 f) | exact Dw (fs:=a.2.1) (H3 f.1)),(by first | exact H3 f | exact H3 f.1 | exact Dw (fs:=a.2.1) (H3 f) | exact Dw (fs:=a.2.1) (H3 f.1))⟩ (λk1 p a4 k=>?_) (λk1 p a4 k=>?_) (λy1 ap=>?_)
 ·have a5:=k.2.1;have a6:=k.2.2;refine Qa<|su [(63,.b D)] [] [] [] (pc 2 (QC d) (pe 3 (zB ((k1:I)<=(W7 d))) p0))<|ckT<|Qd<|Qa<|Qn<|su [(19,.b D)] [63] [] [] p0<|blw (λ(m:(H Qi)×I×uD)=> [(13,.o 105 m.1),(17,.i m.2.1),(19,.b m.2.2)]) [13,17,19] (λm=> []) [] (λ(x:(H Qi)×I)=> [(13,.o 105 x.1),(17,.i x.2)]) [13,17,19] (λx=> []) [] (λ(k2:uA) (m:(H Qi)×I×uD)=>whl (Vx a d names k1) k2 m=uB (N2 (Vx a d names k1) (zD d*zD a.2.1+2) (p.1,p.2,D))/\zD m.1=zD d) (λ(x:(H Qi)×I)=>(N2 (Vx a d names k1) (zD d*zD a.2.1+2) (p.1,p.2,D))= .brk x) (zD d*zD a.2.1+2) (p.1,p.2,D) wf0 ⟨Mv (Qea (by assumption) (by assumption)),(by assumption)⟩ (λ_ h=>P9 h.1) (λk2 m a7=>?_) (λx aq=>?_)
  ·have ar:=a7.2;refine Qa<|su [(66,.b m.2.2)] [] [] [] p0<|ck m.2.2 (λa8=>?_) (λa8=>?_)
   ·refine Qd<|Qn<|su [(19,.b A)] [19,66] [] [] p0<|sn [1,3,4,8,9,10,11,13,17,18,19] [4] p0<|tn [1,3,4,8,9,10,11,13,17,18,19,69,70,71] [4] (pl 1 d p0)<|mz [(17,.i (vA vB (m.2.1+1))),(69,.h d),(70,.i (d.length:I)),(71,.i 0)] [17] [] []<|SW (Hd a d names k1) Dn d (m.1,A) (λc b=> [(13,.o 105 b.1),(19,.b b.2),(71,.i (c:I))]) [13,19,71] (λy3=> [(13,.o 105 y3.1),(19,.b y3.2)]) [13,19,69,70,71] (λ_ b=>zD b.1=zD m.1) (λy3=>zD y3.1=zD m.1) wf0 (by simp) (λc b a9 n=>?_) (λc b a9 n=>?_) (λy3 ad=>?_)
    ·have aa:=n.2;obtain⟨g,w⟩:=Xn (l:=d) (i:=c) a9;refine su [(72,.b D)] [] [] [] (pe 0 (zB ((c:I)<(d.length:I))) p0)<|Qa<|ckT<|Qd<|Qa<|Qn<|sn [1,3,4,8,9,10,11,13,17,18,19,20,21,69,70,71] [4,21] (pn 1 w p0)<|Qa<|Qa<|mz [(20,.i (c:I)),(21,.p 21 0)] [72] [(21, [.s g.1,.h g.2])] []<|jn [(88,.b (((nth (((Qr d)).1) c) !=(k1:I))|| (!(Qx names g.1))))] [] [] [] ((nth (((Qr d)).1) c) !=(k1:I)) (λo=>?_) (λo=>?_) ?_
     ·have ae:=Sk o;refine wT 11 0 (.own D 1600) (((Qr d)).1) (λay az=>?_);have af:=ng (((Qr d)).1) c;exact ru [(88,.b D)] [] [] [] (pN 2 af (pt 5 o p0))<|zA (by rw[o]<;>kernel_rfl)
     ·have ae:=Ut o;refine wT 11 0 (.own D 1600) (((Qr d)).1) (λb1 b2=>?_);have ag:=ng (((Qr d)).1) c;exact ru [(88,.b (!(Qx names g.1)))] [] [] [] (pN 2 ag (pf 5 o (pc 10 (Uz names g.1) p0)))<|zA (by rw[o]<;>kernel_rfl)
     refine ck (((nth (((Qr d)).1) c) !=(k1:I))|| (!(Qx names g.1))) (λq=>?_) (λq=>?_)
     ·refine Qv<|rn [1,3,4,8,9,10,11,13,17,18,19,69,70,71] [4] (pw 0 c p0) ?_
      exact xw (b.1,b.2) ⟨Qp w (Qu q rfl) n.1,(by first|omega|(simp only[zF];omega))⟩
     have ah:(((nth (((Qr d)).1) c) !=(k1:I)))=A:=Sl q;have au:=Ut ah;have ai:((!(Qx names g.1)))=A:=Rz q;have av:(Qx names g.1)=D:=Yu ai;refine Qd<|su [(22,.o 5952 (Jc a g.2 b.1))] [21,88] [] [21] (pc 4 (HY a g.2 b.1) p0)<|wT 13 0 (.own D 105) b.1 (λb3 b4=>?_)
     have t:=ng b.1 c;refine sn [1,3,4,8,9,10,11,13,17,18,19,20,22,69,70,71,101] [4] (pN 3 t (pc 6 (Ss (Jc a g.2 b.1) ((nth b.1 c).2)) p0))<|ck (!(Vv (Jc a g.2 b.1) ((nth b.1 c).2))) (λu=>?_) (λu=>?_)
     ·have aj:(Vv (Jc a g.2 b.1) ((nth b.1 c).2))=A:=Kj u;refine tu [(13,.one (.slc (.own D 105) 2 (setRow (eL b.1) c 1 [.h (Jc a g.2 b.1)])))] [13,20,22] [] [] (pN 3 t p0) ?_;refine eqn [(13,.o 105 (zQ b.1 c ((nth b.1 c).1,(Jc a g.2 b.1))))] [13] [] [] (by rw[Wd (y:=((nth b.1 c).1,(Jc a g.2 b.1))) t rfl]<;>kernel_rfl) ?_;refine ru [(19,.b D)] [19] [] [] p0 ?_;refine ru [(71,.i ((c+1:uA):I))] [71] [] [] (pw 0 c p0) ?_;exact xw (zQ b.1 c ((nth b.1 c).1,(Jc a g.2 b.1)),D) ⟨Qp w (Qh q (Qu u rfl)) n.1,(by first|omega|(simp only[zF];omega))⟩
     have aj:(Vv (Jc a g.2 b.1) ((nth b.1 c).2))=D:=Yu u;refine Qd<|qu [(71,.i ((c+1:uA):I))] [20,22,71] [] [] (pw 0 c p0) ?_
     exact xw (b.1,b.2) ⟨Qp w (Qh q (Qh u rfl)) n.1,(by first|omega|(simp only[zF];omega))⟩
    ·have aa:=n.2;exact su [(72,.b A)] [] [] [] (pe 0 (zC ((c:I)<(d.length:I))) p0)<|Qa<|ckF<|Qv<|xw (b.1,b.2) ⟨Xo a9 rfl n.1,by first|omega|(simp only[zF];omega)⟩
    have aw:=ad.2;exact xw (y3.1,vA vB (m.2.1+1),y3.2) ⟨wn a7.1 (Qu a8 (Vz ad.1 rfl)),(by first|omega|(simp only[zF];omega))⟩
   exact Qv<|xw _ (wb a7.1 (Qh a8 rfl))
  refine rn [1,3,4,8,9,10,11,13,17,18] [4] (pw 1 k1 p0) ?_;exact xw (x.1,x.2) ⟨Kb a4 (Vz aq rfl) k.1,(by first | exact M0 (by assumption) (by assumption) (by assumption) | exact Dw (fs:=a.2.1) (M0 (by assumption) (by assumption) (by assumption))),(by first | exact M0 (by assumption) (by assumption) (by assumption) | exact Dw (fs:=a.2.1) (M0 (by assumption) (by assumption) (by assumption)))⟩
 ·have a5:=k.2.1;have a6:=k.2.2;exact Qa<|su [(63,.b A)] [] [] [] (pc 2 (QC d) (pe 3 (zC ((k1:I)<=(W7 d))) p0))<|ckF<|Qv<|xw _ (Hu a4 rfl k.1)
 exact sn [8,9,10] [] p0<|Qc<|pz [] (show Zm a d r names=_ from Qh h2 (Vz f (Vz ap rfl))) (λz=> .tup [(A, [.o 0 z.1]),(A, [.i z.2.1]),(A, [.b z.2.2])])
def J8(a:X2)(d:H Yj):(H Qi)×uD:=(((Zm a d [] (Zd d))).1,((Zm a d [] (Zd d))).2.2)
theorem LF(a:X2)(d:H Yj):ACalls vC 153 [.a [.h a.1,.h a.2.1,.i a.2.2],.h d] (.tup [(A, [.o 0 (((J8 a d)).1)]),(A, [.b (((J8 a d)).2)])]):=by
 refine en func153 λ_ _ _=>sn [1,2,4,5] [2] p0 ?_
 exact tN [4,5,6,8] [] (pc 3 (Mz d) (pc 4 (Qd8 (.cons (ArgLe.rfl _) (.cons (ArgLe.rfl _) (.cons (ArgLe.nil 2) (.cons (ArgLe.rfl _) (.nil))))) (XY a d [] (Zd d))) p0))<|tu [(4,.o 896 (((Zm a d [] (Zd d))).1)),(5,.b (((Zm a d [] (Zd d))).2.2))] [0,1] [] [] p0<|Qc<|pz [] (show J8 a d=(((Zm a d [] (Zd d))).1,((Zm a d [] (Zd d))).2.2) from rfl) (λz=> .tup [(A, [.o 0 z.1]),(A, [.b z.2])])
def Be(_:uA)(a:I)(b:I):Rd (I) (I) (I):=(bif decide (a>b) then(.next a) else(.next b))
def Fj(_:uA)(a:I):I:=a
def V3(d:H Yj):I:=(Out.on (X5 Be Fj (((Xj d)).1) 0 (-1)) (λa=>a))
theorem Gt(d:H Yj):ACalls vC 252 [.h d] (.i (V3 d)):=by
 refine en func252 λ_ _ _=>sn [0,2] [] p0 ?_
 refine tn [2,3] [] (pc 1 (Re d) p0)<|tu [(2,.i 0),(3,.o 576 (((Xj d)).1)),(5,.i (-1))] [0] [] [] p0<|Qa<|sn [2,3,5,6] [] p0<|mz [(6,.i 0)] [] [] []<|wT 3 0 (.own D 576) (((Xj d)).1) (λj k=>?_)
 refine S8 Be Fj (((Xj d)).1) (-1) (λa c=> [(5,.i c),(6,.i (a:I))]) [5,6] (λg=> [(5,.i g)]) [3,5,6] wf0 (λa c b U=>?_) (λa c b U=>?_) (λg e=>?_)
 ·obtain⟨h,V⟩:=Xn (l:=((Xj d)).1) (i:=a) b;refine Qa<|sn [2,3,5,6,15] [] (pl 2 (((Xj d)).1) (pe 3 (zB ((a:I)<((((Xj d)).1).length:I))) p0))<|ckT<|Qd<|Qa<|Qn<|tn [2,3,5,6,23] [] (pN 2 V p0)<|ck (decide (h>c)) (λf=>?_) (λf=>?_)
  ·refine qu [(5,.i h)] [5] [] [] (pN 2 V p0) ?_;refine rn [2,3,5,6] [] (pw 1 a p0) ?_;exact xw _ (Qp V (Qu f rfl) U)
  refine Qd<|qu [(6,.i ((a+1:uA):I))] [6] [] [] (pw 1 a p0) ?_
  exact xw _ (Qp V (Qh f rfl) U)
 ·exact Qa<|sn [2,3,5,6,15] [] (pl 2 (((Xj d)).1) (pe 3 (zC ((a:I)<((((Xj d)).1).length:I))) p0))<|ckF<|Qv<|xw _ (Xo b rfl U)
 exact sn [2] [] p0<|Qc<|pi [] (Vz e rfl)
def Fk(_:uA)(a:Yj)(b:H Qi):Rd ((H Qi)×I×uD) (H Qi) (H Qi):=(.next (b++ [((a.1, []):Qi)]))
def Lm(_:uA)(a:H Qi):(H Qi):=a
def Ce(c:X2)(d:H Yj)(f:uA)(b:uA)(e:Yj)(a:(H Qi)×uD):Rd (Rd (Rd ((H Qi)×I×uD) ((H Qi)×I) ((H Qi)×I)) ((H Qi)×I×uD) ((H Qi)×I)) ((H Qi)×uD) ((H Qi)×uD):=(bif ((nth (((Xj d)).1) b) !=(f:I)) then(.next (a.1,a.2)) else(bif (!(Vq (Ze c e.2 a.1) ((nth a.1 b).2))) then(.next (zQ a.1 b ((nth a.1 b).1,(Ze c e.2 a.1)),D)) else(.next (a.1,a.2))))
def Oh(_:uA)(a:(H Qi)×uD):(H Qi)×uD:=(a.1,a.2)
def Aw(c:X2)(d:H Yj)(e:uA)(a:(H Qi)×I×uD):Rd (Rd ((H Qi)×I×uD) ((H Qi)×I) ((H Qi)×I)) ((H Qi)×I×uD) ((H Qi)×I):=(bif a.2.2 then(Out.on (X5 (Ce c d e) Oh d 0 (a.1,A)) (λb=>(.next (b.1,vA vB (a.2.1+1),b.2)))) else(.brk (a.1,a.2.1)))
def Oi(a:X2)(d:H Yj)(e:uA)(b:(H Qi)×I):Rd ((H Qi)×I×uD) ((H Qi)×I) ((H Qi)×I):=(Out.on (N2 (Aw a d e) (zD d*zD a.2.1+2) (b.1,b.2,D)) (λc=>(.next (c.1,c.2))))
def WK(_:uA)(a:(H Qi)×I):(H Qi)×I:=(a.1,a.2)
def Bf(a:X2)(d:H Yj):(H Qi)×I×uD:=(bif ((!(((Xj d)).2))|| (!(Xa a))) then([],0,A) else(Out.on (X5 Fk Lm d 0 []) (λc=>(Out.on (Vj (Oi a d) WK ((V3 d)+1).toNat 0 (c,0)) (λb=>(b.1,b.2,D))))))
theorem Qeb{B:I}:∀(x:H I) (k:uA) (s:I),(∀a,a∈x->a<=B)->s<=B->∃t,X5 Be Fj x k s= .brk t/\t<=B
 | [],k,s,_,h=>⟨s,rfl,h⟩
 | a::x,k,s,hx,h=>by
  simp only[X5,Be];cases c:decide (a>s) with
  | true=>exact Qeb x (k+1) a (λb hb=>hx b (zL _ hb)) (hx a (zV ..))
  | false=>exact Qeb x (k+1) s (λb hb=>hx b (zL _ hb)) h
theorem Oj{d:H Yj}(h:((Xj d)).2=D):zD ((Xj d)).1=zD d/\zD d<=5/\V3 d<=5:=by
 have b:=h;rw[Uo] at b;obtain⟨c,f,g⟩:=Ir b;unfold V3;rw[Uo];obtain⟨t,e,i⟩:=Qeb (B:=5) ((Qr d)).1 0 (-1) (λa ha=>(g a ha).2) (by omega);refine⟨c,f, ?_⟩;rw[e];exact i
theorem Qec(e:X2)(d:H Yj)(b:uA):Qme e d (Qr d).1 (λ_=>D) (b:I) (Ce e d b):=by
 intro k a o c f;unfold Ce Qa6;rw[DK,Uo,←Qz0];simp only[bne];cases(nth (Qr d).1 k==(b:I))<;>rfl
section
variable {s_:X2} {d:H Yj} {k1:uA} {o:H Qi} {p:I}
theorem NV(a:((Xj d)).2=D)(h:EvS d ((Xj d)).1 (λ_=>D) s_.2.1 (k1:I) o):∃o' b,whl (Aw s_ d k1) (zD d*zD s_.2.1+2) (o,p,D)=uB (.brk (o',b))/\EvS d ((Xj d)).1 (λ_=>D) s_.2.1 ((k1:I)+1) o':=by
 rw[Uo] at a h⊢;exact Qsg (f:=Ce s_ d k1) (e:=Oh) (Qec s_ d k1) (λ_ _=>rfl) (λ_=>rfl) (Prod.ext rfl a) h p
theorem Qqo(a:((Xj d)).2=D)(h:EvS d ((Xj d)).1 (λ_=>D) s_.2.1 (((k1:uA)):I) o):(whl (Aw s_ d k1) (zD d*zD s_.2.1+2) (o,p,D)).isSome=D:=by
 obtain⟨c,e,b,_⟩:=NV (p:=p) a h;rw[b];rfl
theorem Tr{y:H Qi×I}(b:((Xj d)).2=D)(h:EvS d ((Xj d)).1 (λ_=>D) s_.2.1 (((k1:uA)):I) o)(a:N2 (Aw s_ d k1) (zD d*zD s_.2.1+2) (o,p,D)= .brk y):EvS d ((Xj d)).1 (λ_=>D) s_.2.1 ((((k1+1):uA)):I) y.1:=by
 obtain⟨c,f,g,i⟩:=NV (p:=p) b h;unfold N2 at a;rw[g] at a;have e:(c,f)=y:=by simpa using a
 rw[←e,xE];exact i
theorem C4(b:X5 Fk Lm d 0 []= .brk o):EvS d ((Xj d)).1 (λ_=>D) s_.2.1 (((0:uA)):I) o:=by
 obtain⟨c,h⟩:=ZA (L:=((Xj d)).1) (on:=λ_=>D) (fs:=s_.2.1) (g:=λ_=> []) (f:=Fk) (e:=Lm) (d:=d) (λk a s=>rfl) (λj _ i=>rfl);rw[c] at b;have e:(d.map λa=>((a.1,([]:H I)):Qi))=o:=Out.brk.inj b;rw[←e];exact h
end
theorem Qa7(a:X2)(d:H Yj):ACalls vC 188 [.a [.h a.1,.h a.2.1,.i a.2.2],.h d] (.tup [(A, [.o 0 (((Bf a d)).1)]),(A, [.i (((Bf a d)).2.1)]),(A, [.b (((Bf a d)).2.2)])]):=by
 refine en func188 λ_ _ _=>sn [1,2,4,5,6] [2] p0 ?_
 refine tn [1,2,4,5,6,7,8] [2] (pc 1 (Re d) p0)<|Qa<|Qa<|mz [(2,.p 2 0),(4,.e 0),(5,.i 0),(6,.b A),(7,.o 1152 (((Xj d)).1)),(8,.b (((Xj d)).2))] [0] [(2, [.h a.1,.h a.2.1,.i a.2.2])] []<|jn [(27,.b ((!(((Xj d)).2))|| (!(Xa a))))] [8] [] [] (!(((Xj d)).2)) (λh1=>?_) (λh1=>?_) ?_
 ·have r:(((Xj d)).2)=A:=Kj h1;exact ru [(27,.b D)] [8] [] [] (pf 0 r (pe 1 (show .b (!A)= .b D from rfl) p0))<|zA (by rw[h1]<;>kernel_rfl)
 ·have r:(((Xj d)).2)=D:=Yu h1;have ad:=Oj r;exact rn [1,2,4,5,6,7,27] [2] (pt 0 r (pe 1 (show .b (!D)= .b A from rfl) (pc 4 (Kf a) p0)))<|zA (by rw[h1]<;>kernel_rfl)
 refine ck ((!(((Xj d)).2))|| (!(Xa a))) (λh2=>?_) (λh2=>?_)
 ·exact sn [1,2,4,5,6,7] [2] p0<|Qc<|pz [] (show Bf a d=_ from Qu h2 rfl) (λz=> .tup [(A, [.o 0 z.1]),(A, [.i z.2.1]),(A, [.b z.2.2])])
 have ae:((!(((Xj d)).2)))=A:=Sl h2;have a7:(((Xj d)).2)=D:=Yu ae;have ab:=Oj a7;have af:((!(Xa a)))=A:=Rz h2;have al:(Xa a)=D:=Yu af;refine Qd<|sn [1,2,4,5,6,7,9] [2] p0<|Qa<|tn [1,2,4,5,6,7,9,10] [2] p0<|mz [(9,.one (.slc (.own D 1856) 2 [])),(10,.i 0)] [27] [] []<|wT 1 0 .sh d (λap aq=>?_)
 refine HN Fk Lm d [] (λs q=> [(9,.o 104 q),(10,.i (s:I))]) [9,10] (λy0=> [(9,.o 105 y0)]) [9,10] (λs q=>zD q<=s) (wsf [(1856,104)]) (by simp) (λs q v U=>?_) (λs q v U=>?_) (λy0 e=>?_)
 ·have w:=U.2;obtain⟨a0,V⟩:=Xn (l:=d) (i:=s) v;refine Qa<|su [(33,.b D)] [] [] [] (pl 2 d (pe 3 (zB ((s:I)<(d.length:I))) p0))<|ckT<|Qd<|Qa<|Qn<|wT 9 0 (.own D 104) q (λar au=>?_)
  refine ru [(9,.one (.slc (.own D 2880) 2 (eA q ((a0.1, []):Qi))))] [9,33] [] [] (pn 3 V (pa q [((a0.1, []):Qi)] p0)) ?_;refine eqn [(9,.o 2880 (q++ [((a0.1, []):Qi)]))] [9] [] [] (by rw[Wu]<;>kernel_rfl) ?_;refine rn [1,2,4,5,6,7,9,10] [2] (pw 1 s p0) ?_;exact zE (q++ [((a0.1, []):Qi)]) (zH (wsf [(2880,104)]) ⟨Qp V rfl U.1,by first|omega|(simp;omega) | simp⟩)
 ·have w:=U.2;exact Qa<|su [(33,.b A)] [] [] [] (pl 2 d (pe 3 (zC ((s:I)<(d.length:I))) p0))<|ckF<|Qv<|zE _ (zH (wsf [(104,105)]) (Xo v rfl U.1))
 refine su [(11,.i 0)] [] [] [] p0<|Qa<|su [(12,.i 0)] [] [] [] p0<|Qpz (Oi a d) WK ((V3 d)+1).toNat (y0,0) (λk1 k=> [(9,.o 105 k.1),(11,.i k.2),(12,.i (k1:I))]) [9,11,12] (λ_ _=> []) [] (λy1=> [(9,.o 105 y1.1),(11,.i y1.2)]) [1,2,7,9,11,12] (λ_=> []) [2] (λk1 k=>EvS d ((Xj d)).1 (λ_=>D) a.2.1 (((k1:uA)):I) k.1/\zD k.1=zD d) wf0 ⟨(by first | exact C4 e | exact C4 e.1 | exact Dw (fs:=a.2.1) (C4 e) | exact Dw (fs:=a.2.1) (C4 e.1)),(by first | exact C4 e | exact C4 e.1 | exact Dw (fs:=a.2.1) (C4 e) | exact Dw (fs:=a.2.1) (C4 e.1))⟩ (λk1 k x f=>?_) (λk1 k x f=>?_) (λy1 ag=>?_)
 ·have a1:=f.2.1;have a2:=f.2.2;refine Qa<|su [(49,.b D)] [] [] [] (pc 2 (Gt d) (pe 3 (zB ((k1:I)<=(V3 d))) p0))<|ckT<|Qd<|Qa<|Qn<|su [(13,.b D)] [49] [] [] p0<|blw (λ(g:(H Qi)×I×uD)=> [(9,.o 105 g.1),(11,.i g.2.1),(13,.b g.2.2)]) [9,11,13] (λg=> []) [] (λ(u:(H Qi)×I)=> [(9,.o 105 u.1),(11,.i u.2)]) [9,11,13] (λu=> []) [] (λ(k2:uA) (g:(H Qi)×I×uD)=>whl (Aw a d k1) k2 g=uB (N2 (Aw a d k1) (zD d*zD a.2.1+2) (k.1,k.2,D))/\zD g.1=zD d) (λ(u:(H Qi)×I)=>(N2 (Aw a d k1) (zD d*zD a.2.1+2) (k.1,k.2,D))= .brk u) (zD d*zD a.2.1+2) (k.1,k.2,D) wf0 ⟨Mv (Qqo (by assumption) (by assumption)),(by assumption)⟩ (λ_ h=>P9 h.1) (λk2 g a4=>?_) (λu ah=>?_)
  ·have ai:=a4.2;refine Qa<|su [(52,.b g.2.2)] [] [] [] p0<|ck g.2.2 (λh7=>?_) (λh7=>?_)
   ·refine Qd<|Qn<|su [(13,.b A)] [13,52] [] [] p0<|sn [1,2,4,5,6,7,9,11,12,13] [2] p0<|tn [1,2,4,5,6,7,9,11,12,13,14] [2] p0<|mz [(11,.i (vA vB (g.2.1+1))),(14,.i 0)] [11] [] []<|SW (Ce a d k1) Oh d (g.1,A) (λc b=> [(9,.o 105 b.1),(13,.b b.2),(14,.i (c:I))]) [9,13,14] (λy3=> [(9,.o 105 y3.1),(13,.b y3.2)]) [9,13,14] (λ_ b=>zD b.1=zD g.1) (λy3=>zD y3.1=zD g.1) wf0 (by simp) (λc b a5 j=>?_) (λc b a5 j=>?_) (λy3 a8=>?_)
    ·have a6:=j.2;obtain⟨n,t⟩:=Xn (l:=d) (i:=c) a5;refine Qa<|su [(58,.b D)] [] [] [] (pl 2 d (pe 3 (zB ((c:I)<(d.length:I))) p0))<|ckT<|Qd<|Qa<|Qn<|Qa<|wT 7 0 (.own D 1152) (((Xj d)).1) (λav am=>?_)
     have aj:=ng (((Xj d)).1) c;refine sn [1,2,4,5,6,7,9,11,12,13,14,66] [2] (pN 2 aj p0)<|ck ((nth (((Xj d)).1) c) !=(k1:I)) (λm=>?_) (λm=>?_)
     ·have a9:=Sk m;refine Qv<|qn [1,2,4,5,6,7,9,11,12,13,14] [2] (pw 1 c p0) ?_
      exact xw (b.1,b.2) ⟨Qp t (Qu m rfl) j.1,(by first|omega|(simp only[zF];omega))⟩
     have a9:=Ut m;refine Qd<|tN [1,2,4,5,6,7,9,11,12,13,14,15] [2] (pn 3 t (pc 7 (Sr a n.2 b.1) p0))<|wT 9 0 (.own D 105) b.1 (λan ao=>?_)
     have o:=ng b.1 c;refine tu [(15,.o 4736 (Ze a n.2 b.1)),(82,.b (!(Vq (Ze a n.2 b.1) ((nth b.1 c).2))))] [58] [] [] (pN 3 o (pc 6 (Od (Ze a n.2 b.1) ((nth b.1 c).2)) p0))<|ck (!(Vq (Ze a n.2 b.1) ((nth b.1 c).2))) (λp=>?_) (λp=>?_)
     ·have aa:(Vq (Ze a n.2 b.1) ((nth b.1 c).2))=A:=Kj p;refine su [(9,.one (.slc (.own D 105) 2 (setRow (eL b.1) c 1 [.h (Ze a n.2 b.1)])))] [9,15,82] [] [] (pN 3 o p0) ?_;refine eqn [(9,.o 105 (zQ b.1 c ((nth b.1 c).1,(Ze a n.2 b.1))))] [9] [] [] (by rw[Wd (y:=((nth b.1 c).1,(Ze a n.2 b.1))) o rfl]<;>kernel_rfl) ?_;refine ru [(13,.b D)] [13] [] [] p0 ?_;refine rn [1,2,4,5,6,7,9,11,12,13,14] [2] (pw 1 c p0) ?_;exact xw (zQ b.1 c ((nth b.1 c).1,(Ze a n.2 b.1)),D) ⟨Qp t (Qh m (Qu p rfl)) j.1,(by first|omega|(simp only[zF];omega))⟩
     have aa:(Vq (Ze a n.2 b.1) ((nth b.1 c).2))=D:=Yu p;refine Qd<|rn [1,2,4,5,6,7,9,11,12,13,14] [2] (pw 1 c p0) ?_
     exact xw (b.1,b.2) ⟨Qp t (Qh m (Qh p rfl)) j.1,(by first|omega|(simp only[zF];omega))⟩
    ·have a6:=j.2;exact Qa<|su [(58,.b A)] [] [] [] (pl 2 d (pe 3 (zC ((c:I)<(d.length:I))) p0))<|ckF<|Qv<|xw (b.1,b.2) ⟨Xo a5 rfl j.1,by first|omega|(simp only[zF];omega)⟩
    have ak:=a8.2;exact xw (y3.1,vA vB (g.2.1+1),y3.2) ⟨wn a4.1 (Qu h7 (Vz a8.1 rfl)),(by first|omega|(simp only[zF];omega))⟩
   exact Qv<|xw _ (wb a4.1 (Qh h7 rfl))
  refine rn [1,2,4,5,6,7,9,11,12] [2] (pw 1 k1 p0) ?_;exact xw (u.1,u.2) ⟨Kb x (Vz ah rfl) f.1,(by first | exact Tr (by assumption) (by assumption) (by assumption) | exact Dw (fs:=a.2.1) (Tr (by assumption) (by assumption) (by assumption))),(by first | exact Tr (by assumption) (by assumption) (by assumption) | exact Dw (fs:=a.2.1) (Tr (by assumption) (by assumption) (by assumption)))⟩
 ·have a1:=f.2.1;have a2:=f.2.2;exact Qa<|su [(49,.b A)] [] [] [] (pc 2 (Gt d) (pe 3 (zC ((k1:I)<=(V3 d))) p0))<|ckF<|Qv<|xw _ (Hu x rfl f.1)
 exact sn [4,5,6] [] p0<|Qc<|pz [] (show Bf a d=_ from Qh h2 (Vz e (Vz ag rfl))) (λz=> .tup [(A, [.o 0 z.1]),(A, [.i z.2.1]),(A, [.b z.2.2])])
def Wo(a:X2)(d:H Yj):(H Qi)×uD:=(((Bf a d)).1,((Bf a d)).2.2)
theorem LG(a:X2)(d:H Yj):ACalls vC 127 [.a [.h a.1,.h a.2.1,.i a.2.2],.h d] (.tup [(A, [.o 0 (((Wo a d)).1)]),(A, [.b (((Wo a d)).2)])]):=by
 refine en func127 λ_ _ _=>sn [1,2,4,5] [2] p0 ?_
 exact tn [4,5,6,8] [] (pc 2 (Qa7 a d) p0)<|tu [(4,.o 768 (((Bf a d)).1)),(5,.b (((Bf a d)).2.2))] [0,1] [] [] p0<|Qc<|pz [] (show Wo a d=(((Bf a d)).1,((Bf a d)).2.2) from rfl) (λz=> .tup [(A, [.o 0 z.1]),(A, [.b z.2])])
end
section
open Go.RowKit
theorem El(v:uI)(l:H uI):Qx l v=D↔v∈l:=by
 unfold Qx D4
 have key:∀(l:H uI) (k:uA),(0:I)<=((X5 (H2 v) Cc l k ()).on λ_=> -1)↔v∈l:=by
  intro l
  induction l with
  | nil=>intro k;simp[X5,Out.on]
  | cons a l d=>
    intro k;simp only[X5,H2];have b:(v.toList==a.toList)=decide (v=a):=toList_inj;cases c:(v.toList==a.toList) with
    | true=>
      obtain rfl:v=a:=by rw[c] at b;exact uT b.symm
      simp[Out.on]
    | false=>
      have h:v≠a:=by rw[c] at b;exact uL b.symm
      simp only[uH];refine(d (k+1)).trans ?_;simp[h]
 exact decide_eq_true_iff.trans (key l 0)
theorem KG(d:H Yj):Zd d=d.map (·.1):=by
 unfold Zd;rw[Ww (f:=Pp) (g:=λa:Yj=>a.1) (λ_ _ _=>rfl)];simp[Out.on,Pq]
theorem XZ{d:H Yj}{i:uA}{a:Yj}(h:d[i]? =uB a):Qx (Zd d) a.1=D:=by
 rw[El,KG];exact List.mem_map.2 ⟨a,xI h,rfl⟩
theorem Qgn(x:H I):∀(n k:uA) (s:I),k+1+n=x.length->Vj (B3 x) Gq n k s= .brk ((x.drop (k+1)).foldl max s)
 | 0,k,s,h=>by rw[List.drop_eq_nil_of_le (by omega)];rfl
 | n+1,k,s,h=>by
   have a:x[k+1]? =uB (nth x (k+1)):=Hn (by omega);rw[EY a];simp only[Vj,B3,xF];exact Qgn x n (k+1) _ (by omega)
theorem FX:∀(x:H I) (k:uA) (s:I),X5 Be Fj x k s= .brk (x.foldl max s)
 | [],k,s=>rfl
 | a::x,k,s=>by
   simp only[X5,Be,xF];by_cases h:a>s
   . rw[uP h,uJ,show max s a=a by omega];exact FX x (k+1) a
   rw[uO h,uH,show max s a=s by omega];exact FX x (k+1) s
theorem WL(d:H Yj):V3 d=W7 d:=by
 unfold V3 W7;rw[Uo,FX];simp only[Out.on];cases b:(Qr d).2 with
 | false=>
   have :(Qr d).1= []:=by
    unfold Qr at b⊢;cases g:Qo d with
    | false=>rfl
    | true=>
      rw[g] at b;simp only[yE,uH] at b⊢;have i:=Hl g;have hw:=Pm (d:=d) (f:=Ar d) (e:=Au) (F:=Ux d) (λ_ _ _=>rfl) (λ_ _=>rfl) (λ_=>rfl) (by omega) (d.length*d.length+3) (zG d.length 0) D (D1 _).1 (D1 _).2
      have c:(VX (Kx d) d.length d.length (d.length*d.length+3) (D,zG d.length 0)).isSome=D:=by
       have:=Iq d i;rw[yH,hw,Option.isSome_map] at this;exact this
      obtain⟨r,j⟩:=Option.isSome_iff_exists.1 c;unfold N2 at b⊢;rw[yH,hw,j] at b⊢;cases r with
      | none=>rfl
      | some M=>simp[Qvz,Out.on] at b
   rw[this];rfl
 | true=>
   obtain⟨l,m,h⟩:=Ir b;simp only[yE,Bool.false_or];generalize(Qr d).1=x at h;cases x with
   | nil=>rfl
   | cons a x=>
     have n:=(h a (zV ..)).1
     have e:((((a::x).length:uA):I)==(0:I))=A:=by
      rw[uZ,List.length_cons];omega
     rw[e,uH];unfold Og;rw[Qgn _ _ _ _ (by simp;omega)];simp only[Out.on,xF,yA,List.drop_succ_cons,List.drop_zero];have k:nth (a::x) 0=a:=rfl;rw[show max (-1) a=a by omega,k]
theorem Qwv(s:X2)(d:H Yj)(b k:uA)(a:Yj)(t:H Qi×uD)(h:d[k]? =uB a):Ce s d b k a t=Hd s d (Zd d) b k a t:=by
 unfold Ce Hd;rw[XZ h,Uo,←Qz0,DK,Qd9];simp
theorem Qww(s:X2)(d:H Yj)(k1:uA):Aw s d k1=Vx s d (Zd d) k1:=by
 funext t
 unfold Aw Vx;rw[YU (f:=Ce s d k1) (g:=Hd s d (Zd d) k1) (e:=Oh) (e':=Dn) (λ_ _=>rfl) d 0 _ (λi a t h=>by rw[yA];exact Qwv s d k1 i a t h)]
theorem Qwx(s:X2)(d:H Yj):Bf s d=Zm s d [] (Zd d):=by
 unfold Bf Zm;rw[Uo,D2,WL];rw[YU (f:=Fk) (g:=Vw [] (Zd d)) (e:=Lm) (e':=Ug) (λ_ _=>rfl) d 0 _ (λi a t h=>by unfold Fk Vw;rw[XZ h];rfl)]
 congr 1
 congr 1
 funext y
 rw[show Oi s d=He s d (Zd d) from by funext k t;unfold Oi He;rw[Qww]];rfl
theorem FY(s:X2)(d:H Yj):Wo s d=J8 s d:=by
 unfold Wo J8;rw[Qwx]
theorem Qa8{s:X2}{d:H Yj}{names:H uI}{r:H Qi}(h:(Zm s d r names).2.2=D):zD d<=5/\Qq s=D/\(Zm s d r names).1.map (·.1)=d.map (·.1)/\∀j,j<d.length->onD d names j=D->∃p:Xt->uD,(nth (Zm s d r names).1 j).2=sel s.2.1 (λf=>f.1) p:=by
 unfold Zm at h⊢;cases i:((!(((Qr d)).2))|| (!(Qq s))) with
 | true=>rw[i] at h;simp at h
 | false=>
   have t:((Qr d)).2=D:=Yu (Sl i);have u:Qq s=D:=Yu (Rz i);simp only[uH]
   obtain⟨v,w⟩:=ZA (L:=((Qr d)).1) (on:=onD d names) (fs:=s.2.1) (g:=Ni r names) (f:=Vw r names) (e:=Ug) (d:=d) (λk a s=>by
    unfold Vw Ni;cases Qx names a.1<;>rfl) (λj _ b=>by unfold onD at b;unfold Ni;rw[b];rfl)
   rw[v]
   have key:∀(n k:uA) (o:H Qi) (p:I),EvS d ((Qr d)).1 (onD d names) s.2.1 (((k:uA)):I) o->∃o' x,Vj (He s d names) Gr n k (o,p)= .brk (o',x)/\EvS d ((Qr d)).1 (onD d names) s.2.1 (((k+n:uA)):I) o':=by
    intro n
    induction n with
    | zero=>intro k o p l;exact⟨o,p,rfl,l⟩
    | succ n y=>
      intro k o p l;obtain⟨o1,z,m,c⟩:=Ll (p:=p) t l;obtain⟨o2,p2,g3,g4⟩:=y (k+1) o1 z (by rw[xE];exact c);refine⟨o2,p2, ?_,by rw[show k+(n+1)=k+1+n by omega];exact g4⟩;simp only[Vj];unfold He N2;rw[m];exact g3
   obtain⟨o,p,m,c⟩:=key (zS (W7 d+1)) 0 _ 0 w;simp only[Out.on,Ug];rw[m];exact⟨(Ir t).2.1,u,c.names,λj b q=>c.some_ j b q⟩
theorem FZ{s:X2}{d:H Yj}(h:(J8 s d).2=D):zD d<=5/\Qq s=D/\(J8 s d).1.map (·.1)=d.map (·.1)/\∀x,x∈(J8 s d).1->∃p:Xt->uD,x.2=sel s.2.1 (λf=>f.1) p:=by
 unfold J8 at h⊢;obtain⟨g,j,b,k⟩:=Qa8 h;refine⟨g,j,b,λx l=>?_⟩;obtain⟨i,c⟩:=yJ l;have e:(Zm s d [] (Zd d)).1.length=d.length:=by have:=uR zD b;simpa using this
 have m:i<(Zm s d [] (Zd d)).1.length:=(zP.1 c).1;have a:i<d.length:=by omega
 have:=k i a (by unfold onD;exact XZ (Hn a));rw[T7 c] at this;exact this
def NW(G:uA->Prop)(L:H uA):Inj:=⟨G,λk=>if k=63 then L else [],λ_=>0⟩
theorem Qqp{P:uW}{tt:H (uA×TI)}(a5:S6 P tt=D){f:uA}{fn:Func}{c:Code}(hf:P.funcs[f]? =uB fn)(a:fn.body=uB c)(a6:Iy P f){n:uA}{l l':H (H PV)}{args:H AV}
 (hn:args.length+1<=fn.ntmps) (y:∀x,x∈args->∀c,c∈x.cells->c.key=uC/\c.bkeys= []) {t:uA} (hr:fn.results.toList= [.tmp t])
 (h:∀w0 F0,GoodAt P w0->AWP P fn.ntmps w0 F0 c (λe s=>(e= .ret\/e= .normal)/\∃k,get s.tm t=uB (.one (.slc (.own A k) n l'))) (HF (.one (.slc (.own A 63) n l)::args))):ATake P f n l args D A l':=by
 refine⟨a6,λw F G L v d z a7 a1 a8 a9 aa a2 o=>calls_of_wp hf a ?_⟩;have ah:=o.length;have a1:=a1 rfl;have ab:(NW G L).L 63=L:=by show(if 63=63 then L else [])=L;simp
 refine wp_mono (h ⟨w,λb=>b∈L,uC⟩ G z (NW G L) _ w ?_) ?_
 . have q:∀k b,b∈(NW G L).L k->k=63/\b∈L:=λk b g=>by
    have g:b∈(if k=63 then L else []):=g;split at g
    . rename_i e;exact⟨e,g⟩
    simp at g
   refine {below:=Base.Keeps.refl _,nodef:=rfl,size:= ?_,fl:=λb a=>⟨a8 b a,.inl a⟩,f0:=λb a=>a,nd:=λk=>?_,lo:=λk b a=>⟨.inr (q k b a).2,aa b (q k b a).2⟩,dj:=λk k' b a ad=>(q k b a).1.trans (q k' b ad).1.symm,bo:=λk c hc=>by simp[HF,get] at hc,nb:= .inl rfl,cb:=(λb a=>by cases a),bi:=λk k' c c' hc=>by simp[HF,get] at hc,tm:=λt v' hv=>?_}
   . simp;omega
   . show(if k=63 then L else []:H uA).Nodup;split
     . exact a9
     exact List.nodup_nil
   obtain⟨_,ht⟩:=XJ hv
   have p:All2 (AR (NW G L) w) (v::d) (.one (.slc (.own A 63) n l)::args):=by
    refine .cons ?_ ?_
    . show OwnTop G ((NW G L).L 63) w v n l;rw[ab];exact OwnTop.keep a2 (λb a=>⟨a7 b a,rfl⟩) λ_ _=>rfl
    have key:∀{vs:H uF} {ys:H AV},All2 (AR (LA G) w) vs ys->(∀x,x∈ys->∀c,c∈x.cells->c.key=uC/\c.bkeys= [])->All2 (AR (NW G L) w) vs ys:=by
     intro vs ys ha
     induction ha with
     | nil=>intro _;exact .nil
     | cons h1 _ ih=>
       intro hx;refine .cons (h1.keep λc hc=>?_) (ih λx g=>hx x (zL _ g));obtain⟨e1,e2⟩:=hx _ (zV ..) c hc;exact⟨λb a=>⟨a,rfl⟩,(λk y=>by rw[e1] at y;cases y),(λk y=>by rw[e2] at y;simp at y)⟩
    exact key o y
   obtain⟨u,hu,hr⟩:=p.get' ht;have ae:t<(v::d).length:=(zP.1 hu).1
   have:((v::d).toArray++Array.replicate (fn.ntmps-(v::d).toArray.size) undef).getD t undef=u:=by
    rw[yD,Array.getElem?_append_left (by simpa using ae)];simp at hu⊢;rw[hu];rfl
   rw[this];exact hr
 rintro e a' w' ⟨J',s',i,he,k,af⟩
 have a3:∃u,(results fn a'.tmps).run P w'= .ok u w'/\AR J' w' u (.one (.slc (.own A k) n l')):=by
  obtain⟨us,r,p⟩:=VE (P:=P) a5 i (rs:= [.tmp t]) (vs:= [.one (.slc (.own A k) n l')]) (by simp[TW,af]);rw[←hr] at r
  have g:(fn.results.mapM (EP a'.tmps)).run P w'= .ok us.toArray w':=by
   rw[Array.mapM_eq_mapM_toList];simp[r]
  have a4:(results fn a'.tmps).run P w'= .ok (if h:us.toArray.size=1 then us.toArray[0] else .tuple us.toArray) w':=by
   rw[HG];simp only[Sem.run_bind,g,Result.andThen_ok,Sem.run_pure]
  cases p with
  | cons h1 h2=>
    cases h2
    exact⟨_,by rw[a4];simp,h1⟩
 obtain⟨u,h1,h2⟩:=a3
 have hT:Qxp F L w n A l' (.returned u) w':=by
  refine⟨u,rfl,λm g ag=>⟨i.below.os,i.below.tape,i.below.output,i.below.size,λj hj=>i.below.block j (by show j<w.heap.size;omega) λhx=>by have:=ag j hx;omega⟩,λb a hn=>i.below.block b a hn,J'.L k,i.nd k,λb a=>?_, ?_⟩
  . obtain⟨h3,h4,_⟩:=i.lo k b a;exact⟨h4,h3⟩
  have h2:OwnTop J'.F (J'.L k) w' u n l':=h2;refine OwnTop.keep h2 (λb a=>⟨?_,rfl⟩) λ_ _=>rfl
  obtain⟨h3,h4⟩:=i.fl b a;rcases h4 with h4 | h4 | h4
  . exact .inl (a1 b h4)
  . exact .inr ⟨.inl h4,h3,λg=>(i.lo k b g).2.2 a⟩
  exact .inr ⟨.inr h4,h3,λg=>(i.lo k b g).2.2 a⟩
 rcases he with rfl | rfl
 . exact⟨i.nodef,u,h1,hT⟩
 exact⟨i.nodef,u,h1,hT⟩
theorem Nj{a:Act}{t u:uA}{v:uF}(b:t<a.tmps.size):(a.put (uB t) v).tmps.getD u undef=if u=t then v else a.tmps.getD u undef:=by
 simp only[Act.put,yD,Array.getElem?_setIfInBounds];by_cases h:u=t
 . subst h;simp[b]
 simp[h,Ne.symm h]
theorem Qif{a b:uA}:yO a b=A↔¬a=b:=by
 cases h:yO a b with
 | true=>simp[xG h]
 | false=>simp;exact Nat.ne_of_beq_eq_false h
theorem Qqq{a:Act}{t:uA}{v:uF}(h:a.tmps.getD t undef=v)(b:t<a.tmps.size):a.put (uB t) v=a:=by
 have e:a.tmps.setIfInBounds t v=a.tmps:=by
  apply Array.ext
  . simp
  intro i c d;rw[Array.getElem_setIfInBounds];split
  . rename_i e;subst e;rw[←h,yD,yW b];rfl
  rfl
 show({a with tmps:=a.tmps.setIfInBounds t v}:Act)=a;rw[e]
theorem Qgo:∀{vs:H uF} {cs:H C},Du vs cs=D->∃ps:H PV,ps.length=vs.length/\∀(X:uA->Prop) (w:uG),VC X w vs ps
 | [], [],_=>⟨[],rfl,λ_ _=> .nil⟩
 | [],_::_,h=>by simp[Du] at h
 | _::_, [],h=>by simp[Du] at h
 | v ::vs,c::cs,h=>by
   simp only[Du,zK] at h;obtain⟨ps,d,e⟩:=Qgo h.2;have a:=h.1;unfold KT at a;split at a
   . rename_i k _ _ _;simp only[zK,uV] at a;obtain⟨⟨rfl,rfl⟩,rfl⟩:=a;exact⟨.int k 0::ps,by simp[d],λX w=> .cons (.int (by cases k<;>simp[InR,IntKind.min,IntKind.max,IntKind.bits,IntKind.signed])) (e X w)⟩
   . rename_i b _;exact⟨.bool b::ps,by simp[d],λX w=> .cons (.bool b) (e X w)⟩
   . rename_i s _;have f:s.size=0:=by simp only[zK] at a;exact xG a.1
     exact⟨.str s::ps,by simp[d],λX w=> .cons (.str (by rw[f];exact yX _)) (e X w)⟩
   . rename_i n;exact⟨.slc n []::ps,by simp[d],λX w=> .cons (.emp uC n (yX _)) (e X w)⟩
   cases a
theorem Qgp{X:uA->Prop}{w:uG}{n:uA}{a:H uF}{ps:H PV}(h:VC X w a ps)(b:ps.length=n):∀m,VR X w n (zG m a).flatten (zG m ps)
 | 0=> .nil n
 | m+1=>by
   rw[xM,xM,List.flatten_cons];exact .cons h b (Qgp h b m)
theorem Qig{z:uN uF}{m:uA}:(Builtin.zeroCells z m).toList=(zG m z.toList).flatten:=by
 have key:∀(l:H uF) (m:uA),(List.range (m*l.length)).map (λi=>l[i % l.length]!)=(zG m l).flatten:=by
  intro l m
  induction m with
  | zero=>simp
  | succ m b=>
    rw[Nat.succ_mul,List.range_add,List.map_append,b,List.replicate_succ',List.flatten_append]
    congr 1
    simp only[List.map_map,List.flatten_cons,List.flatten_nil,List.append_nil];apply List.ext_getElem
    . simp
    intro i a c;simp only[zT,List.length_range] at a;simp[Nat.mul_add_mod_self_right,Nat.mod_eq_of_lt a,c]
 rw[←key z.toList m];unfold Builtin.zeroCells;rw[Array.toList_map,Array.toList_range];apply List.map_congr_left;intro i _;simp only[zX,getElem!_def,Array.getElem?_toList]
theorem Qqr{a:H uF}{cs:H C}(h:Du a cs=D):∀v,v∈a->v.oneCell'=D:=by
 induction a generalizing cs with
 | nil=>intro v d;simp at d
 | cons v a e=>
   cases cs with
   | nil=>simp[Du] at h
   | cons c cs=>
     simp only[Du,zK] at h;intro u hu;rcases List.mem_cons.1 hu with rfl | hu
     . have b:=h.1;unfold KT at b;split at b<;>first | rfl | cases b
     exact e h.2 u hu
section
variable {P:uW} {N:uA} {w0:Base} {F0:uA->Prop} {J:Inj} {a:Act} {w:uG} {s:St} {Q:Exit->St->Prop}
theorem Rel.aside(h:Rel N w0 F0 J a w s){d:uA}(hd:d<N)(c:get s.tm d=uC)(v:uF):Rel N w0 F0 J (a.put (uB d) v) w s:=
 (h.pure (uB d) (λf e=>by cases e;exact hd) (.one .dead) v (λ_=>trivial)).less (λt x b=>by
  show get (ins d _ s.tm) t=uB x;rw[JJ,uQ (λe=>by subst e;rw[c] at b;cases b)];exact b) (λ_ _ h=>h)
theorem Qa9{tt:H (uA×TI)}(f:S6 P tt=D){h j u:uA}{x:H C}{y:H LK}{t:TI}(g1:get tt h=uB ⟨.sli j,u,x,y⟩)(g2:get tt j=uB t)
 {g b m i n:uA} {a:uN uF} {e:uM} (hn:t.size=n) (hg:w.heap[g]? =uB (.cells a e (0,0))) (hs:a.size=b*n) (hi:i<m) (hm:m<=b) (ty:uM):
 ∃ r:H uF,∃ps:H PV,r.length=n/\ps.length=n/\(∀(X:uA->Prop) (w:uG),VC X w r ps)/\
   (Builtin.clear_ #[h] ty #[.slice (uB ⟨g,i*n,uC⟩) (m-i) (b-i)]).run P w= .ok (.tuple #[]) (w.setRow g (a.toList.take (i*n)++(zG (m-i) r).flatten++a.toList.drop (i*n+(m-i)*n)).toArray):=by
 obtain⟨a1,z,hI,a2,_,hz,s,k⟩:=(Ji f g2).info;obtain⟨ps,p1,p2⟩:=Qgo k;have hu:=(Ji f g1).sli;have c:z.cells.toList.length=n:=by simpa [hn] using s
 refine⟨z.cells.toList,ps,c,by rw[p1,c],p2, ?_⟩;obtain⟨q,hq⟩:∃q,m-i=q+1:=⟨m-i-1,by omega⟩
 have o:((zG (m-i) z.cells.toList).flatten).length=(m-i)*n:=by
  rw[yN,yR,c];simp
 have h3:i*n+(m-i)*n<=b*n:=by rw[←yY];exact zM n (by omega)
 have d:=run_storeCells_at P g (i*n) e ((zG (m-i) z.cells.toList).flatten) 0 a w hg (by rw[o,hs];simpa using h3) (λv p=>by
  obtain⟨l,hl,p⟩:=List.mem_flatten.1 p;rw[List.eq_of_mem_replicate hl] at p;exact Qqr k v p)
 simp only[Nat.add_zero,o] at d;rw[hq] at d⊢;simp[Builtin.clear_,run_underlying hu,zeroValue,A4 hI,hz,Qig,d]
theorem Qmf{tt:H (uA×TI)}(a1:S6 P tt=D){id:uA}{a6:uN Oper}{f m p x z a4 a7 z1:uA}{z2:H C}{z3:H LK}{ti:TI}{y1 y2 y3 y4:uM}{q1 q2 q3 q4:String}{f1 f2 f3 f4:uN Edge}
 (a8:a6= #[⟨uB p,.move (.tmp f),y1,q1,f1,uC⟩,⟨uB x,.move (.tmp m),y2,q2,f2,uC⟩,⟨uB z,.slice a4 (.tmp p) (uB (.tmp x)) uC uC,y3,q3,f3,uC⟩,⟨uC,.call {callee:= .builtin .clear,args:= #[.tmp z],argTypes:= #[a4]},y4,q4,f4,uC⟩])
 (hN:(Nat.blt p N&&Nat.blt x N&&Nat.blt z N&&Nat.blt f N&& !(yO p f)&& !(yO p m)&& !(yO x f)&& !(yO x m)&& !(yO z f)&& !(yO z m)&& !(yO p x)&& !(yO f m))=D)
 (g1:get tt a4=uB ⟨.sli a7,z1,z2,z3⟩) (g2:get tt a7=uB ti) {k n:uA} {l:H (H PV)} (hk:get s.tm f=uB (.one (.slc (.own A k) n l))) (hn:ti.size=n) {i:I} (hi:get s.tm m=uB (.one (.int .i64 i))) (h0:0<=i) (hl:i<l.length)
 (hQ:∀l',l'.length=l.length->l'.take i.toNat=l.take i.toNat->Q .normal ⟨[(f,.one (.slc (.own A (64*f)) n l')),(m,.one (.int .i64 i))], []⟩):AWP P N w0 F0 (.region id a6 A) Q s:=λJ a w hr=>by
 simp only[zK,Nat.blt_eq,Bool.not_eq_true',Qif] at hN;obtain⟨⟨⟨⟨⟨⟨⟨⟨⟨⟨⟨m1,m2⟩,m3⟩,m0⟩,n1⟩,n2⟩,n3⟩,n4⟩,n5⟩,n6⟩,n7⟩,n8⟩:=hN;obtain⟨j,rfl⟩:∃j:uA,i=(j:I):=⟨i.toNat,by omega⟩;have hj:j<l.length:=by omega
 have e0:CR J w (a.tmps.getD f undef) (.slc (.own A k) n l):=hr.tm f _ hk;have e5:CR J w (a.tmps.getD m undef) (.int .i64 (j:I)):=hr.tm m _ hi;obtain⟨e5,_⟩:=e5;rcases(show OwnTop J.F (J.L k) w _ n l from e0) with⟨e,_⟩ | ⟨g,cap,cur,e,hL,e0,hg,hs,ai,a5,a9⟩
 . rw[e] at hj;simp at hj
 obtain⟨zs,ps,aj,ak,al,aa⟩:=Qa9 (P:=P) (w:=w) a1 g1 g2 hn hg hs hj a5 y4;have hu:=(Ji a1 g1).sli;have ab:=Cu (P:=P) (Ji a1 g2) w;rw[hn] at ab
 have am:Rel N w0 F0 J a w ⟨[(m,.one (.int .i64 (j:I)))], []⟩:=hr.less (λt v hv=>by
  simp only[get] at hv;split at hv
  . rename_i e;subst e;rw[hi];exact hv
  cases hv) (λk c hc=>by cases hc)
 have no:∀d,¬d=m->get (⟨[(m,.one (.int .i64 (j:I)))], []⟩:St).tm d=uC:=λd hd=>by
  show(if m=d then _ else _)=uC;rw[uQ (λe=>hd e.symm)];rfl
 have s0:=hr.size;have ad:=(am.aside m1 (no _ n2) (.slice (uB ⟨g,0,uC⟩) l.length cap)).aside m2 (no _ n4) (.int .i64 (j:I));have ae:=ad.aside m3 (no _ n6) (.slice (uB ⟨g,0+j*n,uC⟩) (l.length-j) (cap-j));subst a8;refine wp_region ?_;show wpOps P _ (QX N w0 F0 Q) [0,1,2,3] a w;rw[wpOps_cons];unfold wpOp;simp only[yC,zZ];rw[uK (by simp[Region.wanted])];refine .inl (An (v:= .slice (uB ⟨g,0,uC⟩) l.length cap) (w':=w) (by simp[execOp,e0,Act.eval]) ?_);rw[wpOps_cons];unfold wpOp;simp only[yC,yG,zZ];rw[uK (by simp[Region.wanted])];have an:(a.put (uB p) (.slice (uB ⟨g,0,uC⟩) l.length cap)).tmps.getD m undef= .int .i64 (j:I):=(Nj (by omega)).trans ((uQ (λe=>n2 e.symm)).trans e5);refine .inl (An (v:= .int .i64 (j:I)) (w':=w) (by simp[execOp,an,Act.eval]) ?_);rw[wpOps_cons];unfold wpOp;simp only[yC,yG,zZ];rw[uK (by simp[Region.wanted])];have b1:(a.put (uB p) (.slice (uB ⟨g,0,uC⟩) l.length cap)).tmps.size=N:=by simp[Act.put,s0]
 have ea:((a.put (uB p) (.slice (uB ⟨g,0,uC⟩) l.length cap)).put (uB x) (.int .i64 (j:I))).eval (.tmp p)= .slice (uB ⟨g,0,uC⟩) l.length cap:=(Nj (by omega)).trans ((uQ n7).trans ((Nj (by omega)).trans (uK rfl)));have eb:((a.put (uB p) (.slice (uB ⟨g,0,uC⟩) l.length cap)).put (uB x) (.int .i64 (j:I))).eval (.tmp x)= .int .i64 (j:I):=(Nj (by omega)).trans (uK rfl)
 have ao:(Instr.sliceBounds D l.length cap (uB (.int .i64 (j:I))) uC uC).run P w= .ok (j,l.length,cap) w:=by
  have e4:∀c,(Instr.sliceBound (.int .i64 (j:I)) l.length c).run P w= .ok j w:=λc=>by
   have:=YT (P:=P) (w:=w) (k:= .i64) (lo:=(j:I)) (Y:=c) (y:=l.length) (by omega) (by omega);simpa using this
  unfold Instr.sliceBounds;simp only[Sem.run_bind,Sem.run_pure,Result.andThen_ok];simp[e4]
 refine .inl (An (v:= .slice (uB ⟨g,0+j*n,uC⟩) (l.length-j) (cap-j)) (w':=w) (by
  have ap:cap≠j:=by omega
  simp[execOp,ea,eb,Instr.sliceAt,run_underlying hu,Instr.slice,ao,ab,ap,Addr.add_lit]) ?_)
 rw[wpOps_cons];unfold wpOp;simp only[yC,yG,zZ];rw[uK (by simp[Region.wanted])];generalize aq:((a.put (uB p) (.slice (uB ⟨g,0,uC⟩) l.length cap)).put (uB x) (.int .i64 (j:I)))=a2 at*;have s2:a2.tmps.size=N:=ad.size;have ec:(a2.put (uB z) (.slice (uB ⟨g,0+j*n,uC⟩) (l.length-j) (cap-j))).eval (.tmp z)= .slice (uB ⟨g,j*n,uC⟩) (l.length-j) (cap-j):=(Nj (by omega)).trans ((uK rfl).trans (by simp));have ec:=ec;simp only[yA] at ec
 refine .inl (An (v:= .tuple #[]) (w':=w.setRow g (cur.toList.take (j*n)++(zG (l.length-j) zs).flatten++cur.toList.drop (j*n+(l.length-j)*n)).toArray) (by
  simp[execOp,resolve,invoke,builtin,ec,aa]) ?_)
 generalize ar:a2.put (uB z) (.slice (uB ⟨g,0+j*n,uC⟩) (l.length-j) (cap-j))=a3 at*;show QX N w0 F0 Q .normal a3 _
 have au:a3.tmps.getD f undef= .slice (uB ⟨g,0,uC⟩) l.length cap:=by
  rw[←ar];refine(Nj (by omega)).trans ((uQ (λe=>n5 e.symm)).trans ?_);rw[←aq];exact(Nj (by omega)).trans ((uQ (λe=>n3 e.symm)).trans ((Nj (by omega)).trans ((uQ (λe=>n1 e.symm)).trans e0)))
 have q:g∈J.L k:=by rw[hL];exact zV
 have av:¬J.F g:=(hr.lo k g q).2.2;generalize o:w.setRow g (cur.toList.take (j*n)++(zG (l.length-j) zs).flatten++cur.toList.drop (j*n+(l.length-j)*n)).toArray=w';have aw:w'.heap[g]? =uB (.cells (cur.toList.take (j*n)++(zG (l.length-j) zs).flatten++cur.toList.drop (j*n+(l.length-j)*n)).toArray e (0,0)):=by rw[←o];exact setRow_heap w g cur _ e (0,0) hg
 have h:∀b,b≠g->w'.heap[b]? =w.heap[b]? :=λb hb=>by rw[←o];exact setRow_other w g b _ hb
 have ax:w'.heap.size=w.heap.size:=by rw[←o];simp[World.setRow]
 have hbelow:w0.Keeps w':=by
  refine hr.below.step (by rw[←o];rfl) (by rw[←o];rfl) (by rw[←o];rfl) (by omega) λb _ ay=>h b λe=>?_
  exact ay (e▸(hr.lo k g q).1)
 have af:((zG (l.length-j) zs).flatten).length=(l.length-j)*n:=by
  rw[yN,yR,aj];simp
 have az:j*n+(l.length-j)*n=l.length*n:=by rw[←yY];congr 1;omega
 have b2:l.length*n<=cap*n:=zM n a5;have ag:cur.toList.length=cap*n:=by simpa using hs
 have b3:j*n<=cap*n:=zM n (by omega);have r:(l.take j++zG (l.length-j) ps).length=l.length:=by simp;omega
 have ah:OwnTop (KZ J w w' (64*f) k [] [g]).F [g] w' (.slice (uB ⟨g,0,uC⟩) l.length cap) n (l.take j++zG (l.length-j) ps):=by
  refine .inr ⟨g,cap,_,e,rfl,by rw[r],aw, ?_, ?_,by rw[r];exact a5,by rw[r];exact a9⟩
  . simp only[yZ,zJ,af,zN,zY,ag];omega
  rw[r]
  have:((cur.toList.take (j*n)++(zG (l.length-j) zs).flatten++cur.toList.drop (j*n+(l.length-j)*n)).toArray.toList.take (l.length*n))=cur.toList.take (j*n)++(zG (l.length-j) zs).flatten:=by
   show((_:H uF)++_++_).take _=_
   have b4:(cur.toList.take (j*n)++(zG (l.length-j) zs).flatten).length=l.length*n:=by
    simp only[zJ,af,zN,ag];omega
   rw[zR (by omega),zU (by omega)]
  rw[this];refine VR.append (Qgp (al _ _) ak _) (VR.keep (X:=J.F) (w:=w) (λb hb=>⟨.inl hb,h b λe=>av (e▸hb)⟩) ?_);have h3:=ai.take j
  rwa [yI,Nat.min_eq_left (by omega)] at h3
 have hR:=EK ae (t:=f) (k:=k) (n:=n) m0 (frz:= []) (L':= [g]) (by simp) (w':=w') (u:= .slice (uB ⟨g,0,uC⟩) l.length cap) (l':=l.take j++zG (l.length-j) ps) (d:=A) hbelow (by omega) (λb hb hn=>h b λe=>hn (e▸q)) (by simp) (λb hb=>by
  obtain rfl:=yS.1 hb
  exact⟨by have:=(hr.lo k b q).2.1;omega,.inr q⟩) (by
   show OwnTop _ ((KZ J w w' (64*f) k [] [g]).L (64*f)) _ _ _ _;rw[show(KZ J w w' (64*f) k [] [g]).L (64*f)= [g] from uK rfl];exact ah)
 rw[Qqq au (by rw[ae.size];exact m0)] at hR;refine⟨_,_,hR.less (s':=⟨[(f,.one (.slc (.own A (64*f)) n (l.take j++zG (l.length-j) ps))),(m,.one (.int .i64 (j:I)))], []⟩) (λt v hv=>?_) (λk c hc=>by cases hc),hQ _ r (by simp[List.take_append,yI];omega)⟩;show get (ins f _ [(m,AV.one (.int .i64 (j:I)))]) t=uB v;rw[JJ];simp only[get] at hv⊢;exact hv
end
end
section
open Go.RowKit
section
variable {P:uW}
theorem DL(w:uG)(n r s f:uM)(h:TypeInfo)(b o c i:uA)(a:Addr)(d k:uA)(cs:H uF)(t:P.underlying n=uB (.slice f))(u:P.info? f=uB h)
 (x:cs.length=yP d c*h.size) (l:∀j v,cs[j]? =uB v->w.cell? (a.add j)=uB v) {g:uN uF} {e:uM} (p:w.heap[b]? =uB (.cells g e (0,0))) (q:o+cs.length<=g.size) (y:∀v∈cs,v.oneCell'=D):
 (Builtin.copy_ #[n,r] s #[.slice (uB ⟨b,o,uC⟩) c i,.slice (uB a) d k]).run P w= .ok (goInt (yP d c)) (w.setCells b o cs):=by
 have z:=run_loadCells_list (P:=P) w a cs l
 have hc:∀j,j<cs.length->(w.cell? ⟨b,o+j,uC⟩).isSome=D:=λj hj=>by
  have:o+j<g.size:=by omega
  simp[World.cell?,p,this]
 have hf:∀j,j<cs.length->w.frozen? ⟨b,o+j,uC⟩=A:=λj hj=>by simp[World.frozen?,p]
 have m:=run_storeCells_cells (P:=P) b o cs 0 w (by simpa using hc) (by simpa using hf) y;simp[Builtin.copy_,run_underlying t,Builtin.lenOf,Builtin.firstCells,sizeOf,typeInfo,u,←x,z,m]
theorem Qba(w:uG)(tS tR e:uM)(ht:P.underlying tS=uB (.slice e))(size:uA)(hz:∀w,(Go.sizeOf e).run P w= .ok size w)(a b:Addr)(la ca lb cb:uA)(hne:a.block≠b.block)
 {arrA:uN uF} {tA:uM} {frA:uA×uA} (hA:w.heap[a.block]? =uB (.cells arrA tA frA)) {arrB:uN uF} {tB:uM} (hB:w.heap[b.block]? =uB (.cells arrB tB (0,0))) (hpos:0<arrB.size) (hposA:0<arrA.size):
 (Extern.SlicesOverlaps.overlaps #[tS,tS] #[tR] #[.slice (uB a) la ca,.slice (uB b) lb cb]).run P w= .ok (.bool A) w:=by
 have hsa:w.shape? a.block=uB (tA,arrA.size):=by simp[World.shape?,hA]
 have hsb:w.shape? b.block=uB (tB,arrB.size):=by simp[World.shape?,hB]
 have hfb:∀o,w.frozen? ⟨b.block,o,uC⟩=A:=λo=>by simp[World.frozen?,hB]
 have hfb':w.frozen? b=A:=by simp[World.frozen?,hB]
 have hnb:(a.block !=b.block)=D:=by simpa using hne
 have hnb':(a.block==b.block)=A:=by simpa using hne
 obtain⟨kb,hkb⟩:∃kb,arrB.size=kb+1:=⟨arrB.size-1,by omega⟩;rw[hkb] at hsb;obtain⟨ka,hka⟩:∃ka,arrA.size=ka+1:=⟨arrA.size-1,by omega⟩;rw[hka] at hsa
 change Sem.run P (underlying tS >>= _) w = _
 by_cases h0:la=0\/lb=0\/size=0
 . simp[run_underlying ht,hz,h0]
 cases hfa:w.frozen? a with
 | true=>simp[run_underlying ht,hz,h0,hnb,hnb',frozen,noView,viewAt,mayBeOne,stringish,shape,Sem.run,hsa,hsb,hfa,hfb,hfb']
 | false=>
   cases hfa2:w.frozen? {block:=a.block,off:=ka+1} with
   | true=>simp[run_underlying ht,hz,h0,hnb,hnb',frozen,noView,viewAt,mayBeOne,stringish,shape,Sem.run,hsa,hsb,hfa,hfb,hfb',hfa2]
   | false=>simp[run_underlying ht,hz,h0,hnb,hnb',frozen,noView,viewAt,mayBeOne,stringish,shape,Sem.run,hsa,hsb,hfa,hfb,hfb',hfa2]
theorem Qsj{F:uA->Prop}{L:H uA}{w:uG}{v:uF}{n:uA}{l:H (H PV)}(h:OwnTop F L w v n l)(b:l.length<1073741824):
 ∃oa cap olds,v= .slice oa l.length cap/\RowAt w n oa l.length cap olds/\VR F w n olds l/\(0<cap->∃g,oa=uB ⟨g,0,uC⟩/\L= [g]):=by
 rcases h with⟨rfl,oa,rfl⟩ | ⟨g,cap,cur,e,rfl,rfl,c,d,a,f,i⟩
 . exact⟨oa,0, [],rfl,⟨by simp,.inl ⟨rfl,rfl,rfl⟩,yK _,yX _,by simp,by simp⟩,.nil n,λh=>by omega⟩
 exact⟨uB ⟨g,0,uC⟩,cap,_,rfl,⟨a.length,.inr ⟨g,cur,e,rfl,c,d,rfl⟩,f,i.1,b,a.ones⟩,a,λ_=>⟨g,rfl,rfl⟩⟩
theorem Turned.ret{F G:uA->Prop}{L:H uA}{w w':uG}{n:uA}{x:uS Addr}{f:uA}{u:uF}{p:uA}{c:H uF}(h:Turned w w' n x f u p c)(y:∀b,F b->b<w.heap.size/\b∉L)(z:0<f->∃g,x=uB ⟨g,0,uC⟩/\L= [g])(a1:∀b,b∈L->b<w.heap.size)
 {q:H (H PV)} (hv:VR F w n c q) (i:q.length=p) (j:p<=1073741824):Qxp F L w n A q (.returned u) w':=by
 obtain⟨r,k,l,e',rfl,hg,hs,ht,h1,h2,d⟩:=h.row
 have a:∀b,b<w.heap.size->b∉L->w'.heap[b]? =w.heap[b]? :=λb hb hn=>by
  rcases d with⟨d,s,t⟩ | ⟨_,_,t⟩
  . obtain⟨g,o,rfl⟩:=z s;rw[d] at o;obtain rfl:r=g:=by simpa using o
    exact t b λe=>hn (by simp[e])
  exact t b hb
 refine⟨_,rfl,λm i v=>⟨h.os,h.tape,h.output,h.size,λb hb=>a b (by omega) λhx=>by have:=v b hx;omega⟩,a, [r],by simp,λb hb=>?_, ?_⟩
 . obtain rfl:=yS.1 hb;refine⟨Xy hg, ?_⟩;rcases d with⟨d,s,_⟩ | ⟨d,_,_⟩
   . obtain⟨g,o,rfl⟩:=z s;rw[d] at o;obtain rfl:b=g:=by simpa using o
     exact .inr (by simp)
   exact .inl d
 refine .inr ⟨r,k,l,e',rfl,by rw[i],hg,hs, ?_,by rw[i];exact h1,h2,by rw[i];exact j⟩;rw[i,ht];exact hv.keep λb hb=>⟨.inl hb,a b (y b hb).1 (y b hb).2⟩
theorem Qmg{f n:uA}(t:Iy P f)(h0:0<n)
 (h:∀w oa m cap olds i vb voff vc vs,RowAt w n oa m cap olds->OneAt w n oa cap vb voff vs->i<=m->Calls P f #[.slice oa m cap,.int .i64 (i:I),.slice (uB ⟨vb,voff,uC⟩) 1 vc] w (Qdd w n i oa m cap olds vs))
 {l:H (H PV)} {x:H PV} {i:I} {j:uA} (y:i=(j:I)) (hj:j<=l.length) (hl:l.length<1073741824):ATake P f n l [.one (.int .i64 i),.one (.slc .sh n [x])] D A (l.take j++ [x]++l.drop j):=by
 subst y;refine⟨t,λw F G L v a4 _ k a z a5 c o d=>?_⟩;have a:=a rfl;cases d with
 | cons a1 ha=>
 cases ha with
 | cons s ha=>
 cases ha
 obtain⟨rfl,_⟩:_=Value.int .i64 (j:I)/\InR .i64 (j:I):=a1;have s:VV G w _ (.slc n [x]):=s;obtain⟨oa,cap,olds,rfl,hR,hV,hL⟩:=Qsj o hl;generalize hp:PV.slc n [x]=p at s;cases s with
 | int | bool | str | any | raw=>cases hp
 | emp=>cases hp
 | @slc vb voff vc n' cs l1 hb hc hr h1 h2=>
   obtain⟨rfl,rfl⟩:n=n'/\ [x]=l1:=by simpa using hp
   have a3:cs.length=n:=by rw[hr.length];simp
   have q:OneAt w n oa cap vb voff cs:=⟨a3,hc,hr.ones,λg hg r e=>by
    obtain⟨g',h5,rfl⟩:=hL r;rw[hg] at h5;obtain rfl:g=g':=by simpa using h5
    exact(c g (by simp)).2 (e▸hb)⟩
   refine(h w oa l.length cap olds j vb voff vc cs hR q hj).mono ?_
   rintro e w' ⟨u,rfl,hT⟩
   refine hT.ret (G:=G) (λb hb=>⟨z b (k b hb),λhm=>(c b hm).2 (k b hb)⟩) hL (λb hb=>(c b hb).1) ?_ ?_ (by omega)
   . exact VR.append (hV.drop j) (VR.append (hr.keep λb hb=>⟨a b hb,rfl⟩) (hV.take j))
   simp;omega
def Qed(w:uG)(n i:uA)(c:uS Addr)(m b:uA)(a:H uF)(e:Ending)(w':uG):Prop:=
 ∃u,e= .returned u/\Turned w w' n c b u (m-1) (a.take (i*n)++a.drop ((i+1)*n))
theorem Qmh{f n:uA}(o:Iy P f)
 (c:∀w oa m cap olds i,RowAt w n oa m cap olds->i<m->Calls P f #[.slice oa m cap,.int .i64 (i:I),.int .i64 ((i:I)+1)] w (Qed w n i oa m cap olds))
 {l:H (H PV)} {i k:I} {j:uA} (p:i=(j:I)) (t:k=(j:I)+1) (x:j<l.length) (y:l.length<1073741824):ATake P f n l [.one (.int .i64 i),.one (.int .i64 k)] D A (l.take j++l.drop (j+1)):=by
 subst p;subst t;refine⟨o,λw F G L v r _ d z q a3 g h a=>?_⟩;cases a with
 | cons a1 ha=>
 cases ha with
 | cons a2 ha=>
 cases ha
 obtain⟨rfl,_⟩:_=Value.int .i64 (j:I)/\InR .i64 (j:I):=a1;obtain⟨rfl,_⟩:_=Value.int .i64 ((j:I)+1)/\InR .i64 ((j:I)+1):=a2;obtain⟨oa,cap,olds,rfl,hR,s,hL⟩:=Qsj h y;refine(c w oa l.length cap olds j hR x).mono ?_
 rintro e w' ⟨u,rfl,hT⟩
 refine hT.ret (G:=G) (λb hb=>⟨q b (d b hb),λhm=>(g b hm).2 (d b hb)⟩) hL (λb hb=>(g b hb).1) ?_ ?_ (by omega)
 . exact VR.append (s.drop (j+1)) (s.take j)
 simp;omega
end
end
section
open Go.RowKit
section
variable {P:uW} {t e:uM} {ei:TI} {w:uG} {oa:uS Addr} {m cap i vb voff vc:uA} {olds vs:H uF}
theorem Qus{i m n:uA}(b:i<m):(i+1)*n=i*n+n/\i*n+n<=m*n/\(m-i)*n=m*n-i*n/\(m+1)*n=m*n+n:=by
 have c:(i+1)*n<=m*n:=zM n (by omega);have a:(i+1)*n=i*n+n:=by rw[yY,yL]
 exact⟨a,by omega,xQ ..,by rw[yY,yL]⟩
theorem OneAt.block{n:uA}(h:OneAt w n oa cap vb voff vs)(f:0<n):vb<w.heap.size/\∃a c d,w.heap[vb]? =uB (.cells a c d)/\0<a.size:=by
 have g:0<vs.length:=by rw[h.len];exact f
 have b:=h.cells 0 vs[0] (yF g);unfold World.cell? at b;split at b
 . rename_i a c d e;refine⟨Xy e,a,c,d,e, ?_⟩;have b:a[voff+0]? =uB vs[0]:=by simpa using b
   have:=(Array.getElem?_eq_some_iff.1 b).1;omega
 cases b
theorem ZV{w:uG}{c:uN Oper}{b:H Oper}{o:Oper}{a:Act}{Q:Exit->Act->uG->Prop}(e:o.guard=uC)(d s:Operand)(t f:uM)
 (i:o.op= .call {callee:= .builtin .copy,args:= #[d,s],argTypes:= #[t,f]}) (v u:uF) (hd:a.eval d=v) (j:a.eval s=u) {g:uF} {w':uG}
 (k:(Builtin.copy_ #[t,f] o.type #[v,u]).run P w= .ok g w') (h:wpList P c Q b (a.put o.dst g) w'):wpList P c Q (o::b) a w:=
 wpList_plain e λK l=>by
  unfold Oper.wp execOp;simp only[i,resolve,invoke,builtin,Sem.run_bind,Sem.run_pure,Result.andThen_ok,xC,xB,xO,hd,j,k];exact l _ _ h
theorem BJ{w:uG}{b:uN Oper}{o:Oper}{a:Act}{K:Act->uG->Prop}{Q:Exit->Act->uG->Prop}{E:Prop}
 (h:o.guard=uC) (d x:Operand) (e f:uM) (c:o.op= .call {callee:= .builtin .copy,args:= #[d,x],argTypes:= #[e,f]})
 (v u:uF) (hd:a.eval d=v) (i:a.eval x=u) {g:uF} {w':uG} (j:(Builtin.copy_ #[e,f] o.type #[v,u]).run P w= .ok g w') (k:K (a.put o.dst g) w'):
 if Region.wanted o (yielded b a.tmps)=D then Oper.wp P o a w K Q else E:=by
 rw[uK (by simp[Region.wanted,h])];unfold Oper.wp execOp;simp only[c,resolve,invoke,builtin,Sem.run_bind,Sem.run_pure,Result.andThen_ok,xC,xB,xO,hd,i,j];exact k
theorem M1{w:uG}{b:uN Oper}{o:Oper}{a:Act}{K:Act->uG->Prop}{Q:Exit->Act->uG->Prop}{E:Prop}
 (h:o.guard=uC) (d x:Operand) (e f:uM) (c:o.op= .call {callee:= .builtin .append,args:= #[d,x],argTypes:= #[e,f]})
 (v u:uF) (hd:a.eval d=v) (i:a.eval x=u) {g:uF} {w':uG} (j:(Builtin.append_ #[e,f] o.type #[v,u]).run P w= .ok g w') (k:K (a.put o.dst g) w'):
 if Region.wanted o (yielded b a.tmps)=D then Oper.wp P o a w K Q else E:=by
 rw[uK (by simp[Region.wanted,h])];unfold Oper.wp execOp;simp only[c,resolve,invoke,builtin,Sem.run_bind,Sem.run_pure,Result.andThen_ok,xC,xB,xO,hd,i,j];exact k
theorem Rf(g:uA):∀(vs:H uF) (o:uA) (w:uG),(w.drew.setCells g o vs).heap=(w.setCells g o vs).heap
 | [],_,_=>rfl
 | v::vs,o,w=>Rf g vs (o+1) (w.setCell ⟨g,o,uC⟩ v)
theorem Qut(b:P.underlying t=uB (.slice e))(a:OneAt w ei.size oa cap vb voff vs):Src P ei.size t (.slice (uB ⟨vb,voff,uC⟩) 1 vc) 1 vs w:=
 Src.ofSlice w b _ _ _ _ (by rw[a.len];omega) (λj u c=>by rw[Addr.add_lit];exact a.cells j u c) a.ones
theorem Qqs(v:P.underlying t=uB (.slice e))(o:TiOk P e ei)(x:0<ei.size)(a:RowAt w ei.size oa m cap olds)(y:OneAt w ei.size oa cap vb voff vs):
 ∃u w',(∀ty,(Builtin.append_ #[t,t] ty #[.slice oa m cap,.slice (uB ⟨vb,voff,uC⟩) 1 vc]).run P w= .ok u w')/\Qdd w ei.size m oa m cap olds vs (.returned u) w':=by
 have d:∀p,oa=uB p->∀(j:uA) (u:uF),olds[j]? =uB u->w.cell? (p.add j)=uB u:=λp q j u n=>by
  rcases a.row with⟨_,r,_⟩ | ⟨g,cur,e0,b,c,f,i⟩
  . have:=a.len;rw[r,Nat.zero_mul] at this;rw[xD.1 this] at n;simp at n
  rw[q] at b;obtain rfl:=Option.some.inj b;rw[←i] at n;exact Si c _ j u n
 obtain⟨z,k,l,e',w',hr,b,c,f,i,h5,h6,h7,h8,h9,s⟩:=MI (ty:=0) v o x a.len d (λh=>by
  rcases a.row with⟨_,r,_⟩ | ⟨g,cur,e0,b,_⟩
  . exact r
  rw[h] at b;cases b) (a.row.imp (λh=>h.2.2) λh=>h) a.le (Qut (vc:=vc) v y) (by have:=a.lim;omega) (λ_=>by omega) a.cap
 refine⟨_,w',λty=>hr,_,rfl,⟨h6,h7,h8,h9,z,k,l,e',rfl,b,c, ?_,i,h5, ?_⟩⟩
 . rw[f,zU (by rw[a.len];omega),List.drop_of_length_le (by rw[a.len];omega),List.append_nil]
 exact s.imp (λ⟨cur,e0,b,c,f,i⟩=>⟨b,by omega,i⟩) λ⟨b,c,f⟩=>⟨by omega,c,f⟩
variable {g:uA} {cur:uN uF} {e0:uM}
theorem GA(c:w.heap[g]? =uB (.cells cur e0 (0,0)))(a:cur.toList.take (m*ei.size)=olds){k:uA}:∀(j:uA) (u:uF),(olds.drop k)[j]? =uB u->w.cell? ((⟨g,k,uC⟩:Addr).add j)=uB u:=λj u b=>by
 rw[yT,←a] at b;have:=Si c _ _ u b;rw[Addr.add_lit,yA] at this;rw[Addr.add_lit];exact this
theorem B4(g:uA):∀(vs:H uF) (o:uA) (w:uG),(w.setCells g o vs).os=w.os/\(w.setCells g o vs).tape=w.tape/\(w.setCells g o vs).output=w.output
 | [],_,_=>⟨rfl,rfl,rfl⟩
 | v::vs,o,w=>B4 g vs (o+1) (w.setCell ⟨g,o,uC⟩ v)
theorem Qbb(hu:P.underlying t=uB (.slice e))(a1:TiOk P e ei)(hn:0<ei.size)(hg:w.heap[g]? =uB (.cells cur e0 (0,0)))(a2:cur.size=cap*ei.size)(q:cur.toList.take (m*ei.size)=olds)
 (y:RowAt w ei.size (uB ⟨g,0,uC⟩) m cap olds) (f:OneAt w ei.size (uB ⟨g,0,uC⟩) cap vb voff vs) (hi:i<m) (a:m+1<=cap):
 (∀h k sc,(Builtin.copy_ #[t,t] h #[.slice (uB ⟨g,(i+1)*ei.size,uC⟩) (m+1-(i+1)) k,.slice (uB ⟨g,i*ei.size,uC⟩) (m+1-i) sc]).run P w= .ok (goInt (yP (m+1-i) (m+1-(i+1)))) (w.setCells g ((i+1)*ei.size) (olds.drop (i*ei.size))))/\
 (∀W:uG,W.heap=(w.setCells g ((i+1)*ei.size) (olds.drop (i*ei.size))).heap->∀h k,(Builtin.copy_ #[t,t] h #[.slice (uB ⟨g,i*ei.size,uC⟩) (m+1-i) k,.slice (uB ⟨vb,voff,uC⟩) 1 vc]).run P W= .ok (goInt (yP 1 (m+1-i))) (W.setCells g (i*ei.size) vs))/\
 (∀W:uG,W.heap=(w.setCells g ((i+1)*ei.size) (olds.drop (i*ei.size))).heap->W.os=w.os->W.tape=w.tape->W.output=w.output->Qdd w ei.size i (uB ⟨g,0,uC⟩) m cap olds vs (.returned (.slice (uB ⟨g,0,uC⟩) (m+1) cap)) (W.setCells g (i*ei.size) vs)):=by
 obtain⟨r,z,hI,s,_⟩:=a1.info;obtain⟨k1,k2,k3,k4⟩:=Qus (n:=ei.size) hi;have k5:m*ei.size+ei.size<=cap*ei.size:=by rw[←k4];exact zM _ a
 have l:(olds.drop (i*ei.size)).length=(m-i)*ei.size:=by rw[zY,y.len,k3]
 have c:(i+1)*ei.size+(olds.drop (i*ei.size)).length<=cur.size:=by rw[l];omega
 have u:yP (m+1-i) (m+1-(i+1))=m-i:=by simp only[xJ];split<;>omega
 have o:yP 1 (m+1-i)=1:=by simp only[xJ];split<;>omega
 have a3:vb≠g:=f.ne g rfl (by omega);have x:=Hb g (olds.drop (i*ei.size)) ((i+1)*ei.size) w hg;have d:i*ei.size+vs.length<=(putCells cur ((i+1)*ei.size) (olds.drop (i*ei.size))).size:=by rw[Us,f.len];omega
 refine⟨λh k sc=>?_,λW p h k=>?_,λW p ho ht a4=>?_⟩
 . exact DL w t t h e r g _ _ k ⟨g,i*ei.size,uC⟩ _ sc _ hu hI (by rw[u,l,s]) (GA hg q) hg c λv hv=>y.ones v (yM hv)
 . refine DL W t t h e r g _ _ k ⟨vb,voff,uC⟩ _ vc _ hu hI (by rw[o,f.len,s,yL]) (λj v hj=>?_) (p▸x) d f.ones;rw[Addr.add_lit,World.cell?_of_block (w:=w) (by rw[p];exact Wp g a3 _ _ _)];exact f.cells j v hj
 obtain⟨p1,p2,p3⟩:=B4 g vs (i*ei.size) W;have a5:=Hb g vs (i*ei.size) W (p▸x);refine⟨_,rfl,⟨p1.trans ho,p2.trans ht,p3.trans a4, ?_,g,cap,_,e0,rfl,a5,by rw[Us,Us];exact a2, ?_,a,y.cap,.inl ⟨rfl,by omega,λb hb=>?_⟩⟩⟩
 . rw[Db,p,Db];exact yK _
 . have a6:cur.toList.take (i*ei.size)=olds.take (i*ei.size):=by
    rw[←q,yI];congr 1;omega
   have hA:((cur.toList.take ((i+1)*ei.size)++olds.drop (i*ei.size))++cur.toList.drop ((i+1)*ei.size+(olds.drop (i*ei.size)).length)).take (i*ei.size)=olds.take (i*ei.size):=by
    have hl:(cur.toList.take ((i+1)*ei.size)).length=(i+1)*ei.size:=by rw[zN,zX];omega
    rw[zW,zR (by rw[hl];omega),yI,←a6];congr 1;omega
   have hB:((cur.toList.take ((i+1)*ei.size)++olds.drop (i*ei.size))++cur.toList.drop ((i+1)*ei.size+(olds.drop (i*ei.size)).length)).drop (i*ei.size+vs.length)=olds.drop (i*ei.size)++cur.toList.drop ((i+1)*ei.size+(olds.drop (i*ei.size)).length):=by
    have hl:(cur.toList.take ((i+1)*ei.size)).length=i*ei.size+vs.length:=by rw[zN,zX,f.len];omega
    rw[zW,←hl,List.drop_left]
   rw[B7 d,B7 c,hA,hB]
   have a7:(olds.take (i*ei.size)++vs++olds.drop (i*ei.size)).length=(m+1)*ei.size:=by
    rw[zJ,zJ,l,f.len,zN,y.len,k3];omega
   rw[←zW,←a7,yU]
 rw[Wp g hb,p,Wp g hb]
theorem Qmi{tn:uM}(hu:P.underlying t=uB (.slice e))(af:P.underlying tn=uB (.int .i64))(ag:TiOk P e ei)(hn:0<ei.size)(hg:w.heap[g]? =uB (.cells cur e0 (0,0)))(av:cur.size=cap*ei.size)(a7:cur.toList.take (m*ei.size)=olds)
 (hR:RowAt w ei.size (uB ⟨g,0,uC⟩) m cap olds) (hO:OneAt w ei.size (uB ⟨g,0,uC⟩) cap vb voff vs) (ah:vb<w.heap.size) (hi:i<m) (x:cap<m+1):
 ∃G c,m+1<=G/\G<=uU/\(∀d k,k=((m+1-i:uA):I)->(Builtin.append_ #[t,tn] d #[.slice (uB ⟨g,0,uC⟩) i cap,.int .i64 k]).run P w= .ok (.slice (uB ⟨w.heap.size,0,uC⟩) (m+1) G) c)/\
 (∀W:uG,W.heap=c.heap->∀d y,(Builtin.copy_ #[t,t] d #[.slice (uB ⟨w.heap.size,i*ei.size,uC⟩) (m+1-i) y,.slice (uB ⟨vb,voff,uC⟩) 1 vc]).run P W= .ok (goInt (yP 1 (m+1-i))) (W.setCells w.heap.size (i*ei.size) vs))/\
 (∀W:uG,W.heap=(c.setCells w.heap.size (i*ei.size) vs).heap->∀d y sc,(Builtin.copy_ #[t,t] d #[.slice (uB ⟨w.heap.size,(i+1)*ei.size,uC⟩) (m+1-(i+1)) y,.slice (uB ⟨g,i*ei.size,uC⟩) (m-i) sc]).run P W= .ok (goInt (yP (m-i) (m+1-(i+1)))) (W.setCells w.heap.size ((i+1)*ei.size) (olds.drop (i*ei.size))))/\
 (∀W:uG,W.heap=(c.setCells w.heap.size (i*ei.size) vs).heap->W.os=w.os->W.tape=w.tape->W.output=w.output->Qdd w ei.size i (uB ⟨g,0,uC⟩) m cap olds vs (.returned (.slice (uB ⟨w.heap.size,0,uC⟩) (m+1) G)) (W.setCells w.heap.size ((i+1)*ei.size) (olds.drop (i*ei.size))))/\
 c.os=w.os/\c.tape=w.tape/\c.output=w.output:=by
 obtain⟨f,z,hI,a1,ai,hz,aj,_⟩:=ag.info;obtain⟨k1,k2,k3,k4⟩:=Qus (n:=ei.size) hi;have ar:=hR.lim;have aw:=hR.le;have ak:g<w.heap.size:=Xy hg;have a2:(olds.drop (i*ei.size)).length=(m-i)*ei.size:=by rw[zY,hR.len,k3]
 have l:(olds.take (i*ei.size)).length=i*ei.size:=by rw[zN,hR.len];omega
 have a8:yP (m-i) (m+1-(i+1))=m-i:=by simp only[xJ];split<;>omega
 have a3:yP 1 (m+1-i)=1:=by simp only[xJ];split<;>omega
 have a9:(Builtin.firstCells f.size i (.slice (uB ⟨g,0,uC⟩) i cap)).run P w.drew= .ok (olds.take (i*ei.size)).toArray w.drew:=by
  refine run_firstCells_some w.drew f.size i ⟨g,0,uC⟩ i cap _ (by rw[l,a1]) λj u r=>?_
  rw[List.getElem?_take] at r;split at r
  . rw[←a7] at r;exact Si hg _ j u r
  cases r
 have aa:i+(m+1-i)=m+1:=by omega
 have h:((m+1)+(m+1) / 4+192)*f.bytes<=281474976710656:=Nat.le_trans (Nat.mul_le_mul (show _<=1342177472 by omega) ai) (by decide);have al:(m+1-i)*f.bytes<=281474976710656:=Nat.le_trans (zM _ (by omega)) h
 have o:∀d,(Builtin.append_ #[t,tn] d #[.slice (uB ⟨g,0,uC⟩) i cap,.int .i64 ((m+1-i:uA):I)]).run P w=_:=λd=>
  Lib.run_append_grow_zeros w t tn d e f z .i64 .i64 hu af hI hz (uB ⟨g,0,uC⟩) i cap (olds.take (i*ei.size)) a9 (m+1-i) (by omega) (by omega) (by omega) (by omega) al (by rw[aa];exact growslice_fits_wide x h)
 rw[aa] at o;obtain⟨G,hG⟩:∃G,G=grownCap w (m+1) cap e:=⟨_,rfl⟩;have a4:m+1<=G:=by rw[hG];exact grownCap_ge w _ _ _
 have ab:G<=uU:=by rw[hG];exact grownCap_le_maxLen w _ _ _ (by unfold uU;omega)
 rw[←hG] at o;obtain⟨a,hROW⟩:∃a:uN uF,a=(olds.take (i*ei.size)).toArray++Builtin.zeroCells z.cells (m+1-i)++Builtin.zeroCells z.cells (G-(m+1)):=⟨_,rfl⟩;rw[←hROW] at o
 have a5:a.size=G*ei.size:=by
  rw[hROW];simp only[Array.size_append,yZ,size_zeroCells,aj,l,←yY]
  congr 1
  omega
 have am:a.toList.take (i*ei.size)=olds.take (i*ei.size):=by
  rw[hROW,xN,xN,zW];show(olds.take (i*ei.size)++_).take _=_;rw[zR (by rw[l];omega),zU (by rw[l];omega)]
 have ax:(m+1)*ei.size<=G*ei.size:=zM _ a4;obtain⟨c,hW1⟩:∃c,c=w.drew.alloc (.cells a e):=⟨_,rfl⟩;rw[←hW1] at o;have ad:c.heap[w.heap.size]? =uB (.cells a e (0,0)):=by rw[hW1];exact heap_alloc_new w.drew _
 have a6:∀b,b<w.heap.size->c.heap[b]? =w.heap[b]? :=λb hb=>by rw[hW1];exact heap_alloc_old w.drew _ hb
 have an:c.heap.size=w.heap.size+1:=by rw[hW1];simp
 have p:i*ei.size+vs.length<=a.size:=by rw[hO.len,a5];omega
 have ae:=Hb w.heap.size vs (i*ei.size) c ad;have q:(i+1)*ei.size+(olds.drop (i*ei.size)).length<=(putCells a (i*ei.size) vs).size:=by rw[Us,a2,a5];omega
 refine⟨G,c,a4,ab,λd k hk=>by subst hk;exact o d,λW s d y=>?_,λW s d y sc=>?_,λW s ho ht ao=>?_,by rw[hW1];rfl,by rw[hW1];rfl,by rw[hW1];rfl⟩
 . refine DL W t t d e f _ _ _ y ⟨vb,voff,uC⟩ _ vc _ hu hI (by rw[a3,hO.len,a1,yL]) (λj v r=>?_) (s▸ad) p hO.ones;rw[Addr.add_lit,World.cell?_of_block (w:=w) (by rw[s];exact a6 _ ah)];exact hO.cells j v r
 . refine DL W t t d e f _ _ _ y ⟨g,i*ei.size,uC⟩ _ sc _ hu hI (by rw[a8,a2,a1]) (λj v r=>?_) (s▸ae) q λv hv=>hR.ones v (yM hv)
   have:=GA hg a7 j v r;rw[Addr.add_lit] at this⊢;rw[World.cell?_of_block (w:=w) (by rw[s];exact(Wp w.heap.size (show g≠w.heap.size by omega) _ _ _).trans (a6 _ ak))];exact this
 obtain⟨p1,p2,p3⟩:=B4 w.heap.size (olds.drop (i*ei.size)) ((i+1)*ei.size) W;have ap:=Hb w.heap.size (olds.drop (i*ei.size)) ((i+1)*ei.size) W (s▸ae);have au:(W.setCells w.heap.size ((i+1)*ei.size) (olds.drop (i*ei.size))).heap.size=w.heap.size+1:=by rw[Db,s,Db,an]
 refine⟨_,rfl,⟨p1.trans ho,p2.trans ht,p3.trans ao,by omega,w.heap.size,G,_,e,rfl,ap,by rw[Us,Us];exact a5, ?_,a4,ab,.inr ⟨yK _,by omega,λb hb=>?_⟩⟩⟩
 . rw[B7 q,B7 p,am];have hl:(olds.take (i*ei.size)++vs).length=(i+1)*ei.size:=by rw[zJ,l,hO.len];omega
   rw[show((olds.take (i*ei.size)++vs++a.toList.drop (i*ei.size+vs.length)).take ((i+1)*ei.size))=olds.take (i*ei.size)++vs from by rw[←hl,yU]]
   have aq:(olds.take (i*ei.size)++vs++olds.drop (i*ei.size)).length=(m+1)*ei.size:=by
    rw[zJ,zJ,a2,hO.len,l,k3];omega
   rw[←aq,yU]
 rw[Wp _ (show b≠w.heap.size by omega),s,Wp _ (show b≠w.heap.size by omega)];exact a6 b hb
theorem Qgq{z1:uA}{z2:H C}{z3:H LK}{tt:H (uA×TI)}(d:S6 P tt=D)(g1:get tt t=uB ⟨.sli e,z1,z2,z3⟩)(g2:get tt e=uB ei)(hn:0<ei.size)(hg:w.heap[g]? =uB (.cells cur e0 (0,0)))(o:cur.size=cap*ei.size)(p:cur.toList.take (m*ei.size)=olds)
 (k:RowAt w ei.size (uB ⟨g,0,uC⟩) m cap olds) (hi:i<m):
 ∃q,(∀l ad,(cap=i+1\/ad=⟨g,(i+1)*ei.size,uC⟩)->(Builtin.append_ #[t,t] l #[.slice (uB ⟨g,0,uC⟩) i cap,.slice (uB ad) (m-(i+1)) (cap-(i+1))]).run P w= .ok (.slice (uB ⟨g,0,uC⟩) (m-1) cap) q)/\q.os=w.os/\q.tape=w.tape/\q.output=w.output/\
 ∀ W:uG,W.heap=q.heap->W.os=w.os->W.tape=w.tape->W.output=w.output->∃r:uG,(∀l,(Builtin.clear_ #[t] l #[.slice (uB ⟨g,(m-1)*ei.size,uC⟩) (m-(m-1)) (cap-(m-1))]).run P W= .ok (.tuple #[]) r)/\
   ∀W3:uG,W3.heap=r.heap->W3.os=r.os->W3.tape=r.tape->W3.output=r.output->Qed w ei.size i (uB ⟨g,0,uC⟩) m cap olds (.returned (.slice (uB ⟨g,0,uC⟩) (m-1) cap)) W3:=by
 have a4:=Ji d g2;have hu:=(Ji d g1).sli;obtain⟨s,z,hI,f,aa,hz,ab,_⟩:=a4.info;obtain⟨k1,k2,k3,k4⟩:=Qus (n:=ei.size) hi;have v:=k.le;have a9:=k.lim;have k6:m*ei.size<=cap*ei.size:=zM _ v;have k7:(m-1)*ei.size=m*ei.size-ei.size:=by rw[xQ,yL]
 have k8:(m-(i+1))*ei.size=m*ei.size-(i+1)*ei.size:=xQ ..;have c:(olds.drop ((i+1)*ei.size)).length=(m-(i+1))*ei.size:=by rw[zY,k.len,k8]
 have x:i*ei.size+(olds.drop ((i+1)*ei.size)).length<=cur.size:=by rw[c,o];omega
 have y:=Hb g (olds.drop ((i+1)*ei.size)) (i*ei.size) w hg;have a:(putCells cur (i*ei.size) (olds.drop ((i+1)*ei.size))).size=cap*ei.size:=by rw[Us];exact o
 obtain⟨q1,q2,q3⟩:=B4 g (olds.drop ((i+1)*ei.size)) (i*ei.size) w
 have h:(putCells cur (i*ei.size) (olds.drop ((i+1)*ei.size))).toList.take ((m-1)*ei.size)=olds.take (i*ei.size)++olds.drop ((i+1)*ei.size):=by
  have a5:cur.toList.take (i*ei.size)=olds.take (i*ei.size):=by
   rw[←p,yI];congr 1;omega
  have hl:(olds.take (i*ei.size)++olds.drop ((i+1)*ei.size)).length=(m-1)*ei.size:=by
   rw[zJ,c,zN,k.len];omega
  rw[B7 x,a5,←hl,yU]
 refine⟨w.setCells g (i*ei.size) (olds.drop ((i+1)*ei.size)),λl ad a1=>?_,q1,q2,q3,λW hW ho ht a6=>?_⟩
 . have hs:Src P s.size t (.slice (uB ad) (m-(i+1)) (cap-(i+1))) (m-(i+1)) (olds.drop ((i+1)*ei.size)) w:=by
    refine Src.ofSlice w hu _ _ _ _ (by rw[c,f]) (λj u hj=>?_) λu hu=>k.ones u (yM hu)
    rcases a1 with a1 | rfl
    . have:(olds.drop ((i+1)*ei.size)).length=0:=by rw[c,show m-(i+1)=0 by omega,Nat.zero_mul]
      rw[xD.1 this] at hj;simp at hj
    exact GA hg p j u hj
   have hr:=run_append_room_src (P:=P) w t t l e s hu hI g 0 i cap _ _ _ hs (by omega) (λj hj=>by
    rw[f];have:0+i*ei.size+j<cur.size:=by omega
    simp only[World.cell?,hg,yW this];rfl) (λj hj=>by simp[World.frozen?,hg])
   rw[f,yA,show i+(m-(i+1))=m-1 by omega] at hr;exact hr
 obtain⟨zs,ps,a7,ae,af,a2⟩:=Qa9 (P:=P) (w:=W) (m:=m) (i:=m-1) d g1 g2 rfl (hW▸y) a (by omega) v 0;refine⟨_,λl=>a2,λW3 h3 o3 t3 u3=>?_⟩;have a3:=setRow_heap W g _ ((putCells cur (i*ei.size) (olds.drop ((i+1)*ei.size))).toList.take ((m-1)*ei.size)++(zG (m-(m-1)) zs).flatten++(putCells cur (i*ei.size) (olds.drop ((i+1)*ei.size))).toList.drop ((m-1)*ei.size+(m-(m-1))*ei.size)).toArray e0 (0,0) (hW▸y);rw[←h3] at a3
 have a8:((zG (m-(m-1)) zs).flatten).length=(m-(m-1))*ei.size:=by
  rw[yN,yR,a7];simp
 have h5:(m-(m-1))*ei.size=ei.size:=by rw[show m-(m-1)=1 by omega,yL]
 refine⟨_,rfl,⟨o3.trans ho,t3.trans ht,u3.trans a6, ?_,g,cap,_,e0,rfl,a3, ?_, ?_,by omega,k.cap,.inl ⟨rfl,by omega,λb hb=>?_⟩⟩⟩
 . rw[h3];simp only[World.setRow,Array.size_modify];rw[hW,Db];exact yK _
 . simp only[yZ,zJ,a8,zN,zY,zX,a];omega
 . show ((_:H uF)++_++_).take _=_
   have hl:((putCells cur (i*ei.size) (olds.drop ((i+1)*ei.size))).toList.take ((m-1)*ei.size)).length=(m-1)*ei.size:=by
    rw[zN,zX,a];omega
   rw[zW,zR (by rw[hl];omega),zU (by rw[hl];omega),h]
 rw[h3,setRow_other W g b _ hb,hW,Wp g hb]
def P4{α:Type}(l:H α)(j:uA)(y:α):H α:=l.take j++ [y]++l.drop j
def LH{α:Type}(l:H α)(j:uA):H α:=l.take j++l.drop (j+1)
theorem Qih{α:Type}[GoE α]{f n:uA}(b:Iy P f)(c:0<n)
 (a:∀w oa m cap olds i vb voff vc vs,RowAt w n oa m cap olds->OneAt w n oa cap vb voff vs->i<=m->Calls P f #[.slice oa m cap,.int .i64 (i:I),.slice (uB ⟨vb,voff,uC⟩) 1 vc] w (Qdd w n i oa m cap olds vs))
 (l:H α) (y:α) {i:I} (e:0<=i) (g:i<=l.length) (d:l.length<1073741824):ATake P f n (eL l) [.one (.int .i64 i),.one (.slc .sh n (eL [y]))] D A (eL (P4 l i.toNat y)):=by
 have h:=Qmg b c a (l:=eL l) (x:=GoE.enc y) (i:=i) (j:=i.toNat) (by omega) (by simp[eL];omega) (by simpa [eL] using d);rw[show eL (P4 l i.toNat y)=(eL l).take i.toNat++ [GoE.enc y]++(eL l).drop i.toNat by simp[P4,eL,List.map_take,List.map_drop]];exact h
theorem NX{α:Type}[GoE α]{f n:uA}(b:Iy P f)
 (a:∀w oa m cap olds i,RowAt w n oa m cap olds->i<m->Calls P f #[.slice oa m cap,.int .i64 (i:I),.int .i64 ((i:I)+1)] w (Qed w n i oa m cap olds))
 (l:H α) {i k:I} (d:0<=i) (e:k=i+1) (g:i<l.length) (c:l.length<1073741824):ATake P f n (eL l) [.one (.int .i64 i),.one (.int .i64 k)] D A (eL (LH l i.toNat)):=by
 have h:=Qmh b a (l:=eL l) (i:=i) (k:=k) (j:=i.toNat) (by omega) (by omega) (by simp[eL];omega) (by simpa [eL] using c);rw[show eL (LH l i.toNat)=(eL l).take i.toNat++(eL l).drop (i.toNat+1) by simp[LH,eL,List.map_take,List.map_drop]];exact h
end
end
section
open Go.RowKit
theorem Qii{P:uW}{f n:uA}{l l':H (H PV)}{args:H AV}(h:ATake P f n l args D A l')(q:Ms l'):ATake P f n l args A A l':=by
 refine⟨h.1,λw F G L v c j k _ m o p d a=>?_⟩;refine(h.2 w G G L v c j (λ_ h=>h) (λ_ _ h=>h) m o p (OwnTop.keep d (λb hb=>⟨k b hb,rfl⟩) λ_ _=>rfl) a).mono ?_
 rintro e w' ⟨u,rfl,r,s,t,x,y,i⟩
 refine⟨u,rfl,r,s,t,x,y, ?_⟩;rcases i with i | ⟨g,cap,cur,e,rfl,rfl,z,hs,hr,i,h6⟩
 . exact .inl i
 exact .inr ⟨g,cap,cur,e,rfl,rfl,z,hs,OR.vr (VR.orr (w':=w') hr q) λb hb=>(by simp at hb),i,h6⟩
theorem Qwy{n:uA}{a:I}(b:0<=a)(c:a<=(n:I)):(0:I)<=0/\0<=a/\a<=(n:I):=⟨xR _,b,c⟩
section
variable {α:Type} {p:α->uD}
def ixF(p:α->uD):H α->I
 | []=> -1
 | a::l=>bif p a then 0 else bif ixF p l== -1 then-1 else ixF p l+1
theorem BK(p:α->uD):∀l:H α,-1<=ixF p l/\ixF p l<l.length
 | []=>by simp[ixF]
 | a ::l=>by
   have b:=BK p l;simp only[ixF,List.length_cons];cases p a with
   | true=>simp only[uJ];omega
   | false=>
     simp only[uH];cases h:(ixF p l== -1) with
     | true=>simp only[uJ];omega
     | false=>simp only[uH];omega
theorem Qsk{f:uA->α->uE->Rd I uE uE}{e:uA->uE->uE}(b:∀k a s,f k a s=bif p a then .ret ((k:uA):I) else .next ()):∀(l:H α) (k:uA),X5 f e l k ()=bif ixF p l== -1 then .brk () else .ret ((k:I)+ixF p l)
 | [],k=>rfl
 | a :: l,k=>by
   simp only[X5,b,ixF];cases p a with
   | true=>simp only[uJ];rw[show((0:I)== -1)=A from rfl,uH,Int.add_zero]
   | false=>
     simp only[uH];rw[Qsk b l (k+1)];have hb:=BK p l;cases h:(ixF p l== -1) with
     | true=>simp only[uJ];rfl
     | false=>
       have c:ixF p l≠-1:=by simpa using h
       simp only[uH];rw[show(ixF p l+1== -1)=A by simp;omega,uH]
       congr 1;omega
theorem Qmj{f:uA->α->uE->Rd I uE uE}{e:uA->uE->uE}(b:∀k a s,f k a s=bif p a then .ret ((k:uA):I) else .next ())(l:H α):Out.on (X5 f e l 0 ()) (λ_=> -1)=ixF p l:=by
 rw[Qsk b];cases h:(ixF p l== -1) with
 | true=>simp only[uJ,Out.on];exact(by simpa using h:ixF p l= -1).symm
 | false=>simp only[uH,Out.on];omega
theorem Qqt{l :H α}(h:ixF p l= -1):∀a,a∈l->p a=A:=by
 induction l with
 | nil=>intro a ha;simp at ha
 | cons b l ih =>
   intro a ha;have hb:=BK p l;simp only[ixF] at h;cases c:p b with
   | true=>rw[c] at h;simp at h
   | false=>
     rw[c] at h;simp only[uH] at h;cases d:(ixF p l== -1) with
     | true => rcases List.mem_cons.1 ha with rfl | ha
               . exact c
               exact ih (by simpa using d) a ha
     | false=>rw[d] at h;simp only[uH] at h;omega
theorem Qqu{l:H α}{i:uA}(h:ixF p l=(i:I)):(l.take i).filter (λa=> !p a)=l.take i/\∃a,l[i]? =uB a/\p a=D:=by
 induction l generalizing i with
 | nil=>simp[ixF] at h
 | cons b l e=>
   have hb:=BK p l;simp only[ixF] at h;cases c:p b with
   | true=>
     rw[c] at h;simp only[uJ] at h;obtain rfl:i=0:=by omega
     exact⟨rfl,b,rfl,c⟩
   | false=>
     rw[c] at h;simp only[uH] at h;cases d:(ixF p l== -1) with
     | true=>rw[d] at h;simp only[uJ] at h;omega
     | false=>
       rw[d] at h;simp only[uH] at h;have:ixF p l≠-1:=by simpa using d
       obtain⟨j,rfl⟩:∃j,i=j+1:=⟨i-1,by omega⟩;obtain⟨f,a,g,k⟩:=e (i:=j) (by omega);exact⟨by simp[c,f],a,by simpa using g,k⟩
theorem Qgr{R S T:Type}{f:S->Rd R S T}:∀{n m:uA} {s:S} {x:Out R T},whl f n s=uB x->n<=m->whl f m s=uB x
 | 0,_,_,_,h,_=>by simp[whl] at h
 | n+1,0,_,_,_,hm=>absurd hm (Nat.not_succ_le_zero n)
 | n+1,m+1,s,x,h,hm=>by
   simp only[whl] at h⊢;cases a:f s with
   | brk t=>rw[a] at h;exact h
   | ret r=>rw[a] at h;exact h
   | next s'=>rw[a] at h;exact Qgr h (by omega)
variable [Inhabited α]
def GB{R:Type}(f:H α×I×I->Rd R (H α×I×I) (H α×I))(p:α->uD):Prop:=
 ∀(s:H α) (i j:uA),i<j->j<=1073741824->f (s,(i:I),(j:I))=bif decide ((j:I)<(s.length:I)) then(bif p (nth s j) then .next (s,(i:I),((j+1:uA):I)) else .next (s.set i (nth s j),((i+1:uA):I),((j+1:uA):I))) else .brk (s,(i:I))
theorem Qee{R:Type}{f:H α×I×I->Rd R (H α×I×I) (H α×I)}(g:GB f p)(o:H α)(q:o.length<=1073741824):∀(n:uA) (s:H α) (i j:uA),j+n=o.length->i<j->s.length=o.length->s.take i=(o.take j).filter (λa=> !p a)->s.drop j=o.drop j->
 ∃s' k,whl f (n+1) (s,(i:I),(j:I))=uB (.brk (s',((k:uA):I)))/\s'.take k=o.filter (λa=> !p a)/\k<o.length/\s'.length=o.length
 | 0,s,i,j,hn,hij,hl,ht,hd=>by
   refine⟨s,i, ?_, ?_,by omega,hl⟩
   . simp only[whl,g s i j hij (by omega)];rw[uO (by omega)];rfl
   rw[ht,zU (by omega)]
 | n +1,s,i,j,hn,hij,hl,ht,hd=>by
   have v:j<s.length:=by omega
   have c:j<o.length:=by omega
   have t:nth s j=o[j]:=by
    have r:s[j]? =o[j]? :=by
     have:=uR (λl=>l[0]?) hd;simpa [yT] using this
    rw[yF c] at r;simp[nth,yQ,r]
   have d:o.take (j+1)=o.take j++ [o[j]]:=by rw[xA,yF c];rfl
   have e:∀m:H α,m.drop (j+1)=s.drop (j+1)->m.drop (j+1)=o.drop (j+1):=λm u=>by
    have:=uR (yB 1) hd;rw[xH,xH] at this;exact u.trans this
   have b:f (s,(i:I),(j:I))=_:=g s i j hij (by omega);rw[uP (by omega),t] at b;simp only[uJ] at b;cases h:p o[j] with
   | true=>
     rw[h] at b;simp only[whl,b,uJ];exact Qee g o q n s i (j+1) (by omega) (by omega) hl (by rw[ht,d,yV];simp[h]) (e s rfl)
   | false=>
     rw[h] at b;simp only[whl,b,uH];refine Qee g o q n (s.set i o[j]) (i+1) (j+1) (by omega) (by omega) (by simpa using hl) ?_ (e _ (List.drop_set_of_lt (by omega)));rw[d,yV,←ht];rw[xA,List.take_set_of_le (yK i),List.getElem?_set_self (by omega)];simp[h]
theorem Qgs{R:Type}{f:H α×I×I->Rd R (H α×I×I) (H α×I)}(d:GB f p){o:H α}(e:o.length<=1073741824){b:I}(g:b=ixF p o)(h:b≠-1):
 ∃s' c,whl f (o.length+1) (o,b,b+1)=uB (.brk (s',((c:uA):I)))/\s'.take c=o.filter (λa=> !p a)/\c<o.length/\s'.length=o.length:=by
 have hb:=BK p o;obtain⟨i,hi⟩:∃i:uA,b=(i:I):=⟨b.toNat,by omega⟩;obtain⟨j,a,k,m⟩:=Qqu (p:=p) (l:=o) (i:=i) (by omega);have n:i<o.length:=by omega
 obtain⟨s',c,q,r⟩:=Qee d o e (o.length-(i+1)) o i (i+1) (by omega) (by omega) rfl (by
  rw[xA,k,yV,j];simp[m]) rfl
 refine⟨s',c, ?_,r⟩;subst hi;exact Qgr q (by omega)
theorem Qqv{R:Type}{f:H α×I×I->Rd R (H α×I×I) (H α×I)}(d:GB f p){o:H α}(e:o.length<=1073741824){a:I}(b:a=ixF p o)(c:a≠-1):(whl f (o.length+1) (o,a,a+1)).isSome=D:=by
 obtain⟨s',g,h,_⟩:=Qgs d e b c;rw[h];rfl
theorem Qwz{f:H α×I×I->Rd (H α) (H α×I×I) (H α×I)}(d:GB f p){o:H α}(e:o.length<=1073741824){b:I}(c:b=ixF p o):
 (bif (b==(-1:I)) then o else Out.on (N2 f (o.length+1) (o,b,b+1)) (λy=>zO (zS y.2) y.1))=o.filter (λa=> !p a):=by
 cases h:(b==(-1:I)) with
 | true=>
   have h:b= -1:=by simpa using h
   simp only[uJ];exact(List.filter_eq_self.2 λa ha=>by simp[Qqt (c▸h) a ha]).symm
 | false=>
   obtain⟨s',j,g,i,_⟩:=Qgs d e c (by simpa using h);simp only[uH,N2,g];simpa [Out.on] using i
end
open GoE (enc wide)
def C5(f:Xt)(a:I):uD:=(f.1==a)
theorem LI(f:Xt)(a:I):ACalls vC 268 [.a [.i f.1,.i f.2.1,.b f.2.2.1,.i f.2.2.2.1,.h f.2.2.2.2],.one (.rptr .sh [.i a])] (.b (C5 f a)):=by
 refine en func268 λ_ _ _=>sn [1,2,3] [2] p0 ?_
 exact tn [3] [] p0<|Qc<|pb [] (show C5 f a=(f.1==a) from rfl)
def Y9(a:I)(b:uA)(c:Xt)(_:uE):Rd (I) (uE) (uE):=(bif (C5 c a) then(.ret (b:I)) else(.next ()))
def Z5(_:uA)(_:uE):uE:=()
def K7(a:H Xt)(b:I):I:=(Out.on (X5 (Y9 b) Z5 a 0 ()) (λ_=> -1))
theorem G8(a:H Xt)(c:I):ACalls vC 267 [.h a,.one (.fnr 268 [[.i c]])] (.i (K7 a c)):=by
 refine en func267 λ_ _ _=>sn [0,1,4] [] p0 ?_
 refine Qa<|tn [0,1,4,7,8] [] (pl 1 a p0)<|mz [(4,.i 0),(7,.i (a.length:I)),(8,.i 0)] [] [] []<|wT 0 0 .sh a (λj k=>?_)
 refine S8 (Y9 c) Z5 a () (λb _=> [(8,.i (b:I))]) [8] (λ_=> []) [0,1,7,8] wf0 (λb m d U=>?_) (λb m d U=>?_) (λn e=>?_)
 ·obtain⟨f,V⟩:=Xn (l:=a) (i:=b) d;refine sn [0,1,4,7,8,9] [] (pe 0 (zB ((b:I)<(a.length:I))) p0)<|Qa<|ckT<|Qd<|Qa<|Qn<|tn [0,1,4,5,7,8] [] p0<|tu [(5,.i (b:I)),(16,.b (C5 f c))] [] [] [] (pn 3 V (pc 5 (LI f c) p0))<|ck (C5 f c) (λg=>?_) (λg=>?_)
  ·refine sn [0,1,4,7,8] [] p0<|Qc ?_
   have h:(X5 (Y9 c) Z5 a 0 ())= .ret (b:I):=Kc V (Qu g rfl) U;exact pi [] (Pe h)
  refine Qd<|rn [0,1,4,7,8] [] (pw 0 b p0) ?_
  exact xw _ (Qp V (Qh g rfl) U)
 ·exact sn [0,1,4,7,8,9] [] (pe 0 (zC ((b:I)<(a.length:I))) p0)<|Qa<|ckF<|Qv<|xw _ (Xo d rfl U)
 exact sn [4] [] p0<|Qc<|pi [] (Vz e rfl)
def Y0(a:X2)(b:I):I:=(K7 a.2.1 b)
theorem YA(a:X2)(b:I):ACalls vC 221 [.a [.h a.1,.h a.2.1,.i a.2.2],.i b] (.i (Y0 a b)):=by
 refine en func221 λ_ _ _=>sn [2,3,4] [2,3] p0 ?_
 exact tn [4] [] (pc 3 (G8 a.2.1 b) p0)<|Qc<|pi [] (show Y0 a b=(K7 a.2.1 b) from rfl)
def Ln(a:I)(b:uA)(c:Xt)(_:uE):Rd (I) (uE) (uE):=(bif (c.1==a) then(.ret (b:I)) else(.next ()))
def Lo(_:uA)(_:uE):uE:=()
def Xg(a:X2)(b:I):I:=(Out.on (X5 (Ln b) Lo a.2.1 0 ()) (λ_=> -1))
theorem AA(c:X2)(b:I): -1<=Xg c b/\Xg c b<(zD c.2.1:I):=by
 unfold Xg;rw[Qmj (p:=λa:Xt=>a.1==b) (f:=Ln b) (e:=Lo) (λ_ _ _=>rfl)];exact BK _ _
theorem R7(a:X2)(d:I):ACalls vC 193 [.a [.h a.1,.h a.2.1,.i a.2.2],.i d] (.i (Xg a d)):=by
 refine en func193 λ_ _ _=>sn [1,2,4] [2] p0 ?_
 refine Qa<|tn [1,2,4,5] [2] p0<|mz [(2,.p 2 0),(4,.i 0),(5,.i 0)] [0] [(2, [.h a.1,.h a.2.1,.i a.2.2])] []<|wB 2 1 .sh a.2.1 (λh j=>?_)
 refine Qlc (Ln d) Lo a.2.1 () (λb _=> [(5,.i (b:I))]) [5] (λ_ _=> []) [] (λ_=> []) [1,2,5] (λ_=> []) [2] wf0 (λb k c U=>?_) (λb k c U=>?_) (λn e=>?_)
 ·obtain⟨m,V⟩:=Xn (l:=a.2.1) (i:=b) c;refine Qa<|sn [1,2,4,5,10] [2] (pl 3 a.2.1 (pe 4 (zB ((b:I)<(a.2.1.length:I))) p0))<|ckT<|Qd<|Qa<|Qn<|tn [1,2,4,5,20] [2] (pn 3 V p0)<|ck (m.1==d) (λf=>?_) (λf=>?_)
  ·refine tu [(4,.i (b:I))] [4] [] [] p0<|Qc ?_
   have g:(X5 (Ln d) Lo a.2.1 0 ())= .ret (b:I):=Kc V (Qu f rfl) U;exact pi [] (Pe g)
  refine Qd<|qu [(5,.i ((b+1:uA):I))] [5] [] [] (pw 1 b p0) ?_
  exact xw _ (Qp V (Qh f rfl) U)
 ·exact Qa<|sn [1,2,4,5,10] [2] (pl 3 a.2.1 (pe 4 (zC ((b:I)<(a.2.1.length:I))) p0))<|ckF<|Qv<|xw _ (Xo c rfl U)
 exact sn [4] [] p0<|Qc<|pi [] (Vz e rfl)
theorem GC{s:X2}(h:Qq s=D):s.2.1.length<=12:=by
 unfold Qq at h;cases b:X5 (Jw s) Wm s.2.1 0 () with
 | brk t=>
   rw[b] at h;simp only[Out.on,zK,uV] at h;omega
 | ret r=>
   rw[b] at h;obtain rfl:r=D:=h;exfalso
   have key:∀(l:H Xt) k,X5 (Jw s) Wm l k ()≠ .ret D:=by
    intro l
    induction l with
    | nil=>intro k h;simp[X5] at h
    | cons a l d=>
      intro k h;simp only[X5] at h;unfold Jw at h;split at h
      . rename_i b;exact d _ h
      . cases h
      rename_i r b;cases h;revert b;generalize(_|| _:uD)=c;cases c<;>simp
   exact key _ _ b
theorem Qmk(s:X2)(n:I):Xg s n=Y0 s n:=rfl
theorem Qsl(n:I):∀(l:H Xt) (k:uA),X5 (Y9 n) Z5 l k ()= .brk ()\/∃i:uA,i<l.length/\X5 (Y9 n) Z5 l k ()= .ret (((k+i:uA)):I)
 | [],_=> .inl rfl
 | a ::l,k=>by
   simp only[X5,Y9];cases(C5 a n) with
   | true=>exact .inr ⟨0,by simp,rfl⟩
   | false=>
     simp only[uH];rcases Qsl n l (k+1) with h | ⟨i,b,h⟩
     . exact .inl h
     exact .inr ⟨i+1,by simpa using b,by rw[h,show k+1+i=k+(i+1) by omega]⟩
theorem GD(s:X2)(n:I): -1<=Y0 s n/\Y0 s n<(zD s.2.1:I):=by
 unfold Y0 K7;rcases Qsl n s.2.1 0 with h | ⟨i,a,h⟩
 . rw[h];simp only[Out.on];omega
 rw[h];simp only[Out.on];omega
end
section
theorem DM{α:Type}[uX α]:∀{l N:H α},l.Nodup->(∀x,x∈l->x∈N)->l.length<=N.length
 | [],_,_,_=>yX _
 | a::l,N,hn,hs=>by
   have b:=List.nodup_cons.1 hn;have ha:=hs a (zV ..);have h:=DM (l:=l) (N:=N.erase a) b.2 λx c=>(List.mem_erase_of_ne (λe:x=a=>b.1 (by rw[←e];exact c))).2 (hs x (zL _ c))
   rw[List.length_erase_of_mem ha] at h;have:0<N.length:=List.length_pos_of_mem ha;rw[List.length_cons];omega
def Fresh{α:Type}(N b c:H α):Prop:=∃a:H α,c=b++a/\a.Nodup/\∀x,x∈a->x∉b/\x∈N
theorem Fresh.refl{α:Type}(N out:H α):Fresh N out out:=⟨[],by simp,List.nodup_nil,by simp⟩
theorem Fresh.one{α:Type}{N a:H α}{x:α}(b:x∉a)(c:x∈N):Fresh N a (a++ [x]):=⟨[x],rfl,by simp,by simp[b,c]⟩
theorem Fresh.trans{α:Type}{N a b c:H α}(h:Fresh N a b)(k:Fresh N b c):Fresh N a c:=by
 obtain⟨p,rfl,f,g⟩:=h;obtain⟨q,rfl,k1,d⟩:=k;refine⟨p++q,by rw[zW],List.nodup_append.2 ⟨f,k1,λx hx y i e=>?_⟩,λx hx=>?_⟩
 . subst e;exact(d _ i).1 (List.mem_append_right _ hx)
 rcases List.mem_append.1 hx with hx | hx
 . exact g x hx
 exact⟨λh=>(d x hx).1 (List.mem_append_left _ h),(d x hx).2⟩
theorem Qbc{α:Type}[uX α]{N a b:H α}(h:Fresh N a b):b.length<=a.length+N.length:=by
 obtain⟨c,rfl,d,e⟩:=h;have:=DM d λx f=>(e x f).2
 rw[zJ];omega
theorem Qml{α R T:Type}[uX α]{N names:H α}{f:H α×I->Rd R (H α×I) T}
 (a:∀out i s',0<=i->out.length<=names.length+N.length->f (out,i)= .next s'->i<(out.length:I)/\s'.2=i+1/\Fresh N out s'.1):∀(n:uA) (out:H α) (i:I),0<=i->Fresh N names out->(names.length:I)+N.length<=i+n->(whl f (n+1) (out,i)).isSome=D
 | n, out,i,h0,hF,hn=>by
   simp only[whl];cases b:f (out,i) with
   | brk t=>rfl
   | ret r=>rfl
   | next s'=>
     have c:=Qbc hF;obtain⟨j,d,e⟩:=a out i s' h0 c b;cases n with
     | zero=>omega
     | succ n=>
       obtain⟨g,h⟩:=s';obtain rfl:h=i+1:=d;exact Qml a n g (i+1) (by omega) (hF.trans e) (by omega)
theorem Qmm{α R T:Type}[uX α]{N names:H α}{f:H α×I->Rd R (H α×I) T}
 (b:∀a i s',0<=i->a.length<=names.length+N.length->f (a,i)= .next s'->i<(a.length:I)/\s'.2=i+1/\Fresh N a s'.1):(whl f (zD names+zD N+1) (names,0)).isSome=D:=
 Qml b _ names 0 (xR 0) (Fresh.refl N names) (by omega)
theorem RI{l:H uI}(h:∀i,i+1<l.length->bl (nth l i) (nth l (i+1))=D):HQ l:=by
 have key:∀j i,i<j->j<l.length->bl (nth l i) (nth l j)=D:=by
  intro j
  induction j with
  | zero=>intro i b;omega
  | succ j d=>
    intro i b a;by_cases e:i=j
    . subst e;exact h i a
    exact VT (d i (by omega) (by omega)) (h j a)
 unfold HQ;rw[List.pairwise_iff_getElem];intro i j b a c;have:=key j i c a;simpa [nth,yQ,b,a] using this
theorem GE{l:H uI}(h:HQ l):l.Nodup:=h.imp λ{a b} hab e=>by
 subst e;rw[Qaq] at hab;cases hab
theorem Qsm(n:uI):∀(l:H Zt) (k:uA),Out.on (X5 (Ag n) Dl l k ()) (λ_=>0)≠0->n∈l.map (·.1)
 | [],_,h=>by simp[X5,Out.on] at h
 | a ::l,k,h=>by
   simp only[X5,Ag] at h;cases b:(a.1.toList==n.toList) with
   | true=>
     rw[toList_inj] at b;have:a.1=n:=uT b;rw[←this];simp
   | false=>
     rw[b] at h;simp only[uH] at h;exact zL _ (Qsm n l (k+1) h)
theorem Quu{s:H Zt}(h:Jv s=D):s.length<=5:=by
 unfold Jv at h;cases b:X5 (V7 s) Ha s 0 () with
 | brk t=>
   rw[b] at h;simp only[Out.on,uV] at h;omega
 | ret r=>
   rw[b] at h;obtain rfl:r=D:=h;exfalso
   have key:∀(l:H Zt) k,X5 (V7 s) Ha l k ()≠ .ret D:=by
    intro l
    induction l with
    | nil=>intro k h;simp[X5] at h
    | cons a l d=>
      intro k h;simp only[X5] at h;unfold V7 at h;split at h
      . rename_i b;exact d _ h
      . cases h
      rename_i r b;cases h;revert b;generalize(_|| _:uD)=c;cases c<;>simp
   exact key _ _ b
theorem Qmn{s:H Zt}{f:Xt}(h:Y7 s f=D):(∃t,X5 (K5 s f) Uy f.2.2.2.2 0 ()= .brk t)/\Jv s=D:=by
 unfold Y7 at h;cases b:X5 (K5 s f) Uy f.2.2.2.2 0 () with
 | brk t=>
   rw[b] at h;simp only[Out.on,zK] at h;exact⟨⟨t,rfl⟩,h.2.2.2⟩
 | ret r=>
   rw[b] at h;obtain rfl:r=D:=h;exfalso
   have key:∀(l:H Hk) k,X5 (K5 s f) Uy l k ()≠ .ret D:=by
    intro l
    induction l with
    | nil=>intro k h;simp[X5] at h
    | cons a l e=>
      intro k h;simp only[X5] at h;unfold K5 at h;split at h
      . rename_i d;exact e _ h
      . cases h
      rename_i r d;cases h;revert d;generalize(bif decide (((k:uA):I)>(0:I)) then _ else _:uD)=c;cases c<;>simp
   exact key _ _ b
theorem KH{s:H Zt}{f:Xt}(h:Y7 s f=D):zD f.2.2.2.2<=5:=by
 obtain⟨⟨t,n⟩,o⟩:=Qmn h
 have g:∀i a,f.2.2.2.2[i]? =uB a->(0<i->bl (nth f.2.2.2.2 (i-1)).1 a.1=D)/\Jo s a.1 a.2=D:=λi a b=>by
  have:=Ra (λk a t=>by unfold K5;generalize(bif decide (((k:uA):I)>(0:I)) then _ else _:uD)=c;cases c<;>simp) n i a b;rw[yA] at this;unfold K5 at this;cases d:Jo s a.1 a.2 with
  | false=>rw[d] at this;simp at this
  | true=>
    refine⟨λr=>?_,rfl⟩;rw[d,uP (show((i:uA):I)>0 by omega)] at this;simp only[uJ,yE,Bool.or_false] at this;rw[show zS (((i:uA):I)-1)=i-1 by omega] at this;cases hb:bl (nth f.2.2.2.2 (i-1)).1 a.1 with
    | true=>rfl
    | false=>
      unfold bl at hb;rw[hb] at this;simp at this
 have l:HQ (f.2.2.2.2.map (·.1)):=RI λi b=>by
  rw[zT] at b;have:=(g (i+1) _ (Hn b)).1 (by omega);have e:∀j,j<f.2.2.2.2.length->nth (f.2.2.2.2.map (·.1)) j=(nth f.2.2.2.2 j).1:=λj p=>by simp[nth,yQ,p]
  rw[e i (by omega),e (i+1) b];exact this
 have m:∀x,x∈f.2.2.2.2.map (·.1)->x∈s.map (·.1):=λx q=>by
  obtain⟨a,ha,rfl⟩:=List.mem_map.1 q;obtain⟨i,b⟩:=yJ ha;have d:=(g i a b).2;unfold Jo at d;simp only[zK,bne_iff_ne,uY] at d;exact Qsm a.1 s 0 λe=>d.2.1 (d.2.2.trans e)
 have:=DM (GE l) m;rw[zT,zT] at this;have:=Quu o;omega
theorem Qef{s:X2}(h:Qq s=D){f:Xt}(b:f∈s.2.1):Y7 s.1 f=D:=by
 unfold Qq at h;obtain⟨i,e⟩:=yJ b;cases d:X5 (Jw s) Wm s.2.1 0 () with
 | brk t=>
   have:=Ra (λk a t=>by unfold Jw;generalize(_|| _:uD)=c;cases c<;>simp) d i f e;unfold Jw at this;cases g:Y7 s.1 f with
   | true=>rfl
   | false=>rw[g] at this;simp at this
 | ret r=>
   rw[d] at h;obtain rfl:r=D:=h;exfalso
   have key:∀(l:H Xt) k,X5 (Jw s) Wm l k ()≠ .ret D:=by
    intro l
    induction l with
    | nil=>intro k h;simp[X5] at h
    | cons a l j=>
      intro k h;simp only[X5] at h;unfold Jw at h;split at h
      . rename_i b;exact j _ h
      . cases h
      rename_i r b;cases h;revert b;generalize(_|| _:uD)=c;cases c<;>simp
   exact key _ _ d
theorem BL{s:X2}(h:Qq s=D){f:Xt}(a:f∈s.2.1):zD f.2.2.2.2<=5:=KH (Qef h a)
theorem Rg(l:H uI):ACalls vC 233 [.h l] (.h (F1 [] l)):=by
 have h:=QA l;rw[show Mx l=F1 [] l from Qgb l] at h;exact h
open GoE (enc wide)
set_option maxRecDepth 100000 in
set_option maxHeartbeats 4000000 in
theorem Qij(w:uG)(v:uS Addr)(m cap:uA)(c:H uF)(i p b vc:uA)(x:H uF)(d:RowAt w 2 v m cap c)(h:OneAt w 2 v cap p b x)(hi:i<=m):Calls vC 273 #[.slice v m cap,.int .i64 (i:I),.slice (uB ⟨p,b,uC⟩) 1 vc] w (Qdd w 2 i v m cap c x):=by
 have f:=Ji Z7 (t:=91) rfl;have y:=(Ji Z7 (t:=45) rfl).sli;have aj:=run_underlying (P:=vC) y;have a3:∀w,(Go.sizeOf 91).run vC w= .ok 2 w:=λw=>Cu (Ji Z7 (t:=91) rfl) w
 have af:=d.lim;have ak:=d.le;have al:cap<=9223372036854775807:=by have:=d.cap;unfold uU at this;omega
 have a4:=QS;have am:¬((1:I)=0):=by omega
 by_cases a5:i=m
 . subst a5;obtain⟨u,w',q,u',h1,hT⟩:=Qqs (vc:=vc) y f (by decide) d h;cases h1
   have hc:Calls vC 273 #[.slice v i cap,.int .i64 (i:I),.slice (uB ⟨p,b,uC⟩) 1 vc] w (λe r=>e= .returned u/\r=w'):=by
    clear hT d h f;go_enter func273,ntmps273
    cases v with
    | none=>
      go_wp2_with (at_builtin;refine Lib.wpList_append_run _ rfl _ _ _ _ rfl _ _ rfl rfl _ _ (q _) ?_)
      all_goals (go_ret;exact⟨rfl,rfl⟩)
    | some a=>
      obtain⟨ab,ao,an⟩:=a;go_wp2_with (at_builtin;refine Lib.wpList_append_run _ rfl _ _ _ _ rfl _ _ rfl rfl _ _ (q _) ?_)
      all_goals (go_ret;exact⟨rfl,rfl⟩)
   exact hc.mono (by rintro e r ⟨rfl,rfl⟩;exact⟨_,rfl,hT⟩)
 rcases d.row with⟨_,h0,_⟩ | ⟨g,cur,e0,rfl,z,j,k⟩
 . omega
 have l:i<m:=by omega
 have ap:¬((i:I)=(m:I)):=by omega
 have aq:vA vB ((m:I)+1)=(m:I)+1:=by rw[IntKind.wrap_i64];omega
 have ar:vA vB ((i:I)+1)=(i:I)+1:=by rw[IntKind.wrap_i64];omega
 have au:((i:I)+1).toNat=i+1:=by omega
 have av:((m:I)+1).toNat=m+1:=by omega
 have aw:(0:I)<=(i:I)+1:=by omega
 have ax:(i:I)<=(m:I)+1:=by omega
 have ay:(0:I)<=(m:I)+1:=by omega
 have az:i<=m:=hi;obtain⟨a6,ag,tA,b1,hA,s⟩:=h.block (by decide);have a7:0<cap:=by omega
 have a8:p≠g:=h.ne g rfl a7
 have a1:∀o lb cb,(callFunc 314 #[.slice (uB ⟨p,b,uC⟩) 1 vc,.slice (uB ⟨g,o,uC⟩) lb cb]).run vC w= .ok (.value (.bool A)) w:=λo lb cb=>by
  rw[run_callFunc_extern func314 (by kernel_rfl) (by kernel_rfl) (by kernel_rfl) (e:=Extern.SlicesOverlaps.overlaps #[45,45] #[4]) (by kernel_rfl),Qba w 45 4 91 y 2 a3 ⟨p,b,uC⟩ ⟨g,o,uC⟩ 1 vc lb cb a8 hA z (by omega) s];rfl
 by_cases n:m+1<=cap
 . obtain ⟨q1,q2,q3⟩:=Qbb (vc:=vc) (w:=w) y f (by decide) z j k d h l n;have b2:¬(cap=i+1):=by omega
   have b3:¬(cap=i):=by omega
   have b4:¬((cap:I)<(m:I)+1):=by omega
   have b5:((m:I)+1)<=(cap:I):=by omega
   have hc:Calls vC 273 #[.slice (uB ⟨g,0,uC⟩) m cap,.int .i64 (i:I),.slice (uB ⟨p,b,uC⟩) 1 vc] w (λe r=>e= .returned (.slice (uB ⟨g,0,uC⟩) (m+1) cap)/\r=(w.drew.setCells g ((i+1)*2) (c.drop (i*2))).setCells g (i*2) x):=by
    obtain⟨q4,q5,q6⟩:=Qbb (vc:=vc) (w:=w.drew) y f (by decide) z j k ⟨d.len,d.row,d.le,d.cap,d.lim,d.ones⟩ ⟨h.len,h.cells,h.ones,h.ne⟩ l n;clear d h f q1 q2 q3 q6 z hA j k;go_enter func273,ntmps273
    go_wp2_with (simp only[a1])
    go_region_law (refine BJ rfl _ _ 45 45 rfl (.slice (uB ⟨g,(i+1)*2,uC⟩) (m+1-(i+1)) (cap-(i+1))) (.slice (uB ⟨g,i*2,uC⟩) (m+1-i) (cap-i)) (by simp[Act.eval,Act.put]) (by simp[Act.eval,Act.put]) (q4 _ _ _) ?_)
    go_wp2_with (at_builtin;refine ZV rfl _ _ 45 45 rfl (.slice (uB ⟨g,i*2,uC⟩) (m+1-i) (cap-i)) _ (by simp[Act.eval,Act.put]) rfl (q5 _ rfl _ _) ?_)
    go_ret
    exact⟨rfl,rfl⟩
   refine hc.mono ?_
   rintro e r ⟨rfl,rfl⟩
   obtain⟨p1,p2,p3⟩:=B4 g (c.drop (i*2)) ((i+1)*2) w.drew;exact q3 _ (Rf g _ _ w) p1 p2 p3
 obtain⟨G,W1,a9,a2,qa,qb,qc,qd,o1,o2,o3⟩:=Qmi (vc:=vc) (tn:=3) y (by kernel_rfl) f (by decide) z j k d h a6 l (by omega);have ah:G<=9223372036854775807:=by unfold uU at a2;omega
 have b6:¬(G=i):=by omega
 have ai:¬(G=i+1):=by omega
 have b7:¬(cap=i):=by omega
 have b8:(cap:I)<(m:I)+1:=by omega
 have b9:vA vB ((m:I)+1-(i:I))=(m:I)+1-(i:I):=by rw[IntKind.wrap_i64];omega
 have ba:(i:I)<=(m:I):=by omega
 have aa:∀ty,(Builtin.append_ #[45,3] ty #[.slice (uB ⟨g,0,uC⟩) i cap,.int .i64 ((m:I)+1-(i:I))]).run vC w= .ok (.slice (uB ⟨w.heap.size,0,uC⟩) (m+1) G) W1:=λty=>qa ty _ (by omega)
 have ad:=qb W1 rfl;have ae:=qc (W1.setCells w.heap.size (i*2) x).drew rfl
 have hc:Calls vC 273 #[.slice (uB ⟨g,0,uC⟩) m cap,.int .i64 (i:I),.slice (uB ⟨p,b,uC⟩) 1 vc] w (λe r=>e= .returned (.slice (uB ⟨w.heap.size,0,uC⟩) (m+1) G)/\r=(W1.setCells w.heap.size (i*2) x).drew.setCells w.heap.size ((i+1)*2) (c.drop (i*2))):=by
  clear d h f qa qb qc qd z hA j k a1 a9 a2;go_enter func273,ntmps273
  go_wp2_with (first
   | (at_builtin;refine Lib.wpList_append_run _ rfl _ _ _ _ rfl _ _ rfl rfl _ _ (aa _) ?_)
   | (at_builtin;refine ZV rfl _ _ 45 45 rfl (.slice (uB ⟨w.heap.size,i*2,uC⟩) (m+1-i) (G-i)) _ (by simp[Act.eval,Act.put]) rfl (ad _ _) ?_))
  go_region_law (refine BJ rfl _ _ 45 45 rfl (.slice (uB ⟨w.heap.size,(i+1)*2,uC⟩) (m+1-(i+1)) (G-(i+1))) (.slice (uB ⟨g,i*2,uC⟩) (m-i) (cap-i)) (by simp[Act.eval,Act.put]) (by simp[Act.eval,Act.put]) (ae _ _ _) ?_)
  go_wp2
  go_ret
  exact⟨rfl,rfl⟩
 refine hc.mono ?_
 rintro e r ⟨rfl,rfl⟩
 obtain⟨p1,p2,p3⟩:=B4 w.heap.size x (i*2) W1;exact qd _ rfl (p1.trans o1) (p2.trans o2) (p3.trans o3)
theorem Qgt(l:H Yj)(y:Yj){i:I}(a:0<=i)(b:i<=l.length)(c:l.length<1073741824):ATake vC 273 2 (eL l) [.one (.int .i64 i),.one (.slc .sh 2 (eL [y]))] D A (eL (P4 l i.toNat y)):=
 Qih (by unfold Iy;kernel_rfl) (by decide) (λw oa m cap olds i vb voff vc vs=>Qij w oa m cap olds i vb voff vc vs) l y a b c
set_option maxRecDepth 100000 in
set_option maxHeartbeats 4000000 in
theorem Qik(w:uG)(o:uS Addr)(m a:uA)(c:H uF)(i:uA)(b:RowAt w 2 o m a c)(y:i<m):Calls vC 228 #[.slice o m a,.int .i64 (i:I),.int .i64 ((i:I)+1)] w (Qed w 2 i o m a c):=by
 have z:=(Ji Z7 (t:=45) rfl).sli;have a1:=run_underlying (P:=vC) z;have a2:∀w,(Go.sizeOf 91).run vC w= .ok 2 w:=λw=>Cu (Ji Z7 (t:=91) rfl) w
 have s:=b.lim;have a3:=b.le;have a4:a<=9223372036854775807:=by have:=b.cap;unfold uU at this;omega
 have p:=QS;rcases b.row with⟨_,h0,_⟩ | ⟨g,cur,e0,rfl,q,d,f⟩
 . omega
 obtain⟨W1,qa,o1,o2,o3,qw⟩:=Qgq (w:=w.drew) Z7 (t:=45) (e:=91) rfl rfl (by decide) q d f ⟨b.len,b.row,b.le,b.cap,b.lim,b.ones⟩ y;obtain⟨W2,a5,r⟩:=qw W1 rfl o1 o2 o3
 have hd:Qed w 2 i (uB ⟨g,0,uC⟩) m a c (.returned (.slice (uB ⟨g,0,uC⟩) (m-1) a)) W2:=by
  obtain⟨u,h1,k⟩:=r W2 rfl rfl rfl rfl;exact⟨u,h1,⟨k.os,k.tape,k.output,k.size,k.row⟩⟩
 have a6:¬((i:I)=(i:I)+1):=by omega
 have a7:((i:I)+1).toNat=i+1:=by omega
 have a8:(0:I)<=(i:I)+1:=by omega
 have a9:(i:I)<=(i:I)+1:=by omega
 have aa:(i:I)+1<=(m:I):=by omega
 have ab:(i:I)<=(a:I):=by omega
 have ad:(i:I)+1<=(a:I):=by omega
 have ae:(m:I)<=(a:I):=by omega
 have l:((m-1:uA):I)=(m:I)-1:=by omega
 have af:m-1<=m:=by omega
 have ag:((m-1:uA):I)<=(m:I):=by omega
 have ah:¬(a=i):=by omega
 have v:¬(a=m-1):=by omega
 have hc:Calls vC 228 #[.slice (uB ⟨g,0,uC⟩) m a,.int .i64 (i:I),.int .i64 ((i:I)+1)] w (λe x=>e= .returned (.slice (uB ⟨g,0,uC⟩) (m-1) a)/\x=W2):=by
  by_cases h:a=i+1
  . have j:∀n,_:=λn=>qa n ⟨g,0,uC⟩ (.inl h)
    clear b q d f qa qw r hd l;subst h;go_enter func228,ntmps228
    go_wp2_with fail
    go_region_law (refine M1 rfl _ _ 45 45 rfl (.slice (uB ⟨g,0,uC⟩) i (i+1)) (.slice (uB ⟨g,0,uC⟩) (m-(i+1)) (i+1-(i+1))) (by simp[Act.eval,Act.put]) (by first | (simp[Act.eval,Act.put];done) | (simp[Act.eval,Act.put];omega)) (j _) ?_)
    go_wp2
    go_ret
    exact⟨rfl,rfl⟩
  have j:∀n,_:=λn=>qa n ⟨g,(i+1)*2,uC⟩ (.inr rfl)
  clear b q d f qa qw r hd l;go_enter func228,ntmps228
  go_wp2_with fail
  go_region_law (refine M1 rfl _ _ 45 45 rfl (.slice (uB ⟨g,0,uC⟩) i a) (.slice (uB ⟨g,(i+1)*2,uC⟩) (m-(i+1)) (a-(i+1))) (by simp[Act.eval,Act.put]) (by simp[Act.eval,Act.put,h]) (j _) ?_)
  go_wp2
  go_ret
  exact⟨rfl,rfl⟩
 exact hc.mono (by rintro e x ⟨rfl,rfl⟩;exact hd)
theorem Qqw(l:H Yj){i k:I}(a:0<=i)(b:k=i+1)(c:i<l.length)(d:l.length<1073741824):ATake vC 228 2 (eL l) [.one (.int .i64 i),.one (.int .i64 k)] D A (eL (LH l i.toNat)):=
 NX (by unfold Iy;kernel_rfl) (λw oa m cap olds i=>Qik w oa m cap olds i) l a b c d
set_option maxRecDepth 100000 in
set_option maxHeartbeats 4000000 in
theorem Qeg(w:uG)(o:uS Addr)(m a:uA)(c:H uF)(i:uA)(b:RowAt w 5 o m a c)(y:i<m):Calls vC 270 #[.slice o m a,.int .i64 (i:I),.int .i64 ((i:I)+1)] w (Qed w 5 i o m a c):=by
 have z:=(Ji Z7 (t:=42) rfl).sli;have a1:=run_underlying (P:=vC) z;have a2:∀w,(Go.sizeOf 88).run vC w= .ok 5 w:=λw=>Cu (Ji Z7 (t:=88) rfl) w
 have s:=b.lim;have a3:=b.le;have a4:a<=9223372036854775807:=by have:=b.cap;unfold uU at this;omega
 have p:=QS;rcases b.row with⟨_,h0,_⟩ | ⟨g,cur,e0,rfl,q,d,f⟩
 . omega
 obtain⟨W1,qa,o1,o2,o3,qw⟩:=Qgq (w:=w.drew) Z7 (t:=42) (e:=88) rfl rfl (by decide) q d f ⟨b.len,b.row,b.le,b.cap,b.lim,b.ones⟩ y;obtain⟨W2,a5,r⟩:=qw W1 rfl o1 o2 o3
 have hd:Qed w 5 i (uB ⟨g,0,uC⟩) m a c (.returned (.slice (uB ⟨g,0,uC⟩) (m-1) a)) W2:=by
  obtain⟨u,h1,k⟩:=r W2 rfl rfl rfl rfl;exact⟨u,h1,⟨k.os,k.tape,k.output,k.size,k.row⟩⟩
 have a6:¬((i:I)=(i:I)+1):=by omega
 have a7:((i:I)+1).toNat=i+1:=by omega
 have a8:(0:I)<=(i:I)+1:=by omega
 have a9:(i:I)<=(i:I)+1:=by omega
 have aa:(i:I)+1<=(m:I):=by omega
 have ab:(i:I)<=(a:I):=by omega
 have ad:(i:I)+1<=(a:I):=by omega
 have ae:(m:I)<=(a:I):=by omega
 have l:((m-1:uA):I)=(m:I)-1:=by omega
 have af:m-1<=m:=by omega
 have ag:((m-1:uA):I)<=(m:I):=by omega
 have ah:¬(a=i):=by omega
 have v:¬(a=m-1):=by omega
 have hc:Calls vC 270 #[.slice (uB ⟨g,0,uC⟩) m a,.int .i64 (i:I),.int .i64 ((i:I)+1)] w (λe x=>e= .returned (.slice (uB ⟨g,0,uC⟩) (m-1) a)/\x=W2):=by
  by_cases h:a=i+1
  . have j:∀n,_:=λn=>qa n ⟨g,0,uC⟩ (.inl h)
    clear b q d f qa qw r hd l;subst h;go_enter func270,ntmps270
    go_wp2_with fail
    go_region_law (refine M1 rfl _ _ 42 42 rfl (.slice (uB ⟨g,0,uC⟩) i (i+1)) (.slice (uB ⟨g,0,uC⟩) (m-(i+1)) (i+1-(i+1))) (by simp[Act.eval,Act.put]) (by first | (simp[Act.eval,Act.put];done) | (simp[Act.eval,Act.put];omega)) (j _) ?_)
    go_wp2
    go_ret
    exact⟨rfl,rfl⟩
  have j:∀n,_:=λn=>qa n ⟨g,(i+1)*5,uC⟩ (.inr rfl)
  clear b q d f qa qw r hd l;go_enter func270,ntmps270
  go_wp2_with fail
  go_region_law (refine M1 rfl _ _ 42 42 rfl (.slice (uB ⟨g,0,uC⟩) i a) (.slice (uB ⟨g,(i+1)*5,uC⟩) (m-(i+1)) (a-(i+1))) (by simp[Act.eval,Act.put]) (by simp[Act.eval,Act.put,h]) (j _) ?_)
  go_wp2
  go_ret
  exact⟨rfl,rfl⟩
 exact hc.mono (by rintro e x ⟨rfl,rfl⟩;exact hd)
theorem Qmo(l:H Xt){i k:I}(a:0<=i)(b:k=i+1)(c:i<l.length)(d:l.length<1073741824):ATake vC 270 5 (eL l) [.one (.int .i64 i),.one (.int .i64 k)] D A (eL (LH l i.toNat)):=
 NX (by unfold Iy;kernel_rfl) (λw oa m cap olds i=>Qeg w oa m cap olds i) l a b c d
def Uh(a:I)(b:H I):uD:=(W0 b a)
theorem YB(a:I)(b:H I):ACalls vC 281 [.i a,.one (.rptr .sh [.h b])] (.b (Uh a b)):=by
 refine en func281 λ_ _ _=>sn [0,1,3] [] p0 ?_
 exact tn [3] [] (pc 2 (N3 b a) p0)<|Qc<|pb [] (show Uh a b=(W0 b a) from rfl)
def W8(a:H I)(b:uA)(c:I)(_:uE):Rd (I) (uE) (uE):=(bif (Uh c a) then(.ret (b:I)) else(.next ()))
def W9(_:uA)(_:uE):uE:=()
def Qz(a:H I)(b:H I):I:=(Out.on (X5 (W8 b) W9 a 0 ()) (λ_=> -1))
theorem Ua(s_:H I)(b:H I):Qz s_ b=ixF (λa=>Uh a b) s_:=Qmj (λ_ _ _=>rfl) s_
theorem Gb(a:H I)(b:H I): -1<=Qz a b/\Qz a b<(zD a:I):=by rw[Ua];exact BK _ _
theorem G9(a:H I)(c:H I):ACalls vC 319 [.h a,.one (.fnr 281 [[.h c]])] (.i (Qz a c)):=by
 refine en func319 λ_ _ _=>sn [0,1,4] [] p0 ?_
 refine Qa<|tn [0,1,4,7,8] [] (pl 1 a p0)<|mz [(4,.i 0),(7,.i (a.length:I)),(8,.i 0)] [] [] []<|wT 0 0 .sh a (λj k=>?_)
 refine S8 (W8 c) W9 a () (λb _=> [(8,.i (b:I))]) [8] (λ_=> []) [0,1,7,8] wf0 (λb m d U=>?_) (λb m d U=>?_) (λn e=>?_)
 ·obtain⟨f,V⟩:=Xn (l:=a) (i:=b) d;refine sn [0,1,4,7,8,9] [] (pe 0 (zB ((b:I)<(a.length:I))) p0)<|Qa<|ckT<|Qd<|Qa<|Qn<|tn [0,1,4,5,7,8] [] p0<|tu [(5,.i (b:I)),(16,.b (Uh f c))] [] [] [] (pn 3 V (pc 5 (YB f c) p0))<|ck (Uh f c) (λg=>?_) (λg=>?_)
  ·refine sn [0,1,4,7,8] [] p0<|Qc ?_
   have h:(X5 (W8 c) W9 a 0 ())= .ret (b:I):=Kc V (Qu g rfl) U;exact pi [] (Pe h)
  refine Qd<|rn [0,1,4,7,8] [] (pw 0 b p0) ?_
  exact xw _ (Qp V (Qh g rfl) U)
 ·exact sn [0,1,4,7,8,9] [] (pe 0 (zC ((b:I)<(a.length:I))) p0)<|Qa<|ckF<|Qv<|xw _ (Xo d rfl U)
 exact sn [4] [] p0<|Qc<|pi [] (Vz e rfl)
def Z1(b:H I)(a:(H I)×I×I):Rd (H I) ((H I)×I×I) ((H I)×I):=(bif decide (a.2.2<(a.1.length:I)) then(bif (!(Uh (nth a.1 a.2.2.toNat) b)) then(.next (zQ a.1 a.2.1.toNat (nth a.1 a.2.2.toNat),(a.2.1+1),(a.2.2+1))) else(.next (a.1,a.2.1,(a.2.2+1)))) else(.brk (a.1,a.2.1)))
def Y1(a:H I)(b:H I):(H I):=(bif ((Qz a b)==(-1:I)) then a else(Out.on (N2 (Z1 b) (zD a+1) (a,(Qz a b),((Qz a b)+1))) (λc=>zO c.2.toNat c.1)))
theorem Aq(b:H I):GB (Z1 b) (λa=>Uh a b):=by
 intro s i j c e;unfold Z1;by_cases h:(j:I)<(s.length:I)<;>cases d:Uh (nth s j) b<;>simp[h,d]
theorem Gc(a:H I)(b:H I)(c:zD a<=1073741824)(h:Qz a b≠-1):(whl (Z1 b) (zD a+1) (a,Qz a b,Qz a b+1)).isSome=D:=Qqv (Aq b) c (Ua a b) h
theorem F3(b:H I)(c:H I)(d:zD b<=1073741824):Y1 b c=b.filter (λa=> !(Uh a c)):=by
 unfold Y1;exact Qwz (Aq c) d (Ua b c)
theorem F4(s_:H I)(a:H I)(b:zD s_<=1073741824):zD (Y1 s_ a)<=zD s_:=by rw[F3 _ _ b];exact List.length_filter_le _ _
theorem Ge(s_:H I)(b:H I):ATake vC 280 1 (eL s_) [.one (.fnr 281 [[.h b]])] D A (eL (Y1 s_ b)):=by
 refine Qqp (tt:=tt) Z7 func280 (fn:=Tryz.f280) rfl (by unfold Iy;kernel_rfl) (Nat.le_of_ble_eq_true rfl) (by simp[AV.cells,C.key,C.bkeys]) (t:=4) rfl λw0 F0 hG=>?_
 refine wT 0 0 (.own A 63) s_ (λa4 m=>?_);have a5:=Gb s_ b;refine sn [0,1,4] [] p0<|tn [0,1,4,5] [] (pc 2 (G9 s_ b) p0)<|Qa<|tu [(4,.e 0),(5,.i (Qz s_ b)),(12,.b ((Qz s_ b)==(-1:I)))] [] [] [] p0<|ck ((Qz s_ b)==(-1:I)) (λl=>?_) (λl=>?_)
 ·refine sn [0,1,4,5] [] p0<|Qc ?_
  have o:Y1 s_ b=s_:=Qu l (rfl);exact⟨.inl rfl,63,by rw[o];kernel_rfl⟩
 have p:=Yt l;refine Qd<|Qa<|sn [0,1,4,5,6] [] (pe 1 (Nn (IntWalk.i64_in ((Qz s_ b)+1) (by omega))) p0)<|mz [(6,.i ((Qz s_ b)+1))] [12] [] []<|blw (λ(a:(H I)×I×I)=> [(0,.q 63 a.1),(5,.i a.2.1),(6,.i a.2.2)]) [0,5,6] (λa=> []) [] (λ(c:(H I)×I)=> [(0,.q 63 c.1),(5,.i c.2)]) [0,1,5,6] (λc=> []) [] (λ(k0:uA) (a:(H I)×I×I)=>whl (Z1 b) k0 a=uB (N2 (Z1 b) (zD s_+1) (s_,(Qz s_ b),((Qz s_ b)+1)))/\0<=a.2.1/\a.2.1<a.2.2/\a.2.2<=(zD a.1:I)/\zD a.1=zD s_) (λ(c:(H I)×I)=>(N2 (Z1 b) (zD s_+1) (s_,(Qz s_ b),((Qz s_ b)+1)))= .brk c/\0<=c.2/\c.2<(zD c.1:I)/\zD c.1=zD s_) (zD s_+1) (s_,(Qz s_ b),((Qz s_ b)+1)) wf0 ⟨Mv (Gc s_ b m p),(by first|omega|(dsimp only;omega) | rfl),(by first|omega|(dsimp only;omega) | rfl),(by first|omega|(dsimp only;omega) | rfl),(by first|omega|(dsimp only;omega) | rfl)⟩ (λ_ h=>P9 h.1) (λk0 a U=>?_) (λc d=>?_)
 ·have q:=U.2.1;have r:=U.2.2.1;have s:=U.2.2.2.1;have u:=U.2.2.2.2;refine Qa<|sn [0,1,4,5,6,19] [] (pl 2 a.1 p0)<|ck (decide (a.2.2<(a.1.length:I))) (λj=>?_) (λj=>?_)
  ·have v:=uT j;refine Qd<|Qa<|Qn<|wT 0 0 (.own A 63) a.1 (λa6 a7=>?_)
   have w:=ng a.1 a.2.2.toNat;refine tn [0,1,4,5,6,7] [] (pG 2 a.2.2 w p0)<|tu [(7,.i (nth a.1 a.2.2.toNat)),(29,.b (!(Uh (nth a.1 a.2.2.toNat) b)))] [] [] [] (pc 2 (YB (nth a.1 a.2.2.toNat) b) p0)<|ck (!(Uh (nth a.1 a.2.2.toNat) b)) (λx=>?_) (λx=>?_)
   ·have g:=ng a.1 a.2.1.toNat;refine su [(0,.one (.slc (.own A 63) 1 (setRow (eL a.1) a.2.1.toNat 0 [.i (nth a.1 a.2.2.toNat)])))] [0,7,29] [] [] (pG 3 a.2.1 g p0) ?_;refine eqn [(0,.q 63 (zQ a.1 a.2.1.toNat (nth a.1 a.2.2.toNat)))] [0] [] [] (by rw[Wd (y:=(nth a.1 a.2.2.toNat)) g rfl]<;>kernel_rfl) ?_;refine rn [0,1,4,5,6] [] (pe 1 (Nn (IntWalk.i64_in (a.2.1+1) (by omega))) p0) ?_;refine qn [0,1,4,5,6] [] (pe 1 (Nn (IntWalk.i64_in (a.2.2+1) (by omega))) p0) ?_;exact xw (zQ a.1 a.2.1.toNat (nth a.1 a.2.2.toNat),(a.2.1+1),(a.2.2+1)) ⟨wn U.1 (Qu j (Qu x rfl)),(by first|omega|(dsimp only;omega) | (simp only[zF];omega)),(by first|omega|(dsimp only;omega) | (simp only[zF];omega)),(by first|omega|(dsimp only;omega) | (simp only[zF];omega)),(by first|omega|(dsimp only;omega) | (simp only[zF];omega))⟩
   refine Qd<|rn [0,1,4,5,6] [] (pe 1 (Nn (IntWalk.i64_in (a.2.2+1) (by omega))) p0) ?_
   exact xw (a.1,a.2.1,(a.2.2+1)) ⟨wn U.1 (Qu j (Qh x rfl)),(by first|omega|(dsimp only;omega) | (simp only[zF];omega)),(by first|omega|(dsimp only;omega) | (simp only[zF];omega)),(by first|omega|(dsimp only;omega) | (simp only[zF];omega)),(by first|omega|(dsimp only;omega) | (simp only[zF];omega))⟩
  have v:=uL j;exact Qv<|xw (a.1,a.2.1) ⟨wb U.1 (Qh j rfl),by first|omega|(simp only[zF];omega),by first|omega|(simp only[zF];omega),by first|omega|(simp only[zF];omega)⟩
 have a1:=d.2.1;have a2:=d.2.2.1;have a3:=d.2.2.2;refine Qa<|Qmf Z7 rfl (by kernel_rfl) rfl rfl rfl rfl rfl (by omega) (by rw[Zv];omega) (λi e f=>?_)
 refine sn [4] [] (po 2 (.cut (eL (zO c.2.toNat c.1))) (px (Qx4 (show .one (.slc (.own A 0) 1 ((i.take c.2.toNat).drop (zS 0)))= .q 0 (zO c.2.toNat c.1) from(uR (λz=>AV.one (.slc (.own A 0) 1 (z.drop (zS 0)))) f).trans (Qdr (.own A 0) 1 c.2.toNat c.2 c.1 rfl))) (px (Nc (lo:=0) (hi:=c.2) (n:=(zD i)) (Qwy (by omega) (by rw[e,Zv];omega))) p0)))<|Qc ?_
 have k:Y1 s_ b=zO c.2.toNat c.1:=Qh l (Vz d.1 rfl);exact⟨.inl rfl,0,by rw[k];kernel_rfl⟩
def Mf(a:H I)(b:H I):(H I):=Y1 a b
theorem WM(a:H I)(b:H I):ACalls vC 235 [.h a,.h b] (.o 0 (Mf a b)):=by
 refine en func235 λ_ _ _=>sn [0,3,4] [3] p0 ?_
 refine wT 0 0 .sh a (λd c=>?_);have e:=F4 a b c;exact tn [4] [] (pc 1 (HO a) (po 3 (.take A A (eL (Y1 a b))) (px (JP (Qii (Ge a b) (Ea _))) (px (G1 (Ea a)) (px (G1 (Ea (Y1 a b))) p0)))))<|Qc<|po0 [] (show Mf a b=Y1 a b from rfl)
def Q2(f:Xt):Xt:=f
theorem M2(f:Xt):ACalls vC 178 [.a [.i f.1,.i f.2.1,.b f.2.2.1,.i f.2.2.2.1,.h f.2.2.2.2]] (.a [.i ((Q2 f).1),.i ((Q2 f).2.1),.b ((Q2 f).2.2.1),.i ((Q2 f).2.2.2.1),.o 0 ((Q2 f).2.2.2.2)]):=by
 refine en func178 λ_ _ _=>sn [1,2] [1,2] p0 ?_
 exact tn [1,2] [1,2] (pc 2 (Qdu f.2.2.2.2) p0)<|tu [(2,.p 2 0)] [0] [(2, [.i f.1,.i f.2.1,.b f.2.2.1,.i f.2.2.2.1,.o 320 f.2.2.2.2])] [] p0<|Qc<|pz [] (show Q2 f=f from rfl) (λz=> .a [.i z.1,.i z.2.1,.b z.2.2.1,.i z.2.2.2.1,.o 0 z.2.2.2.2])
def Gu(_:uA)(a:Xt)(b:H Xt):Rd (H Xt) (H Xt) (H Xt):=(.next (b++ [(Q2 a)]))
def Gv(_:uA)(a:H Xt):(H Xt):=a
def Dh(l:H Xt):(H Xt):=(Out.on (X5 Gu Gv l 0 []) (λa=>a))
theorem GF(l:H Xt):ACalls vC 111 [.h l] (.o 0 (Dh l)):=by
 refine en func111 λ_ _ _=>sn [0,2] [] p0 ?_
 refine tn [0,2,3] [] p0<|Qa<|tu [(2,.e 0),(3,.one (.slc (.own D 384) 5 [])),(7,.h l),(8,.i (l.length:I)),(9,.i 0)] [0] [] [] (pl 1 l p0)<|wT 7 0 .sh l (λh j=>?_)
 refine HN Gu Gv l [] (λb a=> [(3,.o 104 a),(9,.i (b:I))]) [3,9] (λg=> [(3,.o 105 g)]) [3,7,8,9] (λb a=>zD a<=b) (wsf [(384,104)]) (by simp) (λb a c U=>?_) (λb a c U=>?_) (λg f=>?_)
 ·have d:=U.2;obtain⟨e,V⟩:=Xn (l:=l) (i:=b) c;refine sn [2,3,7,8,9,10] [] (pe 0 (zB ((b:I)<(l.length:I))) p0)<|Qa<|ckT<|Qd<|Qa<|Qn<|tn [2,3,5,7,8,9] [5] (pn 0 V p0)<|wT 3 0 (.own D 104) a (λk m=>?_)
  refine qu [(3,.one (.slc (.own D 1088) 5 (eA a (Q2 e))))] [3] [] [] (pc 2 (M2 e) (pa a [(Q2 e)] p0)) ?_;refine eqn [(3,.o 1088 (a++ [(Q2 e)]))] [3] [] [] (by rw[Wu]<;>kernel_rfl) ?_;refine rn [2,3,7,8,9] [] (pw 0 b p0) ?_;exact zE (a++ [(Q2 e)]) (zH (wsf [(1088,104)]) ⟨Qp V rfl U.1,by first|omega|(simp;omega) | simp⟩)
 ·have d:=U.2;exact sn [2,3,7,8,9,10] [] (pe 0 (zC ((b:I)<(l.length:I))) p0)<|Qa<|ckF<|Qv<|zE _ (zH (wsf [(104,105)]) (Xo c rfl U.1))
 exact sn [2] [] p0<|Qc<|po0 [] (Vz f rfl)
def Xc(a:X2):X2:=(a.1,(Dh a.2.1),a.2.2)
theorem BM(l:H Xt):Dh l=l:=by
 unfold Dh;rw[Ww (f:=Gu) (e:=Gv) (g:=id) (λk a s=>rfl) l 0 []];simp[Out.on,Gv]
theorem Ts(a:X2):(Xc a).2.1.length=a.2.1.length:=by unfold Xc;rw[BM]
theorem Is(s_:X2):Xc s_=s_:=by unfold Xc;rw[BM]
theorem Cx(a:X2):ACalls vC 61 [.a [.h a.1,.h a.2.1,.i a.2.2]] (.a [.o 0 ((Xc a).1),.o 1 ((Xc a).2.1),.i ((Xc a).2.2)]):=by
 refine en func61 λ_ _ _=>sn [1,2] [1,2] p0 ?_
 exact tN [2] [2] (pc 2 (Qak a.1) (pc 5 (GF a.2.1) p0))<|Qc<|pz [] (show Xc a=(a.1,(Dh a.2.1),a.2.2) from rfl) (λz=> .a [.o 0 z.1,.o 1 z.2.1,.i z.2.2])
def Za(a:X2)(f:Xt):X2×I×uD:=(bif ((!(Qq a))|| (decide ((a.2.1.length:I)>=(12:I))|| (!(Y7 a.1 (a.2.2,(Q2 f).2.1,(Q2 f).2.2.1,(Q2 f).2.2.2.1,(Q2 f).2.2.2.2))))) then((Xc a),0,A) else(((Xc a).1,(Xc a).2.1++ [(a.2.2,(Q2 f).2.1,(Q2 f).2.2.1,(Q2 f).2.2.2.1,(Q2 f).2.2.2.2)],vA vB ((Xc a).2.2+1)),a.2.2,D))
theorem BW(a:X2)(f:Xt):ACalls vC 220 [.a [.h a.1,.h a.2.1,.i a.2.2],.a [.i f.1,.i f.2.1,.b f.2.2.1,.i f.2.2.2.1,.h f.2.2.2.2]] (.tup [(D, [.o 0 ((((Za a f)).1).1),.o 1 ((((Za a f)).1).2.1),.i ((((Za a f)).1).2.2)]),(A, [.i (((Za a f)).2.1)]),(A, [.b (((Za a f)).2.2)])]):=by
 refine en func220 λ_ _ _=>?_
 have j:=Ts a;refine sn [2,3,4,5,6] [2,3,4] p0<|tn [2,3,4,5,6,7] [2,3,4,7] (pc 1 (Cx a) p0)<|tu [(2,.p 2 0),(3,.p 3 0),(4,.p 4 0),(5,.i 0),(6,.b A),(7,.p 7 0)] [0,1] [(2, [.h a.1,.h a.2.1,.i a.2.2]),(3, [.i ((Q2 f).1),.i ((Q2 f).2.1),.b ((Q2 f).2.2.1),.i ((Q2 f).2.2.2.1),.o 704 ((Q2 f).2.2.2.2)]),(4, [.e 2,.e 5,.i 0]),(7, [.o 576 ((Xc a).1),.o 577 ((Xc a).2.1),.i ((Xc a).2.2)])] [] (pc 1 (M2 f) p0)<|sn [2,3,4,5,6,7] [2,3,4,7] p0<|Qa<|Qa<|mz [] [] [(3, [.i a.2.2,.i ((Q2 f).2.1),.b ((Q2 f).2.2.1),.i ((Q2 f).2.2.2.1),.o 704 ((Q2 f).2.2.2.2)])] [3]<|jn [(30,.b ((!(Qq a))|| (decide ((a.2.1.length:I)>=(12:I))|| (!(Y7 a.1 (a.2.2,(Q2 f).2.1,(Q2 f).2.2.1,(Q2 f).2.2.2.1,(Q2 f).2.2.2.2))))))] [2] [] [2] (!(Qq a)) (λc=>?_) (λc=>?_) ?_
 ·have b:(Qq a)=A:=Kj c;exact ru [(30,.b D)] [2] [] [2] (pc 1 (cb b (K6 a)) (pe 2 (show .b (!A)= .b D from rfl) p0))<|zA (by rw[c]<;>kernel_rfl)
 ·have b:(Qq a)=D:=Yu c;refine Ye (decide ((a.2.1.length:I)>=(12:I))) (λd=>?_) (λd=>?_)
  ·exact ru [(30,.b D)] [2] [] [2] (pc 1 (cb b (K6 a)) (pe 2 (show .b (!D)= .b A from rfl) (pl 6 a.2.1 (pt 7 d p0))))<|zA (by rw[c,d]<;>kernel_rfl)
  exact rn [3,4,5,6,7,30] [3,4,7] (pc 1 (cb b (K6 a)) (pe 2 (show .b (!D)= .b A from rfl) (pl 6 a.2.1 (pf 7 d (pc 13 (Bb a.1 (a.2.2,(Q2 f).2.1,(Q2 f).2.2.1,(Q2 f).2.2.2.1,(Q2 f).2.2.2.2)) p0)))))<|zA (by rw[c,d]<;>kernel_rfl)
 refine ck ((!(Qq a))|| (decide ((a.2.1.length:I)>=(12:I))|| (!(Y7 a.1 (a.2.2,(Q2 f).2.1,(Q2 f).2.2.1,(Q2 f).2.2.2.1,(Q2 f).2.2.2.2))))) (λg=>?_) (λg=>?_)
 ·exact sn [3,4,5,6,7] [3,4,7] p0<|Qc<|pz [] (show Za a f=_ from Qu g rfl) (λz=> .tup [(D, [.o 0 z.1.1,.o 1 z.1.2.1,.i z.1.2.2]),(A, [.i z.2.1]),(A, [.b z.2.2])])
 have h:((decide ((a.2.1.length:I)>=(12:I))|| (!(Y7 a.1 (a.2.2,(Q2 f).2.1,(Q2 f).2.2.1,(Q2 f).2.2.2.1,(Q2 f).2.2.2.2)))))=A:=Rz g;have e:(decide ((a.2.1.length:I)>=(12:I)))=A:=Sl h;have i:=uL e;refine Qd<|wB 7 1 (.own D 577) ((Xc a).2.1) (λk l=>?_)
 refine su [] [30] [(3, [.i a.2.2,.i ((Q2 f).2.1),.b ((Q2 f).2.2.1),.i ((Q2 f).2.2.2.1),.dead]),(7, [.o 576 ((Xc a).1),.slc (.own D 2304) 5 (eA ((Xc a).2.1) (a.2.2,(Q2 f).2.1,(Q2 f).2.2.1,(Q2 f).2.2.2.1,(Q2 f).2.2.2.2)),.i ((Xc a).2.2)])] [3,7] (pa ((Xc a).2.1) [(a.2.2,(Q2 f).2.1,(Q2 f).2.2.1,(Q2 f).2.2.2.1,(Q2 f).2.2.2.2)] p0) ?_;refine eqn [] [] [(7, [.o 576 ((Xc a).1),.o 2304 ((Xc a).2.1++ [(a.2.2,(Q2 f).2.1,(Q2 f).2.2.1,(Q2 f).2.2.2.1,(Q2 f).2.2.2.2)]),.i ((Xc a).2.2)])] [7] (by rw[Wu]<;>kernel_rfl) ?_;exact sn [3,4,5,6,7] [3,4,7] p0<|tN [4,5,6] [4] p0<|Qc<|pz [] (show Za a f=_ from Qh g rfl) (λz=> .tup [(D, [.o 0 z.1.1,.o 1 z.1.2.1,.i z.1.2.2]),(A, [.i z.2.1]),(A, [.b z.2.2])])
def Xs(a:X2)(b:I):Xt×uD:=(bif decide ((Y0 a b)>=(0:I)) then((Q2 (nth a.2.1 (Y0 a b).toNat)),D) else((0,0,A,0, []),A))
theorem NY{s:X2}(h:Qq s=D)(a:I):zD (Xs s a).1.2.2.2.2<=5:=by
 unfold Xs;by_cases b:Y0 s a>=(0:I)
 . rw[uP b,uJ];have c:=GD s a;exact BL h (xI (Hn (l:=s.2.1) (i:=zS (Y0 s a)) (by omega)))
 rw[uO b,uH];exact yX _
theorem R8(a:X2)(b:I):ACalls vC 158 [.a [.h a.1,.h a.2.1,.i a.2.2],.i b] (.tup [(D, [.i ((((Xs a b)).1).1),.i ((((Xs a b)).1).2.1),.b ((((Xs a b)).1).2.2.1),.i ((((Xs a b)).1).2.2.2.1),.o 0 ((((Xs a b)).1).2.2.2.2)]),(A, [.b (((Xs a b)).2)])]):=by
 refine en func158 λ_ _ _=>sn [1,2,4,5] [2,4] p0 ?_
 refine Qa<|tn [2,4,5,6] [2,4] (pc 2 (YA a b) p0)<|tu [(2,.p 2 0),(4,.p 4 0),(5,.b A),(6,.i (Y0 a b)),(11,.b (decide ((Y0 a b)>=(0:I))))] [0,1] [(2, [.h a.1,.h a.2.1,.i a.2.2]),(4, [.i 0,.i 0,.b A,.i 0,.e 4])] [] p0<|ck (decide ((Y0 a b)>=(0:I))) (λc=>?_) (λc=>?_)
 ·have e:=GD a b;have f:=uT c;refine wB 2 1 .sh a.2.1 (λg h=>?_);have d:=ng a.2.1 (Y0 a b).toNat;exact sn [4,5] [4] (pg 3 (Y0 a b) d (pc 5 (M2 (nth a.2.1 (Y0 a b).toNat)) p0))<|Qc<|pz [] (show Xs a b=_ from Qu c rfl) (λz=> .tup [(D, [.i z.1.1,.i z.1.2.1,.b z.1.2.2.1,.i z.1.2.2.2.1,.o 0 z.1.2.2.2.2]),(A, [.b z.2])])
 refine Qd<|sn [4,5] [4] p0<|opn [(D,4,4,D,104,4)] ?_
 exact Qc<|pz [] (show Xs a b=_ from Qh c rfl) (λz=> .tup [(D, [.i z.1.1,.i z.1.2.1,.b z.1.2.2.1,.i z.1.2.2.2.1,.o 0 z.1.2.2.2.2]),(A, [.b z.2])])
def Ym(a:X2)(f:Xt):X2×uD:=(bif ((!(Qq a))|| (decide ((Y0 a f.1)<(0:I))|| (!(Y7 a.1 f)))) then((Xc a),A) else(((Xc a).1,zQ ((Xc a).2.1) (Y0 a f.1).toNat (Q2 f),(Xc a).2.2),D))
theorem OA{s:X2}{f:Xt}(h:(Ym s f).2=D):Qq s=D/\zD f.2.2.2.2<=5:=by
 unfold Ym at h;cases a:Qq s with
 | false=>rw[a] at h;simp at h
 | true=>
  refine⟨rfl, ?_⟩;cases b:Y7 s.1 f with
  | true=>exact KH b
  | false=>
   rw[a,b] at h;simp at h
theorem AB(a:X2)(f:Xt):ACalls vC 222 [.a [.h a.1,.h a.2.1,.i a.2.2],.a [.i f.1,.i f.2.1,.b f.2.2.1,.i f.2.2.2.1,.h f.2.2.2.2]] (.tup [(D, [.o 0 ((((Ym a f)).1).1),.o 1 ((((Ym a f)).1).2.1),.i ((((Ym a f)).1).2.2)]),(A, [.b (((Ym a f)).2)])]):=by
 refine en func222 λ_ _ _=>?_
 have p:=Ts a;refine sn [2,3,4,5] [2,3,4] p0<|tn [2,3,4,5,6] [2,3,4,6] (pc 1 (Cx a) p0)<|tu [(2,.p 2 0),(3,.p 3 0),(4,.p 4 0),(5,.b A),(6,.p 6 0),(7,.i (Y0 a f.1))] [0,1] [(2, [.h a.1,.h a.2.1,.i a.2.2]),(3, [.i f.1,.i f.2.1,.b f.2.2.1,.i f.2.2.2.1,.h f.2.2.2.2]),(4, [.e 2,.e 5,.i 0]),(6, [.o 576 ((Xc a).1),.o 577 ((Xc a).2.1),.i ((Xc a).2.2)])] [] (pc 3 (YA a f.1) p0)<|Qa<|Qa<|jn [(27,.b ((!(Qq a))|| (decide ((Y0 a f.1)<(0:I))|| (!(Y7 a.1 f)))))] [2] [] [2] (!(Qq a)) (λc=>?_) (λc=>?_) ?_
 ·have b:(Qq a)=A:=Kj c;exact ru [(27,.b D)] [2] [] [2] (pc 1 (cb b (K6 a)) (pe 2 (show .b (!A)= .b D from rfl) p0))<|zA (by rw[c]<;>kernel_rfl)
 ·have b:(Qq a)=D:=Yu c;have o:=GC b;refine Ye (decide ((Y0 a f.1)<(0:I))) (λd=>?_) (λd=>?_)
  ·exact ru [(27,.b D)] [2] [] [2] (pc 1 (cb b (K6 a)) (pe 2 (show .b (!D)= .b A from rfl) (pt 5 d p0)))<|zA (by rw[c,d]<;>kernel_rfl)
  have q:=GD a f.1;exact rn [3,4,5,6,7,27] [3,4,6] (pc 1 (cb b (K6 a)) (pe 2 (show .b (!D)= .b A from rfl) (pf 5 d (pc 11 (Bb a.1 f) p0))))<|zA (by rw[c,d]<;>kernel_rfl)
 refine ck ((!(Qq a))|| (decide ((Y0 a f.1)<(0:I))|| (!(Y7 a.1 f)))) (λe=>?_) (λe=>?_)
 ·exact sn [3,4,5,6,7] [3,4,6] p0<|Qc<|pz [] (show Ym a f=_ from Qu e rfl) (λz=> .tup [(D, [.o 0 z.1.1,.o 1 z.1.2.1,.i z.1.2.2]),(A, [.b z.2])])
 have j:((!(Qq a)))=A:=Sl e;have g:(Qq a)=D:=Yu j;have k:=GC g;have l:((decide ((Y0 a f.1)<(0:I))|| (!(Y7 a.1 f))))=A:=Rz e;have h:(decide ((Y0 a f.1)<(0:I)))=A:=Sl l;have m:=GD a f.1;have n:=uL h;refine Qd<|wB 6 1 (.own D 577) ((Xc a).2.1) (λr s=>?_)
 have i:=ng ((Xc a).2.1) (Y0 a f.1).toNat;refine sU [] [3,7,27] [(6, [.o 576 ((Xc a).1),.slc (.own D 577) 5 (setRow (eL ((Xc a).2.1)) (Y0 a f.1).toNat 0 [.i ((Q2 f).1),.i ((Q2 f).2.1),.b ((Q2 f).2.2.1),.i ((Q2 f).2.2.2.1),.h ((Q2 f).2.2.2.2)]),.i ((Xc a).2.2)])] [3,6] (pc 4 (M2 f) (pG 5 (Y0 a f.1) i p0)) ?_;refine eqn [] [] [(6, [.o 576 ((Xc a).1),.o 577 (zQ ((Xc a).2.1) (Y0 a f.1).toNat (Q2 f)),.i ((Xc a).2.2)])] [6] (by rw[Wd (y:=(Q2 f)) i rfl]<;>kernel_rfl) ?_;exact sn [4,5] [4] p0<|Qc<|pz [] (show Ym a f=_ from Qh e rfl) (λz=> .tup [(D, [.o 0 z.1.1,.o 1 z.1.2.1,.i z.1.2.2]),(A, [.b z.2])])
def Zj(a:X2)(b:I):X2×uD:=(bif ((!(Qq a))|| decide ((Y0 a b)<(0:I))) then((Xc a),A) else(((Xc a).1,LH ((Xc a).2.1) (Y0 a b).toNat,(Xc a).2.2),D))
theorem BX(a:X2)(b:I):ACalls vC 224 [.a [.h a.1,.h a.2.1,.i a.2.2],.i b] (.tup [(D, [.h ((((Zj a b)).1).1),.h ((((Zj a b)).1).2.1),.i ((((Zj a b)).1).2.2)]),(A, [.b (((Zj a b)).2)])]):=by
 refine en func224 λ_ _ _=>?_
 have o:=Ts a;refine sn [1,2,4,5] [2,4] p0<|tn [1,2,4,5,6] [2,4,6] (pc 1 (Cx a) p0)<|tu [(2,.p 2 0),(4,.p 4 0),(5,.b A),(6,.p 6 0),(7,.i (Y0 a b))] [0,1] [(2, [.h a.1,.h a.2.1,.i a.2.2]),(4, [.e 2,.e 5,.i 0]),(6, [.o 576 ((Xc a).1),.o 577 ((Xc a).2.1),.i ((Xc a).2.2)])] [] (pc 2 (YA a b) p0)<|Qa<|Qa<|jn [(19,.b ((!(Qq a))|| decide ((Y0 a b)<(0:I))))] [2] [] [2] (!(Qq a)) (λd=>?_) (λd=>?_) ?_
 ·have c:(Qq a)=A:=Kj d;exact rn [4,5,6,7,19] [4,6] (pc 1 (cb c (K6 a)) (pe 2 (show .b (!A)= .b D from rfl) p0))<|zA (by rw[d]<;>kernel_rfl)
 ·have c:(Qq a)=D:=Yu d;have l:=GC c;exact rn [4,5,6,7,19] [4,6] (pc 1 (cb c (K6 a)) (pe 2 (show .b (!D)= .b A from rfl) p0))<|zA (by rw[d]<;>kernel_rfl)
 refine ck ((!(Qq a))|| decide ((Y0 a b)<(0:I))) (λe=>?_) (λe=>?_)
 ·exact sn [4,5,6,7] [4,6] p0<|Qc<|pz [576,577] (show Zj a b=_ from Qu e rfl) (λz=> .tup [(D, [.h z.1.1,.h z.1.2.1,.i z.1.2.2]),(A, [.b z.2])])
 have g:((!(Qq a)))=A:=Sl e;have f:(Qq a)=D:=Yu g;have h:=GC f;have j:(decide ((Y0 a b)<(0:I)))=A:=Rz e;have m:=GD a b;have n:=uL j;refine Qd<|Pd [577] rfl ?_
 refine wB 6 1 (.own A 577) ((Xc a).2.1) (λp q=>?_);exact sn [4,5,6] [4,6] (po 5 (.take D A (eL (LH ((Xc a).2.1) (Y0 a b).toNat))) (px (JP (Qmo ((Xc a).2.1) (i:=(Y0 a b)) (k:=vA vB ((Y0 a b)+1)) (by omega) (by first | omega | exact IntWalk.i64_in _ (by omega)) (by omega) (by omega))) p0))<|tn [4,5] [4] p0<|Qc<|pz [576,1664] (show Zj a b=_ from Qh e rfl) (λz=> .tup [(D, [.h z.1.1,.h z.1.2.1,.i z.1.2.2]),(A, [.b z.2])])
open GoE (enc wide)
def Jq(d:H Yj):uD:=((Qr d)).2
theorem Qbd{d:H Yj}(h:Jq d=D):zD d<=5:=(Ir (d:=d) h).2.1
theorem Rh(d:H Yj):ACalls vC 171 [.h d] (.b (Jq d)):=by
 refine en func171 λ_ _ _=>sn [0,2] [] p0 ?_
 exact tn [2,4] [] (pc 1 (XV d) p0)<|tu [(2,.b (((Qr d)).2))] [0] [] [] p0<|Qc<|pb [] (show Jq d=((Qr d)).2 from rfl)
def Zo(x:Yj):Yj:=x
theorem Ok(x:Yj):ACalls vC 112 [.a [.s x.1,.h x.2]] (.a [.s ((Zo x).1),.o 0 ((Zo x).2)]):=by
 refine en func112 λ_ _ _=>sn [1,2] [1,2] p0 ?_
 exact tn [1,2] [1,2] (pc 2 (Qdw x.2) p0)<|tu [(2,.p 2 0)] [0] [(2, [.s x.1,.o 320 x.2])] [] p0<|Qc<|pz [] (show Zo x=x from rfl) (λz=> .a [.s z.1,.o 0 z.2])
def Lp(_:uA)(a:Yj)(b:H Yj):Rd (H Yj) (H Yj) (H Yj):=(.next (b++ [(Zo a)]))
def YC(_:uA)(a:H Yj):(H Yj):=a
def X0(d:H Yj):(H Yj):=(Out.on (X5 Lp YC d 0 []) (λa=>a))
theorem Em(d:H Yj):X0 d=d:=by
 unfold X0;rw[Ww (f:=Lp) (g:=id) (λ_ _ _=>rfl),List.map_id];rfl
theorem BN(d:H Yj):(X0 d).length=d.length:=by rw[Em]
theorem A6(d:H Yj):ACalls vC 62 [.h d] (.o 0 (X0 d)):=by
 refine en func62 λ_ _ _=>sn [0,2] [] p0 ?_
 refine tn [0,2,3] [] p0<|Qa<|tu [(2,.e 0),(3,.one (.slc (.own D 384) 2 [])),(7,.h d),(8,.i (d.length:I)),(9,.i 0)] [0] [] [] (pl 1 d p0)<|wT 7 0 .sh d (λj k=>?_)
 refine HN Lp YC d [] (λb a=> [(3,.o 104 a),(9,.i (b:I))]) [3,9] (λh=> [(3,.o 105 h)]) [3,7,8,9] (λb a=>zD a<=b) (wsf [(384,104)]) (by simp) (λb a c U=>?_) (λb a c U=>?_) (λh g=>?_)
 ·have e:=U.2;obtain⟨f,V⟩:=Xn (l:=d) (i:=b) c;refine sn [2,3,7,8,9,10] [] (pe 0 (zB ((b:I)<(d.length:I))) p0)<|Qa<|ckT<|Qd<|Qa<|Qn<|tn [2,3,5,7,8,9] [5] (pn 0 V p0)<|wT 3 0 (.own D 104) a (λm n=>?_)
  refine qu [(3,.one (.slc (.own D 1088) 2 (eA a (Zo f))))] [3] [] [] (pc 2 (Ok f) (pa a [(Zo f)] p0)) ?_;refine eqn [(3,.o 1088 (a++ [(Zo f)]))] [3] [] [] (by rw[Wu]<;>kernel_rfl) ?_;refine rn [2,3,7,8,9] [] (pw 0 b p0) ?_;exact zE (a++ [(Zo f)]) (zH (wsf [(1088,104)]) ⟨Qp V rfl U.1,by first|omega|(simp;omega) | simp⟩)
 ·have e:=U.2;exact sn [2,3,7,8,9,10] [] (pe 0 (zC ((b:I)<(d.length:I))) p0)<|Qa<|ckF<|Qv<|zE _ (zH (wsf [(104,105)]) (Xo c rfl U.1))
 exact sn [2] [] p0<|Qc<|po0 [] (Vz g rfl)
def C6(o:Yj)(a:Yj):uD:=(!(Op.bytesLess o.1.toList a.1.toList|| o.1.toList==a.1.toList))
theorem LJ(o:Yj)(a:Yj):ACalls vC 272 [.a [.s o.1,.h o.2],.one (.rptr .sh [.s a.1,.h a.2])] (.b (C6 o a)):=by
 refine en func272 λ_ _ _=>sn [1,2,3] [2] p0 ?_
 exact tn [3] [] p0<|Qc<|pb [] (show C6 o a=(!(Op.bytesLess o.1.toList a.1.toList|| o.1.toList==a.1.toList)) from rfl)
def Jx(a:Yj)(b:uA)(c:Yj)(_:uE):Rd (I) (uE) (uE):=(bif (C6 c a) then(.ret (b:I)) else(.next ()))
def Kl(_:uA)(_:uE):uE:=()
def Q4(a:H Yj)(b:Yj):I:=(Out.on (X5 (Jx b) Kl a 0 ()) (λ_=> -1))
theorem Ia(s_:H Yj)(b:Yj):Q4 s_ b=ixF (λa=>C6 a b) s_:=Qmj (λ_ _ _=>rfl) s_
theorem Ib(a:H Yj)(b:Yj): -1<=Q4 a b/\Q4 a b<(zD a:I):=by rw[Ia];exact BK _ _
theorem Ix(a:H Yj)(c:Yj):ACalls vC 271 [.h a,.one (.fnr 272 [[.s c.1,.h c.2]])] (.i (Q4 a c)):=by
 refine en func271 λ_ _ _=>sn [0,1,4] [] p0 ?_
 refine Qa<|tn [0,1,4,7,8] [] (pl 1 a p0)<|mz [(4,.i 0),(7,.i (a.length:I)),(8,.i 0)] [] [] []<|wT 0 0 .sh a (λj k=>?_)
 refine S8 (Jx c) Kl a () (λb _=> [(8,.i (b:I))]) [8] (λ_=> []) [0,1,7,8] wf0 (λb m d U=>?_) (λb m d U=>?_) (λn e=>?_)
 ·obtain⟨f,V⟩:=Xn (l:=a) (i:=b) d;refine sn [0,1,4,7,8,9] [] (pe 0 (zB ((b:I)<(a.length:I))) p0)<|Qa<|ckT<|Qd<|Qa<|Qn<|tn [0,1,4,5,7,8] [] p0<|tu [(5,.i (b:I)),(16,.b (C6 f c))] [] [] [] (pn 3 V (pc 5 (LJ f c) p0))<|ck (C6 f c) (λg=>?_) (λg=>?_)
  ·refine sn [0,1,4,7,8] [] p0<|Qc ?_
   have h:(X5 (Jx c) Kl a 0 ())= .ret (b:I):=Kc V (Qu g rfl) U;exact pi [] (Pe h)
  refine Qd<|rn [0,1,4,7,8] [] (pw 0 b p0) ?_
  exact xw _ (Qp V (Qh g rfl) U)
 ·exact sn [0,1,4,7,8,9] [] (pe 0 (zC ((b:I)<(a.length:I))) p0)<|Qa<|ckF<|Qv<|xw _ (Xo d rfl U)
 exact sn [4] [] p0<|Qc<|pi [] (Vz e rfl)
def Zh(d:H Yj)(x:Yj):(H Yj)×uD:=(bif decide ((Q9 d x.1)>=(0:I)) then(bif ((!(Qo d))|| (!(Qo (zQ (X0 d) (Q9 d x.1).toNat (Zo x))))) then((X0 d),A) else(zQ (X0 d) (Q9 d x.1).toNat (Zo x),D)) else(bif decide ((Q4 d x)<(0:I)) then(bif ((!(Qo d))|| (!(Qo (P4 (X0 d) (d.length:I).toNat (Zo x))))) then((X0 d),A) else(P4 (X0 d) (d.length:I).toNat (Zo x),D)) else(bif ((!(Qo d))|| (!(Qo (P4 (X0 d) (Q4 d x).toNat (Zo x))))) then((X0 d),A) else(P4 (X0 d) (Q4 d x).toNat (Zo x),D))))
theorem Qbe(d:H Yj)(x:Yj)(hp:zD d<1073741000):ACalls vC 225 [.h d,.a [.s x.1,.h x.2]] (.tup [(A, [.h (((Zh d x)).1)]),(A, [.b (((Zh d x)).2)])]):=by
 refine en func225 λ_ _ _=>?_
 have s:=BN d;have t:=Ib d x;refine sn [0,3,4,5] [3] p0<|tn [0,3,4,5,6] [3] (pc 1 (A6 d) p0)<|tu [(3,.p 3 0),(4,.e 0),(5,.b A),(6,.o 576 (X0 d)),(7,.i (Q9 d x.1))] [1] [(3, [.s x.1,.h x.2])] [] (pc 3 (KC d x.1) p0)<|Qa<|sn [0,3,4,5,6,7,15] [3] p0<|ck (decide ((Q9 d x.1)>=(0:I))) (λf=>?_) (λf=>?_)
 ·have u:=WE d x.1;have n:=uT f;refine wT 6 0 (.own D 576) (X0 d) (λv w=>?_);have l:=ng (X0 d) (Q9 d x.1).toNat;refine qu [(6,.one (.slc (.own D 576) 2 (setRow (eL (X0 d)) (Q9 d x.1).toNat 0 [.s ((Zo x).1),.h ((Zo x).2)])))] [3,6,7] [] [3] (pc 3 (Ok x) (pG 4 (Q9 d x.1) l p0)) ?_;refine eqn [(6,.o 576 (zQ (X0 d) (Q9 d x.1).toNat (Zo x)))] [6] [] [] (by rw[Wd (y:=(Zo x)) l rfl]<;>kernel_rfl) ?_;refine Qa<|Qa<|jn [(41,.b ((!(Qo d))|| (!(Qo (zQ (X0 d) (Q9 d x.1).toNat (Zo x))))))] [] [] [] (!(Qo d)) (λm=>?_) (λm=>?_) ?_
  ·have g:(Qo d)=A:=Kj m;exact rn [0,4,5,6,41] [] (pc 1 (cb g (K3 d)) (pe 2 (show .b (!A)= .b D from rfl) p0))<|zA (by rw[m]<;>kernel_rfl)
  ·have g:(Qo d)=D:=Yu m;exact rn [0,4,5,6,41] [] (pc 1 (cb g (K3 d)) (pe 2 (show .b (!D)= .b A from rfl) (pc 5 (K3 (zQ (X0 d) (Q9 d x.1).toNat (Zo x))) p0)))<|zA (by rw[m]<;>kernel_rfl)
  refine ck ((!(Qo d))|| (!(Qo (zQ (X0 d) (Q9 d x.1).toNat (Zo x))))) (λo=>?_) (λo=>?_)
  ·exact sn [4,5,6] [] (pc 1 (A6 d) p0)<|Qc<|pz [2752] (show Zh d x=_ from Qu f (Qu o rfl)) (λz=> .tup [(A, [.h z.1]),(A, [.b z.2])])
  exact Qd<|sn [4,5] [] p0<|Qc<|pz [576] (show Zh d x=_ from Qu f (Qh o rfl)) (λz=> .tup [(A, [.h z.1]),(A, [.b z.2])])
 have n:=uL f;refine tn [0,3,4,5,6,7] [3] (pc 2 (Ix d x) p0)<|Qa<|tu [(7,.i (Q4 d x)),(25,.b (decide ((Q4 d x)<(0:I))))] [7] [] [] p0<|ck (decide ((Q4 d x)<(0:I))) (λh=>?_) (λh=>?_)
 ·have p:=uT h;refine rn [0,3,4,5,6,7] [3] (pl 1 d p0) ?_;refine mz [(7,.i (d.length:I))] [7,25] [] []<|Pd [576] rfl ?_
  refine wT 6 0 (.own A 576) (X0 d) (λa1 a2=>?_);refine rn [0,4,5,6] [] (pc 3 (Ok x) (po 5 (.take D A (eL (P4 (X0 d) (d.length:I).toNat (Zo x)))) (px (JP (Qgt (X0 d) (Zo x) (i:=(d.length:I)) (by omega) (by omega) (by omega))) p0))) ?_;refine Qa<|Qa<|mz [(6,.q 2112 (P4 (X0 d) (d.length:I).toNat (Zo x)))] [3,6,7] [] [3]<|jn [(41,.b ((!(Qo d))|| (!(Qo (P4 (X0 d) (d.length:I).toNat (Zo x))))))] [] [] [] (!(Qo d)) (λa=>?_) (λa=>?_) ?_
  ·have b:(Qo d)=A:=Kj a;exact rn [0,4,5,6,41] [] (pc 1 (cb b (K3 d)) (pe 2 (show .b (!A)= .b D from rfl) p0))<|zA (by rw[a]<;>kernel_rfl)
  ·have b:(Qo d)=D:=Yu a;exact rn [0,4,5,6,41] [] (pc 1 (cb b (K3 d)) (pe 2 (show .b (!D)= .b A from rfl) (pc 5 (K3 (P4 (X0 d) (d.length:I).toNat (Zo x))) p0)))<|zA (by rw[a]<;>kernel_rfl)
  refine ck ((!(Qo d))|| (!(Qo (P4 (X0 d) (d.length:I).toNat (Zo x))))) (λj=>?_) (λj=>?_)
  ·exact sn [4,5,6] [] (pc 1 (A6 d) p0)<|Qc<|pz [2752] (show Zh d x=_ from Qh f (Qu h (Qu j rfl))) (λz=> .tup [(A, [.h z.1]),(A, [.b z.2])])
  exact Qd<|sn [4,5] [] p0<|Qc<|pz [2112] (show Zh d x=_ from Qh f (Qu h (Qh j rfl))) (λz=> .tup [(A, [.h z.1]),(A, [.b z.2])])
 have p:=uL h;refine Qd<|Pd [576] rfl ?_
 refine wT 6 0 (.own A 576) (X0 d) (λq r=>?_);refine rn [0,4,5,6] [] (pc 3 (Ok x) (po 5 (.take D A (eL (P4 (X0 d) (Q4 d x).toNat (Zo x)))) (px (JP (Qgt (X0 d) (Zo x) (i:=(Q4 d x)) (by omega) (by omega) (by omega))) p0))) ?_;refine Qa<|Qa<|mz [(6,.q 2112 (P4 (X0 d) (Q4 d x).toNat (Zo x)))] [3,6,7,25] [] [3]<|jn [(41,.b ((!(Qo d))|| (!(Qo (P4 (X0 d) (Q4 d x).toNat (Zo x))))))] [] [] [] (!(Qo d)) (λc=>?_) (λc=>?_) ?_
 ·have e:(Qo d)=A:=Kj c;exact rn [0,4,5,6,41] [] (pc 1 (cb e (K3 d)) (pe 2 (show .b (!A)= .b D from rfl) p0))<|zA (by rw[c]<;>kernel_rfl)
 ·have e:(Qo d)=D:=Yu c;exact rn [0,4,5,6,41] [] (pc 1 (cb e (K3 d)) (pe 2 (show .b (!D)= .b A from rfl) (pc 5 (K3 (P4 (X0 d) (Q4 d x).toNat (Zo x))) p0)))<|zA (by rw[c]<;>kernel_rfl)
 refine ck ((!(Qo d))|| (!(Qo (P4 (X0 d) (Q4 d x).toNat (Zo x))))) (λk=>?_) (λk=>?_)
 ·exact sn [4,5,6] [] (pc 1 (A6 d) p0)<|Qc<|pz [2752] (show Zh d x=_ from Qh f (Qh h (Qu k rfl))) (λz=> .tup [(A, [.h z.1]),(A, [.b z.2])])
 exact Qd<|sn [4,5] [] p0<|Qc<|pz [2112] (show Zh d x=_ from Qh f (Qh h (Qh k rfl))) (λz=> .tup [(A, [.h z.1]),(A, [.b z.2])])
def Jl(d:H Yj)(a:uI):(H Yj)×uD:=(bif ((!(Qo d))|| decide ((Q9 d a)<(0:I))) then((X0 d),A) else(LH (X0 d) (Q9 d a).toNat,D))
theorem GG(d:H Yj)(a:uI):ACalls vC 163 [.h d,.s a] (.tup [(A, [.h (((Jl d a)).1)]),(A, [.b (((Jl d a)).2)])]):=by
 refine en func163 λ_ _ _=>?_
 have o:=BN d;refine sn [0,1,4,5] [] p0<|tn [0,1,4,5,6] [] (pc 1 (A6 d) p0)<|tu [(4,.e 0),(5,.b A),(6,.o 576 (X0 d)),(7,.i (Q9 d a))] [1] [] [] (pc 2 (KC d a) p0)<|Qa<|Qa<|jn [(19,.b ((!(Qo d))|| decide ((Q9 d a)<(0:I))))] [0] [] [] (!(Qo d)) (λc=>?_) (λc=>?_) ?_
 ·have b:(Qo d)=A:=Kj c;exact rn [4,5,6,7,19] [] (pc 1 (cb b (K3 d)) (pe 2 (show .b (!A)= .b D from rfl) p0))<|zA (by rw[c]<;>kernel_rfl)
 ·have b:(Qo d)=D:=Yu c;have l:=Hl b;exact rn [4,5,6,7,19] [] (pc 1 (cb b (K3 d)) (pe 2 (show .b (!D)= .b A from rfl) p0))<|zA (by rw[c]<;>kernel_rfl)
 refine ck ((!(Qo d))|| decide ((Q9 d a)<(0:I))) (λe=>?_) (λe=>?_)
 ·exact sn [4,5,6,7] [] p0<|Qc<|pz [576] (show Jl d a=_ from Qu e rfl) (λz=> .tup [(A, [.h z.1]),(A, [.b z.2])])
 have g:((!(Qo d)))=A:=Sl e;have f:(Qo d)=D:=Yu g;have h:=Hl f;have j:(decide ((Q9 d a)<(0:I)))=A:=Rz e;have m:=WE d a;have n:=uL j;refine Qd<|Pd [576] rfl ?_
 refine wT 6 0 (.own A 576) (X0 d) (λp q=>?_);exact sn [4,5] [] (po 4 (.take D A (eL (LH (X0 d) (Q9 d a).toNat))) (px (JP (Qqw (X0 d) (i:=(Q9 d a)) (k:=vA vB ((Q9 d a)+1)) (by omega) (by first | omega | exact IntWalk.i64_in _ (by omega)) (by omega) (by omega))) p0))<|Qc<|pz [1600] (show Jl d a=_ from Qh e rfl) (λz=> .tup [(A, [.h z.1]),(A, [.b z.2])])
def Nv(_:uA)(a:Q0)(b:Z):Rd Z Z Z:=(bif (Ku a) then(.next (b++ [a.2.2.2.1])) else(.next b))
def QD(_:uA)(a:Z):Z:=a
def Ui(q:H Q0):Z:=(Out.on (X5 Nv QD q 0 []) (λa=>(F1 [] a)))
theorem GH(q:H Q0):ACalls vC 276 [.h q] (.h (Ui q)):=by
 refine en func276 λ_ _ _=>sn [0,2] [] p0 ?_
 refine tn [0,2,3] [] p0<|Qa<|tu [(2,.e 0),(3,.one (.slc (.own D 384) 1 [])),(7,.h q),(8,.i (q.length:I)),(9,.i 0)] [0] [] [] (pl 1 q p0)<|wT 7 0 .sh q (λj k=>?_)
 refine HN Nv QD q [] (λc b=> [(3,.o 104 b),(9,.i (c:I))]) [3,9] (λf=> [(3,.o 105 f)]) [3,7,8,9] (λc b=>zD b<=c) (wsf [(384,104)]) (by simp) (λc b d U=>?_) (λc b d U=>?_) (λf g=>?_)
 ·have e:=U.2;obtain⟨a,V⟩:=Xn (l:=q) (i:=c) d;refine sn [2,3,7,8,9,10] [] (pe 0 (zB ((c:I)<(q.length:I))) p0)<|Qa<|ckT<|Qd<|Qa<|Qn<|tn [2,3,5,7,8,9] [5] (pn 0 V p0)<|tu [(5,.p 5 0),(14,.b (Ku a))] [] [(5, [.i a.1,.i a.2.1,.i a.2.2.1,.s a.2.2.2.1,.i a.2.2.2.2.1,.i a.2.2.2.2.2.1,.s a.2.2.2.2.2.2])] [] (pc 1 (R0 a) p0)<|ck (Ku a) (λh=>?_) (λh=>?_)
  ·refine wT 3 0 (.own D 104) b (λm n=>?_);refine ru [(3,.one (.slc (.own D 1216) 1 (eA b a.2.2.2.1)))] [3,5,14] [] [5] (pa b [a.2.2.2.1] p0) ?_;refine eqn [(3,.o 1216 (b++ [a.2.2.2.1]))] [3] [] [] (by rw[Wu]<;>kernel_rfl) ?_;refine rn [2,3,7,8,9] [] (pw 0 c p0) ?_;exact zE (b++ [a.2.2.2.1]) (zH (wsf [(1216,104)]) ⟨Qp V (Qu h rfl) U.1,by first|omega|(simp;omega) | simp⟩)
  refine Qd<|rn [2,3,7,8,9] [] (pw 0 c p0) ?_
  exact xw b ⟨Qp V (Qh h rfl) U.1,by first|omega|(simp;omega) | simp⟩
 ·have e:=U.2;exact sn [2,3,7,8,9,10] [] (pe 0 (zC ((c:I)<(q.length:I))) p0)<|Qa<|ckF<|Qv<|zE _ (zH (wsf [(104,105)]) (Xo d rfl U.1))
 exact sn [2] [] (pc 1 (Rg f) p0)<|Qc<|ph0 [] (Vz g rfl)
def Cy(a:uI)(_:uA)(b:Yj)(c:Z):Rd Z Z Z:=(bif (Qx (Ui b.2) a) then(.next (c++ [b.1])) else(.next c))
def Fl(_:uA)(a:Z):Z:=a
def Z9(d:H Yj)(a:uI):Z:=(Out.on (X5 (Cy a) Fl d 0 []) (λb=>b))
theorem BY(d:H Yj)(a:uI):ACalls vC 231 [.h d,.s a] (.o 0 (Z9 d a)):=by
 refine en func231 λ_ _ _=>sn [0,1,4] [] p0 ?_
 refine tn [0,1,4,5] [] p0<|Qa<|tu [(4,.e 0),(5,.one (.slc (.own D 512) 1 [])),(9,.h d),(10,.i (d.length:I)),(11,.i 0)] [0] [] [] (pl 1 d p0)<|wT 9 0 .sh d (λm n=>?_)
 refine HN (Cy a) Fl d [] (λb c=> [(5,.o 104 c),(11,.i (b:I))]) [5,11] (λk=> [(5,.o 105 k)]) [1,5,9,10,11] (λb c=>zD c<=b) (wsf [(512,104)]) (by simp) (λb c e U=>?_) (λb c e U=>?_) (λk h=>?_)
 ·have f:=U.2;obtain⟨g,V⟩:=Xn (l:=d) (i:=b) e;refine su [(12,.b D)] [] [] [] (pe 0 (zB ((b:I)<(d.length:I))) p0)<|Qa<|ckT<|Qd<|Qa<|Qn<|sn [1,4,5,7,9,10,11] [7] (pn 0 V p0)<|tn [1,4,5,7,9,10,11,19] [7] (pc 2 (GH g.2) (pc 4 (Uz (Ui g.2) a) p0))<|ck (Qx (Ui g.2) a) (λj=>?_) (λj=>?_)
  ·refine wT 5 0 (.own D 104) c (λo p=>?_);refine qu [(5,.one (.slc (.own D 1536) 1 (eA c g.1)))] [5,12] [] [] (pa c [g.1] p0) ?_;refine eqn [(5,.o 1536 (c++ [g.1]))] [5] [] [] (by rw[Wu]<;>kernel_rfl) ?_;refine rn [1,4,5,9,10,11] [] (pw 0 b p0) ?_;exact zE (c++ [g.1]) (zH (wsf [(1536,104)]) ⟨Qp V (Qu j rfl) U.1,by first|omega|(simp;omega) | simp⟩)
  refine Qd<|qu [(11,.i ((b+1:uA):I))] [11,12] [] [] (pw 0 b p0) ?_
  exact xw c ⟨Qp V (Qh j rfl) U.1,by first|omega|(simp;omega) | simp⟩
 ·have f:=U.2;exact su [(12,.b A)] [] [] [] (pe 0 (zC ((b:I)<(d.length:I))) p0)<|Qa<|ckF<|Qv<|zE _ (zH (wsf [(104,105)]) (Xo e rfl U.1))
 exact sn [4] [] p0<|Qc<|po0 [] (Vz h rfl)
def Km(_:uA)(b:uI)(a:Z):Rd (Rd Z (Z×I) Z) Z Z:=(bif (!(Qx a b)) then(.next (a++ [b])) else(.next a))
def Vm(_:uA)(a:Z):Z:=a
def Y8(d:H Yj)(a:Z×I):Rd Z (Z×I) Z:=(bif decide (a.2<(a.1.length:I)) then(Out.on (X5 Km Vm (Z9 d (nth a.1 a.2.toNat)) 0 a.1) (λb=>(.next (b,(a.2+1))))) else(.brk a.1))
def Yo(d:H Yj)(names:Z):Z:=(Out.on (N2 (Y8 d) (zD names+zD d+1) (names,0)) (λa=>(F1 [] a)))
theorem Fm(nm:uI):∀(l:H Yj) (k:uA) (s:Z),∃s',X5 (Cy nm) Fl l k s= .brk s'/\s'.length<=s.length+l.length/\∀x,x∈s'->x∈s\/x∈l.map (·.1)
 | [],k,s=>⟨s,rfl,by simp,λx b=> .inl b⟩
 | a :: l,k,s=>by
   simp only[X5,Cy];cases Qx (Ui a.2) nm with
   | true=>
     obtain⟨s',c,d,e⟩:=Fm nm l (k+1) (s++ [a.1]);refine⟨s',c,by simp at d⊢;omega,λx b=>?_⟩;rcases e x b with h | h
     . rcases List.mem_append.1 h with h | h
       . exact .inl h
       exact .inr (by rw[yS.1 h];simp)
     exact .inr (zL _ h)
   | false=>
     obtain⟨s',c,d,e⟩:=Fm nm l (k+1) s;refine⟨s',c,by simp at d⊢;omega,λx b=>(e x b).imp id λh=>zL _ h⟩
theorem WN(d:H Yj)(nm:uI):zD (Z9 d nm)<=zD d:=by
 obtain⟨s',a,b,_⟩:=Fm nm d 0 [];unfold Z9;rw[a];exact(by simpa using b:s'.length<=d.length)
theorem Ri(d:H Yj)(nm:uI):∀x,x∈Z9 d nm->x∈d.map (·.1):=by
 obtain⟨s',a,_,b⟩:=Fm nm d 0 [];unfold Z9;rw[a];intro x c;exact(b x c).resolve_left (by simp)
theorem U0(N:Z):∀(l:Z) (k:uA) (s:Z),(∀x,x∈l->x∈N)->∃s',X5 Km Vm l k s= .brk s'/\Fresh N s s'
 | [],k,s,_=>⟨s,rfl,Fresh.refl N s⟩
 | a::l,k,s,h=>by
  simp only[X5,Km];cases c:Qx s a with
  | true=>
   simp only[yE,uH];exact U0 N l (k+1) s λx b=>h x (zL _ b)
  | false=>
   simp only[Bool.not_false,uJ];obtain⟨s',d,e⟩:=U0 N l (k+1) (s++ [a]) λx b=>h x (zL _ b)
   exact⟨s',d,(Fresh.one (λf=>by rw[(El a s).2 f] at c;cases c) (h a (zV ..))).trans e⟩
theorem U1{d:H Yj}{names a y:Z}{nm:uI}(c:Fresh (xK (·.1) d) names a)(b:X5 Km Vm (Z9 d nm) 0 a= .brk y):Fresh (xK (·.1) d) names y:=by
 obtain⟨s',e,f⟩:=U0 (xK (·.1) d) (Z9 d nm) 0 a (Ri d nm);rw[e] at b;obtain rfl:s'=y:=by simpa using b
 exact c.trans f
theorem Fz(d:H Yj)(names:Z)(k:(zD names:I)+zD d<=1000000):(whl (Y8 d) (zD names+zD d+1) (names,0)).isSome=D:=by
 have h:=Qmm (N:=xK (·.1) d) (names:=names) (f:=Y8 d) (λb i s' l e a=>by
  rw[zT] at e;unfold Y8 at a;by_cases c:i<(b.length:I)
  . simp only[uP c,uJ] at a;obtain⟨y,g,j⟩:=U0 (xK (·.1) d) (Z9 d (nth b i.toNat)) 0 b (Ri d _);rw[g] at a;simp only[Out.on] at a;have a:=Rd.next.inj a;rw[←a];exact⟨c,by first | rfl | exact IntWalk.i64_in _ (by omega),j⟩
  simp only[uO c,uH] at a;cases a)
 rwa [zT] at h
theorem By(d:H Yj)(names:Z)(z:(zD names:I)+zD d<=1000000):ACalls vC 165 [.h d,.h names] (.h (Yo d names)):=by
 refine en func165 λ_ _ _=>sn [0,1,4] [] p0 ?_
 refine tn [0,4,5] [] (pc 1 (VN names) p0)<|Qa<|tu [(4,.e 0),(5,.o 640 names),(6,.i 0)] [1] [] [] p0<|blw (λ(a:Z×I)=> [(5,.o 104 a.1),(6,.i a.2)]) [5,6] (λa=> []) [] (λ(g:Z)=> [(5,.o 105 g)]) [0,5,6] (λg=> []) [] (λ(y:uA) (a:Z×I)=>whl (Y8 d) y a=uB (N2 (Y8 d) (zD names+zD d+1) (names,0))/\0<=a.2/\Fresh (xK (·.1) d) names a.1) (λ(g:Z)=>(N2 (Y8 d) (zD names+zD d+1) (names,0))= .brk g/\zD g<=zD names+zD d) (zD names+zD d+1) (names,0) (wsf [(640,104)]) ⟨Mv (Fz d names z),(by first | exact Fresh.refl _ _ | omega),(by first | exact Fresh.refl _ _ | omega)⟩ (λ_ h=>P9 h.1) (λy a U=>?_) (λg o=>?_)
 ·have r:=U.2.1;have j:=U.2.2;have s:=Qbc j;rw[zT] at s;have a2:=WN d (nth a.1 a.2.toNat);refine Qa<|sn [0,4,5,6,14] [] (pl 2 a.1 p0)<|ck (decide (a.2<(a.1.length:I))) (λp=>?_) (λp=>?_)
  ·have t:=uT p;refine Qd<|Qa<|Qn<|wT 5 0 (.own D 104) a.1 (λa3 a4=>?_)
   have u:=ng a.1 a.2.toNat;refine tn [0,4,5,6,22,23,24] [] (pG 3 a.2 u (pc 5 (BY d (nth a.1 a.2.toNat)) (pl 6 (Z9 d (nth a.1 a.2.toNat)) p0)))<|mz [(22,.o 1408 (Z9 d (nth a.1 a.2.toNat))),(23,.i ((Z9 d (nth a.1 a.2.toNat)).length:I)),(24,.i 0)] [] [] []<|wT 22 0 (.own D 1408) (Z9 d (nth a.1 a.2.toNat)) (λa5 a6=>?_)
   refine HN Km Vm (Z9 d (nth a.1 a.2.toNat)) a.1 (λk1 b=> [(5,.o 166402 b),(24,.i (k1:I))]) [5,24] (λv=> [(5,.o 166552 v)]) [5,22,23,24] (λk1 b=>zD b<=a.1.length+k1) (wsf [(104,166402)]) (by simp) (λk1 b k c=>?_) (λk1 b k c=>?_) (λv e=>?_)
   ·have m:=c.2;obtain⟨f,n⟩:=Xn (l:=Z9 d (nth a.1 a.2.toNat)) (i:=k1) k;refine su [(25,.b D)] [] [] [] (pe 0 (zB ((k1:I)<((Z9 d (nth a.1 a.2.toNat)).length:I))) p0)<|Qa<|ckT<|Qd<|Qa<|Qn<|su [(8,.s f)] [25] [] [] (pN 0 n p0)<|sn [0,4,5,6,8,22,23,24,31] [] (pc 2 (Uz b f) p0)<|ck (!(Qx b f)) (λq=>?_) (λq=>?_)
    ·have w:(Qx b f)=A:=Kj q;refine wT 5 0 (.own D 166402) b (λa7 a8=>?_);refine qu [(5,.one (.slc (.own D 2240) 1 (eA b f)))] [5,8] [] [] (pa b [f] p0) ?_;refine eqn [(5,.o 2240 (b++ [f]))] [5] [] [] (by rw[Wu]<;>kernel_rfl) ?_;refine rn [0,4,5,6,22,23,24] [] (pw 0 k1 p0) ?_;exact zE (b++ [f]) (zH (wsf [(2240,166402)]) ⟨Qp n (Qu q rfl) c.1,by first|omega|(simp;omega) | simp⟩)
    have w:(Qx b f)=D:=Yu q;refine Qd<|qn [0,4,5,6,22,23,24] [] (pw 0 k1 p0) ?_
    exact xw b ⟨Qp n (Qh q rfl) c.1,by first|omega|(simp;omega) | simp⟩
   ·have m:=c.2;exact su [(25,.b A)] [] [] [] (pe 0 (zC ((k1:I)<((Z9 d (nth a.1 a.2.toNat)).length:I))) p0)<|Qa<|ckF<|Qv<|zE _ (zH (wsf [(166402,166552)]) (Xo k rfl c.1))
   refine rn [0,4,5,6] [] (pe 1 (Nn (IntWalk.i64_in (a.2+1) (by omega))) p0) ?_;exact zE (v,(a.2+1)) (zH (wsf [(166552,104)]) ⟨wn U.1 (Qu p (Vz e rfl)),(by first | omega | exact U1 (by assumption) e | exact U1 (by assumption) e.1),(by first | omega | exact U1 (by assumption) e | exact U1 (by assumption) e.1)⟩)
  have t:=uL p;exact Qv<|zE a.1 (zH (wsf [(104,105)]) ⟨wb U.1 (Qh p rfl),by first|omega|(simp only[zF];omega)⟩)
 have x:=o.2;exact sn [4] [] (pc 1 (Rg g) p0)<|Qc<|ph0 [] (Vz o.1 rfl)
def Gw(_:uA)(a:Hk)(b:Z):Rd Z Z Z:=(.next (b++ [a.1]))
def Nw(_:uA)(a:Z):Z:=a
def Qj(f:Xt):Z:=(Out.on (X5 Gw Nw f.2.2.2.2 0 []) (λa=>a))
theorem WO(f:Xt):(Qj f).length=f.2.2.2.2.length:=by
 unfold Qj;rw[Ww (f:=Gw) (g:=λa:Hk=>a.1) (λ_ _ _=>rfl)];simp[Out.on,Nw]
theorem YD(f:Xt):ACalls vC 344 [.a [.i f.1,.i f.2.1,.b f.2.2.1,.i f.2.2.2.1,.h f.2.2.2.2]] (.o 0 (Qj f)):=by
 refine en func344 λ_ _ _=>sn [1,2] [1] p0 ?_
 refine tn [1,2,3] [1] p0<|Qa<|tu [(2,.e 0),(3,.one (.slc (.own D 384) 1 [])),(8,.h f.2.2.2.2),(9,.i (f.2.2.2.2.length:I)),(10,.i 0)] [0] [] [] (pl 2 f.2.2.2.2 p0)<|wT 8 0 .sh f.2.2.2.2 (λj k=>?_)
 refine HN Gw Nw f.2.2.2.2 [] (λb a=> [(3,.o 104 a),(10,.i (b:I))]) [3,10] (λh=> [(3,.o 105 h)]) [3,8,9,10] (λb a=>zD a<=b) (wsf [(384,104)]) (by simp) (λb a c U=>?_) (λb a c U=>?_) (λh g=>?_)
 ·have d:=U.2;obtain⟨e,V⟩:=Xn (l:=f.2.2.2.2) (i:=b) c;refine sn [2,3,8,9,10,11] [] (pe 0 (zB ((b:I)<(f.2.2.2.2.length:I))) p0)<|Qa<|ckT<|Qd<|Qa<|Qn<|tn [2,3,5,8,9,10] [5] (pn 0 V p0)<|wT 3 0 (.own D 104) a (λm n=>?_)
  refine qu [(3,.one (.slc (.own D 1152) 1 (eA a e.1)))] [3] [] [] (pa a [e.1] p0) ?_;refine eqn [(3,.o 1152 (a++ [e.1]))] [3] [] [] (by rw[Wu]<;>kernel_rfl) ?_;refine rn [2,3,8,9,10] [] (pw 0 b p0) ?_;exact zE (a++ [e.1]) (zH (wsf [(1152,104)]) ⟨Qp V rfl U.1,by first|omega|(simp;omega) | simp⟩)
 ·have d:=U.2;exact sn [2,3,8,9,10,11] [] (pe 0 (zC ((b:I)<(f.2.2.2.2.length:I))) p0)<|Qa<|ckF<|Qv<|zE _ (zH (wsf [(104,105)]) (Xo c rfl U.1))
 exact sn [2] [] p0<|Qc<|po0 [] (Vz g rfl)
def Ic(a:Xt)(b:Xt)(c:uA)(d:Z):Rd Z Z Z:=(bif (!(((X7 a (nth (Qj a++(Qj b)) c)).1==(X7 b (nth (Qj a++(Qj b)) c)).1)&&(((X7 a (nth (Qj a++(Qj b)) c)).2.1==(X7 b (nth (Qj a++(Qj b)) c)).2.1)&&((((X7 a (nth (Qj a++(Qj b)) c)).2.2).toList==((X7 b (nth (Qj a++(Qj b)) c)).2.2).toList)&&D)))) then(.next (d++ [(nth (Qj a++(Qj b)) c)])) else(.next d))
def Ie(_:uA)(a:Z):Z:=a
def Vi(a:Xt)(b:Xt):Z:=(Out.on (Vj (Ic a b) Ie (((Qj a).length+(Qj b).length):I).toNat 0 []) (λc=>(F1 [] c)))
theorem WP(a:Xt)(b:Xt)(w:(zD a.2.2.2.2:I)+zD b.2.2.2.2<=1073741000):ACalls vC 308 [.a [.i a.1,.i a.2.1,.b a.2.2.1,.i a.2.2.2.1,.h a.2.2.2.2],.a [.i b.1,.i b.2.1,.b b.2.2.1,.i b.2.2.2.1,.h b.2.2.2.2]] (.h (Vi a b)):=by
 refine en func308 λ_ _ _=>?_
 have q:=WO a;have r:=WO b;refine sn [2,3,4] [2,3] p0<|tn [2,3,4,5] [2,3] p0<|Qa<|tU [(2,.p 2 0),(3,.p 3 0),(4,.e 0),(5,.one (.slc (.own D 512) 1 [])),(13,.one (.slc (.own D 832) 1 ((eL (Qj a))++(eL (Qj b))))),(14,.i (((Qj a).length+(Qj b).length):I)),(15,.i 0)] [0,1] [(2, [.i a.1,.i a.2.1,.b a.2.2.1,.i a.2.2.2.1,.h a.2.2.2.2]),(3, [.i b.1,.i b.2.1,.b b.2.2.1,.i b.2.2.2.1,.h b.2.2.2.2])] [] (pc 1 (YD a) (pc 3 (YD b) (pa (Qj a) (Qj b) (pe 5 (show .i ((((eL (Qj a))++(eL (Qj b))):H (H PV)).length:I)= .i (((Qj a).length+(Qj b).length):I) from by simp[Zv]) p0)))) ?_
 refine eqn [(13,.o 832 (Qj a++(Qj b)))] [13] [] [] (by rw[show((eL (Qj a))++(eL (Qj b)))=(eL (Qj a++(Qj b))) from NG rfl (rfl)]<;>kernel_rfl) ?_;refine Qpz (Ic a b) Ie (((Qj a).length+(Qj b).length):I).toNat [] (λc d=> [(5,.o 104 d),(15,.i (c:I))]) [5,15] (λ_ _=> []) [] (λm=> [(5,.o 105 m)]) [2,3,5,13,14,15] (λ_=> []) [2,3] (λc d=>zD d<=c) (wsf [(512,104)]) (by simp) (λc d e U=>?_) (λc d e U=>?_) (λm n=>?_)
 ·have f:=U.2;refine su [(16,.b D)] [] [] [] (pe 0 (zB ((c:I)<(((Qj a).length+(Qj b).length):I))) p0)<|Qa<|ckT<|Qd<|Qa<|Qn<|wT 13 0 (.own D 832) (Qj a++(Qj b)) (λs t=>?_)
  have o:=ng (Qj a++(Qj b)) c (by first|omega|(rw[zJ];omega));refine sn [2,3,4,5,7,13,14,15] [2,3] (pN 0 o p0)<|tN [2,3,4,5,7,13,14,15,25] [2,3] (pc 2 (Le a (nth (Qj a++(Qj b)) c)) (pc 5 (Le b (nth (Qj a++(Qj b)) c)) p0))<|ck (!(((X7 a (nth (Qj a++(Qj b)) c)).1==(X7 b (nth (Qj a++(Qj b)) c)).1)&&(((X7 a (nth (Qj a++(Qj b)) c)).2.1==(X7 b (nth (Qj a++(Qj b)) c)).2.1)&&((((X7 a (nth (Qj a++(Qj b)) c)).2.2).toList==((X7 b (nth (Qj a++(Qj b)) c)).2.2).toList)&&D)))) (λk=>?_) (λk=>?_)
  ·refine wT 5 0 (.own D 104) d (λu v=>?_);refine qu [(5,.one (.slc (.own D 1856) 1 (eA d (nth (Qj a++(Qj b)) c))))] [5,16] [] [] (pa d [(nth (Qj a++(Qj b)) c)] p0) ?_;refine eqn [(5,.o 1856 (d++ [(nth (Qj a++(Qj b)) c)]))] [5] [] [] (by rw[Wu]<;>kernel_rfl) ?_;refine rn [2,3,4,5,13,14,15] [2,3] (pw 0 c p0) ?_;exact zE (d++ [(nth (Qj a++(Qj b)) c)]) (zH (wsf [(1856,104)]) ⟨Kb e (Qu k rfl) U.1,by first|omega|(simp;omega) | simp⟩)
  have h:(((X7 a (nth (Qj a++(Qj b)) c)).1==(X7 b (nth (Qj a++(Qj b)) c)).1)&&(((X7 a (nth (Qj a++(Qj b)) c)).2.1==(X7 b (nth (Qj a++(Qj b)) c)).2.1)&&((((X7 a (nth (Qj a++(Qj b)) c)).2.2).toList==((X7 b (nth (Qj a++(Qj b)) c)).2.2).toList)&&D)))=D:=Yu k;have i:(((X7 a (nth (Qj a++(Qj b)) c)).1==(X7 b (nth (Qj a++(Qj b)) c)).1))=D:=HL h;have p:=eq_of_beq i;have j:((((X7 a (nth (Qj a++(Qj b)) c)).2.1==(X7 b (nth (Qj a++(Qj b)) c)).2.1)&&((((X7 a (nth (Qj a++(Qj b)) c)).2.2).toList==((X7 b (nth (Qj a++(Qj b)) c)).2.2).toList)&&D)))=D:=HM h;have g:(((X7 a (nth (Qj a++(Qj b)) c)).2.1==(X7 b (nth (Qj a++(Qj b)) c)).2.1))=D:=HL j;have l:=eq_of_beq g;refine Qd<|qu [(15,.i ((c+1:uA):I))] [15,16] [] [] (pw 0 c p0) ?_
  exact xw d ⟨Kb e (Qh k rfl) U.1,by first|omega|(simp;omega) | simp⟩
 ·have f:=U.2;exact su [(16,.b A)] [] [] [] (pe 0 (zC ((c:I)<(((Qj a).length+(Qj b).length):I))) p0)<|Qa<|ckF<|Qv<|zE _ (zH (wsf [(104,105)]) (Hu e rfl U.1))
 exact sn [4] [] (pc 1 (Rg m) p0)<|Qc<|ph0 [] (Vz n rfl)
def Mg(_:uA)(a:Q0)(b:Z):Rd Z Z Z:=(bif ((a.1==(2:I))|| ((a.1==(3:I))|| (a.1==(4:I)))) then(.next (b++ [a.2.2.2.1])) else(.next b))
def Su(_:uA)(a:Z):Z:=a
def Ub(q:H Q0):Z:=(Out.on (X5 Mg Su q 0 []) (λa=>(F1 [] a)))
theorem BZ(q:H Q0):ACalls vC 309 [.h q] (.h (Ub q)):=by
 refine en func309 λ_ _ _=>sn [0,2] [] p0 ?_
 refine tn [0,2,3] [] p0<|Qa<|tu [(2,.e 0),(3,.one (.slc (.own D 384) 1 [])),(7,.h q),(8,.i (q.length:I)),(9,.i 0)] [0] [] [] (pl 1 q p0)<|wT 7 0 .sh q (λu v=>?_)
 refine HN Mg Su q [] (λc b=> [(3,.o 104 b),(9,.i (c:I))]) [3,9] (λn=> [(3,.o 105 n)]) [3,7,8,9] (λc b=>zD b<=c) (wsf [(384,104)]) (by simp) (λc b d U=>?_) (λc b d U=>?_) (λn o=>?_)
 ·have e:=U.2;obtain⟨a,V⟩:=Xn (l:=q) (i:=c) d;refine sn [2,3,7,8,9,10] [] (pe 0 (zB ((c:I)<(q.length:I))) p0)<|Qa<|ckT<|Qd<|Qa<|Qn<|tn [2,3,5,7,8,9] [5] (pn 0 V p0)<|Qa<|mz [(5,.p 5 0)] [] [(5, [.i a.1,.i a.2.1,.i a.2.2.1,.s a.2.2.2.1,.i a.2.2.2.2.1,.i a.2.2.2.2.2.1,.s a.2.2.2.2.2.2])] []<|jn [(25,.b ((a.1==(2:I))|| ((a.1==(3:I))|| (a.1==(4:I)))))] [] [] [] (a.1==(2:I)) (λf=>?_) (λf=>?_) ?_
  ·exact ru [(25,.b D)] [] [] [] (pt 2 f p0)<|zA (by rw[f]<;>kernel_rfl)
  ·refine Ye (a.1==(3:I)) (λg=>?_) (λg=>?_)
   ·exact ru [(25,.b D)] [] [] [] (pf 2 f (pt 6 g p0))<|zA (by rw[f,g]<;>kernel_rfl)
   exact rn [2,3,5,7,8,9,25] [5] (pf 2 f (pf 6 g p0))<|zA (by rw[f,g]<;>kernel_rfl)
  refine ck ((a.1==(2:I))|| ((a.1==(3:I))|| (a.1==(4:I)))) (λh=>?_) (λh=>?_)
  ·refine wT 3 0 (.own D 104) b (λw x=>?_);refine ru [(3,.one (.slc (.own D 1920) 1 (eA b a.2.2.2.1)))] [3,5,25] [] [5] (pa b [a.2.2.2.1] p0) ?_;refine eqn [(3,.o 1920 (b++ [a.2.2.2.1]))] [3] [] [] (by rw[Wu]<;>kernel_rfl) ?_;refine rn [2,3,7,8,9] [] (pw 0 c p0) ?_;exact zE (b++ [a.2.2.2.1]) (zH (wsf [(1920,104)]) ⟨Qp V (Qu h rfl) U.1,by first|omega|(simp;omega) | simp⟩)
  have p:((a.1==(2:I)))=A:=Sl h;have t:=Yt p;have j:(((a.1==(3:I))|| (a.1==(4:I))))=A:=Rz h;have k:((a.1==(3:I)))=A:=Sl j;have r:=Yt k;have m:((a.1==(4:I)))=A:=Rz j;have s:=Yt m;refine Qd<|rn [2,3,7,8,9] [] (pw 0 c p0) ?_
  exact xw b ⟨Qp V (Qh h rfl) U.1,by first|omega|(simp;omega) | simp⟩
 ·have e:=U.2;exact sn [2,3,7,8,9,10] [] (pe 0 (zC ((c:I)<(q.length:I))) p0)<|Qa<|ckF<|Qv<|zE _ (zH (wsf [(104,105)]) (Xo d rfl U.1))
 exact sn [2] [] (pc 1 (Rg n) p0)<|Qc<|ph0 [] (Vz o rfl)
def Wc(a:uI)(b:Z):uD:=(Qx b a)
theorem Sv(a:uI)(b:Z):ACalls vC 311 [.s a,.one (.rptr .sh [.h b])] (.b (Wc a b)):=by
 refine en func311 λ_ _ _=>sn [0,1,3] [] p0 ?_
 exact tn [3] [] (pc 2 (Uz b a) p0)<|Qc<|pb [] (show Wc a b=(Qx b a) from rfl)
def K8(a:Z)(b:uA)(c:uI)(_:uE):Rd (I) (uE) (uE):=(bif (Wc c a) then(.ret (b:I)) else(.next ()))
def K9(_:uA)(_:uE):uE:=()
def Vn(a:Z)(b:Z):I:=(Out.on (X5 (K8 b) K9 a 0 ()) (λ_=> -1))
theorem Cn(a:Z)(c:Z):ACalls vC 346 [.h a,.one (.fnr 311 [[.h c]])] (.i (Vn a c)):=by
 refine en func346 λ_ _ _=>sn [0,1,4] [] p0 ?_
 refine Qa<|tn [0,1,4,7,8] [] (pl 1 a p0)<|mz [(4,.i 0),(7,.i (a.length:I)),(8,.i 0)] [] [] []<|wT 0 0 .sh a (λj k=>?_)
 refine S8 (K8 c) K9 a () (λb _=> [(8,.i (b:I))]) [8] (λ_=> []) [0,1,7,8] wf0 (λb m d U=>?_) (λb m d U=>?_) (λn e=>?_)
 ·obtain⟨f,V⟩:=Xn (l:=a) (i:=b) d;refine sn [0,1,4,7,8,9] [] (pe 0 (zB ((b:I)<(a.length:I))) p0)<|Qa<|ckT<|Qd<|Qa<|Qn<|tn [0,1,4,5,7,8] [] p0<|tu [(5,.i (b:I)),(16,.b (Wc f c))] [] [] [] (pn 3 V (pc 5 (Sv f c) p0))<|ck (Wc f c) (λg=>?_) (λg=>?_)
  ·refine sn [0,1,4,7,8] [] p0<|Qc ?_
   have h:(X5 (K8 c) K9 a 0 ())= .ret (b:I):=Kc V (Qu g rfl) U;exact pi [] (Pe h)
  refine Qd<|rn [0,1,4,7,8] [] (pw 0 b p0) ?_
  exact xw _ (Qp V (Qh g rfl) U)
 ·exact sn [0,1,4,7,8,9] [] (pe 0 (zC ((b:I)<(a.length:I))) p0)<|Qa<|ckF<|Qv<|xw _ (Xo d rfl U)
 exact sn [4] [] p0<|Qc<|pi [] (Vz e rfl)
def Yb(a:Z)(b:Z):uD:=decide ((Vn a b)>=(0:I))
theorem Bx(a:Z)(b:Z):ACalls vC 310 [.h a,.one (.fnr 311 [[.h b]])] (.b (Yb a b)):=by
 refine en func310 λ_ _ _=>sn [0,1,4] [] p0 ?_
 exact tn [4] [] (pc 2 (Cn a b) p0)<|Qc<|pb [] (show Yb a b=decide ((Vn a b)>=(0:I)) from rfl)
def Kq(n:Q0):uD:=(n.1==(9:I))
theorem Sw(n:Q0):ACalls vC 313 [.a [.i n.1,.i n.2.1,.i n.2.2.1,.s n.2.2.2.1,.i n.2.2.2.2.1,.i n.2.2.2.2.2.1,.s n.2.2.2.2.2.2]] (.b (Kq n)):=by
 refine en func313 λ_ _ _=>sn [1,2] [1] p0 ?_
 exact tn [2] [] p0<|Qc<|pb [] (show Kq n=(n.1==(9:I)) from rfl)
def Ve(a:uA)(b:Q0)(_:uE):Rd (I) (uE) (uE):=(bif (Kq b) then(.ret (a:I)) else(.next ()))
def Vf(_:uA)(_:uE):uE:=()
def Vr(a:H Q0):I:=(Out.on (X5 Ve Vf a 0 ()) (λ_=> -1))
theorem Cz(a:H Q0):ACalls vC 347 [.h a,.one (.fnr 313 [])] (.i (Vr a)):=by
 refine en func347 λ_ _ _=>sn [0,1,4] [] p0 ?_
 refine Qa<|tn [0,1,4,7,8] [] (pl 1 a p0)<|mz [(4,.i 0),(7,.i (a.length:I)),(8,.i 0)] [] [] []<|wT 0 0 .sh a (λh j=>?_)
 refine S8 Ve Vf a () (λb _=> [(8,.i (b:I))]) [8] (λ_=> []) [0,1,7,8] wf0 (λb k c U=>?_) (λb k c U=>?_) (λm d=>?_)
 ·obtain⟨e,V⟩:=Xn (l:=a) (i:=b) c;refine sn [0,1,4,7,8,9] [] (pe 0 (zB ((b:I)<(a.length:I))) p0)<|Qa<|ckT<|Qd<|Qa<|Qn<|tn [0,1,4,5,7,8] [] p0<|tu [(5,.i (b:I)),(16,.b (Kq e))] [] [] [] (pn 3 V (pc 5 (Sw e) p0))<|ck (Kq e) (λf=>?_) (λf=>?_)
  ·refine sn [0,1,4,7,8] [] p0<|Qc ?_
   have g:(X5 Ve Vf a 0 ())= .ret (b:I):=Kc V (Qu f rfl) U;exact pi [] (Pe g)
  refine Qd<|rn [0,1,4,7,8] [] (pw 0 b p0) ?_
  exact xw _ (Qp V (Qh f rfl) U)
 ·exact sn [0,1,4,7,8,9] [] (pe 0 (zC ((b:I)<(a.length:I))) p0)<|Qa<|ckF<|Qv<|xw _ (Xo c rfl U)
 exact sn [4] [] p0<|Qc<|pi [] (Vz d rfl)
def Yl(a:H Q0):uD:=decide ((Vr a)>=(0:I))
theorem Cf(a:H Q0):ACalls vC 312 [.h a,.one (.fnr 313 [])] (.b (Yl a)):=by
 refine en func312 λ_ _ _=>sn [0,1,4] [] p0 ?_
 exact tn [4] [] (pc 2 (Cz a) p0)<|Qc<|pb [] (show Yl a=decide ((Vr a)>=(0:I)) from rfl)
def Wr(a:Xt)(after:Xt)(_:uA)(b:Yj)(c:Z):Rd Z Z Z:=(bif ((Yb (Vi a after) (Ub b.2))|| ((Yl b.2)&&(a.2.2.2.1 !=after.2.2.2.1))) then(.next (c++ [b.1])) else(.next c))
def Ax(_:uA)(a:Z):Z:=a
def V8(d:H Yj)(a:Xt)(after:Xt):Z:=(bif (a.1 !=after.1) then(Zd d) else(Out.on (X5 (Wr a after) Ax d 0 []) (λb=>b)))
theorem KI(a b:Xt):∀(l:H Yj) (k:uA) (s:Z),∃s',X5 (Wr a b) Ax l k s= .brk s'/\s'.length<=s.length+l.length
 | [],k,s=>⟨s,rfl,by simp⟩
 | x::l,k,s=>by
  simp only[X5,Wr];generalize(_|| _:uD)=c;cases c with
  | true=>obtain⟨s',d,e⟩:=KI a b l (k+1) (s++ [x.1]);exact⟨s',d,by simp at e⊢;omega⟩
  | false=>obtain⟨s',d,e⟩:=KI a b l (k+1) s;exact⟨s',d,by simp at e⊢;omega⟩
theorem BO(d:H Yj)(a b:Xt):(V8 d a b).length<=d.length:=by
 unfold V8;obtain⟨s',e,f⟩:=KI a b d 0 [];rw[e,KG];generalize(a.1 !=b.1)=c;cases c with
 | true=>simp
 | false=>exact(by simpa using f:s'.length<=d.length)
theorem QT(d:H Yj)(a:Xt)(after:Xt)(u:(zD a.2.2.2.2:I)+zD after.2.2.2.2<=1073741000):ACalls vC 269 [.h d,.a [.i a.1,.i a.2.1,.b a.2.2.1,.i a.2.2.2.1,.h a.2.2.2.2],.a [.i after.1,.i after.2.1,.b after.2.2.1,.i after.2.2.2.1,.h after.2.2.2.2]] (.o 0 (V8 d a after)):=by
 refine en func269 λ_ _ _=>sn [0,4,5,6] [4,5] p0 ?_
 refine Qa<|tn [0,4,5,6,18] [4,5] p0<|ck (a.1 !=after.1) (λk=>?_) (λk=>?_)
 ·exact tu [(4,.p 4 0),(5,.p 5 0),(6,.o 1280 (Zd d))] [1,2] [(4, [.i a.1,.i a.2.1,.b a.2.2.1,.i a.2.2.2.1,.h a.2.2.2.2]),(5, [.i after.1,.i after.2.1,.b after.2.2.1,.i after.2.2.2.1,.h after.2.2.2.2])] [] (pc 1 (Mz d) p0)<|Qc<|po0 [] (Qu k rfl)
 have p:=Ut k;refine Qd<|tu [(4,.p 4 0),(5,.p 5 0),(6,.e 0),(7,.h (Vi a after))] [1,2] [(4, [.i a.1,.i a.2.1,.b a.2.2.1,.i a.2.2.2.1,.h a.2.2.2.2]),(5, [.i after.1,.i after.2.1,.b after.2.2.1,.i after.2.2.2.1,.h after.2.2.2.2])] [] (pc 2 (WP a after (by first|omega|(simp;omega))) p0)<|sn [0,4,5,6,7,8] [4,5] p0<|Qa<|tn [4,5,6,7,8,25,26,27] [4,5] (pl 1 d p0)<|mz [(8,.one (.slc (.own D 1536) 1 [])),(25,.h d),(26,.i (d.length:I)),(27,.i 0)] [0] [] []<|wT 25 0 .sh d (λq r=>?_)
 refine LC (Wr a after) Ax d [] (λe c=> [(8,.o 104 c),(27,.i (e:I))]) [8,27] (λ_ _=> []) [] (λo=> [(8,.o 105 o)]) [4,5,7,8,25,26,27] (λ_=> []) [4,5] (λe c=>zD c<=e) (wsf [(1536,104)]) (by simp) (λe c f U=>?_) (λe c f U=>?_) (λo m=>?_)
 ·have g:=U.2;obtain⟨b,V⟩:=Xn (l:=d) (i:=e) f;refine su [(28,.b D)] [] [] [] (pe 0 (zB ((e:I)<(d.length:I))) p0)<|Qa<|ckT<|Qd<|Qa<|Qn<|sn [4,5,6,7,8,10,25,26,27] [4,5,10] (pn 0 V p0)<|tn [4,5,6,7,8,10,11,25,26,27] [4,5,10,11] (pc 2 (BZ b.2) p0)<|tu [(10,.p 10 0),(12,.b (Yb (Vi a after) (Ub b.2)))] [28] [(10, [.s b.1,.h b.2])] [] (pc 2 (Bx (Vi a after) (Ub b.2)) p0)<|sn [4,5,6,7,8,10,12,13,25,26,27] [4,5,10] (pc 2 (Cf b.2) p0)<|Qa<|mz [(13,.b (Yl b.2))] [] [] []<|jn [(50,.b ((Yb (Vi a after) (Ub b.2))|| ((Yl b.2)&&(a.2.2.2.1 !=after.2.2.2.1))))] [12,13] [] [] (Yb (Vi a after) (Ub b.2)) (λh=>?_) (λh=>?_) ?_
  ·exact ru [(50,.b D)] [12,13] [] [] (pt 0 h p0)<|zA (by rw[h]<;>kernel_rfl)
  ·refine Ye (Yl b.2) (λj=>?_) (λj=>?_)
   ·exact rn [4,5,6,7,8,10,25,26,27,50] [4,5,10] (pf 0 h (pt 2 j p0))<|zA (by rw[h,j]<;>kernel_rfl)
   exact ru [(50,.b A)] [12,13] [] [] (pf 0 h (pf 2 j p0))<|zA (by rw[h,j]<;>kernel_rfl)
  refine ck ((Yb (Vi a after) (Ub b.2))|| ((Yl b.2)&&(a.2.2.2.1 !=after.2.2.2.1))) (λn=>?_) (λn=>?_)
  ·refine wT 8 0 (.own D 104) c (λs t=>?_);refine ru [(8,.one (.slc (.own D 3520) 1 (eA c b.1)))] [8,10,50] [] [10] (pa c [b.1] p0) ?_;refine eqn [(8,.o 3520 (c++ [b.1]))] [8] [] [] (by rw[Wu]<;>kernel_rfl) ?_;refine rn [4,5,6,7,8,25,26,27] [4,5] (pw 0 e p0) ?_;exact zE (c++ [b.1]) (zH (wsf [(3520,104)]) ⟨Qp V (Qu n rfl) U.1,by first|omega|(simp;omega) | simp⟩)
  refine Qd<|rn [4,5,6,7,8,25,26,27] [4,5] (pw 0 e p0) ?_
  exact xw c ⟨Qp V (Qh n rfl) U.1,by first|omega|(simp;omega) | simp⟩
 ·have g:=U.2;exact su [(28,.b A)] [] [] [] (pe 0 (zC ((e:I)<(d.length:I))) p0)<|Qa<|ckF<|Qv<|zE _ (zH (wsf [(104,105)]) (Xo f rfl U.1))
 exact sn [6] [] p0<|Qc<|po0 [] (Qh k (Vz m rfl))
def Wq(d:H Yj)(a:Xt)(after:Xt):Z:=(Yo d (V8 d a after))
theorem WQ(d:H Yj)(a:Xt)(after:Xt)(c:(zD a.2.2.2.2:I)+zD after.2.2.2.2<=1073741000)(hd:zD d<=1000):ACalls vC 223 [.h d,.a [.i a.1,.i a.2.1,.b a.2.2.1,.i a.2.2.2.1,.h a.2.2.2.2],.a [.i after.1,.i after.2.1,.b after.2.2.1,.i after.2.2.2.1,.h after.2.2.2.2]] (.h (Wq d a after)):=by
 refine en func223 λ_ _ _=>?_
 have b:=BO d a after;exact sn [0,4,5,6] [4,5] p0<|tn [6] [] (pc 4 (QT d a after (by first|omega|(simp;omega))) (pc 5 (By d (V8 d a after) (by first|omega|(simp;omega))) p0))<|Qc<|ph0 [] (show Wq d a after=(Yo d (V8 d a after)) from rfl)
def Kn(a:H I)(b:H I):(H I)×(H I):=((Mf b a),(Mf a b))
theorem RJ(a:H I)(b:H I):ACalls vC 168 [.h a,.h b] (.tup [(A, [.o 0 (((Kn a b)).1)]),(A, [.o 1 (((Kn a b)).2)])]):=by
 refine en func168 λ_ _ _=>sn [0,1,4,5] [] p0 ?_
 exact tn [4,5] [] (pc 2 (WM b a) (pc 5 (WM a b) p0))<|Qc<|pz [] (show Kn a b=((Mf b a),(Mf a b)) from rfl) (λz=> .tup [(A, [.o 0 z.1]),(A, [.o 1 z.2])])
def Rj(b:H Qi)(_:uA)(a:Qi)(c:H G3):Rd (H G3) (H G3) (H G3):=(bif decide (vA vB (((((Kn (X8 b a.1) a.2)).1).length:I)+((((Kn (X8 b a.1) a.2)).2).length:I))>(0:I)) then(.next (c++ [(a.1,((Kn (X8 b a.1) a.2)).1,((Kn (X8 b a.1) a.2)).2)])) else(.next c))
def Rk(_:uA)(a:H G3):(H G3):=a
def Ps(a:H Qi)(b:H Qi):(H G3):=(Out.on (X5 (Rj a) Rk b 0 []) (λc=>c))
theorem Sx(c:H Qi)(b:H Qi):ACalls vC 104 [.h c,.h b] (.o 0 (Ps c b)):=by
 refine en func104 λ_ _ _=>sn [0,1,4] [] p0 ?_
 refine tn [0,1,4,5] [] p0<|Qa<|tu [(4,.e 0),(5,.one (.slc (.own D 640) 3 [])),(11,.h b),(12,.i (b.length:I)),(13,.i 0)] [1] [] [] (pl 1 b p0)<|wT 11 0 .sh b (λn o=>?_)
 refine HN (Rj c) Rk b [] (λe d=> [(5,.o 105 d),(13,.i (e:I))]) [5,13] (λm=> [(5,.o 106 m)]) [0,5,11,12,13] (λe d=>zD d<=e) (wsf [(640,105)]) (by simp) (λe d f U=>?_) (λe d f U=>?_) (λm j=>?_)
 ·have g:=U.2;obtain⟨a,V⟩:=Xn (l:=b) (i:=e) f;refine su [(14,.b D)] [] [] [] (pe 0 (zB ((e:I)<(b.length:I))) p0)<|Qa<|ckT<|Qd<|Qa<|Qn<|sn [0,4,5,7,11,12,13] [7] (pn 0 V p0)<|tN [0,4,5,7,8,9,11,12,13] [7] (pc 3 (Lf c a.1) (pc 6 (RJ (X8 c a.1) a.2) p0))<|tu [(7,.p 7 0),(8,.o 1536 (((Kn (X8 c a.1) a.2)).1)),(9,.o 1537 (((Kn (X8 c a.1) a.2)).2)),(32,.b (decide (vA vB (((((Kn (X8 c a.1) a.2)).1).length:I)+((((Kn (X8 c a.1) a.2)).2).length:I))>(0:I))))] [14] [(7, [.s a.1,.h a.2])] [] (pl 1 (((Kn (X8 c a.1) a.2)).1) (pl 3 (((Kn (X8 c a.1) a.2)).2) p0))<|ck (decide (vA vB (((((Kn (X8 c a.1) a.2)).1).length:I)+((((Kn (X8 c a.1) a.2)).2).length:I))>(0:I))) (λh=>?_) (λh=>?_)
  ·have k:=uT h;refine wT 5 0 (.own D 105) d (λp q=>?_);refine ru [(5,.one (.slc (.own D 2560) 3 (eA d (a.1,((Kn (X8 c a.1) a.2)).1,((Kn (X8 c a.1) a.2)).2))))] [5,7,8,9,32] [] [7] (pa d [(a.1,((Kn (X8 c a.1) a.2)).1,((Kn (X8 c a.1) a.2)).2)] p0) ?_;refine eqn [(5,.o 2560 (d++ [(a.1,((Kn (X8 c a.1) a.2)).1,((Kn (X8 c a.1) a.2)).2)]))] [5] [] [] (by rw[Wu]<;>kernel_rfl) ?_;refine rn [0,4,5,11,12,13] [] (pw 0 e p0) ?_;exact zE (d++ [(a.1,((Kn (X8 c a.1) a.2)).1,((Kn (X8 c a.1) a.2)).2)]) (zH (wsf [(2560,105)]) ⟨Qp V (Qu h rfl) U.1,by first|omega|(simp;omega) | simp⟩)
  have k:=uL h;refine Qd<|rn [0,4,5,11,12,13] [] (pw 0 e p0) ?_
  exact xw d ⟨Qp V (Qh h rfl) U.1,by first|omega|(simp;omega) | simp⟩
 ·have g:=U.2;exact su [(14,.b A)] [] [] [] (pe 0 (zC ((e:I)<(b.length:I))) p0)<|Qa<|ckF<|Qv<|zE _ (zH (wsf [(105,106)]) (Xo f rfl U.1))
 exact sn [4] [] p0<|Qc<|po0 [] (Vz j rfl)
def Ab(x:Qi)(a:Qi):uD:=((x.1.toList==a.1.toList)&&(Vv x.2 a.2))
theorem ZF(x:Qi)(a:Qi):ACalls vC 217 [.a [.s x.1,.h x.2],.a [.s a.1,.h a.2]] (.b (Ab x a)):=by
 refine en func217 λ_ _ _=>sn [2,3,4] [2,3] p0 ?_
 refine Qa<|mz [(2,.p 2 0),(3,.p 3 0),(4,.b A)] [0,1] [(2, [.s x.1,.h x.2]),(3, [.s a.1,.h a.2])] []<|jn [(4,.b ((x.1.toList==a.1.toList)&&(Vv x.2 a.2)))] [2,3,4] [] [2,3] (x.1.toList==a.1.toList) (λb=>?_) (λb=>?_) ?_
 ·exact rn [4] [] (pt 4 b (pc 10 (Ss x.2 a.2) p0))<|zA (by rw[b]<;>kernel_rfl)
 ·exact rn [4] [] (pf 4 b p0)<|zA (by rw[b]<;>kernel_rfl)
 exact Qc<|pb [] (show Ab x a=((x.1.toList==a.1.toList)&&(Vv x.2 a.2)) from rfl)
def Jh(a:H Qi)(b:uA)(c:Qi)(_:uE):Rd (uD) (uE) (uE):=(bif (!(Ab c (nth a b))) then(.ret A) else(.next ()))
def Ka(_:uA)(_:uE):uE:=()
def Kr(a:H Qi)(b:H Qi):uD:=(bif ((a.length:I) !=(b.length:I)) then A else(Out.on (X5 (Jh b) Ka a 0 ()) (λ_=>D)))
theorem Di(a:H Qi)(b:H Qi):ACalls vC 216 [.h a,.h b,.one (.fnr 217 [])] (.b (Kr a b)):=by
 refine en func216 λ_ _ _=>sn [0,1,2,6] [] p0 ?_
 refine Qa<|tn [0,1,2,6,14] [] (pl 1 a (pl 3 b p0))<|ck ((a.length:I) !=(b.length:I)) (λe=>?_) (λe=>?_)
 ·exact tu [(6,.b A)] [] [] [] p0<|Qc<|pb [] (Qu e rfl)
 have m:=Ut e;refine Qd<|Qa<|tu [(6,.b A),(15,.h a),(16,.i (a.length:I)),(17,.i 0)] [0] [] [] (pl 1 a p0)<|wT 15 0 .sh a (λn o=>?_)
 refine S8 (Jh b) Ka a () (λc _=> [(17,.i (c:I))]) [17] (λ_=> []) [1,2,15,16,17] wf0 (λc p d U=>?_) (λc p d U=>?_) (λs f=>?_)
 ·obtain⟨g,V⟩:=Xn (l:=a) (i:=c) d;refine su [(18,.b D)] [] [] [] (pe 0 (zB ((c:I)<(a.length:I))) p0)<|Qa<|ckT<|Qd<|Qa<|Qn<|sn [1,2,6,7,8,15,16,17] [8] (pn 1 V p0)<|wT 1 0 .sh b (λq r=>?_)
  have h:=ng b c;refine tn [1,2,6,8,9,15,16,17] [8,9] (pn 2 h p0)<|tu [(30,.b (!(Ab g (nth b c))))] [18] [] [] (pc 3 (ZF g (nth b c)) p0)<|ck (!(Ab g (nth b c))) (λj=>?_) (λj=>?_)
  ·refine su [] [30] [] [] p0<|Qc ?_
   have k:(X5 (Jh b) Ka a 0 ())= .ret A:=Kc V (Qu j rfl) U;exact pb [] (Qh e (Pe k))
  refine Qd<|rn [1,2,6,15,16,17] [] (pw 0 c p0) ?_
  exact xw _ (Qp V (Qh j rfl) U)
 ·exact su [(18,.b A)] [] [] [] (pe 0 (zC ((c:I)<(a.length:I))) p0)<|Qa<|ckF<|Qv<|xw _ (Xo d rfl U)
 exact sn [6] [] p0<|Qc<|pb [] (Qh e (Vz f rfl))
def Aj(a:H Qi)(b:H Qi):uD:=(Kr a b)
theorem WR(a:H Qi)(b:H Qi):ACalls vC 154 [.h a,.h b] (.b (Aj a b)):=by
 refine en func154 λ_ _ _=>sn [0,1,4] [] p0 ?_
 exact tn [4] [] (pc 2 (Di a b) p0)<|Qc<|pb [] (show Aj a b=(Kr a b) from rfl)
def Xl(c:Xu):uD:=(((J8 c.1 c.2.1)).2&&(Aj (((J8 c.1 c.2.1)).1) c.2.2))
theorem Hr{c:Xu}(h:Xl c=D):zD c.2.1<=5/\Qq c.1=D:=by
 unfold Xl at h;cases a:(J8 c.1 c.2.1).2 with
 | false=>rw[a] at h;simp at h
 | true=>obtain⟨b,d,_⟩:=FZ a;exact⟨b,d⟩
theorem H4(c:Xu):ACalls vC 100 [.a [.h c.1.1,.h c.1.2.1,.i c.1.2.2,.h c.2.1,.h c.2.2]] (.b (Xl c)):=by
 refine en func100 λ_ _ _=>sn [1,2] [1] p0 ?_
 refine tn [1,2,3,4] [1] (pc 4 (LF c.1 c.2.1) p0)<|Qa<|mz [(1,.p 1 0),(2,.b A),(3,.o 640 (((J8 c.1 c.2.1)).1)),(4,.b (((J8 c.1 c.2.1)).2))] [0] [(1, [.h c.1.1,.h c.1.2.1,.i c.1.2.2,.h c.2.1,.h c.2.2])] []<|jn [(2,.b (((J8 c.1 c.2.1)).2&&(Aj (((J8 c.1 c.2.1)).1) c.2.2)))] [1,2,3,4] [] [1] (((J8 c.1 c.2.1)).2) (λa=>?_) (λa=>?_) ?_
 ·exact rn [2] [] (pt 0 a (pc 5 (WR (((J8 c.1 c.2.1)).1) c.2.2) p0))<|zA (by rw[a]<;>kernel_rfl)
 ·exact rn [2] [] (pf 0 a p0)<|zA (by rw[a]<;>kernel_rfl)
 exact Qc<|pb [] (show Xl c=(((J8 c.1 c.2.1)).2&&(Aj (((J8 c.1 c.2.1)).1) c.2.2)) from rfl)
open GoE (enc wide)
def Lq(_:uA)(a:Qi)(b:H Qi):Rd (H Qi) (H Qi) (H Qi):=(.next (b++ [a]))
def Lr(_:uA)(a:H Qi):(H Qi):=a
def En(r:H Qi):(H Qi):=(Out.on (X5 Lq Lr r 0 []) (λa=>a))
theorem AC(r:H Qi):ACalls vC 155 [.h r] (.o 0 (En r)):=by
 refine en func155 λ_ _ _=>sn [0,2] [] p0 ?_
 refine tn [0,2,3] [] p0<|Qa<|tu [(2,.e 0),(3,.one (.slc (.own D 384) 2 [])),(7,.h r),(8,.i (r.length:I)),(9,.i 0)] [0] [] [] (pl 1 r p0)<|wT 7 0 .sh r (λh j=>?_)
 refine HN Lq Lr r [] (λb a=> [(3,.o 104 a),(9,.i (b:I))]) [3,9] (λg=> [(3,.o 105 g)]) [3,7,8,9] (λb a=>zD a<=b) (wsf [(384,104)]) (by simp) (λb a c U=>?_) (λb a c U=>?_) (λg f=>?_)
 ·have d:=U.2;obtain⟨e,V⟩:=Xn (l:=r) (i:=b) c;refine sn [2,3,7,8,9,10] [] (pe 0 (zB ((b:I)<(r.length:I))) p0)<|Qa<|ckT<|Qd<|Qa<|Qn<|tn [2,3,5,7,8,9] [5] (pn 0 V p0)<|wT 3 0 (.own D 104) a (λk m=>?_)
  refine qU [(3,.one (.slc (.own D 1344) 2 (eA a e)))] [3] [] [] (pc 5 (HO e.2) (pa a [e] p0)) ?_;refine eqn [(3,.o 1344 (a++ [e]))] [3] [] [] (by rw[Wu]<;>kernel_rfl) ?_;refine rn [2,3,7,8,9] [] (pw 0 b p0) ?_;exact zE (a++ [e]) (zH (wsf [(1344,104)]) ⟨Qp V rfl U.1,by first|omega|(simp;omega) | simp⟩)
 ·have d:=U.2;exact sn [2,3,7,8,9,10] [] (pe 0 (zC ((b:I)<(r.length:I))) p0)<|Qa<|ckF<|Qv<|zE _ (zH (wsf [(104,105)]) (Xo c rfl U.1))
 exact sn [2] [] p0<|Qc<|po0 [] (Vz f rfl)
def Xq(c:Xu):Xu:=((Xc c.1),(X0 c.2.1),(En c.2.2))
theorem Jy(c:Xu):ACalls vC 101 [.a [.h c.1.1,.h c.1.2.1,.i c.1.2.2,.h c.2.1,.h c.2.2]] (.a [.o 0 ((Xq c).1.1),.o 1 ((Xq c).1.2.1),.i ((Xq c).1.2.2),.o 2 ((Xq c).2.1),.o 3 ((Xq c).2.2)]):=by
 refine en func101 λ_ _ _=>sn [1,2] [1,2] p0 ?_
 exact tN [2] [2] (pc 2 (Cx c.1) (pc 5 (A6 c.2.1) (pc 8 (AC c.2.2) p0)))<|Qc<|pz [] (show Xq c=((Xc c.1),(X0 c.2.1),(En c.2.2)) from rfl) (λz=> .a [.o 0 z.1.1,.o 1 z.1.2.1,.i z.1.2.2,.o 2 z.2.1,.o 3 z.2.2])
def Uc(a:X2)(d:H Yj)(r:H Qi)(names:Z):(H Qi)×uD:=(((Zm a d r names)).1,((Zm a d r names)).2.2)
theorem CA(a:X2)(d:H Yj)(r:H Qi)(names:Z):ACalls vC 229 [.a [.h a.1,.h a.2.1,.i a.2.2],.h d,.h r,.h names] (.tup [(A, [.o 0 (((Uc a d r names)).1)]),(A, [.b (((Uc a d r names)).2)])]):=by
 refine en func229 λ_ _ _=>sn [1,2,3,4,8,9] [4] p0 ?_
 exact tn [8,9,10,12] [] (pc 4 (XY a d r names) p0)<|tu [(8,.o 1152 (((Zm a d r names)).1)),(9,.b (((Zm a d r names)).2.2))] [0,1,2,3] [] [] p0<|Qc<|pz [] (show Uc a d r names=(((Zm a d r names)).1,((Zm a d r names)).2.2) from rfl) (λz=> .tup [(A, [.o 0 z.1]),(A, [.b z.2])])
def Yy(c:Xu)(a:X2)(d:H Yj)(names:Z):Xu×(H G3)×uD:=(bif (!(((Uc a d c.2.2 names)).2)) then((Xq c), [],A) else(((Xc a),(X0 d),((Uc a d c.2.2 names)).1),(Ps c.2.2 (((Uc a d c.2.2 names)).1)),D))
theorem Eo(c:Xu)(a:X2)(d:H Yj)(names:Z):ACalls vC 164 [.a [.h c.1.1,.h c.1.2.1,.i c.1.2.2,.h c.2.1,.h c.2.2],.a [.h a.1,.h a.2.1,.i a.2.2],.h d,.h names] (.tup [(D, [.o 0 ((((Yy c a d names)).1).1.1),.o 1 ((((Yy c a d names)).1).1.2.1),.i ((((Yy c a d names)).1).1.2.2),.o 2 ((((Yy c a d names)).1).2.1),.o 3 ((((Yy c a d names)).1).2.2)]),(A, [.o 4 (((Yy c a d names)).2.1)]),(A, [.b (((Yy c a d names)).2.2)])]):=by
 refine en func164 λ_ _ _=>sn [2,3,4,5,8,9,10] [4,5,8] p0 ?_
 refine tn [2,4,5,8,9,10,11,12] [4,5,8] (pc 5 (CA a d c.2.2 names) p0)<|Qa<|tu [(4,.p 4 0),(5,.p 5 0),(8,.p 8 0),(9,.e 0),(10,.b A),(11,.o 1216 (((Uc a d c.2.2 names)).1)),(23,.b (!(((Uc a d c.2.2 names)).2)))] [0,1,3] [(4, [.h c.1.1,.h c.1.2.1,.i c.1.2.2,.h c.2.1,.h c.2.2]),(5, [.h a.1,.h a.2.1,.i a.2.2]),(8, [.e 2,.e 5,.i 0,.e 2,.e 2])] [] p0<|ck (!(((Uc a d c.2.2 names)).2)) (λb=>?_) (λb=>?_)
 ·refine sn [2,4,5,8,9,10,11] [4,5,8] (pc 1 (Jy c) p0)<|opn [(A,9,0,D,104,3)] ?_
  exact Qc<|pz [] (show Yy c a d names=_ from Qu b rfl) (λz=> .tup [(D, [.o 0 z.1.1.1,.o 1 z.1.1.2.1,.i z.1.1.2.2,.o 2 z.1.2.1,.o 3 z.1.2.2]),(A, [.o 4 z.2.1]),(A, [.b z.2.2])])
 exact Qd<|sN [8,9,10] [8] (pc 1 (Cx a) (pc 3 (A6 d) (pc 9 (Sx c.2.2 (((Uc a d c.2.2 names)).1)) p0)))<|Qc<|pz [] (show Yy c a d names=_ from Qh b rfl) (λz=> .tup [(D, [.o 0 z.1.1.1,.o 1 z.1.1.2.1,.i z.1.1.2.2,.o 2 z.1.2.1,.o 3 z.1.2.2]),(A, [.o 4 z.2.1]),(A, [.b z.2.2])])
def Kd(c:Xu)(f:Xt):Xu×I×(H G3)×uD:=(bif ((!(((Za c.1 f)).2.2))|| (!(Xl c))) then((Xq c),0, [],A) else((((Yy c (((Za c.1 f)).1) c.2.1 (Zd c.2.1))).1),((Za c.1 f)).2.1,((Yy c (((Za c.1 f)).1) c.2.1 (Zd c.2.1))).2.1,((Yy c (((Za c.1 f)).1) c.2.1 (Zd c.2.1))).2.2))
theorem RK(c:Xu)(f:Xt):ACalls vC 157 [.a [.h c.1.1,.h c.1.2.1,.i c.1.2.2,.h c.2.1,.h c.2.2],.a [.i f.1,.i f.2.1,.b f.2.2.1,.i f.2.2.2.1,.h f.2.2.2.2]] (.tup [(D, [.o 0 ((((Kd c f)).1).1.1),.o 1 ((((Kd c f)).1).1.2.1),.i ((((Kd c f)).1).1.2.2),.o 2 ((((Kd c f)).1).2.1),.o 3 ((((Kd c f)).1).2.2)]),(A, [.i (((Kd c f)).2.1)]),(A, [.o 4 (((Kd c f)).2.2.1)]),(A, [.b (((Kd c f)).2.2.2)])]):=by
 refine en func157 λ_ _ _=>sn [2,3,4,5,6,7] [2,3,4] p0 ?_
 refine tn [2,4,5,6,7,8,9,10] [2,4,8] (pc 3 (BW c.1 f) p0)<|Qa<|Qa<|mz [(2,.p 2 0),(4,.p 4 0),(5,.i 0),(6,.e 0),(7,.b A),(8,.p 8 0),(9,.i (((Za c.1 f)).2.1)),(10,.b (((Za c.1 f)).2.2))] [0,1] [(2, [.h c.1.1,.h c.1.2.1,.i c.1.2.2,.h c.2.1,.h c.2.2]),(4, [.e 2,.e 5,.i 0,.e 2,.e 2]),(8, [.o 1088 ((((Za c.1 f)).1).1),.o 1089 ((((Za c.1 f)).1).2.1),.i ((((Za c.1 f)).1).2.2)])] []<|jn [(27,.b ((!(((Za c.1 f)).2.2))|| (!(Xl c))))] [] [] [] (!(((Za c.1 f)).2.2)) (λb=>?_) (λb=>?_) ?_
 ·have a:(((Za c.1 f)).2.2)=A:=Kj b;exact ru [(27,.b D)] [] [] [] (pf 0 a (pe 1 (show .b (!A)= .b D from rfl) p0))<|zA (by rw[b]<;>kernel_rfl)
 ·have a:(((Za c.1 f)).2.2)=D:=Yu b;exact rn [2,4,5,6,7,8,9,10,27] [2,4,8] (pt 0 a (pe 1 (show .b (!D)= .b A from rfl) (pc 4 (H4 c) p0)))<|zA (by rw[b]<;>kernel_rfl)
 refine ck ((!(((Za c.1 f)).2.2))|| (!(Xl c))) (λe=>?_) (λe=>?_)
 ·refine sn [2,4,5,6,7,8,9,10] [2,4,8] (pc 1 (Jy c) p0)<|opn [(A,6,0,D,104,3)] ?_
  exact Qc<|pz [] (show Kd c f=_ from Qu e rfl) (λz=> .tup [(D, [.o 0 z.1.1.1,.o 1 z.1.1.2.1,.i z.1.1.2.2,.o 2 z.1.2.1,.o 3 z.1.2.2]),(A, [.i z.2.1]),(A, [.o 4 z.2.2.1]),(A, [.b z.2.2.2])])
 have g:((!(Xl c)))=A:=Rz e;have d:(Xl c)=D:=Yu g;have h:=Hr d;exact Qd<|sN [4,5,6,7,9,10,11,12] [4,11] (pc 6 (Mz c.2.1) (pc 7 (Eo c (((Za c.1 f)).1) c.2.1 (Zd c.2.1)) p0))<|tn [4,5,6,7] [4] p0<|Qc<|pz [] (show Kd c f=_ from Qh e rfl) (λz=> .tup [(D, [.o 0 z.1.1.1,.o 1 z.1.1.2.1,.i z.1.1.2.2,.o 2 z.1.2.1,.o 3 z.1.2.2]),(A, [.i z.2.1]),(A, [.o 4 z.2.2.1]),(A, [.b z.2.2.2])])
def Kv(c:Xu)(f:Xt):Xu×(H G3)×uD:=(bif ((!(((Ym c.1 f)).2))|| (!(Xl c))) then((Xq c), [],A) else((((Yy c (((Ym c.1 f)).1) c.2.1 (Wq c.2.1 (((Xs c.1 f.1)).1) f))).1),((Yy c (((Ym c.1 f)).1) c.2.1 (Wq c.2.1 (((Xs c.1 f.1)).1) f))).2.1,((Yy c (((Ym c.1 f)).1) c.2.1 (Wq c.2.1 (((Xs c.1 f.1)).1) f))).2.2))
theorem CB(c:Xu)(f:Xt):ACalls vC 160 [.a [.h c.1.1,.h c.1.2.1,.i c.1.2.2,.h c.2.1,.h c.2.2],.a [.i f.1,.i f.2.1,.b f.2.2.1,.i f.2.2.2.1,.h f.2.2.2.2]] (.tup [(D, [.o 0 ((((Kv c f)).1).1.1),.o 1 ((((Kv c f)).1).1.2.1),.i ((((Kv c f)).1).1.2.2),.o 2 ((((Kv c f)).1).2.1),.o 3 ((((Kv c f)).1).2.2)]),(A, [.o 4 (((Kv c f)).2.1)]),(A, [.b (((Kv c f)).2.2)])]):=by
 refine en func160 λ_ _ _=>sn [2,3,4,5,6] [2,3,4] p0 ?_
 refine tn [2,3,4,5,6,7,8] [2,3,4,7] (pc 3 (AB c.1 f) p0)<|Qa<|Qa<|mz [(2,.p 2 0),(3,.p 3 0),(4,.p 4 0),(5,.e 0),(6,.b A),(7,.p 7 0),(8,.b (((Ym c.1 f)).2))] [0,1] [(2, [.h c.1.1,.h c.1.2.1,.i c.1.2.2,.h c.2.1,.h c.2.2]),(3, [.i f.1,.i f.2.1,.b f.2.2.1,.i f.2.2.2.1,.h f.2.2.2.2]),(4, [.e 2,.e 5,.i 0,.e 2,.e 2]),(7, [.o 960 ((((Ym c.1 f)).1).1),.o 961 ((((Ym c.1 f)).1).2.1),.i ((((Ym c.1 f)).1).2.2)])] []<|jn [(24,.b ((!(((Ym c.1 f)).2))|| (!(Xl c))))] [8] [] [] (!(((Ym c.1 f)).2)) (λd=>?_) (λd=>?_) ?_
 ·have a:(((Ym c.1 f)).2)=A:=Kj d;exact ru [(24,.b D)] [8] [] [] (pf 0 a (pe 1 (show .b (!A)= .b D from rfl) p0))<|zA (by rw[d]<;>kernel_rfl)
 ·have a:(((Ym c.1 f)).2)=D:=Yu d;have e:=OA a;have n:=NY e.1 f.1;exact rn [2,3,4,5,6,7,24] [2,3,4,7] (pt 0 a (pe 1 (show .b (!D)= .b A from rfl) (pc 4 (H4 c) p0)))<|zA (by rw[d]<;>kernel_rfl)
 refine ck ((!(((Ym c.1 f)).2))|| (!(Xl c))) (λg=>?_) (λg=>?_)
 ·refine sn [2,3,4,5,6,7] [2,3,4,7] (pc 1 (Jy c) p0)<|opn [(A,5,0,D,104,3)] ?_
  exact Qc<|pz [] (show Kv c f=_ from Qu g rfl) (λz=> .tup [(D, [.o 0 z.1.1.1,.o 1 z.1.1.2.1,.i z.1.1.2.2,.o 2 z.1.2.1,.o 3 z.1.2.2]),(A, [.o 4 z.2.1]),(A, [.b z.2.2])])
 have j:((!(((Ym c.1 f)).2)))=A:=Sl g;have h:(((Ym c.1 f)).2)=D:=Yu j;have b:=OA h;have k:=NY b.1 f.1;have l:((!(Xl c)))=A:=Rz g;have i:(Xl c)=D:=Yu l;have m:=Hr i;exact Qd<|sn [2,3,4,5,6,7,9] [2,3,4,7,9] (pc 4 (R8 c.1 f.1) p0)<|tN [4,5,6] [4] (pc 8 (WQ c.2.1 (((Xs c.1 f.1)).1) f (by omega) (by omega)) (pc 9 (Eo c (((Ym c.1 f)).1) c.2.1 (Wq c.2.1 (((Xs c.1 f.1)).1) f)) p0))<|Qc<|pz [] (show Kv c f=_ from Qh g rfl) (λz=> .tup [(D, [.o 0 z.1.1.1,.o 1 z.1.1.2.1,.i z.1.1.2.2,.o 2 z.1.2.1,.o 3 z.1.2.2]),(A, [.o 4 z.2.1]),(A, [.b z.2.2])])
def Kw(c:Xu)(a:I):Xu×(H G3)×uD:=(bif ((!(((Zj c.1 a)).2))|| (!(Xl c))) then((Xq c), [],A) else((((Yy c (((Zj c.1 a)).1) c.2.1 (Zd c.2.1))).1),((Yy c (((Zj c.1 a)).1) c.2.1 (Zd c.2.1))).2.1,((Yy c (((Zj c.1 a)).1) c.2.1 (Zd c.2.1))).2.2))
theorem CC(c:Xu)(a:I):ACalls vC 161 [.a [.h c.1.1,.h c.1.2.1,.i c.1.2.2,.h c.2.1,.h c.2.2],.i a] (.tup [(D, [.o 0 ((((Kw c a)).1).1.1),.o 1 ((((Kw c a)).1).1.2.1),.i ((((Kw c a)).1).1.2.2),.o 2 ((((Kw c a)).1).2.1),.o 3 ((((Kw c a)).1).2.2)]),(A, [.o 4 (((Kw c a)).2.1)]),(A, [.b (((Kw c a)).2.2)])]):=by
 refine en func161 λ_ _ _=>sn [1,2,4,5,6] [2,4] p0 ?_
 refine tn [2,4,5,6,7,8] [2,4,7] (pc 3 (BX c.1 a) p0)<|Qa<|Qa<|mz [(2,.p 2 0),(4,.p 4 0),(5,.e 0),(6,.b A),(7,.p 7 0),(8,.b (((Zj c.1 a)).2))] [0,1] [(2, [.h c.1.1,.h c.1.2.1,.i c.1.2.2,.h c.2.1,.h c.2.2]),(4, [.e 2,.e 5,.i 0,.e 2,.e 2]),(7, [.h ((((Zj c.1 a)).1).1),.h ((((Zj c.1 a)).1).2.1),.i ((((Zj c.1 a)).1).2.2)])] []<|jn [(22,.b ((!(((Zj c.1 a)).2))|| (!(Xl c))))] [8] [] [] (!(((Zj c.1 a)).2)) (λd=>?_) (λd=>?_) ?_
 ·have b:(((Zj c.1 a)).2)=A:=Kj d;exact ru [(22,.b D)] [8] [] [] (pf 0 b (pe 1 (show .b (!A)= .b D from rfl) p0))<|zA (by rw[d]<;>kernel_rfl)
 ·have b:(((Zj c.1 a)).2)=D:=Yu d;exact rn [2,4,5,6,7,22] [2,4,7] (pt 0 b (pe 1 (show .b (!D)= .b A from rfl) (pc 4 (H4 c) p0)))<|zA (by rw[d]<;>kernel_rfl)
 refine ck ((!(((Zj c.1 a)).2))|| (!(Xl c))) (λf=>?_) (λf=>?_)
 ·refine sn [2,4,5,6,7] [2,4,7] (pc 1 (Jy c) p0)<|opn [(A,5,0,D,104,3)] ?_
  exact Qc<|pz [] (show Kw c a=_ from Qu f rfl) (λz=> .tup [(D, [.o 0 z.1.1.1,.o 1 z.1.1.2.1,.i z.1.1.2.2,.o 2 z.1.2.1,.o 3 z.1.2.2]),(A, [.o 4 z.2.1]),(A, [.b z.2.2])])
 have g:((!(Xl c)))=A:=Rz f;have e:(Xl c)=D:=Yu g;have h:=Hr e;exact Qd<|sN [4,5,6] [4] (pc 6 (Mz c.2.1) (pc 7 (Eo c (((Zj c.1 a)).1) c.2.1 (Zd c.2.1)) p0))<|Qc<|pz [] (show Kw c a=_ from Qh f rfl) (λz=> .tup [(D, [.o 0 z.1.1.1,.o 1 z.1.1.2.1,.i z.1.1.2.2,.o 2 z.1.2.1,.o 3 z.1.2.2]),(A, [.o 4 z.2.1]),(A, [.b z.2.2])])
def Vg(c:Xu)(x:Yj):Xu×(H G3)×uD:=(bif ((!(((Zh c.2.1 x)).2))|| ((!(Xl c))|| (!(Jq (((Zh c.2.1 x)).1))))) then((Xq c), [],A) else((((Yy c c.1 (((Zh c.2.1 x)).1) (Yo (((Zh c.2.1 x)).1) [x.1]))).1),((Yy c c.1 (((Zh c.2.1 x)).1) (Yo (((Zh c.2.1 x)).1) [x.1]))).2.1,((Yy c c.1 (((Zh c.2.1 x)).1) (Yo (((Zh c.2.1 x)).1) [x.1]))).2.2))
theorem GI(c:Xu)(x:Yj)(o:zD c.2.1<1073741000):ACalls vC 162 [.a [.h c.1.1,.h c.1.2.1,.i c.1.2.2,.h c.2.1,.h c.2.2],.a [.s x.1,.h x.2]] (.tup [(D, [.o 0 ((((Vg c x)).1).1.1),.o 1 ((((Vg c x)).1).1.2.1),.i ((((Vg c x)).1).1.2.2),.o 2 ((((Vg c x)).1).2.1),.o 3 ((((Vg c x)).1).2.2)]),(A, [.o 4 (((Vg c x)).2.1)]),(A, [.b (((Vg c x)).2.2)])]):=by
 refine en func162 λ_ _ _=>sn [2,3,4,5,6] [2,3,4] p0 ?_
 refine tn [2,3,4,5,6,7,8] [2,3,4] (pc 3 (Qbe c.2.1 x (by first|omega|(simp;omega))) p0)<|Qa<|Qa<|mz [(2,.p 2 0),(3,.p 3 0),(4,.p 4 0),(5,.e 0),(6,.b A),(7,.h (((Zh c.2.1 x)).1)),(8,.b (((Zh c.2.1 x)).2))] [0,1] [(2, [.h c.1.1,.h c.1.2.1,.i c.1.2.2,.h c.2.1,.h c.2.2]),(3, [.s x.1,.h x.2]),(4, [.e 2,.e 5,.i 0,.e 2,.e 2])] []<|jn [(27,.b ((!(((Zh c.2.1 x)).2))|| ((!(Xl c))|| (!(Jq (((Zh c.2.1 x)).1))))))] [8] [] [] (!(((Zh c.2.1 x)).2)) (λf=>?_) (λf=>?_) ?_
 ·have a:(((Zh c.2.1 x)).2)=A:=Kj f;exact ru [(27,.b D)] [8] [] [] (pf 0 a (pe 1 (show .b (!A)= .b D from rfl) p0))<|zA (by rw[f]<;>kernel_rfl)
 ·have a:(((Zh c.2.1 x)).2)=D:=Yu f;refine Ye (!(Xl c)) (λg=>?_) (λg=>?_)
  ·have b:(Xl c)=A:=Kj g;exact ru [(27,.b D)] [8] [] [] (pt 0 a (pe 1 (show .b (!D)= .b A from rfl) (pc 4 (cb b (H4 c)) (pe 5 (show .b (!A)= .b D from rfl) p0))))<|zA (by rw[f,g]<;>kernel_rfl)
  have b:(Xl c)=D:=Yu g;have n:=Hr b;exact rn [2,3,4,5,6,7,27] [2,3,4] (pt 0 a (pe 1 (show .b (!D)= .b A from rfl) (pc 4 (cb b (H4 c)) (pe 5 (show .b (!D)= .b A from rfl) (pc 9 (Rh (((Zh c.2.1 x)).1)) p0)))))<|zA (by rw[f,g]<;>kernel_rfl)
 refine ck ((!(((Zh c.2.1 x)).2))|| ((!(Xl c))|| (!(Jq (((Zh c.2.1 x)).1))))) (λk=>?_) (λk=>?_)
 ·refine sn [2,3,4,5,6,7] [2,3,4] (pc 1 (Jy c) p0)<|opn [(A,5,0,D,104,3)] ?_
  exact Qc<|pz [] (show Vg c x=_ from Qu k rfl) (λz=> .tup [(D, [.o 0 z.1.1.1,.o 1 z.1.1.2.1,.i z.1.1.2.2,.o 2 z.1.2.1,.o 3 z.1.2.2]),(A, [.o 4 z.2.1]),(A, [.b z.2.2])])
 have h:(((!(Xl c))|| (!(Jq (((Zh c.2.1 x)).1)))))=A:=Rz k;have i:((!(Xl c)))=A:=Sl h;have d:(Xl c)=D:=Yu i;have l:=Hr d;have j:((!(Jq (((Zh c.2.1 x)).1))))=A:=Rz h;have e:(Jq (((Zh c.2.1 x)).1))=D:=Yu j;have m:=Qbd e;exact Qd<|sN [4,5,6] [4] (pc 8 (By (((Zh c.2.1 x)).1) [x.1] (by first|omega|(simp;omega))) (pc 9 (Eo c c.1 (((Zh c.2.1 x)).1) (Yo (((Zh c.2.1 x)).1) [x.1])) p0))<|Qc<|pz [] (show Vg c x=_ from Qh k rfl) (λz=> .tup [(D, [.o 0 z.1.1.1,.o 1 z.1.1.2.1,.i z.1.1.2.2,.o 2 z.1.2.1,.o 3 z.1.2.2]),(A, [.o 4 z.2.1]),(A, [.b z.2.2])])
def Hf(f:Xt)(a:I):uD:=((Wi a)&&(f.2.1==a))
theorem R9(f:Xt)(a:I):ACalls vC 159 [.a [.i f.1,.i f.2.1,.b f.2.2.1,.i f.2.2.2.1,.h f.2.2.2.2],.i a] (.b (Hf f a)):=by
 refine en func159 λ_ _ _=>sn [1,2,4] [2] p0 ?_
 refine Qa<|mz [(2,.p 2 0),(4,.b A)] [0] [(2, [.i f.1,.i f.2.1,.b f.2.2.1,.i f.2.2.2.1,.h f.2.2.2.2])] []<|jn [(4,.b ((Wi a)&&(f.2.1==a)))] [1,2,4] [] [2] (Wi a) (λb=>?_) (λb=>?_) ?_
 ·exact rn [4] [] (pc 1 (cb b (Ei a)) p0)<|zA (by rw[b]<;>kernel_rfl)
 ·exact rn [4] [] (pc 1 (cb b (Ei a)) p0)<|zA (by rw[b]<;>kernel_rfl)
 exact Qc<|pb [] (show Hf f a=((Wi a)&&(f.2.1==a)) from rfl)
def Yr(c:Xu)(a:I)(x:Vk):Xu×(H G3)×uD:=(bif ((!(Wi a))|| (!(Xl c))) then((Xq c), [],A) else(bif (x.1==(1:I)) then(bif (x.2.1.2.1==a) then((((Kd c x.2.1)).1),((Kd c x.2.1)).2.2.1,((Kd c x.2.1)).2.2.2) else((Xq c), [],A)) else(bif (x.1==(2:I)) then(bif (((Xs c.1 x.2.1.1)).2&&((Hf (((Xs c.1 x.2.1.1)).1) a)&&(x.2.1.2.1==a))) then((((Kv c x.2.1)).1),((Kv c x.2.1)).2.1,((Kv c x.2.1)).2.2) else((Xq c), [],A)) else(bif (x.1==(3:I)) then(bif (((Xs c.1 x.2.2.1)).2&&(Hf (((Xs c.1 x.2.2.1)).1) a)) then((((Kw c x.2.2.1)).1),((Kw c x.2.2.1)).2.1,((Kw c x.2.2.1)).2.2) else((Xq c), [],A)) else(bif (x.1==(4:I)) then((((Vg c x.2.2.2)).1),((Vg c x.2.2.2)).2.1,((Vg c x.2.2.2)).2.2) else(bif (x.1==(5:I)) then(bif ((Jl c.2.1 x.2.2.2.1)).2 then((((Yy c c.1 (((Jl c.2.1 x.2.2.2.1)).1) (Yo c.2.1 [x.2.2.2.1]))).1),((Yy c c.1 (((Jl c.2.1 x.2.2.2.1)).1) (Yo c.2.1 [x.2.2.2.1]))).2.1,((Yy c c.1 (((Jl c.2.1 x.2.2.2.1)).1) (Yo c.2.1 [x.2.2.2.1]))).2.2) else((Xq c), [],A)) else((Xq c), [],A)))))))
theorem AD(c:Xu)(a:I)(x:Vk):ACalls vC 102 [.a [.h c.1.1,.h c.1.2.1,.i c.1.2.2,.h c.2.1,.h c.2.2],.i a,.a [.i x.1,.i x.2.1.1,.i x.2.1.2.1,.b x.2.1.2.2.1,.i x.2.1.2.2.2.1,.h x.2.1.2.2.2.2,.i x.2.2.1,.s x.2.2.2.1,.h x.2.2.2.2]] (.tup [(D, [.o 0 ((((Yr c a x)).1).1.1),.o 1 ((((Yr c a x)).1).1.2.1),.i ((((Yr c a x)).1).1.2.2),.o 2 ((((Yr c a x)).1).2.1),.o 3 ((((Yr c a x)).1).2.2)]),(A, [.o 4 (((Yr c a x)).2.1)]),(A, [.b (((Yr c a x)).2.2)])]):=by
 refine en func102 λ_ _ _=>sn [1,3,5,6,7,8] [3,5,6] p0 ?_
 refine Qa<|Qa<|mz [(3,.p 3 0),(5,.p 5 0),(6,.p 6 0),(7,.e 0),(8,.b A)] [0,2] [(3, [.h c.1.1,.h c.1.2.1,.i c.1.2.2,.h c.2.1,.h c.2.2]),(5, [.i x.1,.i x.2.1.1,.i x.2.1.2.1,.b x.2.1.2.2.1,.i x.2.1.2.2.2.1,.h x.2.1.2.2.2.2,.i x.2.2.1,.s x.2.2.2.1,.h x.2.2.2.2]),(6, [.e 2,.e 5,.i 0,.e 2,.e 2])] []<|jn [(26,.b ((!(Wi a))|| (!(Xl c))))] [] [] [] (!(Wi a)) (λn=>?_) (λn=>?_) ?_
 ·have j:(Wi a)=A:=Kj n;exact ru [(26,.b D)] [] [] [] (pc 1 (cb j (Ei a)) (pe 2 (show .b (!A)= .b D from rfl) p0))<|zA (by rw[n]<;>kernel_rfl)
 ·have j:(Wi a)=D:=Yu n;exact rn [1,3,5,6,7,8,26] [3,5,6] (pc 1 (cb j (Ei a)) (pe 2 (show .b (!D)= .b A from rfl) (pc 5 (H4 c) p0)))<|zA (by rw[n]<;>kernel_rfl)
 refine ck ((!(Wi a))|| (!(Xl c))) (λd=>?_) (λd=>?_)
 ·refine sn [1,3,5,6,7,8] [3,5,6] (pc 1 (Jy c) p0)<|opn [(A,7,0,D,105,3)] ?_
  exact Qc<|pz [] (show Yr c a x=_ from Qu d rfl) (λz=> .tup [(D, [.o 0 z.1.1.1,.o 1 z.1.1.2.1,.i z.1.1.2.2,.o 2 z.1.2.1,.o 3 z.1.2.2]),(A, [.o 4 z.2.1]),(A, [.b z.2.2])])
 have r:((!(Xl c)))=A:=Rz d;have o:(Xl c)=D:=Yu r;have s:=Hr o;refine Qd<|Qa<|su [(30,.i x.1)] [26] [] [] p0<|Qn<|sn [1,3,5,6,7,8,30,31] [3,5,6] p0<|ck (x.1==(1:I)) (λe=>?_) (λe=>?_)
 ·refine tn [3,5,6,7,8,37] [3,5,6] p0<|ck (x.2.1.2.1==a) (λt=>?_) (λt=>?_)
  ·exact tu [(9,.p 9 0),(11,.o 2692 (((Kd c x.2.1)).2.2.1)),(12,.b (((Kd c x.2.1)).2.2.2))] [1,5,30] [(9, [.o 2688 ((((Kd c x.2.1)).1).1.1),.o 2689 ((((Kd c x.2.1)).1).1.2.1),.i ((((Kd c x.2.1)).1).1.2.2),.o 2690 ((((Kd c x.2.1)).1).2.1),.o 2691 ((((Kd c x.2.1)).1).2.2)])] [5] (pc 3 (RK c x.2.1) p0)<|sn [3,6,7,8] [3,6] p0<|Qc<|pz [] (show Yr c a x=_ from Qh d (Qu e (Qu t rfl))) (λz=> .tup [(D, [.o 0 z.1.1.1,.o 1 z.1.1.2.1,.i z.1.1.2.2,.o 2 z.1.2.1,.o 3 z.1.2.2]),(A, [.o 4 z.2.1]),(A, [.b z.2.2])])
  refine Qd<|tu [] [1,3,5,30] [(6, [.o 9024 ((Xq c).1.1),.o 9025 ((Xq c).1.2.1),.i ((Xq c).1.2.2),.o 9026 ((Xq c).2.1),.o 9027 ((Xq c).2.2)])] [3,5,6] (pc 1 (Jy c) p0)<|opn [(A,7,0,D,105,3)] ?_
  exact Qc<|pz [] (show Yr c a x=_ from Qh d (Qu e (Qh t rfl))) (λz=> .tup [(D, [.o 0 z.1.1.1,.o 1 z.1.1.2.1,.i z.1.1.2.2,.o 2 z.1.2.1,.o 3 z.1.2.2]),(A, [.o 4 z.2.1]),(A, [.b z.2.2])])
 have w:=Yt e;refine tn [1,3,5,6,7,8,30,50] [3,5,6] p0<|ck (x.1==(2:I)) (λh=>?_) (λh=>?_)
 ·refine tu [(13,.p 13 0),(14,.b (((Xs c.1 x.2.1.1)).2))] [30] [(13, [.i ((((Xs c.1 x.2.1.1)).1).1),.i ((((Xs c.1 x.2.1.1)).1).2.1),.b ((((Xs c.1 x.2.1.1)).1).2.2.1),.i ((((Xs c.1 x.2.1.1)).1).2.2.2.1),.o 3712 ((((Xs c.1 x.2.1.1)).1).2.2.2.2)])] [] (pc 5 (R8 c.1 x.2.1.1) p0)<|Qa<|jn [(73,.b (((Xs c.1 x.2.1.1)).2&&((Hf (((Xs c.1 x.2.1.1)).1) a)&&(x.2.1.2.1==a))))] [1,13,14] [] [13] (((Xs c.1 x.2.1.1)).2) (λk=>?_) (λk=>?_) ?_
  ·refine Ye (Hf (((Xs c.1 x.2.1.1)).1) a) (λp=>?_) (λp=>?_)
   ·exact rn [3,5,6,7,8,73] [3,5,6] (pt 0 k (pc 4 (cb p (R9 (((Xs c.1 x.2.1.1)).1) a)) p0))<|zA (by rw[k,p]<;>kernel_rfl)
   exact rn [3,5,6,7,8,73] [3,5,6] (pt 0 k (pc 4 (cb p (R9 (((Xs c.1 x.2.1.1)).1) a)) p0))<|zA (by rw[k,p]<;>kernel_rfl)
  ·exact rn [3,5,6,7,8,73] [3,5,6] (pf 0 k p0)<|zA (by rw[k]<;>kernel_rfl)
  refine ck (((Xs c.1 x.2.1.1)).2&&((Hf (((Xs c.1 x.2.1.1)).1) a)&&(x.2.1.2.1==a))) (λu=>?_) (λu=>?_)
  ·exact sn [3,6,7,8] [3,6] (pc 3 (CB c x.2.1) p0)<|Qc<|pz [] (show Yr c a x=_ from Qh d (Qh e (Qu h (Qu u rfl)))) (λz=> .tup [(D, [.o 0 z.1.1.1,.o 1 z.1.1.2.1,.i z.1.1.2.2,.o 2 z.1.2.1,.o 3 z.1.2.2]),(A, [.o 4 z.2.1]),(A, [.b z.2.2])])
  refine Qd<|sn [6,7,8] [6] (pc 1 (Jy c) p0)<|opn [(A,7,0,D,105,3)] ?_
  exact Qc<|pz [] (show Yr c a x=_ from Qh d (Qh e (Qu h (Qh u rfl)))) (λz=> .tup [(D, [.o 0 z.1.1.1,.o 1 z.1.1.2.1,.i z.1.1.2.2,.o 2 z.1.2.1,.o 3 z.1.2.2]),(A, [.o 4 z.2.1]),(A, [.b z.2.2])])
 have y:=Yt h;refine tu [(81,.b (x.1==(3:I)))] [] [] [] p0<|ck (x.1==(3:I)) (λi=>?_) (λi=>?_)
 ·refine sn [1,3,5,6,7,8,15,16] [3,5,6,15] (pc 4 (R8 c.1 x.2.2.1) p0)<|Qa<|mz [(15,.p 15 0),(16,.b (((Xs c.1 x.2.2.1)).2))] [30,81] [(15, [.i ((((Xs c.1 x.2.2.1)).1).1),.i ((((Xs c.1 x.2.2.1)).1).2.1),.b ((((Xs c.1 x.2.2.1)).1).2.2.1),.i ((((Xs c.1 x.2.2.1)).1).2.2.2.1),.o 5632 ((((Xs c.1 x.2.2.1)).1).2.2.2.2)])] []<|jn [(96,.b (((Xs c.1 x.2.2.1)).2&&(Hf (((Xs c.1 x.2.2.1)).1) a)))] [1,15,16] [] [15] (((Xs c.1 x.2.2.1)).2) (λf=>?_) (λf=>?_) ?_
  ·exact rn [3,5,6,7,8,96] [3,5,6] (pt 0 f (pc 4 (R9 (((Xs c.1 x.2.2.1)).1) a) p0))<|zA (by rw[f]<;>kernel_rfl)
  ·exact rn [3,5,6,7,8,96] [3,5,6] (pf 0 f p0)<|zA (by rw[f]<;>kernel_rfl)
  refine ck (((Xs c.1 x.2.2.1)).2&&(Hf (((Xs c.1 x.2.2.1)).1) a)) (λl=>?_) (λl=>?_)
  ·exact sn [3,6,7,8] [3,6] (pc 3 (CC c x.2.2.1) p0)<|Qc<|pz [] (show Yr c a x=_ from Qh d (Qh e (Qh h (Qu i (Qu l rfl))))) (λz=> .tup [(D, [.o 0 z.1.1.1,.o 1 z.1.1.2.1,.i z.1.1.2.2,.o 2 z.1.2.1,.o 3 z.1.2.2]),(A, [.o 4 z.2.1]),(A, [.b z.2.2])])
  refine Qd<|sn [6,7,8] [6] (pc 1 (Jy c) p0)<|opn [(A,7,0,D,105,3)] ?_
  exact Qc<|pz [] (show Yr c a x=_ from Qh d (Qh e (Qh h (Qu i (Qh l rfl))))) (λz=> .tup [(D, [.o 0 z.1.1.1,.o 1 z.1.1.2.1,.i z.1.1.2.2,.o 2 z.1.2.1,.o 3 z.1.2.2]),(A, [.o 4 z.2.1]),(A, [.b z.2.2])])
 have a1:=Yt i;refine sn [3,5,6,7,8,30,104] [3,5,6] p0<|ck (x.1==(4:I)) (λb=>?_) (λb=>?_)
 ·have q:=eq_of_beq b;exact tn [3,6,7,8] [3,6] (pc 3 (GI c x.2.2.2 (by first|omega|(simp;omega))) p0)<|Qc<|pz [] (show Yr c a x=_ from Qh d (Qh e (Qh h (Qh i (Qu b rfl))))) (λz=> .tup [(D, [.o 0 z.1.1.1,.o 1 z.1.1.2.1,.i z.1.1.2.2,.o 2 z.1.2.1,.o 3 z.1.2.2]),(A, [.o 4 z.2.1]),(A, [.b z.2.2])])
 have q:=Yt b;refine tn [3,5,6,7,8,113] [3,5,6] p0<|ck (x.1==(5:I)) (λg=>?_) (λg=>?_)
 ·have v:=eq_of_beq g;refine tu [(17,.h (((Jl c.2.1 x.2.2.2.1)).1)),(18,.b (((Jl c.2.1 x.2.2.2.1)).2))] [1,30,81] [] [] (pc 5 (GG c.2.1 x.2.2.2.1) p0)<|sn [3,5,6,7,8,17,124] [3,5,6] p0<|ck (((Jl c.2.1 x.2.2.2.1)).2) (λm=>?_) (λm=>?_)
  ·exact tN [3,6,7,8] [3,6] (pc 10 (By c.2.1 [x.2.2.2.1] (by first|omega|(simp;omega))) (pc 11 (Eo c c.1 (((Jl c.2.1 x.2.2.2.1)).1) (Yo c.2.1 [x.2.2.2.1])) p0))<|Qc<|pz [] (show Yr c a x=_ from Qh d (Qh e (Qh h (Qh i (Qh b (Qu g (Qu m rfl))))))) (λz=> .tup [(D, [.o 0 z.1.1.1,.o 1 z.1.1.2.1,.i z.1.1.2.2,.o 2 z.1.2.1,.o 3 z.1.2.2]),(A, [.o 4 z.2.1]),(A, [.b z.2.2])])
  refine Qd<|tn [6,7,8] [6] (pc 1 (Jy c) p0)<|opn [(A,7,0,D,105,3)] ?_
  exact Qc<|pz [] (show Yr c a x=_ from Qh d (Qh e (Qh h (Qh i (Qh b (Qu g (Qh m rfl))))))) (λz=> .tup [(D, [.o 0 z.1.1.1,.o 1 z.1.1.2.1,.i z.1.1.2.2,.o 2 z.1.2.1,.o 3 z.1.2.2]),(A, [.o 4 z.2.1]),(A, [.b z.2.2])])
 refine Qd<|tu [] [1,3,5,30,81] [(6, [.o 9024 ((Xq c).1.1),.o 9025 ((Xq c).1.2.1),.i ((Xq c).1.2.2),.o 9026 ((Xq c).2.1),.o 9027 ((Xq c).2.2)])] [3,5,6] (pc 1 (Jy c) p0)<|opn [(A,7,0,D,105,3)] ?_
 exact Qc<|pz [] (show Yr c a x=_ from Qh d (Qh e (Qh h (Qh i (Qh b (Qh g rfl)))))) (λz=> .tup [(D, [.o 0 z.1.1.1,.o 1 z.1.1.2.1,.i z.1.1.2.2,.o 2 z.1.2.1,.o 3 z.1.2.2]),(A, [.o 4 z.2.1]),(A, [.b z.2.2])])
open GoE (enc wide)
def Q3(f:Xt):Xt:=f
theorem Ol(f:Xt):ACalls vC 147 [.a [.i f.1,.i f.2.1,.b f.2.2.1,.i f.2.2.2.1,.h f.2.2.2.2]] (.a [.i ((Q3 f).1),.i ((Q3 f).2.1),.b ((Q3 f).2.2.1),.i ((Q3 f).2.2.2.1),.o 0 ((Q3 f).2.2.2.2)]):=by
 refine en func147 λ_ _ _=>sn [1,2] [1,2] p0 ?_
 refine wB 1 4 .sh f.2.2.2.2 (λa b=>?_);exact tn [1,2] [1,2] (po 3 (.flat) (px (L7 (n:=(([]:H (H PV)).length+((eL f.2.2.2.2):H (H PV)).length)) (N1 rfl (Zv f.2.2.2.2) (by first|omega|(simp only[List.length_cons,List.length_nil];omega) | (simp;omega) | simp))) (px (G1 (Ea f.2.2.2.2)) p0)))<|tu [(2,.p 2 0)] [0] [(2, [.i f.1,.i f.2.1,.b f.2.2.1,.i f.2.2.2.1,.o 384 f.2.2.2.2])] [] p0<|Qc<|pz [] (show Q3 f=f from rfl) (λz=> .a [.i z.1,.i z.2.1,.b z.2.2.1,.i z.2.2.2.1,.o 0 z.2.2.2.2])
def Ds(_:uA)(a:Xt)(b:H Xt):Rd (X2) (H Xt) (H Xt):=(.next (b++ [(Q3 a)]))
def Gf(_:uA)(a:H Xt):(H Xt):=a
def Qg(a:X2):X2:=(Out.on (X5 Ds Gf a.2.1 0 []) (λb=>(a.1,b,a.2.2)))
theorem Lt(a:X2):ACalls vC 88 [.a [.h a.1,.h a.2.1,.i a.2.2]] (.a [.o 0 ((Qg a).1),.o 1 ((Qg a).2.1),.i ((Qg a).2.2)]):=by
 refine en func88 λ_ _ _=>sn [1,2] [1,2] p0 ?_
 refine wB 1 0 .sh a.1 (λj k=>?_);refine tN [1,2,3] [1,2,3] (po 3 (.flat) (px (L7 (n:=(([]:H (H PV)).length+((eL a.1):H (H PV)).length)) (N1 rfl (Zv a.1) (by first|omega|(simp only[List.length_cons,List.length_nil];omega) | (simp;omega) | simp))) (px (G1 (Ea a.1)) p0)))<|Qa<|tu [(1,.p 1 0),(2,.p 2 0),(3,.p 3 0),(4,.i 0)] [0] [(1, [.h a.1,.h a.2.1,.i a.2.2]),(2, [.e 2,.e 5,.i 0]),(3, [.o 512 a.1,.e 5,.i a.2.2])] [] p0<|wB 1 1 .sh a.2.1 (λm o=>?_)
 refine LC Ds Gf a.2.1 [] (λc _=> [(4,.i (c:I))]) [4] (λ_ b=> [(3, [.o 512 a.1,.o 104 b,.i a.2.2])]) [3] (λ_=> []) [1,4] (λh=> [(3, [.o 512 a.1,.o 105 h,.i a.2.2])]) [1,3] (λc b=>zD b<=c) (wgf [(D,3,1,D,320008,5)] [] [] [(320008,104)]) (by simp) (λc b d U=>?_) (λc b d U=>?_) (λh g=>?_)
 ·have e:=U.2;obtain⟨f,V⟩:=Xn (l:=a.2.1) (i:=c) d;refine Qa<|su [(16,.b D)] [] [] [] (pl 3 a.2.1 (pe 4 (zB ((c:I)<(a.2.1.length:I))) p0))<|ckT<|Qd<|Qa<|Qn<|wB 3 1 (.own D 104) b (λp q=>?_)
  refine rU [] [16] [(3, [.o 512 a.1,.slc (.own D 1792) 5 (eA b (Q3 f)),.i a.2.2])] [3] (pn 5 V (pc 7 (Ol f) (pa b [(Q3 f)] p0))) ?_;refine eqn [] [] [(3, [.o 512 a.1,.o 1792 (b++ [(Q3 f)]),.i a.2.2])] [3] (by rw[Wu]<;>kernel_rfl) ?_;refine rn [1,2,3,4] [1,2,3] (pw 1 c p0) ?_;exact zE (b++ [(Q3 f)]) (zH (wsf [(1792,104)]) ⟨Qp V rfl U.1,by first|omega|(simp;omega) | simp⟩)
 ·have e:=U.2;exact Qa<|su [(16,.b A)] [] [] [] (pl 3 a.2.1 (pe 4 (zC ((c:I)<(a.2.1.length:I))) p0))<|ckF<|Qv<|zE _ (zH (wsf [(104,105)]) (Xo d rfl U.1))
 exact sn [2] [2] p0<|Qc<|pz [] (show Qg a=_ from Vz g rfl) (λz=> .a [.o 0 z.1,.o 1 z.2.1,.i z.2.2])
def Y2(a:X2)(f:Xt):X2×I×uD:=(bif ((!(Xa (Qg a)))|| (decide ((((Qg a).2.1).length:I)>=(12:I))|| (!(Yq ((Qg a).1) ((Qg a).2.2,(Q3 f).2.1,(Q3 f).2.2.1,(Q3 f).2.2.2.1,(Q3 f).2.2.2.2))))) then((Qg a),0,A) else(((Qg a).1,(Qg a).2.1++ [((Qg a).2.2,(Q3 f).2.1,(Q3 f).2.2.1,(Q3 f).2.2.2.1,(Q3 f).2.2.2.2)],vA vB ((Qg a).2.2+1)),(Qg a).2.2,D))
theorem CE(a:X2)(f:Xt):ACalls vC 190 [.a [.h a.1,.h a.2.1,.i a.2.2],.a [.i f.1,.i f.2.1,.b f.2.2.1,.i f.2.2.2.1,.h f.2.2.2.2]] (.tup [(D, [.o 0 ((((Y2 a f)).1).1),.o 1 ((((Y2 a f)).1).2.1),.i ((((Y2 a f)).1).2.2)]),(A, [.i (((Y2 a f)).2.1)]),(A, [.b (((Y2 a f)).2.2)])]):=by
 refine en func190 λ_ _ _=>sn [2,3,4,5,6] [2,3,4] p0 ?_
 refine tn [2,3,4,5,6] [2,3,4] (pc 1 (Lt a) p0)<|tu [(2,.p 2 0),(3,.p 3 0),(4,.p 4 0),(5,.i 0),(6,.b A)] [0,1] [(2, [.o 512 ((Qg a).1),.o 513 ((Qg a).2.1),.i ((Qg a).2.2)]),(3, [.i ((Q3 f).1),.i ((Q3 f).2.1),.b ((Q3 f).2.2.1),.i ((Q3 f).2.2.2.1),.o 640 ((Q3 f).2.2.2.2)]),(4, [.e 2,.e 5,.i 0])] [] (pc 1 (Ol f) p0)<|sn [2,3,4,5,6] [2,3,4] p0<|Qa<|Qa<|mz [] [] [(3, [.i ((Qg a).2.2),.i ((Q3 f).2.1),.b ((Q3 f).2.2.1),.i ((Q3 f).2.2.2.1),.o 640 ((Q3 f).2.2.2.2)])] [3]<|jn [(29,.b ((!(Xa (Qg a)))|| (decide ((((Qg a).2.1).length:I)>=(12:I))|| (!(Yq ((Qg a).1) ((Qg a).2.2,(Q3 f).2.1,(Q3 f).2.2.1,(Q3 f).2.2.2.1,(Q3 f).2.2.2.2))))))] [] [] [] (!(Xa (Qg a))) (λc=>?_) (λc=>?_) ?_
 ·have b:(Xa (Qg a))=A:=Kj c;exact ru [(29,.b D)] [] [] [] (pc 1 (cb b (Kf (Qg a))) (pe 2 (show .b (!A)= .b D from rfl) p0))<|zA (by rw[c]<;>kernel_rfl)
 ·have b:(Xa (Qg a))=D:=Yu c;refine Ye (decide ((((Qg a).2.1).length:I)>=(12:I))) (λd=>?_) (λd=>?_)
  ·exact ru [(29,.b D)] [] [] [] (pc 1 (cb b (Kf (Qg a))) (pe 2 (show .b (!D)= .b A from rfl) (pl 6 ((Qg a).2.1) (pt 7 d p0))))<|zA (by rw[c,d]<;>kernel_rfl)
  exact rn [2,3,4,5,6,29] [2,3,4] (pc 1 (cb b (Kf (Qg a))) (pe 2 (show .b (!D)= .b A from rfl) (pl 6 ((Qg a).2.1) (pf 7 d (pc 13 (Bc ((Qg a).1) ((Qg a).2.2,(Q3 f).2.1,(Q3 f).2.2.1,(Q3 f).2.2.2.1,(Q3 f).2.2.2.2)) p0)))))<|zA (by rw[c,d]<;>kernel_rfl)
 refine ck ((!(Xa (Qg a)))|| (decide ((((Qg a).2.1).length:I)>=(12:I))|| (!(Yq ((Qg a).1) ((Qg a).2.2,(Q3 f).2.1,(Q3 f).2.2.1,(Q3 f).2.2.2.1,(Q3 f).2.2.2.2))))) (λg=>?_) (λg=>?_)
 ·exact sn [2,3,4,5,6] [2,3,4] p0<|Qc<|pz [] (show Y2 a f=_ from Qu g rfl) (λz=> .tup [(D, [.o 0 z.1.1,.o 1 z.1.2.1,.i z.1.2.2]),(A, [.i z.2.1]),(A, [.b z.2.2])])
 have h:((decide ((((Qg a).2.1).length:I)>=(12:I))|| (!(Yq ((Qg a).1) ((Qg a).2.2,(Q3 f).2.1,(Q3 f).2.2.1,(Q3 f).2.2.2.1,(Q3 f).2.2.2.2)))))=A:=Rz g;have e:(decide ((((Qg a).2.1).length:I)>=(12:I)))=A:=Sl h;have i:=uL e;refine Qd<|wB 2 1 (.own D 513) ((Qg a).2.1) (λj k=>?_)
 refine su [] [29] [(2, [.o 512 ((Qg a).1),.slc (.own D 2240) 5 (eA ((Qg a).2.1) ((Qg a).2.2,(Q3 f).2.1,(Q3 f).2.2.1,(Q3 f).2.2.2.1,(Q3 f).2.2.2.2)),.i ((Qg a).2.2)]),(3, [.i ((Qg a).2.2),.i ((Q3 f).2.1),.b ((Q3 f).2.2.1),.i ((Q3 f).2.2.2.1),.dead])] [2,3] (pa ((Qg a).2.1) [((Qg a).2.2,(Q3 f).2.1,(Q3 f).2.2.1,(Q3 f).2.2.2.1,(Q3 f).2.2.2.2)] p0) ?_;refine eqn [] [] [(2, [.o 512 ((Qg a).1),.o 2240 ((Qg a).2.1++ [((Qg a).2.2,(Q3 f).2.1,(Q3 f).2.2.1,(Q3 f).2.2.2.1,(Q3 f).2.2.2.2)]),.i ((Qg a).2.2)])] [2] (by rw[Wu]<;>kernel_rfl) ?_;exact sn [2,3,4,5,6] [2,3,4] p0<|tN [4,5,6] [4] p0<|Qc<|pz [] (show Y2 a f=_ from Qh g rfl) (λz=> .tup [(D, [.o 0 z.1.1,.o 1 z.1.2.1,.i z.1.2.2]),(A, [.i z.2.1]),(A, [.b z.2.2])])
def Z6(a:X2)(b:I):X2×uD:=(bif ((!(Xa (Qg a)))|| decide ((Xg (Qg a) b)<(0:I))) then((Qg a),A) else(((Qg a).1,zO (Xg (Qg a) b).toNat ((Qg a).2.1)++(yB ((Xg (Qg a) b)+1).toNat ((Qg a).2.1)),(Qg a).2.2),D))
theorem CF(a:X2)(b:I):ACalls vC 196 [.a [.h a.1,.h a.2.1,.i a.2.2],.i b] (.tup [(D, [.h ((((Z6 a b)).1).1),.h ((((Z6 a b)).1).2.1),.i ((((Z6 a b)).1).2.2)]),(A, [.b (((Z6 a b)).2)])]):=by
 refine en func196 λ_ _ _=>sn [1,2,4,5] [2,4] p0 ?_
 refine tn [1,2,4,5] [2,4] (pc 1 (Lt a) p0)<|tu [(2,.p 2 0),(4,.p 4 0),(5,.b A),(6,.i (Xg (Qg a) b))] [0,1] [(2, [.o 512 ((Qg a).1),.o 513 ((Qg a).2.1),.i ((Qg a).2.2)]),(4, [.e 2,.e 5,.i 0])] [] (pc 2 (R7 (Qg a) b) p0)<|Qa<|Qa<|jn [(18,.b ((!(Xa (Qg a)))|| decide ((Xg (Qg a) b)<(0:I))))] [] [] [] (!(Xa (Qg a))) (λd=>?_) (λd=>?_) ?_
 ·have c:(Xa (Qg a))=A:=Kj d;exact rn [2,4,5,6,18] [2,4] (pc 1 (cb c (Kf (Qg a))) (pe 2 (show .b (!A)= .b D from rfl) p0))<|zA (by rw[d]<;>kernel_rfl)
 ·have c:(Xa (Qg a))=D:=Yu d;exact rn [2,4,5,6,18] [2,4] (pc 1 (cb c (Kf (Qg a))) (pe 2 (show .b (!D)= .b A from rfl) p0))<|zA (by rw[d]<;>kernel_rfl)
 refine ck ((!(Xa (Qg a)))|| decide ((Xg (Qg a) b)<(0:I))) (λf=>?_) (λf=>?_)
 ·exact sn [2,4,5,6] [2,4] p0<|Qc<|pz [512,513] (show Z6 a b=_ from Qu f rfl) (λz=> .tup [(D, [.h z.1.1,.h z.1.2.1,.i z.1.2.2]),(A, [.b z.2])])
 have g:(decide ((Xg (Qg a) b)<(0:I)))=A:=Rz f;have h:=AA (Qg a) b;have i:=uL g;refine Qd<|wB 2 1 (.own D 513) ((Qg a).2.1) (λe j=>?_)
 have k:zD (zO (Xg (Qg a) b).toNat ((Qg a).2.1))<=1073741824:=N9 (Qaf (Xg (Qg a) b).toNat (e));have l:zD (yB ((Xg (Qg a) b)+1).toNat ((Qg a).2.1))<=1073741824:=N9 (Qag ((Xg (Qg a) b)+1).toNat (e));refine I3 (Dd [513] rfl) ?_;refine sU [] [6,18] [(2, [.o 512 ((Qg a).1),.slc (.own A 1984) 5 (([]++(eL (zO (Xg (Qg a) b).toNat ((Qg a).2.1))))++(eL (yB ((Xg (Qg a) b)+1).toNat ((Qg a).2.1)))),.i ((Qg a).2.2)])] [2] (pe 4 (Qdr .sh 5 (Xg (Qg a) b).toNat (Xg (Qg a) b) ((Qg a).2.1) rfl) (px (Nc (lo:=0) (hi:=(Xg (Qg a) b)) (n:=(zD (eL ((Qg a).2.1)))) (Qk7 (by omega) (by omega) (by omega))) (px (L7 (n:=(([]:H (H PV)).length+((eL (zO (Xg (Qg a) b).toNat ((Qg a).2.1))):H (H PV)).length)) (N1 rfl (Zv (zO (Xg (Qg a) b).toNat ((Qg a).2.1))) (by first|omega|(simp only[List.length_cons,List.length_nil];omega) | (simp;omega) | simp))) (pe 9 (Nn (IntWalk.i64_in ((Xg (Qg a) b)+1) (by omega))) (pe 10 (JS .sh 5 ((Xg (Qg a) b)+1).toNat ((Xg (Qg a) b)+1) ((Qg a).2.1) rfl) (px (Nc (lo:=((Xg (Qg a) b)+1)) (hi:=(((eL ((Qg a).2.1)):H (H PV)).length:I)) (n:=(zD (eL ((Qg a).2.1)))) (JT (by omega) (by omega))) (px (L7 (n:=((([]++(eL (zO (Xg (Qg a) b).toNat ((Qg a).2.1)))):H (H PV)).length+((eL (yB ((Xg (Qg a) b)+1).toNat ((Qg a).2.1))):H (H PV)).length)) (by simp[Zv];omega)) p0))))))) ?_;refine eqn [] [] [(2, [.o 512 ((Qg a).1),.q 1984 (zO (Xg (Qg a) b).toNat ((Qg a).2.1)++(yB ((Xg (Qg a) b)+1).toNat ((Qg a).2.1))),.i ((Qg a).2.2)])] [2] (by rw[show(([]++(eL (zO (Xg (Qg a) b).toNat ((Qg a).2.1))))++(eL (yB ((Xg (Qg a) b)+1).toNat ((Qg a).2.1))))=(eL (zO (Xg (Qg a) b).toNat ((Qg a).2.1)++(yB ((Xg (Qg a) b)+1).toNat ((Qg a).2.1)))) from NG rfl (rfl)]<;>kernel_rfl) ?_;exact sn [4,5] [4] p0<|Qc<|pz [512,1984] (show Z6 a b=_ from Qh f rfl) (λz=> .tup [(D, [.h z.1.1,.h z.1.2.1,.i z.1.2.2]),(A, [.b z.2])])
def Xz(a:X2)(b:I):Xt×uD:=(bif decide ((Xg a b)<(0:I)) then((0,0,A,0, []),A) else((Q3 (nth a.2.1 (Xg a b).toNat)),D))
theorem Sa(a:X2)(b:I):ACalls vC 130 [.a [.h a.1,.h a.2.1,.i a.2.2],.i b] (.tup [(D, [.i ((((Xz a b)).1).1),.i ((((Xz a b)).1).2.1),.b ((((Xz a b)).1).2.2.1),.i ((((Xz a b)).1).2.2.2.1),.o 0 ((((Xz a b)).1).2.2.2.2)]),(A, [.b (((Xz a b)).2)])]):=by
 refine en func130 λ_ _ _=>sn [1,2,4,5] [2,4] p0 ?_
 refine tn [2,4,5,6] [2,4] (pc 2 (R7 a b) p0)<|Qa<|tu [(2,.p 2 0),(4,.p 4 0),(5,.b A),(6,.i (Xg a b)),(11,.b (decide ((Xg a b)<(0:I))))] [0,1] [(2, [.h a.1,.h a.2.1,.i a.2.2]),(4, [.i 0,.i 0,.b A,.i 0,.e 4])] [] p0<|ck (decide ((Xg a b)<(0:I))) (λc=>?_) (λc=>?_)
 ·refine su [] [11] [] [] p0<|opn [(D,4,4,D,104,4)] ?_
  exact Qc<|pz [] (show Xz a b=_ from Qu c rfl) (λz=> .tup [(D, [.i z.1.1,.i z.1.2.1,.b z.1.2.2.1,.i z.1.2.2.2.1,.o 0 z.1.2.2.2.2]),(A, [.b z.2])])
 have e:=AA a b;have f:=uL c;refine Qd<|wB 2 1 .sh a.2.1 (λg h=>?_)
 have d:=ng a.2.1 (Xg a b).toNat;exact sn [4,5] [4] (pg 3 (Xg a b) d (pc 5 (Ol (nth a.2.1 (Xg a b).toNat)) p0))<|Qc<|pz [] (show Xz a b=_ from Qh c rfl) (λz=> .tup [(D, [.i z.1.1,.i z.1.2.1,.b z.1.2.2.1,.i z.1.2.2.2.1,.o 0 z.1.2.2.2.2]),(A, [.b z.2])])
structure VS (s:X2):Prop where
 sch:V2 s.1=D
 len:s.2.1.length<=12
 nx1:1<=s.2.2
 nx2:s.2.2<=61
 file:∀(i:uA) (a:Xt),s.2.1[i]? =uB a->Yq s.1 a=D/\a.1<s.2.2
 asc:∀(i:uA) (a b:Xt),s.2.1[i]? =uB a->s.2.1[i+1]? =uB b->a.1<b.1
theorem ZB{s:X2}(h:VS s):Xa s=D:=by
 unfold Xa;rw[JU (l:=s.2.1) (k:=0) (λi a b=>?_)]
 . have d:=h.len;have e:=h.nx1;have f:=h.nx2;simp only[Out.on,Xd,h.sch,Bool.true_and];rw[uP (show(s.2.1.length:I)<=12 by omega),uP (show s.2.2>=1 from e),uP (show s.2.2<=61 from f)];rfl
 obtain⟨d,e⟩:=h.file i a b;unfold Kk;rw[d,uO (show¬a.1>=s.2.2 by omega)]
 have g:(decide (((0+i:uA):I)>0)&&decide ((nth s.2.1 (zS (((0+i:uA):I)-1))).1>=a.1))=A:=by
  by_cases j:0<i
  . have c:i-1<s.2.1.length:=by have:=(zP.1 b).1;omega
    have f:=h.asc (i-1) _ a (Hn c) (by rw[show i-1+1=i by omega];exact b);rw[show zS (((0+i:uA):I)-1)=i-1 by omega,uO (show¬(nth s.2.1 (i-1)).1>=a.1 by omega),Bool.and_false]
  obtain rfl:i=0:=by omega
  rfl
 rw[g];rfl
theorem Quv{s:X2}(h:Xa s=D):VS s:=by
 unfold Xa at h;cases e:X5 (Kk s) Hq s.2.1 0 () with
 | brk t =>
   rw[e] at h;simp only[Out.on,zK,Xd,uV] at h;obtain⟨j,q,m,n⟩:=h
   have key:∀(i:uA) (a:Xt),s.2.1[i]? =uB a->Yq s.1 a=D/\a.1<s.2.2/\(decide (((i:uA):I)>0)&&decide ((nth s.2.1 (zS (((i:uA):I)-1))).1>=a.1))=A:=λi a f=>by
    have d:=Ra (λk a t=>by unfold Kk;generalize(_|| _:uD)=c;cases c<;>simp) e i a f;unfold Kk at d;rw[yA] at d;cases g:Yq s.1 a with
    | false=>rw[g] at d;simp at d
    | true=>
      rw[g] at d;cases hd:decide (a.1>=s.2.2) with
      | true=>rw[hd] at d;simp at d
      | false=>
        rw[hd] at d;refine⟨rfl,by have:=uL hd;omega, ?_⟩;generalize(decide (((i:uA):I)>0)&&decide ((nth s.2.1 (zS (((i:uA):I)-1))).1>=a.1))=c at d;cases c with
        | true=>simp at d
        | false=>rfl
   refine⟨j,by omega,m,n,λi a f=>⟨(key i a f).1,(key i a f).2.1⟩,λi a b ha hb=>?_⟩;have d:=(key (i+1) b hb).2.2;rw[uP (show((i+1:uA):I)>0 by omega),Bool.true_and,show zS (((i+1:uA):I)-1)=i by omega,T7 ha] at d;have:=uL d;omega
 | ret r=>
   rw[e] at h;obtain rfl:r=D:=h;exfalso
   have key:∀(l:H Xt) k,X5 (Kk s) Hq l k ()≠ .ret D:=by
    intro l
    induction l with
    | nil=>intro k h;simp[X5] at h
    | cons a l o=>
      intro k h;simp only[X5] at h;unfold Kk at h;split at h
      . exact o _ h
      . cases h
      rename_i r p;cases h;revert p;generalize(_|| _:uD)=c;cases c<;>simp
   exact key _ _ e
theorem Qil(l:H Xt):∀(k:uA) (s:H Xt),X5 Ds Gf l k s= .brk (s++l):=λk s=>by
 rw[Ww (f:=Ds) (e:=Gf) (g:=id) (λ_ _ _=>rfl),List.map_id];rfl
theorem Qqx(s:X2):Qg s=s:=by
 unfold Qg;rw[Qil];rfl
theorem Quw{s:X2}{f:Xt}(h:VS s)(l:s.2.1.length<12)(m:s.2.2<=60)(g:Yq s.1 (s.2.2,f.2)=D):VS (s.1,s.2.1++ [(s.2.2,f.2)],s.2.2+1):=by
 have c:∀(i:uA) (a:Xt),(s.2.1++ [((s.2.2,f.2):Xt)])[i]? =uB a->s.2.1[i]? =uB a\/(i=s.2.1.length/\a=(s.2.2,f.2)):=λi a d=>by
  rw[xL] at d;split at d
  . exact .inl d
  right
  rename_i j
  have:i-s.2.1.length=0:=by
   have:=(zP.1 d).1;simp at this;omega
  rw[this] at d;exact⟨by omega,(Option.some.inj d).symm⟩
 refine⟨h.sch,by simp;omega,by have:=h.nx1;show 1<=s.2.2+1;omega,by show s.2.2+1<=61;omega,λi a d=>?_,λi a b ha hb=>?_⟩
 . show Yq s.1 a=D/\a.1<s.2.2+1;rcases c i a d with d | ⟨_,rfl⟩
   . obtain⟨e,k⟩:=h.file i a d;exact⟨e,by omega⟩
   exact⟨g,by show s.2.2<s.2.2+1;omega⟩
 rcases c i a ha with ha | ⟨e,rfl⟩
 . rcases c (i+1) b hb with hb | ⟨_,rfl⟩
   . exact h.asc i a b ha hb
   exact(h.file i a ha).2
 rcases c (i+1) b hb with hb | ⟨k,_⟩
 . have:=(zP.1 hb).1;omega
 omega
theorem Qux{s:X2}{f:Xt}(h:VS s)(c:s.2.1.length<12)(d:s.2.2<=60)(b:Yq s.1 (s.2.2,f.2)=D):Y2 s f=((s.1,s.2.1++ [(s.2.2,f.2)],s.2.2+1),s.2.2,D):=by
 unfold Y2;rw[Qqx,ZB h,uO (show¬(s.2.1.length:I)>=12 by omega)];have a:Yq s.1 (s.2.2,(Q3 f).2.1,(Q3 f).2.2.1,(Q3 f).2.2.2.1,(Q3 f).2.2.2.2)=D:=b;have e:=h.nx1;rw[a,IntWalk.i64_in _ (show _/\_ by omega)];rfl
theorem Qyg{s:H Zt}{f:Xt}(h:Yq s f=D):1<=f.1/\f.1<=60:=by
 unfold Yq at h;cases b:X5 (Wz s f) H9 f.2.2.2.2 0 () with
 | brk t=>
   rw[b] at h;simp only[Out.on,zK,Xd,uV] at h;exact h.2.1
 | ret r=>
   rw[b] at h;obtain rfl:r=D:=h;exfalso
   have key:∀(l:H Hk) k,X5 (Wz s f) H9 l k ()≠ .ret D:=by
    intro l
    induction l with
    | nil=>intro k h;simp[X5] at h
    | cons a l d=>
      intro k h;simp only[X5] at h;unfold Wz at h;split at h
      . exact d _ h
      . cases h
      rename_i r e;cases h;revert e;generalize(_|| _:uD)=c;cases c<;>simp
   exact key _ _ b
theorem Qmp{s:X2}(f:Xt)(h:VS s):VS (Y2 s f).1/\(Y2 s f).1.1=s.1/\(Y2 s f).1.2.1.length<=s.2.1.length+1/\s.2.1.length<=(Y2 s f).1.2.1.length/\(Y2 s f).1.2.2<=s.2.2+1:=by
 by_cases a:s.2.1.length<12/\Yq s.1 (s.2.2,f.2)=D
 . have c:s.2.2<=60:=(Qyg a.2).2;rw[Qux h a.1 c a.2];exact⟨Quw h a.1 c a.2,rfl,by simp,by simp,xR _⟩
 have e:(Y2 s f).1=s:=by
  unfold Y2;rw[Qqx,ZB h];by_cases d:s.2.1.length<12
  . have b:Yq s.1 (s.2.2,f.2)≠D:=λb=>a ⟨d,b⟩
    have g:Yq s.1 (s.2.2,(Q3 f).2.1,(Q3 f).2.2.1,(Q3 f).2.2.2.1,(Q3 f).2.2.2.2)=A:=Bool.eq_false_iff.2 b;rw[g];simp
  rw[uP (show(s.2.1.length:I)>=12 by omega)];simp
 rw[e];exact⟨h,rfl,by omega,by omega,by omega⟩
theorem Qmq{s:X2}(d:I)(h:VS s):VS (Z6 s d).1/\(Z6 s d).1.1=s.1/\(Z6 s d).1.2.1.length<=s.2.1.length/\(Z6 s d).1.2.2=s.2.2:=by
 unfold Z6;rw[Qqx,ZB h];by_cases g:Xg s d<0
 . rw[uP g];exact⟨h,rfl,yK _,rfl⟩
 rw[uO g];simp only[yE,Bool.or_false,uH];have hb:=AA s d;generalize Xg s d=p at g hb;obtain⟨k,rfl⟩:∃k:uA,p=(k:I):=⟨p.toNat,by omega⟩;have o:zS ((k:I)+1)=k+1:=by omega
 rw[o,yH];have q:k<s.2.1.length:=by omega
 have c:∀(i:uA) (a:Xt),(zO k s.2.1++yB (k+1) s.2.1)[i]? =uB a->s.2.1[if i<k then i else i+1]? =uB a:=λi a e=>by
  rw[xL,zN,Nat.min_eq_left (by omega)] at e;split at e
  . rename_i f;rw[uK f]
    rwa [List.getElem?_take_of_lt f] at e
  rename_i j;rw[uQ j];rw[yT] at e
  rwa [show k+1+(i-k)=i+1 by omega] at e
 refine⟨⟨h.sch, ?_,h.nx1,h.nx2,λi a e=>h.file _ a (c i a e),λi a b ha hb=>?_⟩,trivial, ?_,trivial⟩
 . have:=h.len;show(zO k s.2.1++yB (k+1) s.2.1).length<=12;simp;omega
 . have ha:=c i a ha;have hb:=c (i+1) b hb;by_cases l:i+1<k
   . rw[uK (by omega)] at ha;rw[uK l] at hb;exact h.asc i a b ha hb
   rw[uQ l] at hb;by_cases m:i<k
   . rw[uK m] at ha;have n:k<s.2.1.length:=q;have r:=h.asc i a _ ha (by rw[show i+1=k by omega];exact Hn n);have t:=h.asc k _ b (Hn n) (by rw[show k+1=i+1+1 by omega];exact hb);omega
   rw[uQ m] at ha;exact h.asc (i+1) a b ha hb
 show(zO k s.2.1++yB (k+1) s.2.1).length<=s.2.1.length;simp;omega
end
section
def Qyt{R a O:Type}:Rd R (O×I×uD) (O×I)->Rd a (O×uD) O->Prop
 | .next s,.next t=>t=(s.1,s.2.2)
 | .brk s,.brk t=>t=s.1
 | _,_=>False
theorem RL{R d O:Type}{F:O×I×uD->Rd R (O×I×uD) (O×I)}{G:O×uD->Rd d (O×uD) O}(h:∀o p c,Qyt (F (o,p,c)) (G (o,c))):∀(n:uA) (o:O) (p:I) (c:uD) (y:O×I),whl F n (o,p,c)=uB (.brk y)->whl G n (o,c)=uB (.brk y.1)
 | 0,_,_,_,_,hy=>by cases hy
 | n + 1,o,p,c,y,hy=>by
   have hb:=h o p c;simp only[whl] at hy⊢;cases b:F (o,p,c) with
   | next s=>
     rw[b] at hy hb;cases a:G (o,c) with
     | next t=>
       rw[a] at hb;obtain rfl:t=(s.1,s.2.2):=hb;exact RL h n s.1 s.2.1 s.2.2 y hy
     | brk t=>rw[a] at hb;exact hb.elim
     | ret r=>rw[a] at hb;exact hb.elim
   | brk s=>
     rw[b] at hy hb;cases a:G (o,c) with
     | next t=>rw[a] at hb;exact hb.elim
     | brk t=>
       rw[a] at hb;obtain rfl:t=s.1:=hb;obtain rfl:s=y:=by simpa using hy
       rfl
     | ret r=>rw[a] at hb;exact hb.elim
   | ret r=>rw[b] at hb;exact hb.elim
end
end Go.Proofs.YtlipbhahenojhaaGreatDoor
