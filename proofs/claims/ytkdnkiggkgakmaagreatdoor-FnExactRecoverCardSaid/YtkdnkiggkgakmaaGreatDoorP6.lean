/- Texts of this proof, put together by a program: Wsi, Wsj, Wsk, Wsl, Wsm, Wsm2, Wsn, Wp1, Wp2, Wp3, Wp4, Wp5, Wp6, Dua, Dub, Lid, Rp, Lia, Wab, Rpa, Rpb, Rpc, Rpd, Nfa, Nfb, Cva, Cvc. -/
import Derived.Test.YtkdnkiggkgakmaaGreatDoorP5
import Derived.KernelRfl
import Derived.Lib.SlicesCompact
set_option linter.unusedVariables false
set_option linter.unusedSimpArgs false
namespace Go.Proofs.YtkdnkiggkgakmaaGreatDoor
open _root_ renaming Int → Y, List → W, ByteArray → N, Nat → K, cond_false → J, cond_true → I, Bool → H, congrArg → G, decide_eq_false → F, of_decide_eq_false → uA, Unit → uB, decide_eq_true → uC, if_pos → uF, of_decide_eq_true → uG, decide_eq_true_eq → uH, if_neg → uI, UInt8 → uJ, beq_self_eq_true → uK, or_false → uL, beq_iff_eq → uM, decide_eq_decide → uN
open _root_.Bool renaming true → Q, false → L
open _root_.Go renaming maxLen → uE
open _root_.Option renaming some → E, none → uD
open _root_.Go.IntKind renaming wrap → uO, i64 → uP
open _root_.Go.Proofs.Tryz renaming prog → uQ
open _root_.Go.Proofs.Tryz
open _root_.And renaming intro → zO
open _root_.Bool renaming and_eq_true → zT, not_true → zY, not_false → yH, eq_iff_iff → yN, or_eq_true → yS
open _root_.ByteArray renaming size → zE, size_append → zH
open _root_.Classical renaming byContradiction → yP
open _root_.Exists renaming intro → zK
open _root_.Int renaming toNat → zQ, toNat_natCast → zV, tmod → yR, le_refl → yY
open _root_.List renaming length → zD, drop → zF, length_append → zG, take → zJ, mem_cons_of_mem → zL, append_assoc → zM, mem_cons_self → zN, length_set → zP, mem_cons → zR, append_nil → zS, mem_singleton → zU, getD_eq_getElem?_getD → zW, mem_append → zX, map_cons → zZ, length_drop → yC, pairwise_cons → yD, mem_of_mem_drop → yF, map_id → yG, mem_of_getElem? → yK, getElem?_of_mem → yL, drop_succ_cons → yO, getElem?_eq_some_iff → yQ, mem_append_right → yT, length_filter_le → yU, mem_append_left → yV, drop_zero → yW, mem_map → yX
open _root_.Nat renaming zero_le → yA, le_trans → yB, le_refl → yE, zero_add → yI
open _root_.Option.some renaming inj → yM
open _root_.Prod.mk renaming injEq → yJ
open Go.RowKit
def Hk(d:Zo):N:=(((⟨#[100,105,114,32]⟩:N)++d.1)++(⟨#[32]⟩:N))++(Xh d.2)
theorem BA(x:Qw):Xi x=bif !(Qm x) then [] else((x.1.1.map Y6++ [((⟨#[110,101,120,116,32]⟩:N)++(Q7 x.1.2.2))])++x.1.2.1.map Z0)++x.2.map Hk:=by
 unfold Xi;cases Qm x with
 | false=>rfl
 | true=>
   simp only[zY,J];rw[Wu (f:=Cd) (e:=Ce) (g:=Y6) (λ_ _ _=>rfl)];simp only[Out.on];rw[Wu (f:=Cf) (e:=Cg) (g:=Z0) (λ_ _ _=>rfl)];simp only[Out.on];rw[Wu (f:=Ch) (e:=Ci) (g:=Hk) (λ_ _ _=>rfl)];rfl
theorem enc_eq(x:Qw):Y0 x=Xi x:=by
 rw[BA];unfold Y0;rw[Gi];cases Qm x with
 | false=>rfl
 | true=>
   simp only[zY,J];rw[Wu (f:=Cj) (e:=Ck) (g:=Kp) (λ_ _ _=>rfl)];simp only[Out.on];rw[Wu (f:=Cl) (e:=Cm) (g:=Kt) (λ_ _ _=>rfl)];simp only[Out.on];rw[Wu (f:=Cn) (e:=Co) (g:=λd=>(((⟨#[100,105,114,32]⟩:N)++d.1)++(⟨#[32]⟩:N))++(Yr d.2)) (λ_ _ _=>rfl)];rw[show Kp=Y6 from funext Qhy,show Kt=Z0 from funext Qlu,show(λd:Zo=>(((⟨#[100,105,114,32]⟩:N)++d.1)++(⟨#[32]⟩:N))++(Yr d.2))=Hk from funext λd=>by rw[Qpc];rfl];rfl
theorem Qib(x:Qw):(Xi x).length<=23/\∀y,y∈Xi x->y.size<=10300:=by
 rw[BA];cases a:Qm x with
 | false=>exact⟨yA _,λy hy=>by cases hy⟩
 | true =>
   have h:=G2 a;have b:=Lx a;simp only[zY,J];refine⟨by simp only[zG,List.length_map,List.length_cons,List.length_nil];omega,λy hy=>?_⟩;rcases zX.1 hy with hy | hy
   . rcases zX.1 hy with hy | hy
     . rcases zX.1 hy with hy | hy
       . obtain⟨f,_,rfl⟩:=yX.1 hy;have:=TT f;omega
       rw[zU.1 hy,zH];have c:=Kb (n:=x.1.2.2) (by omega);have e:(⟨#[110,101,120,116,32]⟩:N).size=5:=rfl;omega
     obtain⟨f,g,rfl⟩:=yX.1 hy;have:=Qpd (b.2.2.2 f g);omega
   obtain⟨d,hd,rfl⟩:=yX.1 hy;have c:=(Sl a hd).1;have i:=Qpb d.2;have e:(⟨#[100,105,114,32]⟩:N).size=4:=rfl;have j:(⟨#[32]⟩:N).size=1:=rfl;unfold Hk;simp only[zH];omega
theorem Qpe(x:Qw):(Y0 x).length<=23/\∀y,y∈Y0 x->y.size<=10300:=by rw[enc_eq];exact Qib x
theorem Qcm{R S T:Type}{f:S->Rd R S T}(b:∀s r,f s≠ .ret r):∀(n:K) (s:S) (o:Out R T),whl f n s=E o->∃t,o= .brk t
 | 0,s,o,h=>by cases h
 | n+1,s,o,h=>by
   simp only[whl] at h;cases a:f s with
   | next s'=>rw[a] at h;exact Qcm b n s' o h
   | brk t=>rw[a] at h;exact⟨t,(yM h).symm⟩
   | ret r=>exact absurd a (b s r)
theorem Qri(a:Y):1<=(Qy a).size:=by
 cases h:Xv a 1 9 with
 | false=>unfold Qy;rw[h];exact yE 1
 | true=>rcases WJ h with rfl | rfl | rfl | rfl | rfl | rfl | rfl | rfl | rfl<;>decide
def Rt(p:K->H):K->K->Y->Y
 | 0,_,s=>s
 | n+1,k,s=>Rt p n (k+1) (bif p k then((k+1:K):Y) else s)
theorem Ru{R:Type}{f:K->Y->Rd R Y Y}{e:K->Y->Y}{p:K->H}(a:∀k s,f k s=bif p k then .next ((k+1:K):Y) else .next s)(b:∀k s,e k s=s):∀(n k:K) (s:Y),K0 f e n k s= .brk (Rt p n k s)
 | 0,k,s=>by simp only[K0,b];rfl
 | n+1,k,s=>by
   simp only[K0,a];cases c:p k with
   | true=>simp only[I];rw[Ru a b n];simp only[Rt,c,I]
   | false=>simp only[J];rw[Ru a b n];simp only[Rt,c,J]
def Tk(w:N):Y:=Rt (λk=>(Qy ((k+1:K):Y)).toList==w.toList) 9 0 0
theorem TX(p:K->H):∀(n k:K) (s:Y),0<=s->s<=k->0<=Rt p n k s/\Rt p n k s<=k+n
 | 0,k,s,h0,h1=>⟨h0,by unfold Rt;omega⟩
 | n+1,k,s,h0,h1=>by
   unfold Rt;cases a:p k with
   | true=>have:=TX p n (k+1) ((k+1:K):Y) (by omega) (by omega);simp only[I];omega
   | false=>have:=TX p n (k+1) s h0 (by omega);simp only[J];omega
theorem Qpf(w:N):0<=Tk w/\Tk w<=9:=by
 have:=TX (λk=>(Qy ((k+1:K):Y)).toList==w.toList) 9 0 0 (by omega) (by omega);unfold Tk;omega
theorem IF:Tk ⟨#[]⟩=0:=by kernel_rfl
theorem Qs1{s:N}(h:s.size=0):s=⟨#[]⟩:=by
 apply ByteArray.ext;exact Array.eq_empty_of_size_eq_zero h
theorem Qic{w:N}(h:Tk w≠0):1<=w.size:=by
 refine yP λa=>h ?_
 rw[Qs1 (s:=w) (by omega)];exact IF
open GoE (enc wide)
def Av(_:K)(a:N)(b:N):Rd (N) (N) (N):=(.next (b++(a++(⟨#[10]⟩:N))))
def C7(_:K)(a:N):N:=a
def W1(a:Y)(x:Qw):N:=(bif ((!(Qm x))|| (!(Xv a 1 1000000000))) then⟨#[]⟩ else(Out.on (X8 Av C7 (Xi x) 0 ((Q7 a)++(⟨#[10]⟩:N))) (λb=>((b++(Q7 (W8 b)))++(⟨#[46]⟩:N)))))
theorem VG(a:Y)(x:Qw):ACalls uQ 164 [.i a,.a [.h x.1.1,.h x.1.2.1,.i x.1.2.2,.h x.2]] (.s (W1 a x)):=by
 refine en func164 λ_ _ _=>?_
 have m:=Qib x;refine sn [0,3,4] [3] p0<|Qa<|Qa<|mz [(3,.p 3 0),(4,.s ⟨#[]⟩)] [1] [(3, [.h x.1.1,.h x.1.2.1,.i x.1.2.2,.h x.2])] []<|jn [(15,.b ((!(Qm x))|| (!(Xv a 1 1000000000))))] [] [] [] (!(Qm x)) (λo=>?_) (λo=>?_) ?_
 ·have c:(Qm x)=L:=V1 o;refine rn [0,3,4,15] [3] (pc 1 (cb c (W7 x)) (pe 2 (show .b (!L)= .b Q from rfl) p0)) ?_;exact zA (by rw[o]<;>kernel_rfl)
 ·have c:(Qm x)=Q:=Z5 o;have z:=(Lx c).2.2.1;have a1:=G2 c;refine rn [0,3,4,15] [3] (pc 1 (cb c (W7 x)) (pe 2 (show .b (!Q)= .b L from rfl) (pc 5 (Jz a 1 1000000000) p0))) ?_;exact zA (by rw[o]<;>kernel_rfl)
 refine ck ((!(Qm x))|| (!(Xv a 1 1000000000))) (λp=>?_) (λp=>?_)
 ·exact su [] [15] [] [] p0<|Qc<|ps [] (Xg p rfl)
 have s:((!(Qm x)))=L:=CG p;have e:(Qm x)=Q:=Z5 s;have t:=(Lx e).2.2.1;have u:=G2 e;have v:((!(Xv a 1 1000000000)))=L:=FW p;have f:(Xv a 1 1000000000)=Q:=Z5 v;have h:=Kr.1 f;have h:=Kr.1 f;refine Qd ?_;have a2:=Kb (n:=a) (by omega);refine sn [3,4,5] [3] (pc 1 (Hj a (by omega)) (px (Zw (n:=(zE (Q7 a)+zE (⟨#[10]⟩:N))) (by have j:zE (⟨#[10]⟩:N)=1:=rfl;unfold uE;first|omega|(simp only[zH];omega))) p0))<|Qa<|tn [4,5,20,21,22] [] (pc 1 (Il x) (pl 2 (Xi x) p0))<|mz [(5,.s ((Q7 a)++(⟨#[10]⟩:N))),(20,.o 1280 (Xi x)),(21,.i ((Xi x).length:Y)),(22,.i 0)] [0,3,15] [] [3]<|wT 20 0 (.own Q 1280) (Xi x) (λa3 a4=>?_)
 refine Qbn Av C7 (Xi x) ((Q7 a)++(⟨#[10]⟩:N)) (λd g=> [(5,.s g),(22,.i (d:Y))]) [5,22] (λb=> [(5,.s b)]) [5,20,21,22] (λd g=>zE g<=40+10400*d) (λb=>zE b<=400000) wf0 (by have w:zE (⟨#[10]⟩:N)=1:=rfl;simp only[zH];omega) (λd g O U=>?_) (λd g O U=>?_) (λb q=>?_)
 ·have k:=U.2;obtain⟨r,V⟩:=Xo (l:=Xi x) (i:=d) O;have a5:=m.2 _ (yK V);have a6:=m.1;refine su [(23,.b Q)] [] [] [] (pe 0 (zB ((d:Y)<((Xi x).length:Y))) p0)<|Qa<|ckT<|Qd<|Qa<|Qp<|su [(7,.s r)] [23] [] [] (pN 0 V p0)<|rn [4,5,20,21,22] [] (px (Zw (n:=(zE r+zE (⟨#[10]⟩:N))) (by have j:zE (⟨#[10]⟩:N)=1:=rfl;unfold uE;first|omega|(simp only[zH];omega))) (px (Zw (n:=(zE g+zE (r++(⟨#[10]⟩:N)))) (by have j:zE (⟨#[10]⟩:N)=1:=rfl;unfold uE;first|omega|(simp only[zH];omega))) p0)) ?_
  refine qn [4,5,20,21,22] [] (pw 0 d p0) ?_;exact xw (g++(r++(⟨#[10]⟩:N))) ⟨Qr V rfl U.1,(by have w:zE (⟨#[10]⟩:N)=1:=rfl;simp only[zH];omega)⟩
 ·have k:=U.2;exact su [(23,.b L)] [] [] [] (pe 0 (zC ((d:Y)<((Xi x).length:Y))) p0)<|Qa<|ckF<|Xa<|xw g ⟨Xq O rfl U.1,by first|omega|(simp only[zP];omega)⟩
 have y:=q.2;have a7:=Qcg b;have a8:=Kb (n:=W8 b) (by omega);exact sn [4] [] (pc 2 (CM b) (pc 3 (Hj (W8 b) (by omega)) (px (Zw (n:=(zE b+zE (Q7 (W8 b)))) (by unfold uE;first|omega|(simp only[zH];omega))) (px (Zw (n:=(zE (b++(Q7 (W8 b)))+zE (⟨#[46]⟩:N))) (by have j:zE (⟨#[46]⟩:N)=1:=rfl;unfold uE;first|omega|(simp only[zH];omega))) p0))))<|Qc<|ps [] (Qi p (Vx q.1 rfl))
def C8(_:K)(a:N)(b:N):Rd (N) (N) (N):=(.next ((b++a)++(⟨#[10]⟩:N)))
def F5(_:K)(a:N):N:=a
def Bl(a:Y)(x:Qw):N:=(bif ((!(Xe x))|| (!(Q8 a 1 1000000000))) then⟨#[]⟩ else(Out.on (X8 C8 F5 (Y0 x) 0 ((Q7 a)++(⟨#[10]⟩:N))) (λb=>((b++(Q7 (U6 b)))++(⟨#[46]⟩:N)))))
theorem VH(a:Y)(x:Qw):ACalls uQ 148 [.i a,.a [.h x.1.1,.h x.1.2.1,.i x.1.2.2,.h x.2]] (.s (Bl a x)):=by
 refine en func148 λ_ _ _=>?_
 have k:=Qpe x;refine sn [0,3,4] [3] p0<|Qa<|Qa<|mz [(3,.p 3 0),(4,.s ⟨#[]⟩)] [1] [(3, [.h x.1.1,.h x.1.2.1,.i x.1.2.2,.h x.2])] []<|jn [(15,.b ((!(Xe x))|| (!(Q8 a 1 1000000000))))] [] [] [] (!(Xe x)) (λm=>?_) (λm=>?_) ?_
 ·have c:(Xe x)=L:=V1 m;refine rn [0,3,4,15] [3] (pc 1 (cb c (J3 x)) (pe 2 (show .b (!L)= .b Q from rfl) p0)) ?_;exact zA (by rw[m]<;>kernel_rfl)
 ·have c:(Xe x)=Q:=Z5 m;have z:=(IB c).2.2.1;have a1:=G2 ((Gi x).symm.trans c);refine rn [0,3,4,15] [3] (pc 1 (cb c (J3 x)) (pe 2 (show .b (!Q)= .b L from rfl) (pc 5 (Yw a 1 1000000000) p0))) ?_;exact zA (by rw[m]<;>kernel_rfl)
 refine ck ((!(Xe x))|| (!(Q8 a 1 1000000000))) (λo=>?_) (λo=>?_)
 ·exact su [] [15] [] [] p0<|Qc<|ps [] (Xg o rfl)
 have s:((!(Xe x)))=L:=CG o;have f:(Xe x)=Q:=Z5 s;have t:=(IB f).2.2.1;have u:=G2 ((Gi x).symm.trans f);have v:((!(Q8 a 1 1000000000)))=L:=FW o;have g:(Q8 a 1 1000000000)=Q:=Z5 v;have h:=Vb.1 g;have h:=Vb.1 g;refine Qd ?_;have a2:=Kb (n:=a) (by omega);refine sn [3,4,5] [3] (pc 1 (W4 a (by omega)) (px (Zw (n:=(zE (Q7 a)+zE (⟨#[10]⟩:N))) (by have p:zE (⟨#[10]⟩:N)=1:=rfl;unfold uE;first|omega|(simp only[zH];omega))) p0))<|tn [4,5,6] [] (pc 1 (Im x) p0)<|Qa<|tu [(5,.s ((Q7 a)++(⟨#[10]⟩:N))),(6,.o 1280 (Y0 x)),(7,.i 0)] [0,3,15] [] [3] p0<|wT 6 0 (.own Q 1280) (Y0 x) (λa3 a4=>?_)
 refine Qbn C8 F5 (Y0 x) ((Q7 a)++(⟨#[10]⟩:N)) (λd e=> [(5,.s e),(7,.i (d:Y))]) [5,7] (λb=> [(5,.s b)]) [5,6,7] (λd e=>zE e<=40+10400*d) (λb=>zE b<=400000) wf0 (by have w:zE (⟨#[10]⟩:N)=1:=rfl;simp only[zH];omega) (λd e O U=>?_) (λd e O U=>?_) (λb q=>?_)
 ·have j:=U.2;obtain⟨r,V⟩:=Xo (l:=Y0 x) (i:=d) O;have a5:=k.2 _ (yK V);have a6:=k.1;refine Qa<|sn [4,5,6,7,24] [] (pl 2 (Y0 x) (pe 3 (zB ((d:Y)<((Y0 x).length:Y))) p0))<|ckT<|Qd<|Qa<|Qp<|qn [4,5,6,7] [] (pN 3 V (px (Zw (n:=(zE e+zE r)) (by unfold uE;first|omega|(simp only[zH];omega))) (px (Zw (n:=(zE (e++r)+zE (⟨#[10]⟩:N))) (by have p:zE (⟨#[10]⟩:N)=1:=rfl;unfold uE;first|omega|(simp only[zH];omega))) p0))) ?_
  refine qu [(5,.s ((e++r)++(⟨#[10]⟩:N))),(7,.i ((d+1:K):Y))] [5,7] [] [] (pw 1 d p0) ?_;exact xw ((e++r)++(⟨#[10]⟩:N)) ⟨Qr V rfl U.1,(by have w:zE (⟨#[10]⟩:N)=1:=rfl;simp only[zH];omega)⟩
 ·have j:=U.2;exact Qa<|sn [4,5,6,7,24] [] (pl 2 (Y0 x) (pe 3 (zC ((d:Y)<((Y0 x).length:Y))) p0))<|ckF<|Xa<|xw e ⟨Xq O rfl U.1,by first|omega|(simp only[zP];omega)⟩
 have y:=q.2;have a7:=Qh0 b;have a8:=Kb (n:=U6 b) (by omega);exact sn [4] [] (pc 2 (CN b) (pc 3 (W4 (U6 b) (by omega)) (px (Zw (n:=(zE b+zE (Q7 (U6 b)))) (by unfold uE;first|omega|(simp only[zH];omega))) (px (Zw (n:=(zE (b++(Q7 (U6 b)))+zE (⟨#[46]⟩:N))) (by have p:zE (⟨#[46]⟩:N)=1:=rfl;unfold uE;first|omega|(simp only[zH];omega))) p0))))<|Qc<|ps [] (Qi o (Vx q.1 rfl))
open GoE (enc wide)
def Zl(a:Z)(bn:W Q9):N×Z×(W Q9):=(bif ((a.length:Y)==(0:Y)) then(⟨#[]⟩,a,bn) else((nth a 0),zF 1 a,bn))
theorem Oi(a:Z)(bn:W Q9):(Zl a bn).2.1.length<=a.length/\(Zl a bn).2.2.length=bn.length/\(1<=a.length->(Zl a bn).2.1.length+1=a.length)/\((Zl a bn).1.size=0\/1<=a.length):=by
 unfold Zl;cases h:((a.length:Y)==(0:Y)) with
 | true=>have:=eq_of_beq h;simp only[I];exact⟨yE _,trivial,λb=>by omega,.inl rfl⟩
 | false=>have:=ne_of_beq_false h;simp only[J,yC];exact⟨by omega,trivial,λ_=>by omega,.inr (by omega)⟩
theorem Qid{k:Y}{w:N}{n:K}(h:((Qy k).toList==w.toList)=Q)(c:w.size=0\/1<=n):1<=n:=by
 have a:=Wd h;have b:=Qri k;rw[a] at b;omega
theorem Sm(a:Z)(bn:W Q9):AGive uQ 343 [.h a,.o 41 bn] [] (.s (((Zl a bn)).1)) [.h (((Zl a bn)).2.1),.o 41 (((Zl a bn)).2.2)]:=by
 refine FX (tt:=tt) Zx func343 (fn:=Tryz.f343) rfl (by unfold Fr;kernel_rfl) (Nat.le_of_ble_eq_true rfl) (Nat.le_of_ble_eq_true rfl) rfl rfl λw0 F0 i=>?_
 refine sn [0,2] [60000] p0<|Qa<|tn [0,2,9] [60000] (pl 4 a p0)<|ck ((a.length:Y)==(0:Y)) (λd=>?_) (λd=>?_)
 ·refine tu [(2,.s ⟨#[]⟩)] [] [] [] p0<|Qc ?_
  have b:Zl a bn=(⟨#[]⟩,a,bn):=Xg d (rfl);exact Qbo [] (G (λz=>(.s z.1:AV)) b.symm) (G (λz=>([.h z.2.1,.o 41 z.2.2]:W C)) b.symm)
 have f:=Yi d;refine Qd<|wB 60000 0 .sh a (λg h=>?_)
 have e:=ng a 0;refine tu [(2,.s ⟨#[]⟩),(3,.s (nth a 0))] [] [] [] (pg 4 0 e p0)<|sn [0,2,3] [60000] (pe 5 (Tz .sh 1 1 1 a rfl) (px (Gt (lo:=1) (hi:=(((eL a):W (W PV)).length:Y)) (n:=(zD (eL a))) (T0 (by omega) (by omega))) p0))<|tn [0,2] [60000] p0<|Qc ?_
 have c:Zl a bn=((nth a 0),zF 1 a,bn):=Qi d (rfl);exact Qbo [] (G (λz=>(.s z.1:AV)) c.symm) (G (λz=>([.h z.2.1,.o 41 z.2.2]:W C)) c.symm)
def Oj(b:N×Z×(W Q9))(a:K)(c:Y):Rd (H×Z×(W Q9)) (Y) (Y):=(bif ((Qy ((a+1:K):Y)).toList==b.1.toList) then(.next ((a+1:K):Y)) else(.next c))
def Ok(_:K)(a:Y):Y:=a
def Xz(n_:K)(j:Z)(bn:W Q9):H×Z×(W Q9):=match n_ with
 | 0=>default
 | n_+1=>(lt (Zl j bn) (λc=>(Out.on (K0 (Oj c) Ok (((9:Y)+1)-1).toNat 0 0) (λa=>(lt (α:=H) (bif (a==(2:Y)) then(a==(2:Y)) else(bif (a==(8:Y)) then(a==(8:Y)) else(a==(9:Y)))) (λk=>(bif k then(lt (Zl c.2.1 c.2.2) (λh=>((a !=(0:Y)),h.2.1,h.2.2++ [((a,0,0,h.1,(0,0,⟨#[]⟩)):Q9)]))) else(bif (bif (a==(3:Y)) then(a==(3:Y)) else(a==(4:Y))) then(lt (Zl c.2.1 c.2.2) (λg=>(lt (Zl g.2.1 g.2.2) (λd=>(((Qx d.1)).2,d.2.1,d.2.2++ [((a,0,0,g.1,(((Qx d.1)).1)):Q9)]))))) else(bif (a==(5:Y)) then(lt (Xz n_ c.2.1 c.2.2) (λe=>(e.1,e.2.1,e.2.2++ [((a,((e.2.2.length:Y)-1),0,⟨#[]⟩,(0,0,⟨#[]⟩)):Q9)]))) else(lt (α:=H) (bif (a==(6:Y)) then(a==(6:Y)) else(a==(7:Y))) (λi=>(bif i then(lt (Xz n_ c.2.1 c.2.2) (λb=>(bif b.1 then(lt (Xz n_ b.2.1 b.2.2) (λf=>(f.1,f.2.1,f.2.2++ [((a,((b.2.2.length:Y)-1),((f.2.2.length:Y)-1),⟨#[]⟩,(0,0,⟨#[]⟩)):Q9)]))) else(L,b.2.1,b.2.2++ [((a,((b.2.2.length:Y)-1),((b.2.2.length:Y)-1),⟨#[]⟩,(0,0,⟨#[]⟩)):Q9)])))) else((a !=(0:Y)),c.2.1,c.2.2++ [((a,0,0,⟨#[]⟩,(0,0,⟨#[]⟩)):Q9)])))))))))))))
theorem YI:∀(n:K) (c:Z) (bn:W Q9),(Xz n c bn).2.1.length<=c.length/\(Xz n c bn).2.2.length+2*(Xz n c bn).2.1.length<=bn.length+2*c.length+1
 | 0,c,bn=>⟨yA _,yA _⟩
 | n +1,c,bn=>by
  have m:=Oi c bn;have g:=YI n;unfold Xz lt;generalize Zl c bn=a at m⊢;dsimp only;rw[Ru (f:=Oj a) (e:=Ok) (p:=λk=>(Qy ((k+1:K):Y)).toList==a.1.toList) (λ_ _=>rfl) (λ_ _=>rfl)];simp only[Out.on]
  have d:Rt (λk=>(Qy ((k+1:K):Y)).toList==a.1.toList) (((9:Y)+1)-1).toNat 0 0≠0->1<=c.length:=λh=>by
   have:=Qic (w:=a.1) h;omega
  generalize Rt (λk=>(Qy ((k+1:K):Y)).toList==a.1.toList) (((9:Y)+1)-1).toNat 0 0=y0 at d⊢;have i:=Oi a.2.1 a.2.2;cases(bif (y0==(2:Y)) then(y0==(2:Y)) else(bif (y0==(8:Y)) then(y0==(8:Y)) else(y0==(9:Y)))) with
  | true=>
   simp only[I];generalize Zl a.2.1 a.2.2=b at i⊢;simp only[zG,List.length_cons,List.length_nil];omega
  | false=>
  simp only[J];cases(bif (y0==(3:Y)) then(y0==(3:Y)) else(y0==(4:Y))) with
  | true=>
   simp only[I];generalize Zl a.2.1 a.2.2=b at i⊢;have o:=Oi b.2.1 b.2.2;generalize Zl b.2.1 b.2.2=q at o⊢;simp only[zG,List.length_cons,List.length_nil];omega
  | false=>
  simp only[J];have j:=g a.2.1 a.2.2;cases r:(y0==(5:Y)) with
  | true=>
   have:=d (by have:=eq_of_beq r;omega);simp only[I];generalize Xz n a.2.1 a.2.2=b at j⊢;simp only[zG,List.length_cons,List.length_nil];omega
  | false=>
  simp only[J];cases l:(bif (y0==(6:Y)) then(y0==(6:Y)) else(y0==(7:Y))) with
  | true=>
   have:=d (by intro e;rw[e] at l;revert l;decide);simp only[I];generalize Xz n a.2.1 a.2.2=b at j⊢;cases b.1 with
   | true=>
    have s:=g b.2.1 b.2.2;simp only[I];generalize Xz n b.2.1 b.2.2=q at s⊢;simp only[zG,List.length_cons,List.length_nil];omega
   | false=>
    simp only[J,zG,List.length_cons,List.length_nil];omega
  | false=>
   simp only[J,zG,List.length_cons,List.length_nil];omega
theorem JT:∀(i:K) (h:Z) (bn:W Q9) (hf:zD h<i) (hz:zD h<=24) (hb:zD bn+2*zD h<=100),AGive uQ 299 [.h h,.o 41 bn] [] (.b (((Xz i h bn)).1)) [.h (((Xz i h bn)).2.1),.o 41 (((Xz i h bn)).2.2)]:=by
 intro i
 induction i with
 | zero=>intro h bn hf hz hb;exact(by omega:False).elim
 | succ i ih=>
  intro h bn hf hz hb;refine FX (tt:=tt) Zx func299 (fn:=Tryz.f299) rfl (by unfold Fr;kernel_rfl) (Nat.le_of_ble_eq_true rfl) (Nat.le_of_ble_eq_true rfl) rfl rfl λw0 F0 hG=>?_
  refine sn [0,2] [60000] p0 ?_;obtain⟨f,m⟩:=nm (Zl h bn);have w:=Oi h bn;rw[m] at w;refine tn [0,2,3] [60000] (po 1 (.give uD (.s f.1) [.h f.2.1,.o 41 f.2.2]) (px (Lc (m▸Sm h bn)) p0))<|tu [(2,.b L),(3,.s f.1),(4,.p 4 0)] [] [(4, [.i 0,.i 0,.i 0,.s ⟨#[]⟩,.i 0,.i 0,.s ⟨#[]⟩]),(60000, [.h f.2.1,.o 553 f.2.2])] [60000] p0<|Qa<|su [(5,.i 1)] [] [] [] p0<|Qom (Oj f) Ok (((9:Y)+1)-1).toNat 0 (λp _=> [(5,.i ((p+1:K):Y))]) [5] (λ_ s0=> [(4, [.i s0,.i 0,.i 0,.s ⟨#[]⟩,.i 0,.i 0,.s ⟨#[]⟩])]) [4] (λ_=> []) [3,5] (λa=> [(4, [.i a,.i 0,.i 0,.s ⟨#[]⟩,.i 0,.i 0,.s ⟨#[]⟩])]) [4] (λ_ s0=>(s0=0\/1<=zD h)) (λa=>(a=0\/1<=zD h)) wf0 (by exact .inl rfl) (λp s0 O U=>?_) (λp s0 O U=>?_) (λa q=>?_)
  ·have j:=U.2;refine Qa<|su [(11,.b Q)] [] [] [] (pe 1 (zB (((p+1:K):Y)<=(9:Y))) p0)<|ckT<|Qd<|Qa<|Qp ?_
   have b4:=Qh3 ((p+1:K):Y);refine sn [0,2,3,4,5,17] [4,60000] (pc 1 (Rq ((p+1:K):Y)) p0)<|ck ((Qy ((p+1:K):Y)).toList==f.1.toList) (λh3=>?_) (λh3=>?_)
   ·refine qn [0,2,3,4,5] [4,60000] p0 ?_;refine qu [(5,.i ((p+2:K):Y))] [5,11] [(4, [.i ((p+1:K):Y),.i 0,.i 0,.s ⟨#[]⟩,.i 0,.i 0,.s ⟨#[]⟩])] [4] (pe 1 (show .i (uO uP (((p+1:K):Y)+1))= .i ((p+2:K):Y) from G6 ((IntWalk.i64_in _ (by omega)).trans (by omega))) p0) ?_;exact xw ((p+1:K):Y) ⟨Jd O (Xg h3 rfl) U.1,(by first | exact j | exact .inr (Qid (by assumption) w.2.2.2))⟩
   refine Qd<|qn [0,2,3,4,5] [4,60000] (pe 1 (show .i (uO uP (((p+1:K):Y)+1))= .i ((p+2:K):Y) from G6 ((IntWalk.i64_in _ (by omega)).trans (by omega))) p0) ?_
   exact xw s0 ⟨Jd O (Qi h3 rfl) U.1,(by first | exact j | exact .inr (Qid (by assumption) w.2.2.2))⟩
  ·have j:=U.2;exact Qa<|su [(11,.b L)] [] [] [] (pe 1 (zC (((p+1:K):Y)<=(9:Y))) p0)<|ckF<|Xa<|xw s0 ⟨Hn O rfl U.1,by exact j⟩
  have an:=q.2;refine sn [0,2,4,6] [4,60000] p0<|Qa<|tn [0,2,4,6,24] [4,60000] p0<|Qp<|Qa<|tu [(6,.b (a !=(0:Y))),(24,.i a),(25,.b (a==(2:Y)))] [] [] [] p0 ?_
  obtain⟨x4,k⟩:=nm ((bif (a==(2:Y)) then(a==(2:Y)) else(bif (a==(8:Y)) then(a==(8:Y)) else(a==(9:Y)))));refine jn [(25,.b x4)] [25] [] [] (a==(2:Y)) (λh5=>?_) (λh5=>?_) ?_
  ·have ao:=eq_of_beq h5;refine ckt h5 ?_;refine Qd ?_;obtain rfl:x4=(a==(2:Y)):=k.symm.trans (show(bif (a==(2:Y)) then(a==(2:Y)) else(bif (a==(8:Y)) then(a==(8:Y)) else(a==(9:Y))))=(a==(2:Y)) from Xg h5 rfl);exact zA (by kernel_rfl)
  ·have ao:=Yi h5;refine ckf h5 ?_;refine sn [0,2,4,6,24,25] [4,60000] p0<|ck (a==(8:Y)) (λh6=>?_) (λh6=>?_)
   ·have ap:=eq_of_beq h6;refine Qd ?_;obtain rfl:x4=(a==(8:Y)):=k.symm.trans (show(bif (a==(2:Y)) then(a==(2:Y)) else(bif (a==(8:Y)) then(a==(8:Y)) else(a==(9:Y))))=(a==(8:Y)) from Qi h5 (Xg h6 rfl));exact zA (by kernel_rfl)
   have ap:=Yi h6;refine qn [0,2,4,6,24,25] [4,60000] p0 ?_;obtain rfl:x4=(a==(9:Y)):=k.symm.trans (show(bif (a==(2:Y)) then(a==(2:Y)) else(bif (a==(8:Y)) then(a==(8:Y)) else(a==(9:Y))))=(a==(9:Y)) from Qi h5 (Qi h6 rfl));exact zA (by kernel_rfl)
  refine ck x4 (λh7=>?_) (λh7=>?_)
  ·obtain⟨l,ab⟩:=nm (Zl f.2.1 f.2.2);have aj:=Oi f.2.1 f.2.2;rw[ab] at aj;refine rn [0,2,4,6] [4,60000] (po 1 (.give uD (.s l.1) [.h l.2.1,.o 41 l.2.2]) (px (Lc (ab▸Sm f.2.1 f.2.2)) p0)) ?_;refine wB 60000 1 (.own Q 1961) l.2.2 (λb5 aq=>?_);refine tU [] [4,24,25] [(60000, [.h l.2.1,.slc (.own Q 5568) 7 ((eL l.2.2)++ [[.i a,.i 0,.i 0,.s l.1,.i 0,.i 0,.s ⟨#[]⟩]])])] [4,60000] (pa l.2.2 [((a,0,0,l.1,(0,0,⟨#[]⟩)):Q9)] p0)<|eqn [] [] [(60000, [.h l.2.1,.o 5568 (l.2.2++ [((a,0,0,l.1,(0,0,⟨#[]⟩)):Q9)])])] [60000] (by rw[show((eL l.2.2)++ [[.i a,.i 0,.i 0,.s l.1,.i 0,.i 0,.s ⟨#[]⟩]])=(eL (l.2.2++ [((a,0,0,l.1,(0,0,⟨#[]⟩)):Q9)])) from Jg rfl (rfl)]<;>kernel_rfl) ?_
   refine sn [0,2] [60000] p0<|Qc ?_
   have a5:Xz (i+1) h bn=((a !=(0:Y)),l.2.1,l.2.2++ [((a,0,0,l.1,(0,0,⟨#[]⟩)):Q9)]):=Mq m (Vx q.1 (Mq k (Xg h7 (Mq ab rfl))));exact Qbo [] (G (λz=>(.b z.1:AV)) a5.symm) (G (λz=>([.h z.2.1,.o 41 z.2.2]:W C)) a5.symm)
  refine Qa<|sn [0,2,4,6,24,32] [4,60000] p0<|mz [(32,.b (a==(3:Y)))] [25] [] []<|jn [(32,.b (bif (a==(3:Y)) then(a==(3:Y)) else(a==(4:Y))))] [32] [] [] (a==(3:Y)) (λr=>?_) (λr=>?_) ?_
  ·have ak:=eq_of_beq r;refine ckt r ?_;exact Qd<|⟨rfl,Qe (by rw[r]<;>kernel_rfl)⟩
  ·have ak:=Yi r;refine ckf r ?_;refine rn [0,2,4,6,24,32] [4,60000] p0 ?_;exact zA (by rw[r]<;>kernel_rfl)
  refine ck (bif (a==(3:Y)) then(a==(3:Y)) else(a==(4:Y))) (λv=>?_) (λv=>?_)
  ·obtain⟨g,x⟩:=nm (Zl f.2.1 f.2.2);have ad:=Oi f.2.1 f.2.2;rw[x] at ad;refine sn [0,2,4,6] [4,60000] (po 1 (.give uD (.s g.1) [.h g.2.1,.o 41 g.2.2]) (px (Lc (x▸Sm f.2.1 f.2.2)) p0)) ?_;obtain⟨c,y⟩:=nm (Zl g.2.1 g.2.2);have ae:=Oi g.2.1 g.2.2;rw[y] at ae;refine qn [0,2,4,6] [4,60000] (po 1 (.give uD (.s c.1) [.h c.2.1,.o 41 c.2.2]) (px (Lc (y▸Sm g.2.1 g.2.2)) (pc 2 (Pf c.1) p0))) ?_;refine wB 60000 1 (.own Q 2601) c.2.2 (λar au=>?_);refine tU [(6,.b (((Qx c.1)).2))] [4,6,24,32] [(60000, [.h c.2.1,.slc (.own Q 5568) 7 ((eL c.2.2)++ [[.i a,.i 0,.i 0,.s g.1,.i ((((Qx c.1)).1).1),.i ((((Qx c.1)).1).2.1),.s ((((Qx c.1)).1).2.2)]])])] [4,60000] (pa c.2.2 [((a,0,0,g.1,(((Qx c.1)).1)):Q9)] p0)<|eqn [] [] [(60000, [.h c.2.1,.o 5568 (c.2.2++ [((a,0,0,g.1,(((Qx c.1)).1)):Q9)])])] [60000] (by rw[show((eL c.2.2)++ [[.i a,.i 0,.i 0,.s g.1,.i ((((Qx c.1)).1).1),.i ((((Qx c.1)).1).2.1),.s ((((Qx c.1)).1).2.2)]])=(eL (c.2.2++ [((a,0,0,g.1,(((Qx c.1)).1)):Q9)])) from Jg rfl (rfl)]<;>kernel_rfl) ?_
   refine sn [0,2] [60000] p0<|Qc ?_
   have a6:Xz (i+1) h bn=(((Qx c.1)).2,c.2.1,c.2.2++ [((a,0,0,g.1,(((Qx c.1)).1)):Q9)]):=Mq m (Vx q.1 (Mq k (Qi h7 (Xg v (Mq x (Mq y rfl))))));exact Qbo [] (G (λz=>(.b z.1:AV)) a6.symm) (G (λz=>([.h z.2.1,.o 41 z.2.2]:W C)) a6.symm)
  refine sn [0,2,4,6,24,45] [4,60000] p0<|ck (a==(5:Y)) (λs=>?_) (λs=>?_)
  ·have al:=eq_of_beq s;obtain⟨d,V⟩:=nm (Xz i f.2.1 f.2.2);have af:=YI i f.2.1 f.2.2;rw[V] at af;refine tn [0,2,4,6] [4,60000] (po 1 (.give uD (.b d.1) [.h d.2.1,.o 41 d.2.2]) (px (Lc (V▸ih f.2.1 f.2.2 (by first|omega|(have n:a=6\/a=7:=(by simp_all);omega)) (by first|omega|(have n:a=6\/a=7:=(by simp_all);omega)) (by first|omega|(have n:a=6\/a=7:=(by simp_all);omega)))) p0))<|wB 60000 1 (.own Q 3113) d.2.2 (λav aw=>?_)
   refine qu [(6,.b d.1)] [6,24,32] [(4, [.i a,.i ((d.2.2.length:Y)-1),.i 0,.s ⟨#[]⟩,.i 0,.i 0,.s ⟨#[]⟩]),(60000, [.h d.2.1,.o 3113 d.2.2])] [4,60000] (pl 4 d.2.2 (pe 5 (G6 (IntWalk.i64_in ((d.2.2.length:Y)-1) (by omega))) p0)) ?_;refine sU [] [4] [(60000, [.h d.2.1,.slc (.own Q 5568) 7 ((eL d.2.2)++ [[.i a,.i ((d.2.2.length:Y)-1),.i 0,.s ⟨#[]⟩,.i 0,.i 0,.s ⟨#[]⟩]])])] [4,60000] (pa d.2.2 [((a,((d.2.2.length:Y)-1),0,⟨#[]⟩,(0,0,⟨#[]⟩)):Q9)] p0)<|eqn [] [] [(60000, [.h d.2.1,.o 5568 (d.2.2++ [((a,((d.2.2.length:Y)-1),0,⟨#[]⟩,(0,0,⟨#[]⟩)):Q9)])])] [60000] (by rw[show((eL d.2.2)++ [[.i a,.i ((d.2.2.length:Y)-1),.i 0,.s ⟨#[]⟩,.i 0,.i 0,.s ⟨#[]⟩]])=(eL (d.2.2++ [((a,((d.2.2.length:Y)-1),0,⟨#[]⟩,(0,0,⟨#[]⟩)):Q9)])) from Jg rfl (rfl)]<;>kernel_rfl) ?_
   refine sn [0,2] [60000] p0<|Qc ?_
   have a7:Xz (i+1) h bn=(d.1,d.2.1,d.2.2++ [((a,((d.2.2.length:Y)-1),0,⟨#[]⟩,(0,0,⟨#[]⟩)):Q9)]):=Mq m (Vx q.1 (Mq k (Qi h7 (Qi v (Xg s (Mq V rfl))))));exact Qbo [] (G (λz=>(.b z.1:AV)) a7.symm) (G (λz=>([.h z.2.1,.o 41 z.2.2]:W C)) a7.symm)
  have al:=Yi s;refine Qa<|tn [0,2,4,6,24,56] [4,60000] p0<|mz [(56,.b (a==(6:Y)))] [32] [] [] ?_
  obtain⟨a3,o⟩:=nm ((bif (a==(6:Y)) then(a==(6:Y)) else(a==(7:Y))));refine jn [(56,.b a3)] [24,56] [] [] (a==(6:Y)) (λt=>?_) (λt=>?_) ?_
  ·have am:=eq_of_beq t;refine ckt t ?_;refine Qd ?_;obtain rfl:a3=(a==(6:Y)):=o.symm.trans (show(bif (a==(6:Y)) then(a==(6:Y)) else(a==(7:Y)))=(a==(6:Y)) from Xg t rfl);exact zA (by kernel_rfl)
  ·have am:=Yi t;refine ckf t ?_;refine rn [0,2,4,6,56] [4,60000] p0 ?_;obtain rfl:a3=(a==(7:Y)):=o.symm.trans (show(bif (a==(6:Y)) then(a==(6:Y)) else(a==(7:Y)))=(a==(7:Y)) from Qi t rfl);exact zA (by kernel_rfl)
  refine ck a3 (λa4=>?_) (λa4=>?_)
  ·obtain⟨b,u⟩:=nm (Xz i f.2.1 f.2.2);have ah:=YI i f.2.1 f.2.2;rw[u] at ah;refine sn [0,2,4,6] [4,60000] (po 1 (.give uD (.b b.1) [.h b.2.1,.o 41 b.2.2]) (px (Lc (u▸ih f.2.1 f.2.2 (by first|omega|(have n:a=6\/a=7:=(by simp_all);omega)) (by first|omega|(have n:a=6\/a=7:=(by simp_all);omega)) (by first|omega|(have n:a=6\/a=7:=(by simp_all);omega)))) p0))<|wB 60000 1 (.own Q 3881) b.2.2 (λax ay=>?_)
   refine tn [0,2,4,6] [4,60000] (pl 4 b.2.2 (pe 5 (G6 (IntWalk.i64_in ((b.2.2.length:Y)-1) (by omega))) p0))<|Qa<|X4 b.1 (λa1=>?_) (λa1=>?_)
   ·obtain⟨e,a2⟩:=nm (Xz i b.2.1 b.2.2);have ai:=YI i b.2.1 b.2.2;rw[a2] at ai;refine qu [(6,.b e.1)] [6,56] [(4, [.i a,.i ((b.2.2.length:Y)-1),.i 0,.s ⟨#[]⟩,.i 0,.i 0,.s ⟨#[]⟩]),(60000, [.h e.2.1,.o 4585 e.2.2])] [4,60000] (pt 0 a1 (po 3 (.give uD (.b e.1) [.h e.2.1,.o 41 e.2.2]) (px (Lc (a2▸ih b.2.1 b.2.2 (by first|omega|(have n:a=6\/a=7:=(by simp_all);omega)) (by first|omega|(have n:a=6\/a=7:=(by simp_all);omega)) (by first|omega|(have n:a=6\/a=7:=(by simp_all);omega)))) p0))) ?_;refine wB 60000 1 (.own Q 4585) e.2.2 (λaz b1=>?_);refine rn [0,2,4,6] [4,60000] (pl 4 e.2.2 (pe 5 (G6 (IntWalk.i64_in ((e.2.2.length:Y)-1) (by omega))) p0)) ?_;refine tU [] [4] [(60000, [.h e.2.1,.slc (.own Q 5568) 7 ((eL e.2.2)++ [[.i a,.i ((b.2.2.length:Y)-1),.i ((e.2.2.length:Y)-1),.s ⟨#[]⟩,.i 0,.i 0,.s ⟨#[]⟩]])])] [4,60000] (pa e.2.2 [((a,((b.2.2.length:Y)-1),((e.2.2.length:Y)-1),⟨#[]⟩,(0,0,⟨#[]⟩)):Q9)] p0)<|eqn [] [] [(60000, [.h e.2.1,.o 5568 (e.2.2++ [((a,((b.2.2.length:Y)-1),((e.2.2.length:Y)-1),⟨#[]⟩,(0,0,⟨#[]⟩)):Q9)])])] [60000] (by rw[show((eL e.2.2)++ [[.i a,.i ((b.2.2.length:Y)-1),.i ((e.2.2.length:Y)-1),.s ⟨#[]⟩,.i 0,.i 0,.s ⟨#[]⟩]])=(eL (e.2.2++ [((a,((b.2.2.length:Y)-1),((e.2.2.length:Y)-1),⟨#[]⟩,(0,0,⟨#[]⟩)):Q9)])) from Jg rfl (rfl)]<;>kernel_rfl) ?_
    refine sn [0,2] [60000] p0<|Qc ?_
    have a8:Xz (i+1) h bn=(e.1,e.2.1,e.2.2++ [((a,((b.2.2.length:Y)-1),((e.2.2.length:Y)-1),⟨#[]⟩,(0,0,⟨#[]⟩)):Q9)]):=Mq m (Vx q.1 (Mq k (Qi h7 (Qi v (Qi s (Mq o (Xg a4 (Mq u (Xg a1 (Mq a2 rfl))))))))));exact Qbo [] (G (λz=>(.b z.1:AV)) a8.symm) (G (λz=>([.h z.2.1,.o 41 z.2.2]:W C)) a8.symm)
   refine qu [(6,.b L)] [6,56] [(4, [.i a,.i ((b.2.2.length:Y)-1),.i 0,.s ⟨#[]⟩,.i 0,.i 0,.s ⟨#[]⟩]),(60000, [.h b.2.1,.o 3881 b.2.2])] [4,60000] (pf 0 a1 p0) ?_;refine rn [0,2,4,6] [4,60000] (pl 4 b.2.2 (pe 5 (G6 (IntWalk.i64_in ((b.2.2.length:Y)-1) (by omega))) p0)) ?_;refine tU [] [4] [(60000, [.h b.2.1,.slc (.own Q 5568) 7 ((eL b.2.2)++ [[.i a,.i ((b.2.2.length:Y)-1),.i ((b.2.2.length:Y)-1),.s ⟨#[]⟩,.i 0,.i 0,.s ⟨#[]⟩]])])] [4,60000] (pa b.2.2 [((a,((b.2.2.length:Y)-1),((b.2.2.length:Y)-1),⟨#[]⟩,(0,0,⟨#[]⟩)):Q9)] p0)<|eqn [] [] [(60000, [.h b.2.1,.o 5568 (b.2.2++ [((a,((b.2.2.length:Y)-1),((b.2.2.length:Y)-1),⟨#[]⟩,(0,0,⟨#[]⟩)):Q9)])])] [60000] (by rw[show((eL b.2.2)++ [[.i a,.i ((b.2.2.length:Y)-1),.i ((b.2.2.length:Y)-1),.s ⟨#[]⟩,.i 0,.i 0,.s ⟨#[]⟩]])=(eL (b.2.2++ [((a,((b.2.2.length:Y)-1),((b.2.2.length:Y)-1),⟨#[]⟩,(0,0,⟨#[]⟩)):Q9)])) from Jg rfl (rfl)]<;>kernel_rfl) ?_
   refine su [] [6] [] [] p0<|Qc ?_
   have a9:Xz (i+1) h bn=(L,b.2.1,b.2.2++ [((a,((b.2.2.length:Y)-1),((b.2.2.length:Y)-1),⟨#[]⟩,(0,0,⟨#[]⟩)):Q9)]):=Mq m (Vx q.1 (Mq k (Qi h7 (Qi v (Qi s (Mq o (Xg a4 (Mq u (Qi a1 rfl)))))))));exact Qbo [] (G (λz=>(.b z.1:AV)) a9.symm) (G (λz=>([.h z.2.1,.o 41 z.2.2]:W C)) a9.symm)
  refine Qd<|wB 60000 1 (.own Q 553) f.2.2 (λb2 b3=>?_)
  refine sU [] [4,56] [(60000, [.h f.2.1,.slc (.own Q 5568) 7 ((eL f.2.2)++ [[.i a,.i 0,.i 0,.s ⟨#[]⟩,.i 0,.i 0,.s ⟨#[]⟩]])])] [4,60000] (pa f.2.2 [((a,0,0,⟨#[]⟩,(0,0,⟨#[]⟩)):Q9)] p0)<|eqn [] [] [(60000, [.h f.2.1,.o 5568 (f.2.2++ [((a,0,0,⟨#[]⟩,(0,0,⟨#[]⟩)):Q9)])])] [60000] (by rw[show((eL f.2.2)++ [[.i a,.i 0,.i 0,.s ⟨#[]⟩,.i 0,.i 0,.s ⟨#[]⟩]])=(eL (f.2.2++ [((a,0,0,⟨#[]⟩,(0,0,⟨#[]⟩)):Q9)])) from Jg rfl (rfl)]<;>kernel_rfl) ?_
  refine sn [0,2] [60000] p0<|Qc ?_
  have aa:Xz (i+1) h bn=((a !=(0:Y)),f.2.1,f.2.2++ [((a,0,0,⟨#[]⟩,(0,0,⟨#[]⟩)):Q9)]):=Mq m (Vx q.1 (Mq k (Qi h7 (Qi v (Qi s (Mq o (Qi a4 rfl)))))));exact Qbo [] (G (λz=>(.b z.1:AV)) aa.symm) (G (λz=>([.h z.2.1,.o 41 z.2.2]:W C)) aa.symm)
open GoE (enc wide)
def Dk(p:Z)(at_:Y)(a:K)(b:Y):Rd ((W Q9)×Y) (Y) (Y):=(bif ((Qg p at_).toList==(X6 ((a+1:K):Y)).toList) then(.next ((a+1:K):Y)) else(.next b))
def Gk(_:K)(a:Y):Y:=a
def Yp(n_:K)(p:Z)(at_:Y)(q:W Q9)(c:Y):(W Q9)×Y:=match n_ with
 | 0=>default
 | n_+1=>(Out.on (K0 (Dk p at_) Gk (((9:Y)+1)-1).toNat 0 0) (λb=>(bif ((b==(0:Y))|| (decide (c>(9:Y))|| decide ((q.length:Y)>(9:Y)))) then(q,0) else(bif ((b==(2:Y))|| ((b==(8:Y))|| (b==(9:Y)))) then(q++ [((b,0,0,(Qg p (uO uP (at_+1))),(0,0,⟨#[]⟩)):Q9)],2) else(bif ((b==(3:Y))|| (b==(4:Y))) then(q++ [((b,0,0,(Qg p (uO uP (at_+1))),(((Xw (Qg p (uO uP (at_+2))))).1)):Q9)],3) else(bif (Q8 b 5 7) then(lt (Yp n_ p (uO uP (at_+1)) q (uO uP (c+1))) (λa=>(bif (a.2==(0:Y)) then(a.1,0) else(bif (b !=(5:Y)) then(lt (Yp n_ p (uO uP (at_+uO uP (1+a.2))) a.1 (uO uP (c+1))) (λd=>(bif (d.2==(0:Y)) then(d.1,0) else(d.1++ [((b,((a.1.length:Y)-1),((d.1.length:Y)-1),⟨#[]⟩,(0,0,⟨#[]⟩)):Q9)],uO uP (uO uP (1+a.2)+d.2))))) else(a.1++ [((b,((a.1.length:Y)-1),0,⟨#[]⟩,(0,0,⟨#[]⟩)):Q9)],uO uP (1+a.2)))))) else(q++ [((b,0,0,⟨#[]⟩,(0,0,⟨#[]⟩)):Q9)],1)))))))
theorem Qie{p:Z}{at_:Y}{k:Y}(h:((Qg p at_).toList==(X6 k).toList)=Q):at_<(p.length:Y):=by
 have b:=Wd h;have a:=Qri k;rw[←Qcj,←b] at a;unfold Qg at a;by_cases c:at_>=(p.length:Y)
 . rw[uC c,I] at a;exact absurd a (by decide)
 omega
theorem Qif{p:Z}{at_:Y}(h:Tk (Qg p at_)≠0):at_<(p.length:Y):=by
 have a:=Qic h;unfold Qg at a;by_cases b:at_>=(p.length:Y)
 . rw[uC b,I] at a;exact absurd a (by decide)
 omega
theorem Qnb(p:Z)(at_:Y):K0 (Dk p at_) Gk (((9:Y)+1)-1).toNat 0 0= .brk (Tk (Qg p at_)):=by
 rw[Ru (f:=Dk p at_) (e:=Gk) (p:=λk=>(Qy ((k+1:K):Y)).toList==(Qg p at_).toList) (λk s=>by
  unfold Dk;rw[Qcj,show((Qg p at_).toList==(Qy ((k+1:K):Y)).toList)=((Qy ((k+1:K):Y)).toList==(Qg p at_).toList) from yN.2 (by simp only[uM];exact eq_comm)]) (λ_ _=>rfl)]
 rfl
theorem Me:∀(n:K) (p:Z) (at_:Y) (q:W Q9) (a:Y),0<=at_->at_<=30->p.length<=24->0<=a->a<=10->
 ((Yp n p at_ q a).1.length<=q.length\/(Yp n p at_ q a).1.length<=9+n)/\0<=(Yp n p at_ q a).2/\((Yp n p at_ q a).2=0\/at_+(Yp n p at_ q a).2<=(p.length:Y)+2)
 | 0,p,at_,q,a,_,_,_,_,_=>⟨.inl (yA _),yY _,.inl rfl⟩
 | n + 1,p,at_,q,a,h0,h1,hp,hd,hx=>by
  unfold Yp lt;rw[Qnb];simp only[Out.on];have g:=Qif (p:=p) (at_:=at_);generalize Tk (Qg p at_)=c at g⊢;rw[IntWalk.i64_in (at_+1) (by omega),IntWalk.i64_in (a+1) (by omega)];cases l:((c==(0:Y))|| (decide (a>(9:Y))|| decide ((q.length:Y)>(9:Y)))) with
  | true=>exact⟨.inl (yE _),yY _,.inl rfl⟩
  | false=>
   obtain⟨e,m⟩:=bo l;obtain⟨h,i⟩:=bo m;have e:=ne_of_beq_false e;have h:=uA h;have i:=uA i;have o:=g e;simp only[J];cases((c==(2:Y))|| ((c==(8:Y))|| (c==(9:Y)))) with
   | true=>simp only[I,zG,List.length_cons,List.length_nil];omega
   | false=>
   cases((c==(3:Y))|| (c==(4:Y))) with
   | true=>simp only[I,J,zG,List.length_cons,List.length_nil];omega
   | false=>
   cases Q8 c 5 7 with
   | false=>simp only[J,zG,List.length_cons,List.length_nil];omega
   | true=>
    have r:=Me n p (at_+1) q (a+1) (by omega) (by omega) hp (by omega) (by omega);simp only[I,J];generalize Yp n p (at_+1) q (a+1)=b at r⊢;cases j:(b.2==(0:Y)) with
    | true=>simp only[I];omega
    | false=>
     have j:=ne_of_beq_false j;rw[IntWalk.i64_in (1+b.2) (by omega),IntWalk.i64_in (at_+(1+b.2)) (by omega)];simp only[J];cases(c !=(5:Y)) with
     | false=>simp only[J,zG,List.length_cons,List.length_nil];omega
     | true=>
      have f:=Me n p (at_+(1+b.2)) b.1 (a+1) (by omega) (by omega) hp (by omega) (by omega);simp only[I];generalize Yp n p (at_+(1+b.2)) b.1 (a+1)=d at f⊢;cases k:(d.2==(0:Y)) with
      | true=>simp only[I];omega
      | false=>
       have k:=ne_of_beq_false k;rw[IntWalk.i64_in (1+b.2+d.2) (by omega)];simp only[J,zG,List.length_cons,List.length_nil];omega
theorem IG:∀(f:K) (p:Z) (at_:Y) (q:W Q9) (a:Y) (ha:0<=at_) (hz:zD p<=24) (ht:at_<=30) (hd:0<=a) (hx:a<=10) (hn:11<=a+((f:K):Y)) (hm:f<=12),AVal uQ 279 [.h p,.i at_,.o 40 q,.i a] (.tup [(L, [.o 0 (((Yp f p at_ q a)).1)]),(L, [.i (((Yp f p at_ q a)).2)])]):=by
 intro f
 induction f with
 | zero=>intro p at_ q a ha hz ht hd hx hn hm;exact(by omega:False).elim
 | succ f ih=>
  intro p at_ q a ha hz ht hd hx hn hm
  refine Qgu (tt:=tt) Zx func279 (fn:=Tryz.f279) rfl (by unfold Fr;kernel_rfl) (Nat.le_of_ble_eq_true rfl) rfl λw0 F0 hG=>?_
  have bc:uO uP (at_+1)=at_+1:=IntWalk.i64_in _ (by omega)
  have bd:uO uP (a+1)=a+1:=IntWalk.i64_in _ (by omega);have be:uO uP (at_+2)=at_+2:=IntWalk.i64_in _ (by omega)
  refine sn [0,1,2,3,8,9] [] p0<|tn [0,1,2,3,8,9,10] [] p0<|Qa<|tu [(8,.e 0),(9,.i 0),(10,.i 0),(11,.i 1)] [] [] [] p0<|Qol (Dk p at_) Gk (((9:Y)+1)-1).toNat 0 (λk w=> [(10,.i w),(11,.i ((k+1:K):Y))]) [10,11] (λc=> [(10,.i c)]) [10,11] (λ_ w=>(w=0\/at_<(zD p:Y))) (λc=>(c=0\/at_<(zD p:Y))) wf0 (by exact .inl rfl) (λk w O U=>?_) (λk w O U=>?_) (λc g=>?_)
  ·have h:=U.2;refine Qa<|su [(16,.b Q)] [] [] [] (pe 1 (zB (((k+1:K):Y)<=(9:Y))) p0)<|ckT<|Qd<|Qa<|Qp ?_
   have bf:=Qm9 ((k+1:K):Y);refine sn [0,1,2,3,8,9,10,11,24] [] (pc 2 (We p at_ (by omega)) (pc 4 (Rr ((k+1:K):Y)) p0))<|ck ((Qg p at_).toList==(X6 ((k+1:K):Y)).toList) (λh2=>?_) (λh2=>?_)
   ·refine qn [0,1,2,3,8,9,10,11] [] p0 ?_;refine qu [(10,.i ((k+1:K):Y)),(11,.i ((k+2:K):Y))] [10,11,16] [] [] (pe 1 (show .i (uO uP (((k+1:K):Y)+1))= .i ((k+2:K):Y) from G6 ((IntWalk.i64_in _ (by omega)).trans (by omega))) p0) ?_;exact xw ((k+1:K):Y) ⟨Jd O (Xg h2 rfl) U.1,(by first | exact h | exact .inr (Qie (by assumption)))⟩
   refine Qd<|qn [0,1,2,3,8,9,10,11] [] (pe 1 (show .i (uO uP (((k+1:K):Y)+1))= .i ((k+2:K):Y) from G6 ((IntWalk.i64_in _ (by omega)).trans (by omega))) p0) ?_
   exact xw w ⟨Jd O (Qi h2 rfl) U.1,(by first | exact h | exact .inr (Qie (by assumption)))⟩
  ·have h:=U.2;exact Qa<|su [(16,.b L)] [] [] [] (pe 1 (zC (((k+1:K):Y)<=(9:Y))) p0)<|ckF<|Xa<|xw w ⟨Hn O rfl U.1,by exact h⟩
  have aj:=g.2;refine sn [0,1,2,3,8,9,10,12] [12] p0<|tn [0,1,2,3,8,9,10,12,13] [12] p0<|Qa<|Qp<|Qa<|mz [(12,.p 12 0),(13,.i 1)] [] [(12, [.i c,.i 0,.i 0,.s ⟨#[]⟩,.i 0,.i 0,.s ⟨#[]⟩])] []<|jn [(28,.b ((c==(0:Y))|| (decide (a>(9:Y))|| decide ((q.length:Y)>(9:Y)))))] [] [] [] (c==(0:Y)) (λu=>?_) (λu=>?_) ?_
  ·have ak:=eq_of_beq u;refine ru [(28,.b Q)] [] [] [] (pt 1 u p0) ?_;exact zA (by rw[u]<;>kernel_rfl)
  ·have ak:=Yi u;refine X4 (decide (a>(9:Y))) (λx=>?_) (λx=>?_)
   ·have al:=uG x;refine ru [(28,.b Q)] [] [] [] (pf 1 u (pt 4 x p0)) ?_;exact zA (by rw[u,x]<;>kernel_rfl)
   have al:=uA x;refine rn [0,1,2,3,8,9,10,12,13,28] [12] (pf 1 u (pf 4 x (pl 8 q p0))) ?_;exact zA (by rw[u,x]<;>kernel_rfl)
  refine ck ((c==(0:Y))|| (decide (a>(9:Y))|| decide ((q.length:Y)>(9:Y)))) (λr=>?_) (λr=>?_)
  ·exact sn [2,8,9,12,13] [12] p0<|Qc<|pz [] (show Yp (f+1) p at_ q a=_ from Vx g.1 (Xg r rfl)) (λz=> .tup [(L, [.o 0 z.1]),(L, [.i z.2])])
  have am:((c==(0:Y)))=L:=CG r;have b1:=Yi am;have a4:((decide (a>(9:Y))|| decide ((q.length:Y)>(9:Y))))=L:=FW r;have a5:(decide (a>(9:Y)))=L:=CG a4;have an:=uA a5;have a6:(decide ((q.length:Y)>(9:Y)))=L:=FW a4;have ao:=uA a6;refine Qa<|jn [(41,.b ((c==(2:Y))|| ((c==(8:Y))|| (c==(9:Y)))))] [28] [] [] (c==(2:Y)) (λv=>?_) (λv=>?_) ?_
  ·have ap:=eq_of_beq v;refine ru [(41,.b Q)] [28] [] [] (pt 1 v p0) ?_;exact zA (by rw[v]<;>kernel_rfl)
  ·have ap:=Yi v;refine X4 (c==(8:Y)) (λy=>?_) (λy=>?_)
   ·have aq:=eq_of_beq y;refine ru [(41,.b Q)] [28] [] [] (pf 1 v (pt 4 y p0)) ?_;exact zA (by rw[v,y]<;>kernel_rfl)
   have aq:=Yi y;refine ru [(41,.b (c==(9:Y)))] [28] [] [] (pf 1 v (pf 4 y p0)) ?_;exact zA (by rw[v,y]<;>kernel_rfl)
  refine ck ((c==(2:Y))|| ((c==(8:Y))|| (c==(9:Y)))) (λt=>?_) (λt=>?_)
  ·refine sn [2,8,9,12,13] [12] (pc 3 (We p (uO uP (at_+1)) (by omega)) p0)<|qn [2,8,9,12,13] [12] p0 ?_
   refine wT 2 0 (.own Q 40) q (λbg b2=>?_);refine tu [(8,.one (.slc (.own Q 8064) 7 ((eL q)++ [[.i c,.i 0,.i 0,.s (Qg p (uO uP (at_+1))),.i 0,.i 0,.s ⟨#[]⟩]]))),(9,.i 2)] [0,1,2,3,8,9,10,12,13,41] [] [12] (pa q [((c,0,0,(Qg p (uO uP (at_+1))),(0,0,⟨#[]⟩)):Q9)] p0)<|eqn [(8,.o 8064 (q++ [((c,0,0,(Qg p (uO uP (at_+1))),(0,0,⟨#[]⟩)):Q9)]))] [8] [] [] (by rw[show((eL q)++ [[.i c,.i 0,.i 0,.s (Qg p (uO uP (at_+1))),.i 0,.i 0,.s ⟨#[]⟩]])=(eL (q++ [((c,0,0,(Qg p (uO uP (at_+1))),(0,0,⟨#[]⟩)):Q9)])) from Jg rfl (rfl)]<;>kernel_rfl) ?_
   exact Qc<|pz [] (show Yp (f+1) p at_ q a=_ from Vx g.1 (Qi r (Xg t rfl))) (λz=> .tup [(L, [.o 0 z.1]),(L, [.i z.2])])
  have ar:((c==(2:Y)))=L:=CG t;have b3:=Yi ar;have a7:(((c==(8:Y))|| (c==(9:Y))))=L:=FW t;have a8:((c==(8:Y)))=L:=CG a7;have au:=Yi a8;have a9:((c==(9:Y)))=L:=FW a7;have av:=Yi a9;refine Qa<|jn [(57,.b ((c==(3:Y))|| (c==(4:Y))))] [41] [] [] (c==(3:Y)) (λl=>?_) (λl=>?_) ?_
  ·have aa:=eq_of_beq l;refine ru [(57,.b Q)] [41] [] [] (pt 1 l p0) ?_;exact zA (by rw[l]<;>kernel_rfl)
  ·have aa:=Yi l;refine ru [(57,.b (c==(4:Y)))] [41] [] [] (pf 1 l p0) ?_;exact zA (by rw[l]<;>kernel_rfl)
  refine ck ((c==(3:Y))|| (c==(4:Y))) (λi=>?_) (λi=>?_)
  ·refine sn [0,1,2,8,9,12,13] [12] (pc 3 (We p (uO uP (at_+1)) (by omega)) p0)<|tn [2,8,9,12,13] [12] (pc 3 (We p (uO uP (at_+2)) (by omega)) (pc 4 (Pg (Qg p (uO uP (at_+2)))) p0))<|qu [(13,.i 3)] [0,1,3,10,13,57] [(12, [.i c,.i 0,.i 0,.s (Qg p (uO uP (at_+1))),.i ((((Xw (Qg p (uO uP (at_+2))))).1).1),.i ((((Xw (Qg p (uO uP (at_+2))))).1).2.1),.s ((((Xw (Qg p (uO uP (at_+2))))).1).2.2)])] [12] p0 ?_
   refine wT 2 0 (.own Q 40) q (λb4 b5=>?_);refine su [(8,.one (.slc (.own Q 8064) 7 ((eL q)++ [[.i c,.i 0,.i 0,.s (Qg p (uO uP (at_+1))),.i ((((Xw (Qg p (uO uP (at_+2))))).1).1),.i ((((Xw (Qg p (uO uP (at_+2))))).1).2.1),.s ((((Xw (Qg p (uO uP (at_+2))))).1).2.2)]]))),(9,.i 3)] [2,8,9,12,13] [] [12] (pa q [((c,0,0,(Qg p (uO uP (at_+1))),(((Xw (Qg p (uO uP (at_+2))))).1)):Q9)] p0)<|eqn [(8,.o 8064 (q++ [((c,0,0,(Qg p (uO uP (at_+1))),(((Xw (Qg p (uO uP (at_+2))))).1)):Q9)]))] [8] [] [] (by rw[show((eL q)++ [[.i c,.i 0,.i 0,.s (Qg p (uO uP (at_+1))),.i ((((Xw (Qg p (uO uP (at_+2))))).1).1),.i ((((Xw (Qg p (uO uP (at_+2))))).1).2.1),.s ((((Xw (Qg p (uO uP (at_+2))))).1).2.2)]])=(eL (q++ [((c,0,0,(Qg p (uO uP (at_+1))),(((Xw (Qg p (uO uP (at_+2))))).1)):Q9)])) from Jg rfl (rfl)]<;>kernel_rfl) ?_
   exact Qc<|pz [] (show Yp (f+1) p at_ q a=_ from Vx g.1 (Qi r (Qi t (Xg i rfl)))) (λz=> .tup [(L, [.o 0 z.1]),(L, [.i z.2])])
  have ab:((c==(3:Y)))=L:=CG i;have aw:=Yi ab;have ad:((c==(4:Y)))=L:=FW i;have ax:=Yi ad;refine sn [0,1,2,3,8,9,10,12,13,78] [12] (pc 1 (Yw c 5 7) p0)<|ck (Q8 c 5 7) (λj=>?_) (λj=>?_)
  ·have ae:=Vb.1 j;have ae:=Vb.1 j;refine tu [(14,.i 0)] [57] [] [] p0 ?_;obtain⟨b,e⟩:=nm ((Yp f p (uO uP (at_+1)) q (uO uP (a+1))));have V:=Me f p (uO uP (at_+1)) q (uO uP (a+1)) (by omega) (by omega) (by omega) (by omega) (by omega);rw[e] at V;have a1:uO uP (1+b.2)=1+b.2:=IntWalk.i64_in _ (by omega);have ay:uO uP (at_+uO uP (1+b.2))=at_+(1+b.2):=by rw[a1];exact IntWalk.i64_in _ (by omega)
   refine sn [0,1,2,3,8,9,10,12,13,14] [12] (po 6 (.giv [40] (.tup [(L, [.o 0 b.1]),(L, [.i b.2])])) (px (Qbg (e▸ih p (uO uP (at_+1)) q (uO uP (a+1)) (by omega) (by omega) (by omega) (by omega) (by omega) (by omega) (by omega))) p0))<|wT 2 0 (.own Q 5632) b.1 (λb6 b7=>?_)
   refine tn [0,1,2,3,8,9,10,12,13,14] [12] (pl 1 b.1 (pe 2 (G6 (IntWalk.i64_in ((b.1.length:Y)-1) (by omega))) p0))<|tu [(2,.o 5632 b.1),(13,.i (uO uP (1+b.2))),(14,.i b.2)] [2,13,14] [(12, [.i c,.i ((b.1.length:Y)-1),.i 0,.s ⟨#[]⟩,.i 0,.i 0,.s ⟨#[]⟩])] [12] p0<|Qa<|su [(98,.b (b.2==(0:Y)))] [] [] [] p0<|ck (b.2==(0:Y)) (λm=>?_) (λm=>?_)
   ·have af:=eq_of_beq m;exact su [(8,.o 5632 b.1)] [8,98] [] [] p0<|Qc<|pz [] (show Yp (f+1) p at_ q a=_ from Vx g.1 (Qi r (Qi t (Qi i (Xg j (Mq e (Xg m rfl))))))) (λz=> .tup [(L, [.o 0 z.1]),(L, [.i z.2])])
   have af:=Yi m;refine Qd<|sn [0,1,2,3,8,9,12,13,14,101] [12] p0<|ck (c !=(5:Y)) (λo=>?_) (λo=>?_)
   ·have ah:=P8 o;obtain⟨d,n⟩:=nm ((Yp f p (uO uP (at_+uO uP (1+b.2))) b.1 (uO uP (a+1))));have a2:=Me f p (uO uP (at_+uO uP (1+b.2))) b.1 (uO uP (a+1)) (by omega) (by omega) (by omega) (by omega) (by omega);rw[n] at a2;have a3:uO uP (1+d.2)=1+d.2:=IntWalk.i64_in _ (by omega);have az:uO uP (at_+uO uP (1+d.2))=at_+(1+d.2):=by rw[a3];exact IntWalk.i64_in _ (by omega)
    refine tn [2,8,9,12,13,14] [12] (po 7 (.giv [5632] (.tup [(L, [.o 0 d.1]),(L, [.i d.2])])) (px (Qbg (n▸ih p (uO uP (at_+uO uP (1+b.2))) b.1 (uO uP (a+1)) (by omega) (by omega) (by omega) (by omega) (by omega) (by omega) (by omega))) p0))<|wT 2 0 (.own Q 7040) d.1 (λb8 b9=>?_)
    refine tu [(2,.o 7040 d.1),(14,.i d.2)] [0,1,2,3,10,14,98] [(12, [.i c,.i ((b.1.length:Y)-1),.i ((d.1.length:Y)-1),.s ⟨#[]⟩,.i 0,.i 0,.s ⟨#[]⟩])] [12] (pl 1 d.1 (pe 2 (G6 (IntWalk.i64_in ((d.1.length:Y)-1) (by omega))) p0))<|sn [2,8,9,12,13,14] [12] p0<|tn [2,8,9,12,13,121] [12] p0<|ck (d.2==(0:Y)) (λs=>?_) (λs=>?_)
    ·have ai:=eq_of_beq s;exact tu [(8,.o 7040 d.1),(13,.i (uO uP (uO uP (1+b.2)+d.2)))] [8,13,14] [] [] p0<|Qc<|pz [] (show Yp (f+1) p at_ q a=_ from Vx g.1 (Qi r (Qi t (Qi i (Xg j (Mq e (Qi m (Xg o (Mq n (Xg s rfl)))))))))) (λz=> .tup [(L, [.o 0 z.1]),(L, [.i z.2])])
    have ai:=Yi s;refine Qd<|tu [(8,.one (.slc (.own Q 8064) 7 ((eL d.1)++ [[.i c,.i ((b.1.length:Y)-1),.i ((d.1.length:Y)-1),.s ⟨#[]⟩,.i 0,.i 0,.s ⟨#[]⟩]]))),(9,.i (uO uP (uO uP (1+b.2)+d.2)))] [2,8,9,12,13,14] [] [12] (pa d.1 [((c,((b.1.length:Y)-1),((d.1.length:Y)-1),⟨#[]⟩,(0,0,⟨#[]⟩)):Q9)] p0)<|eqn [(8,.o 8064 (d.1++ [((c,((b.1.length:Y)-1),((d.1.length:Y)-1),⟨#[]⟩,(0,0,⟨#[]⟩)):Q9)]))] [8] [] [] (by rw[show((eL d.1)++ [[.i c,.i ((b.1.length:Y)-1),.i ((d.1.length:Y)-1),.s ⟨#[]⟩,.i 0,.i 0,.s ⟨#[]⟩]])=(eL (d.1++ [((c,((b.1.length:Y)-1),((d.1.length:Y)-1),⟨#[]⟩,(0,0,⟨#[]⟩)):Q9)])) from Jg rfl (rfl)]<;>kernel_rfl) ?_
    exact Qc<|pz [] (show Yp (f+1) p at_ q a=_ from Vx g.1 (Qi r (Qi t (Qi i (Xg j (Mq e (Qi m (Xg o (Mq n (Qi s rfl)))))))))) (λz=> .tup [(L, [.o 0 z.1]),(L, [.i z.2])])
   have ah:=Ap o;refine Qd<|tu [(8,.one (.slc (.own Q 8064) 7 ((eL b.1)++ [[.i c,.i ((b.1.length:Y)-1),.i 0,.s ⟨#[]⟩,.i 0,.i 0,.s ⟨#[]⟩]]))),(9,.i (uO uP (1+b.2)))] [0,1,2,3,8,9,10,12,13,14,98] [] [12] (pa b.1 [((c,((b.1.length:Y)-1),0,⟨#[]⟩,(0,0,⟨#[]⟩)):Q9)] p0)<|eqn [(8,.o 8064 (b.1++ [((c,((b.1.length:Y)-1),0,⟨#[]⟩,(0,0,⟨#[]⟩)):Q9)]))] [8] [] [] (by rw[show((eL b.1)++ [[.i c,.i ((b.1.length:Y)-1),.i 0,.s ⟨#[]⟩,.i 0,.i 0,.s ⟨#[]⟩]])=(eL (b.1++ [((c,((b.1.length:Y)-1),0,⟨#[]⟩,(0,0,⟨#[]⟩)):Q9)])) from Jg rfl (rfl)]<;>kernel_rfl) ?_
   exact Qc<|pz [] (show Yp (f+1) p at_ q a=_ from Vx g.1 (Qi r (Qi t (Qi i (Xg j (Mq e (Qi m (Qi o rfl)))))))) (λz=> .tup [(L, [.o 0 z.1]),(L, [.i z.2])])
  refine Qd<|wT 2 0 (.own Q 40) q (λba bb=>?_)
  refine tu [(8,.one (.slc (.own Q 8064) 7 ((eL q)++ [[.i c,.i 0,.i 0,.s ⟨#[]⟩,.i 0,.i 0,.s ⟨#[]⟩]]))),(9,.i 1)] [0,1,2,3,8,9,10,12,13,57] [] [12] (pa q [((c,0,0,⟨#[]⟩,(0,0,⟨#[]⟩)):Q9)] p0)<|eqn [(8,.o 8064 (q++ [((c,0,0,⟨#[]⟩,(0,0,⟨#[]⟩)):Q9)]))] [8] [] [] (by rw[show((eL q)++ [[.i c,.i 0,.i 0,.s ⟨#[]⟩,.i 0,.i 0,.s ⟨#[]⟩]])=(eL (q++ [((c,0,0,⟨#[]⟩,(0,0,⟨#[]⟩)):Q9)])) from Jg rfl (rfl)]<;>kernel_rfl) ?_
  exact Qc<|pz [] (show Yp (f+1) p at_ q a=_ from Vx g.1 (Qi r (Qi t (Qi i (Qi j rfl))))) (λz=> .tup [(L, [.o 0 z.1]),(L, [.i z.2])])
def Yo(b:N):(W Q9)×H:=(bif (!(((X0 b)).2)) then([],L) else(lt (Xz (zD (((X0 b)).1)+1) (((X0 b)).1) ([]:W Q9)) (λa=>(bif ((!a.1)|| (decide ((a.2.1.length:Y)>(0:Y))|| (!(Qj a.2.2)))) then([],L) else(a.2.2,Q)))))
theorem VI(a:N):ACalls uQ 256 [.s a] (.tup [(L, [.o 0 (((Yo a)).1)]),(L, [.b (((Yo a)).2)])]):=by
 refine en func256 λ_ _ _=>sn [0,2,3] [] p0 ?_
 have k:=Qrh a;refine tn [2,3,4,5] [] (pc 1 (JL a) p0)<|Qa<|tu [(2,.e 0),(3,.b L),(4,.o 576 (((X0 a)).1)),(13,.b (!(((X0 a)).2)))] [0] [] [] p0<|ck (!(((X0 a)).2)) (λh=>?_) (λh=>?_)
 ·refine sn [2,3,4] [] p0<|opn [(L,2,0,Q,384000,7)] ?_
  exact Qc<|pz [] (show Yo a=_ from Xg h rfl) (λz=> .tup [(L, [.o 0 z.1]),(L, [.b z.2])])
 refine Qd<|sn [2,3,6] [16] p0<|Qa ?_
 obtain⟨b,c⟩:=nm (Xz (zD (((X0 a)).1)+1) (((X0 a)).1) ([]:W Q9));have g:=YI (zD (((X0 a)).1)+1) (((X0 a)).1) ([]:W Q9);rw[c] at g;refine Qa<|mz [(6,.p 16 0)] [4,13] [(16, [.o 576 (((X0 a)).1),.e 7])] []<|jn [(35,.b ((!b.1)|| (decide ((b.2.1.length:Y)>(0:Y))|| (!(Qj b.2.2)))))] [] [(16, [.h b.2.1,.o 1193 b.2.2])] [16] (!b.1) (λf=>?_) (λf=>?_) ?_
 ·have d:(b.1)=L:=V1 f;refine Ex (B4 [576] rfl) ?_;refine opn [(Q,16,1,Q,448006,7)] ?_;refine rn [2,3,6,35] [16] (po 1 (.give uD (.b L) [.h b.2.1,.o 41 b.2.2]) (px (Lc (gb d (c▸JT (zD (((X0 a)).1)+1) (((X0 a)).1) ([]:W Q9) (by omega) (by omega) (by simp;omega)))) (pe 2 (show .b (!L)= .b Q from rfl) p0))) ?_;exact zA (by rw[f]<;>kernel_rfl)
 ·have d:(b.1)=Q:=Z5 f;refine X4 (decide ((b.2.1.length:Y)>(0:Y))) (λe=>?_) (λe=>?_)
  ·have i:=uG e;refine Ex (B4 [576] rfl) ?_;refine opn [(Q,16,1,Q,448007,7)] ?_;refine rn [2,3,6,35] [16] (po 1 (.give uD (.b Q) [.h b.2.1,.o 41 b.2.2]) (px (Lc (gb d (c▸JT (zD (((X0 a)).1)+1) (((X0 a)).1) ([]:W Q9) (by omega) (by omega) (by simp;omega)))) (pe 2 (show .b (!Q)= .b L from rfl) (pl 8 b.2.1 (pt 9 e p0))))) ?_;exact zA (by rw[f,e]<;>kernel_rfl)
  have i:=uA e;refine Ex (B4 [576] rfl) ?_;refine opn [(Q,16,1,Q,448008,7)] ?_;refine rn [2,3,6,35] [16] (po 1 (.give uD (.b Q) [.h b.2.1,.o 41 b.2.2]) (px (Lc (gb d (c▸JT (zD (((X0 a)).1)+1) (((X0 a)).1) ([]:W Q9) (by omega) (by omega) (by simp;omega)))) (pe 2 (show .b (!Q)= .b L from rfl) (pl 8 b.2.1 (pf 9 e (pc 16 (V6 b.2.2) p0)))))) ?_;exact zA (by rw[f,e]<;>kernel_rfl)
 refine ck ((!b.1)|| (decide ((b.2.1.length:Y)>(0:Y))|| (!(Qj b.2.2)))) (λj=>?_) (λj=>?_)
 ·refine su [] [35] [] [] p0<|opn [(L,2,0,Q,384000,7)] ?_
  exact Qc<|pz [] (show Yo a=_ from Qi h (Mq c (Xg j rfl))) (λz=> .tup [(L, [.o 0 z.1]),(L, [.b z.2])])
 exact Qd<|sn [2,3] [] p0<|Qc<|pz [] (show Yo a=_ from Qi h (Mq c (Qi j rfl))) (λz=> .tup [(L, [.o 0 z.1]),(L, [.b z.2])])
def Zf(a:N):(W Q9)×H:=(bif (!(((Qb a)).2)) then([],L) else(lt (Yp 12 (((Qb a)).1) 0 ([]:W Q9) 0) (λb=>(bif ((b.2 !=((((Qb a)).1).length:Y))|| (((Yr b.1).toList==(⟨#[]⟩:N).toList)|| (!((Yr b.1).toList==(Wf (((Qb a)).1)).toList)))) then([],L) else(b.1,Q)))))
theorem VJ(a:N):ACalls uQ 234 [.s a] (.tup [(L, [.o 0 (((Zf a)).1)]),(L, [.b (((Zf a)).2)])]):=by
 refine en func234 λ_ _ _=>sn [0,2,3] [] p0 ?_
 have i:=Nj a;refine tn [2,3,4,5] [] (pc 1 (Ng a) p0)<|Qa<|tu [(2,.e 0),(3,.b L),(4,.o 704 (((Qb a)).1)),(15,.b (!(((Qb a)).2)))] [0] [] [] p0<|ck (!(((Qb a)).2)) (λg=>?_) (λg=>?_)
 ·exact sn [2,3,4] [] p0<|Qc<|pz [] (show Zf a=_ from Xg g rfl) (λz=> .tup [(L, [.o 0 z.1]),(L, [.b z.2])])
 refine Qd ?_;obtain⟨b,c⟩:=nm ((Yp 12 (((Qb a)).1) 0 ([]:W Q9) 0));have e:=Me 12 (((Qb a)).1) 0 ([]:W Q9) 0 (by omega) (by omega) (by omega) (by omega) (by omega);rw[c] at e;refine sn [2,3,4,6,7] [] (po 2 (.giv [1216] (.tup [(L, [.o 0 b.1]),(L, [.i b.2])])) (px (Qbg (c▸IG 12 (((Qb a)).1) 0 ([]:W Q9) 0 (by omega) (by omega) (by omega) (by omega) (by omega) (by omega) (by omega))) p0)) ?_;have j:=Qna b.1;refine tn [2,3,4,6,7,8] [] (pc 1 (Nk b.1) p0)<|Qa<|Qa<|mz [(6,.o 1280 b.1),(7,.i b.2),(8,.s (Yr b.1))] [15] [] []<|jn [(38,.b ((b.2 !=((((Qb a)).1).length:Y))|| (((Yr b.1).toList==(⟨#[]⟩:N).toList)|| (!((Yr b.1).toList==(Wf (((Qb a)).1)).toList)))))] [4,7,8] [] [] (b.2 !=((((Qb a)).1).length:Y)) (λd=>?_) (λd=>?_) ?_
 ·refine rn [2,3,6,38] [] (pl 2 (((Qb a)).1) (pt 3 d p0)) ?_;exact zA (by rw[d]<;>kernel_rfl)
 ·have k:=Ap d;refine X4 ((Yr b.1).toList==(⟨#[]⟩:N).toList) (λf=>?_) (λf=>?_)
  ·refine rn [2,3,6,38] [] (pl 2 (((Qb a)).1) (pf 3 d (pt 6 f p0))) ?_;exact zA (by rw[d,f]<;>kernel_rfl)
  refine rn [2,3,6,38] [] (pl 2 (((Qb a)).1) (pf 3 d (pf 6 f (pc 11 (YG (((Qb a)).1) (by first | exact(Nj _).1 | (simp only[yC];have:=(Nj line).1;omega)) (by first | exact(Nj _).2 | exact λy l=>(Nj line).2 y (yF l))) p0)))) ?_;exact zA (by rw[d,f]<;>kernel_rfl)
 refine ck ((b.2 !=((((Qb a)).1).length:Y))|| (((Yr b.1).toList==(⟨#[]⟩:N).toList)|| (!((Yr b.1).toList==(Wf (((Qb a)).1)).toList)))) (λh=>?_) (λh=>?_)
 ·exact sn [2,3,6] [] p0<|Qc<|pz [] (show Zf a=_ from Qi g (Mq c (Xg h rfl))) (λz=> .tup [(L, [.o 0 z.1]),(L, [.b z.2])])
 exact Qd<|sn [2,3] [] p0<|Qc<|pz [] (show Zf a=_ from Qi g (Mq c (Qi h rfl))) (λz=> .tup [(L, [.o 0 z.1]),(L, [.b z.2])])
open GoE (enc wide)
def Vw(w:Z)(a:H×Y×(W Wv)):Rd (Yn×H) (H×Y×(W Wv)) (H×(W Wv)):=(bif decide (a.2.1<(w.length:Y)) then(.next ((a.1&&((Qx (nth w (uO uP (a.2.1+1)).toNat))).2),uO uP (a.2.1+2),a.2.2++ [((nth w a.2.1.toNat),(((Qx (nth w (uO uP (a.2.1+1)).toNat))).1))])) else(.brk (a.1,a.2.2)))
def Z4(w:Z):Yn×H:=(bif (decide ((w.length:Y)<(4:Y))|| (yR (w.length:Y) 2 !=(0:Y))) then((0,0,L,0, []),L) else(Out.on (Ps (Vw w) (zD w+1) (((Qf (nth w 0)).2&&((Qf (nth w 1)).2&&(Qf (nth w 3)).2)),4, [])) (λa=>(((Qf (nth w 0)).1,(Qf (nth w 1)).1,((nth w 2).toList==(⟨#[115]⟩:N).toList),(Qf (nth w 3)).1,a.2),a.1))))
theorem Qlv{w:Z}(c:zD w<=1073741800)(b:H):(whl (Vw w) (zD w+1) (b,4, [])).isSome=Q:=
 Qgr (λs=>s.2.1 / 2) ((w.length:Y) / 2+1) (λs s' d h=>by
  unfold Vw at h;by_cases a:s.2.1<(w.length:Y)
  . rw[uC a,I] at h;have h:=Rd.next.inj h;rw[←h];have e:uO uP (s.2.1+2)=s.2.1+2:=IntWalk.i64_in _ (by omega);simp only[e];omega
  rw[F a,J] at h;cases h) _ _ (by show(0:Y)<=4 / 2;decide) (by show _<=(4:Y) / 2+_;omega)
theorem OM(w:Z)(hw:zD w<=1073741800):ACalls uQ 255 [.h w] (.tup [(Q, [.i ((((Z4 w)).1).1),.i ((((Z4 w)).1).2.1),.b ((((Z4 w)).1).2.2.1),.i ((((Z4 w)).1).2.2.2.1),.o 0 ((((Z4 w)).1).2.2.2.2)]),(L, [.b (((Z4 w)).2)])]):=by
 refine en func255 λ_ _ _=>?_
 have a5:yR (w.length:Y) 2=(w.length:Y) % 2:=Int.tmod_eq_emod_of_nonneg (by omega);refine sn [0,2,3] [2] p0<|Qa<|Qa<|mz [(2,.p 2 0),(3,.b L)] [] [(2, [.i 0,.i 0,.b L,.i 0,.e 4])] []<|jn [(23,.b (decide ((w.length:Y)<(4:Y))|| (yR (w.length:Y) 2 !=(0:Y))))] [] [] [] (decide ((w.length:Y)<(4:Y))) (λf=>?_) (λf=>?_) ?_
 ·refine rn [0,2,3,23] [2] (pl 1 w (pt 2 f p0)) ?_;exact zA (by rw[f]<;>kernel_rfl)
 ·have a6:=uA f;refine rn [0,2,3,23] [2] (pl 1 w (pf 2 f (pl 5 w (px (Qn8 (n:=2) (by omega)) (px (Qf7 (k:= .i64) (n:=yR (w.length:Y) 2) (by unfold InR;simp only[IntKind.min,IntKind.max,IntKind.bits,IntKind.signed];omega)) p0))))) ?_;exact zA (by rw[f]<;>kernel_rfl)
 refine ck (decide ((w.length:Y)<(4:Y))|| (yR (w.length:Y) 2 !=(0:Y))) (λi=>?_) (λi=>?_)
 ·refine su [] [23] [] [] p0<|opn [(Q,2,4,Q,384000,4)] ?_
  exact Qc<|pz [] (show Z4 w=_ from Xg i rfl) (λz=> .tup [(Q, [.i z.1.1,.i z.1.2.1,.b z.1.2.2.1,.i z.1.2.2.2.1,.o 0 z.1.2.2.2.2]),(L, [.b z.2])])
 have m:(decide ((w.length:Y)<(4:Y)))=L:=CG i;have V:=uA m;have o:((yR (w.length:Y) 2 !=(0:Y)))=L:=FW i;have a1:=Ap o;refine Qd<|wT 0 0 .sh w (λa7 a8=>?_)
 have p:=ng w 0;refine sn [0,2,3,4,5] [2] (pg 1 0 p (pc 3 (Au (nth w 0)) p0)) ?_;have q:=ng w 1;refine tn [0,2,3,4,5,6,7] [2] (pg 1 1 q (pc 3 (Au (nth w 1)) p0)) ?_;have r:=ng w 3;refine tu [(4,.i ((Qf (nth w 0)).1)),(5,.b ((Qf (nth w 0)).2)),(6,.i ((Qf (nth w 1)).1)),(7,.b ((Qf (nth w 1)).2)),(8,.i ((Qf (nth w 3)).1)),(9,.b ((Qf (nth w 3)).2))] [23] [] [] (pg 1 3 r (pc 3 (Au (nth w 3)) p0)) ?_;have s:=ng w 2;refine sn [0,2,3,5,7,9,10] [2,10] (pg 3 2 s p0)<|Qa<|mz [(10,.p 10 0)] [4,6,8] [(10, [.i ((Qf (nth w 0)).1),.i ((Qf (nth w 1)).1),.b ((nth w 2).toList==(⟨#[115]⟩:N).toList),.i ((Qf (nth w 3)).1),.e 4])] []<|jn [(11,.b ((Qf (nth w 0)).2&&((Qf (nth w 1)).2&&(Qf (nth w 3)).2)))] [5,7,9] [] [] ((Qf (nth w 0)).2) (λe=>?_) (λe=>?_) ?_
 ·refine X4 ((Qf (nth w 1)).2) (λb=>?_) (λb=>?_)
  ·refine rn [0,2,3,10,11] [2,10] (pt 0 e (pt 2 b p0)) ?_;exact zA (by rw[e,b]<;>kernel_rfl)
  refine rn [0,2,3,10,11] [2,10] (pt 0 e (pf 2 b p0)) ?_;exact zA (by rw[e,b]<;>kernel_rfl)
 ·refine rn [0,2,3,10,11] [2,10] (pf 0 e p0) ?_;exact zA (by rw[e]<;>kernel_rfl)
 refine Qa<|su [(12,.i 4)] [] [] [] p0<|blw (λ(a:H×Y×(W Wv))=> [(11,.b a.1),(12,.i a.2.1)]) [11,12] (λa=> [(10, [.i ((Qf (nth w 0)).1),.i ((Qf (nth w 1)).1),.b ((nth w 2).toList==(⟨#[115]⟩:N).toList),.i ((Qf (nth w 3)).1),.o 147215 a.2.2])]) [10] (λ(g:H×(W Wv))=> [(11,.b g.1)]) [0,11,12] (λg=> [(10, [.i ((Qf (nth w 0)).1),.i ((Qf (nth w 1)).1),.b ((nth w 2).toList==(⟨#[115]⟩:N).toList),.i ((Qf (nth w 3)).1),.o 147365 g.2])]) [10] (λ(k0:K) (a:H×Y×(W Wv))=>whl (Vw w) k0 a=E (Ps (Vw w) (zD w+1) (((Qf (nth w 0)).2&&((Qf (nth w 1)).2&&(Qf (nth w 3)).2)),4, []))/\4<=a.2.1/\a.2.1<=(zD w:Y)/\a.2.1 % 2=0/\2*(zD a.2.2:Y)+4=a.2.1) (λ(g:H×(W Wv))=>(Ps (Vw w) (zD w+1) (((Qf (nth w 0)).2&&((Qf (nth w 1)).2&&(Qf (nth w 3)).2)),4, []))= .brk g) (zD w+1) (((Qf (nth w 0)).2&&((Qf (nth w 1)).2&&(Qf (nth w 3)).2)),4, []) (wgf [(Q,10,4,Q,320008,4)] [] [] [(320008,147215)]) ⟨N1 (Qlv hw _),(by first | omega | rfl | (simp;omega) | (simp;done)),(by first | omega | rfl | (simp;omega) | (simp;done)),(by first | omega | rfl | (simp;omega) | (simp;done)),(by first | omega | rfl | (simp;omega) | (simp;done))⟩ (λ_ h=>Sb h.1) (λk0 a U=>?_) (λg t=>?_)
 ·have u:=U.2.1;have v:=U.2.2.1;have x:=U.2.2.2.1;have y:=U.2.2.2.2;have e1:uO uP (a.2.1+1)=a.2.1+1:=IntWalk.i64_in _ (by omega);have e2:uO uP (a.2.1+2)=a.2.1+2:=IntWalk.i64_in _ (by omega);refine Qa<|sn [0,2,3,10,11,12,64] [2,10] (pl 2 w p0)<|ck (decide (a.2.1<(w.length:Y))) (λd=>?_) (λd=>?_)
  ·have a2:=uG d;refine Qd<|Qa<|Qp ?_
   have j:=ng w (uO uP (a.2.1+1)).toNat;refine tn [0,2,3,10,11,12,13,14] [2,10,13] (pg 3 (uO uP (a.2.1+1)) j (pc 5 (Pf (nth w (uO uP (a.2.1+1)).toNat)) p0)) ?_;have l:=ng w a.2.1.toNat;refine wB 10 4 (.own Q 147215) a.2.2 (λa3 a4=>?_);refine tU [(14,.b (((Qx (nth w (uO uP (a.2.1+1)).toNat))).2))] [] [(10, [.i ((Qf (nth w 0)).1),.i ((Qf (nth w 1)).1),.b ((nth w 2).toList==(⟨#[115]⟩:N).toList),.i ((Qf (nth w 3)).1),.slc (.own Q 5440) 4 ((eL a.2.2)++ [[.s (nth w a.2.1.toNat),.i ((((Qx (nth w (uO uP (a.2.1+1)).toNat))).1).1),.i ((((Qx (nth w (uO uP (a.2.1+1)).toNat))).1).2.1),.s ((((Qx (nth w (uO uP (a.2.1+1)).toNat))).1).2.2)]])])] [10] (pg 4 a.2.1 l (pa a.2.2 [((nth w a.2.1.toNat),(((Qx (nth w (uO uP (a.2.1+1)).toNat))).1))] p0))<|eqn [] [] [(10, [.i ((Qf (nth w 0)).1),.i ((Qf (nth w 1)).1),.b ((nth w 2).toList==(⟨#[115]⟩:N).toList),.i ((Qf (nth w 3)).1),.o 5440 (a.2.2++ [((nth w a.2.1.toNat),(((Qx (nth w (uO uP (a.2.1+1)).toNat))).1))])])] [10] (by rw[show((eL a.2.2)++ [[.s (nth w a.2.1.toNat),.i ((((Qx (nth w (uO uP (a.2.1+1)).toNat))).1).1),.i ((((Qx (nth w (uO uP (a.2.1+1)).toNat))).1).2.1),.s ((((Qx (nth w (uO uP (a.2.1+1)).toNat))).1).2.2)]])=(eL (a.2.2++ [((nth w a.2.1.toNat),(((Qx (nth w (uO uP (a.2.1+1)).toNat))).1))])) from Jg rfl (rfl)]<;>kernel_rfl) ?_
   refine jn [(11,.b (a.1&&((Qx (nth w (uO uP (a.2.1+1)).toNat))).2))] [11,14] [] [] a.1 (λc=>?_) (λc=>?_) ?_
   ·refine rn [0,2,3,10,11,12] [2,10] (pt 0 c p0) ?_;exact zA (by rw[c]<;>kernel_rfl)
   ·refine rn [0,2,3,10,11,12] [2,10] (pf 0 c p0) ?_;exact zA (by rw[c]<;>kernel_rfl)
   refine rn [0,2,3,10,11,12] [2,10] p0 ?_;exact zK ((a.1&&((Qx (nth w (uO uP (a.2.1+1)).toNat))).2),uO uP (a.2.1+2),a.2.2++ [((nth w a.2.1.toNat),(((Qx (nth w (uO uP (a.2.1+1)).toNat))).1))]) (zO (wsf [(5440,147215)]) ⟨wn U.1 (Xg d rfl),(by first|omega|(simp;omega)),(by first|omega|(simp;omega)),(by first|omega|(simp;omega)),(by first|omega|(simp;omega))⟩)
  exact Xa<|zK _ (zO (wsf [(147215,147365)]) (wb U.1 (Qi d rfl)))
 exact sn [2,3] [2] p0<|Qc<|pz [] (show Z4 w=_ from Qi i (Vx t rfl)) (λz=> .tup [(Q, [.i z.1.1,.i z.1.2.1,.b z.1.2.2.1,.i z.1.2.2.2.1,.o 0 z.1.2.2.2.2]),(L, [.b z.2])])
def Jm(a:W Y4)(b:W Yn)(d:Y)(c:W Zo)(line:N):H×(W Y4)×(W Yn)×Y×(W Zo):=(bif (((nth (Qs 32 line) 0).toList==(⟨#[102,105,101,108,100]⟩:N).toList)&&(((Qs 32 line).length:Y)==(3:Y))) then(bif ((nth (Qs 32 line) 2).toList==(⟨#[115,116,114,105,110,103]⟩:N).toList) then(Q,a++ [(((nth (Qs 32 line) 1),2):Y4)],b,d,c) else(Q,a++ [(((nth (Qs 32 line) 1),1):Y4)],b,d,c)) else(bif (((nth (Qs 32 line) 0).toList==(⟨#[110,101,120,116]⟩:N).toList)&&(((Qs 32 line).length:Y)==(2:Y))) then((Qf (nth (Qs 32 line) 1)).2,a,b,(Qf (nth (Qs 32 line) 1)).1,c) else(bif ((nth (Qs 32 line) 0).toList==(⟨#[102,105,108,101]⟩:N).toList) then(((Z4 (zF 1 (Qs 32 line)))).2,a,b++ [(((Z4 (zF 1 (Qs 32 line)))).1)],d,c) else(bif (((nth (Qs 32 line) 0).toList==(⟨#[100,105,114]⟩:N).toList)&&decide (((Qs 32 line).length:Y)>(2:Y))) then(((Yo (Xs ⟨#[32]⟩ (zF 2 (Qs 32 line))))).2,a,b,d,c++ [((nth (Qs 32 line) 1),((Yo (Xs ⟨#[32]⟩ (zF 2 (Qs 32 line))))).1)]) else(L,a,b,d,c)))))
theorem Qig(a:W Y4)(b:W Yn)(d:Y)(c:W Zo)(line:N):(Jm a b d c line).2.1.length<=a.length+1/\(Jm a b d c line).2.2.1.length<=b.length+1/\(Jm a b d c line).2.2.2.2.length<=c.length+1:=by
 unfold Jm;simp only[Bool.cond_eq_ite]
 repeat' split
 all_goals (simp only[zG,List.length_cons,List.length_nil];omega)
theorem Qd8(a:W Y4)(b:W Yn)(d:Y)(c:W Zo)(line:N)(hl:zE line<=1073741000)(h1:zD a<1073741824)(u:zD b<1073741824)(h4:zD c<1073741824):AGive uQ 204 [.o 40 a,.o 41 b,.i d,.o 43 c] [.s line] (.b (((Jm a b d c line)).1)) [.o 40 (((Jm a b d c line)).2.1),.o 41 (((Jm a b d c line)).2.2.1),.i (((Jm a b d c line)).2.2.2.1),.o 43 (((Jm a b d c line)).2.2.2.2)]:=by
 refine FX (tt:=tt) Zx func204 (fn:=Tryz.f204) rfl (by unfold Fr;kernel_rfl) (Nat.le_of_ble_eq_true rfl) (Nat.le_of_ble_eq_true rfl) rfl rfl λw0 F0 hG=>?_
 have az:=Qh2 32 line 2;have b5:=JQ 32 line;refine sn [0,1,4] [60000] p0<|stT 1 0 line (λb6=>?_)
 refine tn [0,4,5] [60000] (pc 1 (Td line 32 (by omega)) p0)<|Qa<|Qp<|Qa<|mz [(4,.b L),(5,.o 896 (Qs 32 line))] [1] [] []<|jn [(15,.b (((nth (Qs 32 line) 0).toList==(⟨#[102,105,101,108,100]⟩:N).toList)&&(((Qs 32 line).length:Y)==(3:Y))))] [] [] [] ((nth (Qs 32 line) 0).toList==(⟨#[102,105,101,108,100]⟩:N).toList) (λu=>?_) (λu=>?_) ?_
 ·refine wT 5 0 (.own Q 896) (Qs 32 line) (λb7 b8=>?_);have a5:=ng (Qs 32 line) 0;refine rn [0,4,5,15] [60000] (pG 1 0 a5 (pt 3 u (pl 6 (Qs 32 line) p0))) ?_;exact zA (by rw[u]<;>kernel_rfl)
 ·refine wT 5 0 (.own Q 896) (Qs 32 line) (λb9 ba=>?_);have a6:=ng (Qs 32 line) 0;refine rn [0,4,5,15] [60000] (pG 1 0 a6 (pf 3 u p0)) ?_;exact zA (by rw[u]<;>kernel_rfl)
 refine ck (((nth (Qs 32 line) 0).toList==(⟨#[102,105,101,108,100]⟩:N).toList)&&(((Qs 32 line).length:Y)==(3:Y))) (λj=>?_) (λj=>?_)
 ·have bb:(((nth (Qs 32 line) 0).toList==(⟨#[102,105,101,108,100]⟩:N).toList))=Q:=MW j;have a7:((((Qs 32 line).length:Y)==(3:Y)))=Q:=CF j;have aa:=eq_of_beq a7;refine sn [0,4,5,6] [60000] p0<|Qa<|wT 5 0 (.own Q 896) (Qs 32 line) (λab ad=>?_)
  have v:=ng (Qs 32 line) 2;refine tn [0,4,5,6,28] [60000] (pG 1 2 v p0)<|ck ((nth (Qs 32 line) 2).toList==(⟨#[115,116,114,105,110,103]⟩:N).toList) (λt=>?_) (λt=>?_)
  ·refine qu [(6,.i 2)] [15] [] [] p0 ?_;have w:=ng (Qs 32 line) 1;refine wB 60000 0 (.own Q 40) a (λae af=>?_);refine sU [] [5,6] [(60000, [.slc (.own Q 2624) 2 ((eL a)++ [[.s (nth (Qs 32 line) 1),.i 2]]),.o 41 b,.i d,.o 43 c])] [60000] (pG 7 1 w (pa a [(((nth (Qs 32 line) 1),2):Y4)] p0))<|eqn [] [] [(60000, [.o 2624 (a++ [(((nth (Qs 32 line) 1),2):Y4)]),.o 41 b,.i d,.o 43 c])] [60000] (by rw[show((eL a)++ [[.s (nth (Qs 32 line) 1),.i 2]])=(eL (a++ [(((nth (Qs 32 line) 1),2):Y4)])) from Jg rfl (rfl)]<;>kernel_rfl) ?_
   refine sn [0,4] [60000] p0<|Qc ?_
   have l:Jm a b d c line=(Q,a++ [(((nth (Qs 32 line) 1),2):Y4)],b,d,c):=Xg j (Xg t rfl);exact Qbo [] (G (λz=>(.b z.1:AV)) l.symm) (G (λz=>([.o 40 z.2.1,.o 41 z.2.2.1,.i z.2.2.2.1,.o 43 z.2.2.2.2]:W C)) l.symm)
  refine Qd ?_;have x:=ng (Qs 32 line) 1;refine wB 60000 0 (.own Q 40) a (λah ai=>?_);refine tU [] [5,15] [(60000, [.slc (.own Q 2624) 2 ((eL a)++ [[.s (nth (Qs 32 line) 1),.i 1]]),.o 41 b,.i d,.o 43 c])] [60000] (pG 7 1 x (pa a [(((nth (Qs 32 line) 1),1):Y4)] p0))<|eqn [] [] [(60000, [.o 2624 (a++ [(((nth (Qs 32 line) 1),1):Y4)]),.o 41 b,.i d,.o 43 c])] [60000] (by rw[show((eL a)++ [[.s (nth (Qs 32 line) 1),.i 1]])=(eL (a++ [(((nth (Qs 32 line) 1),1):Y4)])) from Jg rfl (rfl)]<;>kernel_rfl) ?_
  refine sn [0,4] [60000] p0<|Qc ?_
  have o:Jm a b d c line=(Q,a++ [(((nth (Qs 32 line) 1),1):Y4)],b,d,c):=Xg j (Qi t rfl);exact Qbo [] (G (λz=>(.b z.1:AV)) o.symm) (G (λz=>([.o 40 z.2.1,.o 41 z.2.2.1,.i z.2.2.2.1,.o 43 z.2.2.2.2]:W C)) o.symm)
 refine Qa<|jn [(45,.b (((nth (Qs 32 line) 0).toList==(⟨#[110,101,120,116]⟩:N).toList)&&(((Qs 32 line).length:Y)==(2:Y))))] [15] [] [] ((nth (Qs 32 line) 0).toList==(⟨#[110,101,120,116]⟩:N).toList) (λf=>?_) (λf=>?_) ?_
 ·refine wT 5 0 (.own Q 896) (Qs 32 line) (λaj ak=>?_);have y:=ng (Qs 32 line) 0;refine rn [0,4,5,45] [60000] (pG 1 0 y (pt 3 f (pl 6 (Qs 32 line) p0))) ?_;exact zA (by rw[f]<;>kernel_rfl)
 ·refine wT 5 0 (.own Q 896) (Qs 32 line) (λal am=>?_);have V:=ng (Qs 32 line) 0;refine rn [0,4,5,45] [60000] (pG 1 0 V (pf 3 f p0)) ?_;exact zA (by rw[f]<;>kernel_rfl)
 refine ck (((nth (Qs 32 line) 0).toList==(⟨#[110,101,120,116]⟩:N).toList)&&(((Qs 32 line).length:Y)==(2:Y))) (λe=>?_) (λe=>?_)
 ·have an:(((nth (Qs 32 line) 0).toList==(⟨#[110,101,120,116]⟩:N).toList))=Q:=MW e;have a1:((((Qs 32 line).length:Y)==(2:Y)))=Q:=CF e;have a8:=eq_of_beq a1;refine wT 5 0 (.own Q 896) (Qs 32 line) (λao ap=>?_);have a2:=ng (Qs 32 line) 1;refine sn [0,4,7,8] [60000] (pG 1 1 a2 (pc 3 (Au (nth (Qs 32 line) 1)) p0))<|tn [0,4,8] [60000] p0<|tu [(4,.b ((Qf (nth (Qs 32 line) 1)).2))] [4,5,45] [(60000, [.o 40 a,.o 41 b,.i ((Qf (nth (Qs 32 line) 1)).1),.o 43 c])] [60000] p0<|Qc ?_
  have p:Jm a b d c line=((Qf (nth (Qs 32 line) 1)).2,a,b,(Qf (nth (Qs 32 line) 1)).1,c):=Qi j (Xg e rfl);exact Qbo [] (G (λz=>(.b z.1:AV)) p.symm) (G (λz=>([.o 40 z.2.1,.o 41 z.2.2.1,.i z.2.2.2.1,.o 43 z.2.2.2.2]:W C)) p.symm)
 refine wT 5 0 (.own Q 896) (Qs 32 line) (λaq ar=>?_);have g:=ng (Qs 32 line) 0;refine sn [0,4,5,68] [60000] (pG 1 0 g p0)<|ck ((nth (Qs 32 line) 0).toList==(⟨#[102,105,108,101]⟩:N).toList) (λk=>?_) (λk=>?_)
 ·refine tn [0,4,9,10] [9,60000] (pe 1 (Tz (.vw 896) 1 1 1 (Qs 32 line) rfl) (px (Gt (lo:=1) (hi:=(((eL (Qs 32 line)):W (W PV)).length:Y)) (n:=(zD (eL (Qs 32 line)))) (T0 (by omega) (by omega))) (pc 2 (OM (zF 1 (Qs 32 line)) (by have:=(Si 32 line).1;simp only[yC];omega)) p0)))<|wB 60000 1 (.own Q 41) b (λau av=>?_)
  refine tU [(10,.b (((Z4 (zF 1 (Qs 32 line)))).2))] [5,45] [(60000, [.o 40 a,.slc (.own Q 5568) 5 ((eL b)++ [[.i ((((Z4 (zF 1 (Qs 32 line)))).1).1),.i ((((Z4 (zF 1 (Qs 32 line)))).1).2.1),.b ((((Z4 (zF 1 (Qs 32 line)))).1).2.2.1),.i ((((Z4 (zF 1 (Qs 32 line)))).1).2.2.2.1),.h ((((Z4 (zF 1 (Qs 32 line)))).1).2.2.2.2)]]),.i d,.o 43 c])] [60000] (pa b [(((Z4 (zF 1 (Qs 32 line)))).1)] p0)<|eqn [] [] [(60000, [.o 40 a,.o 5568 (b++ [(((Z4 (zF 1 (Qs 32 line)))).1)]),.i d,.o 43 c])] [60000] (by rw[show((eL b)++ [[.i ((((Z4 (zF 1 (Qs 32 line)))).1).1),.i ((((Z4 (zF 1 (Qs 32 line)))).1).2.1),.b ((((Z4 (zF 1 (Qs 32 line)))).1).2.2.1),.i ((((Z4 (zF 1 (Qs 32 line)))).1).2.2.2.1),.h ((((Z4 (zF 1 (Qs 32 line)))).1).2.2.2.2)]])=(eL (b++ [(((Z4 (zF 1 (Qs 32 line)))).1)])) from Jg rfl (rfl)]<;>kernel_rfl) ?_
  refine sn [0,4] [60000] p0<|Qc ?_
  have q:Jm a b d c line=(((Z4 (zF 1 (Qs 32 line)))).2,a,b++ [(((Z4 (zF 1 (Qs 32 line)))).1)],d,c):=Qi j (Qi e (Xg k rfl));exact Qbo [] (G (λz=>(.b z.1:AV)) q.symm) (G (λz=>([.o 40 z.2.1,.o 41 z.2.2.1,.i z.2.2.2.1,.o 43 z.2.2.2.2]:W C)) q.symm)
 refine Qa<|mz [(68,.b ((nth (Qs 32 line) 0).toList==(⟨#[102,105,108,101]⟩:N).toList))] [45] [] []<|jn [(92,.b (((nth (Qs 32 line) 0).toList==(⟨#[100,105,114]⟩:N).toList)&&decide (((Qs 32 line).length:Y)>(2:Y))))] [68] [] [] ((nth (Qs 32 line) 0).toList==(⟨#[100,105,114]⟩:N).toList) (λh=>?_) (λh=>?_) ?_
 ·refine rn [0,4,5,92] [60000] (pG 1 0 g (pt 3 h (pl 6 (Qs 32 line) p0))) ?_;exact zA (by rw[h]<;>kernel_rfl)
 ·refine rn [0,4,5,92] [60000] (pG 1 0 g (pf 3 h p0)) ?_;exact zA (by rw[h]<;>kernel_rfl)
 refine ck (((nth (Qs 32 line) 0).toList==(⟨#[100,105,114]⟩:N).toList)&&decide (((Qs 32 line).length:Y)>(2:Y))) (λi=>?_) (λi=>?_)
 ·have aw:(((nth (Qs 32 line) 0).toList==(⟨#[100,105,114]⟩:N).toList))=Q:=MW i;have a3:(decide (((Qs 32 line).length:Y)>(2:Y)))=Q:=CF i;have a9:=uG a3;refine sn [0,4,5,11,12] [60000] (pe 1 (Tz (.vw 896) 1 2 2 (Qs 32 line) rfl) (px (Gt (lo:=2) (hi:=(((eL (Qs 32 line)):W (W PV)).length:Y)) (n:=(zD (eL (Qs 32 line)))) (T0 (by omega) (by omega))) (pc 2 (U0 (zF 2 (Qs 32 line)) ⟨#[32]⟩ (by first | omega | exact yB (Ug (m:=10) (n:=20) rfl (by assumption) (by omega)) (by decide) | (simp only[J8,Vd,Kz,zH];omega))) (pc 3 (VI (Xs ⟨#[32]⟩ (zF 2 (Qs 32 line)))) p0)))) ?_;have a4:=ng (Qs 32 line) 1;refine wB 60000 3 (.own Q 43) c (λax ay=>?_);refine tU [(12,.b (((Yo (Xs ⟨#[32]⟩ (zF 2 (Qs 32 line))))).2))] [5,92] [(60000, [.o 40 a,.o 41 b,.i d,.slc (.own Q 7680) 2 ((eL c)++ [[.s (nth (Qs 32 line) 1),.h (((Yo (Xs ⟨#[32]⟩ (zF 2 (Qs 32 line))))).1)]])])] [60000] (pG 6 1 a4 (pa c [((nth (Qs 32 line) 1),((Yo (Xs ⟨#[32]⟩ (zF 2 (Qs 32 line))))).1)] p0))<|eqn [] [] [(60000, [.o 40 a,.o 41 b,.i d,.o 7680 (c++ [((nth (Qs 32 line) 1),((Yo (Xs ⟨#[32]⟩ (zF 2 (Qs 32 line))))).1)])])] [60000] (by rw[show((eL c)++ [[.s (nth (Qs 32 line) 1),.h (((Yo (Xs ⟨#[32]⟩ (zF 2 (Qs 32 line))))).1)]])=(eL (c++ [((nth (Qs 32 line) 1),((Yo (Xs ⟨#[32]⟩ (zF 2 (Qs 32 line))))).1)])) from Jg rfl (rfl)]<;>kernel_rfl) ?_
  refine sn [0,4] [60000] p0<|Qc ?_
  have r:Jm a b d c line=(((Yo (Xs ⟨#[32]⟩ (zF 2 (Qs 32 line))))).2,a,b,d,c++ [((nth (Qs 32 line) 1),((Yo (Xs ⟨#[32]⟩ (zF 2 (Qs 32 line))))).1)]):=Qi j (Qi e (Qi k (Xg i rfl)));exact Qbo [] (G (λz=>(.b z.1:AV)) r.symm) (G (λz=>([.o 40 z.2.1,.o 41 z.2.2.1,.i z.2.2.2.1,.o 43 z.2.2.2.2]:W C)) r.symm)
 refine Qd<|sn [0,4] [60000] p0<|Qc ?_
 have s:Jm a b d c line=(L,a,b,d,c):=Qi j (Qi e (Qi k (Qi i rfl)));exact Qbo [] (G (λz=>(.b z.1:AV)) s.symm) (G (λz=>([.o 40 z.2.1,.o 41 z.2.2.1,.i z.2.2.2.1,.o 43 z.2.2.2.2]:W C)) s.symm)
def J9(line:N)(a:Y×(W Wv)):Rd (Qw) (Y×(W Wv)) (W Wv):=(bif decide (a.1<((((Qb line)).1).length:Y)) then(.next (uO uP (a.1+2),a.2++ [((nth (((Qb line)).1) a.1.toNat),(((Xw (Qg (((Qb line)).1) (uO uP (a.1+1))))).1))])) else(.brk a.2))
def Zy(x:Qw)(line:N):Qw:=(bif ((Qg (((Qb line)).1) 0).toList==(⟨#[102,105,101,108,100]⟩:N).toList) then(bif ((Qg (((Qb line)).1) 2).toList==(⟨#[105,110,116]⟩:N).toList) then((x.1.1++ [(((Qg (((Qb line)).1) 1),1):Y4)],x.1.2.1,x.1.2.2),x.2) else((x.1.1++ [(((Qg (((Qb line)).1) 1),2):Y4)],x.1.2.1,x.1.2.2),x.2)) else(bif ((Qg (((Qb line)).1) 0).toList==(⟨#[110,101,120,116]⟩:N).toList) then((x.1.1,x.1.2.1,(Zd (((Qb line)).1) 1)),x.2) else(bif ((Qg (((Qb line)).1) 0).toList==(⟨#[102,105,108,101]⟩:N).toList) then(Out.on (Ps (J9 line) (zD (Qb line).1+1) (5, [])) (λa=>((x.1.1,x.1.2.1++ [((Zd (((Qb line)).1) 1),(Zd (((Qb line)).1) 2),((Qg (((Qb line)).1) 3).toList==(⟨#[115]⟩:N).toList),(Zd (((Qb line)).1) 4),a)],x.1.2.2),x.2))) else(bif ((Qg (((Qb line)).1) 0).toList==(⟨#[100,105,114]⟩:N).toList) then(bif decide (((((Qb line)).1).length:Y)>(2:Y)) then(x.1,x.2++ [((Qg (((Qb line)).1) 1),((Zf (Wf (zF 2 (((Qb line)).1))))).1)]) else(x.1,x.2++ [(((Qg (((Qb line)).1) 1), []):Zo)])) else x))))
theorem Qrj(line:N):(whl (J9 line) (zD (Qb line).1+1) (5, [])).isSome=Q:=
 Qgr (λs=>s.1 / 2) (((Qb line).1.length:Y) / 2+1) (λs s' b h=>by
  have hw:=(Nj line).1;unfold J9 at h;by_cases a:s.1<((Qb line).1.length:Y)
  . rw[uC a,I] at h;have h:=Rd.next.inj h;rw[←h];have e:uO uP (s.1+2)=s.1+2:=IntWalk.i64_in _ (by omega);simp only[e];omega
  rw[F a,J] at h;cases h) _ _ (by show(0:Y)<=5 / 2;decide) (by show _<=(5:Y) / 2+_;omega)
theorem Qpg(line:N):∃t,Ps (J9 line) (zD (Qb line).1+1) (5, [])= .brk t:=
 Qcm (λs r h=>by
  unfold J9 at h;cases a:decide (s.1<((Qb line).1.length:Y))<;>rw[a] at h<;>simp at h) _ _ _ (N1 (Qrj line))
theorem Qih(x:Qw)(line:N):(Zy x line).1.1.length<=x.1.1.length+1/\(Zy x line).1.2.1.length<=x.1.2.1.length+1/\(Zy x line).2.length<=x.2.length+1:=by
 obtain⟨t,a⟩:=Qpg line;unfold Zy;rw[a];simp only[Bool.cond_eq_ite,Out.on]
 repeat' split
 all_goals (first|omega|(simp only[zG,List.length_cons,List.length_nil];omega))
theorem IH(x:Qw)(line:N)(h1:zD x.1.1<1073741824)(d:zD x.1.2.1<1073741824)(h4:zD x.2<1073741824):AVal uQ 186 [.a [.o 40 x.1.1,.o 41 x.1.2.1,.i x.1.2.2,.o 42 x.2],.s line] (.a [.o 0 ((Zy x line).1.1),.o 1 ((Zy x line).1.2.1),.i ((Zy x line).1.2.2),.o 2 ((Zy x line).2)]):=by
 refine Qgu (tt:=tt) Zx func186 (fn:=Tryz.f186) rfl (by unfold Fr;kernel_rfl) (Nat.le_of_ble_eq_true rfl) rfl λw0 F0 hG=>?_
 refine sn [1,2,4] [2,4] p0 ?_;have a8:=Nj line;refine tn [2,4,5] [2,4] (pc 1 (Ng line) p0)<|Qa<|tu [(2,.p 2 0),(4,.p 4 0),(5,.o 960 (((Qb line)).1)),(19,.s (Qg (((Qb line)).1) 0))] [0,1] [(2, [.o 40 x.1.1,.o 41 x.1.2.1,.i x.1.2.2,.o 42 x.2]),(4, [.e 2,.e 5,.i 0,.e 2])] [] (pc 1 (We (((Qb line)).1) 0 (by omega)) p0)<|Qp<|sn [2,4,5,19,20] [2,4] p0<|ck ((Qg (((Qb line)).1) 0).toList==(⟨#[102,105,101,108,100]⟩:N).toList) (λd=>?_) (λd=>?_)
 ·refine tn [2,4,5,7] [2,4,7] (pc 1 (We (((Qb line)).1) 1 (by omega)) p0)<|Qa<|tu [(7,.p 7 0),(27,.b ((Qg (((Qb line)).1) 2).toList==(⟨#[105,110,116]⟩:N).toList))] [5,19] [(7, [.s (Qg (((Qb line)).1) 1),.i 2])] [] (pc 1 (We (((Qb line)).1) 2 (by omega)) p0)<|ck ((Qg (((Qb line)).1) 2).toList==(⟨#[105,110,116]⟩:N).toList) (λl=>?_) (λl=>?_)
  ·refine rn [2,4,7] [2,4,7] p0 ?_;refine wB 2 0 (.own Q 40) x.1.1 (λa9 aa=>?_);refine qu [] [7,27] [(2, [.slc (.own Q 2176) 2 ((eL x.1.1)++ [[.s (Qg (((Qb line)).1) 1),.i 1]]),.o 41 x.1.2.1,.i x.1.2.2,.o 42 x.2])] [2,7] (pa x.1.1 [(((Qg (((Qb line)).1) 1),1):Y4)] p0) ?_;refine eqn [] [] [(2, [.o 2176 (x.1.1++ [(((Qg (((Qb line)).1) 1),1):Y4)]),.o 41 x.1.2.1,.i x.1.2.2,.o 42 x.2])] [2] (by rw[show((eL x.1.1)++ [[.s (Qg (((Qb line)).1) 1),.i 1]])=(eL (x.1.1++ [(((Qg (((Qb line)).1) 1),1):Y4)])) from Jg rfl (rfl)]<;>kernel_rfl) ?_;exact sn [4] [4] p0<|Qc<|pz [] (show Zy x line=_ from Xg d (Xg l rfl)) (λz=> .a [.o 0 z.1.1,.o 1 z.1.2.1,.i z.1.2.2,.o 2 z.2])
  refine Qd<|wB 2 0 (.own Q 40) x.1.1 (λab ad=>?_)
  refine ru [] [7,27] [(2, [.slc (.own Q 2176) 2 ((eL x.1.1)++ [[.s (Qg (((Qb line)).1) 1),.i 2]]),.o 41 x.1.2.1,.i x.1.2.2,.o 42 x.2])] [2,7] (pa x.1.1 [(((Qg (((Qb line)).1) 1),2):Y4)] p0) ?_;refine eqn [] [] [(2, [.o 2176 (x.1.1++ [(((Qg (((Qb line)).1) 1),2):Y4)]),.o 41 x.1.2.1,.i x.1.2.2,.o 42 x.2])] [2] (by rw[show((eL x.1.1)++ [[.s (Qg (((Qb line)).1) 1),.i 2]])=(eL (x.1.1++ [(((Qg (((Qb line)).1) 1),2):Y4)])) from Jg rfl (rfl)]<;>kernel_rfl) ?_;exact sn [4] [4] p0<|Qc<|pz [] (show Zy x line=_ from Xg d (Qi l rfl)) (λz=> .a [.o 0 z.1.1,.o 1 z.1.2.1,.i z.1.2.2,.o 2 z.2])
 refine tn [2,4,5,19,37] [2,4] p0<|ck ((Qg (((Qb line)).1) 0).toList==(⟨#[110,101,120,116]⟩:N).toList) (λg=>?_) (λg=>?_)
 ·refine qu [] [5,19] [(2, [.o 40 x.1.1,.o 41 x.1.2.1,.i (Zd (((Qb line)).1) 1),.o 42 x.2])] [2] (pc 1 (Md (((Qb line)).1) 1 (by omega)) p0) ?_;exact sn [4] [4] p0<|Qc<|pz [] (show Zy x line=_ from Qi d (Xg g rfl)) (λz=> .a [.o 0 z.1.1,.o 1 z.1.2.1,.i z.1.2.2,.o 2 z.2])
 refine tu [(43,.b ((Qg (((Qb line)).1) 0).toList==(⟨#[102,105,108,101]⟩:N).toList))] [] [] [] p0<|ck ((Qg (((Qb line)).1) 0).toList==(⟨#[102,105,108,101]⟩:N).toList) (λi=>?_) (λi=>?_)
 ·refine sn [2,4,5,8] [2,4,8] (pc 1 (Md (((Qb line)).1) 1 (by omega)) (pc 3 (Md (((Qb line)).1) 2 (by omega)) (pc 5 (We (((Qb line)).1) 3 (by omega)) (pc 8 (Md (((Qb line)).1) 4 (by omega)) p0))))<|Qa<|tn [2,4,5,8,9] [2,4,8] p0<|mz [(8,.p 8 0),(9,.i 5)] [19,43] [(8, [.i (Zd (((Qb line)).1) 1),.i (Zd (((Qb line)).1) 2),.b ((Qg (((Qb line)).1) 3).toList==(⟨#[115]⟩:N).toList),.i (Zd (((Qb line)).1) 4),.e 4])] []<|blw (λ(a:Y×(W Wv))=> [(9,.i a.1)]) [9] (λa=> [(8, [.i (Zd (((Qb line)).1) 1),.i (Zd (((Qb line)).1) 2),.b ((Qg (((Qb line)).1) 3).toList==(⟨#[115]⟩:N).toList),.i (Zd (((Qb line)).1) 4),.o 147217 a.2])]) [8] (λ(c:W Wv)=> []) [5,9] (λc=> [(8, [.i (Zd (((Qb line)).1) 1),.i (Zd (((Qb line)).1) 2),.b ((Qg (((Qb line)).1) 3).toList==(⟨#[115]⟩:N).toList),.i (Zd (((Qb line)).1) 4),.o 147367 c])]) [8] (λ(r:K) (a:Y×(W Wv))=>whl (J9 line) r a=E (Ps (J9 line) (zD (Qb line).1+1) (5, []))/\5<=a.1/\a.1<=(zD (Qb line).1:Y)+5/\2*(zD a.2:Y)+5=a.1) (λ(c:W Wv)=>(Ps (J9 line) (zD (Qb line).1+1) (5, []))= .brk c) (zD (Qb line).1+1) (5, []) (wgf [(Q,8,4,Q,320008,4)] [] [] [(320008,147217)]) ⟨N1 (Qrj line),(by first | omega | rfl | (simp;omega) | (simp;done)),(by first | omega | rfl | (simp;omega) | (simp;done)),(by first | omega | rfl | (simp;omega) | (simp;done))⟩ (λ_ h=>Sb h.1) (λr a U=>?_) (λc m=>?_)
  ·have o:=U.2.1;have p:=U.2.2.1;have q:=U.2.2.2;have e1:uO uP (a.1+1)=a.1+1:=IntWalk.i64_in _ (by have:=(Nj line).1;omega);have e2:uO uP (a.1+2)=a.1+2:=IntWalk.i64_in _ (by have:=(Nj line).1;omega);refine Qa<|sn [2,4,5,8,9,58] [2,4,8] (pl 2 (((Qb line)).1) p0)<|ck (decide (a.1<((((Qb line)).1).length:Y))) (λe=>?_) (λe=>?_)
   ·have s:=uG e;refine Qd<|Qa<|Qp<|tn [2,4,5,8,9,10] [2,4,8,10] (pc 3 (We (((Qb line)).1) (uO uP (a.1+1)) (by omega)) (pc 4 (Pg (Qg (((Qb line)).1) (uO uP (a.1+1)))) p0))<|wT 5 0 (.own Q 960) (((Qb line)).1) (λt u=>?_)
    have j:=ng (((Qb line)).1) a.1.toNat;refine wB 8 4 (.own Q 147217) a.2 (λv w=>?_);refine qU [] [] [(8, [.i (Zd (((Qb line)).1) 1),.i (Zd (((Qb line)).1) 2),.b ((Qg (((Qb line)).1) 3).toList==(⟨#[115]⟩:N).toList),.i (Zd (((Qb line)).1) 4),.slc (.own Q 4992) 4 ((eL a.2)++ [[.s (nth (((Qb line)).1) a.1.toNat),.i ((((Xw (Qg (((Qb line)).1) (uO uP (a.1+1))))).1).1),.i ((((Xw (Qg (((Qb line)).1) (uO uP (a.1+1))))).1).2.1),.s ((((Xw (Qg (((Qb line)).1) (uO uP (a.1+1))))).1).2.2)]])])] [8] (pG 4 a.1 j (pa a.2 [((nth (((Qb line)).1) a.1.toNat),(((Xw (Qg (((Qb line)).1) (uO uP (a.1+1))))).1))] p0)) ?_;refine eqn [] [] [(8, [.i (Zd (((Qb line)).1) 1),.i (Zd (((Qb line)).1) 2),.b ((Qg (((Qb line)).1) 3).toList==(⟨#[115]⟩:N).toList),.i (Zd (((Qb line)).1) 4),.o 4992 (a.2++ [((nth (((Qb line)).1) a.1.toNat),(((Xw (Qg (((Qb line)).1) (uO uP (a.1+1))))).1))])])] [8] (by rw[show((eL a.2)++ [[.s (nth (((Qb line)).1) a.1.toNat),.i ((((Xw (Qg (((Qb line)).1) (uO uP (a.1+1))))).1).1),.i ((((Xw (Qg (((Qb line)).1) (uO uP (a.1+1))))).1).2.1),.s ((((Xw (Qg (((Qb line)).1) (uO uP (a.1+1))))).1).2.2)]])=(eL (a.2++ [((nth (((Qb line)).1) a.1.toNat),(((Xw (Qg (((Qb line)).1) (uO uP (a.1+1))))).1))])) from Jg rfl (rfl)]<;>kernel_rfl) ?_;refine rn [2,4,5,8,9] [2,4,8] p0 ?_;exact zK (uO uP (a.1+2),a.2++ [((nth (((Qb line)).1) a.1.toNat),(((Xw (Qg (((Qb line)).1) (uO uP (a.1+1))))).1))]) (zO (wsf [(4992,147217)]) ⟨wn U.1 (Xg e rfl),(by first|omega|(simp;omega)),(by first|omega|(simp;omega)),(by first|omega|(simp;omega))⟩)
   exact Xa<|zK _ (zO (wsf [(147217,147367)]) (wb U.1 (Qi e rfl)))
  refine wB 2 1 (.own Q 41) x.1.2.1 (λV a1=>?_);refine ru [] [8] [(2, [.o 40 x.1.1,.slc (.own Q 5440) 5 ((eL x.1.2.1)++ [[.i (Zd (((Qb line)).1) 1),.i (Zd (((Qb line)).1) 2),.b ((Qg (((Qb line)).1) 3).toList==(⟨#[115]⟩:N).toList),.i (Zd (((Qb line)).1) 4),.h c]]),.i x.1.2.2,.o 42 x.2])] [2,8] (pa x.1.2.1 [((Zd (((Qb line)).1) 1),(Zd (((Qb line)).1) 2),((Qg (((Qb line)).1) 3).toList==(⟨#[115]⟩:N).toList),(Zd (((Qb line)).1) 4),c)] p0) ?_;refine eqn [] [] [(2, [.o 40 x.1.1,.o 5440 (x.1.2.1++ [((Zd (((Qb line)).1) 1),(Zd (((Qb line)).1) 2),((Qg (((Qb line)).1) 3).toList==(⟨#[115]⟩:N).toList),(Zd (((Qb line)).1) 4),c)]),.i x.1.2.2,.o 42 x.2])] [2] (by rw[show((eL x.1.2.1)++ [[.i (Zd (((Qb line)).1) 1),.i (Zd (((Qb line)).1) 2),.b ((Qg (((Qb line)).1) 3).toList==(⟨#[115]⟩:N).toList),.i (Zd (((Qb line)).1) 4),.h c]])=(eL (x.1.2.1++ [((Zd (((Qb line)).1) 1),(Zd (((Qb line)).1) 2),((Qg (((Qb line)).1) 3).toList==(⟨#[115]⟩:N).toList),(Zd (((Qb line)).1) 4),c)])) from Jg rfl (rfl)]<;>kernel_rfl) ?_;exact sn [4] [4] p0<|Qc<|pz [] (show Zy x line=_ from Qi d (Qi g (Xg i (Vx m rfl)))) (λz=> .a [.o 0 z.1.1,.o 1 z.1.2.1,.i z.1.2.2,.o 2 z.2])
 refine sn [2,4,5,88] [2,4] p0<|ck ((Qg (((Qb line)).1) 0).toList==(⟨#[100,105,114]⟩:N).toList) (λf=>?_) (λf=>?_)
 ·refine tn [2,4,5,12] [2,4,12] (pc 1 (We (((Qb line)).1) 1 (by omega)) p0)<|Qa<|tu [(12,.p 12 0),(95,.b (decide (((((Qb line)).1).length:Y)>(2:Y))))] [19,43] [(12, [.s (Qg (((Qb line)).1) 1),.e 7])] [] (pl 1 (((Qb line)).1) p0)<|ck (decide (((((Qb line)).1).length:Y)>(2:Y))) (λb=>?_) (λb=>?_)
  ·have k:=uG b;refine wT 5 0 (.own Q 960) (((Qb line)).1) (λa2 a3=>?_);refine rn [2,4,12] [2,4,12] (pe 1 (Tz (.vw 960) 1 2 2 (((Qb line)).1) rfl) (px (Gt (lo:=2) (hi:=(((eL (((Qb line)).1)):W (W PV)).length:Y)) (n:=(zD (eL (((Qb line)).1)))) (T0 (by omega) (by omega))) (pc 2 (YG (zF 2 (((Qb line)).1)) (by first | exact(Nj _).1 | (simp only[yC];have:=(Nj line).1;omega)) (by first | exact(Nj _).2 | exact λy hy=>(Nj line).2 y (yF hy))) (pc 3 (VJ (Wf (zF 2 (((Qb line)).1)))) p0)))) ?_;refine wB 2 3 (.own Q 42) x.2 (λa4 a5=>?_);refine qu [] [5,12,95] [(2, [.o 40 x.1.1,.o 41 x.1.2.1,.i x.1.2.2,.slc (.own Q 6912) 2 ((eL x.2)++ [[.s (Qg (((Qb line)).1) 1),.h (((Zf (Wf (zF 2 (((Qb line)).1))))).1)]])])] [2,12] (pa x.2 [((Qg (((Qb line)).1) 1),((Zf (Wf (zF 2 (((Qb line)).1))))).1)] p0) ?_;refine eqn [] [] [(2, [.o 40 x.1.1,.o 41 x.1.2.1,.i x.1.2.2,.o 6912 (x.2++ [((Qg (((Qb line)).1) 1),((Zf (Wf (zF 2 (((Qb line)).1))))).1)])])] [2] (by rw[show((eL x.2)++ [[.s (Qg (((Qb line)).1) 1),.h (((Zf (Wf (zF 2 (((Qb line)).1))))).1)]])=(eL (x.2++ [((Qg (((Qb line)).1) 1),((Zf (Wf (zF 2 (((Qb line)).1))))).1)])) from Jg rfl (rfl)]<;>kernel_rfl) ?_;exact sn [4] [4] p0<|Qc<|pz [] (show Zy x line=_ from Qi d (Qi g (Qi i (Xg f (Xg b rfl))))) (λz=> .a [.o 0 z.1.1,.o 1 z.1.2.1,.i z.1.2.2,.o 2 z.2])
  have k:=uA b;refine Qd<|wB 2 3 (.own Q 42) x.2 (λa6 a7=>?_)
  refine ru [] [5,12,95] [(2, [.o 40 x.1.1,.o 41 x.1.2.1,.i x.1.2.2,.slc (.own Q 6912) 2 ((eL x.2)++ [[.s (Qg (((Qb line)).1) 1),.slc 7 []]])])] [2,12] (pa x.2 [(((Qg (((Qb line)).1) 1), []):Zo)] p0) ?_;refine eqn [] [] [(2, [.o 40 x.1.1,.o 41 x.1.2.1,.i x.1.2.2,.o 6912 (x.2++ [(((Qg (((Qb line)).1) 1), []):Zo)])])] [2] (by rw[show((eL x.2)++ [[.s (Qg (((Qb line)).1) 1),.slc 7 []]])=(eL (x.2++ [(((Qg (((Qb line)).1) 1), []):Zo)])) from Jg rfl (rfl)]<;>kernel_rfl) ?_;exact sn [4] [4] p0<|Qc<|pz [] (show Zy x line=_ from Qi d (Qi g (Qi i (Xg f (Qi b rfl))))) (λz=> .a [.o 0 z.1.1,.o 1 z.1.2.1,.i z.1.2.2,.o 2 z.2])
 exact Qd<|tn [4] [4] p0<|Qc<|pz [] (show Zy x line=_ from Qi d (Qi g (Qi i (Qi f rfl)))) (λz=> .a [.o 0 z.1.1,.o 1 z.1.2.1,.i z.1.2.2,.o 2 z.2])
def Cp(a:Z)(b:K)(c:N)(_:uB):Rd (H) (uB) (uB):=(bif (!(c.toList==(nth a b).toList)) then(.ret L) else(.next ()))
def Cq(_:K)(_:uB):uB:=()
def Uh(a:Z)(b:Z):H:=(bif ((a.length:Y) !=(b.length:Y)) then L else(Out.on (X8 (Cp b) Cq a 0 ()) (λ_=>Q)))
theorem Ss(a:Z)(b:Z):ACalls uQ 206 [.h a,.h b] (.b (Uh a b)):=by
 refine en func206 λ_ _ _=>sn [0,1,4] [] p0 ?_
 refine Qa<|tn [0,1,4,10] [] (pl 1 a (pl 3 b p0))<|ck ((a.length:Y) !=(b.length:Y)) (λd=>?_) (λd=>?_)
 ·exact tu [(4,.b L)] [] [] [] p0<|Qc<|pb [] (Xg d rfl)
 have j:=Ap d;refine Qd<|Qa<|tu [(4,.b L),(12,.i (a.length:Y)),(13,.i 0)] [] [] [] (pl 1 a p0)<|wT 0 0 .sh a (λk m=>?_)
 refine S7 (Cp b) Cq a () (λc _=> [(13,.i (c:Y))]) [13] (λ_=> []) [0,1,12,13] wf0 (λc n O U=>?_) (λc n O U=>?_) (λr e=>?_)
 ·obtain⟨o,V⟩:=Xo (l:=a) (i:=c) O;refine su [(14,.b Q)] [] [] [] (pe 0 (zB ((c:Y)<(a.length:Y))) p0)<|Qa<|ckT<|Qd<|Qa<|Qp<|sn [0,1,4,5,12,13] [] p0<|wT 1 0 .sh b (λp q=>?_)
  have f:=ng b c;refine tN [0,1,4,12,13,24] [] (pn 2 V (pn 6 f p0))<|ck (!(o.toList==(nth b c).toList)) (λg=>?_) (λg=>?_)
  ·refine tu [] [14] [] [] p0<|Qc ?_
   have h:(X8 (Cp b) Cq a 0 ())= .ret L:=Kj V (Xg g rfl) U;exact pb [] (Qi d (Pq h))
  refine Qd<|qu [(13,.i ((c+1:K):Y))] [13,14] [] [] (pw 0 c p0) ?_
  exact xw _ (Qr V (Qi g rfl) U)
 ·exact sn [0,1,4,12,13,14] [] (pe 0 (zC ((c:Y)<(a.length:Y))) p0)<|Qa<|ckF<|Xa<|xw _ (Xq O rfl U)
 exact sn [4] [] p0<|Qc<|pb [] (Qi d (Vx e rfl))
def W9(_:K)(c:N)(b:Qw):Rd (Qw×H) (Qw) (Qw):=(lt (Jm b.1.1 b.1.2.1 b.1.2.2 b.2 c) (λa=>(bif (!a.1) then(.ret ((([], [],0), []),L)) else(.next ((a.2.1,a.2.2.1,a.2.2.2.1),a.2.2.2.2)))))
def H7(_:K)(a:Qw):Qw:=a
def Xk(a:Z):Qw×H:=(Out.on (X8 W9 H7 a 0 (([], [],0), [])) (λb=>(bif ((!(Qm b))|| (!(Uh (Xi b) a))) then((([], [],0), []),L) else(b,Q))))
theorem Su(a:Z)(t:∀y,y∈a->zE y<=1073741000):ACalls uQ 163 [.h a] (.tup [(Q, [.o 0 ((((Xk a)).1).1.1),.o 1 ((((Xk a)).1).1.2.1),.i ((((Xk a)).1).1.2.2),.o 2 ((((Xk a)).1).2)]),(L, [.b (((Xk a)).2)])]):=by
 refine en func163 λ_ _ _=>sn [0,2,3] [2] p0 ?_
 refine tn [0,2,3,4] [2,4] p0<|Qa<|tu [(2,.p 2 0),(3,.b L),(4,.p 4 0),(8,.h a),(9,.i (a.length:Y)),(10,.i 0)] [] [(2, [.e 2,.e 5,.i 0,.e 2]),(4, [.e 2,.e 5,.i 0,.e 2])] [] (pl 1 a p0)<|wT 0 0 .sh a (λu v=>?_)
 refine VB W9 H7 a (([], [],0), []) (λd _=> [(10,.i (d:Y))]) [10] (λ_ b=> [(4, [.o 147211 b.1.1,.o 147212 b.1.2.1,.i b.1.2.2,.o 147214 b.2])]) [4] (λ_=> []) [8,9,10] (λc=> [(4, [.o 147361 c.1.1,.o 147362 c.1.2.1,.i c.1.2.2,.o 147364 c.2])]) [4] (λd b=>zD b.1.1<=d/\zD b.1.2.1<=d/\zD b.2<=d) (wgf [(Q,4,0,Q,320008,2),(Q,4,1,Q,320009,5),(Q,4,3,Q,320010,2)] [] [] [(320008,147211),(320009,147212),(320010,147214)]) ⟨(by exact yA _),(by exact yA _),(by exact yA _)⟩ (λd b O U=>?_) (λd b O U=>?_) (λc m=>?_)
 ·have g:=U.2.1;have h:=U.2.2.1;have j:=U.2.2.2;obtain⟨p,V⟩:=Xo (l:=a) (i:=d) O;refine su [(11,.b Q)] [] [] [] (pe 0 (zB ((d:Y)<(a.length:Y))) p0)<|Qa<|ckT<|Qd<|Qa<|Qp<|su [(6,.s p)] [11] [] [] (pn 0 V p0) ?_
  obtain⟨e,f⟩:=nm (Jm b.1.1 b.1.2.1 b.1.2.2 b.2 p);have n:=Qig b.1.1 b.1.2.1 b.1.2.2 b.2 p;rw[f] at n;refine sn [0,2,3,4,8,9,10,16] [2,4] (po 1 (.give uD (.b e.1) [.o 40 e.2.1,.o 41 e.2.2.1,.i e.2.2.2.1,.o 43 e.2.2.2.2]) (px (Lc (f▸Qd8 b.1.1 b.1.2.1 b.1.2.2 b.2 p (t _ (yK V)) (by omega) (by omega) (by omega))) p0))<|ck (!e.1) (λq=>?_) (λq=>?_)
  ·refine tn [0,2,3,4,8,9,10] [2,4] p0<|opn [(Q,2,0,Q,384000,2),(Q,2,1,Q,384001,5),(Q,2,3,Q,384002,2)] ?_
   refine Qc ?_;have r:(X8 W9 H7 a 0 (([], [],0), []))= .ret ((([], [],0), []),L):=Kj V (by exact Mq f (Xg q rfl)) U.1;exact pz [] (show Xk a=_ from Pq r) (λz=> .tup [(Q, [.o 0 z.1.1.1,.o 1 z.1.1.2.1,.i z.1.1.2.2,.o 2 z.1.2]),(L, [.b z.2])])
  refine Qd<|qn [0,2,3,4,8,9,10] [2,4] (pw 0 d p0) ?_
  exact zK ((e.2.1,e.2.2.1,e.2.2.2.1),e.2.2.2.2) (zO (wsf [(1000,147211),(1001,147212),(1003,147214)]) ⟨Qr V (Mq f (Qi q rfl)) U.1,(by first|omega|(dsimp only;omega)),(by first|omega|(dsimp only;omega)),(by first|omega|(dsimp only;omega))⟩)
 ·have g:=U.2.1;have h:=U.2.2.1;have j:=U.2.2.2;exact su [(11,.b L)] [] [] [] (pe 0 (zC ((d:Y)<(a.length:Y))) p0)<|Qa<|ckF<|Xa<|zK _ (zO (wsf [(147211,147361),(147212,147362),(147214,147364)]) (Xq O rfl U.1))
 refine Qa<|Qa<|jn [(28,.b ((!(Qm c))|| (!(Uh (Xi c) a))))] [0] [] [] (!(Qm c)) (λo=>?_) (λo=>?_) ?_
 ·have k:(Qm c)=L:=V1 o;refine rn [2,3,4,28] [2,4] (pc 1 (cb k (W7 c)) (pe 2 (show .b (!L)= .b Q from rfl) p0)) ?_;exact zA (by rw[o]<;>kernel_rfl)
 ·have k:(Qm c)=Q:=Z5 o;refine rn [2,3,4,28] [2,4] (pc 1 (cb k (W7 c)) (pe 2 (show .b (!Q)= .b L from rfl) (pc 5 (Il c) (pc 7 (Ss (Xi c) a) p0)))) ?_;exact zA (by rw[o]<;>kernel_rfl)
 refine ck ((!(Qm c))|| (!(Uh (Xi c) a))) (λs=>?_) (λs=>?_)
 ·refine su [] [28] [] [] p0<|opn [(Q,2,0,Q,384000,2),(Q,2,1,Q,384001,5),(Q,2,3,Q,384002,2)] ?_
  exact Qc<|pz [] (show Xk a=_ from Vx m (Xg s rfl)) (λz=> .tup [(Q, [.o 0 z.1.1.1,.o 1 z.1.1.2.1,.i z.1.1.2.2,.o 2 z.1.2]),(L, [.b z.2])])
 exact Qd<|sn [2,3] [2] p0<|Qc<|pz [] (show Xk a=_ from Vx m (Qi s rfl)) (λz=> .tup [(Q, [.o 0 z.1.1.1,.o 1 z.1.1.2.1,.i z.1.1.2.2,.o 2 z.1.2]),(L, [.b z.2])])
def H8(_:K)(a:N)(b:Qw):Rd (Qw×H) (Qw) (Qw):=(lt (Zy b a) (λc=>(.next c)))
def Cr(_:K)(a:Qw):Qw:=a
def Xx(a:Z):Qw×H:=(Out.on (X8 H8 Cr a 0 (([], [],0), [])) (λb=>(bif ((!(Xe b))|| (!(Er (Y0 b) a))) then((([], [],0), []),L) else(b,Q))))
theorem Sv(a:Z)(t:∀y,y∈a->zE y<=1073741000):ACalls uQ 147 [.h a] (.tup [(Q, [.o 0 ((((Xx a)).1).1.1),.o 1 ((((Xx a)).1).1.2.1),.i ((((Xx a)).1).1.2.2),.o 2 ((((Xx a)).1).2)]),(L, [.b (((Xx a)).2)])]):=by
 refine en func147 λ_ _ _=>sn [0,2,3] [2] p0 ?_
 refine tn [0,2,3,4] [2,4] p0<|Qa<|tu [(2,.p 2 0),(3,.b L),(4,.p 4 0),(5,.i 0)] [] [(2, [.e 2,.e 5,.i 0,.e 2]),(4, [.e 2,.e 5,.i 0,.e 2])] [] p0<|wT 0 0 .sh a (λr s=>?_)
 refine VB H8 Cr a (([], [],0), []) (λd _=> [(5,.i (d:Y))]) [5] (λ_ c=> [(2, [.slc (.own Q 147205) 2 [],.e 5,.i 0,.e 2]),(4, [.o 147209 c.1.1,.o 147210 c.1.2.1,.i c.1.2.2,.o 147212 c.2])]) [2,4] (λ_=> []) [5] (λb=> [(2, [.slc (.own Q 147355) 2 [],.e 5,.i 0,.e 2]),(4, [.o 147359 b.1.1,.o 147360 b.1.2.1,.i b.1.2.2,.o 147362 b.2])]) [2,4] (λd c=>zD c.1.1<=d/\zD c.1.2.1<=d/\zD c.2<=d) (wgf [(Q,2,0,Q,320008,2),(Q,4,0,Q,320009,2),(Q,4,1,Q,320010,5),(Q,4,3,Q,320011,2)] [] [] [(320008,147205),(320009,147209),(320010,147210),(320011,147212)]) ⟨(by exact yA _),(by exact yA _),(by exact yA _)⟩ (λd c O U=>?_) (λd c O U=>?_) (λb k=>?_)
 ·have e:=U.2.1;have f:=U.2.2.1;have g:=U.2.2.2;obtain⟨p,V⟩:=Xo (l:=a) (i:=d) O;refine Qa<|su [(10,.b Q)] [] [] [] (pl 2 a (pe 3 (zB ((d:Y)<(a.length:Y))) p0))<|ckT<|Qd<|Qa<|Qp ?_
  obtain⟨m,h⟩:=nm ((Zy c p));have n:=Qih c p;rw[h] at n;refine rN [0,2,3,4,5] [2,4] (pn 3 V (po 5 (.giv [147209,147210,147212] (.a [.o 0 m.1.1,.o 1 m.1.2.1,.i m.1.2.2,.o 2 m.2])) (px (Qbg (h▸IH c p (by omega) (by omega) (by omega))) p0))) ?_;refine qn [0,2,3,4,5] [2,4] (pw 1 d p0) ?_;exact zK m (zO (wsf [(1152,147209),(1153,147210),(1154,147212)]) ⟨Qr V (Mq h rfl) U.1,(by first|omega|(dsimp only;omega)),(by first|omega|(dsimp only;omega)),(by first|omega|(dsimp only;omega))⟩)
 ·have e:=U.2.1;have f:=U.2.2.1;have g:=U.2.2.2;exact Qa<|su [(10,.b L)] [] [] [] (pl 2 a (pe 3 (zC ((d:Y)<(a.length:Y))) p0))<|ckF<|Xa<|zK _ (zO (wsf [(147205,147355),(147209,147359),(147210,147360),(147212,147362)]) (Xq O rfl U.1))
 refine Qa<|Qa<|jn [(28,.b ((!(Xe b))|| (!(Er (Y0 b) a))))] [0] [] [] (!(Xe b)) (λo=>?_) (λo=>?_) ?_
 ·have j:(Xe b)=L:=V1 o;refine rn [2,3,4,28] [2,4] (pc 1 (cb j (J3 b)) (pe 2 (show .b (!L)= .b Q from rfl) p0)) ?_;exact zA (by rw[o]<;>kernel_rfl)
 ·have j:(Xe b)=Q:=Z5 o;refine rn [2,3,4,28] [2,4] (pc 1 (cb j (J3 b)) (pe 2 (show .b (!Q)= .b L from rfl) (pc 5 (Im b) (pc 7 (CQ (Y0 b) a) p0)))) ?_;exact zA (by rw[o]<;>kernel_rfl)
 refine ck ((!(Xe b))|| (!(Er (Y0 b) a))) (λq=>?_) (λq=>?_)
 ·refine sn [2,3,4] [2,4] p0<|opn [(Q,2,0,Q,384000,2),(Q,2,1,Q,384001,5),(Q,2,3,Q,384002,2)] ?_
  exact Qc<|pz [] (show Xx a=_ from Vx k (Xg q rfl)) (λz=> .tup [(Q, [.o 0 z.1.1.1,.o 1 z.1.1.2.1,.i z.1.1.2.2,.o 2 z.1.2]),(L, [.b z.2])])
 exact Qd<|sn [2,3] [2] p0<|Qc<|pz [] (show Xx a=_ from Vx k (Qi q rfl)) (λz=> .tup [(Q, [.o 0 z.1.1.1,.o 1 z.1.1.2.1,.i z.1.1.2.2,.o 2 z.1.2]),(L, [.b z.2])])
theorem II(s:N):∀(a:W uJ) (k b:K) (o:W N) (cur:W uJ),s.data.toList.drop k=a->b<=k->k<=s.size->cur=(s.data.toList.drop b).take (k-b)->10∉cur->
 K0 (Fh s) I0 a.length k (o,(b:Y))= .brk (o++((AB 10 (cur++a)).map Ca).dropLast)
 | [],k,b,o,cur,_,_,_,_,hc=>by
   rw[zS,TU hc];simp[K0,I0]
 | c ::a,k,b,o,cur,hr,hb,hk,hcur,hc=>by
   obtain⟨i,hd,g⟩:=Fj hr;rw[Ei] at g;have p:cur.length=k-b:=by rw[hcur,List.length_take,yC,Ei];omega
   rw[List.length_cons]
   have f:Fh s k (o,(b:Y))=(bif ((c.toNat:Y)==(10:Y)) then(.next (o++ [Ca cur],((k+1:K):Y))) else(.next (o,(b:Y)))):=by
    unfold Fh;rw[Ni i];simp only[zV];rw[Rs,←hcur]
   by_cases d:c=10
   . subst d;rw[show(((10:uJ).toNat:Y)==(10:Y))=Q from rfl,I] at f;rw[Mw f,II s a (k+1) (k+1) _ [] hd (yE _) (by omega) (by rw[Nat.sub_self];rfl) (by simp),ID a hc,zM,List.nil_append];obtain⟨q,r,j⟩:=AC 10 a;rw[j];rfl
   have l:((c.toNat:Y)==(10:Y))=L:=by
    cases m:((c.toNat:Y)==(10:Y)) with
    | false=>rfl
    | true=>exact absurd (UInt8.toNat_inj.1 (show c.toNat=(10:uJ).toNat by have:=eq_of_beq m;have e:(10:uJ).toNat=10:=rfl;omega)) d
   rw[l,J] at f;rw[Mw f,II s a (k+1) b o (cur++ [c]) hd (by omega) (by omega) ?_ ?_,zM,List.singleton_append]
   . have:(s.data.toList.drop b)[k-b]? =E c:=by rw[List.getElem?_drop,show b+(k-b)=k by omega];exact i
     rw[show k+1-b=(k-b)+1 by omega,List.take_add_one,this,←hcur];rfl
   exact λn=>(zX.1 n).elim hc λh=>d (zU.1 h).symm
theorem Qcn(s:N):Y9 s=(Qs 10 s).dropLast:=by
 unfold Y9;have h:=II s s.data.toList 0 0 [] [] rfl (yE _) (yA _) rfl (by simp);rw[Ei] at h;rw[show zQ (zE s:Y)=s.size by omega,show(([]:W N),(0:Y))=([],((0:K):Y)) from rfl,h];rfl
theorem Qlw{s:N}{n:K}(h:s.size<=n):∀y,y∈Y9 s->y.size<=n:=λy a=>by
 rw[Qcn] at a;have:=(Si 10 s).2 y ((List.dropLast_sublist _).subset a);omega
open GoE (enc wide)
def Qq(a:N):Y×Qw×H:=(bif decide (((Qs 10 a).length:Y)<(2:Y)) then(0,(([], [],0), []),L) else(bif ((!((Qf (nth (Qs 10 a) 0)).2))|| ((!(((Xk (zF 1 (zJ (((Qs 10 a).length:Y)-1).toNat (Qs 10 a))))).2))|| (!((W1 ((Qf (nth (Qs 10 a) 0)).1) (((Xk (zF 1 (zJ (((Qs 10 a).length:Y)-1).toNat (Qs 10 a))))).1)).toList==a.toList)))) then(0,(([], [],0), []),L) else((Qf (nth (Qs 10 a) 0)).1,(((Xk (zF 1 (zJ (((Qs 10 a).length:Y)-1).toNat (Qs 10 a))))).1),Q)))
theorem Ph(a:N)(i:zE a<=1073741000):ACalls uQ 118 [.s a] (.tup [(L, [.i (((Qq a)).1)]),(Q, [.o 0 ((((Qq a)).2.1).1.1),.o 1 ((((Qq a)).2.1).1.2.1),.i ((((Qq a)).2.1).1.2.2),.o 2 ((((Qq a)).2.1).2)]),(L, [.b (((Qq a)).2.2)])]):=by
 refine en func118 λ_ _ _=>?_
 have j:=JQ 10 a;refine sn [0,2,3,4] [3] p0<|stT 0 0 a (λk=>?_)
 refine tn [0,2,3,4,5] [3] (pc 1 (Td a 10 (by omega)) p0)<|Qa<|tu [(2,.i 0),(3,.p 3 0),(4,.b L),(5,.o 704 (Qs 10 a)),(14,.b (decide (((Qs 10 a).length:Y)<(2:Y))))] [] [(3, [.e 2,.e 5,.i 0,.e 2])] [] (pl 1 (Qs 10 a) p0)<|ck (decide (((Qs 10 a).length:Y)<(2:Y))) (λe=>?_) (λe=>?_)
 ·refine su [] [14] [] [] p0<|opn [(Q,3,0,Q,384000,2),(Q,3,1,Q,384001,5),(Q,3,3,Q,384002,2)] ?_
  exact Qc<|pz [] (show Qq a=_ from Xg e rfl) (λz=> .tup [(L, [.i z.1]),(Q, [.o 0 z.2.1.1.1,.o 1 z.2.1.1.2.1,.i z.2.1.1.2.2,.o 2 z.2.1.2]),(L, [.b z.2.2])])
 have l:=uA e;refine Qd<|wT 5 0 (.own Q 704) (Qs 10 a) (λm o=>?_)
 have g:=ng (Qs 10 a) 0;refine sn [0,2,3,4,5,6,7] [3] (pG 1 0 g (pc 3 (Au (nth (Qs 10 a) 0)) p0))<|tn [0,2,3,4,6,7,8,9] [3,8] (pl 2 (Qs 10 a) (pe 3 (G6 (IntWalk.i64_in (((Qs 10 a).length:Y)-1) (by omega))) (pe 4 (Qqq (.vw 704) 1 1 (((Qs 10 a).length:Y)-1).toNat 1 (((Qs 10 a).length:Y)-1) (Qs 10 a) rfl rfl) (px (Gt (lo:=1) (hi:=(((Qs 10 a).length:Y)-1)) (n:=(zD (eL (Qs 10 a)))) (Qgm (by omega) (by omega) (by omega))) (pc 5 (Su (zF 1 (zJ (((Qs 10 a).length:Y)-1).toNat (Qs 10 a))) (λy p=>yB ((Si 10 a).2 y (List.mem_of_mem_take (yF p))) i)) p0)))))<|Qa<|Qa<|mz [(6,.i ((Qf (nth (Qs 10 a) 0)).1)),(7,.b ((Qf (nth (Qs 10 a) 0)).2)),(8,.p 8 0),(9,.b (((Xk (zF 1 (zJ (((Qs 10 a).length:Y)-1).toNat (Qs 10 a))))).2))] [5,14] [(8, [.o 1856 ((((Xk (zF 1 (zJ (((Qs 10 a).length:Y)-1).toNat (Qs 10 a))))).1).1.1),.o 1857 ((((Xk (zF 1 (zJ (((Qs 10 a).length:Y)-1).toNat (Qs 10 a))))).1).1.2.1),.i ((((Xk (zF 1 (zJ (((Qs 10 a).length:Y)-1).toNat (Qs 10 a))))).1).1.2.2),.o 1858 ((((Xk (zF 1 (zJ (((Qs 10 a).length:Y)-1).toNat (Qs 10 a))))).1).2)])] []<|jn [(44,.b ((!((Qf (nth (Qs 10 a) 0)).2))|| ((!(((Xk (zF 1 (zJ (((Qs 10 a).length:Y)-1).toNat (Qs 10 a))))).2))|| (!((W1 ((Qf (nth (Qs 10 a) 0)).1) (((Xk (zF 1 (zJ (((Qs 10 a).length:Y)-1).toNat (Qs 10 a))))).1)).toList==a.toList)))))] [0,7,9] [] [] (!((Qf (nth (Qs 10 a) 0)).2)) (λd=>?_) (λd=>?_) ?_
 ·have b:((Qf (nth (Qs 10 a) 0)).2)=L:=V1 d;refine rn [2,3,4,6,8,44] [3,8] (pf 0 b (pe 1 (show .b (!L)= .b Q from rfl) p0)) ?_;exact zA (by rw[d]<;>kernel_rfl)
 ·have b:((Qf (nth (Qs 10 a) 0)).2)=Q:=Z5 d;refine X4 (!(((Xk (zF 1 (zJ (((Qs 10 a).length:Y)-1).toNat (Qs 10 a))))).2)) (λf=>?_) (λf=>?_)
  ·have c:(((Xk (zF 1 (zJ (((Qs 10 a).length:Y)-1).toNat (Qs 10 a))))).2)=L:=V1 f;refine rn [2,3,4,6,8,44] [3,8] (pt 0 b (pe 1 (show .b (!Q)= .b L from rfl) (pf 3 c (pe 4 (show .b (!L)= .b Q from rfl) p0)))) ?_;exact zA (by rw[d,f]<;>kernel_rfl)
  have c:(((Xk (zF 1 (zJ (((Qs 10 a).length:Y)-1).toNat (Qs 10 a))))).2)=Q:=Z5 f;refine rn [2,3,4,6,8,44] [3,8] (pt 0 b (pe 1 (show .b (!Q)= .b L from rfl) (pt 3 c (pe 4 (show .b (!Q)= .b L from rfl) (pc 9 (VG ((Qf (nth (Qs 10 a) 0)).1) (((Xk (zF 1 (zJ (((Qs 10 a).length:Y)-1).toNat (Qs 10 a))))).1)) p0))))) ?_;exact zA (by rw[d,f]<;>kernel_rfl)
 refine ck ((!((Qf (nth (Qs 10 a) 0)).2))|| ((!(((Xk (zF 1 (zJ (((Qs 10 a).length:Y)-1).toNat (Qs 10 a))))).2))|| (!((W1 ((Qf (nth (Qs 10 a) 0)).1) (((Xk (zF 1 (zJ (((Qs 10 a).length:Y)-1).toNat (Qs 10 a))))).1)).toList==a.toList)))) (λh=>?_) (λh=>?_)
 ·refine su [] [44] [] [] p0<|opn [(Q,3,0,Q,384000,2),(Q,3,1,Q,384001,5),(Q,3,3,Q,384002,2)] ?_
  exact Qc<|pz [] (show Qq a=_ from Qi e (Xg h rfl)) (λz=> .tup [(L, [.i z.1]),(Q, [.o 0 z.2.1.1.1,.o 1 z.2.1.1.2.1,.i z.2.1.1.2.2,.o 2 z.2.1.2]),(L, [.b z.2.2])])
 exact Qd<|sN [2,3,4] [3] p0<|Qc<|pz [] (show Qq a=_ from Qi e (Qi h rfl)) (λz=> .tup [(L, [.i z.1]),(Q, [.o 0 z.2.1.1.1,.o 1 z.2.1.1.2.1,.i z.2.1.1.2.2,.o 2 z.2.1.2]),(L, [.b z.2.2])])
def Xf(a:N):Y×Qw×H:=(bif (((Y9 a).length:Y)==(0:Y)) then(0,(([], [],0), []),L) else(bif ((!(((Xx (zF 1 (Y9 a)))).2))|| (!((Bl (((Xn (nth (Y9 a) 0))).1) (((Xx (zF 1 (Y9 a)))).1)).toList==a.toList))) then(0,(([], [],0), []),L) else(((Xn (nth (Y9 a) 0))).1,(((Xx (zF 1 (Y9 a)))).1),Q)))
theorem Pi(a:N)(g:zE a<=1073741000):ACalls uQ 103 [.s a] (.tup [(L, [.i (((Xf a)).1)]),(Q, [.o 0 ((((Xf a)).2.1).1.1),.o 1 ((((Xf a)).2.1).1.2.1),.i ((((Xf a)).2.1).1.2.2),.o 2 ((((Xf a)).2.1).2)]),(L, [.b (((Xf a)).2.2)])]):=by
 refine en func103 λ_ _ _=>sn [0,2,3,4] [3] p0 ?_
 refine tn [0,2,3,4,5] [3] (pc 1 (OG a (by omega)) p0)<|Qa<|tu [(2,.i 0),(3,.p 3 0),(4,.b L),(5,.o 704 (Y9 a)),(14,.b (((Y9 a).length:Y)==(0:Y)))] [] [(3, [.e 2,.e 5,.i 0,.e 2])] [] (pl 1 (Y9 a) p0)<|ck (((Y9 a).length:Y)==(0:Y)) (λc=>?_) (λc=>?_)
 ·refine su [] [14] [] [] p0<|opn [(Q,3,0,Q,384000,2),(Q,3,1,Q,384001,5),(Q,3,3,Q,384002,2)] ?_
  exact Qc<|pz [] (show Xf a=_ from Xg c rfl) (λz=> .tup [(L, [.i z.1]),(Q, [.o 0 z.2.1.1.1,.o 1 z.2.1.1.2.1,.i z.2.1.1.2.2,.o 2 z.2.1.2]),(L, [.b z.2.2])])
 have h:=Yi c;refine Qd<|wT 5 0 (.own Q 704) (Y9 a) (λi j=>?_)
 have e:=ng (Y9 a) 0;refine sn [0,2,3,4,5,6] [3] (pG 1 0 e (pc 3 (Lw (nth (Y9 a) 0)) p0))<|tn [0,2,3,4,6,8,9] [3,8] (pe 1 (Tz (.vw 704) 1 1 1 (Y9 a) rfl) (px (Gt (lo:=1) (hi:=(((eL (Y9 a)):W (W PV)).length:Y)) (n:=(zD (eL (Y9 a)))) (T0 (by omega) (by omega))) (pc 2 (Sv (zF 1 (Y9 a)) (λy k=>Qlw g y (yF k))) p0)))<|Qa<|Qa<|mz [(6,.i (((Xn (nth (Y9 a) 0))).1)),(8,.p 8 0),(9,.b (((Xx (zF 1 (Y9 a)))).2))] [5,14] [(8, [.o 1664 ((((Xx (zF 1 (Y9 a)))).1).1.1),.o 1665 ((((Xx (zF 1 (Y9 a)))).1).1.2.1),.i ((((Xx (zF 1 (Y9 a)))).1).1.2.2),.o 1666 ((((Xx (zF 1 (Y9 a)))).1).2)])] []<|jn [(37,.b ((!(((Xx (zF 1 (Y9 a)))).2))|| (!((Bl (((Xn (nth (Y9 a) 0))).1) (((Xx (zF 1 (Y9 a)))).1)).toList==a.toList))))] [0,9] [] [] (!(((Xx (zF 1 (Y9 a)))).2)) (λd=>?_) (λd=>?_) ?_
 ·have b:(((Xx (zF 1 (Y9 a)))).2)=L:=V1 d;refine rn [2,3,4,6,8,37] [3,8] (pf 0 b (pe 1 (show .b (!L)= .b Q from rfl) p0)) ?_;exact zA (by rw[d]<;>kernel_rfl)
 ·have b:(((Xx (zF 1 (Y9 a)))).2)=Q:=Z5 d;refine rn [2,3,4,6,8,37] [3,8] (pt 0 b (pe 1 (show .b (!Q)= .b L from rfl) (pc 5 (VH (((Xn (nth (Y9 a) 0))).1) (((Xx (zF 1 (Y9 a)))).1)) p0))) ?_;exact zA (by rw[d]<;>kernel_rfl)
 refine ck ((!(((Xx (zF 1 (Y9 a)))).2))|| (!((Bl (((Xn (nth (Y9 a) 0))).1) (((Xx (zF 1 (Y9 a)))).1)).toList==a.toList))) (λf=>?_) (λf=>?_)
 ·refine su [] [37] [] [] p0<|opn [(Q,3,0,Q,384000,2),(Q,3,1,Q,384001,5),(Q,3,3,Q,384002,2)] ?_
  exact Qc<|pz [] (show Xf a=_ from Qi c (Xg f rfl)) (λz=> .tup [(L, [.i z.1]),(Q, [.o 0 z.2.1.1.1,.o 1 z.2.1.1.2.1,.i z.2.1.1.2.2,.o 2 z.2.1.2]),(L, [.b z.2.2])])
 exact Qd<|sN [2,3,4] [3] p0<|Qc<|pz [] (show Xf a=_ from Qi c (Qi f rfl)) (λz=> .tup [(L, [.i z.1]),(Q, [.o 0 z.2.1.1.1,.o 1 z.2.1.1.2.1,.i z.2.1.1.2.2,.o 2 z.2.1.2]),(L, [.b z.2.2])])
def Y8(d:N6):Y×Qw×H×H:=(bif (((Qq d.2)).2.2&&((!(((Qq d.1)).2.2))|| decide (((Qq d.2)).1>((Qq d.1)).1))) then(((Qq d.2)).1,(((Qq d.2)).2.1),Q,L) else(((Qq d.1)).1,(((Qq d.1)).2.1),((Qq d.1)).2.2,((Qq d.1)).2.2))
theorem VK(d:N6)(h:zE d.1<=1073741000)(i:zE d.2<=1073741000):ACalls uQ 66 [.a [.s d.1,.s d.2]] (.tup [(L, [.i (((Y8 d)).1)]),(Q, [.o 0 ((((Y8 d)).2.1).1.1),.o 1 ((((Y8 d)).2.1).1.2.1),.i ((((Y8 d)).2.1).1.2.2),.o 2 ((((Y8 d)).2.1).2)]),(L, [.b (((Y8 d)).2.2.1)]),(L, [.b (((Y8 d)).2.2.2)])]):=by
 refine en func66 λ_ _ _=>sn [1,2,3,4,5] [1,3] p0 ?_
 refine tn [1,2,3,4,5,6,7,8] [1,3,7] (pc 2 (Ph d.1 (by assumption)) p0)<|tu [(2,.i 0),(3,.p 3 0),(4,.b L),(5,.b L),(6,.i (((Qq d.1)).1)),(7,.p 7 0),(8,.b (((Qq d.1)).2.2)),(9,.i (((Qq d.2)).1)),(10,.p 10 0),(11,.b (((Qq d.2)).2.2))] [0] [(3, [.e 2,.e 5,.i 0,.e 2]),(7, [.o 960 ((((Qq d.1)).2.1).1.1),.o 961 ((((Qq d.1)).2.1).1.2.1),.i ((((Qq d.1)).2.1).1.2.2),.o 962 ((((Qq d.1)).2.1).2)]),(10, [.o 1408 ((((Qq d.2)).2.1).1.1),.o 1409 ((((Qq d.2)).2.1).1.2.1),.i ((((Qq d.2)).2.1).1.2.2),.o 1410 ((((Qq d.2)).2.1).2)])] [] (pc 2 (Ph d.2 (by assumption)) p0)<|Qa<|Qa<|jn [(35,.b (((Qq d.2)).2.2&&((!(((Qq d.1)).2.2))|| decide (((Qq d.2)).1>((Qq d.1)).1))))] [11] [] [] (((Qq d.2)).2.2) (λa=>?_) (λa=>?_) ?_
 ·refine X4 (!(((Qq d.1)).2.2)) (λc=>?_) (λc=>?_)
  ·have b:(((Qq d.1)).2.2)=L:=V1 c;refine ru [(35,.b Q)] [11] [] [] (pt 0 a (pf 2 b (pe 3 (show .b (!L)= .b Q from rfl) p0))) ?_;exact zA (by rw[a,c]<;>kernel_rfl)
  have b:(((Qq d.1)).2.2)=Q:=Z5 c;refine rn [2,3,4,5,6,7,8,9,10,35] [3,7,10] (pt 0 a (pt 2 b (pe 3 (show .b (!Q)= .b L from rfl) p0))) ?_;exact zA (by rw[a,c]<;>kernel_rfl)
 ·refine ru [(35,.b L)] [11] [] [] (pf 0 a p0) ?_;exact zA (by rw[a]<;>kernel_rfl)
 refine ck (((Qq d.2)).2.2&&((!(((Qq d.1)).2.2))|| decide (((Qq d.2)).1>((Qq d.1)).1))) (λe=>?_) (λe=>?_)
 ·have f:(((Qq d.2)).2.2)=Q:=MW e;have g:(((!(((Qq d.1)).2.2))|| decide (((Qq d.2)).1>((Qq d.1)).1)))=Q:=CF e;exact sN [2,3,4,5,6,7,8] [3,7] p0<|Qc<|pz [] (show Y8 d=_ from Xg e rfl) (λz=> .tup [(L, [.i z.1]),(Q, [.o 0 z.2.1.1.1,.o 1 z.2.1.1.2.1,.i z.2.1.1.2.2,.o 2 z.2.1.2]),(L, [.b z.2.2.1]),(L, [.b z.2.2.2])])
 exact Qd<|sN [2,3,4,5] [3] p0<|Qc<|pz [] (show Y8 d=_ from Qi e rfl) (λz=> .tup [(L, [.i z.1]),(Q, [.o 0 z.2.1.1.1,.o 1 z.2.1.1.2.1,.i z.2.1.1.2.2,.o 2 z.2.1.2]),(L, [.b z.2.2.1]),(L, [.b z.2.2.2])])
def Zs(d:N6):Y×Qw×H×H:=(bif (((Xf d.1)).2.2&&((!(((Xf d.2)).2.2))|| decide (((Xf d.1)).1>=((Xf d.2)).1))) then(((Xf d.1)).1,(((Xf d.1)).2.1),Q,Q) else(((Xf d.2)).1,(((Xf d.2)).2.1),((Xf d.2)).2.2,L))
theorem BB(d:N6)(h:zE d.1<=1073741000)(i:zE d.2<=1073741000):ACalls uQ 52 [.a [.s d.1,.s d.2]] (.tup [(L, [.i (((Zs d)).1)]),(Q, [.o 0 ((((Zs d)).2.1).1.1),.o 1 ((((Zs d)).2.1).1.2.1),.i ((((Zs d)).2.1).1.2.2),.o 2 ((((Zs d)).2.1).2)]),(L, [.b (((Zs d)).2.2.1)]),(L, [.b (((Zs d)).2.2.2)])]):=by
 refine en func52 λ_ _ _=>sn [1,2,3,4,5] [1,3] p0 ?_
 refine tn [1,2,3,4,5,6,7,8] [1,3,7] (pc 2 (Pi d.1 (by assumption)) p0)<|tu [(2,.i 0),(3,.p 3 0),(4,.b L),(5,.b L),(6,.i (((Xf d.1)).1)),(7,.p 7 0),(8,.b (((Xf d.1)).2.2)),(9,.i (((Xf d.2)).1)),(10,.p 10 0),(11,.b (((Xf d.2)).2.2))] [0] [(3, [.e 2,.e 5,.i 0,.e 2]),(7, [.o 960 ((((Xf d.1)).2.1).1.1),.o 961 ((((Xf d.1)).2.1).1.2.1),.i ((((Xf d.1)).2.1).1.2.2),.o 962 ((((Xf d.1)).2.1).2)]),(10, [.o 1408 ((((Xf d.2)).2.1).1.1),.o 1409 ((((Xf d.2)).2.1).1.2.1),.i ((((Xf d.2)).2.1).1.2.2),.o 1410 ((((Xf d.2)).2.1).2)])] [] (pc 2 (Pi d.2 (by assumption)) p0)<|Qa<|Qa<|jn [(35,.b (((Xf d.1)).2.2&&((!(((Xf d.2)).2.2))|| decide (((Xf d.1)).1>=((Xf d.2)).1))))] [8] [] [] (((Xf d.1)).2.2) (λa=>?_) (λa=>?_) ?_
 ·refine X4 (!(((Xf d.2)).2.2)) (λc=>?_) (λc=>?_)
  ·have b:(((Xf d.2)).2.2)=L:=V1 c;refine ru [(35,.b Q)] [8] [] [] (pt 0 a (pf 2 b (pe 3 (show .b (!L)= .b Q from rfl) p0))) ?_;exact zA (by rw[a,c]<;>kernel_rfl)
  have b:(((Xf d.2)).2.2)=Q:=Z5 c;refine rn [2,3,4,5,6,7,9,10,11,35] [3,7,10] (pt 0 a (pt 2 b (pe 3 (show .b (!Q)= .b L from rfl) p0))) ?_;exact zA (by rw[a,c]<;>kernel_rfl)
 ·refine ru [(35,.b L)] [8] [] [] (pf 0 a p0) ?_;exact zA (by rw[a]<;>kernel_rfl)
 refine ck (((Xf d.1)).2.2&&((!(((Xf d.2)).2.2))|| decide (((Xf d.1)).1>=((Xf d.2)).1))) (λe=>?_) (λe=>?_)
 ·have f:(((Xf d.1)).2.2)=Q:=MW e;have g:(((!(((Xf d.2)).2.2))|| decide (((Xf d.1)).1>=((Xf d.2)).1)))=Q:=CF e;exact sN [2,3,4,5,9,10,11] [3,10] p0<|Qc<|pz [] (show Zs d=_ from Xg e rfl) (λz=> .tup [(L, [.i z.1]),(Q, [.o 0 z.2.1.1.1,.o 1 z.2.1.1.2.1,.i z.2.1.1.2.2,.o 2 z.2.1.2]),(L, [.b z.2.2.1]),(L, [.b z.2.2.2])])
 exact Qd<|sN [2,3,4,5] [3] p0<|Qc<|pz [] (show Zs d=_ from Qi e rfl) (λz=> .tup [(L, [.i z.1]),(Q, [.o 0 z.2.1.1.1,.o 1 z.2.1.1.2.1,.i z.2.1.1.2.2,.o 2 z.2.1.2]),(L, [.b z.2.2.1]),(L, [.b z.2.2.2])])
theorem Qnc(t:N):∀(n k:K) (s:Y),0<=s->s<10^k->k+n<=10->K0 (Kq t) Ht n k s= .ret (0,L)\/∃y,K0 (Kq t) Ht n k s= .brk y/\0<=y
 | 0,k,s,h0,_,_=> .inr ⟨s,rfl,h0⟩
 | n + 1,k,s,h0,h1,hk=>by
   cases a:(decide (Jl t ((k:K):Y)<(48:Y))|| decide (Jl t ((k:K):Y)>(57:Y))) with
   | true=>
     refine .inl (EP ?_);unfold Kq;rw[a,I]
   | false=>
     obtain⟨d,e⟩:=bo a;have d:=uA d;have e:=uA e;have b:=TG (c:=Jl t ((k:K):Y)) h0 h1 (by omega) (by omega) (by omega)
     have f:Kq t k s= .next (10*s+(Jl t ((k:K):Y)-48)):=by
      unfold Kq;rw[a,J,b.1]
     rw[Mw f];exact Qnc t n (k+1) _ b.2.1 b.2.2 (by omega)
theorem ON(t:N):∀(a:W uJ) (k acc m:K),t.data.toList.drop k=a->(acc:Y)<10^k->k+a.length<=10->Lib.decFrom acc a=E m->K0 (Kq t) Ht a.length k (acc:Y)= .brk (m:Y)
 | [],k,acc,m,_,_,_,h=>by
   obtain rfl:acc=m:=by simpa [Lib.decFrom] using h
   rfl
 | b ::a,k,acc,m,hr,hlt,hk,h=>by
   obtain⟨g,hd,_⟩:=Fj hr;rw[List.length_cons] at hk⊢;simp only[Lib.decFrom] at h;cases e:Lib.digitVal b with
   | none=>rw[e] at h;cases h
   | some d=>
     rw[e] at h
     have hb:(48<=b.toNat/\b.toNat<=57)/\b.toNat-48=d:=by
      unfold Lib.digitVal at e;split at e
      . rename_i hb;exact⟨hb,yM e⟩
      cases e
     have j:=Ni g;have f:=TG (s:=(acc:Y)) (c:=Jl t ((k:K):Y)) (by omega) hlt (by omega) (by omega) (by omega)
     have i:Kq t k (acc:Y)= .next (((acc*10+d:K)):Y):=by
      unfold Kq;rw[F (show¬Jl t ((k:K):Y)<48 by omega),F (show¬Jl t ((k:K):Y)>57 by omega),Bool.or_false,J,f.1]
      congr 1
      omega
     rw[Mw i];exact ON t a (k+1) _ m hd (by have:=f.2.2;omega) (by omega) h
theorem Es(t:N):Xn t=Qf t:=by
 unfold Xn Qf;cases a:G1 t with
 | some n=>
   obtain⟨i,rfl⟩:=YF a;have j:=Kb (n:=(n:Y)) (by omega);have b:=ON (Q7 (n:Y)) (Q7 (n:Y)).data.toList 0 0 n rfl (by decide) (by rw[Ei];omega) (by rw[Cc];exact Tj n);rw[Ei] at b;rw[F (show¬(zE (Q7 (n:Y)):Y)>10 by omega),J,show zQ (zE (Q7 (n:Y)):Y)=(Q7 (n:Y)).size by omega,show(0:Y)=((0:K):Y) from rfl,b];simp only[Out.on];rw[F (show¬(n:Y)>1000000000 by omega),uK];rfl
 | none =>
   cases c:decide ((zE t:Y)>(10:Y)) with
   | true=>rfl
   | false=>
     have c:=uA c;rcases Qnc t (zQ (zE t:Y)) 0 0 (by decide) (by decide) (by omega) with h | ⟨y,h,e⟩
     . rw[h];rfl
     rw[h];simp only[J,Out.on];cases f:(decide (y>(1000000000:Y))|| (!((Q7 y).toList==t.toList))) with
     | true=>rfl
     | false=>
       obtain⟨d,g⟩:=bo f;have d:=uA d;obtain⟨m,rfl⟩:=Int.eq_ofNat_of_zero_le e;rw[JN (n:=m) (by omega) (Wd (bn g))] at a;cases a
theorem YJ{n:Y}(h:0<=n/\n<=1000000000):Qf (Q7 n)=(n,Q):=by
 obtain⟨m,rfl⟩:=Int.eq_ofNat_of_zero_le h.1;unfold Qf;rw[JN (n:=m) (by omega) rfl]
theorem Qph:Qx ⟨#[45]⟩=((0,0,⟨#[]⟩),Q):=by kernel_rfl
theorem TY:Qx ⟨#[]⟩=((0,0,⟨#[]⟩),L):=by kernel_rfl
theorem YK(s:N):Xw s=Qx s:=by
 cases hd:(s.toList==(⟨#[45]⟩:N).toList) with
 | true=>
   rw[Wd hd,Qph];unfold Xw;rw[uK];rfl
 | false =>
   unfold Xw Qx;rw[hd,Es];simp only[J,yH,I];cases a:(Qf s).2 with
   | true =>
     simp only[I];have e:X2 (Jb (Qf s).1)=Xd (Kv (Qf s).1):=rfl;rw[e];cases b:Xd (Kv (Qf s).1) with
     | false=>rfl
     | true=>
       have c:Zk (Jb (Qf s).1)=s:=by
        unfold Zk;rw[e,b]
        have f:Q7 (Qf s).1=s:=by
         unfold Qf at a⊢;cases d:G1 s with
         | none=>rw[d] at a;cases a
         | some n=>exact(YF d).2
        exact f
       rw[c,uK];rfl
   | false=>
     simp only[J];have e:X2 (Y7 s)=Xd (Jk s):=rfl;rw[e];cases b:Xd (Jk s) with
     | false=>rfl
     | true=>
       have c:Zk (Y7 s)=s:=by
        unfold Zk;rw[e,b];rfl
       rw[c,uK];rfl
theorem BC{v:Va}(h:Xd v=Q)(c:v.1≠0):(v.1=1/\(0<=v.2.1/\v.2.1<=999)/\v.2.2=⟨#[]⟩)\/(v.1=2/\v.2.1=0/\Xl v.2.2=Q):=by
 cases a:(v.1==(1:Y)) with
 | true=>
   refine .inl ⟨eq_of_beq a,IC h a, ?_⟩;unfold Xd at h;rw[eq_of_beq a] at h;simp only[show((1:Y)==0)=L from rfl,show((1:Y)==1)=Q from rfl,I,J,zT] at h;exact Wd h.2
 | false=>
   cases b:(v.1==(2:Y)) with
   | true=>have:=Qh1 h b;exact .inr ⟨eq_of_beq b,this.2,this.1⟩
   | false=>
     exfalso;unfold Xd at h;have e0:(v.1==(0:Y))=L:=by simpa using c
     rw[e0,a,b] at h;cases h
theorem YL{n:Y}(h:0<=n):Word (Q7 n):=by
 obtain⟨m,rfl⟩:=Int.eq_ofNat_of_zero_le h;refine⟨?_,λb hb=>?_⟩
 . have a:=AT m;rw[←Cc] at a;have c:=Ei (Q7 (m:Y));have d:=List.length_pos_iff.2 a;show 1<=(Q7 (m:Y)).size;omega
 have hb:b∈(Q7 (m:Y)).data.toList:=hb;rw[Cc] at hb;have:=JM m b hb;omega
theorem EQ{s:N}(c:1<=s.size)(h:∀k:K,k<s.size->97<=Jl s (k:Y)/\Jl s (k:Y)<=122):Word s:=by
 refine⟨c,λb hb=>?_⟩;obtain⟨i,hi⟩:=yL hb;have a:=(yQ.1 hi).1;rw[Ei] at a;have d:=h i a;rw[Ni hi] at d;omega
theorem IJ{s:N}(h:Xl s=Q):Word s:=by
 have l:=Fi h;refine EQ l.1 λk q=>?_
 unfold Xl at h
 have key:∀(n j:K),K0 (Yb s) Ku n j ()= .brk ()->∀i,j<=i->i<j+n->97<=Jl s (i:Y)/\Jl s (i:Y)<=122:=by
  intro n
  induction n with
  | zero=>intro j _ i m o;omega
  | succ n d=>
    intro j c i m o;cases b:(decide (Jl s ((j:K):Y)<(97:Y))|| decide (Jl s ((j:K):Y)>(122:Y))) with
    | true=>
      have a:Yb s j ()= .ret L:=by unfold Yb;rw[b,I]
      rw[EP a] at c;cases c
    | false=>
      have a:Yb s j ()= .next ():=by unfold Yb;rw[b,J]
      rw[Mw a] at c;obtain⟨f,g⟩:=bo b;have f:=uA f;have g:=uA g;by_cases e:i=j
      . subst e;omega
      exact d (j+1) c i (by omega) (by omega)
 cases a:K0 (Yb s) Ku (zQ (s.size:Y)) 0 () with
 | brk t=>exact key _ _ a k (yA _) (by omega)
 | ret r =>
   exfalso;rw[a] at h;obtain rfl:r=Q:=h
   have p:∀n j,K0 (Yb s) Ku n j ()≠ .ret Q:=by
    intro n
    induction n with
    | zero=>intro j h;simp[K0] at h
    | succ n d=>
      intro j h;cases b:(decide (Jl s ((j:K):Y)<(97:Y))|| decide (Jl s ((j:K):Y)>(122:Y))) with
      | true=>
        have a:Yb s j ()= .ret L:=by unfold Yb;rw[b,I]
        rw[EP a] at h;simp at h
      | false=>
        have a:Yb s j ()= .next ():=by unfold Yb;rw[b,J]
        rw[Mw a] at h;exact d _ h
   exact p _ _ a
theorem BD{s:N}(h:Qz s=Q):Word s:=by
 have a:=GJ h;unfold Qz at h;simp only[zT,uH] at h;refine EQ (by omega) λk b=>?_
 obtain rfl:k=0:=by omega
 exact⟨h.2.1,h.2.2⟩
theorem Qco{v:Va}(h:Xd v=Q)(c:v.1≠0):Word (X1 v):=by
 unfold X1;rw[h];rcases BC h c with⟨a,b,_⟩ | ⟨a,_,b⟩
 . rw[a];exact YL b.1
 rw[a];exact IJ b
theorem OO{v:Va}(h:Xd v=Q)(i:v.1≠0):Qx (X1 v)=(v,Q):=by
 obtain⟨k,n,s⟩:=v;rcases BC h i with⟨d,c,a⟩ | ⟨d,c,a⟩
 . obtain rfl:k=1:=d;obtain rfl:s=⟨#[]⟩:=a;have c:0<=n/\n<=999:=c;have e:X1 (1,n,⟨#[]⟩)=Q7 n:=by unfold X1;rw[h];rfl
   rw[e];unfold Qx;rw[YJ (by omega),show Kv n=((1,n,⟨#[]⟩):Va) from rfl,h];rfl
 obtain rfl:k=2:=d;obtain rfl:n=0:=c;have a:Xl s=Q:=a;have e:X1 (2,0,s)=s:=by unfold X1;rw[h];rfl
 rw[e];unfold Qx
 have hu:(Qf s).2=L:=by
  unfold Qf;cases j:G1 s with
  | none=>rfl
  | some m=>
    exfalso;obtain⟨_,rfl⟩:=YF j;have hw:=JM m;have t:=Fi a;have l:=AT m;cases f:Lib.decDigits m with
    | nil=>exact l f
    | cons b r=>
      have hb:=hw b (by rw[f];exact zN ..);have g:(Q7 (m:Y)).data.toList[0]? =E b:=by rw[Cc,f];rfl
      unfold Xl at a;obtain⟨q,hq⟩:∃q,zQ (((Q7 (m:Y)).size:K):Y)=q+1:=⟨(Q7 (m:Y)).size-1,by omega⟩;rw[hq] at a
      have o:Yb (Q7 (m:Y)) 0 ()= .ret L:=by
       unfold Yb;rw[Ni g,uC (show(b.toNat:Y)<97 by omega)];rfl
      rw[EP o] at a;cases a
 have hd:(s.toList==(⟨#[45]⟩:N).toList)=L:=by
  cases p:(s.toList==(⟨#[45]⟩:N).toList) with
  | false=>rfl
  | true=>
    exfalso;rw[Wd p] at a;exact absurd a (by decide)
 rw[hu,hd,show Jk s=((2,0,s):Va) from rfl,h];rfl
abbrev NZ:Va:=(0,0,⟨#[]⟩)
inductive Pr:W N->W Q9->W N->W Q9->Prop
 | all {w:N} {r:W N} {q:W Q9}:Tk w=1->Pr (w::r) q r (q++ [((1,0,0,⟨#[]⟩,NZ):Q9)])
 | nm {w x:N} {r:W N} {q:W Q9} {op:Y}:Tk w=op->op=2\/op=8\/op=9->Pr (w::x::r) q r (q++ [((op,0,0,x,NZ):Q9)])
 | vl {w x y:N} {r:W N} {q:W Q9} {op:Y}:Tk w=op->op=3\/op=4->(Qx y).2=Q->Pr (w::x::y::r) q r (q++ [((op,0,0,x,(Qx y).1):Q9)])
 | nt {w:N} {r r1:W N} {q q1:W Q9}:Tk w=5->Pr r q r1 q1->Pr (w::r) q r1 (q1++ [((5,(q1.length:Y)-1,0,⟨#[]⟩,NZ):Q9)])
 | tw {w:N} {r r1 r2:W N} {q q1 q2:W Q9} {op:Y}:Tk w=op->op=6\/op=7->Pr r q r1 q1->Pr r1 q1 r2 q2->Pr (w::r) q r2 (q2++ [((op,(q1.length:Y)-1,(q2.length:Y)-1,⟨#[]⟩,NZ):Q9)])
theorem Pr.len{r a:W N}{q b:W Q9}(h:Pr r q a b):q.length<b.length/\a.length<r.length/\r.length+2*q.length<=a.length+2*b.length+1:=by
 induction h<;>simp only[zG,List.length_cons,List.length_nil]<;>omega
theorem Pr.suf{r r':W N}{q a:W Q9}(h:Pr r q r' a):r'=r.drop (r.length-r'.length):=by
 have key:∃u,r=u++r':=by
  induction h with
  | @all w r=>exact⟨[w],rfl⟩
  | @nm w x r=>exact⟨[w,x],rfl⟩
  | @vl w x y r=>exact⟨[w,x,y],rfl⟩
  | @nt w _ _ _ _ _ _ ih=>obtain⟨u,rfl⟩:=ih;exact⟨w::u,rfl⟩
  | @tw w _ _ _ _ _ _ _ _ _ _ _ ih1 ih2=>
    obtain⟨u,rfl⟩:=ih2;obtain⟨b,rfl⟩:=ih1;exact⟨w::(b++u),by simp⟩
 obtain⟨u,rfl⟩:=key;rw[zG,Nat.add_sub_cancel,List.drop_left]
def Qpi(n:K)(c:N×(W N)×(W Q9))(a:Y):H×(W N)×(W Q9):=
 bif (bif (a==(2:Y)) then(a==(2:Y)) else(bif (a==(8:Y)) then(a==(8:Y)) else(a==(9:Y)))) then
  ((a !=(0:Y)),(Zl c.2.1 c.2.2).2.1,(Zl c.2.1 c.2.2).2.2++ [((a,0,0,(Zl c.2.1 c.2.2).1,NZ):Q9)])
 else bif (bif (a==(3:Y)) then(a==(3:Y)) else(a==(4:Y))) then
  lt (Zl c.2.1 c.2.2) λg=>lt (Zl g.2.1 g.2.2) λd=>((Qx d.1).2,d.2.1,d.2.2++ [((a,0,0,g.1,(Qx d.1).1):Q9)])
 else bif (a==(5:Y)) then
  lt (Xz n c.2.1 c.2.2) λe=>(e.1,e.2.1,e.2.2++ [((a,((e.2.2.length:Y)-1),0,⟨#[]⟩,NZ):Q9)])
 else bif (bif (a==(6:Y)) then(a==(6:Y)) else(a==(7:Y))) then
  lt (Xz n c.2.1 c.2.2) λb=>bif b.1 then
   lt (Xz n b.2.1 b.2.2) λf=>(f.1,f.2.1,f.2.2++ [((a,((b.2.2.length:Y)-1),((f.2.2.length:Y)-1),⟨#[]⟩,NZ):Q9)])
  else(L,b.2.1,b.2.2++ [((a,((b.2.2.length:Y)-1),((b.2.2.length:Y)-1),⟨#[]⟩,NZ):Q9)])
 else((a !=(0:Y)),c.2.1,c.2.2++ [((a,0,0,⟨#[]⟩,NZ):Q9)])
theorem QE(n:K)(a:W N)(bn:W Q9):Xz (n+1) a bn=Qpi n (Zl a bn) (Tk (Zl a bn).1):=by
 unfold Xz lt;dsimp only;rw[Ru (f:=Oj (Zl a bn)) (e:=Ok) (p:=λk=>(Qy ((k+1:K):Y)).toList==(Zl a bn).1.toList) (λ_ _=>rfl) (λ_ _=>rfl)];rfl
theorem Fk(w:N)(r:W N)(q:W Q9):Zl (w::r) q=(w,r,q):=rfl
theorem YM(q:W Q9):Zl [] q=(⟨#[]⟩, [],q):=rfl
theorem Qrk(n:K)(w:N)(r:W N)(q:W Q9):Qpi n (w,r,q) 5=((Xz n r q).1,(Xz n r q).2.1,(Xz n r q).2.2++ [((5,(((Xz n r q).2.2.length:Y)-1),0,⟨#[]⟩,NZ):Q9)]):=rfl
def Qrl(n:K)(r:W N)(q:W Q9)(a:Y):H×(W N)×(W Q9):=bif (Xz n r q).1 then((Xz n (Xz n r q).2.1 (Xz n r q).2.2).1,(Xz n (Xz n r q).2.1 (Xz n r q).2.2).2.1,(Xz n (Xz n r q).2.1 (Xz n r q).2.2).2.2++ [((a,(((Xz n r q).2.2.length:Y)-1),(((Xz n (Xz n r q).2.1 (Xz n r q).2.2).2.2.length:Y)-1),⟨#[]⟩,NZ):Q9)]) else(L,(Xz n r q).2.1,(Xz n r q).2.2++ [((a,(((Xz n r q).2.2.length:Y)-1),(((Xz n r q).2.2.length:Y)-1),⟨#[]⟩,NZ):Q9)])
theorem Qrm(n:K)(w:N)(r:W N)(q:W Q9){op:Y}(h:op=6\/op=7):Qpi n (w,r,q) op=Qrl n r q op:=by rcases h with rfl | rfl<;>rfl
theorem Qpj{r e:W N}{q f:W Q9}(h:Pr r q e f):∀n,r.length<n->Xz n r q=(Q,e,f):=by
 induction h with
 | all h=>
   intro n a;obtain⟨m,rfl⟩:∃m,n=m+1:=⟨n-1,by omega⟩;rw[QE,Fk];dsimp only;rw[h];rfl
 | nm h b=>
   intro n a;obtain⟨m,rfl⟩:∃m,n=m+1:=⟨n-1,by omega⟩;rw[QE,Fk];dsimp only;rw[h];rcases b with rfl | rfl | rfl<;>rfl
 | vl h b i=>
   intro n a;obtain⟨m,rfl⟩:∃m,n=m+1:=⟨n-1,by omega⟩;rw[QE,Fk];dsimp only;rw[h,←i];rcases b with rfl | rfl<;>rfl
 | nt h g j=>
   intro n a;obtain⟨m,rfl⟩:∃m,n=m+1:=⟨n-1,by omega⟩;simp only[List.length_cons] at a;rw[QE,Fk];dsimp only;rw[h];rw[Qrk,j m (by omega)]
 | tw h b g o c d=>
   intro n a;obtain⟨m,rfl⟩:∃m,n=m+1:=⟨n-1,by omega⟩;simp only[List.length_cons] at a;have p:=g.len;have k:=c m (by omega);have l:=d m (by omega);rw[QE,Fk];dsimp only;rw[h,Qrm _ _ _ _ b];unfold Qrl;rw[k];simp only[I];rw[l]
def Gd(q:W Q9):Prop:=∀x,x∈q->x.1=2\/x.1=3\/x.1=4\/x.1=8\/x.1=9->1<=x.2.2.2.1.size
theorem Gd.left{q p:W Q9}(h:Gd (q++p)):Gd q:=λx a=>h x (List.mem_append_left _ a)
theorem Gd.last{q:W Q9}{x:Q9}(h:Gd (q++ [x])):x.1=2\/x.1=3\/x.1=4\/x.1=8\/x.1=9->1<=x.2.2.2.1.size:=h x (List.mem_append_right _ (List.mem_singleton.2 rfl))
theorem Qnd(w:N):Tk w=0\/Tk w=1\/Tk w=2\/Tk w=3\/Tk w=4\/Tk w=5\/Tk w=6\/Tk w=7\/Tk w=8\/Tk w=9:=by have:=Qpf w;omega
theorem TZ{P:Prop}(h:1<=(⟨#[]⟩:N).size):P:=absurd h (by decide)
theorem IK:∀(n:K) (r:W N) (q:W Q9) (r':W N) (q':W Q9),Xz n r q=(Q,r',q')->Gd q'->Pr r q r' q'
 | 0,r,q,r',q',h,_=>by cases h
 | n+1, [],q,r',q',h,_=>by
   rw[QE,YM] at h;dsimp only at h;rw[IF] at h;cases h
 | n + 1,w::r,q,r',q',h,hg=>by
   rw[QE,Fk] at h;dsimp only at h
   have b:∀a:Y,Tk w=a->a=2\/a=8\/a=9->((a !=(0:Y)),(Zl r q).2.1,(Zl r q).2.2++ [((a,0,0,(Zl r q).1,NZ):Q9)])=(Q,r',q')->Pr (w::r) q r' q':=λa c d h=>by
    cases r with
    | nil=>
      rw[YM] at h;simp only[yJ] at h;obtain⟨_,_,rfl⟩:=h;exact TZ (hg.last (by show a=2\/_;omega))
    | cons x r=>
      rw[Fk] at h;simp only[yJ] at h;obtain⟨_,rfl,rfl⟩:=h;exact .nm c d
   have f:∀a:Y,Tk w=a->a=3\/a=4->((Qx (Zl (Zl r q).2.1 (Zl r q).2.2).1).2,(Zl (Zl r q).2.1 (Zl r q).2.2).2.1,(Zl (Zl r q).2.1 (Zl r q).2.2).2.2++ [((a,0,0,(Zl r q).1,(Qx (Zl (Zl r q).2.1 (Zl r q).2.2).1).1):Q9)])=(Q,r',q')->Pr (w::r) q r' q':=λa c d h=>by
    cases r with
    | nil=>
      rw[YM] at h;dsimp only at h;rw[YM,TY] at h;cases h
    | cons x r=>
      rw[Fk] at h;dsimp only at h;cases r with
      | nil=>
        rw[YM,TY] at h;cases h
      | cons y r=>
        rw[Fk] at h;simp only[yJ] at h;obtain⟨p,rfl,rfl⟩:=h;exact .vl c d p
   have g:∀a:Y,Tk w=a->a=6\/a=7->(bif (Xz n r q).1 then((Xz n (Xz n r q).2.1 (Xz n r q).2.2).1,(Xz n (Xz n r q).2.1 (Xz n r q).2.2).2.1,(Xz n (Xz n r q).2.1 (Xz n r q).2.2).2.2++ [((a,(((Xz n r q).2.2.length:Y)-1),(((Xz n (Xz n r q).2.1 (Xz n r q).2.2).2.2.length:Y)-1),⟨#[]⟩,NZ):Q9)]) else(L,(Xz n r q).2.1,(Xz n r q).2.2++ [((a,(((Xz n r q).2.2.length:Y)-1),(((Xz n r q).2.2.length:Y)-1),⟨#[]⟩,NZ):Q9)]))=(Q,r',q')->Pr (w::r) q r' q':=λa c d h=>by
    rcases i:Xz n r q with⟨l,j,q1⟩
    rw[i] at h;dsimp only at h;cases l with
    | false=>cases h
    | true=>
      simp only[I] at h;rcases m:Xz n j q1 with⟨z,s,t⟩
      rw[m] at h;simp only[yJ] at h;obtain⟨rfl,rfl,rfl⟩:=h;have o:=IK n j q1 s t m hg.left
      have k:Gd q1:=by
       obtain⟨u,v⟩:=pr_pre o;rw[v] at hg;exact hg.left.left
      exact .tw c d (IK n r q j q1 i k) o
   rcases Qnd w with e | e | e | e | e | e | e | e | e | e<;>rw[e] at h
   . cases h
   . obtain⟨_,h⟩:=Prod.mk.inj h;obtain⟨rfl,rfl⟩:=Prod.mk.inj h;exact .all e
   . exact b 2 e (by omega) h
   . exact f 3 e (by omega) h
   . exact f 4 e (by omega) h
   . rcases i:Xz n r q with⟨l,j,q1⟩
     have h:((Xz n r q).1,(Xz n r q).2.1,(Xz n r q).2.2++ [((5,(((Xz n r q).2.2.length:Y)-1),0,⟨#[]⟩,NZ):Q9)])=(Q,r',q'):=h;rw[i] at h;simp only[yJ] at h;obtain⟨rfl,rfl,rfl⟩:=h;exact .nt e (IK n r q j q1 i hg.left)
   . exact g 6 e (by omega) h
   . exact g 7 e (by omega) h
   . exact b 8 e (by omega) h
   exact b 9 e (by omega) h
where
 pr_pre {r r':W N} {q q':W Q9} (h:Pr r q r' q'):∃u,q'=q++u:=by
  induction h with
  | all | nm | vl=>exact⟨_,rfl⟩
  | nt _ _ ih=>obtain⟨u,rfl⟩:=ih;exact⟨_,zM ..⟩
  | tw _ _ _ _ ih1 ih2=>obtain⟨u,rfl⟩:=ih1;obtain⟨u2,rfl⟩:=ih2;exact⟨u++(u2++_),by simp only[zM];rfl⟩
theorem H9{p r:W N}{w:N}{a:K}(h:p.drop a=w::r):Qg p (a:Y)=w/\p.drop (a+1)=r/\a<p.length:=by
 obtain⟨b,c,d⟩:=Fj h;refine⟨?_,c,d⟩;unfold Qg;rw[F (show¬(a:Y)>=(p.length:Y) by omega),J,zV];unfold nth;rw[zW,b];rfl
theorem WL{p:W N}{a:K}(h:p.drop a= []):Qg p (a:Y)=⟨#[]⟩:=by
 have:p.length<=a:=by
  have:=G zD h;rw[yC] at this;simp only[List.length_nil] at this;omega
 unfold Qg;rw[uC (show(a:Y)>=(p.length:Y) by omega),I]
def CS(n:K)(p:W N)(a:Y)(q:W Q9)(d:Y)(c:Y):(W Q9)×Y:=
 bif ((c==(0:Y))|| (decide (d>(9:Y))|| decide ((q.length:Y)>(9:Y)))) then(q,0)
 else bif ((c==(2:Y))|| ((c==(8:Y))|| (c==(9:Y)))) then(q++ [((c,0,0,(Qg p (a+1)),NZ):Q9)],2)
 else bif ((c==(3:Y))|| (c==(4:Y))) then(q++ [((c,0,0,(Qg p (a+1)),(Qx (Qg p (a+2))).1):Q9)],3)
 else bif (Q8 c 5 7) then
  lt (Yp n p (a+1) q (d+1)) λb=>bif (b.2==(0:Y)) then(b.1,0) else bif (c !=(5:Y)) then
   lt (Yp n p (a+(1+b.2)) b.1 (d+1)) λe=>bif (e.2==(0:Y)) then(e.1,0) else(e.1++ [((c,((b.1.length:Y)-1),((e.1.length:Y)-1),⟨#[]⟩,NZ):Q9)],1+b.2+e.2)
  else(b.1++ [((c,((b.1.length:Y)-1),0,⟨#[]⟩,NZ):Q9)],1+b.2)
 else(q++ [((c,0,0,⟨#[]⟩,NZ):Q9)],1)
theorem JU(n:K)(p:W N)(a:Y)(q:W Q9)(b:Y)(v:0<=a)(w:a<=30)(f:p.length<=24)(hd:0<=b)(x:b<=10):Yp (n+1) p a q b=CS n p a q b (Tk (Qg p a)):=by
 unfold Yp CS lt;rw[Qnb];simp only[Out.on];have g:=Qif (p:=p) (at_:=a);generalize Tk (Qg p a)=j at g⊢;rw[IntWalk.i64_in (a+1) (by omega),IntWalk.i64_in (a+2) (by omega),IntWalk.i64_in (b+1) (by omega),YK];cases k:((j==(0:Y))|| (decide (b>(9:Y))|| decide ((q.length:Y)>(9:Y)))) with
 | true=>rfl
 | false=>
   obtain⟨l,m⟩:=bo k;obtain⟨h,y⟩:=bo m;have h:=uA h;have o:=g (ne_of_beq_false l);have r:=Me n p (a+1) q (b+1) (by omega) (by omega) f (by omega) (by omega);generalize Yp n p (a+1) q (b+1)=c at r⊢;have s:uO uP (1+c.2)=1+c.2:=IntWalk.i64_in _ (by omega);have t:uO uP (a+(1+c.2))=a+(1+c.2):=IntWalk.i64_in _ (by omega);rw[s,t];cases i:(c.2==(0:Y)) with
   | true=>rfl
   | false=>
     have i:=ne_of_beq_false i;have e:=Me n p (a+(1+c.2)) c.1 (b+1) (by omega) (by omega) f (by omega) (by omega);generalize Yp n p (a+(1+c.2)) c.1 (b+1)=d at e⊢;have u:uO uP (1+c.2+d.2)=1+c.2+d.2:=IntWalk.i64_in _ (by omega);rw[u]
theorem Qpk{r r':W N}{q o:W Q9}(h:Pr r q r' o):∀(n a:K) (p:W N) (b:K),p.drop a=r->p.length<=24->o.length+b<=9->n+b=12->Yp n p (a:Y) q (b:Y)=(o,((r.length-r'.length:K):Y)):=by
 induction h with
 | @all w r q h=>
   intro n a p b d c f l;obtain⟨m,rfl⟩:∃m,n=m+1:=⟨n-1,by omega⟩;obtain⟨g,_,i⟩:=H9 d;rw[zG] at f;rw[JU m p a q b (by omega) (by omega) c (by omega) (by omega),g,h];unfold CS;rw[F (show¬(b:Y)>9 by omega),F (show¬(q.length:Y)>9 by omega)];rw[show(w::r).length-r.length=1 by rw[List.length_cons];omega];rfl
 | @nm w x r q op h ho=>
   intro n a p b d c f l;obtain⟨m,rfl⟩:∃m,n=m+1:=⟨n-1,by omega⟩;obtain⟨g,j,i⟩:=H9 d;obtain⟨s,_,_⟩:=H9 j;rw[zG] at f;rw[JU m p a q b (by omega) (by omega) c (by omega) (by omega),g,h];unfold CS;rw[F (show¬(b:Y)>9 by omega),F (show¬(q.length:Y)>9 by omega)];rw[show(w::x::r).length-r.length=2 by simp only[List.length_cons];omega];rw[show((a:Y)+1)=((a+1:K):Y) from rfl,s];rcases ho with rfl | rfl | rfl<;>rfl
 | @vl w x y r q op h ho hv=>
   intro n a p b d c f l;obtain⟨m,rfl⟩:∃m,n=m+1:=⟨n-1,by omega⟩;obtain⟨g,j,i⟩:=H9 d;obtain⟨s,h3,_⟩:=H9 j;obtain⟨e3,_,_⟩:=H9 h3;rw[zG] at f;rw[JU m p a q b (by omega) (by omega) c (by omega) (by omega),g,h];unfold CS;rw[F (show¬(b:Y)>9 by omega),F (show¬(q.length:Y)>9 by omega)];rw[show(w::x::y::r).length-r.length=3 by simp only[List.length_cons];omega];rw[show((a:Y)+1)=((a+1:K):Y) from rfl,show((a:Y)+2)=((a+1+1:K):Y) from rfl,s,e3];rcases ho with rfl | rfl<;>rfl
 | @nt w r r1 q q1 h h1 ih=>
   intro n a p b d c f l;obtain⟨m,rfl⟩:∃m,n=m+1:=⟨n-1,by omega⟩;obtain⟨g,j,i⟩:=H9 d;have hl:=h1.len;simp only[zG,List.length_cons,List.length_nil] at f;have hi:=ih m (a+1) p (b+1) j c (by omega) (by omega);rw[JU m p a q b (by omega) (by omega) c (by omega) (by omega),g,h];unfold CS lt;rw[F (show¬(b:Y)>9 by omega),F (show¬(q.length:Y)>9 by omega)];rw[show((a:Y)+1)=((a+1:K):Y) from rfl,show((b:Y)+1)=((b+1:K):Y) from rfl,hi]
   have hk:(((r.length-r1.length:K):Y)==(0:Y))=L:=by
    cases k:(((r.length-r1.length:K):Y)==(0:Y)) with
    | false=>rfl
    | true=>have:=eq_of_beq k;omega
   show(bif (((r.length-r1.length:K):Y)==(0:Y)) then _ else _)=_;rw[hk,show(((w::r).length-r1.length:K):Y)=1+((r.length-r1.length:K):Y) by rw[List.length_cons];omega];rfl
 | @tw w r r1 r2 q q1 q2 op h ho h1 j ih1 ih2=>
   intro n a p b d c f l;obtain⟨m,rfl⟩:∃m,n=m+1:=⟨n-1,by omega⟩;obtain⟨g,hd,i⟩:=H9 d;have a1:=h1.len;have a2:=j.len;simp only[zG,List.length_cons,List.length_nil] at f;have t:=ih1 m (a+1) p (b+1) hd c (by omega) (by omega)
   have u:p.drop (a+(1+(r.length-r1.length)))=r1:=by
    have e:p.drop (a+(1+(r.length-r1.length)))=(p.drop (a+1)).drop (r.length-r1.length):=by
     rw[List.drop_drop]
     congr 1
     omega
    rw[e,hd];exact h1.suf.symm
   have v:=ih2 m (a+(1+(r.length-r1.length))) p (b+1) u c (by omega) (by omega);rw[JU m p a q b (by omega) (by omega) c (by omega) (by omega),g,h]
   have z:(((r.length-r1.length:K):Y)==(0:Y))=L:=by
    cases k:(((r.length-r1.length:K):Y)==(0:Y)) with
    | false=>rfl
    | true=>have:=eq_of_beq k;omega
   have V:(((r1.length-r2.length:K):Y)==(0:Y))=L:=by
    cases k:(((r1.length-r2.length:K):Y)==(0:Y)) with
    | false=>rfl
    | true=>have:=eq_of_beq k;omega
   have hK:CS m p (a:Y) q (b:Y) op=(bif (((r.length-r1.length:K):Y)==(0:Y)) then(q1,0) else(bif (((r1.length-r2.length:K):Y)==(0:Y)) then(q2,0) else(q2++ [((op,((q1.length:Y)-1),((q2.length:Y)-1),⟨#[]⟩,NZ):Q9)],1+((r.length-r1.length:K):Y)+((r1.length-r2.length:K):Y)))):=by
    unfold CS lt;rw[F (show¬(b:Y)>9 by omega),F (show¬(q.length:Y)>9 by omega)];rw[show((a:Y)+1)=((a+1:K):Y) from rfl,show((b:Y)+1)=((b+1:K):Y) from rfl,t];dsimp only;rw[show((a:Y)+(1+((r.length-r1.length:K):Y)))=((a+(1+(r.length-r1.length)):K):Y) by omega,v];rcases ho with rfl | rfl<;>rfl
   rw[hK,z,V,show(((w::r).length-r2.length:K):Y)=1+((r.length-r1.length:K):Y)+((r1.length-r2.length:K):Y) by rw[List.length_cons];omega];rfl
def Gs(q:W Q9):Prop:=Gd q/\∀x,x∈q->x.1=3\/x.1=4->x.2.2.2.2.1≠0
theorem Gs.left{q p:W Q9}(h:Gs (q++p)):Gs q:=⟨h.1.left,λx a=>h.2 x (List.mem_append_left _ a)⟩
theorem Qpl{s:N}(h:(Qx s).1.1≠0):(Qx s).2=Q:=by
 cases hb:(Qx s).2 with
 | true=>rfl
 | false=>
   refine absurd ?_ h;revert hb;unfold Qx;cases(Qf s).2 with
   | true=>
     simp only[I];cases Xd (Kv (Qf s).1) with
     | false=>intro _;rfl
     | true=>intro h;cases h
   | false=>
     simp only[J];cases(s.toList==(⟨#[45]⟩:N).toList) with
     | false=>
       simp only[yH,I];cases Xd (Jk s) with
       | false=>intro _;rfl
       | true=>intro h;cases h
     | true=>
       simp only[zY,J];cases Xd (0,0,⟨#[]⟩) with
       | false=>intro _;rfl
       | true=>intro h;cases h
theorem Qlx{r d:W N}{q c:W Q9}(h:Pr r q d c):∃u,c=q++u:=by
 induction h with
 | all | nm | vl=>exact⟨_,rfl⟩
 | nt _ _ e=>obtain⟨u,rfl⟩:=e;exact⟨_,zM ..⟩
 | tw _ _ _ _ a b=>obtain⟨u,rfl⟩:=a;obtain⟨f,rfl⟩:=b;exact⟨u++(f++_),by simp only[zM];rfl⟩
theorem IM:∀(n a:K) (p:W N) (q:W Q9) (b:K) (g:W Q9) (k:Y),Yp n p (a:Y) q (b:Y)=(g,k)->k≠0->Gs g->a<=30->p.length<=24->b<=10->∃j:K,k=(j:Y)/\Pr (p.drop a) q (p.drop (a+j)) g/\a+j<=p.length
 | 0,a,p,q,b,g,k,h,hk,_,_,_,_=>by
   obtain⟨_,rfl⟩:=Prod.mk.inj h;exact absurd rfl hk
 | n + 1, a,p,q,b,g,k,h,hk,hg,ha,hp,hd=>by
   rw[JU n p a q b (by omega) (by omega) hp (by omega) (by omega)] at h;cases hr:p.drop a with
   | nil=>
     rw[WL hr,IF] at h;obtain⟨_,rfl⟩:=Prod.mk.inj (show(q,(0:Y))=(g,k) from h);exact absurd rfl hk
   | cons w r=>
   obtain⟨e1,t,a9⟩:=H9 hr;rw[e1] at h
   have i:∀{c:H} {X:(W Q9)×Y},(bif c then(q,(0:Y)) else X)=(g,k)->X=(g,k):=λ{c} {X} h=>by
    cases c with
    | false=>exact h
    | true=>obtain⟨_,rfl⟩:=Prod.mk.inj (show(q,(0:Y))=(g,k) from h);exact absurd rfl hk
   have aa:b<=9:=by
    refine yP λhc=>?_
    unfold CS at h;rw[uC (show(b:Y)>9 by omega),Bool.true_or,Bool.or_true,I] at h;obtain⟨_,rfl⟩:=Prod.mk.inj h;exact hk rfl
   have z:∀d:Y,Tk w=d->d=2\/d=8\/d=9->(q++ [((d,0,0,(Qg p ((a:Y)+1)),NZ):Q9)],(2:Y))=(g,k)->∃j:K,k=(j:Y)/\Pr (w::r) q (p.drop (a+j)) g/\a+j<=p.length:=λd ho h9 h=>by
    obtain⟨rfl,rfl⟩:=Prod.mk.inj h;rw[show((a:Y)+1)=((a+1:K):Y) from rfl] at hg⊢;cases m:p.drop (a+1) with
    | nil=>
      rw[WL m] at hg;exact TZ (hg.1.last (by show d=2\/_;omega))
    | cons x r2=>
      obtain⟨e2,V,a3⟩:=H9 m;rw[e2,←t,m];refine⟨2,rfl, ?_,by omega⟩;rw[show a+2=a+1+1 from rfl,V];exact .nm ho h9
   have a4:∀d:Y,Tk w=d->d=3\/d=4->(q++ [((d,0,0,(Qg p ((a:Y)+1)),(Qx (Qg p ((a:Y)+2))).1):Q9)],(3:Y))=(g,k)->∃j:K,k=(j:Y)/\Pr (w::r) q (p.drop (a+j)) g/\a+j<=p.length:=λd ho h9 h=>by
    obtain⟨rfl,rfl⟩:=Prod.mk.inj h;rw[show((a:Y)+1)=((a+1:K):Y) from rfl,show((a:Y)+2)=((a+1+1:K):Y) from rfl] at hg⊢;have hv:=Qpl (hg.2 _ (yT _ (zU.2 rfl)) h9);cases m:p.drop (a+1) with
    | nil=>
      rw[WL m] at hg;exact TZ (hg.1.last (by show d=2\/_;omega))
    | cons x r2=>
      obtain⟨e2,V,a3⟩:=H9 m;cases a1:p.drop (a+1+1) with
      | nil=>
        rw[WL a1,TY] at hv;cases hv
      | cons y r4=>
        obtain⟨e3,a6,a8⟩:=H9 a1;rw[e3] at hv;rw[e2,e3,←t,m,←V,a1];refine⟨3,rfl, ?_,by omega⟩;rw[show a+3=a+1+1+1 from rfl,a6];exact .vl ho h9 hv
   have hin:∀d:Y,Tk w=d->d=5\/d=6\/d=7->(lt (Yp n p ((a:Y)+1) q ((b:Y)+1)) λl=>bif (l.2==(0:Y)) then(l.1,0) else bif (d !=(5:Y)) then lt (Yp n p ((a:Y)+(1+l.2)) l.1 ((b:Y)+1)) λf=>bif (f.2==(0:Y)) then(f.1,0) else(f.1++ [((d,((l.1.length:Y)-1),((f.1.length:Y)-1),⟨#[]⟩,NZ):Q9)],1+l.2+f.2) else(l.1++ [((d,((l.1.length:Y)-1),0,⟨#[]⟩,NZ):Q9)],1+l.2))=(g,k)->∃j:K,k=(j:Y)/\Pr (w::r) q (p.drop (a+j)) g/\a+j<=p.length:=λd ho h9 h=>by
    rw[show((a:Y)+1)=((a+1:K):Y) from rfl,show((b:Y)+1)=((b+1:K):Y) from rfl] at h;rcases h1:Yp n p ((a+1:K):Y) q ((b+1:K):Y) with⟨q1,k1⟩
    rw[h1] at h;have h:(bif (k1==(0:Y)) then(q1,(0:Y)) else bif (d !=(5:Y)) then lt (Yp n p ((a:Y)+(1+k1)) q1 ((b+1:K):Y)) λf=>bif (f.2==(0:Y)) then(f.1,0) else(f.1++ [((d,((q1.length:Y)-1),((f.1.length:Y)-1),⟨#[]⟩,NZ):Q9)],1+k1+f.2) else(q1++ [((d,((q1.length:Y)-1),0,⟨#[]⟩,NZ):Q9)],1+k1))=(g,k):=h;cases o:(k1==(0:Y)) with
    | true=>
      rw[o] at h;obtain⟨_,rfl⟩:=Prod.mk.inj (show(q1,(0:Y))=(g,k) from h);exact absurd rfl hk
    | false=>
      rw[o,J] at h;have o:=ne_of_beq_false o;rcases h9 with rfl | h9
      . have h:(q1++ [((5,((q1.length:Y)-1),0,⟨#[]⟩,NZ):Q9)],1+k1)=(g,k):=h;obtain⟨rfl,rfl⟩:=Prod.mk.inj h;obtain⟨j,rfl,hP,hj⟩:=IM n (a+1) p q (b+1) q1 k1 h1 o hg.left (by omega) hp (by omega);refine⟨1+j,by omega, ?_,by omega⟩;rw[t] at hP;rw[show a+(1+j)=a+1+j by omega];exact .nt ho hP
      rw[show(d !=(5:Y))=Q by rcases h9 with rfl | rfl<;>rfl,I] at h;rcases h2:Yp n p ((a:Y)+(1+k1)) q1 ((b+1:K):Y) with⟨q2,k2⟩
      rw[h2] at h;have h:(bif (k2==(0:Y)) then(q2,(0:Y)) else(q2++ [((d,((q1.length:Y)-1),((q2.length:Y)-1),⟨#[]⟩,NZ):Q9)],1+k1+k2))=(g,k):=h;cases v:(k2==(0:Y)) with
      | true=>
        rw[v] at h;obtain⟨_,rfl⟩:=Prod.mk.inj (show(q2,(0:Y))=(g,k) from h);exact absurd rfl hk
      | false=>
        rw[v,J] at h;have v:=ne_of_beq_false v;obtain⟨rfl,rfl⟩:=Prod.mk.inj h;have hl:=Me n p ((a+1:K):Y) q ((b+1:K):Y) (by omega) (by omega) hp (by omega) (by omega);rw[h1] at hl;obtain⟨s,rfl⟩:=Int.eq_ofNat_of_zero_le (show 0<=k1 from hl.2.1);have ab:((s:Y)=0\/((a+1:K):Y)+(s:Y)<=(p.length:Y)+2):=hl.2.2;rw[show((a:Y)+(1+(s:Y)))=((a+(1+s):K):Y) by omega] at h2;obtain⟨j2,rfl,a2,ad⟩:=IM n (a+(1+s)) p q1 (b+1) q2 k2 h2 v hg.left (by omega) hp (by omega)
        have a7:Gs q1:=by
         obtain⟨u,hu⟩:=Qlx a2;rw[hu] at hg;exact hg.left.left
        obtain⟨j3,e3,a5,ae⟩:=IM n (a+1) p q (b+1) q1 (s:Y) h1 o a7 (by omega) hp (by omega);obtain rfl:s=j3:=by omega
        refine⟨1+s+j2,by omega, ?_,by omega⟩;rw[t] at a5;rw[show a+(1+s)=a+1+s by omega] at a2;rw[show a+(1+s+j2)=a+1+s+j2 by omega];exact .tw ho h9 a5 a2
   rcases Qnd w with e | e | e | e | e | e | e | e | e | e<;>rw[e] at h<;>unfold CS at h
   . obtain⟨_,rfl⟩:=Prod.mk.inj (show(q,(0:Y))=(g,k) from h);exact absurd rfl hk
   . have h:=i h;obtain⟨rfl,rfl⟩:=Prod.mk.inj (show(q++ [((1,0,0,⟨#[]⟩,NZ):Q9)],(1:Y))=(g,k) from h);refine⟨1,rfl, ?_,by omega⟩;rw[t];exact .all e
   . exact z 2 e (by omega) (i h)
   . exact a4 3 e (by omega) (i h)
   . exact a4 4 e (by omega) (i h)
   . exact hin 5 e (by omega) (i h)
   . exact hin 6 e (by omega) (i h)
   . exact hin 7 e (by omega) (i h)
   . exact z 8 e (by omega) (i h)
   exact z 9 e (by omega) (i h)
theorem Ol{s:N}(h:(decide (1<=s.size)&&s.data.toList.all λb=>decide (33<=b.toNat)&&decide (b.toNat<=126))=Q):Word s:=by
 simp only[zT,uH,List.all_eq_true] at h;exact⟨h.1,h.2⟩
theorem Qpm{a:Y}(h:1<=a/\a<=9):Word (Qy a):=by
 rcases WJ (Kr.2 h) with rfl | rfl | rfl | rfl | rfl | rfl | rfl | rfl | rfl<;>exact Ol (by decide)
theorem WM{n:Q9}{k:Y}(h:Y5 n k=Q):(n.1=2\/n.1=3\/n.1=4->Qz n.2.2.2.1=Q)/\(n.1=8\/n.1=9->Xl n.2.2.2.1=Q)/\(n.1=3\/n.1=4->Xd n.2.2.2.2=Q/\n.2.2.2.2.1≠0)/\(1<=n.1/\n.1<=9):=by
 unfold Y5 at h;cases a:(n.1==(1:Y)) with
 | true=>have e:=eq_of_beq a;exact⟨λ_=>by omega,λ_=>by omega,λ_=>by omega,by omega⟩
 | false=>
 cases b:(n.1==(2:Y)) with
 | true=>
   have e:=eq_of_beq b;simp only[a,b,I,J,zT] at h;exact⟨λ_=>h.2,λ_=>by omega,λ_=>by omega,by omega⟩
 | false=>
 cases c:(n.1==(3:Y)) with
 | true=>
   have e:=eq_of_beq c;simp only[a,b,c,I,J,zT,bne_iff_ne] at h;exact⟨λ_=>h.2.1,λ_=>by omega,λ_=>⟨h.2.2.1,h.2.2.2.1⟩,by omega⟩
 | false=>
 cases d:(n.1==(4:Y)) with
 | true=>
   have e:=eq_of_beq d;simp only[a,b,c,d,I,J,zT,bne_iff_ne] at h;exact⟨λ_=>h.2.1,λ_=>by omega,λ_=>⟨h.2.2.1,h.2.2.2.1⟩,by omega⟩
 | false=>
 cases f:(n.1==(5:Y)) with
 | true=>have e:=eq_of_beq f;exact⟨λ_=>by omega,λ_=>by omega,λ_=>by omega,by omega⟩
 | false=>
 cases g:(n.1==(6:Y)) with
 | true=>have e:=eq_of_beq g;exact⟨λ_=>by omega,λ_=>by omega,λ_=>by omega,by omega⟩
 | false=>
 cases i:(n.1==(7:Y)) with
 | true=>have e:=eq_of_beq i;exact⟨λ_=>by omega,λ_=>by omega,λ_=>by omega,by omega⟩
 | false=>
 cases j:(n.1==(8:Y)) with
 | true=>
   have e:=eq_of_beq j;simp only[a,b,c,d,f,g,i,j,I,J,zT] at h;exact⟨λ_=>by omega,λ_=>h.2,λ_=>by omega,by omega⟩
 | false=>
 cases l:(n.1==(9:Y)) with
 | true=>
   have e:=eq_of_beq l;simp only[a,b,c,d,f,g,i,j,l,I,J,zT] at h;exact⟨λ_=>by omega,λ_=>h.2,λ_=>by omega,by omega⟩
 | false=>
   simp only[a,b,c,d,f,g,i,j,l,J] at h;cases h
theorem Qii{q:W Q9}(h:Qj q=Q):Gs q:=by
 have c:∀x,x∈q->∃k:Y,Y5 x k=Q:=λx a=>by
  obtain⟨i,hi⟩:=yL a;exact⟨_,T1 h hi⟩
 refine⟨λx a d=>?_,λx a d=>?_⟩
 . obtain⟨k,b⟩:=c x a;obtain⟨e,f,_,_⟩:=WM b;by_cases g:x.1=8\/x.1=9
   . exact(Fi (f g)).1
   have:=GJ (e (by omega));omega
 obtain⟨k,b⟩:=c x a;exact((WM b).2.2.1 d).2
def qw:K->W Q9->Y->W N
 | 0,_,_=> []
 | n+1,q,k=>bif ((nth q (zQ k)).1==(2:Y))|| ((nth q (zQ k)).1==(8:Y))|| ((nth q (zQ k)).1==(9:Y)) then [Qy (nth q (zQ k)).1,(nth q (zQ k)).2.2.2.1]
   else bif ((nth q (zQ k)).1==(3:Y))|| ((nth q (zQ k)).1==(4:Y)) then [Qy (nth q (zQ k)).1,(nth q (zQ k)).2.2.2.1,X1 (nth q (zQ k)).2.2.2.2]
   else bif ((nth q (zQ k)).1==(5:Y)) then [Qy (nth q (zQ k)).1]++qw n q (nth q (zQ k)).2.1
   else bif ((nth q (zQ k)).1==(6:Y))|| ((nth q (zQ k)).1==(7:Y)) then [Qy (nth q (zQ k)).1]++(qw n q (nth q (zQ k)).2.1++qw n q (nth q (zQ k)).2.2.1)
   else [Qy (nth q (zQ k)).1]
theorem Qd9{a:N}{l:W N}(h:l≠ []):Xs ⟨#[32]⟩ ([a]++l)=Xs ⟨#[32]⟩ [a,Xs ⟨#[32]⟩ l]:=by
 rw[F2 _ (λe=>by cases e) h,J8,Vd]
theorem Qea{a:N}{l m:W N}(h:l≠ [])(b:m≠ []):Xs ⟨#[32]⟩ ([a]++(l++m))=Xs ⟨#[32]⟩ [a,Xs ⟨#[32]⟩ l,Xs ⟨#[32]⟩ m]:=by
 rw[F2 _ (λe=>by cases e) (by simp[h]),J8,F2 _ h b,Kz];simp only[ByteArray.append_assoc]
theorem Qij:∀(n:K) {q:W Q9} (_:Qj q=Q) {k:K} (_:k<q.length) (_:k<n),Yc n q (k:Y)=Xs ⟨#[32]⟩ (qw n q (k:Y))/\qw n q (k:Y)≠ []/\∀y,y∈qw n q (k:Y)->Word y/\y.size<=10
 | 0,q,hv,k,hk,hn=>by omega
 | n +1,q,hv,k,hk,hn=>by
   have b:=T1 hv (Dc hk);obtain⟨s,t,u,f4⟩:=WM b;have l:=Qpm f4;have a1:=Qh3 (nth q k).1;have v:=LN hv (k:=(k:Y)) (by omega) (by omega);have w:=VZ hv (k:=(k:Y)) (by omega) (by omega);have z:=UZ hv (k:=(k:Y)) (by omega) (by omega);have V:=LO hv (k:=(k:Y)) (by omega) (by omega);have ke:=NA hv (k:=(k:Y)) (by omega) (by omega)
   have c:∀j:Y,0<=j/\j<(k:Y)->Yc n q j=Xs ⟨#[32]⟩ (qw n q j)/\qw n q j≠ []/\∀y,y∈qw n q j->Word y/\y.size<=10:=λj hj=>by
    obtain⟨m,rfl⟩:=Int.eq_ofNat_of_zero_le hj.1;exact Qij n hv (by omega) (by omega)
   unfold Yc qw;rw[zV] at v w z V ke⊢;generalize nth q k=x at*;have one:∀y,y∈ [Qy x.1]->Word y/\y.size<=10:=λy hy=>by rw[zU.1 hy];exact⟨l,by omega⟩
   have d:Word x.2.2.2.1/\x.2.2.2.1.size<=10->∀y,y∈ [Qy x.1,x.2.2.2.1]->Word y/\y.size<=10:=λhx y hy=>by
    rcases zR.1 hy with rfl | hy
    . exact one _ (zU.2 rfl)
    rw[zU.1 hy];exact hx
   have f:Qz x.2.2.2.1=Q->Word x.2.2.2.1/\x.2.2.2.1.size<=10:=λh=>⟨BD h,by rw[GJ h];decide⟩
   have g:Xl x.2.2.2.1=Q->Word x.2.2.2.1/\x.2.2.2.1.size<=10:=λh=>⟨IJ h,by have:=Fi h;omega⟩
   cases h2:(x.1==(2:Y)) with
   | true=>exact⟨rfl,List.cons_ne_nil _ _,d (f (s (.inl (eq_of_beq h2))))⟩
   | false=>
   cases h8:(x.1==(8:Y)) with
   | true=>exact⟨rfl,List.cons_ne_nil _ _,d (g (t (.inl (eq_of_beq h8))))⟩
   | false=>
   cases h9:(x.1==(9:Y)) with
   | true=>exact⟨rfl,List.cons_ne_nil _ _,d (g (t (.inr (eq_of_beq h9))))⟩
   | false=>
   have i:x.1=3\/x.1=4->∀y,y∈ [Qy x.1,x.2.2.2.1,X1 x.2.2.2.2]->Word y/\y.size<=10:=λh y hy=>by
    rcases zR.1 hy with rfl | hy
    . exact one _ (zU.2 rfl)
    rcases zR.1 hy with rfl | hy
    . exact f (s (.inr h))
    rw[zU.1 hy];exact⟨Qco (u h).1 (u h).2,TV _⟩
   cases h3:(x.1==(3:Y)) with
   | true=>exact⟨rfl,List.cons_ne_nil _ _,i (.inl (eq_of_beq h3))⟩
   | false=>
   cases h4:(x.1==(4:Y)) with
   | true=>exact⟨rfl,List.cons_ne_nil _ _,i (.inr (eq_of_beq h4))⟩
   | false=>
   cases h5:(x.1==(5:Y)) with
   | true=>
     obtain⟨o,p,r⟩:=c _ (v h5);refine⟨?_,λe=>by simp at e,λy hy=>?_⟩
     . show Xs _ [_,Yc n q x.2.1]=Xs _ ([_]++qw n q x.2.1);rw[Qd9 p,o]
     exact(zX.1 (show y∈ [Qy x.1]++qw n q x.2.1 from hy)).elim (one y) (r y)
   | false=>
   have a:(0<=x.2.1/\x.2.1<(k:Y))->(0<=x.2.2.1/\x.2.2.1<(k:Y))->Xs ⟨#[32]⟩ [Qy x.1,Yc n q x.2.1,Yc n q x.2.2.1]=Xs ⟨#[32]⟩ ([Qy x.1]++(qw n q x.2.1++qw n q x.2.2.1))/\([Qy x.1]++(qw n q x.2.1++qw n q x.2.2.1))≠ []/\∀y,y∈ [Qy x.1]++(qw n q x.2.1++qw n q x.2.2.1)->Word y/\y.size<=10:=λhl hr=>by
    obtain⟨o,p,r⟩:=c _ hl;obtain⟨e1,e2,e3⟩:=c _ hr;refine⟨by rw[Qea p e2,o,e1],λe=>by simp at e,λy hy=>?_⟩;exact(zX.1 hy).elim (one y) λhy=>(zX.1 hy).elim (r y) (e3 y)
   cases h6:(x.1==(6:Y)) with
   | true=>exact a (w h6) (V h6)
   | false=>
   cases h7:(x.1==(7:Y)) with
   | true=>exact a (z h7) (ke h7)
   | false=>exact⟨by show Xs _ [_]=Xs _ [_];rfl,List.cons_ne_nil _ _,one⟩
def qws(q:W Q9):W N:=qw q.length q ((q.length:Y)-1)
theorem KR{q:W Q9}(a:Qj q=Q):Xh q=Xs ⟨#[32]⟩ (qws q)/\qws q≠ []/\∀y,y∈qws q->Word y/\y.size<=10:=by
 have b:=Fs a;unfold Xh qws;rw[a,show((q.length:Y)-1)=((q.length-1:K):Y) by omega];exact Qij q.length a (by omega) (by omega)
theorem Qaa{l:W N}(h:∀y,y∈l->Word y)(d:¬(l.length<=24/\(Xs ⟨#[32]⟩ l).size<=600)):X0 (Xs ⟨#[32]⟩ l)=([],L):=by
 unfold X0;cases a:decide (((Xs ⟨#[32]⟩ l).size:Y)>(600:Y)) with
 | true=>rfl
 | false=>
   have a:=uA a;simp only[J];have c:=OJ (Xs ⟨#[32]⟩ l) (Xs ⟨#[32]⟩ l).data.toList 0 rfl;rw[Ei] at c;rw[show zQ (zE (Xs ⟨#[32]⟩ l):Y)=(Xs ⟨#[32]⟩ l).size by omega,c]
   have ha:(Xs ⟨#[32]⟩ l).data.toList.all Ik=Q:=List.all_eq_true.2 λb hb=>by
    have:=JR h b hb;unfold Ik;simp only[zT,uH];exact this
   rw[ha,QD h];simp only[if_true,Out.on];rw[uC (show(l.length:Y)>24 by omega)];rfl
theorem Qs2{q:W Q9}(h:Qj q=Q):q≠ []:=λe=>by have:=Fs h;rw[e] at this;simp at this
theorem Qs3{q:W Q9}(d:Qj q=Q)(h:Yo (Xh q)=(q,Q)):Pr (qws q) [] [] q/\((qws q).length<=24/\(Xh q).size<=600):=by
 obtain⟨j,o,k⟩:=KR d;rw[j] at h⊢;have e:∀y,y∈qws q->Word y:=λy l=>(k y l).1
 by_cases a:(qws q).length<=24/\(Xs ⟨#[32]⟩ (qws q)).size<=600
 . refine ⟨?_,a⟩;unfold Yo lt at h;rw[YH e a.1 a.2] at h;dsimp only at h;rcases f:Xz ((qws q).length+1) (qws q) [] with⟨b,r,g⟩
   rw[f] at h;simp only[zY,J] at h;cases c:((!b)|| (decide ((r.length:Y)>(0:Y))|| (!(Qj g)))) with
   | true=>rw[c] at h;obtain⟨_,h⟩:=Prod.mk.inj (show(([]:W Q9),L)=(q,Q) from h);cases h
   | false=>
     rw[c] at h;obtain⟨rfl,_⟩:=Prod.mk.inj (show(g,Q)=(q,Q) from h);obtain⟨m,n⟩:=bo c;obtain⟨i,_⟩:=bo n;have i:=uA i;obtain rfl:r= []:=List.eq_nil_of_length_eq_zero (by omega);obtain rfl:=bn m;exact IK _ _ _ _ _ f (Qii d).1
 unfold Yo at h;rw[Qaa e a] at h;obtain⟨_,h⟩:=Prod.mk.inj (show(([]:W Q9),L)=(q,Q) from h);cases h
theorem Qs4{q:W Q9}(b:Qj q=Q)(h:Pr (qws q) [] [] q)(a:(qws q).length<=24/\(Xh q).size<=600):Yo (Xh q)=(q,Q):=by
 obtain⟨c,f,d⟩:=KR b;rw[c] at a⊢;unfold Yo lt;rw[YH (λy e=>(d y e).1) a.1 a.2];dsimp only;rw[Qpj h _ (Nat.lt_succ_self _)];simp only[zY,J,b];rfl
theorem Qrn{q:W Q9}(g:Qj q=Q)(h:Pr (qws q) [] [] q)(d:(qws q).length<=24/\(Xh q).size<=600):Zf (Xh q)=(q,Q):=by
 obtain⟨b,j,i⟩:=KR g;have l:=Fs g;have k:=Qpk h 12 0 (qws q) 0 rfl d.1 (by omega) rfl
 have f:(Xh q).toList==(⟨#[]⟩:N).toList↔False:=by
  refine⟨λe=>?_,False.elim⟩;have e:=Wd e;obtain⟨y,ys,c⟩:=List.exists_cons_of_ne_nil j;have hw:=(i y (by rw[c];exact zN ..)).1;have a:(Xs ⟨#[32]⟩ (qws q)).size=0:=by rw[←b,e];rfl
  rw[c] at a;cases ys with
  | nil=>rw[J8] at a;have:=hw.1;omega
  | cons z m=>rw[Wo,zH,zH] at a;have:=hw.1;omega
 unfold Zf lt;rw[Qh7,b,YH (λy c=>(i y c).1) d.1 (by rw[←b];exact d.2)];dsimp only;rw[show(0:Y)=((0:K):Y) from rfl,k];dsimp only;rw[Qpc,EO,←b,uK,show(((Xh q).toList==(⟨#[]⟩:N).toList)=L) from Bool.eq_false_iff.2 λe=>f.1 e];rw[show((((qws q).length-([]:W N).length:K):Y) !=((qws q).length:Y))=L from bne_eq_false_iff_eq.2 (by simp)];rfl
theorem Qro{q:W Q9}(d:Qj q=Q)(h:(Zf (Xh q)).1=q):Pr (qws q) [] [] q/\((qws q).length<=24/\(Xh q).size<=600):=by
 obtain⟨n,o,p⟩:=KR d;have b:=Qs2 d;have g:∀y,y∈qws q->Word y:=λy r=>(p y r).1
 rw[n] at h⊢;unfold Zf lt at h;rw[Qh7] at h;by_cases c:(qws q).length<=24/\(Xs ⟨#[32]⟩ (qws q)).size<=600
 . refine ⟨?_,c⟩;rw[YH g c.1 c.2] at h;dsimp only at h;rcases i:Yp 12 (qws q) 0 [] 0 with⟨a,k⟩
   rw[i] at h;simp only[zY,J] at h;cases f:(((k:Y) !=((qws q).length:Y))|| (((Yr a).toList==(⟨#[]⟩:N).toList)|| (!((Yr a).toList==(Wf (qws q)).toList)))) with
   | true=>rw[f] at h;exact absurd (show []=q from h).symm b
   | false=>
     rw[f] at h;obtain rfl:a=q:=h;obtain⟨s,_⟩:=bo f;have t:k=((qws a).length:Y):=bne_eq_false_iff_eq.1 s;have l:1<=(qws a).length:=List.length_pos_iff.2 o;obtain⟨j,e,m,_⟩:=IM 12 0 (qws a) [] 0 a k i (by omega) (Qii d) (by omega) c.1 (by omega);obtain rfl:j=(qws a).length:=by omega
     rw[yI,List.drop_length] at m;exact m
 rw[Qaa g c] at h;exact absurd (show []=q from h).symm b
abbrev SP:N:=⟨#[32]⟩
abbrev FLD:N:=⟨#[102,105,101,108,100]⟩
abbrev NXT:N:=⟨#[110,101,120,116]⟩
abbrev FIL:N:=⟨#[102,105,108,101]⟩
abbrev DIR:N:=⟨#[100,105,114]⟩
theorem Qtp{y:N}(h:Word y):(32:uJ)∉y.data.toList:=h.no (by decide)
theorem YN{l:W N}(a:l≠ [])(h:∀y,y∈l->Word y):Qs 32 (Xs SP l)=l:=Qci a λy b=>Qtp (h y b)
theorem YO{l:W N}(h:∀y,y∈l->Word y)(a:l.length<=24)(b:(Xs SP l).size<=600):Qb (Xs SP l)=(l,Q):=by rw[Qh7];exact YH h a b
theorem OP{f:Y4}(a:Qz f.1=Q)(b:f.2=1\/f.2=2):Y6 f=Xs SP [FLD,f.1,bif f.2==(1:Y) then⟨#[105,110,116]⟩ else⟨#[115,116,114,105,110,103]⟩]:=by
 unfold Y6;rw[a,Kz];rcases b with h | h<;>rw[h]
 . show((⟨#[102,105,101,108,100,32]⟩:N)++f.1)++(⟨#[32,105,110,116]⟩:N)=_;rw[show(⟨#[102,105,101,108,100,32]⟩:N)=FLD++SP from rfl,show(⟨#[32,105,110,116]⟩:N)=SP++⟨#[105,110,116]⟩ from rfl];simp only[ByteArray.append_assoc];rfl
 show((⟨#[102,105,101,108,100,32]⟩:N)++f.1)++(⟨#[32,115,116,114,105,110,103]⟩:N)=_;rw[show(⟨#[102,105,101,108,100,32]⟩:N)=FLD++SP from rfl,show(⟨#[32,115,116,114,105,110,103]⟩:N)=SP++⟨#[115,116,114,105,110,103]⟩ from rfl];simp only[ByteArray.append_assoc];rfl
theorem Qrp{f:Y4}(a:Qz f.1=Q):∀y,y∈ [FLD,f.1,bif f.2==(1:Y) then(⟨#[105,110,116]⟩:N) else⟨#[115,116,114,105,110,103]⟩]->Word y/\y.size<=10:=λy b=>by
 simp only[zR,List.mem_nil_iff,uL] at b;rcases b with rfl | rfl | rfl
 . exact⟨Ol (by decide),by decide⟩
 . exact⟨BD a,by rw[GJ a];decide⟩
 cases(f.2==(1:Y))<;>exact⟨Ol (by decide),by decide⟩
theorem Qtq{f:Y4}(a:Qz f.1=Q)(b:f.2=1\/f.2=2)(c:W Y4)(d:W Yn)(g:Y)(i:W Zo):Jm c d g i (Y6 f)=(Q,c++ [f],d,g,i):=by
 rw[OP a b];unfold Jm;rw[YN (λe=>by cases e) λy j=>(Qrp a y j).1];obtain⟨n,k⟩:=f;rcases b with h | h<;>obtain rfl:k=_:=h<;>kernel_rfl
theorem Qtr{f:Y4}(b:Qz f.1=Q)(c:f.2=1\/f.2=2)(x:Qw):Zy x (Y6 f)=((x.1.1++ [f],x.1.2.1,x.1.2.2),x.2):=by
 have hw:=Qrp b;have d:=Ug (s:=SP) (m:=10) (n:=3) rfl (λy a=>(hw y a).2) (yE _);rw[OP b c];unfold Zy;rw[YO (λy a=>(hw y a).1) (Nat.le_of_ble_eq_true rfl) (yB d (by decide))];obtain⟨n,k⟩:=f;rcases c with h | h<;>obtain rfl:k=_:=h<;>(show _=_;kernel_rfl)
theorem OQ(n:Y):(⟨#[110,101,120,116,32]⟩:N)++Q7 n=Xs SP [NXT,Q7 n]:=by
 rw[Vd];rfl
theorem Qrq{n:Y}(h:0<=n/\n<=1000000000):∀y,y∈ [NXT,Q7 n]->Word y/\y.size<=10:=λy a=>by
 simp only[zR,List.mem_nil_iff,uL] at a;rcases a with rfl | rfl
 . exact⟨Ol (by decide),by decide⟩
 exact⟨YL h.1,Kb h⟩
theorem Qts{n:Y}(h:0<=n/\n<=1000000000)(a:W Y4)(c:W Yn)(f:Y)(d:W Zo):Jm a c f d ((⟨#[110,101,120,116,32]⟩:N)++Q7 n)=(Q,a,c,n,d):=by
 rw[OQ];unfold Jm;rw[YN (λe=>by cases e) λy g=>(Qrq h y g).1];refine Eq.trans (b:=((Qf (Q7 n)).2,a,c,(Qf (Q7 n)).1,d)) (by kernel_rfl) ?_;rw[YJ h]
theorem Qtt{n:Y}(h:0<=n/\n<=1000000000)(x:Qw):Zy x ((⟨#[110,101,120,116,32]⟩:N)++Q7 n)=((x.1.1,x.1.2.1,n),x.2):=by
 have hw:=Qrq h;have c:=Ug (s:=SP) (m:=10) (n:=2) rfl (λy a=>(hw y a).2) (yE _);rw[OQ];unfold Zy;rw[YO (λy a=>(hw y a).1) (Nat.le_of_ble_eq_true rfl) (yB c (by decide))];refine Eq.trans (b:=((x.1.1,x.1.2.1,(Xn (Q7 n)).1),x.2)) (by kernel_rfl) ?_;rw[Es,YJ h]
def Qeb(l:W Wv):W N:=l.flatMap λa=> [a.1,X1 a.2]
def Qte(l:W Wv):Prop:=∀a,a∈l->Qz a.1=Q/\Xd a.2=Q/\a.2.1≠0
theorem JV(a:Wv)(l:W Wv):Qeb (a::l)=a.1::X1 a.2::Qeb l:=rfl
theorem OS(l:W Wv):(Qeb l).length=2*l.length:=by
 induction l with
 | nil=>rfl
 | cons a l b=>rw[JV];simp only[List.length_cons,b];omega
theorem Qcp{w r:W N}{i:K}{a b:N}(h:w.drop i=a::b::r):nth w i=a/\nth w (i+1)=b/\w.drop (i+2)=r/\i+1<w.length:=by
 obtain⟨c,d,_⟩:=Fj h;obtain⟨e,f,g⟩:=Fj d;refine⟨?_, ?_,f,g⟩
 . unfold nth;rw[zW,c];rfl
 unfold nth;rw[zW,e];rfl
theorem KS{w:W N}{i:K}(h:w.drop i= []):w.length<=i:=by
 have:=G zD h;rw[yC] at this;simp only[List.length_nil] at this;omega
theorem ER{w:W N}(d:w.length<=1000):∀(l:W Wv) (i n:K) (A:W Wv),Qte l->w.drop i=Qeb l->l.length<n->whl (Vw w) n (Q,(i:Y),A)=E (.brk (Q,A++l))
 | [],i,n,A,_,h,hn=>by
   obtain⟨m,rfl⟩:∃m,n=m+1:=⟨n-1,by omega⟩;have j:=KS h
   have c:Vw w (Q,(i:Y),A)= .brk (Q,A):=by
    unfold Vw;rw[F (show¬(i:Y)<(w.length:Y) by omega),J]
   rw[whl,c,zS]
 | a ::l,i,n,A,ho,h,hn=>by
   obtain⟨m,rfl⟩:∃m,n=m+1:=⟨n-1,by omega⟩;rw[JV] at h;obtain⟨e,f,g,k⟩:=Qcp h;have ha:=ho a (zN ..)
   have c:Vw w (Q,(i:Y),A)= .next (Q,((i+2:K):Y),A++ [a]):=by
    unfold Vw;rw[uC (show(i:Y)<(w.length:Y) by omega),I];dsimp only;rw[IntWalk.i64_in ((i:Y)+1) (by omega),IntWalk.i64_in ((i:Y)+2) (by omega),show((i:Y)+1)=((i+1:K):Y) from rfl,zV,zV,e,f,OO ha.2.1 ha.2.2];rfl
   rw[List.length_cons] at hn;rw[whl,c];show whl (Vw w) m (Q,((i+2:K):Y),A++ [a])=_;rw[ER d l (i+2) m (A++ [a]) (λb hb=>ho b (zL _ hb)) g (by omega),zM,List.singleton_append]
theorem ES{line:N}{w:W N}(c:(Qb line).1=w)(e:w.length<=1000):∀(l:W Wv) (i n:K) (A:W Wv),Qte l->w.drop i=Qeb l->l.length<n->whl (J9 line) n ((i:Y),A)=E (.brk (A++l))
 | [],i,n,A,_,h,hn=>by
   obtain⟨m,rfl⟩:∃m,n=m+1:=⟨n-1,by omega⟩;have o:=KS h
   have d:J9 line ((i:Y),A)= .brk A:=by
    unfold J9;rw[c,F (show¬(i:Y)<(w.length:Y) by omega),J]
   rw[whl,d,zS]
 | a ::l,i,n,A,ho,h,hn=>by
   obtain⟨m,rfl⟩:∃m,n=m+1:=⟨n-1,by omega⟩;rw[JV] at h;obtain⟨f,g,j,p⟩:=Qcp h;have ha:=ho a (zN ..)
   have d:J9 line ((i:Y),A)= .next (((i+2:K):Y),A++ [a]):=by
    unfold J9;rw[c,uC (show(i:Y)<(w.length:Y) by omega),I];dsimp only;rw[IntWalk.i64_in ((i:Y)+1) (by omega),IntWalk.i64_in ((i:Y)+2) (by omega)]
    have k:Qg w ((i:Y)+1)=X1 a.2:=by
     unfold Qg;rw[F (show¬((i:Y)+1)>=(w.length:Y) by omega),J,show((i:Y)+1)=((i+1:K):Y) from rfl,zV,g]
    rw[k,zV,f,YK,OO ha.2.1 ha.2.2];rfl
   rw[List.length_cons] at hn;rw[whl,d];show whl (J9 line) m (((i+2:K):Y),A++ [a])=_;rw[ES c e l (i+2) m (A++ [a]) (λb hb=>ho b (zL _ hb)) j (by omega),zM,List.singleton_append]
theorem Qik{R S T:Type}[Inhabited T]{f:S->Rd R S T}{n:K}{s:S}{o:Out R T}(h:whl f n s=E o):Ps f n s=o:=by unfold Ps;rw[h];rfl
theorem YP(f:Yn):Dj f=FIL::Q7 f.1::Q7 f.2.1::(bif f.2.2.1 then(⟨#[115]⟩:N) else⟨#[111]⟩)::Q7 f.2.2.2.1::Qeb f.2.2.2.2:=rfl
theorem Qcq{f:Yn}(h:FBd f):∀y,y∈Dj f->Word y:=λy hy=>by
 rw[YP] at hy;have c:=h.1;have d:=h.2.1;have e:=h.2.2.1;simp only[zR] at hy;rcases hy with rfl | rfl | rfl | rfl | rfl | hy
 . exact Ol (by decide)
 . exact YL (by omega)
 . exact YL (by omega)
 . cases f.2.2.1<;>exact Ol (by decide)
 . exact YL (by omega)
 obtain⟨a,ha,hy⟩:=List.mem_flatMap.1 hy;have b:=h.2.2.2.2 a ha;simp only[zR,List.mem_nil_iff,uL] at hy;rcases hy with rfl | rfl
 . exact BD b.1
 exact Qco b.2.1 b.2.2
theorem OT{f:Yn}(h:FBd f):Z4 ((Dj f).drop 1)=(f,Q):=by
 have k:=h.1;have m:=h.2.1;have p:=h.2.2.1;have q:=h.2.2.2.1;have a:((Dj f).drop 1).length=4+2*f.2.2.2.2.length:=by rw[YP];simp only[yO,yW,List.length_cons,OS];omega
 unfold Z4;rw[a,F (show¬((4+2*f.2.2.2.2.length:K):Y)<4 by omega),Bool.false_or];rw[show(yR ((4+2*f.2.2.2.2.length:K):Y) 2 !=(0:Y))=L from bne_eq_false_iff_eq.2 (by rw[Int.tmod_eq_emod_of_nonneg (by omega)];omega),J];have c:nth ((Dj f).drop 1) 0=Q7 f.1:=rfl;have d:nth ((Dj f).drop 1) 1=Q7 f.2.1:=rfl;have e:nth ((Dj f).drop 1) 2=(bif f.2.2.1 then(⟨#[115]⟩:N) else⟨#[111]⟩):=rfl;have g:nth ((Dj f).drop 1) 3=Q7 f.2.2.2.1:=rfl;rw[c,d,e,g,YJ (n:=f.1) (by omega),YJ (n:=f.2.1) (by omega),YJ (n:=f.2.2.2.1) (by omega)];have j:=ER (w:=(Dj f).drop 1) (by rw[a];omega) f.2.2.2.2 4 (4+2*f.2.2.2.2.length+1) [] h.2.2.2.2 rfl (by omega);have b:=Qik j;rw[show(Q&&(Q&&Q))=Q from rfl,show(4:Y)=((4:K):Y) from rfl];simp only[];rw[b];obtain⟨i,o,s,l,z⟩:=f;cases s<;>(show _=_;kernel_rfl)
theorem Qtu{f:Yn}(h:FBd f)(a:W Y4)(c:W Yn)(d:Y)(e:W Zo):Jm a c d e (Z0 f)=(Q,a,c++ [f],d,e):=by
 rw[WK];unfold Jm;rw[YN (by rw[YP];exact List.cons_ne_nil _ _) (Qcq h)];refine Eq.trans (b:=((Z4 ((Dj f).drop 1)).2,a,c++ [(Z4 ((Dj f).drop 1)).1],d,e)) (by kernel_rfl) ?_;rw[OT h]
theorem Qtv{f:Yn}(h:FBd f)(x:Qw):Zy x (Z0 f)=((x.1.1,x.1.2.1++ [f],x.1.2.2),x.2):=by
 have j:=h.1;have k:=h.2.1;have p:=h.2.2.1;have hb:=OL h;have d:=Ug (s:=SP) (m:=10) (n:=15) rfl hb.2 hb.1;rw[WK];have c:=YO (Qcq h) (by omega) (yB d (by decide));have e:=ES (line:=Xs SP (Dj f)) (w:=Dj f) (by rw[c]) (by omega) f.2.2.2.2 5 ((Dj f).length+1) [] h.2.2.2.2 rfl (by rw[YP];simp only[List.length_cons,OS];omega);have a:=Qik e;unfold Zy;rw[c];refine Eq.trans (b:=(Out.on (Ps (J9 (Xs SP (Dj f))) ((Dj f).length+1) (((5:K):Y), [])) (λg=>((x.1.1,x.1.2.1++ [((Xn (Q7 f.1)).1,(Xn (Q7 f.2.1)).1,((bif f.2.2.1 then(⟨#[115]⟩:N) else⟨#[111]⟩).toList==(⟨#[115]⟩:N).toList),(Xn (Q7 f.2.2.2.1)).1,g)],x.1.2.2),x.2)):Qw)) (by kernel_rfl) ?_;rw[a,Es,Es,Es,YJ (n:=f.1) (by omega),YJ (n:=f.2.1) (by omega),YJ (n:=f.2.2.2.1) (by omega)];obtain⟨i,o,s,l,z⟩:=f;cases s<;>(show _=_;kernel_rfl)
theorem YQ{d:Zo}(a:Qj d.2=Q):Hk d=Xs SP (DIR::d.1::qws d.2):=by
 obtain⟨b,c,_⟩:=KR a;unfold Hk;rw[b,show(DIR::d.1::qws d.2)= [DIR,d.1]++qws d.2 from rfl,F2 _ (λe=>by cases e) c,Vd];simp only[ByteArray.append_assoc];rfl
theorem Qly{d:Zo}(a:Xl d.1=Q)(b:Qj d.2=Q):∀y,y∈DIR::d.1::qws d.2->Word y/\y.size<=10:=λy hy=>by
 simp only[zR] at hy;rcases hy with rfl | rfl | hy
 . exact⟨Ol (by decide),by decide⟩
 . exact⟨IJ a,by have:=Fi a;omega⟩
 exact(KR b).2.2 y hy
theorem Qs5{d:Zo}(g:Xl d.1=Q)(a:Qj d.2=Q)(b:W Y4)(c:W Yn)(e:Y)(f:W Zo):Jm b c e f (Hk d)=((Yo (Xh d.2)).2,b,c,e,f++ [(d.1,(Yo (Xh d.2)).1)]):=by
 obtain⟨h,i,_⟩:=KR a;rw[YQ a,h];unfold Jm;rw[YN (List.cons_ne_nil _ _) λy j=>(Qly g a y j).1];have k:decide (((DIR::d.1::qws d.2).length:Y)>(2:Y))=Q:=uC (by have:=List.length_pos_iff.2 i;simp only[List.length_cons];omega);rw[k];show _=_
 kernel_rfl
theorem IN{d:Zo}(e:Xl d.1=Q)(b:Qj d.2=Q)(c:(DIR::d.1::qws d.2).length<=24/\(Hk d).size<=600)(x:Qw):Zy x (Hk d)=(x.1,x.2++ [(d.1,(Zf (Xh d.2)).1)]):=by
 obtain⟨f,g,_⟩:=KR b;rw[YQ b] at c⊢;rw[f];unfold Zy;rw[YO (λy h=>(Qly e b y h).1) c.1 c.2];have i:decide (((DIR::d.1::qws d.2).length:Y)>(2:Y))=Q:=uC (by have:=List.length_pos_iff.2 g;simp only[List.length_cons];omega);have p0:Qg (DIR::d.1::qws d.2) 0=DIR:=(H9 (a:=0) rfl).1;have j:Qg (DIR::d.1::qws d.2) 1=d.1:=(H9 (a:=1) rfl).1;have k1:(DIR.toList==(⟨#[102,105,101,108,100]⟩:N).toList)=L:=by kernel_rfl
 have k:(DIR.toList==(⟨#[110,101,120,116]⟩:N).toList)=L:=by kernel_rfl
 have l:(DIR.toList==(⟨#[102,105,108,101]⟩:N).toList)=L:=by kernel_rfl
 dsimp only;rw[p0,j,i,k1,k,l,uK];simp only[I,J,yO,yW];rw[EO]
theorem Qil{d:Zo}(c:Xl d.1=Q)(a:Qj d.2=Q)(b:¬((DIR::d.1::qws d.2).length<=24/\(Hk d).size<=600))(x:Qw):Zy x (Hk d)=x:=by
 rw[YQ a] at b⊢;unfold Zy;rw[Qh7,Qaa (λy e=>(Qly c a y e).1) b]
 kernel_rfl
theorem Qab{α:Type}[Inhabited α]:∀{a b:W α},a.length=b.length->(∀i,i<a.length->nth a i=nth b i)->a=b
 | [], [],_,_=>rfl
 | [],_::_,h,_=>by cases h
 | _::_, [],h,_=>by cases h
 | x::a,y::b,h,hi=>by
   have d:=hi 0 (Nat.zero_lt_succ _);have:a=b:=Qab (by simpa using h) λi c=>hi (i+1) (Nat.succ_lt_succ c)
   rw[this,show x=y from d]
theorem IP{R:Type}(b:W N)(f:K->N->uB->Rd H uB uB)(e:K->uB->uB)(g:∀k a,f k a ()=(bif (!(a.toList==(nth b k).toList)) then(.ret L) else(.next ()))):∀(l:W N) (k:K),Out.on (X8 f e l k ()) (λ_=>Q)=decide (∀i,i<l.length->nth l i=nth b (k+i))
 | [],k=>by simp[X8,Out.on]
 | a :: l,k=>by
   simp only[X8];rw[g];cases c:(a.toList==(nth b k).toList) with
   | false=>
     simp only[yH,I,Out.on];refine(F λh=>?_).symm;have d:a=nth b k:=h 0 (Nat.zero_lt_succ _);rw[d,uK] at c;cases c
   | true=>
     simp only[zY,J];have d:a=nth b k:=Wd c;have j:=IP (R:=R) b f e g l (k+1);rw[j];refine uN.2 ⟨λh i hi=>?_,λh i hi=>?_⟩
     . cases i with
       | zero=>exact d
       | succ i=>have:=h i (Nat.lt_of_succ_lt_succ hi);rw[show k+(i+1)=k+1+i by omega];exact this
     have:=h (i+1) (Nat.succ_lt_succ hi);rw[show k+1+i=k+(i+1) by omega];exact this
theorem Qrr(a b:W N):Uh a b=decide (a=b):=by
 unfold Uh;by_cases c:a.length=b.length
 . rw[show((a.length:Y) !=(b.length:Y))=L from bne_eq_false_iff_eq.2 (by omega),J,IP (R:=uB) b _ _ λ_ _=>rfl];refine uN.2 ⟨λh=>Qab c λi hi=>by have:=h i hi;rwa [yI] at this,λh i _=>by rw[h,yI]⟩
 rw[show((a.length:Y) !=(b.length:Y))=Q from bne_iff_ne.2 (by omega),I];exact(F λh=>c (by rw[h])).symm
theorem Qrs(a b:W N):Er a b=decide (a=b):=by
 unfold Er;by_cases c:a.length=b.length
 . rw[show((a.length:Y) !=(b.length:Y))=L from bne_eq_false_iff_eq.2 (by omega),J,IP (R:=uB) b _ _ λ_ _=>rfl];refine uN.2 ⟨λh=>Qab c λi hi=>by have:=h i hi;rwa [yI] at this,λh i _=>by rw[h,yI]⟩
 rw[show((a.length:Y) !=(b.length:Y))=Q from bne_iff_ne.2 (by omega),I];exact(F λh=>c (by rw[h])).symm
def Ie:W N->Qw->Option Qw
 | [],s=>E s
 | a::l,s=>bif (Jm s.1.1 s.1.2.1 s.1.2.2 s.2 a).1 then Ie l (((Jm s.1.1 s.1.2.1 s.1.2.2 s.2 a).2.1,(Jm s.1.1 s.1.2.1 s.1.2.2 s.2 a).2.2.1,(Jm s.1.1 s.1.2.1 s.1.2.2 s.2 a).2.2.2.1),(Jm s.1.1 s.1.2.1 s.1.2.2 s.2 a).2.2.2.2) else uD
def F6:W N->Qw->Qw
 | [],s=>s
 | a::l,s=>F6 l (Zy s a)
theorem YR:∀(a b:W N) (s:Qw),Ie (a++b) s=(Ie a s).bind (Ie b)
 | [],_,_=>rfl
 | x::a,b,s=>by
   simp only[List.cons_append,Ie];cases(Jm s.1.1 s.1.2.1 s.1.2.2 s.2 x).1 with
   | true=>exact YR a b _
   | false=>rfl
theorem OU:∀(a b:W N) (s:Qw),F6 (a++b) s=F6 b (F6 a s)
 | [],_,_=>rfl
 | _::a,b,s=>OU a b _
theorem ET:∀(l:W N) (k:K) (s:Qw),X8 W9 H7 l k s=(match Ie l s with | some y=> .brk y | none=> .ret ((([], [],0), []),L))
 | [],_,_=>rfl
 | a ::l,k,s=>by
   have b:W9 k a s=bif (!(Jm s.1.1 s.1.2.1 s.1.2.2 s.2 a).1) then .ret ((([], [],0), []),L) else .next (((Jm s.1.1 s.1.2.1 s.1.2.2 s.2 a).2.1,(Jm s.1.1 s.1.2.1 s.1.2.2 s.2 a).2.2.1,(Jm s.1.1 s.1.2.1 s.1.2.2 s.2 a).2.2.2.1),(Jm s.1.1 s.1.2.1 s.1.2.2 s.2 a).2.2.2.2):=rfl
   simp only[X8,Ie];rw[b];cases(Jm s.1.1 s.1.2.1 s.1.2.2 s.2 a).1 with
   | true=>
     simp only[zY,J,I];exact ET l (k+1) _
   | false=>rfl
theorem EU:∀(l:W N) (k:K) (s:Qw),X8 H8 Cr l k s= .brk (F6 l s)
 | [],_,_=>rfl
 | a::l,k,s=>by
   simp only[X8,F6];unfold H8 lt;exact EU l (k+1) _
abbrev ZS:Qw:=(([], [],0), [])
theorem Qtf(a:W N):Xk a=match Ie a ZS with
 | some y=>bif Qm y&&decide (Xi y=a) then(y,Q) else(ZS,L)
 | none=>(ZS,L):=by
 unfold Xk;rw[ET];cases Ie a ZS with
 | none=>rfl
 | some y=>
   simp only[Out.on];rw[Qrr];cases Qm y<;>cases decide (Xi y=a)<;>rfl
theorem Qtw(a:W N):Xx a=bif Qm (F6 a ZS)&&decide (Xi (F6 a ZS)=a) then(F6 a ZS,Q) else(ZS,L):=by
 unfold Xx;rw[EU];simp only[Out.on];rw[Qrs,Gi,enc_eq];cases Qm (F6 a ZS)<;>cases decide (Xi (F6 a ZS)=a)<;>rfl
theorem OW:∀(l:W Y4) (s:Qw),(∀f,f∈l->Qz f.1=Q/\(f.2=1\/f.2=2))->Ie (l.map Y6) s=E ((s.1.1++l,s.1.2.1,s.1.2.2),s.2)
 | [],s,_=>by rw[zS];rfl
 | f::l,s,h=>by
   have a:=h f (zN ..);rw[zZ,Ie,Qtq a.1 a.2];simp only[I];rw[OW l _ λg b=>h g (zL _ b)];simp only[zM,List.singleton_append]
theorem OX:∀(l:W Y4) (s:Qw),(∀f,f∈l->Qz f.1=Q/\(f.2=1\/f.2=2))->F6 (l.map Y6) s=((s.1.1++l,s.1.2.1,s.1.2.2),s.2)
 | [],s,_=>by rw[zS];rfl
 | f::l,s,h=>by
   have a:=h f (zN ..);rw[zZ,F6,Qtr a.1 a.2,OX l _ λg b=>h g (zL _ b)];simp only[zM,List.singleton_append]
theorem OY:∀(l:W Yn) (s:Qw),(∀f,f∈l->FBd f)->Ie (l.map Z0) s=E ((s.1.1,s.1.2.1++l,s.1.2.2),s.2)
 | [],s,_=>by rw[zS];rfl
 | f::l,s,h=>by
   rw[zZ,Ie,Qtu (h f (zN ..))];simp only[I];rw[OY l _ λg a=>h g (zL _ a)];simp only[zM,List.singleton_append]
theorem OZ:∀(l:W Yn) (s:Qw),(∀f,f∈l->FBd f)->F6 (l.map Z0) s=((s.1.1,s.1.2.1++l,s.1.2.2),s.2)
 | [],s,_=>by rw[zS];rfl
 | f::l,s,h=>by
   rw[zZ,F6,Qtv (h f (zN ..)),OZ l _ λg a=>h g (zL _ a)];simp only[zM,List.singleton_append]
abbrev DOk(d:Zo):Prop:=Xl d.1=Q/\Qj d.2=Q
def RdI(d:Zo):Prop:=Yo (Xh d.2)=(d.2,Q)
def RdS(d:Zo):Prop:=((DIR::d.1::qws d.2).length<=24/\(Hk d).size<=600)/\(Zf (Xh d.2)).1=d.2
theorem PA:∀(l:W Zo) (s:Qw),(∀d,d∈l->DOk d)->(∀d,d∈l->RdI d)->Ie (l.map Hk) s=E (s.1,s.2++l)
 | [],s,_,_=>by rw[zS];rfl
 | d::l,s,h,hr=>by
   have hd:=h d (zN ..);have b:=hr d (zN ..);unfold RdI at b;rw[zZ,Ie,Qs5 hd.1 hd.2,b];simp only[I];rw[PA l _ (λg a=>h g (zL _ a)) λg a=>hr g (zL _ a)];simp only[zM,List.singleton_append]
theorem BE : ∀(l m:W Zo) (s t:Qw),(∀d,d∈l->DOk d)->Ie (l.map Hk) s=E t->t.2=s.2++m->m.length=l.length->∀(i:K) d,l[i]? =E d->∃g,m[i]? =E g/\g.1=d.1/\Yo (Xh d.2)=(g.2,Q)
 | [],_,_,_,_,_,_,_,i,d,hi=>by simp at hi
 | a :: l, m,s,t,h,hf,ht,hm,i,d,hi=>by
   have ha:=h a (zN ..);rw[zZ,Ie,Qs5 ha.1 ha.2] at hf;cases k:(Yo (Xh a.2)).2 with
   | false=>rw[k] at hf;cases hf
   | true =>
     rw[k] at hf;simp only[I] at hf;cases m with
     | nil=>simp at hm
     | cons g m=>
       have c:∀(l:W Zo) (s t:Qw),(∀d,d∈l->DOk d)->Ie (l.map Hk) s=E t->∃u,t.2=s.2++u:=by
        intro l
        induction l with
        | nil=>intro s t _ h;obtain rfl:=yM (show E s=E t from h);exact⟨[],(zS _).symm⟩
        | cons b l o=>
          intro s t hb h;have f:=hb b (zN ..);rw[zZ,Ie,Qs5 f.1 f.2] at h;cases n:(Yo (Xh b.2)).2 with
          | false=>rw[n] at h;cases h
          | true=>
            rw[n] at h;obtain⟨u,j⟩:=o _ t (λd hd=>hb d (zL _ hd)) h;exact⟨_::u,by rw[j];simp only[zM,List.singleton_append];rfl⟩
       obtain⟨u,j⟩:=c l _ t (λd hd=>h d (zL _ hd)) hf
       have e: [(a.1,(Yo (Xh a.2)).1)]++u=g::m:=by
        have:=j.symm.trans ht;simp only[zM] at this;exact List.append_cancel_left this
       obtain⟨rfl,rfl⟩:(a.1,(Yo (Xh a.2)).1)=g/\u=m:=by simpa using e
       cases i with
       | zero=>
         obtain rfl:a=d:=by simpa using hi
         exact⟨_,rfl,rfl,by rw[←k]⟩
       | succ i=>
         exact BE l u _ t (λd hd=>h d (zL _ hd)) hf j (by simpa using hm) i d (by simpa using hi)
theorem PB:∀(l:W Zo) (s:Qw),(∀d,d∈l->DOk d)->(∀d,d∈l->RdS d)->F6 (l.map Hk) s=(s.1,s.2++l)
 | [],s,_,_=>by rw[zS];rfl
 | d::l,s,h,hr=>by
   have hd:=h d (zN ..);have b:=hr d (zN ..);rw[zZ,F6,IN hd.1 hd.2 b.1,b.2,PB l _ (λg a=>h g (zL _ a)) λg a=>hr g (zL _ a)];simp only[zM,List.singleton_append]
theorem WN:∀(l:W Zo) (s:Qw),(∀d,d∈l->DOk d)->∃u,(F6 (l.map Hk) s).2=s.2++u/\u.length<=l.length
 | [],s,_=>⟨[],(zS _).symm,yE _⟩
 | d ::l,s,h=>by
   have hd:=h d (zN ..);rw[zZ,F6];by_cases e:(DIR::d.1::qws d.2).length<=24/\(Hk d).size<=600
   . rw[IN hd.1 hd.2 e];obtain⟨u,a,b⟩:=WN l (s.1,s.2++ [(d.1,(Zf (Xh d.2)).1)]) λg c=>h g (zL _ c)
     exact⟨_::u,by rw[a];simp only[zM,List.singleton_append];rfl,Nat.succ_le_succ b⟩
   rw[Qil hd.1 hd.2 e];obtain⟨u,a,b⟩:=WN l s λg c=>h g (zL _ c)
   exact⟨u,a,Nat.le_succ_of_le b⟩
theorem BF:∀(l:W Zo) (s:Qw),(∀d,d∈l->DOk d)->(F6 (l.map Hk) s).2=s.2++l->∀d,d∈l->RdS d
 | [],_,_,_,d,hd=>by cases hd
 | a ::l,s,h,hf,d,hd=>by
   have ha:=h a (zN ..);have c:=λg j=>h g (zL _ j)
   rw[zZ,F6] at hf;by_cases f:(DIR::a.1::qws a.2).length<=24/\(Hk a).size<=600
   . rw[IN ha.1 ha.2 f] at hf;obtain⟨u,b,_⟩:=WN l (s.1,s.2++ [(a.1,(Zf (Xh a.2)).1)]) c
     have e: [(a.1,(Zf (Xh a.2)).1)]++u=a::l:=by
      have:=b.symm.trans hf;simp only[zM] at this;exact List.append_cancel_left this
     obtain⟨e1,rfl⟩:(a.1,(Zf (Xh a.2)).1)=a/\u=l:=by simpa using e
     have k:(Zf (Xh a.2)).1=a.2:=G Prod.snd e1;rcases zR.1 hd with rfl | hd
     . exact⟨f,k⟩
     exact BF u (s.1,s.2++ [(a.1,(Zf (Xh a.2)).1)]) c b d hd
   rw[Qil ha.1 ha.2 f] at hf;obtain⟨u,b,i⟩:=WN l s c;have e:u=a::l:=List.append_cancel_left (b.symm.trans hf);rw[e] at i;simp only[List.length_cons] at i;omega
theorem Qne{d:Zo}(h:DOk d):RdI d↔RdS d:=by
 unfold RdI RdS;refine⟨λhi=>?_,λb=>?_⟩
 . obtain⟨a,b⟩:=Qs3 h.2 hi;have e:=a.len;have c:=Fs h.2;simp only[List.length_nil] at e;refine⟨⟨by simp only[List.length_cons];omega, ?_⟩,by rw[Qrn h.2 a b]⟩;have hb:=Ug (s:=SP) (m:=10) (n:=21) (l:=DIR::d.1::qws d.2) rfl (λy f=>(Qly h.1 h.2 y f).2) (by simp only[List.length_cons];omega);rw[YQ h.2];exact yB hb (by decide)
 obtain⟨a,c⟩:=Qro h.2 b.2;exact Qs4 h.2 a c
theorem KT{x:Qw}(a:Qm x=Q):Xi x=(x.1.1.map Y6++ [((⟨#[110,101,120,116,32]⟩:N)++(Q7 x.1.2.2))])++(x.1.2.1.map Z0++x.2.map Hk):=by
 rw[BA,a];simp only[zY,J,zM]
theorem Qpn{x:Qw}(a:Qm x=Q):Ie (Xi x) ZS=Ie (x.2.map Hk) ((x.1.1,x.1.2.1,x.1.2.2), []):=by
 have hb:=Lx a;have b:=(YD (IA (Sk a)).1).2;rw[KT a,YR,YR,OW _ _ b];simp only[Option.bind_some,Ie];rw[Qts (by omega)];simp only[I];rw[Option.bind_some,YR,OY _ _ hb.2.2.2];rfl
theorem Qpo{x:Qw}(a:Qm x=Q):F6 (Xi x) ZS=F6 (x.2.map Hk) ((x.1.1,x.1.2.1,x.1.2.2), []):=by
 have hb:=Lx a;have b:=(YD (IA (Sk a)).1).2;rw[KT a];simp only[OU];rw[OX _ _ b];simp only[F6];rw[Qtt (by omega),OZ _ _ hb.2.2.2];rfl
theorem Qlz{x:Qw}(a:Qm x=Q):∀d,d∈x.2->DOk d:=λd hd=>(Sl a hd).2
theorem Qcr{x:Qw}(b:Qm x=Q):Ie (Xi x) ZS=E x↔F6 (Xi x) ZS=x:=by
 have hd:=Qlz b;rw[Qpn b,Qpo b];refine⟨λh=>?_,λh=>?_⟩
 . have c:∀d,d∈x.2->RdI d:=λd a=>by
    obtain⟨i,hi⟩:=yL a;obtain⟨g,e,j,f⟩:=BE x.2 x.2 _ x hd h rfl rfl i d hi;obtain rfl:d=g:=yM (hi.symm.trans e);exact f
   rw[PB _ _ hd λd a=>(Qne (hd d a)).1 (c d a)];rfl
 have c:=BF x.2 ((x.1.1,x.1.2.1,x.1.2.2), []) hd (by rw[h];rfl);rw[PA _ _ hd λd a=>(Qne (hd d a)).2 (c d a)];rfl
theorem Qim(lines:W N):Xx lines=Xk lines:=by
 rw[Qtf,Qtw];cases a:(Qm (F6 lines ZS)&&decide (Xi (F6 lines ZS)=lines)) with
 | true=>
   simp only[zT,uH] at a;have hb:=(Qcr a.1).2 (by rw[a.2]);rw[a.2] at hb;rw[hb];simp only[a.1,a.2,decide_true,Bool.and_true,I]
 | false=>
   simp only[J];cases c:Ie lines ZS with
   | none=>rfl
   | some y=>
     simp only[];cases b:(Qm y&&decide (Xi y=lines)) with
     | false=>rfl
     | true=>
       exfalso;simp only[zT,uH] at b;have hb:=(Qcr b.1).1 (by rw[b.2];exact c);rw[b.2] at hb;rw[hb] at a;simp only[b.1,b.2,decide_true,Bool.and_true] at a;cases a
theorem BG:∀(l:W N) (k:K) (s:N),X8 C8 F5 l k s=X8 Av C7 l k s/\∃y,X8 Av C7 l k s= .brk y
 | [],k,s=>⟨rfl,s,rfl⟩
 | a::l,k,s=>by
   simp only[X8,C8,Av];rw[ByteArray.append_assoc];exact BG l (k+1) _
theorem Qec(n:Y)(x:Qw):Bl n x=W1 n x:=by
 unfold Bl W1;have e:∀n,Q8 n 1 1000000000=Xv n 1 1000000000:=λn=>rfl
 rw[Gi,enc_eq,e,(BG _ _ _).1];cases((!(Qm x))|| (!(Xv n 1 1000000000))) with
 | true=>rfl
 | false=>
   obtain⟨y,a⟩:=(BG (Xi x) 0 ((Q7 n)++(⟨#[10]⟩:N))).2;rw[a];simp only[J,Out.on];rw[Qch]
theorem BH{n:Y}(x:Qw)(h:¬(1<=n/\n<=1000000000)):W1 n x=⟨#[]⟩:=by
 unfold W1
 have e:Xv n 1 1000000000=L:=by
  cases a:Xv n 1 1000000000 with
  | false=>rfl
  | true=>exact absurd (Kr.1 a) h
 rw[e];simp only[yH,Bool.or_true,I]
theorem YS(s:N):Xf s=Qq s:=by
 unfold Xf Qq;rw[Qcn];have e:=JQ 10 s;have a:((Qs 10 s).dropLast).length=(Qs 10 s).length-1:=List.length_dropLast ..;by_cases c:(Qs 10 s).length=1
 . rw[a,c];rfl
 rw[show((((Qs 10 s).dropLast).length:Y)==(0:Y))=L from by
  cases b:((((Qs 10 s).dropLast).length:Y)==(0:Y)) with
  | false=>rfl
  | true=>have:=eq_of_beq b;omega,F (show¬((Qs 10 s).length:Y)<2 by omega),J,J]
 have f:nth ((Qs 10 s).dropLast) 0=nth (Qs 10 s) 0:=by
  unfold nth;rw[zW,zW,List.getElem?_dropLast,uF (by omega)]
 have g:zJ (zQ (((Qs 10 s).length:Y)-1)) (Qs 10 s)=(Qs 10 s).dropLast:=by
  rw[List.dropLast_eq_take,show zQ (((Qs 10 s).length:Y)-1)=(Qs 10 s).length-1 by omega]
 rw[f,g,Qim,Es,Qec];cases d:(Qf (nth (Qs 10 s) 0)).2 with
 | true=>rfl
 | false=>
   have b:(Qf (nth (Qs 10 s) 0)).1=0:=by
    unfold Qf at d⊢;cases h:G1 (nth (Qs 10 s) 0) with
    | none=>rfl
    | some n=>rw[h] at d;cases d
   rw[b,BH _ (by omega)]
   have i:((⟨#[]⟩:N).toList==s.toList)=L:=by
    cases b:((⟨#[]⟩:N).toList==s.toList) with
    | false=>rfl
    | true=>rw[←Wd b] at c;exact absurd rfl c
   rw[i];simp only[yH,Bool.or_true,Bool.true_or,I]
theorem Qin{c:H}{n:Y}{x:Qw}(h:(bif c then((0,ZS,L):Y×Qw×H) else(n,x,Q)).2.2=L):(bif c then((0,ZS,L):Y×Qw×H) else(n,x,Q))=(0,ZS,L):=by
 cases c with
 | true=>rfl
 | false=>cases h
theorem Qio(d:N6):Zs d=Y8 d:=by
 unfold Zs Y8;rw[YS,YS]
 have e:∀s,(Qq s).2.2=L->Qq s=(0,ZS,L):=λs h=>by
  unfold Qq at h⊢;cases c:decide (((Qs 10 s).length:Y)<(2:Y)) with
  | true=>rfl
  | false=>
    rw[c] at h;simp only[J] at h⊢;exact Qin h
 have c:=e d.1;have f:=e d.2;generalize Qq d.1=a at c⊢;generalize Qq d.2=b at f⊢;obtain⟨n,x,p⟩:=a;obtain⟨m,y,q⟩:=b;cases p with
 | true=>
   cases q with
   | true=>
     by_cases h:m>n
     . simp[h,show¬n>=m by omega]
     simp[h,show n>=m by omega]
   | false=>rfl
 | false=>
   cases q with
   | true=>rfl
   | false=>
     have g:=c rfl;have i:=f rfl;rw[g,i];rfl
open GoE (enc wide)
def Y1(d:N6):Y×Qw×H:=(((Y8 d)).1,(((Y8 d)).2.1),((Y8 d)).2.2.1)
theorem Sw(d:N6)(a:zE d.1<=1073741000)(b:zE d.2<=1073741000):ACalls uQ 26 [.a [.s d.1,.s d.2]] (.tup [(L, [.i (((Y1 d)).1)]),(Q, [.o 0 ((((Y1 d)).2.1).1.1),.o 1 ((((Y1 d)).2.1).1.2.1),.i ((((Y1 d)).2.1).1.2.2),.o 2 ((((Y1 d)).2.1).2)]),(L, [.b (((Y1 d)).2.2)])]):=by
 refine en func26 λ_ _ _=>sn [1,2,3,4] [1,3] p0 ?_
 exact tn [2,3,4,5,6,7] [3,6] (pc 1 (VK d (by assumption) (by assumption)) p0)<|tU [(2,.i (((Y8 d)).1)),(3,.p 3 0),(4,.b (((Y8 d)).2.2.1))] [0] [(3, [.o 704 ((((Y8 d)).2.1).1.1),.o 705 ((((Y8 d)).2.1).1.2.1),.i ((((Y8 d)).2.1).1.2.2),.o 706 ((((Y8 d)).2.1).2)])] [] p0<|Qc<|pz [] (show Y1 d=(((Y8 d)).1,(((Y8 d)).2.1),((Y8 d)).2.2.1) from rfl) (λz=> .tup [(L, [.i z.1]),(Q, [.o 0 z.2.1.1.1,.o 1 z.2.1.1.2.1,.i z.2.1.1.2.2,.o 2 z.2.1.2]),(L, [.b z.2.2])])
def J4(d:N6):Y×Qw×H:=(((Zs d)).1,(((Zs d)).2.1),((Zs d)).2.2.1)
theorem Sx(d:N6)(a:zE d.1<=1073741000)(b:zE d.2<=1073741000):ACalls uQ 17 [.a [.s d.1,.s d.2]] (.tup [(L, [.i (((J4 d)).1)]),(Q, [.o 0 ((((J4 d)).2.1).1.1),.o 1 ((((J4 d)).2.1).1.2.1),.i ((((J4 d)).2.1).1.2.2),.o 2 ((((J4 d)).2.1).2)]),(L, [.b (((J4 d)).2.2)])]):=by
 refine en func17 λ_ _ _=>sn [1,2,3,4] [1,3] p0 ?_
 exact tn [2,3,4,5,6,7] [3,6] (pc 1 (BB d (by assumption) (by assumption)) p0)<|tU [(2,.i (((Zs d)).1)),(3,.p 3 0),(4,.b (((Zs d)).2.2.1))] [0] [(3, [.o 704 ((((Zs d)).2.1).1.1),.o 705 ((((Zs d)).2.1).1.2.1),.i ((((Zs d)).2.1).1.2.2),.o 706 ((((Zs d)).2.1).2)])] [] p0<|Qc<|pz [] (show J4 d=(((Zs d)).1,(((Zs d)).2.1),((Zs d)).2.2.1) from rfl) (λz=> .tup [(L, [.i z.1]),(Q, [.o 0 z.2.1.1.1,.o 1 z.2.1.1.2.1,.i z.2.1.1.2.2,.o 2 z.2.1.2]),(L, [.b z.2.2])])
theorem Qip(d:N6):J4 d=Y1 d:=by
 unfold J4 Y1;rw[Qio]
open GoE (enc wide)
def Fl(n:Y)(a:K)(b:Y)(_:uB):Rd (W Y) (uB) (Y):=(bif decide (b<n) then(.next ()) else(.brk (a:Y)))
def Fm(a:K)(_:uB):Y:=(a:Y)
def U7(a:W Y)(n:Y):(W Y):=(Out.on (X8 (Fl n) Fm a 0 ()) (λb=>(bif (decide (b<(a.length:Y))&&((nth a b.toNat)==n)) then a else zJ b.toNat a++ [n]++(zF b.toNat a))))
theorem Tl(a:W Y)(n:Y)(w:a.length<1073741824):ACalls uQ 195 [.h a,.i n] (.h (U7 a n)):=by
 refine en func195 λ_ _ _=>sn [0,1,4] [] p0 ?_
 refine tn [0,1,4,5] [] p0<|Qa<|mz [(4,.e 0),(5,.i 0)] [] [] []<|wT 0 0 .sh a (λf o=>?_)
 refine Qta (Fl n) Fm a () (λc _=> [(5,.i (c:Y))]) [5] (λb=> [(5,.i b)]) [5] (λb=>0<=b/\b<=(a.length:Y)) wf0 (λc p O U=>?_) (λc p O U=>?_) (λb d=>?_)
 ·obtain⟨q,V⟩:=Xo (l:=a) (i:=c) O;refine Qa<|sn [0,1,4,5,18] [] (pl 2 a (pe 3 (zB ((c:Y)<(a.length:Y))) (pn 7 V p0)))<|ck (decide (q<n)) (λg=>?_) (λg=>?_)
  ·refine Qd<|Qp<|qn [0,1,4,5] [] (pw 1 c p0) ?_
   exact xw _ (Qr V (Xg g rfl) U)
  have r:=uA g;exact Xa<|xw (c:Y) ⟨Qbm V (Qi g rfl) U,by first|omega|(simp only[zP];omega)⟩
 ·exact Qa<|sn [0,1,4,5,18] [] (pl 2 a (pe 3 (zC ((c:Y)<(a.length:Y))) p0))<|ckF<|Xa<|xw (c:Y) ⟨Xq O rfl U,by first|omega|(simp only[zP];omega)⟩
 have h:=d.2;refine Qa<|Qa<|jn [(32,.b (decide (b<(a.length:Y))&&((nth a b.toNat)==n)))] [] [] [] (decide (b<(a.length:Y))) (λe=>?_) (λe=>?_) ?_
 ·have s:=uG e;have j:=ng a b.toNat;refine rn [0,1,4,5,32] [] (pl 2 a (pt 3 e (pg 7 b j p0))) ?_;exact zA (by rw[e]<;>kernel_rfl)
 ·refine rn [0,1,4,5,32] [] (pl 2 a (pf 3 e p0)) ?_;exact zA (by rw[e]<;>kernel_rfl)
 refine ck (decide (b<(a.length:Y))&&((nth a b.toNat)==n)) (λk=>?_) (λk=>?_)
 ·exact sn [0,1,4,5] [] p0<|Qc<|ph0 [] (Vx d.1 (Xg k rfl))
 refine Qd ?_;have t:zD (zJ b.toNat a)<=1073741824:=Du (MU b.toNat (f));refine su [(6,.one (.slc (.own Q 2624) 1 (([]++(eL (zJ b.toNat a)))++ [[.i n]])))] [1,32] [] [] (pe 3 (SO .sh 1 b.toNat b a rfl) (px (Gt (lo:=0) (hi:=b) (n:=(zD (eL a))) (Qgm (by omega) (by omega) (by omega))) (po 4 (.flat) (px (Db (n:=(([]:W (W PV)).length+((eL (zJ b.toNat a)):W (W PV)).length)) (Eo rfl (Yu (zJ b.toNat a)) (by first|omega|(simp only[List.length_cons,List.length_nil];omega) | (simp;omega) | simp))) (px (Ae (Uz (zJ b.toNat a))) (px (Db (n:=((([]++(eL (zJ b.toNat a))):W (W PV)).length+([[.i n]]:W (W PV)).length)) (by simp[Yu];omega)) p0))))))<|eqn [(6,.o 2624 (zJ b.toNat a++ [n]))] [6] [] [] (by rw[show(([]++(eL (zJ b.toNat a)))++ [[.i n]])=(eL (zJ b.toNat a++ [n])) from Jg rfl (rfl)]<;>kernel_rfl) ?_
 refine wT 6 0 (.own Q 2624) (zJ b.toNat a++ [n]) (λu v=>?_);have m:zD (zF b.toNat a)<=1073741824:=Du (MV b.toNat (f));refine su [(4,.one (.slc (.own Q 2944) 1 ((eL (zJ b.toNat a++ [n]))++(eL (zF b.toNat a)))))] [0,4,5,6] [] [] (pe 3 (Tz .sh 1 b.toNat b a rfl) (px (Gt (lo:=b) (hi:=(((eL a):W (W PV)).length:Y)) (n:=(zD (eL a))) (T0 (by omega) (by omega))) (po 4 (.flat) (pa (zJ b.toNat a++ [n]) (zF b.toNat a) (px (Ae (Uz (zF b.toNat a))) p0)))))<|eqn [(4,.o 2944 (zJ b.toNat a++ [n]++(zF b.toNat a)))] [4] [] [] (by rw[show((eL (zJ b.toNat a++ [n]))++(eL (zF b.toNat a)))=(eL (zJ b.toNat a++ [n]++(zF b.toNat a))) from Jg rfl (rfl)]<;>kernel_rfl) ?_
 exact Qc<|ph0 [2944] (Vx d.1 (Qi k rfl))
def K9(a:Y)(b:W Y):H:=(Ky b a)
theorem Rv(a:Y)(b:W Y):ACalls uQ 174 [.i a,.one (.rptr .sh [.h b])] (.b (K9 a b)):=by
 refine en func174 λ_ _ _=>sn [0,1,3] [] p0 ?_
 exact tn [3] [] (pc 2 (Ij b a) p0)<|Qc<|pb [] (show K9 a b=(Ky b a) from rfl)
def Vn(a:W Y)(b:K)(c:Y)(_:uB):Rd (Y) (uB) (uB):=(bif (K9 c a) then(.ret (b:Y)) else(.next ()))
def Vo(_:K)(_:uB):uB:=()
def Qv(a:W Y)(b:W Y):Y:=(Out.on (X8 (Vn b) Vo a 0 ()) (λ_=> -1))
theorem Vp(s_:W Y)(b:W Y):Qv s_ b=ixF (λa=>K9 a b) s_:=Qrb (λ_ _ _=>rfl) s_
theorem Dl(a:W Y)(b:W Y): -1<=Qv a b/\Qv a b<(zD a:Y):=by rw[Vp];exact EM _ _
theorem Ej(a:W Y)(c:W Y):ACalls uQ 219 [.h a,.one (.fnr 174 [[.h c]])] (.i (Qv a c)):=by
 refine en func219 λ_ _ _=>sn [0,1,4] [] p0 ?_
 refine Qa<|tn [0,1,4,7,8] [] (pl 1 a p0)<|mz [(4,.i 0),(7,.i (a.length:Y)),(8,.i 0)] [] [] []<|wT 0 0 .sh a (λh j=>?_)
 refine S7 (Vn c) Vo a () (λb _=> [(8,.i (b:Y))]) [8] (λ_=> []) [0,1,7,8] wf0 (λb k O U=>?_) (λb k O U=>?_) (λm d=>?_)
 ·obtain⟨e,V⟩:=Xo (l:=a) (i:=b) O;refine sn [0,1,4,7,8,9] [] (pe 0 (zB ((b:Y)<(a.length:Y))) p0)<|Qa<|ckT<|Qd<|Qa<|Qp<|tn [0,1,4,5,7,8] [] p0<|tu [(5,.i (b:Y)),(16,.b (K9 e c))] [] [] [] (pn 3 V (pc 5 (Rv e c) p0))<|ck (K9 e c) (λf=>?_) (λf=>?_)
  ·refine sn [0,1,4,7,8] [] p0<|Qc ?_
   have g:(X8 (Vn c) Vo a 0 ())= .ret (b:Y):=Kj V (Xg f rfl) U;exact pi [] (Pq g)
  refine Qd<|rn [0,1,4,7,8] [] (pw 0 b p0) ?_
  exact xw _ (Qr V (Qi f rfl) U)
 ·exact sn [0,1,4,7,8,9] [] (pe 0 (zC ((b:Y)<(a.length:Y))) p0)<|Qa<|ckF<|Xa<|xw _ (Xq O rfl U)
 exact sn [4] [] p0<|Qc<|pi [] (Vx d rfl)
def Za(b:W Y)(a:(W Y)×Y×Y):Rd (W Y) ((W Y)×Y×Y) ((W Y)×Y):=(bif decide (a.2.2<(a.1.length:Y)) then(bif (!(K9 (nth a.1 a.2.2.toNat) b)) then(.next (List.set a.1 a.2.1.toNat (nth a.1 a.2.2.toNat),(a.2.1+1),(a.2.2+1))) else(.next (a.1,a.2.1,(a.2.2+1)))) else(.brk (a.1,a.2.1)))
def X9(a:W Y)(b:W Y):(W Y):=(bif ((Qv a b)==(-1:Y)) then a else(Out.on (Ps (Za b) (zD a+1) (a,(Qv a b),((Qv a b)+1))) (λc=>zJ c.2.toNat c.1)))
theorem Ux(b:W Y):AP (Za b) (λa=>K9 a b):=by
 intro s i j c e;unfold Za;by_cases h:(j:Y)<(s.length:Y)<;>cases d:K9 (nth s j) b<;>simp[h,d]
theorem Dm(a:W Y)(b:W Y)(c:zD a<=1073741824)(h:Qv a b≠-1):(whl (Za b) (zD a+1) (a,Qv a b,Qv a b+1)).isSome=Q:=Qlq (Ux b) c (Vp a b) h
theorem Uy(b:W Y)(c:W Y)(d:zD b<=1073741824):X9 b c=b.filter (λa=> !(K9 a c)):=by
 unfold X9;exact Qrc (Ux c) d (Vp b c)
theorem De(s_:W Y)(a:W Y)(b:zD s_<=1073741824):zD (X9 s_ a)<=zD s_:=by rw[Uy _ _ b];exact yU _ _
theorem Dn(s_:W Y)(b:W Y):ATake uQ 173 1 (eL s_) [.one (.fnr 174 [[.h b]])] Q L (eL (X9 s_ b)):=by
 refine Qll (tt:=tt) Zx func173 (fn:=Tryz.f173) rfl (by unfold Fr;kernel_rfl) (Nat.le_of_ble_eq_true rfl) (by simp[AV.cells,C.key,C.bkeys]) (t:=4) rfl λw0 F0 hG=>?_
 refine wT 0 0 (.own L 63) s_ (λa3 m=>?_);have a4:=Dl s_ b;refine sn [0,1,4] [] p0<|tn [0,1,4,5] [] (pc 2 (Ej s_ b) p0)<|Qa<|tu [(4,.e 0),(5,.i (Qv s_ b)),(12,.b ((Qv s_ b)==(-1:Y)))] [] [] [] p0<|ck ((Qv s_ b)==(-1:Y)) (λl=>?_) (λl=>?_)
 ·refine sn [0,1,4,5] [] p0<|Qc ?_
  have o:X9 s_ b=s_:=Xg l (rfl);exact⟨.inl rfl,63,by rw[o];kernel_rfl⟩
 have p:=Yi l;refine Qd<|Qa<|sn [0,1,4,5,6] [] (pe 1 (G6 (IntWalk.i64_in ((Qv s_ b)+1) (by omega))) p0)<|mz [(6,.i ((Qv s_ b)+1))] [12] [] []<|blw (λ(a:(W Y)×Y×Y)=> [(0,.q 63 a.1),(5,.i a.2.1),(6,.i a.2.2)]) [0,5,6] (λa=> []) [] (λ(c:(W Y)×Y)=> [(0,.q 63 c.1),(5,.i c.2)]) [0,1,5,6] (λc=> []) [] (λ(k0:K) (a:(W Y)×Y×Y)=>whl (Za b) k0 a=E (Ps (Za b) (zD s_+1) (s_,(Qv s_ b),((Qv s_ b)+1)))/\0<=a.2.1/\a.2.1<a.2.2/\a.2.2<=(zD a.1:Y)/\zD a.1=zD s_) (λ(c:(W Y)×Y)=>(Ps (Za b) (zD s_+1) (s_,(Qv s_ b),((Qv s_ b)+1)))= .brk c/\0<=c.2/\c.2<(zD c.1:Y)/\zD c.1=zD s_) (zD s_+1) (s_,(Qv s_ b),((Qv s_ b)+1)) wf0 ⟨N1 (Dm s_ b m p),(by first|omega|(dsimp only;omega) | rfl),(by first|omega|(dsimp only;omega) | rfl),(by first|omega|(dsimp only;omega) | rfl),(by first|omega|(dsimp only;omega) | rfl)⟩ (λ_ h=>Sb h.1) (λk0 a U=>?_) (λc d=>?_)
 ·have q:=U.2.1;have r:=U.2.2.1;have s:=U.2.2.2.1;have u:=U.2.2.2.2;refine Qa<|sn [0,1,4,5,6,19] [] (pl 2 a.1 p0)<|ck (decide (a.2.2<(a.1.length:Y))) (λj=>?_) (λj=>?_)
  ·have v:=uG j;refine Qd<|Qa<|Qp<|wT 0 0 (.own L 63) a.1 (λa5 a6=>?_)
   have w:=ng a.1 a.2.2.toNat;refine tn [0,1,4,5,6,7] [] (pG 2 a.2.2 w p0)<|tu [(7,.i (nth a.1 a.2.2.toNat)),(29,.b (!(K9 (nth a.1 a.2.2.toNat) b)))] [] [] [] (pc 2 (Rv (nth a.1 a.2.2.toNat) b) p0)<|ck (!(K9 (nth a.1 a.2.2.toNat) b)) (λx=>?_) (λx=>?_)
   ·have g:=ng a.1 a.2.1.toNat;refine su [(0,.one (.slc (.own L 63) 1 (setRow (eL a.1) a.2.1.toNat 0 [.i (nth a.1 a.2.2.toNat)])))] [0,7,29] [] [] (pG 3 a.2.1 g p0)<|eqn [(0,.q 63 (List.set a.1 a.2.1.toNat (nth a.1 a.2.2.toNat)))] [0] [] [] (by rw[Km (y:=(nth a.1 a.2.2.toNat)) g rfl]<;>kernel_rfl) ?_
    refine rn [0,1,4,5,6] [] (pe 1 (G6 (IntWalk.i64_in (a.2.1+1) (by omega))) p0) ?_;refine qn [0,1,4,5,6] [] (pe 1 (G6 (IntWalk.i64_in (a.2.2+1) (by omega))) p0) ?_;exact xw (List.set a.1 a.2.1.toNat (nth a.1 a.2.2.toNat),(a.2.1+1),(a.2.2+1)) ⟨wn U.1 (Xg j (Xg x rfl)),(by first|omega|(dsimp only;omega) | (simp only[zP];omega)),(by first|omega|(dsimp only;omega) | (simp only[zP];omega)),(by first|omega|(dsimp only;omega) | (simp only[zP];omega)),(by first|omega|(dsimp only;omega) | (simp only[zP];omega))⟩
   refine Qd<|rn [0,1,4,5,6] [] (pe 1 (G6 (IntWalk.i64_in (a.2.2+1) (by omega))) p0) ?_
   exact xw (a.1,a.2.1,(a.2.2+1)) ⟨wn U.1 (Xg j (Qi x rfl)),(by first|omega|(dsimp only;omega) | (simp only[zP];omega)),(by first|omega|(dsimp only;omega) | (simp only[zP];omega)),(by first|omega|(dsimp only;omega) | (simp only[zP];omega)),(by first|omega|(dsimp only;omega) | (simp only[zP];omega))⟩
  have v:=uA j;exact Xa<|xw (a.1,a.2.1) ⟨wb U.1 (Qi j rfl),by first|omega|(simp only[zP];omega),by first|omega|(simp only[zP];omega),by first|omega|(simp only[zP];omega)⟩
 have V:=d.2.1;have a1:=d.2.2.1;have a2:=d.2.2.2;refine Qa<|Qhv Zx rfl (by kernel_rfl) rfl rfl rfl rfl rfl (by omega) (by rw[Yu];omega) (λi e f=>?_)
 refine sn [4] [] (po 2 (.cut (eL (zJ c.2.toNat c.1))) (px (Qsp (show .one (.slc (.own L 0) 1 ((i.take c.2.toNat).drop (zQ 0)))= .q 0 (zJ c.2.toNat c.1) from(G (λz=>AV.one (.slc (.own L 0) 1 (z.drop (zQ 0)))) f).trans (SO (.own L 0) 1 c.2.toNat c.2 c.1 rfl))) (px (Gt (lo:=0) (hi:=c.2) (n:=(zD i)) (Qra (by omega) (by rw[e,Yu];omega))) p0)))<|Qc ?_
 have k:X9 s_ b=zJ c.2.toNat c.1:=Qi l (Vx d.1 rfl);exact⟨.inl rfl,0,by rw[k];kernel_rfl⟩
def Om(a:W Y)(b:W Y):(W Y):=X9 a b
theorem On(a:W Y)(b:W Y):ACalls uQ 127 [.h a,.h b] (.o 0 (Om a b)):=by
 refine en func127 λ_ _ _=>sn [0,3,4] [3] p0 ?_
 refine wT 0 0 .sh a (λd c=>?_);have e:=De a b c;exact tn [4] [] (pc 1 (Ep a) (po 3 (.take L L (eL (X9 a b))) (px (UN (Qd4 (Dn a b) (Uz _))) (px (Ae (Uz a)) (px (Ae (Uz (X9 a b))) p0)))))<|Qc<|po0 [] (show Om a b=X9 a b from rfl)
theorem Qiq:∀(a b:W Y),a.Pairwise (· < ·)->b.Pairwise (· < ·)->(∀x,x∈a↔x∈b)->a=b
 | [], [],_,_,_=>rfl
 | [],y::b,_,_,h=>by have:=(h y).2 (by simp);simp at this
 | x::a, [],_,_,h=>by have:=(h x).1 (by simp);simp at this
 | x ::a,y::b,ha,hb,h=>by
   rw[yD] at ha hb
   have g:x=y:=by
    have hx:=(h x).1 (by simp);have hy:=(h y).2 (by simp);simp only[zR] at hx hy;rcases hx with e | hx
    . exact e
    rcases hy with e | hy
    . exact e.symm
    have g:=ha.1 y hy;have i:=hb.1 x hx;omega
   subst g
   congr 1
   refine Qiq a b ha.2 hb.2 λz=>?_
   have d:=h z;simp only[zR] at d;constructor
   . intro c;have f:=ha.1 z c;rcases d.1 (.inr c) with e | e
     . omega
     exact e
   intro c;have f:=hb.1 z c;rcases d.2 (.inr c) with e | e
   . omega
   exact e
def Oo:W Y->Y->W Y
 | [],n=> [n]
 | x::l,n=>if x<n then x::Oo l n else if x=n then x::l else n::x::l
theorem BI(n x:Y):∀l:W Y,x∈Oo l n↔x=n\/x∈l
 | []=>by simp[Oo]
 | y :: l=>by
   unfold Oo;by_cases b:y<n
   . rw [uF b,zR,BI n x l,zR];constructor
     . rintro(h | h | h)
       . exact .inr (.inl h)
       . exact .inl h
       exact .inr (.inr h)
     rintro(h | h | h)
     . exact .inr (.inl h)
     . exact .inl h
     exact .inr (.inr h)
   rw[uI b];by_cases a:y=n
   . rw[uF a,a];simp
   rw[uI a];simp
theorem PC(n:Y):∀l:W Y,l.Pairwise (· < ·)->(Oo l n).Pairwise (· < ·)
 | [],_=>by simp[Oo]
 | y ::l,h=>by
   rw[yD] at h;unfold Oo;by_cases b:y<n
   . rw[uF b,yD];refine⟨λz a=>?_,PC n l h.2⟩;rcases(BI n z l).1 a with e | e
     . omega
     exact h.1 z e
   rw[uI b];by_cases c:y=n
   . rw[uF c,yD];exact h
   rw[uI c,yD,yD];refine⟨λz a=>?_,h⟩;rcases zR.1 a with e | e
   . omega
   have:=h.1 z e;omega
theorem PD(n:Y):∀l:W Y,(Oo l n).length<=l.length+1
 | []=>by simp[Oo]
 | y::l=>by
   have h:=PD n l;unfold Oo;split
   . simp only[List.length_cons];omega
   split
   . simp
   simp
def Ah(l:W Y)(n:Y):K:=(l.takeWhile (λx=>decide (x<n))).length
theorem Qcs(n:Y):∀l:W Y,Oo l n=if l[Ah l n]? =E n then l else l.take (Ah l n)++ [n]++l.drop (Ah l n)
 | []=>by simp[Oo,Ah]
 | y::l=>by
   have c:=Qcs n l;unfold Oo Ah;by_cases a:y<n
   . rw[uF a,c];simp only[List.takeWhile_cons,a,decide_true,if_true,List.length_cons,List.getElem?_cons_succ,List.take_succ_cons,yO];unfold Ah;split<;>simp
   rw[uI a];simp only[List.takeWhile_cons,a,decide_false,List.length_nil,List.getElem?_cons_zero,Option.some.injEq,List.take_zero,yW];by_cases b:y=n
   . rw[uF b];simp[b]
   rw[uI b];simp[b]
def KU(l:W Y)(xs:W Y):W Y:=xs.foldl Oo l
theorem JW(x:Y):∀(xs l:W Y),x∈KU l xs↔x∈xs\/x∈l
 | [],l=>by simp[KU]
 | n ::xs,l=>by
   have h:=JW x xs (Oo l n);unfold KU at h⊢;rw[List.foldl_cons,h,BI,zR];constructor
   . rintro(h | h | h)
     . exact .inl (.inr h)
     . exact .inl (.inl h)
     exact .inr h
   rintro((h | h) | h)
   . exact .inr (.inl h)
   . exact .inl h
   exact .inr (.inr h)
theorem JX:∀(xs l:W Y),l.Pairwise (· < ·)->(KU l xs).Pairwise (· < ·)
 | [],_,h=>h
 | n::xs,l,h=>JX xs (Oo l n) (PC n l h)
def less(b a:W Y):W Y:=b.filter (λx=> !a.contains x)
def Qir(c b a:W Y):W Y:=KU (KU [] (less c a)) b
theorem Sn(b a:W Y):(less b a).length<=b.length:=yU _ _
theorem BJ(d:Array Y)(k:∀i j,i<=j->j<d.size->d[i]! <=d[j]!):∀m,m<=d.size->(Lib.compactUpTo d m).Pairwise (· < ·)/\∀x,x∈Lib.compactUpTo d m↔∃j,j<m/\d[j]! =x
 | 0,_=>by simp[Lib.compactUpTo]
 | m + 1,hm=>by
   obtain⟨o,l⟩:=BJ d k m (by omega);rw[Lib.compactUpTo_succ];by_cases c:Lib.keeps d m=Q
   . rw [uF c];refine⟨?_,λx=>?_⟩
     . rw[List.pairwise_append];refine⟨o,by simp,λa ha b hb=>?_⟩;obtain⟨j,g,rfl⟩:=(l a).1 ha;obtain rfl:b=d[m]! :=by simpa using hb
       have q:=k j (m-1) (by omega) (by omega);have p:=k (m-1) m (by omega) (by omega)
       have r:d[m]! ≠d[m-1]! :=by
        unfold Lib.keeps at c;simp only[yS,uM,bne_iff_ne,uH] at c;rcases c with h | h
        . omega
        exact h
       omega
     rw[zX,l x];constructor
     . rintro(⟨j,g,e⟩ | h)
       . exact⟨j,by omega,e⟩
       exact⟨m,by omega,by simpa using(by simpa using h:x=d[m]!).symm⟩
     rintro⟨j,g,e⟩
     by_cases f:j=m
     . subst f;exact .inr (by simp[e])
     exact .inl ⟨j,by omega,e⟩
   rw[uI c,zS];refine⟨o,λx=>?_⟩;rw[l x]
   have n:m≠0/\d[m]! =d[m-1]! :=by
    unfold Lib.keeps at c;simp only[yS,uM,bne_iff_ne,uH,not_or,Decidable.not_not] at c;exact c
   constructor
   . rintro⟨j,g,e⟩;exact⟨j,by omega,e⟩
   rintro⟨j,g,e⟩
   by_cases f:j=m
   . subst f;exact⟨j-1,by omega,n.2▸e⟩
   exact⟨j,by omega,e⟩
theorem PE(l:W Y)(a:W Y)(q:a.Pairwise (· < ·))(r:∀x,x∈a↔x∈l):Lib.compact (l.mergeSort λx y=>decide (x<=y))=a:=by
 have o:=List.mergeSort_perm l (λx y=>decide (x<=y));have p:=List.pairwise_mergeSort (le:=λ(x y:Y)=>decide (x<=y)) (λa b c k m=>by simp at k m⊢;omega) (λa b=>by simp;omega) l;generalize(l.mergeSort λx y=>decide (x<=y))=s at o p;have n:s.toArray.size=s.length:=by simp
 have d:∀j,j<s.length->s.toArray[j]! =s[j]! :=λj f=>by simp
 have g:∀i j,i<=j->j<s.toArray.size->s.toArray[i]! <=s.toArray[j]! :=λi j t f=>by
  rw[n] at f;rw[d i (by omega),d j f,getElem!_pos s i (by omega),getElem!_pos s j f];by_cases e:i=j
  . subst e;exact yY _
  have:=List.pairwise_iff_getElem.1 p i j (by omega) f (by omega);simpa using this
 obtain⟨k,m⟩:=BJ s.toArray g s.length (by omega);refine Qiq _ _ k q λx=>?_
 show x∈Lib.compactUpTo s.toArray s.length↔_;rw[m x,r x,←o.mem_iff];constructor
 . rintro⟨j,f,e⟩
   rw[d j f,getElem!_pos s j f] at e;exact e▸List.getElem_mem f
 intro h;obtain⟨j,f,e⟩:=List.getElem_of_mem h;exact⟨j,f,by rw[d j f,getElem!_pos s j f];exact e⟩
theorem Qed(b a removed:W Y):Lib.compact ((less b removed++a).mergeSort λx y=>decide (x<=y))=Qir b a removed:=
 PE _ _ (JX _ _ (JX _ _ (by simp))) λx=>by
  unfold Qir;rw[JW,JW,zX];simp only[List.not_mem_nil,uL];exact Or.comm
theorem PF(n:Y):∀(l:W Y) (k:K),X8 (Fl n) Fm l k ()= .brk (((k+Ah l n:K)):Y)
 | [],k=>by simp[X8,Fm,Ah]
 | a ::l,k=>by
   simp only[X8,Fl];by_cases h:a<n
   . have e:Ah (a::l) n=Ah l n+1:=by simp[Ah,h]
     rw[uC h,e];simp only[I];rw[PF n l (k+1),show k+1+Ah l n=k+(Ah l n+1) by omega]
   have e:Ah (a::l) n=0:=by simp[Ah,h]
   rw[F h,e];rfl
theorem BK(l:W Y)(n:Y):U7 l n=Oo l n:=by
 unfold U7;rw[PF,Qcs];simp only[Out.on,yI,zV];by_cases h:l[Ah l n]? =E n
 . obtain⟨a,_⟩:=yQ.1 h;rw[uF h,uC (by omega:((Ah l n:K):Y)<(l.length:Y)),UX h];simp
 rw[uI h]
 have b:(decide (((Ah l n:K):Y)<(l.length:Y))&&(nth l (Ah l n)==n))=L:=by
  by_cases a:Ah l n<l.length
  . have:nth l (Ah l n)≠n:=λe=>h (by rw[Dc a,e])
    rw[beq_eq_false_iff_ne.2 this,Bool.and_false]
  rw[F (by omega),Bool.false_and]
 rw[b,J]
theorem IQ(l:W Y)(n:Y):zD (U7 l n)<=zD l+1:=by rw[BK];exact PD n l
theorem Rw{a b:W Y}(c:zD a<=1073741824):Om a b=less a b:=by
 unfold Om;rw[Uy a b c];unfold less;refine List.filter_congr λx _=>?_
 have h:K9 x b=b.contains x:=by
  rw[yN];have:=JH b x;unfold V2 at this;show Ky b x=Q↔_;rw[this];simp
 rw[h]
open GoE (enc wide)
def U8(c:W Y)(b:W Y)(a:W Y):(W Y):=ND (ZX (less c a++b))
theorem CT(c:W Y)(b:W Y)(a:W Y)(i:zD c+zD b<=536870912):ACalls uQ 176 [.h c,.h b,.h a] (.o 0 (U8 c b a)):=by
 refine en func176 λ_ _ _=>?_
 have e:=Sn c a;refine sn [0,1,2,6] [] p0<|wT 0 0 .sh c (λf d=>?_)
 refine wT 1 0 .sh b (λg h=>?_);refine tu [(6,.e 0),(7,.one (.slc (.own Q 768) 1 ((eL (less c a))++(eL b))))] [0,1,2] [] [] (pc 2 ((Rw d)▸On c a) (po 4 (.flat) (pa (less c a) b (px (Ae (Uz b)) p0))))<|eqn [(7,.o 768 (less c a++b))] [7] [] [] (by rw[show((eL (less c a))++(eL b))=(eL (less c a++b)) from Jg rfl (rfl)]<;>kernel_rfl) ?_
 refine UP [768] rfl ?_;refine su [(7,.one (.slc (.own L 768) 1 (Qmj (eL (less c a++b)) 0 4294967296 (List.flatten (eL (ZX (less c a++b)))))))] [7] [] [] (po 1 (.take L Q (eL (ZX (less c a++b)))) (px (UN (Qov (less c a++b))) p0))<|eqn [(7,.q 768 (ZX (less c a++b)))] [7] [] [] (by rw[Qbs (λ_=>rfl) (NE _)]<;>kernel_rfl) ?_
 refine sn [6] [] (po 1 (.take L L (eL (ND (ZX (less c a++b))))) (px (UN (Qow (ZX (less c a++b)))) p0))<|TL 6 (k:=1024) (n:=1) (by kernel_rfl) (Uz (ND (ZX (less c a++b)))) ?_
 exact Qc<|po0 [] (show U8 c b a=ND (ZX (less c a++b)) from rfl)
def Aa(d:Qds)(_:K)(a:Y)(b:W Y):Rd (W Y) (W Y) (W Y):=(bif (!(Kg d.2.2 a)) then(.next (U7 b a)) else(.next b))
def Cs(_:K)(a:W Y):(W Y):=a
def Ab(_:K)(a:Y)(b:W Y):Rd (W Y) (W Y) (W Y):=(.next (U7 b a))
def Ct(_:K)(a:W Y):(W Y):=a
def Wg(a:W Y)(d:Qds):(W Y):=(Out.on (X8 (Aa d) Cs a 0 []) (λb=>(Out.on (X8 Ab Ct d.2.1 0 b) (λc=>c))))
theorem Sy(a:W Y)(d:Qds)(hp:zD a+zD d.2.1<=536870912):ACalls uQ 155 [.h a,.a [.s d.1,.h d.2.1,.h d.2.2]] (.o 0 (Wg a d)):=by
 refine en func155 λ_ _ _=>sn [0,3,4] [3] p0 ?_
 refine tn [0,3,4,5] [3] p0<|Qa<|tu [(3,.p 3 0),(4,.e 0),(5,.one (.slc (.own Q 512) 1 [])),(6,.i 0)] [1] [(3, [.s d.1,.h d.2.1,.h d.2.2])] [] p0<|wT 0 0 .sh a (λw x=>?_)
 refine Qbn (Aa d) Cs a [] (λc b=> [(5,.h b),(6,.i (c:Y))]) [5,6] (λo=> [(5,.h o)]) [0,5,6] (λc b=>zD b<=c) (λo=>zD o<=zD a) (wgf [] [512] [] []) (by simp) (λc b O U=>?_) (λc b O U=>?_) (λo p=>?_)
 ·have g:=U.2;obtain⟨h,V⟩:=Xo (l:=a) (i:=c) O;refine Qa<|sn [0,3,4,5,6,12] [3] (pl 2 a (pe 3 (zB ((c:Y)<(a.length:Y))) p0))<|ckT<|Qd<|Qa<|Qp<|tN [0,3,4,5,6,22] [3] (pn 4 V (pc 6 (Be d.2.2 h) p0))<|ck (!(Kg d.2.2 h)) (λs=>?_) (λs=>?_)
  ·refine qu [(5,.h (U7 b h))] [5] [] [] (pn 3 V (pc 5 (Tl b h (by omega)) p0)) ?_;refine rn [0,3,4,5,6] [3] (pw 1 c p0) ?_;exact xw (U7 b h) ⟨Qr V (Xg s rfl) U.1,(by first|omega|(have v:=IQ b h;omega))⟩
  refine Qd<|qu [(6,.i ((c+1:K):Y))] [6] [] [] (pw 1 c p0) ?_
  exact xw b ⟨Qr V (Qi s rfl) U.1,(by first|omega|(have v:=IQ b h;omega))⟩
 ·have g:=U.2;exact Qa<|sn [0,3,4,5,6,12] [3] (pl 2 a (pe 3 (zC ((c:Y)<(a.length:Y))) p0))<|ckF<|Xa<|xw b ⟨Xq O rfl U.1,by first|omega|(simp only[zP];omega)⟩
 have t:=p.2;refine Qa<|sn [3,4,5,7] [3] p0<|mz [(7,.i 0)] [] [] []<|wB 3 1 .sh d.2.1 (λy z=>?_)
 refine VB Ab Ct d.2.1 o (λk1 f=> [(5,.h f),(7,.i (k1:Y))]) [5,7] (λ_ _=> []) [] (λm=> [(5,.h m)]) [3,5,7] (λ_=> []) [3] (λk1 f=>zD f<=zD a+k1) wf0 (by first|omega|(simp;omega)) (λk1 f j e=>?_) (λk1 f j e=>?_) (λm u=>?_)
 ·have k:=e.2;obtain⟨r,q⟩:=Xo (l:=d.2.1) (i:=k1) j;refine Qa<|sn [3,4,5,7,33] [3] (pl 3 d.2.1 (pe 4 (zB ((k1:Y)<(d.2.1.length:Y))) p0))<|ckT<|Qd<|Qa<|Qp<|qn [3,4,5,7] [3] (pn 4 q (pc 6 (Tl f r (by omega)) p0)) ?_
  refine qu [(5,.h (U7 f r)),(7,.i ((k1+1:K):Y))] [5,7] [] [] (pw 1 k1 p0) ?_;exact xw (U7 f r) ⟨Qr q rfl e.1,(by first|omega|(have v:=IQ f r;omega))⟩
 ·have k:=e.2;exact Qa<|sn [3,4,5,7,33] [3] (pl 3 d.2.1 (pe 4 (zC ((k1:Y)<(d.2.1.length:Y))) p0))<|ckF<|Xa<|xw _ (Xq j rfl e.1)
 refine wT 5 0 .sh m (λa2 a3=>?_);exact sn [4] [] (po 2 (.flat) (px (Db (n:=(([]:W (W PV)).length+((eL m):W (W PV)).length)) (Eo rfl (Yu m) (by first|omega|(simp only[List.length_cons,List.length_nil];omega) | (simp;omega) | simp))) (px (Ae (Uz m)) p0)))<|Qc<|po0 [] (Vx p.1 (Vx u rfl))
theorem Qis(l:W Y)(x:Y):Kg l x=l.contains x:=by
 rw[←Qm3,yN,JH];simp
theorem IR(d:Qds):∀(l:W Y) (k:K) (s:W Y),X8 (Aa d) Cs l k s= .brk (KU s (less l d.2.2))
 | [],k,s=>rfl
 | a ::l,k,s=>by
   simp only[X8,Aa,Qis];cases h:d.2.2.contains a with
   | true=>
     have e:less (a::l) d.2.2=less l d.2.2:=by
      show List.filter _ (a::l)=_;rw[List.filter_cons,h];rfl
     rw[e];exact IR d l (k+1) s
   | false=>
     have e:less (a::l) d.2.2=a::less l d.2.2:=by
      show List.filter _ (a::l)=_;rw[List.filter_cons,h];rfl
     rw[e,BK];exact IR d l (k+1) (Oo s a)
theorem Qct:∀(l:W Y) (k:K) (s:W Y),X8 Ab Ct l k s= .brk (KU s l)
 | [],k,s=>rfl
 | a::l,k,s=>by
   simp only[X8,Ab,BK];exact Qct l (k+1) (Oo s a)
theorem Qcu(a:W Y)(d:Qds):Wg a d=U8 a d.2.1 d.2.2:=by
 unfold Wg U8;rw[IR];simp only[Out.on];rw[Qct];exact(Qed a d.2.1 d.2.2).symm
theorem Mf(b a r:W Y):zD (U8 b a r)<=zD b+zD a:=by
 unfold U8;have c:=Qg4 (ZX (less b r++a));rw[NE,zG] at c;have d:=Sn b r;omega
theorem PG(a:W Y)(d:Qds):zD (Wg a d)<=zD a+zD d.2.1:=by rw[Qcu];exact Mf a d.2.1 d.2.2
theorem So{α:Type}[GoD α](l m:W α):GoD.size (l++m)=GoD.size l+GoD.size m:=by
 simp only[An,zG,List.map_append,List.sum_append];omega
theorem WO{α:Type}[GoD α](a:α):GoD.size [a]=1+GoD.size a:=by simp[An]
theorem Qee{α:Type}[GoD α]{l:W α}{k:K}{x:α}(h:l[k]? =E x):GoD.size (zJ (k+1) l)=GoD.size (zJ k l)+(1+GoD.size x):=by
 rw[List.take_add_one,h,So];show _+GoD.size [x]=_;rw[WO]
theorem PH{α:Type}[GoD α](l:W α)(k:K):GoD.size (zJ k l)<=GoD.size l:=by
 conv=>rhs;rw[←List.take_append_drop k l,So]
 exact Nat.le_add_right _ _
theorem EV(e:Kn):zD e.2.1<=GoD.size e:=by
 have h:GoD.size e=0+(GoD.size e.2.1+GoD.size e.2.2):=rfl;rw[Rp] at h;omega
theorem L3{a:W Y}{l:W Kn}{k:K}{x:Kn}{s:W Y}{n:K}(b:l[k]? =E x)(c:zD s<=zD a+GoD.size (zJ k l))(d:n<=zD s+zD x.2.1):n<=zD a+GoD.size (zJ (k+1) l):=by
 rw[Qee b];have:=EV x;omega
theorem BL{a:W Y}{l:W Kn}{k:K}{x:Kn}{s:W Y}(b:l[k]? =E x)(c:zD s<=zD a+GoD.size (zJ k l))(d:zD a+GoD.size l<=536870912):zD s+zD x.2.1<=536870912:=by
 have e:=L3 (n:=zD s+zD x.2.1) b c (yE _);have f:=PH l (k+1);omega
theorem I6(w:Zz):GoD.size w=w.2.1.size+(zD w.2.2.1+GoD.size w.2.2.2):=by
 have h:GoD.size w=0+(w.2.1.size+(GoD.size w.2.2.1+GoD.size w.2.2.2)):=rfl;rw[Rp] at h;omega
open GoE (enc wide)
def Hl(_:K)(a:Kn)(b:W Y):Rd (W Y) (W Y) (W Y):=(.next (U8 b a.2.1 a.2.2))
def A8(_:K)(a:W Y):(W Y):=a
def Hu(b:W Y)(a:W Kn):(W Y):=(Out.on (X8 Hl A8 a 0 b) (λc=>c))
theorem YT(c:W Y)(a:W Kn)(j:zD c+GoD.size a<=536870912):ACalls uQ 128 [.h c,.h a] (.o 0 (Hu c a)):=by
 refine en func128 λ_ _ _=>sn [0,1,4] [] p0 ?_
 refine tn [1,4,5] [] (pc 1 (Ep c) p0)<|Qa<|tu [(4,.e 0),(5,.o 576 c),(10,.h a),(11,.i (a.length:Y)),(12,.i 0)] [0,1] [] [] (pl 1 a p0)<|wT 10 0 .sh a (λk m=>?_)
 refine CA Hl A8 a c (λd e=> [(5,.o 147201 e),(12,.i (d:Y))]) [5,12] (λh=> [(5,.o 147351 h)]) [5,10,11,12] (λd e=>zD e<=zD c+GoD.size (zJ d a)) (wsf [(576,147201)]) (by simp) (λd e O U=>?_) (λd e O U=>?_) (λh g=>?_)
 ·have b:=U.2;obtain⟨f,V⟩:=Xo (l:=a) (i:=d) O;refine su [(13,.b Q)] [] [] [] (pe 0 (zB ((d:Y)<(a.length:Y))) p0)<|Qa<|ckT<|Qd<|Qa<|Qp<|sn [4,5,7,10,11,12] [7] (pn 0 V p0)<|qn [4,5,10,11,12] [] (pc 5 (CT e f.2.1 f.2.2 (BL V b j)) p0) ?_
  refine qu [(5,.o 1344 (U8 e f.2.1 f.2.2)),(12,.i ((d+1:K):Y))] [5,12,13] [] [] (pw 0 d p0) ?_;exact zK (U8 e f.2.1 f.2.2) (zO (wsf [(1344,147201)]) ⟨Qr V rfl U.1,(by first | exact L3 V b (Mf _ _ _) | exact L3 V b (PG _ _))⟩)
 ·have b:=U.2;exact su [(13,.b L)] [] [] [] (pe 0 (zC ((d:Y)<(a.length:Y))) p0)<|Qa<|ckF<|Xa<|zK _ (zO (wsf [(147201,147351)]) (Xq O rfl U.1))
 exact sn [4] [] p0<|Qc<|po0 [] (Vx g rfl)
def Xm(w:Zz):(W Y):=(Hu w.2.2.1 w.2.2.2)
theorem YU(w:Zz)(a:GoD.size w<=536870912):ACalls uQ 75 [.a [.i w.1,.s w.2.1,.h w.2.2.1,.h w.2.2.2]] (.o 0 (Xm w)):=by
 refine en func75 λ_ _ _=>sn [1,2] [1] p0 ?_
 exact tn [2] [] (pc 4 (YT w.2.2.1 w.2.2.2 (by have b:=I6 w;omega)) p0)<|Qc<|po0 [] (show Xm w=(Hu w.2.2.1 w.2.2.2) from rfl)
def A9(_:K)(a:Kn)(b:W Y):Rd (W Y) (W Y) (W Y):=(.next (Wg b (⟨#[]⟩,a.2.1,a.2.2)))
def Ek(_:K)(a:W Y):(W Y):=a
def Bf(b:W Y)(a:W Kn):(W Y):=(Out.on (X8 A9 Ek a 0 b) (λc=>c))
theorem YV(b:W Y)(a:W Kn)(j:zD b+GoD.size a<=536870912):ACalls uQ 109 [.h b,.h a] (.o 0 (Bf b a)):=by
 refine en func109 λ_ _ _=>sn [0,1,4] [] p0 ?_
 refine wT 0 0 .sh b (λk m=>?_);refine tn [1,4,5] [] (po 2 (.flat) (px (Db (n:=(([]:W (W PV)).length+((eL b):W (W PV)).length)) (Eo rfl (Yu b) (by first|omega|(simp only[List.length_cons,List.length_nil];omega) | (simp;omega) | simp))) (px (Ae (Uz b)) p0)))<|Qa<|tu [(4,.e 0),(5,.o 576 b),(6,.i 0)] [0] [] [] p0<|wT 1 0 .sh a (λo p=>?_)
 refine CA A9 Ek a b (λd e=> [(5,.o 147202 e),(6,.i (d:Y))]) [5,6] (λh=> [(5,.o 147352 h)]) [1,5,6] (λd e=>zD e<=zD b+GoD.size (zJ d a)) (wsf [(576,147202)]) (by simp) (λd e O U=>?_) (λd e O U=>?_) (λh g=>?_)
 ·have c:=U.2;obtain⟨f,V⟩:=Xo (l:=a) (i:=d) O;refine Qa<|sn [1,4,5,6,13] [] (pl 2 a (pe 3 (zB ((d:Y)<(a.length:Y))) p0))<|ckT<|Qd<|Qa<|Qp<|qN [1,4,5,6] [] (pn 3 V (pn 8 V (pc 12 (Sy e (⟨#[]⟩,f.2.1,f.2.2) (BL V c j)) p0))) ?_
  refine qu [(5,.o 1792 (Wg e (⟨#[]⟩,f.2.1,f.2.2))),(6,.i ((d+1:K):Y))] [5,6] [] [] (pw 1 d p0) ?_;exact zK (Wg e (⟨#[]⟩,f.2.1,f.2.2)) (zO (wsf [(1792,147202)]) ⟨Qr V rfl U.1,(by first | exact L3 V c (Mf _ _ _) | exact L3 V c (PG _ _))⟩)
 ·have c:=U.2;exact Qa<|sn [1,4,5,6,13] [] (pl 2 a (pe 3 (zC ((d:Y)<(a.length:Y))) p0))<|ckF<|Xa<|zK _ (zO (wsf [(147202,147352)]) (Xq O rfl U.1))
 exact sn [4] [] p0<|Qc<|po0 [] (Vx g rfl)
def X3(w:Zz):(W Y):=(Bf w.2.2.1 w.2.2.2)
theorem YW(w:Zz)(a:GoD.size w<=536870912):ACalls uQ 59 [.a [.i w.1,.s w.2.1,.h w.2.2.1,.h w.2.2.2]] (.o 0 (X3 w)):=by
 refine en func59 λ_ _ _=>sn [1,2] [1] p0 ?_
 exact tn [2] [] (pc 4 (YV w.2.2.1 w.2.2.2 (by have b:=I6 w;omega)) p0)<|Qc<|po0 [] (show X3 w=(Bf w.2.2.1 w.2.2.2) from rfl)
def Jn(a:Kn):Kn:=a
theorem BM(a:Kn):ACalls uQ 119 [.a [.i a.1,.h a.2.1,.h a.2.2]] (.a [.i ((Jn a).1),.o 0 ((Jn a).2.1),.o 1 ((Jn a).2.2)]):=by
 refine en func119 λ_ _ _=>sn [1,2] [1,2] p0 ?_
 exact tN [2] [2] (pc 4 (Ep a.2.1) (pc 7 (Ep a.2.2) p0))<|Qc<|pz [] (show Jn a=a from rfl) (λz=> .a [.i z.1,.o 0 z.2.1,.o 1 z.2.2])
def Ig(_:K)(a:Kn)(b:W Kn):Rd (Zz) (W Kn) (W Kn):=(.next (b++ [(Jn a)]))
def Pj(_:K)(a:W Kn):(W Kn):=a
def Xp(w:Zz):Zz:=(Out.on (X8 Ig Pj w.2.2.2 0 []) (λa=>(w.1,w.2.1,w.2.2.1,a)))
theorem Rx(w:Zz):ACalls uQ 67 [.a [.i w.1,.s w.2.1,.h w.2.2.1,.h w.2.2.2]] (.a [.i ((Xp w).1),.s ((Xp w).2.1),.o 0 ((Xp w).2.2.1),.o 1 ((Xp w).2.2.2)]):=by
 refine en func67 λ_ _ _=>sn [1,2] [1,2] p0 ?_
 refine tn [1,2,3] [1,2] p0<|Qa<|tu [(1,.p 1 0),(2,.p 2 0),(3,.one (.slc (.own Q 384) 3 [])),(8,.h w.2.2.2),(9,.i (w.2.2.2.length:Y)),(10,.i 0)] [0] [(1, [.i w.1,.s w.2.1,.h w.2.2.1,.h w.2.2.2]),(2, [.i 0,.s ⟨#[]⟩,.e 1,.e 3])] [] (pl 2 w.2.2.2 p0)<|wT 8 0 .sh w.2.2.2 (λg h=>?_)
 refine CA Ig Pj w.2.2.2 [] (λc a=> [(3,.o 147202 a),(10,.i (c:Y))]) [3,10] (λe=> [(3,.o 147352 e)]) [3,8,9,10] (λc a=>zD a<=c) (wsf [(384,147202)]) (by simp) (λc a O U=>?_) (λc a O U=>?_) (λe f=>?_)
 ·have d:=U.2;obtain⟨b,V⟩:=Xo (l:=w.2.2.2) (i:=c) O;refine su [(11,.b Q)] [] [] [] (pe 0 (zB ((c:Y)<(w.2.2.2.length:Y))) p0)<|Qa<|ckT<|Qd<|Qa<|Qp<|sn [1,2,3,5,8,9,10] [1,2,5] (pn 0 V p0)<|wT 3 0 (.own Q 147202) a (λj k=>?_)
  refine qu [(3,.one (.slc (.own Q 1152) 3 ((eL a)++ [[.i ((Jn b).1),.h ((Jn b).2.1),.h ((Jn b).2.2)]])))] [3,11] [] [] (pc 2 (BM b) (pa a [(Jn b)] p0)) ?_;refine eqn [(3,.o 1152 (a++ [(Jn b)]))] [3] [] [] (by rw[show((eL a)++ [[.i ((Jn b).1),.h ((Jn b).2.1),.h ((Jn b).2.2)]])=(eL (a++ [(Jn b)])) from Jg rfl (rfl)]<;>kernel_rfl) ?_;refine rn [1,2,3,8,9,10] [1,2] (pw 0 c p0) ?_;exact zK (a++ [(Jn b)]) (zO (wsf [(1152,147202)]) ⟨Qr V rfl U.1,by first|omega|(simp;omega) | simp⟩)
 ·have d:=U.2;exact su [(11,.b L)] [] [] [] (pe 0 (zC ((c:Y)<(w.2.2.2.length:Y))) p0)<|Qa<|ckF<|Xa<|zK _ (zO (wsf [(147202,147352)]) (Xq O rfl U.1))
 exact sn [1,2,3] [1,2] (pc 2 (Ep w.2.2.1) p0)<|tn [1,2] [1,2] p0<|tu [] [1,3] [(2, [.i w.1,.s w.2.1,.o 1408 w.2.2.1,.o 147352 e])] [1,2] p0<|Qc<|pz [] (show Xp w=_ from Vx f rfl) (λz=> .a [.i z.1,.s z.2.1,.o 0 z.2.2.1,.o 1 z.2.2.2])
def Ih(_:K)(a:Kn)(b:W Kn):Rd (W Kn) (W Kn) (W Kn):=(.next (b++ [a]))
def Pk(_:K)(a:W Kn):(W Kn):=a
def I1(a:W Kn):(W Kn):=(Out.on (X8 Ih Pk a 0 []) (λb=>b))
theorem BN(a:W Kn):ACalls uQ 102 [.h a] (.o 0 (I1 a)):=by
 refine en func102 λ_ _ _=>sn [0,2] [] p0 ?_
 refine tn [0,2,3] [] p0<|Qa<|tu [(2,.e 0),(3,.one (.slc (.own Q 320) 3 [])),(4,.i 0)] [] [] [] p0<|wT 0 0 .sh a (λf j=>?_)
 refine CA Ih Pk a [] (λd c=> [(3,.o 147202 c),(4,.i (d:Y))]) [3,4] (λh=> [(3,.o 147352 h)]) [0,3,4] (λd c=>zD c<=d) (wsf [(320,147202)]) (by simp) (λd c O U=>?_) (λd c O U=>?_) (λh g=>?_)
 ·have e:=U.2;obtain⟨b,V⟩:=Xo (l:=a) (i:=d) O;refine Qa<|sn [0,2,3,4,9] [] (pl 2 a (pe 3 (zB ((d:Y)<(a.length:Y))) p0))<|ckT<|Qd<|Qa<|Qp ?_
  have k:zD b.2.1<=1073741824:=Du (Qks (Is (Sa V (f))));have m:zD b.2.2<=1073741824:=Du (Is (Is (Sa V (f))));refine wT 3 0 (.own Q 147202) c (λo p=>?_);refine qU [(3,.one (.slc (.own Q 2176) 3 ((eL c)++ [[.i b.1,.slc 1 ([]++(eL b.2.1)),.slc 1 ([]++(eL b.2.2))]])))] [3] [] [] (pn 3 V (pn 9 V (po 12 (.flat) (px (Db (n:=(([]:W (W PV)).length+((eL b.2.1):W (W PV)).length)) (Eo rfl (Yu b.2.1) (by first|omega|(simp only[List.length_cons,List.length_nil];omega) | (simp;omega) | simp))) (px (Ae (Uz b.2.1)) (pn 16 V (po 19 (.flat) (px (Db (n:=(([]:W (W PV)).length+((eL b.2.2):W (W PV)).length)) (Eo rfl (Yu b.2.2) (by first|omega|(simp only[List.length_cons,List.length_nil];omega) | (simp;omega) | simp))) (px (Ae (Uz b.2.2)) (px (Db (n:=(((eL c):W (W PV)).length+([[.i b.1,.slc 1 ([]++(eL b.2.1)),.slc 1 ([]++(eL b.2.2))]]:W (W PV)).length)) (Eo (Yu c) rfl (by first|omega|(simp only[List.length_cons,List.length_nil];omega) | (simp;omega) | simp))) p0)))))))))) ?_;refine eqn [(3,.o 2176 (c++ [b]))] [3] [] [] (by rw[show((eL c)++ [[.i b.1,.slc 1 ([]++(eL b.2.1)),.slc 1 ([]++(eL b.2.2))]])=(eL (c++ [b])) from Jg rfl (rfl)]<;>kernel_rfl) ?_;refine rn [0,2,3,4] [] (pw 1 d p0) ?_;exact zK (c++ [b]) (zO (wsf [(2176,147202)]) ⟨Qr V rfl U.1,by first|omega|(simp;omega) | simp⟩)
 ·have e:=U.2;exact Qa<|sn [0,2,3,4,9] [] (pl 2 a (pe 3 (zC ((d:Y)<(a.length:Y))) p0))<|ckF<|Xa<|zK _ (zO (wsf [(147202,147352)]) (Xq O rfl U.1))
 exact sn [2] [] p0<|Qc<|po0 [] (Vx g rfl)
def Qh(w:Zz):Zz:=(w.1,w.2.1,w.2.2.1,(I1 w.2.2.2))
theorem YX(w:Zz):ACalls uQ 51 [.a [.i w.1,.s w.2.1,.h w.2.2.1,.h w.2.2.2]] (.a [.i ((Qh w).1),.s ((Qh w).2.1),.o 0 ((Qh w).2.2.1),.o 1 ((Qh w).2.2.2)]):=by
 refine en func51 λ_ _ _=>sn [1,2] [1,2] p0 ?_
 refine wB 1 2 .sh w.2.2.1 (λa b=>?_);exact tN [2] [2] (po 7 (.flat) (px (Db (n:=(([]:W (W PV)).length+((eL w.2.2.1):W (W PV)).length)) (Eo rfl (Yu w.2.2.1) (by first|omega|(simp only[List.length_cons,List.length_nil];omega) | (simp;omega) | simp))) (px (Ae (Uz w.2.2.1)) (pc 10 (BN w.2.2.2) p0))))<|Qc<|pz [] (show Qh w=(w.1,w.2.1,w.2.2.1,(I1 w.2.2.2)) from rfl) (λz=> .a [.i z.1,.s z.2.1,.o 0 z.2.2.1,.o 1 z.2.2.2])
def Z3(a:W Y)(b:W Y):(W Y)×(W Y):=((less b a),(less a b))
theorem IS(a:W Y)(b:W Y):ACalls uQ 74 [.h a,.h b] (.tup [(L, [.o 0 (((Z3 a b)).1)]),(L, [.o 1 (((Z3 a b)).2)])]):=by
 refine en func74 λ_ _ _=>sn [0,1,4,5] [] p0 ?_
 refine wT 1 0 .sh b (λe c=>?_);refine wT 0 0 .sh a (λf d=>?_);exact tn [4,5] [] (pc 2 ((Rw c)▸On b a) (pc 5 ((Rw d)▸On a b) p0))<|Qc<|pz [] (show Z3 a b=((less b a),(less a b)) from rfl) (λz=> .tup [(L, [.o 0 z.1]),(L, [.o 1 z.2])])
def Mx(c:W Y)(_:K)(a:Y)(b:W Y):Rd ((W Y)×(W Y)) (W Y) (W Y):=(bif (!(Kg c a)) then(.next (b++ [a])) else(.next b))
def My(_:K)(a:W Y):(W Y):=a
def Mz(b:W Y)(_:K)(a:Y)(c:W Y):Rd ((W Y)×(W Y)) (W Y) (W Y):=(bif (!(Kg b a)) then(.next (c++ [a])) else(.next c))
def M0(_:K)(a:W Y):(W Y):=a
def Zt(a:W Y)(b:W Y):(W Y)×(W Y):=(Out.on (X8 (Mx a) My b 0 []) (λc=>(Out.on (X8 (Mz b) M0 a 0 []) (λd=>(c,d)))))
theorem IT(a:W Y)(b:W Y):ACalls uQ 58 [.h a,.h b] (.tup [(L, [.o 0 (((Zt a b)).1)]),(L, [.o 1 (((Zt a b)).2)])]):=by
 refine en func58 λ_ _ _=>sn [0,1,4,5] [] p0 ?_
 refine tn [0,1,4,5,6] [] p0<|tu [(4,.e 0),(5,.e 0),(6,.one (.slc (.own Q 640) 1 [])),(7,.one (.slc (.own Q 704) 1 []))] [] [] [] p0<|Qa<|su [(8,.i 0)] [] [] [] p0<|wT 1 0 .sh b (λv w=>?_)
 refine CA (Mx a) My b [] (λf c=> [(6,.o 147204 c),(8,.i (f:Y))]) [6,8] (λs=> [(6,.o 147354 s)]) [6,8] (λf c=>zD c<=f) (wsf [(640,147204)]) (by simp) (λf c O U=>?_) (λf c O U=>?_) (λs o=>?_)
 ·have k:=U.2;obtain⟨h,V⟩:=Xo (l:=b) (i:=f) O;refine Qa<|su [(15,.b Q)] [] [] [] (pl 2 b (pe 3 (zB ((f:Y)<(b.length:Y))) p0))<|ckT<|Qd<|Qa<|Qp<|sn [0,1,4,5,6,7,8,24] [] (pn 3 V (pc 5 (Be a h) p0))<|ck (!(Kg a h)) (λp=>?_) (λp=>?_)
  ·refine wT 6 0 (.own Q 147204) c (λx y=>?_);refine qu [(6,.one (.slc (.own Q 1984) 1 ((eL c)++ [[.i h]])))] [6,15] [] [] (pn 3 V (pa c [h] p0)) ?_;refine eqn [(6,.o 1984 (c++ [h]))] [6] [] [] (by rw[show((eL c)++ [[.i h]])=(eL (c++ [h])) from Jg rfl (rfl)]<;>kernel_rfl) ?_;refine rn [0,1,4,5,6,7,8] [] (pw 1 f p0) ?_;exact zK (c++ [h]) (zO (wsf [(1984,147204)]) ⟨Qr V (Xg p rfl) U.1,by first|omega|(simp;omega) | simp⟩)
  refine Qd<|qn [0,1,4,5,6,7,8] [] (pw 1 f p0) ?_
  exact xw c ⟨Qr V (Qi p rfl) U.1,by first|omega|(simp;omega) | simp⟩
 ·have k:=U.2;exact Qa<|su [(15,.b L)] [] [] [] (pl 2 b (pe 3 (zC ((f:Y)<(b.length:Y))) p0))<|ckF<|Xa<|zK _ (zO (wsf [(147204,147354)]) (Xq O rfl U.1))
 refine Qa<|su [(9,.i 0)] [] [] [] p0<|wT 0 0 .sh a (λa2 a3=>?_)
 refine CA (Mz b) M0 a [] (λk1 d=> [(7,.o 147205 d),(9,.i (k1:Y))]) [7,9] (λt=> [(7,.o 147355 t)]) [0,1,7,9] (λk1 d=>zD d<=k1) (wsf [(704,147205)]) (by simp) (λk1 d m e=>?_) (λk1 d m e=>?_) (λt q=>?_)
 ·have n:=e.2;obtain⟨j,g⟩:=Xo (l:=a) (i:=k1) m;refine Qa<|su [(35,.b Q)] [] [] [] (pl 2 a (pe 3 (zB ((k1:Y)<(a.length:Y))) p0))<|ckT<|Qd<|Qa<|Qp<|sn [0,1,4,5,6,7,9,44] [] (pn 3 g (pc 5 (Be b j) p0))<|ck (!(Kg b j)) (λr=>?_) (λr=>?_)
  ·refine wT 7 0 (.own Q 147205) d (λa4 u=>?_);refine qu [(7,.one (.slc (.own Q 3264) 1 ((eL d)++ [[.i j]])))] [7,35] [] [] (pn 3 g (pa d [j] p0)) ?_;refine eqn [(7,.o 3264 (d++ [j]))] [7] [] [] (by rw[show((eL d)++ [[.i j]])=(eL (d++ [j])) from Jg rfl (rfl)]<;>kernel_rfl) ?_;refine rn [0,1,4,5,6,7,9] [] (pw 1 k1 p0) ?_;exact zK (d++ [j]) (zO (wsf [(3264,147205)]) ⟨Qr g (Xg r rfl) e.1,by first|omega|(simp;omega) | simp⟩)
  refine Qd<|qn [0,1,4,5,6,7,9] [] (pw 1 k1 p0) ?_
  exact xw d ⟨Qr g (Qi r rfl) e.1,by first|omega|(simp;omega) | simp⟩
 ·have n:=e.2;exact Qa<|su [(35,.b L)] [] [] [] (pl 2 a (pe 3 (zC ((k1:Y)<(a.length:Y))) p0))<|ckF<|Xa<|zK _ (zO (wsf [(147205,147355)]) (Xq m rfl e.1))
 exact sn [4,5] [] p0<|Qc<|pz [] (show Zt a b=_ from Vx o (Vx q rfl)) (λz=> .tup [(L, [.o 0 z.1]),(L, [.o 1 z.2])])
theorem Qit(b:W Y)(l:W Kn):Bf b l=Hu b l:=by
 unfold Bf Hu
 rw[I4 (f:=A9) (g:=Hl) (e:=Ek) (e':=A8) (λ_ _=>rfl) l 0 _ (λi a t _=>by
  unfold A9 Hl;rw[Qcu])]
theorem Qef(w:Zz):X3 w=Xm w:=Qit w.2.2.1 w.2.2.2
theorem Mg(w:Zz):Xp w=w:=by
 unfold Xp;rw[Wu (f:=Ig) (g:=Jn) (λ_ _ _=>rfl)];show(w.1,w.2.1,w.2.2.1, []++w.2.2.2.map Jn)=w;rw[show Jn=id from rfl,yG];rfl
theorem Nl(w:Zz):Qh w=w:=by
 unfold Qh I1;rw[Wu (f:=Ih) (g:=id) (λ_ _ _=>rfl)];show(w.1,w.2.1,w.2.2.1, []++w.2.2.2.map id)=w;rw[yG];rfl
theorem IU(w:Zz):zD ((Xp w)).2.2.2=zD w.2.2.2:=by rw[Mg]
theorem Qac(w:Zz):zD ((Qh w)).2.2.2=zD w.2.2.2:=by rw[Nl]
theorem PI(w:Zz):zD w.2.2.2<=GoD.size w:=by
 have h:=I6 w;have a:zD w.2.2.2<=GoD.size w.2.2.2:=by rw[An];omega
 omega
open GoE (enc wide)
def Jx(w:Zz)(a:Y)(b:Yl)(d:W Zo):Zz:=(bif decide (uO uP (((((Z3 (Xm w) (Yx b d w.1 w.2.1))).1).length:Y)+((((Z3 (Xm w) (Yx b d w.1 w.2.1))).2).length:Y))>(0:Y)) then((Xp w).1,(Xp w).2.1,(Xp w).2.2.1,(Xp w).2.2.2++ [(a,((Z3 (Xm w) (Yx b d w.1 w.2.1))).1,((Z3 (Xm w) (Yx b d w.1 w.2.1))).2)]) else(Xp w))
theorem PJ(w:Zz)(a:Y)(b:Yl)(d:W Zo)(e:GoD.size w<=536870912):ACalls uQ 30 [.a [.i w.1,.s w.2.1,.h w.2.2.1,.h w.2.2.2],.i a,.a [.h b.1,.h b.2.1,.i b.2.2],.h d] (.a [.i ((Jx w a b d).1),.s ((Jx w a b d).2.1),.o 0 ((Jx w a b d).2.2.1),.o 1 ((Jx w a b d).2.2.2)]):=by
 refine en func30 λ_ _ _=>?_
 have f:=IU w;have g:=PI w;refine sn [1,3,4,6,8] [4,6,8] p0<|tn [1,3,4,6,8,9] [4,6,8,9] (pc 1 (Rx w) p0)<|tU [(8,.p 8 0),(9,.p 9 0),(10,.o 1536 (((Z3 (Xm w) (Yx b d w.1 w.2.1))).1)),(11,.o 1537 (((Z3 (Xm w) (Yx b d w.1 w.2.1))).2))] [0,2,3] [(8, [.i 0,.s ⟨#[]⟩,.e 1,.e 3]),(9, [.i ((Xp w).1),.s ((Xp w).2.1),.o 832 ((Xp w).2.2.1),.o 833 ((Xp w).2.2.2)])] [] (pc 1 (YU w (by first|omega|(rw[Nl];omega) | exact yB (findWatch_size x i) e | exact yB (findWatch_sizeS x i) e)) (pc 8 (GX b d w.1 w.2.1) (pc 9 (IS (Xm w) (Yx b d w.1 w.2.1)) p0)))<|Qa<|sn [1,8,9,10,11,32] [8,9] (pl 1 (((Z3 (Xm w) (Yx b d w.1 w.2.1))).1) (pl 3 (((Z3 (Xm w) (Yx b d w.1 w.2.1))).2) p0))<|ck (decide (uO uP (((((Z3 (Xm w) (Yx b d w.1 w.2.1))).1).length:Y)+((((Z3 (Xm w) (Yx b d w.1 w.2.1))).2).length:Y))>(0:Y))) (λc=>?_) (λc=>?_)
 ·have h:=uG c;refine wB 9 3 (.own Q 833) ((Xp w).2.2.2) (λj k=>?_);refine qu [] [1,10,11] [(9, [.i ((Xp w).1),.s ((Xp w).2.1),.o 832 ((Xp w).2.2.1),.slc (.own Q 2560) 3 ((eL ((Xp w).2.2.2))++ [[.i a,.h (((Z3 (Xm w) (Yx b d w.1 w.2.1))).1),.h (((Z3 (Xm w) (Yx b d w.1 w.2.1))).2)]])])] [9] (pa ((Xp w).2.2.2) [(a,((Z3 (Xm w) (Yx b d w.1 w.2.1))).1,((Z3 (Xm w) (Yx b d w.1 w.2.1))).2)] p0) ?_;refine eqn [] [] [(9, [.i ((Xp w).1),.s ((Xp w).2.1),.o 832 ((Xp w).2.2.1),.o 2560 ((Xp w).2.2.2++ [(a,((Z3 (Xm w) (Yx b d w.1 w.2.1))).1,((Z3 (Xm w) (Yx b d w.1 w.2.1))).2)])])] [9] (by rw[show((eL ((Xp w).2.2.2))++ [[.i a,.h (((Z3 (Xm w) (Yx b d w.1 w.2.1))).1),.h (((Z3 (Xm w) (Yx b d w.1 w.2.1))).2)]])=(eL ((Xp w).2.2.2++ [(a,((Z3 (Xm w) (Yx b d w.1 w.2.1))).1,((Z3 (Xm w) (Yx b d w.1 w.2.1))).2)])) from Jg rfl (rfl)]<;>kernel_rfl) ?_;exact sn [8] [8] p0<|Qc<|pz [] (show Jx w a b d=_ from Xg c rfl) (λz=> .a [.i z.1,.s z.2.1,.o 0 z.2.2.1,.o 1 z.2.2.2])
 exact Qd<|tn [8] [8] p0<|Qc<|pz [] (show Jx w a b d=_ from Qi c rfl) (λz=> .a [.i z.1,.s z.2.1,.o 0 z.2.2.1,.o 1 z.2.2.2])
def Kc(w:Zz)(a:Y)(b:Yl)(d:W Zo):Zz:=(bif (decide (((((Zt (X3 (Qh w)) (Zr b d ((Qh w).1) ((Qh w).2.1)))).1).length:Y)>(0:Y))|| decide (((((Zt (X3 (Qh w)) (Zr b d ((Qh w).1) ((Qh w).2.1)))).2).length:Y)>(0:Y))) then((Qh w).1,(Qh w).2.1,(Qh w).2.2.1,(Qh w).2.2.2++ [(a,((Zt (X3 (Qh w)) (Zr b d ((Qh w).1) ((Qh w).2.1)))).1,((Zt (X3 (Qh w)) (Zr b d ((Qh w).1) ((Qh w).2.1)))).2)]) else(Qh w))
theorem KV(w:Zz)(a:Y)(b:Yl)(d:W Zo)(f:GoD.size w<=536870912):ACalls uQ 20 [.a [.i w.1,.s w.2.1,.h w.2.2.1,.h w.2.2.2],.i a,.a [.h b.1,.h b.2.1,.i b.2.2],.h d] (.a [.i ((Kc w a b d).1),.s ((Kc w a b d).2.1),.o 0 ((Kc w a b d).2.2.1),.o 1 ((Kc w a b d).2.2.2)]):=by
 refine en func20 λ_ _ _=>?_
 have g:=Qac w;have h:=PI w;refine sn [1,3,4,6,8] [4,6,8] p0<|tn [1,3,4,6,8] [4,6,8] (pc 1 (YX w) p0)<|tU [(4,.p 4 0),(8,.p 8 0),(9,.o 1472 (((Zt (X3 (Qh w)) (Zr b d ((Qh w).1) ((Qh w).2.1)))).1)),(10,.o 1473 (((Zt (X3 (Qh w)) (Zr b d ((Qh w).1) ((Qh w).2.1)))).2))] [0,2,3] [(4, [.i ((Qh w).1),.s ((Qh w).2.1),.o 768 ((Qh w).2.2.1),.o 769 ((Qh w).2.2.2)]),(8, [.i 0,.s ⟨#[]⟩,.e 1,.e 3])] [] (pc 1 (YW (Qh w) (by first|omega|(rw[Nl];omega) | exact yB (findWatch_size x i) f | exact yB (findWatch_sizeS x i) f)) (pc 8 (GZ b d ((Qh w).1) ((Qh w).2.1)) (pc 9 (IT (X3 (Qh w)) (Zr b d ((Qh w).1) ((Qh w).2.1))) p0)))<|Qa<|Qa<|jn [(33,.b (decide (((((Zt (X3 (Qh w)) (Zr b d ((Qh w).1) ((Qh w).2.1)))).1).length:Y)>(0:Y))|| decide (((((Zt (X3 (Qh w)) (Zr b d ((Qh w).1) ((Qh w).2.1)))).2).length:Y)>(0:Y))))] [] [] [] (decide (((((Zt (X3 (Qh w)) (Zr b d ((Qh w).1) ((Qh w).2.1)))).1).length:Y)>(0:Y))) (λc=>?_) (λc=>?_) ?_
 ·refine ru [(33,.b Q)] [] [] [] (pl 1 (((Zt (X3 (Qh w)) (Zr b d ((Qh w).1) ((Qh w).2.1)))).1) (pt 2 c p0)) ?_;exact zA (by rw[c]<;>kernel_rfl)
 ·refine rn [1,4,8,9,10,33] [4,8] (pl 1 (((Zt (X3 (Qh w)) (Zr b d ((Qh w).1) ((Qh w).2.1)))).1) (pf 2 c (pl 5 (((Zt (X3 (Qh w)) (Zr b d ((Qh w).1) ((Qh w).2.1)))).2) p0))) ?_;exact zA (by rw[c]<;>kernel_rfl)
 refine ck (decide (((((Zt (X3 (Qh w)) (Zr b d ((Qh w).1) ((Qh w).2.1)))).1).length:Y)>(0:Y))|| decide (((((Zt (X3 (Qh w)) (Zr b d ((Qh w).1) ((Qh w).2.1)))).2).length:Y)>(0:Y))) (λe=>?_) (λe=>?_)
 ·refine wB 4 3 (.own Q 769) ((Qh w).2.2.2) (λj k=>?_);refine ru [] [1,9,10,33] [(4, [.i ((Qh w).1),.s ((Qh w).2.1),.o 768 ((Qh w).2.2.1),.slc (.own Q 2624) 3 ((eL ((Qh w).2.2.2))++ [[.i a,.h (((Zt (X3 (Qh w)) (Zr b d ((Qh w).1) ((Qh w).2.1)))).1),.h (((Zt (X3 (Qh w)) (Zr b d ((Qh w).1) ((Qh w).2.1)))).2)]])])] [4] (pa ((Qh w).2.2.2) [(a,((Zt (X3 (Qh w)) (Zr b d ((Qh w).1) ((Qh w).2.1)))).1,((Zt (X3 (Qh w)) (Zr b d ((Qh w).1) ((Qh w).2.1)))).2)] p0) ?_;refine eqn [] [] [(4, [.i ((Qh w).1),.s ((Qh w).2.1),.o 768 ((Qh w).2.2.1),.o 2624 ((Qh w).2.2.2++ [(a,((Zt (X3 (Qh w)) (Zr b d ((Qh w).1) ((Qh w).2.1)))).1,((Zt (X3 (Qh w)) (Zr b d ((Qh w).1) ((Qh w).2.1)))).2)])])] [4] (by rw[show((eL ((Qh w).2.2.2))++ [[.i a,.h (((Zt (X3 (Qh w)) (Zr b d ((Qh w).1) ((Qh w).2.1)))).1),.h (((Zt (X3 (Qh w)) (Zr b d ((Qh w).1) ((Qh w).2.1)))).2)]])=(eL ((Qh w).2.2.2++ [(a,((Zt (X3 (Qh w)) (Zr b d ((Qh w).1) ((Qh w).2.1)))).1,((Zt (X3 (Qh w)) (Zr b d ((Qh w).1) ((Qh w).2.1)))).2)])) from Jg rfl (rfl)]<;>kernel_rfl) ?_;exact sn [8] [8] p0<|Qc<|pz [] (show Kc w a b d=_ from Xg e rfl) (λz=> .a [.i z.1,.s z.2.1,.o 0 z.2.2.1,.o 1 z.2.2.2])
 exact Qd<|sn [8] [8] p0<|Qc<|pz [] (show Kc w a b d=_ from Qi e rfl) (λz=> .a [.i z.1,.s z.2.1,.o 0 z.2.2.1,.o 1 z.2.2.2])
theorem Qiu{R:Type}{f:K->Y->W Y->Rd R (W Y) (W Y)}{e:K->W Y->W Y}{b:W Y}(c:∀k a s,f k a s=bif (!(Kg b a)) then .next (s++ [a]) else .next s)(d:∀k s,e k s=s)(l:W Y):X8 f e l 0 []= .brk (less l b):=by
 rw[N4 (p:=λx=> !b.contains x) (g:=λx=>x) (λk a s=>by rw[c,Qis])];rw[d,List.nil_append,List.map_id'];rfl
theorem Qeg(a b:W Y):Zt a b=Z3 a b:=by
 unfold Zt Z3;rw[Qiu (f:=Mx a) (e:=My) (b:=a) (λ_ _ _=>rfl) (λ_ _=>rfl),Qiu (f:=Mz b) (e:=M0) (b:=b) (λ_ _ _=>rfl) (λ_ _=>rfl)];rfl
theorem BO:∀(l:W Kn) (k:K) (s:W Y),∃t,X8 Hl A8 l k s= .brk t/\t.length<=s.length+GoD.size l
 | [],k,s=>⟨s,rfl,Nat.le_add_right _ _⟩
 | x::l,k,s=>by
   obtain⟨t,a,c⟩:=BO l (k+1) (U8 s x.2.1 x.2.2);refine⟨t,a, ?_⟩;have d:=Mf s x.2.1 x.2.2;have e:=EV x;have b:GoD.size (x::l)=GoD.size [x]+GoD.size l:=So [x] l;rw[WO] at b;omega
theorem BP(w:Zz):zD (Xm w)<=GoD.size w:=by
 have hw:=I6 w;unfold Xm Hu;obtain⟨t,a,b⟩:=BO w.2.2.2 0 w.2.2.1;rw[a];simp only[Out.on];omega
theorem Qiv(w:Zz)(v:Y)(s:Yl)(d:W Zo)(g:GoD.size w<=536870912):Kc w v s d=Jx w v s d:=by
 unfold Kc Jx;rw[Nl,Mg,Qef,Qd6,Qeg];have h:=BP w;have i:=XZ s d w.1 w.2.1;unfold Z3;have c:=Sn (Yx s d w.1 w.2.1) (Xm w);have e:=Sn (Xm w) (Yx s d w.1 w.2.1);generalize less (Yx s d w.1 w.2.1) (Xm w)=a at c⊢;generalize less (Xm w) (Yx s d w.1 w.2.1)=b at e⊢;have hw:uO uP ((a.length:Y)+(b.length:Y))=(a.length:Y)+(b.length:Y):=IntWalk.i64_in _ (by omega);simp only[hw]
 have f:(decide ((a.length:Y)>(0:Y))|| decide ((b.length:Y)>(0:Y)))=decide ((a.length:Y)+(b.length:Y)>(0:Y)):=by
  rw[yN];simp only[yS,uH];omega
 rw[f]
theorem Qad(w:Zz)(v:Y)(s:Yl)(d:W Zo):GoD.size (Jx w v s d)<=2*GoD.size w+13:=by
 unfold Jx;rw[Mg];have g:=BP w;have h:=XZ s d w.1 w.2.1;unfold Z3;have c:=Sn (Yx s d w.1 w.2.1) (Xm w);have e:=Sn (Xm w) (Yx s d w.1 w.2.1);generalize less (Yx s d w.1 w.2.1) (Xm w)=a at c⊢;generalize less (Xm w) (Yx s d w.1 w.2.1)=b at e⊢;cases decide (uO uP ((a.length:Y)+(b.length:Y))>(0:Y)) with
 | false=>simp only[J];omega
 | true=>
   simp only[I];have hw:=I6 w;rw[I6];show w.2.1.size+(zD w.2.2.1+GoD.size (w.2.2.2++ [((v,a,b):Kn)]))<=_;rw[So,WO];have f:GoD.size ((v,a,b):Kn)=0+(GoD.size a+GoD.size b):=rfl;rw[Rp,Rp] at f;omega
open GoE (enc wide)
def Ii(_:K)(a:Yn)(b:W Yn):Rd (W Yn) (W Yn) (W Yn):=(.next (b++ [(Yg a)]))
def Pm(_:K)(a:W Yn):(W Yn):=a
def Fn(l:W Yn):(W Yn):=(Out.on (X8 Ii Pm l 0 []) (λa=>a))
theorem BQ(l:W Yn):ACalls uQ 125 [.h l] (.o 0 (Fn l)):=by
 refine en func125 λ_ _ _=>sn [0,2] [] p0 ?_
 refine tn [0,2,3] [] p0<|Qa<|tu [(2,.e 0),(3,.one (.slc (.own Q 384) 5 [])),(7,.h l),(8,.i (l.length:Y)),(9,.i 0)] [0] [] [] (pl 1 l p0)<|wT 7 0 .sh l (λg h=>?_)
 refine CA Ii Pm l [] (λc b=> [(3,.o 147201 b),(9,.i (c:Y))]) [3,9] (λf=> [(3,.o 147351 f)]) [3,7,8,9] (λc b=>zD b<=c) (wsf [(384,147201)]) (by simp) (λc b O U=>?_) (λc b O U=>?_) (λf e=>?_)
 ·have d:=U.2;obtain⟨a,V⟩:=Xo (l:=l) (i:=c) O;refine sn [2,3,7,8,9,10] [] (pe 0 (zB ((c:Y)<(l.length:Y))) p0)<|Qa<|ckT<|Qd<|Qa<|Qp<|tn [2,3,5,7,8,9] [5] (pn 0 V p0)<|wT 3 0 (.own Q 147201) b (λj k=>?_)
  refine qu [(3,.one (.slc (.own Q 1088) 5 ((eL b)++ [[.i ((Yg a).1),.i ((Yg a).2.1),.b ((Yg a).2.2.1),.i ((Yg a).2.2.2.1),.h ((Yg a).2.2.2.2)]])))] [3] [] [] (pc 2 (Th a) (pa b [(Yg a)] p0)) ?_;refine eqn [(3,.o 1088 (b++ [(Yg a)]))] [3] [] [] (by rw[show((eL b)++ [[.i ((Yg a).1),.i ((Yg a).2.1),.b ((Yg a).2.2.1),.i ((Yg a).2.2.2.1),.h ((Yg a).2.2.2.2)]])=(eL (b++ [(Yg a)])) from Jg rfl (rfl)]<;>kernel_rfl) ?_;refine rn [2,3,7,8,9] [] (pw 0 c p0) ?_;exact zK (b++ [(Yg a)]) (zO (wsf [(1088,147201)]) ⟨Qr V rfl U.1,by first|omega|(simp;omega) | simp⟩)
 ·have d:=U.2;exact sn [2,3,7,8,9,10] [] (pe 0 (zC ((c:Y)<(l.length:Y))) p0)<|Qa<|ckF<|Xa<|zK _ (zO (wsf [(147201,147351)]) (Xq O rfl U.1))
 exact sn [2] [] p0<|Qc<|po0 [] (Vx e rfl)
def Wh(a:Yl):Yl:=(a.1,(Fn a.2.1),a.2.2)
theorem L4(a:Yl):ACalls uQ 72 [.a [.h a.1,.h a.2.1,.i a.2.2]] (.a [.o 0 ((Wh a).1),.o 1 ((Wh a).2.1),.i ((Wh a).2.2)]):=by
 refine en func72 λ_ _ _=>sn [1,2] [1,2] p0 ?_
 exact tN [2] [2] (pc 2 (KL a.1) (pc 5 (BQ a.2.1) p0))<|Qc<|pz [] (show Wh a=(a.1,(Fn a.2.1),a.2.2) from rfl) (λz=> .a [.o 0 z.1,.o 1 z.2.1,.i z.2.2])
def Ur(x:Zo):Zo:=x
theorem IV(x:Zo):ACalls uQ 126 [.a [.s x.1,.h x.2]] (.a [.s ((Ur x).1),.o 0 ((Ur x).2)]):=by
 refine en func126 λ_ _ _=>sn [1,2] [1,2] p0 ?_
 exact tn [1,2] [1,2] (pc 2 (SU x.2) p0)<|tu [(2,.p 2 0)] [0] [(2, [.s x.1,.o 320 x.2])] [] p0<|Qc<|pz [] (show Ur x=x from rfl) (λz=> .a [.s z.1,.o 0 z.2])
def L5(_:K)(a:Zo)(b:W Zo):Rd (W Zo) (W Zo) (W Zo):=(.next (b++ [(Ur a)]))
def Ry(_:K)(a:W Zo):(W Zo):=a
def A0(d:W Zo):(W Zo):=(Out.on (X8 L5 Ry d 0 []) (λa=>a))
theorem M1(d:W Zo):ACalls uQ 73 [.h d] (.o 0 (A0 d)):=by
 refine en func73 λ_ _ _=>sn [0,2] [] p0 ?_
 refine tn [0,2,3] [] p0<|Qa<|tu [(2,.e 0),(3,.one (.slc (.own Q 384) 2 [])),(7,.h d),(8,.i (d.length:Y)),(9,.i 0)] [0] [] [] (pl 1 d p0)<|wT 7 0 .sh d (λh j=>?_)
 refine CA L5 Ry d [] (λb a=> [(3,.o 147201 a),(9,.i (b:Y))]) [3,9] (λg=> [(3,.o 147351 g)]) [3,7,8,9] (λb a=>zD a<=b) (wsf [(384,147201)]) (by simp) (λb a O U=>?_) (λb a O U=>?_) (λg f=>?_)
 ·have e:=U.2;obtain⟨c,V⟩:=Xo (l:=d) (i:=b) O;refine sn [2,3,7,8,9,10] [] (pe 0 (zB ((b:Y)<(d.length:Y))) p0)<|Qa<|ckT<|Qd<|Qa<|Qp<|tn [2,3,5,7,8,9] [5] (pn 0 V p0)<|wT 3 0 (.own Q 147201) a (λk m=>?_)
  refine qu [(3,.one (.slc (.own Q 1088) 2 ((eL a)++ [[.s ((Ur c).1),.h ((Ur c).2)]])))] [3] [] [] (pc 2 (IV c) (pa a [(Ur c)] p0)) ?_;refine eqn [(3,.o 1088 (a++ [(Ur c)]))] [3] [] [] (by rw[show((eL a)++ [[.s ((Ur c).1),.h ((Ur c).2)]])=(eL (a++ [(Ur c)])) from Jg rfl (rfl)]<;>kernel_rfl) ?_;refine rn [2,3,7,8,9] [] (pw 0 b p0) ?_;exact zK (a++ [(Ur c)]) (zO (wsf [(1088,147201)]) ⟨Qr V rfl U.1,by first|omega|(simp;omega) | simp⟩)
 ·have e:=U.2;exact sn [2,3,7,8,9,10] [] (pe 0 (zC ((b:Y)<(d.length:Y))) p0)<|Qa<|ckF<|Xa<|zK _ (zO (wsf [(147201,147351)]) (Xq O rfl U.1))
 exact sn [2] [] p0<|Qc<|po0 [] (Vx f rfl)
def Yk(x:Qw):Qw:=((Wh x.1),(A0 x.2))
theorem YY(x:Qw):ACalls uQ 121 [.a [.h x.1.1,.h x.1.2.1,.i x.1.2.2,.h x.2]] (.a [.o 0 ((Yk x).1.1),.o 1 ((Yk x).1.2.1),.i ((Yk x).1.2.2),.o 2 ((Yk x).2)]):=by
 refine en func121 λ_ _ _=>sn [1,2] [1,2] p0 ?_
 exact tN [2] [2] (pc 2 (L4 x.1) (pc 5 (M1 x.2) p0))<|Qc<|pz [] (show Yk x=((Wh x.1),(A0 x.2)) from rfl) (λz=> .a [.o 0 z.1.1,.o 1 z.1.2.1,.i z.1.2.2,.o 2 z.2])
def Ba(_:K)(a:Ya)(b:W Ya):Rd (W Ya) (W Ya) (W Ya):=(.next (b++ [(a.1,(Yk a.2.1),a.2.2)]))
def L6(_:K)(a:W Ya):(W Ya):=a
def Bg(v:W Ya):(W Ya):=(Out.on (X8 Ba L6 v 0 []) (λa=>a))
theorem YZ(v:W Ya):ACalls uQ 69 [.h v] (.o 0 (Bg v)):=by
 refine en func69 λ_ _ _=>sn [0,2] [] p0 ?_
 refine tn [0,2,3] [] p0<|Qa<|tu [(2,.e 0),(3,.one (.slc (.own Q 384) 6 [])),(7,.h v),(8,.i (v.length:Y)),(9,.i 0)] [0] [] [] (pl 1 v p0)<|wT 7 0 .sh v (λg h=>?_)
 refine CA Ba L6 v [] (λc b=> [(3,.o 147201 b),(9,.i (c:Y))]) [3,9] (λf=> [(3,.o 147351 f)]) [3,7,8,9] (λc b=>zD b<=c) (wsf [(384,147201)]) (by simp) (λc b O U=>?_) (λc b O U=>?_) (λf e=>?_)
 ·have d:=U.2;obtain⟨a,V⟩:=Xo (l:=v) (i:=c) O;refine sn [2,3,7,8,9,10] [] (pe 0 (zB ((c:Y)<(v.length:Y))) p0)<|Qa<|ckT<|Qd<|Qa<|Qp<|tn [2,3,5,7,8,9] [5] (pn 0 V p0)<|tu [(5,.p 5 0)] [] [(5, [.i a.1,.o 960 ((Yk a.2.1).1.1),.o 961 ((Yk a.2.1).1.2.1),.i ((Yk a.2.1).1.2.2),.o 962 ((Yk a.2.1).2),.i a.2.2])] [] (pc 2 (YY a.2.1) p0)<|wT 3 0 (.own Q 147201) b (λj k=>?_)
  refine ru [(3,.one (.slc (.own Q 1280) 6 ((eL b)++ [[.i a.1,.h ((Yk a.2.1).1.1),.h ((Yk a.2.1).1.2.1),.i ((Yk a.2.1).1.2.2),.h ((Yk a.2.1).2),.i a.2.2]])))] [3,5] [] [5] (pa b [(a.1,(Yk a.2.1),a.2.2)] p0) ?_;refine eqn [(3,.o 1280 (b++ [(a.1,(Yk a.2.1),a.2.2)]))] [3] [] [] (by rw[show((eL b)++ [[.i a.1,.h ((Yk a.2.1).1.1),.h ((Yk a.2.1).1.2.1),.i ((Yk a.2.1).1.2.2),.h ((Yk a.2.1).2),.i a.2.2]])=(eL (b++ [(a.1,(Yk a.2.1),a.2.2)])) from Jg rfl (rfl)]<;>kernel_rfl) ?_;refine rn [2,3,7,8,9] [] (pw 0 c p0) ?_;exact zK (b++ [(a.1,(Yk a.2.1),a.2.2)]) (zO (wsf [(1280,147201)]) ⟨Qr V rfl U.1,by first|omega|(simp;omega) | simp⟩)
 ·have d:=U.2;exact sn [2,3,7,8,9,10] [] (pe 0 (zC ((c:Y)<(v.length:Y))) p0)<|Qa<|ckF<|Xa<|zK _ (zO (wsf [(147201,147351)]) (Xq O rfl U.1))
 exact sn [2] [] p0<|Qc<|po0 [] (Vx e rfl)
def M2(_:K)(a:Yn)(b:W Yn):Rd (Yl) (W Yn) (W Yn):=(.next (b++ [(Ys a)]))
def Tm(_:K)(a:W Yn):(W Yn):=a
def Hm(a:Yl):Yl:=(Out.on (X8 M2 Tm a.2.1 0 []) (λb=>(a.1,b,a.2.2)))
theorem Oq(a:Yl):ACalls uQ 54 [.a [.h a.1,.h a.2.1,.i a.2.2]] (.a [.o 0 ((Hm a).1),.o 1 ((Hm a).2.1),.i ((Hm a).2.2)]):=by
 refine en func54 λ_ _ _=>sn [1,2] [1,2] p0 ?_
 refine wB 1 0 .sh a.1 (λh j=>?_);refine tN [1,2,3] [1,2,3] (po 3 (.flat) (px (Db (n:=(([]:W (W PV)).length+((eL a.1):W (W PV)).length)) (Eo rfl (Yu a.1) (by first|omega|(simp only[List.length_cons,List.length_nil];omega) | (simp;omega) | simp))) (px (Ae (Uz a.1)) p0)))<|Qa<|tu [(1,.p 1 0),(2,.p 2 0),(3,.p 3 0),(4,.i 0)] [0] [(1, [.h a.1,.h a.2.1,.i a.2.2]),(2, [.e 2,.e 5,.i 0]),(3, [.o 512 a.1,.e 5,.i a.2.2])] [] p0<|wB 1 1 .sh a.2.1 (λk m=>?_)
 refine VB M2 Tm a.2.1 [] (λd _=> [(4,.i (d:Y))]) [4] (λ_ c=> [(3, [.o 512 a.1,.o 147211 c,.i a.2.2])]) [3] (λ_=> []) [1,4] (λg=> [(3, [.o 512 a.1,.o 147361 g,.i a.2.2])]) [1,3] (λd c=>zD c<=d) (wgf [(Q,3,1,Q,320008,5)] [] [] [(320008,147211)]) (by simp) (λd c O U=>?_) (λd c O U=>?_) (λg f=>?_)
 ·have e:=U.2;obtain⟨b,V⟩:=Xo (l:=a.2.1) (i:=d) O;refine Qa<|su [(16,.b Q)] [] [] [] (pl 3 a.2.1 (pe 4 (zB ((d:Y)<(a.2.1.length:Y))) p0))<|ckT<|Qd<|Qa<|Qp<|wB 3 1 (.own Q 147211) c (λo p=>?_)
  refine rU [] [16] [(3, [.o 512 a.1,.slc (.own Q 1792) 5 ((eL c)++ [[.i ((Ys b).1),.i ((Ys b).2.1),.b ((Ys b).2.2.1),.i ((Ys b).2.2.2.1),.h ((Ys b).2.2.2.2)]]),.i a.2.2])] [3] (pn 5 V (pc 7 (XX b) (pa c [(Ys b)] p0))) ?_;refine eqn [] [] [(3, [.o 512 a.1,.o 1792 (c++ [(Ys b)]),.i a.2.2])] [3] (by rw[show((eL c)++ [[.i ((Ys b).1),.i ((Ys b).2.1),.b ((Ys b).2.2.1),.i ((Ys b).2.2.2.1),.h ((Ys b).2.2.2.2)]])=(eL (c++ [(Ys b)])) from Jg rfl (rfl)]<;>kernel_rfl) ?_;refine rn [1,2,3,4] [1,2,3] (pw 1 d p0) ?_;exact zK (c++ [(Ys b)]) (zO (wsf [(1792,147211)]) ⟨Qr V rfl U.1,by first|omega|(simp;omega) | simp⟩)
 ·have e:=U.2;exact Qa<|su [(16,.b L)] [] [] [] (pl 3 a.2.1 (pe 4 (zC ((d:Y)<(a.2.1.length:Y))) p0))<|ckF<|Xa<|zK _ (zO (wsf [(147211,147361)]) (Xq O rfl U.1))
 exact sn [2] [2] p0<|Qc<|pz [] (show Hm a=_ from Vx f rfl) (λz=> .a [.o 0 z.1,.o 1 z.2.1,.i z.2.2])
def M3(_:K)(a:Zo)(b:W Zo):Rd (W Zo) (W Zo) (W Zo):=(.next (b++ [a]))
def Tn(_:K)(a:W Zo):(W Zo):=a
def Cu(d:W Zo):(W Zo):=(Out.on (X8 M3 Tn d 0 []) (λa=>a))
theorem Ot(d:W Zo):ACalls uQ 55 [.h d] (.o 0 (Cu d)):=by
 refine en func55 λ_ _ _=>sn [0,2] [] p0 ?_
 refine tn [0,2,3] [] p0<|Qa<|tu [(2,.e 0),(3,.one (.slc (.own Q 320) 2 [])),(4,.i 0)] [] [] [] p0<|wT 0 0 .sh d (λf j=>?_)
 refine CA M3 Tn d [] (λc a=> [(3,.o 147202 a),(4,.i (c:Y))]) [3,4] (λh=> [(3,.o 147352 h)]) [0,3,4] (λc a=>zD a<=c) (wsf [(320,147202)]) (by simp) (λc a O U=>?_) (λc a O U=>?_) (λh g=>?_)
 ·have e:=U.2;obtain⟨b,V⟩:=Xo (l:=d) (i:=c) O;refine Qa<|sn [0,2,3,4,9] [] (pl 2 d (pe 3 (zB ((c:Y)<(d.length:Y))) p0))<|ckT<|Qd<|Qa<|Qp ?_
  have k:zD b.2<=1073741824:=Du (Is (Sa V (f)));refine wT 3 0 (.own Q 147202) a (λm o=>?_);refine qU [(3,.one (.slc (.own Q 1728) 2 ((eL a)++ [[.s b.1,.slc 7 ([]++(eL b.2))]])))] [3] [] [] (pn 3 V (pn 9 V (po 12 (.flat) (px (Db (n:=(([]:W (W PV)).length+((eL b.2):W (W PV)).length)) (Eo rfl (Yu b.2) (by first|omega|(simp only[List.length_cons,List.length_nil];omega) | (simp;omega) | simp))) (px (Ae (Uz b.2)) (px (Db (n:=(((eL a):W (W PV)).length+([[.s b.1,.slc 7 ([]++(eL b.2))]]:W (W PV)).length)) (Eo (Yu a) rfl (by first|omega|(simp only[List.length_cons,List.length_nil];omega) | (simp;omega) | simp))) p0)))))) ?_;refine eqn [(3,.o 1728 (a++ [b]))] [3] [] [] (by rw[show((eL a)++ [[.s b.1,.slc 7 ([]++(eL b.2))]])=(eL (a++ [b])) from Jg rfl (rfl)]<;>kernel_rfl) ?_;refine rn [0,2,3,4] [] (pw 1 c p0) ?_;exact zK (a++ [b]) (zO (wsf [(1728,147202)]) ⟨Qr V rfl U.1,by first|omega|(simp;omega) | simp⟩)
 ·have e:=U.2;exact Qa<|sn [0,2,3,4,9] [] (pl 2 d (pe 3 (zC ((c:Y)<(d.length:Y))) p0))<|ckF<|Xa<|zK _ (zO (wsf [(147202,147352)]) (Xq O rfl U.1))
 exact sn [2] [] p0<|Qc<|po0 [] (Vx g rfl)
def Yh(x:Qw):Qw:=((Hm x.1),(Cu x.2))
theorem To(x:Qw):ACalls uQ 56 [.a [.h x.1.1,.h x.1.2.1,.i x.1.2.2,.h x.2]] (.a [.o 0 ((Yh x).1.1),.o 1 ((Yh x).1.2.1),.i ((Yh x).1.2.2),.o 2 ((Yh x).2)]):=by
 refine en func56 λ_ _ _=>sn [1,2] [1,2] p0 ?_
 exact tN [2] [2] (pc 2 (Oq x.1) (pc 5 (Ot x.2) p0))<|Qc<|pz [] (show Yh x=((Hm x.1),(Cu x.2)) from rfl) (λz=> .a [.o 0 z.1.1,.o 1 z.1.2.1,.i z.1.2.2,.o 2 z.2])
def Gl(_:K)(a:Ya)(b:W Ya):Rd (W Ya) (W Ya) (W Ya):=(.next (b++ [(a.1,(Yh a.2.1),a.2.2)]))
def Tp(_:K)(a:W Ya):(W Ya):=a
def Ka(a:W Ya):(W Ya):=(Out.on (X8 Gl Tp a 0 []) (λb=>b))
theorem Ou(c:W Ya):ACalls uQ 50 [.h c] (.o 0 (Ka c)):=by
 refine en func50 λ_ _ _=>sn [0,2] [] p0 ?_
 refine tn [0,2,3] [] p0<|Qa<|tu [(2,.e 0),(3,.one (.slc (.own Q 320) 6 [])),(4,.i 0)] [] [] [] p0<|wT 0 0 .sh c (λh j=>?_)
 refine CA Gl Tp c [] (λd b=> [(3,.o 147202 b),(4,.i (d:Y))]) [3,4] (λg=> [(3,.o 147352 g)]) [0,3,4] (λd b=>zD b<=d) (wsf [(320,147202)]) (by simp) (λd b O U=>?_) (λd b O U=>?_) (λg f=>?_)
 ·have e:=U.2;obtain⟨a,V⟩:=Xo (l:=c) (i:=d) O;refine Qa<|sn [0,2,3,4,9] [] (pl 2 c (pe 3 (zB ((d:Y)<(c.length:Y))) p0))<|ckT<|Qd<|Qa<|Qp<|wT 3 0 (.own Q 147202) b (λk m=>?_)
  refine qU [(3,.one (.slc (.own Q 1984) 6 ((eL b)++ [[.i a.1,.h ((Yh a.2.1).1.1),.h ((Yh a.2.1).1.2.1),.i ((Yh a.2.1).1.2.2),.h ((Yh a.2.1).2),.i a.2.2]])))] [3] [] [] (pn 3 V (pn 8 V (pc 11 (To a.2.1) (pn 14 V (pa b [(a.1,(Yh a.2.1),a.2.2)] p0))))) ?_;refine eqn [(3,.o 1984 (b++ [(a.1,(Yh a.2.1),a.2.2)]))] [3] [] [] (by rw[show((eL b)++ [[.i a.1,.h ((Yh a.2.1).1.1),.h ((Yh a.2.1).1.2.1),.i ((Yh a.2.1).1.2.2),.h ((Yh a.2.1).2),.i a.2.2]])=(eL (b++ [(a.1,(Yh a.2.1),a.2.2)])) from Jg rfl (rfl)]<;>kernel_rfl) ?_;refine rn [0,2,3,4] [] (pw 1 d p0) ?_;exact zK (b++ [(a.1,(Yh a.2.1),a.2.2)]) (zO (wsf [(1984,147202)]) ⟨Qr V rfl U.1,by first|omega|(simp;omega) | simp⟩)
 ·have e:=U.2;exact Qa<|sn [0,2,3,4,9] [] (pl 2 c (pe 3 (zC ((d:Y)<(c.length:Y))) p0))<|ckF<|Xa<|zK _ (zO (wsf [(147202,147352)]) (Xq O rfl U.1))
 exact sn [2] [] p0<|Qc<|po0 [] (Vx f rfl)
theorem PK(l:W Yn):Fn l=l:=by
 unfold Fn;rw[Wu (f:=Ii) (g:=id) (λ_ _ _=>rfl),yG];rfl
theorem Ov(d:W Zo):A0 d=d:=by
 unfold A0;rw[Wu (f:=L5) (g:=id) (λ_ _ _=>rfl),yG];rfl
theorem Mh(s:Yl):Wh s=s:=by
 unfold Wh;rw[PK]
theorem JY(s:Yl):Hm s=s:=by
 unfold Hm;rw[Wu (f:=M2) (g:=id) (λ_ _ _=>rfl),yG];rfl
theorem JZ(d:W Zo):Cu d=d:=by
 unfold Cu;rw[Wu (f:=M3) (g:=id) (λ_ _ _=>rfl),yG];rfl
theorem BR(x:Qw):Yk x=x:=by
 unfold Yk;rw[Mh,Ov]
theorem BS(x:Qw):Yh x=x:=by
 unfold Yh;rw[JY,JZ]
theorem BT(v:W Ya):Bg v=v:=by
 unfold Bg;rw[Wu (f:=Ba) (g:=id) (λ_ a _=>by unfold Ba;rw[BR];rfl),yG];rfl
theorem KA(v:W Ya):Ka v=v:=by
 unfold Ka;rw[Wu (f:=Gl) (g:=id) (λ_ a _=>by unfold Gl;rw[BS];rfl),yG];rfl
theorem Qae(v:W Ya):(Ka v).length=v.length:=by rw[KA]
end Go.Proofs.YtkdnkiggkgakmaaGreatDoor
