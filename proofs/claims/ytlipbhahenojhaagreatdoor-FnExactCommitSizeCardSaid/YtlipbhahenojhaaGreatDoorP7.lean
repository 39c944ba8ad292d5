/- A part. -/
import Derived.Test.YtlipbhahenojhaaGreatDoorP6
set_option linter.unusedVariables false
set_option linter.unusedSimpArgs false
namespace Go.Proofs.YtlipbhahenojhaaGreatDoor
open _root_ renaming Int → Y, ByteArray → W, List → K, Nat → H, cond_false → G, cond_true → E, Bool → D, congrArg → uB, decide_eq_false → uC, of_decide_eq_false → uE, decide_eq_true → uF, Unit → uH, UInt8 → uI, beq_self_eq_true → uJ, of_decide_eq_true → uK, decide_eq_true_eq → uM, or_false → uN, decide_eq_decide → uP
open _root_.Bool renaming true → O, false → I
open _root_.Go renaming maxLen → uA, Value → uL, Program → uO
open _root_.Option renaming some → uD, none → uG
open _root_.Go.IntKind renaming wrap → uQ, i64 → uR
open _root_.Go.Proofs.Tryz renaming prog → uS
open _root_.Go.Proofs.Tryz
open _root_.And renaming intro → zR
open _root_.Bool renaming and_eq_true → zN, not_true → zX, not_false → yG
open _root_.ByteArray renaming size → zD, size_append → zE
open _root_.Classical renaming byContradiction → yM
open _root_.Exists renaming intro → zM
open _root_.Int renaming toNat_natCast → zZ, toNat → yH, tmod → yN
open _root_.List renaming length → zF, drop → zG, length_append → zH, append_assoc → zJ, mem_cons_of_mem → zK, mem_cons_self → zL, mem_singleton → zO, append_nil → zP, mem_of_getElem? → zS, take → zT, mem_cons → zU, getD_eq_getElem?_getD → zV, map_cons → zY, mem_append → yA, length_drop → yB, length_set → yC, getElem?_of_mem → yD, mem_of_mem_drop → yF, mem_append_right → yO, mem_append_left → yP, map_id → yQ, drop_succ_cons → yR, mem_map → yS
open _root_.Nat renaming le_trans → zQ, zero_le → zW, le_refl → yE, zero_add → yK, lt_of_lt_of_le → yL
open _root_.Option.some renaming inj → yJ
open _root_.Prod.mk renaming injEq → yI
open Go.RowKit
open GoE (enc wide)
def Y4(n_:H)(q:K Q0)(a:Y):W:=match n_ with
 | 0=>default
 | n_+1=>(bif ((qa q a).1==(2:Y)) then(Ya ⟨#[32]⟩ [(Q1 ((qa q a).1)),(qa q a).2.2.2.1]) else(bif (bif ((qa q a).1==(8:Y)) then((qa q a).1==(8:Y)) else((qa q a).1==(9:Y))) then(Ya ⟨#[32]⟩ [(Q1 ((qa q a).1)),(qa q a).2.2.2.1]) else(bif (bif ((qa q a).1==(3:Y)) then((qa q a).1==(3:Y)) else((qa q a).1==(4:Y))) then(Ya ⟨#[32]⟩ [(Q1 ((qa q a).1)),(qa q a).2.2.2.1,(Yi ((qa q a).2.2.2.2.1,(qa q a).2.2.2.2.2.1,(qa q a).2.2.2.2.2.2))]) else(bif ((qa q a).1==(5:Y)) then(Ya ⟨#[32]⟩ [(Q1 ((qa q a).1)),(Y4 n_ q ((qa q a).2.1))]) else(bif ((qa q a).1==(6:Y)) then(Ya ⟨#[32]⟩ [(Q1 ((qa q a).1)),(Y4 n_ q ((qa q a).2.1)),(Y4 n_ q ((qa q a).2.2.1))]) else(bif ((qa q a).1==(7:Y)) then(Ya ⟨#[32]⟩ [(Q1 ((qa q a).1)),(Y4 n_ q ((qa q a).2.1)),(Y4 n_ q ((qa q a).2.2.1))]) else(Ya ⟨#[32]⟩ [(Q1 ((qa q a).1))])))))))
theorem Qyv:∀(n:H) {q:K Q0} (_:Qm q=O) {k:H} (_:k<q.length),(Y4 n q (k:Y)).size+8<=40*2^k
 | 0,q,hv,k,hk=>by
  have e:1<=2^k:=Nat.one_le_two_pow;show 0+8<=_;omega
 | n+1,q,hv,k,hk=>by
  have e:1<=2^k:=Nat.one_le_two_pow;have v:(⟨#[32]⟩:W).size=1:=rfl;have f:=IK hv (at_:=(k:Y)) (by omega) (by omega);have g:=Qnc (qa q (k:Y)).1;have h:=Qev ((qa q (k:Y)).2.2.2.2.1,(qa q (k:Y)).2.2.2.2.2.1,(qa q (k:Y)).2.2.2.2.2.2)
  have a:∀j:Y,0<=j/\j<(k:Y)->(Y4 n q j).size+8<=20*2^k:=λj i=>by
   obtain⟨m,rfl⟩:=Int.eq_ofNat_of_zero_le i.1;have l:=Qyv n hv (k:=m) (by omega);have b:2^(m+1)<=2^k:=Nat.pow_le_pow_right (by decide) (by omega);rw[Nat.pow_succ] at b;omega
  have o:=SX hv (k:=(k:Y)) (by omega) (by omega);have p:=DC hv (k:=(k:Y)) (by omega) (by omega);have r:=FA hv (k:=(k:Y)) (by omega) (by omega);have s:=SY hv (k:=(k:Y)) (by omega) (by omega);have t:=Qal hv (k:=(k:Y)) (by omega) (by omega);unfold Y4
  (try unfold qa at*);generalize nth q (k:Y).toNat=x at*
  simp only[Vb,Wv,Wg];cases l:(x.1==(2:Y)) with
  | true=>simp only[E,zE];omega
  | false=>
  cases w:(x.1==(8:Y)) with
  | true=>simp only[E,G,zE];omega
  | false=>
  cases y:(x.1==(9:Y)) with
  | true=>simp only[E,G,zE];omega
  | false=>
  cases b:(x.1==(3:Y)) with
  | true=>simp only[E,G,zE];omega
  | false=>
  cases z:(x.1==(4:Y)) with
  | true=>simp only[E,G,zE];omega
  | false=>
  cases u:(x.1==(5:Y)) with
  | true=>have:=a _ (o u);simp only[E,G,zE];omega
  | false=>
  cases c:(x.1==(6:Y)) with
  | true=>have:=a _ (p c);have:=a _ (s c);simp only[E,G,zE];omega
  | false=>
  cases d:(x.1==(7:Y)) with
  | true=>have:=a _ (r d);have:=a _ (t d);simp only[E,G,zE];omega
  | false=>simp only[G];omega
theorem Qew(n:H){q:K Q0}(a:Qm q=O){k:Y}(b:0<=k)(c:k<(q.length:Y)):(Y4 n q k).size<=10240:=by
 obtain⟨m,rfl⟩:=Int.eq_ofNat_of_zero_le b;have d:=Qyv n a (k:=m) (by omega);have e:=Nf a;have f:2^m<=2^8:=Nat.pow_le_pow_right (by decide) (by omega);omega
theorem IM:∀(e:H) (q:K Q0) (a:Y) (b:Qm q=O) (ha:0<=a) (hb:a<(q.length:Y)) (hn:a<((e:H):Y)),ACalls uS 177 [.h q,.i a] (.s (Y4 e q a)):=by
 intro e
 induction e with
 | zero=>intro q a b ha hb hn;exact(by omega:False).elim
 | succ e o=>
  intro q a b ha hb hn
  refine en func177 λ_ _ _=>?_
  have ak:=IK b ha hb;have al:=Nf b;have am:zD (⟨#[32]⟩:W)=1:=rfl;refine sn [0,1,4] [] p0<|wT 0 0 .sh q (λan ao=>?_)
  have z:=ng q a.toNat;refine tn [0,4,5] [5] (pg 2 a z p0) ?_;have ap:=Qnc ((qa q a).1);refine tu [(4,.s ⟨#[]⟩),(5,.p 5 0),(6,.o 896 [(Q1 ((qa q a).1))])] [1] [(5, [.i ((qa q a).1),.i ((qa q a).2.1),.i ((qa q a).2.2.1),.s ((qa q a).2.2.2.1),.i ((qa q a).2.2.2.2.1),.i ((qa q a).2.2.2.2.2.1),.s ((qa q a).2.2.2.2.2.2)])] [] (pc 2 (YJ ((qa q a).1)) p0)<|Qa<|sn [0,4,5,6,16] [5] p0<|Qn<|Qa<|tn [0,4,5,6,16,17] [5] p0<|ck ((qa q a).1==(2:Y)) (λj=>?_) (λj=>?_)
  ·have a1:=eq_of_beq j;refine Qd<|ckt j ?_
   refine wT 6 0 (.own O 896) [(Q1 ((qa q a).1))] (λaq ar=>?_);refine qu [(6,.o 1600 [(Q1 ((qa q a).1)),(qa q a).2.2.2.1])] [0,5,6] [] [5] (pa [(Q1 ((qa q a).1))] [(qa q a).2.2.2.1] p0) ?_;exact sn [4] [] (pc 1 (Av [(Q1 ((qa q a).1)),(qa q a).2.2.2.1] ⟨#[32]⟩ (by first | omega | exact zQ (Ad (m:=10) (n:=20) rfl (by assumption) (by omega)) (by decide) | (simp only[Vb,Wv,Wg,zE];omega))) p0)<|Qc<|ps [] (Qu j rfl)
  have a1:=Yt j;refine tu [(16,.i ((qa q a).1)),(17,.b ((qa q a).1==(8:Y)))] [] [] [] p0<|jn [(17,.b (bif ((qa q a).1==(8:Y)) then((qa q a).1==(8:Y)) else((qa q a).1==(9:Y))))] [17] [] [] ((qa q a).1==(8:Y)) (λk=>?_) (λk=>?_) ?_
  ·have a2:=eq_of_beq k;refine ckt k ?_;exact Qd<|⟨rfl,Qe (by rw[k]<;>kernel_rfl)⟩
  ·have a2:=Yt k;refine ckf k ?_;exact rn [0,4,5,6,16,17] [5] p0<|zA (by rw[k]<;>kernel_rfl)
  refine ck (bif ((qa q a).1==(8:Y)) then((qa q a).1==(8:Y)) else((qa q a).1==(9:Y))) (λl=>?_) (λl=>?_)
  ·refine wT 6 0 (.own O 896) [(Q1 ((qa q a).1))] (λa3 a4=>?_);refine rn [4,6] [] (pa [(Q1 ((qa q a).1))] [(qa q a).2.2.2.1] p0) ?_;exact tn [4] [] (pc 1 (Av [(Q1 ((qa q a).1)),(qa q a).2.2.2.1] ⟨#[32]⟩ (by first | omega | exact zQ (Ad (m:=10) (n:=20) rfl (by assumption) (by omega)) (by decide) | (simp only[Vb,Wv,Wg,zE];omega))) p0)<|Qc<|ps [] (Qh j (Qu l rfl))
  refine Qa<|sn [0,4,5,6,16,26] [5] p0<|mz [(26,.b ((qa q a).1==(3:Y)))] [17] [] []<|jn [(26,.b (bif ((qa q a).1==(3:Y)) then((qa q a).1==(3:Y)) else((qa q a).1==(4:Y))))] [26] [] [] ((qa q a).1==(3:Y)) (λg=>?_) (λg=>?_) ?_
  ·have p:=eq_of_beq g;refine ckt g ?_;exact Qd<|⟨rfl,Qe (by rw[g]<;>kernel_rfl)⟩
  ·have p:=Yt g;refine ckf g ?_;exact rn [0,4,5,6,16,26] [5] p0<|zA (by rw[g]<;>kernel_rfl)
  refine ck (bif ((qa q a).1==(3:Y)) then((qa q a).1==(3:Y)) else((qa q a).1==(4:Y))) (λi=>?_) (λi=>?_)
  ·have a5:=Qev ((qa q a).2.2.2.2.1,(qa q a).2.2.2.2.2.1,(qa q a).2.2.2.2.2.2);refine wT 6 0 (.own O 896) [(Q1 ((qa q a).1))] (λa6 a7=>?_);refine rN [4,6] [] (pc 5 (S0 ((qa q a).2.2.2.2.1,(qa q a).2.2.2.2.2.1,(qa q a).2.2.2.2.2.2)) (pa [(Q1 ((qa q a).1))] [(qa q a).2.2.2.1,(Yi ((qa q a).2.2.2.2.1,(qa q a).2.2.2.2.2.1,(qa q a).2.2.2.2.2.2))] p0)) ?_;exact tn [4] [] (pc 1 (Av [(Q1 ((qa q a).1)),(qa q a).2.2.2.1,(Yi ((qa q a).2.2.2.2.1,(qa q a).2.2.2.2.2.1,(qa q a).2.2.2.2.2.2))] ⟨#[32]⟩ (by first | omega | exact zQ (Ad (m:=10) (n:=20) rfl (by assumption) (by omega)) (by decide) | (simp only[Vb,Wv,Wg,zE];omega))) p0)<|Qc<|ps [] (Qh j (Qh l (Qu i rfl)))
  refine sn [0,4,5,6,16,37] [5] p0<|ck ((qa q a).1==(5:Y)) (λf=>?_) (λf=>?_)
  ·have r:=SX b ha hb f;have a8:=Qew e b r.1 (by omega);have s:=eq_of_beq f;refine wT 6 0 (.own O 896) [(Q1 ((qa q a).1))] (λa9 aa=>?_);refine qn [4,6] [] (pc 4 (o q ((qa q a).2.1) b (by have h:=SX b ha hb f;omega) (by have h:=SX b ha hb f;omega) (by have h:=SX b ha hb f;omega)) (pa [(Q1 ((qa q a).1))] [(Y4 e q ((qa q a).2.1))] p0)) ?_;exact tu [(4,.s (Ya ⟨#[32]⟩ [(Q1 ((qa q a).1)),(Y4 e q ((qa q a).2.1))]))] [0,4,5,6,16,26] [] [5] (pc 1 (Av [(Q1 ((qa q a).1)),(Y4 e q ((qa q a).2.1))] ⟨#[32]⟩ (by first | omega | exact zQ (Ad (m:=10) (n:=20) rfl (by assumption) (by omega)) (by decide) | (simp only[Vb,Wv,Wg,zE];omega))) p0)<|Qc<|ps [] (Qh j (Qh l (Qh i (Qu f rfl))))
  have s:=Yt f;refine Qa<|tn [0,4,5,6,16,46] [5] p0<|ck ((qa q a).1==(6:Y)) (λc=>?_) (λc=>?_)
  ·have t:=DC b ha hb c;have ab:=Qew e b t.1 (by omega);have u:=SY b ha hb c;have ad:=Qew e b u.1 (by omega);have v:=eq_of_beq c;refine Qd<|ckt c ?_
   refine wT 6 0 (.own O 896) [(Q1 ((qa q a).1))] (λae af=>?_);refine qU [(6,.o 3776 [(Q1 ((qa q a).1)),(Y4 e q ((qa q a).2.1)),(Y4 e q ((qa q a).2.2.1))])] [0,5,6,16,26] [] [5] (pc 4 (o q ((qa q a).2.1) b (by have h:=DC b ha hb c;omega) (by have h:=DC b ha hb c;omega) (by have h:=DC b ha hb c;omega)) (pc 8 (o q ((qa q a).2.2.1) b (by have h:=SY b ha hb c;omega) (by have h:=SY b ha hb c;omega) (by have h:=SY b ha hb c;omega)) (pa [(Q1 ((qa q a).1))] [(Y4 e q ((qa q a).2.1)),(Y4 e q ((qa q a).2.2.1))] p0))) ?_;exact sn [4] [] (pc 1 (Av [(Q1 ((qa q a).1)),(Y4 e q ((qa q a).2.1)),(Y4 e q ((qa q a).2.2.1))] ⟨#[32]⟩ (by first | omega | exact zQ (Ad (m:=10) (n:=20) rfl (by assumption) (by omega)) (by decide) | (simp only[Vb,Wv,Wg,zE];omega))) p0)<|Qc<|ps [] (Qh j (Qh l (Qh i (Qh f (Qu c rfl)))))
  have v:=Yt c;refine qu [(46,.b ((qa q a).1==(7:Y)))] [16,26] [] [] p0 ?_;refine ck ((qa q a).1==(7:Y)) (λd=>?_) (λd=>?_)
  ·have w:=FA b ha hb d;have ag:=Qew e b w.1 (by omega);have x:=Qal b ha hb d;have ah:=Qew e b x.1 (by omega);have y:=eq_of_beq d;refine wT 6 0 (.own O 896) [(Q1 ((qa q a).1))] (λai aj=>?_);refine rN [4,6] [] (pc 4 (o q ((qa q a).2.1) b (by have h:=FA b ha hb d;omega) (by have h:=FA b ha hb d;omega) (by have h:=FA b ha hb d;omega)) (pc 8 (o q ((qa q a).2.2.1) b (by have h:=Qal b ha hb d;omega) (by have h:=Qal b ha hb d;omega) (by have h:=Qal b ha hb d;omega)) (pa [(Q1 ((qa q a).1))] [(Y4 e q ((qa q a).2.1)),(Y4 e q ((qa q a).2.2.1))] p0))) ?_;exact tn [4] [] (pc 1 (Av [(Q1 ((qa q a).1)),(Y4 e q ((qa q a).2.1)),(Y4 e q ((qa q a).2.2.1))] ⟨#[32]⟩ (by first | omega | exact zQ (Ad (m:=10) (n:=20) rfl (by assumption) (by omega)) (by decide) | (simp only[Vb,Wv,Wg,zE];omega))) p0)<|Qc<|ps [] (Qh j (Qh l (Qh i (Qh f (Qh c (Qu d rfl))))))
  have y:=Yt d;exact Qd<|sn [4] [] (pc 1 (Av [(Q1 ((qa q a).1))] ⟨#[32]⟩ (by first | omega | exact zQ (Ad (m:=10) (n:=20) rfl (by assumption) (by omega)) (by decide) | (simp only[Vb,Wv,Wg,zE];omega))) p0)<|Qc<|ps [] (Qh j (Qh l (Qh i (Qh f (Qh c (Qh d rfl))))))
def Kz(n_:H)(q:K Q0)(a:Y):W:=match n_ with
 | 0=>default
 | n_+1=>(bif ((qa q a).1==(2:Y)) then(((Yw ((qa q a).1))++(⟨#[32]⟩:W))++((qa q a).2.2.2.1)) else(bif (bif ((qa q a).1==(8:Y)) then((qa q a).1==(8:Y)) else((qa q a).1==(9:Y))) then(((Yw ((qa q a).1))++(⟨#[32]⟩:W))++((qa q a).2.2.2.1)) else(bif (bif ((qa q a).1==(3:Y)) then((qa q a).1==(3:Y)) else((qa q a).1==(4:Y))) then(((((Yw ((qa q a).1))++(⟨#[32]⟩:W))++((qa q a).2.2.2.1))++(⟨#[32]⟩:W))++(Je ((qa q a).2.2.2.2.1,(qa q a).2.2.2.2.2.1,(qa q a).2.2.2.2.2.2))) else(bif ((qa q a).1==(5:Y)) then(((Yw ((qa q a).1))++(⟨#[32]⟩:W))++(Kz n_ q ((qa q a).2.1))) else(bif ((qa q a).1==(6:Y)) then(((((Yw ((qa q a).1))++(⟨#[32]⟩:W))++(Kz n_ q ((qa q a).2.1)))++(⟨#[32]⟩:W))++(Kz n_ q ((qa q a).2.2.1))) else(bif ((qa q a).1==(7:Y)) then(((((Yw ((qa q a).1))++(⟨#[32]⟩:W))++(Kz n_ q ((qa q a).2.1)))++(⟨#[32]⟩:W))++(Kz n_ q ((qa q a).2.2.1))) else(Yw ((qa q a).1))))))))
theorem Qnh:∀(n:H) (q:K Q0) (k:Y),Kz n q k=Y4 n q k
 | 0,_,_=>rfl
 | n+1,q,k=>by
  unfold Kz Y4;simp only[Vb,Wv,Wg,Qg2,Qw3,Qnh n]
theorem Qb4(n:H){q:K Q0}(a:Qm q=O){k:Y}(b:0<=k)(c:k<(q.length:Y)):(Kz n q k).size<=10240:=by rw[Qnh];exact Qew n a b c
theorem SC:∀(g:H) (q:K Q0) (a:Y) (c:Qm q=O) (ha:0<=a) (hb:a<(q.length:Y)) (z:a<((g:H):Y)),ACalls uS 146 [.h q,.i a] (.s (Kz g q a)):=by
 intro g
 induction g with
 | zero=>intro q a c ha hb z;exact(by omega:False).elim
 | succ g l=>
  intro q a c ha hb z
  refine en func146 λ_ _ _=>?_
  have a8:=IK c ha hb;have a9:=Nf c;have aa:zD (⟨#[32]⟩:W)=1:=rfl;refine sn [0,1,4] [] p0<|wT 0 0 .sh q (λab ad=>?_)
  have x:=ng q a.toNat;refine tn [0,4,5] [5] (pg 2 a x p0) ?_;have ae:=Qsq ((qa q a).1);refine tu [(4,.s ⟨#[]⟩),(5,.p 5 0),(6,.s (Yw ((qa q a).1)))] [1] [(5, [.i ((qa q a).1),.i ((qa q a).2.1),.i ((qa q a).2.2.1),.s ((qa q a).2.2.2.1),.i ((qa q a).2.2.2.2.1),.i ((qa q a).2.2.2.2.2.1),.s ((qa q a).2.2.2.2.2.2)])] [] (pc 2 (YK ((qa q a).1)) p0)<|Qa<|sn [0,4,5,6,15] [5] p0<|Qn<|Qa<|tn [0,4,5,6,15,16] [5] p0<|ck ((qa q a).1==(2:Y)) (λi=>?_) (λi=>?_)
  ·have y:=eq_of_beq i;refine Qd<|ckt i ?_
   exact tu [(4,.s (((Yw ((qa q a).1))++(⟨#[32]⟩:W))++((qa q a).2.2.2.1)))] [0,4,5] [] [5] (px (Jr (n:=(zD (Yw ((qa q a).1))+zD (⟨#[32]⟩:W))) (by have b:zD (⟨#[32]⟩:W)=1:=rfl;unfold uA;first|omega|(simp only[zE];omega))) (px (Jr (n:=(zD ((Yw ((qa q a).1))++(⟨#[32]⟩:W))+zD ((qa q a).2.2.2.1))) (by have b:zD (⟨#[32]⟩:W)=1:=rfl;unfold uA;first|omega|(simp only[zE];omega))) p0))<|Qc<|ps [] (Qu i rfl)
  have y:=Yt i;refine tu [(15,.i ((qa q a).1)),(16,.b ((qa q a).1==(8:Y)))] [] [] [] p0<|jn [(16,.b (bif ((qa q a).1==(8:Y)) then((qa q a).1==(8:Y)) else((qa q a).1==(9:Y))))] [16] [] [] ((qa q a).1==(8:Y)) (λm=>?_) (λm=>?_) ?_
  ·refine ckt m ?_;exact Qd<|⟨rfl,Qe (by rw[m]<;>kernel_rfl)⟩
  ·refine ckf m ?_;exact rn [0,4,5,6,15,16] [5] p0<|zA (by rw[m]<;>kernel_rfl)
  refine ck (bif ((qa q a).1==(8:Y)) then((qa q a).1==(8:Y)) else((qa q a).1==(9:Y))) (λj=>?_) (λj=>?_)
  ·exact sn [4,6] [] (px (Jr (n:=(zD (Yw ((qa q a).1))+zD (⟨#[32]⟩:W))) (by have b:zD (⟨#[32]⟩:W)=1:=rfl;unfold uA;first|omega|(simp only[zE];omega))) (px (Jr (n:=(zD ((Yw ((qa q a).1))++(⟨#[32]⟩:W))+zD ((qa q a).2.2.2.1))) (by have b:zD (⟨#[32]⟩:W)=1:=rfl;unfold uA;first|omega|(simp only[zE];omega))) p0))<|Qc<|ps [] (Qh i (Qu j rfl))
  refine Qa<|sn [0,4,5,6,15,25] [5] p0<|mz [(25,.b ((qa q a).1==(3:Y)))] [16] [] []<|jn [(25,.b (bif ((qa q a).1==(3:Y)) then((qa q a).1==(3:Y)) else((qa q a).1==(4:Y))))] [25] [] [] ((qa q a).1==(3:Y)) (λo=>?_) (λo=>?_) ?_
  ·refine ckt o ?_;exact Qd<|⟨rfl,Qe (by rw[o]<;>kernel_rfl)⟩
  ·refine ckf o ?_;exact rn [0,4,5,6,15,25] [5] p0<|zA (by rw[o]<;>kernel_rfl)
  refine ck (bif ((qa q a).1==(3:Y)) then((qa q a).1==(3:Y)) else((qa q a).1==(4:Y))) (λk=>?_) (λk=>?_)
  ·have a1:=Qsp ((qa q a).2.2.2.2.1,(qa q a).2.2.2.2.2.1,(qa q a).2.2.2.2.2.2);exact sN [4,6] [] (px (Jr (n:=(zD (Yw ((qa q a).1))+zD (⟨#[32]⟩:W))) (by have b:zD (⟨#[32]⟩:W)=1:=rfl;unfold uA;first|omega|(simp only[zE];omega))) (px (Jr (n:=(zD ((Yw ((qa q a).1))++(⟨#[32]⟩:W))+zD ((qa q a).2.2.2.1))) (by have b:zD (⟨#[32]⟩:W)=1:=rfl;unfold uA;first|omega|(simp only[zE];omega))) (px (Jr (n:=(zD (((Yw ((qa q a).1))++(⟨#[32]⟩:W))++((qa q a).2.2.2.1))+zD (⟨#[32]⟩:W))) (by have b:zD (⟨#[32]⟩:W)=1:=rfl;unfold uA;first|omega|(simp only[zE];omega))) (pc 8 (Ft ((qa q a).2.2.2.2.1,(qa q a).2.2.2.2.2.1,(qa q a).2.2.2.2.2.2)) (px (Jr (n:=(zD ((((Yw ((qa q a).1))++(⟨#[32]⟩:W))++((qa q a).2.2.2.1))++(⟨#[32]⟩:W))+zD (Je ((qa q a).2.2.2.2.1,(qa q a).2.2.2.2.2.1,(qa q a).2.2.2.2.2.2)))) (by have b:zD (⟨#[32]⟩:W)=1:=rfl;unfold uA;first|omega|(simp only[zE];omega))) p0)))))<|Qc<|ps [] (Qh i (Qh j (Qu k rfl)))
  refine sn [0,4,5,6,15,38] [5] p0<|ck ((qa q a).1==(5:Y)) (λf=>?_) (λf=>?_)
  ·have p:=SX c ha hb f;have a2:=Qb4 g c p.1 (by omega);have r:=eq_of_beq f;exact tn [4,6] [] (px (Jr (n:=(zD (Yw ((qa q a).1))+zD (⟨#[32]⟩:W))) (by have b:zD (⟨#[32]⟩:W)=1:=rfl;unfold uA;first|omega|(simp only[zE];omega))) (pc 5 (l q ((qa q a).2.1) c (by have h:=SX c ha hb f;omega) (by have h:=SX c ha hb f;omega) (by have h:=SX c ha hb f;omega)) (px (Jr (n:=(zD ((Yw ((qa q a).1))++(⟨#[32]⟩:W))+zD (Kz g q ((qa q a).2.1)))) (by have b:zD (⟨#[32]⟩:W)=1:=rfl;unfold uA;first|omega|(simp only[zE];omega))) p0)))<|Qc<|ps [] (Qh i (Qh j (Qh k (Qu f rfl))))
  have r:=Yt f;refine Qa<|tn [0,4,5,6,15,47] [5] p0<|ck ((qa q a).1==(6:Y)) (λd=>?_) (λd=>?_)
  ·have s:=DC c ha hb d;have a3:=Qb4 g c s.1 (by omega);have t:=SY c ha hb d;have a4:=Qb4 g c t.1 (by omega);have u:=eq_of_beq d;refine Qd<|ckt d ?_
   exact tU [(4,.s (((((Yw ((qa q a).1))++(⟨#[32]⟩:W))++(Kz g q ((qa q a).2.1)))++(⟨#[32]⟩:W))++(Kz g q ((qa q a).2.2.1))))] [0,4,5,15,25] [] [5] (px (Jr (n:=(zD (Yw ((qa q a).1))+zD (⟨#[32]⟩:W))) (by have b:zD (⟨#[32]⟩:W)=1:=rfl;unfold uA;first|omega|(simp only[zE];omega))) (pc 5 (l q ((qa q a).2.1) c (by have h:=DC c ha hb d;omega) (by have h:=DC c ha hb d;omega) (by have h:=DC c ha hb d;omega)) (px (Jr (n:=(zD ((Yw ((qa q a).1))++(⟨#[32]⟩:W))+zD (Kz g q ((qa q a).2.1)))) (by have b:zD (⟨#[32]⟩:W)=1:=rfl;unfold uA;first|omega|(simp only[zE];omega))) (px (Jr (n:=(zD (((Yw ((qa q a).1))++(⟨#[32]⟩:W))++(Kz g q ((qa q a).2.1)))+zD (⟨#[32]⟩:W))) (by have b:zD (⟨#[32]⟩:W)=1:=rfl;unfold uA;first|omega|(simp only[zE];omega))) (pc 11 (l q ((qa q a).2.2.1) c (by have h:=SY c ha hb d;omega) (by have h:=SY c ha hb d;omega) (by have h:=SY c ha hb d;omega)) (px (Jr (n:=(zD ((((Yw ((qa q a).1))++(⟨#[32]⟩:W))++(Kz g q ((qa q a).2.1)))++(⟨#[32]⟩:W))+zD (Kz g q ((qa q a).2.2.1)))) (by have b:zD (⟨#[32]⟩:W)=1:=rfl;unfold uA;first|omega|(simp only[zE];omega))) p0))))))<|Qc<|ps [] (Qh i (Qh j (Qh k (Qh f (Qu d rfl)))))
  have u:=Yt d;refine qu [(47,.b ((qa q a).1==(7:Y)))] [15,25] [] [] p0 ?_;refine ck ((qa q a).1==(7:Y)) (λe=>?_) (λe=>?_)
  ·have v:=FA c ha hb e;have a5:=Qb4 g c v.1 (by omega);have w:=Qal c ha hb e;have a6:=Qb4 g c w.1 (by omega);have a7:=eq_of_beq e;exact sN [4,6] [] (px (Jr (n:=(zD (Yw ((qa q a).1))+zD (⟨#[32]⟩:W))) (by have b:zD (⟨#[32]⟩:W)=1:=rfl;unfold uA;first|omega|(simp only[zE];omega))) (pc 5 (l q ((qa q a).2.1) c (by have h:=FA c ha hb e;omega) (by have h:=FA c ha hb e;omega) (by have h:=FA c ha hb e;omega)) (px (Jr (n:=(zD ((Yw ((qa q a).1))++(⟨#[32]⟩:W))+zD (Kz g q ((qa q a).2.1)))) (by have b:zD (⟨#[32]⟩:W)=1:=rfl;unfold uA;first|omega|(simp only[zE];omega))) (px (Jr (n:=(zD (((Yw ((qa q a).1))++(⟨#[32]⟩:W))++(Kz g q ((qa q a).2.1)))+zD (⟨#[32]⟩:W))) (by have b:zD (⟨#[32]⟩:W)=1:=rfl;unfold uA;first|omega|(simp only[zE];omega))) (pc 11 (l q ((qa q a).2.2.1) c (by have h:=Qal c ha hb e;omega) (by have h:=Qal c ha hb e;omega) (by have h:=Qal c ha hb e;omega)) (px (Jr (n:=(zD ((((Yw ((qa q a).1))++(⟨#[32]⟩:W))++(Kz g q ((qa q a).2.1)))++(⟨#[32]⟩:W))+zD (Kz g q ((qa q a).2.2.1)))) (by have b:zD (⟨#[32]⟩:W)=1:=rfl;unfold uA;first|omega|(simp only[zE];omega))) p0))))))<|Qc<|ps [] (Qh i (Qh j (Qh k (Qh f (Qh d (Qu e rfl))))))
  exact Qd<|sn [4] [] p0<|Qc<|ps [] (Qh i (Qh j (Qh k (Qh f (Qh d (Qh e rfl))))))
def Xr(q:K Q0):W:=(bif (!(Qm q)) then⟨#[]⟩ else(Y4 (zF q) q ((q.length:Y)-1)))
theorem AS(q:K Q0):ACalls uS 109 [.h q] (.s (Xr q)):=by
 refine en func109 λ_ _ _=>sn [0,2] [] p0 ?_
 refine Qa<|tn [0,2,5] [] (pc 1 (Uu q) p0)<|ck (!(Qm q)) (λb=>?_) (λb=>?_)
 ·exact tu [(2,.s ⟨#[]⟩)] [] [] [] p0<|Qc<|ps [] (Qu b rfl)
 have a:(Qm q)=O:=Yu b;refine Qd<|wT 0 0 .sh q (λc d=>?_)
 exact tu [(2,.s (Y4 (zF q) q ((q.length:Y)-1)))] [0] [] [] (pl 2 q (pe 3 (Nn (IntWalk.i64_in ((q.length:Y)-1) (by omega))) (pc 4 (IM (zF q) q ((q.length:Y)-1) a (by have:=Nf a;omega) (by omega) (by omega)) p0)))<|Qc<|ps [] (Qh b rfl)
def Zy(q:K Q0):W:=(bif (!(Zp q)) then⟨#[]⟩ else(Kz (zF q) q ((q.length:Y)-1)))
theorem S4(q:K Q0):ACalls uS 87 [.h q] (.s (Zy q)):=by
 refine en func87 λ_ _ _=>sn [0,2] [] p0 ?_
 refine Qa<|tn [0,2,5] [] (pc 1 (Uw q) p0)<|ck (!(Zp q)) (λb=>?_) (λb=>?_)
 ·exact tu [(2,.s ⟨#[]⟩)] [] [] [] p0<|Qc<|ps [] (Qu b rfl)
 have a:(Zp q)=O:=Yu b;refine Qd<|wT 0 0 .sh q (λc d=>?_)
 exact tu [(2,.s (Kz (zF q) q ((q.length:Y)-1)))] [0] [] [] (pl 2 q (pe 3 (Nn (IntWalk.i64_in ((q.length:Y)-1) (by omega))) (pc 4 (SC (zF q) q ((q.length:Y)-1) (Tk a) (by have:=Nf (Tk a);omega) (by omega) (by omega)) p0)))<|Qc<|ps [] (Qh b rfl)
theorem Qu2(q:K Q0):(Xr q).size<=10240:=by
 unfold Xr;cases a:Qm q with
 | false=>exact zW _
 | true=>
   have:=Nf a;exact Qew _ a (by omega) (by omega)
theorem Qu3(q:K Q0):Zy q=Xr q:=by
 unfold Zy Xr;rw[←Qlk,Qnh]
theorem Qsr(q:K Q0):(Zy q).size<=10240:=by rw[Qu3];exact Qu2 q
theorem Qni{x:Qw}(h:Qs x=O):Qo x.2=O:=by
 unfold Qs Jq at h;simp only[zN] at h;have a:=h.2;unfold Qr at a;cases b:Qo x.2 with
 | true=>rfl
 | false=>rw[b] at a;cases a
theorem P1{x:Qw}(h:Qs x=O):x.1.1.length<=5/\x.1.2.1.length<=12/\x.2.length<=5:=by
 have a:=Sd h;exact⟨a.1,a.2.1,Hl (Qni h)⟩
theorem DQ{x:Qw}(h:Qs x=O){d:Yj}(hd:d∈x.2):d.1.size<=6/\Xp d.1=O/\Qm d.2=O:=by
 have b:=Qni h;unfold Qo at b;obtain⟨_,g⟩:=WY (λ_ _ _=>rfl) b;obtain⟨i,j⟩:=yD hd;have c:=bo (g i d j);have e:=bn c.1
 have k:Qm d.2=O:=by
  have a:=c.2;cases f:decide (((i:H):Y)>(0:Y)) with
  | true=>rw[f] at a;exact bn (bo a).2
  | false=>rw[f] at a;exact bn a
 exact⟨(Rr e).2,e,k⟩
theorem Qnj{α β:Type}{R:Type}{f:H->α->K β->Rd R (K β) (K β)}{e:H->K β->K β}{g:α->K β}(b:∀k a s,f k a s= .next (s++g a))(c:∀k s,e k s=s):∀(l:K α) (k:H) (s:K β),X5 f e l k s= .brk (s++l.flatMap g)
 | [],k,s=>by simp[X5,c]
 | a::l,k,s=>by
   simp only[X5,b];rw[Qnj b c l,List.flatMap_cons,zJ]
def Gi(f:Xt):K W:= [(⟨#[102,105,108,101]⟩:W),(Q6 f.1),(Q6 f.2.1),(bif f.2.2.1 then⟨#[115]⟩ else⟨#[111]⟩),(Q6 f.2.2.2.1)]++f.2.2.2.2.flatMap λa=> [a.1,Yi a.2]
theorem DR(f:Xt):J5 f=Ya ⟨#[32]⟩ (Gi f):=by
 unfold J5;rw[Qnj (f:=Mo) (e:=Mp) (g:=λa=> [a.1,Yi a.2]) (λ_ _ _=>rfl) (λ_ _=>rfl)];rfl
theorem Qg4:∀(l:K Hk) (k:H) (p:K W),p≠ []->X5 Fu Fv l k (Ya ⟨#[32]⟩ p)= .brk (Ya ⟨#[32]⟩ (p++l.flatMap λa=> [a.1,Yi a.2]))
 | [],k,p,_=>by simp[X5,Fv]
 | a ::l,k,p,hp=>by
   simp only[X5,Fu]
   rw[show(((Ya ⟨#[32]⟩ p++(⟨#[32]⟩:W))++a.1)++(⟨#[32]⟩:W))++(Je a.2)=Ya ⟨#[32]⟩ (p++ [a.1,Yi a.2]) by
    rw[Mn _ hp (λe=>by cases e),Wv,Qw3];simp only[ByteArray.append_assoc]]
   rw[Qg4 l (k+1) _ (by simp),List.flatMap_cons,zJ]
theorem Qq8(f:Xt):Ue f=Ya ⟨#[32]⟩ (Gi f):=by
 have a:((bif f.2.2.1 then(((((⟨#[102,105,108,101,32]⟩:W)++(Q6 f.1))++(⟨#[32]⟩:W))++(Q6 f.2.1))++(⟨#[32,115,32]⟩:W)) else(((((⟨#[102,105,108,101,32]⟩:W)++(Q6 f.1))++(⟨#[32]⟩:W))++(Q6 f.2.1))++(⟨#[32,111,32]⟩:W)))++(Q6 f.2.2.2.1))=Ya ⟨#[32]⟩ [(⟨#[102,105,108,101]⟩:W),(Q6 f.1),(Q6 f.2.1),(bif f.2.2.1 then⟨#[115]⟩ else⟨#[111]⟩),(Q6 f.2.2.2.1)]:=by
  rw[Hi,Hi,Wg];rw[show(⟨#[102,105,108,101,32]⟩:W)=(⟨#[102,105,108,101]⟩:W)++(⟨#[32]⟩:W) from rfl,show(⟨#[32,115,32]⟩:W)=(⟨#[32]⟩:W)++(⟨#[115]⟩:W)++(⟨#[32]⟩:W) from rfl,show(⟨#[32,111,32]⟩:W)=(⟨#[32]⟩:W)++(⟨#[111]⟩:W)++(⟨#[32]⟩:W) from rfl];cases f.2.2.1<;>simp only[E,G,ByteArray.append_assoc]
 unfold Ue;rw[a,Qg4 _ _ _ (λe=>by cases e)];rfl
theorem Qq9(f:Xt):Ue f=J5 f:=by rw[Qq8,DR]
theorem Qb5{f:Xt}(h:FBd f):(Gi f).length<=15/\∀y,y∈Gi f->y.size<=10:=by
 have d:=h.2.2.2.1
 have b:∀l:K Hk,(l.flatMap λa=> [a.1,Yi a.2]).length=2*l.length:=λl=>by
  induction l with
  | nil=>rfl
  | cons a l c=>rw[List.flatMap_cons,zH,c];simp only[List.length_cons,List.length_nil];omega
 refine⟨by unfold Gi;rw[zH,b];simp only[List.length_cons,List.length_nil];omega,λy hy=>?_⟩;rcases yA.1 hy with hy | hy
 . exact Qg3 h y hy
 obtain⟨a,ha,hy⟩:=List.mem_flatMap.1 hy;simp only[zU,List.mem_nil_iff,uN] at hy;rcases hy with rfl | rfl
 . exact Qne h ha
 exact Qev _
theorem Qu4{f:Xt}(h:FBd f):(J5 f).size<=200:=by
 rw[DR];have a:=Qb5 h;exact zQ (Ad (m:=10) (n:=15) rfl a.2 a.1) (by decide)
def Eu(_:H)(a:Zt)(b:Z):Rd Z Z Z:=(.next (b++ [(Jd a)]))
def Ev(_:H)(a:Z):Z:=a
def Ew(_:H)(a:Xt)(b:Z):Rd Z Z Z:=(.next (b++ [(J5 a)]))
def Ex(_:H)(a:Z):Z:=a
def Ey(_:H)(a:Yj)(b:Z):Rd Z Z Z:=(.next (b++ [((((⟨#[100,105,114,32]⟩:W)++a.1)++(⟨#[32]⟩:W))++(Xr a.2))]))
def Ez(_:H)(a:Z):Z:=a
def Xb(x:Qw):Z:=(bif (!(Qs x)) then [] else(Out.on (X5 Eu Ev x.1.1 0 []) (λa=>(Out.on (X5 Ew Ex x.1.2.1 0 (a++ [((⟨#[110,101,120,116,32]⟩:W)++(Q6 x.1.2.2))])) (λb=>(Out.on (X5 Ey Ez x.2 0 b) (λc=>c)))))))
theorem Cs(x:Qw):ACalls uS 60 [.a [.h x.1.1,.h x.1.2.1,.i x.1.2.2,.h x.2]] (.o 0 (Xb x)):=by
 refine en func60 λ_ _ _=>sn [1,2] [1] p0 ?_
 refine Qa<|tn [1,2,12] [1] (pc 1 (H5 x) p0)<|ck (!(Qs x)) (λh1=>?_) (λh1=>?_)
 ·have m:(Qs x)=I:=Kj h1;refine tu [(1,.p 1 0),(2,.e 0)] [0] [(1, [.h x.1.1,.h x.1.2.1,.i x.1.2.2,.h x.2])] [] p0<|opn [(I,2,0,O,109,1)] ?_
  exact Qc<|po0 [] (Qu h1 rfl)
 have m:(Qs x)=O:=Yu h1;have aa:=(Sd m).2.2.1;have ab:=P1 m;refine Qd<|tu [(1,.p 1 0),(2,.e 0),(3,.one (.slc (.own O 832) 1 []))] [0] [(1, [.h x.1.1,.h x.1.2.1,.i x.1.2.2,.h x.2])] [] p0<|Qa<|sn [1,2,3,16,17,18] [1] (pl 3 x.1.1 p0)<|mz [(16,.h x.1.1),(17,.i (x.1.1.length:Y)),(18,.i 0)] [] [] []<|wT 16 0 .sh x.1.1 (λal am=>?_)
 refine SW Eu Ev x.1.1 [] (λh e=> [(3,.o 106 e),(18,.i (h:Y))]) [3,18] (λj=> [(3,.o 108 j)]) [3,16,17,18] (λh e=>zF e<=h/\zF e<=h) (λj=>zF j<=5) (wsf [(832,106)]) ⟨(by simp),(by simp)⟩ (λh e o U=>?_) (λh e o U=>?_) (λj a3=>?_)
 ·have p:=U.2.1;have q:=U.2.2;obtain⟨a0,V⟩:=Xn (l:=x.1.1) (i:=h) o;refine su [(19,.b O)] [] [] [] (pe 0 (zB ((h:Y)<(x.1.1.length:Y))) p0)<|Qa<|ckT<|Qd<|Qa<|Qn<|sn [1,2,3,5,16,17,18] [1,5] (pn 0 V p0)<|wT 3 0 (.own O 106) e (λan ao=>?_)
  refine qu [(3,.one (.slc (.own O 1664) 1 (eA e (Jd a0))))] [3,19] [] [] (pc 2 (AH a0) (pa e [(Jd a0)] p0)) ?_;refine eqn [(3,.o 1664 (e++ [(Jd a0)]))] [3] [] [] (by rw[Wu]<;>kernel_rfl) ?_;refine rn [1,2,3,16,17,18] [1] (pw 0 h p0) ?_;exact zM (e++ [(Jd a0)]) (zR (wsf [(1664,106)]) ⟨Qp V rfl U.1,by first|omega|(simp;omega) | simp,(by(simp;omega))⟩)
 ·have p:=U.2.1;have q:=U.2.2;exact su [(19,.b I)] [] [] [] (pe 0 (zC ((h:Y)<(x.1.1.length:Y))) p0)<|Qa<|ckF<|Qv<|zM e (zR (wsf [(106,108)]) ⟨Xo o rfl U.1,by first|omega|(simp only[yC];omega)⟩)
 have a5:=a3.2;have ap:=Vd (n:=x.1.2.2) (by omega);refine wT 3 0 (.own O 108) j (λaq ar=>?_);refine su [(3,.one (.slc (.own O 2240) 1 (eA j ((⟨#[110,101,120,116,32]⟩:W)++(Q6 x.1.2.2)))))] [3] [] [] (pc 4 (Bn x.1.2.2 (by omega)) (px (Jr (n:=(zD (⟨#[110,101,120,116,32]⟩:W)+zD (Q6 x.1.2.2))) (by have r:zD (⟨#[110,101,120,116,32]⟩:W)=5:=rfl;unfold uA;first|omega|(simp only[zE];omega))) (pa j [((⟨#[110,101,120,116,32]⟩:W)++(Q6 x.1.2.2))] p0))) ?_;refine eqn [(3,.o 2240 (j++ [((⟨#[110,101,120,116,32]⟩:W)++(Q6 x.1.2.2))]))] [3] [] [] (by rw[Wu]<;>kernel_rfl) ?_;refine Qa<|sn [1,2,3,38,39,40] [1] (pl 3 x.1.2.1 p0)<|mz [(38,.h x.1.2.1),(39,.i (x.1.2.1.length:Y)),(40,.i 0)] [] [] []<|wT 38 0 .sh x.1.2.1 (λau ad=>?_)
 refine SW Ew Ex x.1.2.1 (j++ [((⟨#[110,101,120,116,32]⟩:W)++(Q6 x.1.2.2))]) (λk1 d=> [(3,.o 106 d),(40,.i (k1:Y))]) [3,40] (λy1=> [(3,.o 108 y1)]) [3,38,39,40] (λk1 d=>zF d<=(j++ [((⟨#[110,101,120,116,32]⟩:W)++(Q6 x.1.2.2))]).length+k1/\zF d<=6+k1) (λy1=>zF y1<=18) (wsf [(2240,106)]) ⟨(by simp),(by(simp;omega))⟩ (λk1 d s a=>?_) (λk1 d s a=>?_) (λy1 a4=>?_)
 ·have g:=a.2.1;have t:=a.2.2;obtain⟨a1,u⟩:=Xn (l:=x.1.2.1) (i:=k1) s;have av:=(Sd ‹Qs x=O›).2.2.2 _ (zS u);have a6:=g;simp only[zH,List.length_cons,List.length_nil] at a6;refine su [(41,.b O)] [] [] [] (pe 0 (zB ((k1:Y)<(x.1.2.1.length:Y))) p0)<|Qa<|ckT<|Qd<|Qa<|Qn<|sn [1,2,3,7,38,39,40] [1,7] (pn 0 u p0)<|wT 3 0 (.own O 106) d (λae af=>?_)
  refine qu [(3,.one (.slc (.own O 3072) 1 (eA d (J5 a1))))] [3,41] [] [] (pc 2 (CM a1 (by assumption)) (pa d [(J5 a1)] p0)) ?_;refine eqn [(3,.o 3072 (d++ [(J5 a1)]))] [3] [] [] (by rw[Wu d]<;>kernel_rfl) ?_;refine rn [1,2,3,38,39,40] [1] (pw 0 k1 p0) ?_;exact zM (d++ [(J5 a1)]) (zR (wsf [(3072,106)]) ⟨Qp u rfl a.1,by first|omega|(simp;omega) | simp,(by(simp;omega))⟩)
 ·have g:=a.2.1;have t:=a.2.2;exact su [(41,.b I)] [] [] [] (pe 0 (zC ((k1:Y)<(x.1.2.1.length:Y))) p0)<|Qa<|ckF<|Qv<|zM d (zR (wsf [(106,108)]) ⟨Xo s rfl a.1,by first|omega|(simp only[yC];omega)⟩)
 have a7:=a4.2;refine Qa<|sn [2,3,51,52,53] [] (pl 2 x.2 p0)<|mz [(51,.h x.2),(52,.i (x.2.length:Y)),(53,.i 0)] [1] [] [1]<|wT 51 0 .sh x.2 (λag ah=>?_)
 refine HN Ey Ez x.2 y1 (λk f=> [(3,.o 104 f),(53,.i (k:Y))]) [3,53] (λy2=> [(3,.o 107 y2)]) [3,51,52,53] (λk f=>zF f<=y1.length+k/\zF f<=18+k) (wsf [(108,104)]) ⟨(by simp),(by(simp;omega))⟩ (λk f v b=>?_) (λk f v b=>?_) (λy2 a8=>?_)
 ·have w:=b.2.1;have y:=b.2.2;obtain⟨c,z⟩:=Xn (l:=x.2) (i:=k) v;have aw:=(DQ ‹Qs x=O› (zS z)).1;refine su [(54,.b O)] [] [] [] (pe 0 (zB ((k:Y)<(x.2.length:Y))) p0)<|Qa<|ckT<|Qd<|Qa<|Qn<|sn [2,3,9,51,52,53] [9] (pn 0 z p0) ?_
  have ai:=Qu2 c.2;refine wT 3 0 (.own O 104) f (λaj ak=>?_);refine qU [(3,.one (.slc (.own O 4288) 1 (eA f ((((⟨#[100,105,114,32]⟩:W)++c.1)++(⟨#[32]⟩:W))++(Xr c.2)))))] [3,54] [] [] (px (Jr (n:=(zD (⟨#[100,105,114,32]⟩:W)+zD c.1)) (by have r:zD (⟨#[100,105,114,32]⟩:W)=4:=rfl;unfold uA;first|omega|(simp only[zE];omega))) (px (Jr (n:=(zD ((⟨#[100,105,114,32]⟩:W)++c.1)+zD (⟨#[32]⟩:W))) (by have r:zD (⟨#[100,105,114,32]⟩:W)=4:=rfl;have a9:zD (⟨#[32]⟩:W)=1:=rfl;unfold uA;first|omega|(simp only[zE];omega))) (pc 7 (AS c.2) (px (Jr (n:=(zD (((⟨#[100,105,114,32]⟩:W)++c.1)++(⟨#[32]⟩:W))+zD (Xr c.2))) (by have r:zD (⟨#[100,105,114,32]⟩:W)=4:=rfl;have a9:zD (⟨#[32]⟩:W)=1:=rfl;unfold uA;first|omega|(simp only[zE];omega))) (pa f [((((⟨#[100,105,114,32]⟩:W)++c.1)++(⟨#[32]⟩:W))++(Xr c.2))] p0))))) ?_;refine eqn [(3,.o 4288 (f++ [((((⟨#[100,105,114,32]⟩:W)++c.1)++(⟨#[32]⟩:W))++(Xr c.2))]))] [3] [] [] (by rw[Wu f]<;>kernel_rfl) ?_;refine rn [2,3,51,52,53] [] (pw 0 k p0) ?_;exact zM (f++ [((((⟨#[100,105,114,32]⟩:W)++c.1)++(⟨#[32]⟩:W))++(Xr c.2))]) (zR (wsf [(4288,104)]) ⟨Qp z rfl b.1,by first|omega|(simp;omega) | simp,(by(simp;omega))⟩)
 ·have w:=b.2.1;have y:=b.2.2;exact su [(54,.b I)] [] [] [] (pe 0 (zC ((k:Y)<(x.2.length:Y))) p0)<|Qa<|ckF<|Qv<|zM _ (zR (wsf [(104,107)]) (Xo v rfl b.1))
 exact sn [2] [] p0<|Qc<|po0 [] (Qh h1 (Vz a3.1 (Vz a4.1 (Vz a8 rfl))))
def E3(_:H)(a:Zt)(b:Z):Rd Z Z Z:=(.next (b++ [(Ud a)]))
def E4(_:H)(a:Z):Z:=a
def E5(_:H)(a:Xt)(b:Z):Rd Z Z Z:=(.next (b++ [(Ue a)]))
def E6(_:H)(a:Z):Z:=a
def E7(_:H)(a:Yj)(b:Z):Rd Z Z Z:=(.next (b++ [((((⟨#[100,105,114,32]⟩:W)++a.1)++(⟨#[32]⟩:W))++(Zy a.2))]))
def E8(_:H)(a:Z):Z:=a
def Yp(x:Qw):Z:=(bif (!(X4 x)) then [] else(Out.on (X5 E3 E4 x.1.1 0 []) (λa=>(Out.on (X5 E5 E6 x.1.2.1 0 (a++ [((⟨#[110,101,120,116,32]⟩:W)++(Q6 x.1.2.2))])) (λb=>(Out.on (X5 E7 E8 x.2 0 b) (λc=>c)))))))
theorem Ct(x:Qw):ACalls uS 47 [.a [.h x.1.1,.h x.1.2.1,.i x.1.2.2,.h x.2]] (.o 0 (Yp x)):=by
 refine en func47 λ_ _ _=>sn [1,2] [1] p0 ?_
 refine tn [1,2,3] [1] p0<|Qa<|tu [(1,.p 1 0),(2,.e 0),(3,.one (.slc (.own O 448) 1 [])),(10,.b (!(X4 x)))] [0] [(1, [.h x.1.1,.h x.1.2.1,.i x.1.2.2,.h x.2])] [] (pc 1 (H6 x) p0)<|ck (!(X4 x)) (λh1=>?_) (λh1=>?_)
 ·have o:(X4 x)=I:=Kj h1;exact sn [1,2,3] [1] p0<|Qc<|po0 [] (Qu h1 rfl)
 have o:(X4 x)=O:=Yu h1;have aa:=(RZ o).2.2.1;have ab:=P1 ((Ot x).symm.trans o);refine Qd<|Qa<|sn [1,2,3,4] [1] p0<|mz [(4,.i 0)] [10] [] []<|wB 1 0 .sh x.1.1 (λal am=>?_)
 refine SW E3 E4 x.1.1 [] (λh e=> [(3,.o 104 e),(4,.i (h:Y))]) [3,4] (λj=> [(3,.o 106 j)]) [3,4] (λh e=>zF e<=h/\zF e<=h) (λj=>zF j<=5) (wsf [(448,104)]) ⟨(by simp),(by simp)⟩ (λh e p U=>?_) (λh e p U=>?_) (λj a3=>?_)
 ·have q:=U.2.1;have r:=U.2.2;obtain⟨a0,V⟩:=Xn (l:=x.1.1) (i:=h) p;refine Qa<|sn [1,2,3,4,17] [1] (pl 4 x.1.1 (pe 5 (zB ((h:Y)<(x.1.1.length:Y))) p0))<|ckT<|Qd<|Qa<|Qn<|wT 3 0 (.own O 104) e (λan ao=>?_)
  refine qu [(3,.one (.slc (.own O 1856) 1 (eA e (Ud a0))))] [3] [] [] (pn 5 V (pc 7 (AI a0) (pa e [(Ud a0)] p0))) ?_;refine eqn [(3,.o 1856 (e++ [(Ud a0)]))] [3] [] [] (by rw[Wu]<;>kernel_rfl) ?_;refine rn [1,2,3,4] [1] (pw 1 h p0) ?_;exact zM (e++ [(Ud a0)]) (zR (wsf [(1856,104)]) ⟨Qp V rfl U.1,by first|omega|(simp;omega) | simp,(by(simp;omega))⟩)
 ·have q:=U.2.1;have r:=U.2.2;exact Qa<|sn [1,2,3,4,17] [1] (pl 4 x.1.1 (pe 5 (zC ((h:Y)<(x.1.1.length:Y))) p0))<|ckF<|Qv<|zM e (zR (wsf [(104,106)]) ⟨Xo p rfl U.1,by first|omega|(simp only[yC];omega)⟩)
 have a5:=a3.2;have ap:=Vd (n:=x.1.2.2) (by omega);refine wT 3 0 (.own O 106) j (λaq ar=>?_);refine su [(3,.one (.slc (.own O 2368) 1 (eA j ((⟨#[110,101,120,116,32]⟩:W)++(Q6 x.1.2.2)))))] [3] [] [] (pc 4 (H1 x.1.2.2 (by omega)) (px (Jr (n:=(zD (⟨#[110,101,120,116,32]⟩:W)+zD (Q6 x.1.2.2))) (by have s:zD (⟨#[110,101,120,116,32]⟩:W)=5:=rfl;unfold uA;first|omega|(simp only[zE];omega))) (pa j [((⟨#[110,101,120,116,32]⟩:W)++(Q6 x.1.2.2))] p0))) ?_;refine eqn [(3,.o 2368 (j++ [((⟨#[110,101,120,116,32]⟩:W)++(Q6 x.1.2.2))]))] [3] [] [] (by rw[Wu]<;>kernel_rfl) ?_;refine Qa<|sn [1,2,3,5] [1] p0<|mz [(5,.i 0)] [] [] []<|wB 1 1 .sh x.1.2.1 (λau ad=>?_)
 refine SW E5 E6 x.1.2.1 (j++ [((⟨#[110,101,120,116,32]⟩:W)++(Q6 x.1.2.2))]) (λk1 d=> [(3,.o 104 d),(5,.i (k1:Y))]) [3,5] (λy1=> [(3,.o 106 y1)]) [3,5] (λk1 d=>zF d<=(j++ [((⟨#[110,101,120,116,32]⟩:W)++(Q6 x.1.2.2))]).length+k1/\zF d<=6+k1) (λy1=>zF y1<=18) (wsf [(2368,104)]) ⟨(by simp),(by(simp;omega))⟩ (λk1 d t a=>?_) (λk1 d t a=>?_) (λy1 a4=>?_)
 ·have g:=a.2.1;have u:=a.2.2;obtain⟨a1,v⟩:=Xn (l:=x.1.2.1) (i:=k1) t;have av:=(Sd ((Ot x).symm.trans ‹X4 x=O›)).2.2.2 _ (zS v);have a6:=g;simp only[zH,List.length_cons,List.length_nil] at a6;refine Qa<|sn [1,2,3,5,43] [1] (pl 4 x.1.2.1 (pe 5 (zB ((k1:Y)<(x.1.2.1.length:Y))) p0))<|ckT<|Qd<|Qa<|Qn<|wT 3 0 (.own O 104) d (λae af=>?_)
  refine qu [(3,.one (.slc (.own O 3520) 1 (eA d (Ue a1))))] [3] [] [] (pn 5 v (pc 7 (CN a1 (by assumption)) (pa d [(Ue a1)] p0))) ?_;refine eqn [(3,.o 3520 (d++ [(Ue a1)]))] [3] [] [] (by rw[Wu d]<;>kernel_rfl) ?_;refine rn [1,2,3,5] [1] (pw 1 k1 p0) ?_;exact zM (d++ [(Ue a1)]) (zR (wsf [(3520,104)]) ⟨Qp v rfl a.1,by first|omega|(simp;omega) | simp,(by(simp;omega))⟩)
 ·have g:=a.2.1;have u:=a.2.2;exact Qa<|sn [1,2,3,5,43] [1] (pl 4 x.1.2.1 (pe 5 (zC ((k1:Y)<(x.1.2.1.length:Y))) p0))<|ckF<|Qv<|zM d (zR (wsf [(104,106)]) ⟨Xo t rfl a.1,by first|omega|(simp only[yC];omega)⟩)
 have a7:=a4.2;refine Qa<|sn [1,2,3,6] [1] p0<|mz [(6,.i 0)] [] [] []<|wB 1 3 .sh x.2 (λag ah=>?_)
 refine LC E7 E8 x.2 y1 (λk f=> [(3,.o 104 f),(6,.i (k:Y))]) [3,6] (λ_ _=> []) [] (λy2=> [(3,.o 106 y2)]) [1,3,6] (λ_=> []) [1] (λk f=>zF f<=y1.length+k/\zF f<=18+k) (wsf [(106,104)]) ⟨(by simp),(by(simp;omega))⟩ (λk f w b=>?_) (λk f w b=>?_) (λy2 a8=>?_)
 ·have y:=b.2.1;have z:=b.2.2;obtain⟨c,m⟩:=Xn (l:=x.2) (i:=k) w;have aw:=(DQ ((Ot x).symm.trans ‹X4 x=O›) (zS m)).1;refine Qa<|sn [1,2,3,6,60] [1] (pl 3 x.2 (pe 4 (zB ((k:Y)<(x.2.length:Y))) p0))<|ckT<|Qd<|Qa<|Qn ?_
  have ai:=Qsr c.2;refine wT 3 0 (.own O 104) f (λaj ak=>?_);refine qU [(3,.one (.slc (.own O 5184) 1 (eA f ((((⟨#[100,105,114,32]⟩:W)++c.1)++(⟨#[32]⟩:W))++(Zy c.2)))))] [3] [] [] (pn 4 m (px (Jr (n:=(zD (⟨#[100,105,114,32]⟩:W)+zD c.1)) (by have s:zD (⟨#[100,105,114,32]⟩:W)=4:=rfl;unfold uA;first|omega|(simp only[zE];omega))) (px (Jr (n:=(zD ((⟨#[100,105,114,32]⟩:W)++c.1)+zD (⟨#[32]⟩:W))) (by have s:zD (⟨#[100,105,114,32]⟩:W)=4:=rfl;have a9:zD (⟨#[32]⟩:W)=1:=rfl;unfold uA;first|omega|(simp only[zE];omega))) (pn 12 m (pc 15 (S4 c.2) (px (Jr (n:=(zD (((⟨#[100,105,114,32]⟩:W)++c.1)++(⟨#[32]⟩:W))+zD (Zy c.2))) (by have s:zD (⟨#[100,105,114,32]⟩:W)=4:=rfl;have a9:zD (⟨#[32]⟩:W)=1:=rfl;unfold uA;first|omega|(simp only[zE];omega))) (pa f [((((⟨#[100,105,114,32]⟩:W)++c.1)++(⟨#[32]⟩:W))++(Zy c.2))] p0))))))) ?_;refine eqn [(3,.o 5184 (f++ [((((⟨#[100,105,114,32]⟩:W)++c.1)++(⟨#[32]⟩:W))++(Zy c.2))]))] [3] [] [] (by rw[Wu f]<;>kernel_rfl) ?_;refine rn [1,2,3,6] [1] (pw 1 k p0) ?_;exact zM (f++ [((((⟨#[100,105,114,32]⟩:W)++c.1)++(⟨#[32]⟩:W))++(Zy c.2))]) (zR (wsf [(5184,104)]) ⟨Qp m rfl b.1,by first|omega|(simp;omega) | simp,(by(simp;omega))⟩)
 ·have y:=b.2.1;have z:=b.2.2;exact Qa<|sn [1,2,3,6,60] [1] (pl 3 x.2 (pe 4 (zC ((k:Y)<(x.2.length:Y))) p0))<|ckF<|Qv<|zM _ (zR (wsf [(104,106)]) (Xo w rfl b.1))
 exact sn [2] [] p0<|Qc<|po0 [] (Qh h1 (Vz a3.1 (Vz a4.1 (Vz a8 rfl))))
def Bu(d:Yj):W:=(((⟨#[100,105,114,32]⟩:W)++d.1)++(⟨#[32]⟩:W))++(Xr d.2)
theorem IN(x:Qw):Xb x=bif !(Qs x) then [] else((x.1.1.map Jd++ [((⟨#[110,101,120,116,32]⟩:W)++(Q6 x.1.2.2))])++x.1.2.1.map J5)++x.2.map Bu:=by
 unfold Xb;cases Qs x with
 | false=>rfl
 | true=>
   simp only[zX,G];rw[Ww (f:=Eu) (e:=Ev) (g:=Jd) (λ_ _ _=>rfl)];simp only[Out.on];rw[Ww (f:=Ew) (e:=Ex) (g:=J5) (λ_ _ _=>rfl)];simp only[Out.on];rw[Ww (f:=Ey) (e:=Ez) (g:=Bu) (λ_ _ _=>rfl)];rfl
theorem enc_eq(x:Qw):Yp x=Xb x:=by
 rw[IN];unfold Yp;rw[Ot];cases Qs x with
 | false=>rfl
 | true=>
   simp only[zX,G];rw[Ww (f:=E3) (e:=E4) (g:=Ud) (λ_ _ _=>rfl)];simp only[Out.on];rw[Ww (f:=E5) (e:=E6) (g:=Ue) (λ_ _ _=>rfl)];simp only[Out.on];rw[Ww (f:=E7) (e:=E8) (g:=λd=>(((⟨#[100,105,114,32]⟩:W)++d.1)++(⟨#[32]⟩:W))++(Zy d.2)) (λ_ _ _=>rfl)];rw[show Ud=Jd from funext Qm8,show Ue=J5 from funext Qq9,show(λd:Yj=>(((⟨#[100,105,114,32]⟩:W)++d.1)++(⟨#[32]⟩:W))++(Zy d.2))=Bu from funext λd=>by rw[Qu3];rfl];rfl
theorem Qnk(x:Qw):(Xb x).length<=23/\∀y,y∈Xb x->y.size<=10300:=by
 rw[IN];cases a:Qs x with
 | false=>exact⟨zW _,λy hy=>by cases hy⟩
 | true =>
   have h:=P1 a;have b:=Sd a;simp only[zX,G];refine⟨by simp only[zH,List.length_map,List.length_cons,List.length_nil];omega,λy hy=>?_⟩;rcases yA.1 hy with hy | hy
   . rcases yA.1 hy with hy | hy
     . rcases yA.1 hy with hy | hy
       . obtain⟨f,_,rfl⟩:=yS.1 hy;have:=Qes f;omega
       rw[zO.1 hy,zE];have c:=Vd (n:=x.1.2.2) (by omega);have e:(⟨#[110,101,120,116,32]⟩:W).size=5:=rfl;omega
     obtain⟨f,g,rfl⟩:=yS.1 hy;have:=Qu4 (b.2.2.2 f g);omega
   obtain⟨d,hd,rfl⟩:=yS.1 hy;have c:=(DQ a hd).1;have i:=Qu2 d.2;have e:(⟨#[100,105,114,32]⟩:W).size=4:=rfl;have j:(⟨#[32]⟩:W).size=1:=rfl;unfold Bu;simp only[zE];omega
theorem Qu5(x:Qw):(Yp x).length<=23/\∀y,y∈Yp x->y.size<=10300:=by rw[enc_eq];exact Qnk x
theorem Qg5{R S T:Type}{f:S->Rd R S T}(b:∀s r,f s≠ .ret r):∀(n:H) (s:S) (o:Out R T),whl f n s=uD o->∃t,o= .brk t
 | 0,s,o,h=>by cases h
 | n+1,s,o,h=>by
   simp only[whl] at h;cases a:f s with
   | next s'=>rw[a] at h;exact Qg5 b n s' o h
   | brk t=>rw[a] at h;exact⟨t,(yJ h).symm⟩
   | ret r=>exact absurd a (b s r)
theorem Qw6(a:Y):1<=(Q1 a).size:=by
 cases h:X6 a 1 9 with
 | false=>unfold Q1;rw[h];exact yE 1
 | true=>rcases DP h with rfl | rfl | rfl | rfl | rfl | rfl | rfl | rfl | rfl<;>decide
def YM(p:H->D):H->H->Y->Y
 | 0,_,s=>s
 | n+1,k,s=>YM p n (k+1) (bif p k then((k+1:H):Y) else s)
theorem YN{R:Type}{f:H->Y->Rd R Y Y}{e:H->Y->Y}{p:H->D}(a:∀k s,f k s=bif p k then .next ((k+1:H):Y) else .next s)(b:∀k s,e k s=s):∀(n k:H) (s:Y),Vj f e n k s= .brk (YM p n k s)
 | 0,k,s=>by simp only[Vj,b];rfl
 | n+1,k,s=>by
   simp only[Vj,a];cases c:p k with
   | true=>simp only[E];rw[YN a b n];simp only[YM,c,E]
   | false=>simp only[G];rw[YN a b n];simp only[YM,c,G]
def JF(w:W):Y:=YM (λk=>(Q1 ((k+1:H):Y)).toList==w.toList) 9 0 0
theorem Qex(p:H->D):∀(n k:H) (s:Y),0<=s->s<=k->0<=YM p n k s/\YM p n k s<=k+n
 | 0,k,s,h0,h1=>⟨h0,by unfold YM;omega⟩
 | n+1,k,s,h0,h1=>by
   unfold YM;cases a:p k with
   | true=>have:=Qex p n (k+1) ((k+1:H):Y) (by omega) (by omega);simp only[E];omega
   | false=>have:=Qex p n (k+1) s h0 (by omega);simp only[G];omega
theorem Qu6(w:W):0<=JF w/\JF w<=9:=by
 have:=Qex (λk=>(Q1 ((k+1:H):Y)).toList==w.toList) 9 0 0 (by omega) (by omega);unfold JF;omega
theorem SD:JF ⟨#[]⟩=0:=by kernel_rfl
theorem Qyj{s:W}(h:s.size=0):s=⟨#[]⟩:=by
 apply ByteArray.ext;exact Array.eq_empty_of_size_eq_zero h
theorem Qnl{w:W}(h:JF w≠0):1<=w.size:=by
 refine yM λa=>h ?_
 rw[Qyj (s:=w) (by omega)];exact SD
def C2(_:H)(a:W)(b:W):Rd (W) (W) (W):=(.next (b++(a++(⟨#[10]⟩:W))))
def Fw(_:H)(a:W):W:=a
def Uf(a:Y)(x:Qw):W:=(bif ((!(Qs x))|| (!(X6 a 1 1000000000))) then⟨#[]⟩ else(Out.on (X5 C2 Fw (Xb x) 0 ((Q6 a)++(⟨#[10]⟩:W))) (λb=>((b++(Q6 (H7 b)))++(⟨#[46]⟩:W)))))
theorem QM(a:Y)(x:Qw):ACalls uS 114 [.i a,.a [.h x.1.1,.h x.1.2.1,.i x.1.2.2,.h x.2]] (.s (Uf a x)):=by
 refine en func114 λ_ _ _=>?_
 have o:=Qnk x;refine sn [0,3,4] [3] p0<|Qa<|Qa<|mz [(3,.p 3 0),(4,.s ⟨#[]⟩)] [1] [(3, [.h x.1.1,.h x.1.2.1,.i x.1.2.2,.h x.2])] []<|jn [(15,.b ((!(Qs x))|| (!(X6 a 1 1000000000))))] [] [] [] (!(Qs x)) (λp=>?_) (λp=>?_) ?_
 ·have c:(Qs x)=I:=Kj p;exact rn [0,3,4,15] [3] (pc 1 (cb c (H5 x)) (pe 2 (show .b (!I)= .b O from rfl) p0))<|zA (by rw[p]<;>kernel_rfl)
 ·have c:(Qs x)=O:=Yu p;have a1:=(Sd c).2.2.1;have a2:=P1 c;exact rn [0,3,4,15] [3] (pc 1 (cb c (H5 x)) (pe 2 (show .b (!O)= .b I from rfl) (pc 5 (Kt a 1 1000000000) p0)))<|zA (by rw[p]<;>kernel_rfl)
 refine ck ((!(Qs x))|| (!(X6 a 1 1000000000))) (λq=>?_) (λq=>?_)
 ·exact su [] [15] [] [] p0<|Qc<|ps [] (Qu q rfl)
 have t:((!(Qs x)))=I:=Sl q;have e:(Qs x)=O:=Yu t;have u:=(Sd e).2.2.1;have v:=P1 e;have w:((!(X6 a 1 1000000000)))=I:=Rz q;have f:(X6 a 1 1000000000)=O:=Yu w;have h:=V0.1 f;have h:=V0.1 f;refine Qd ?_;have a3:=Vd (n:=a) (by omega);refine sn [3,4,5] [3] (pc 1 (Bn a (by omega)) (px (Jr (n:=(zD (Q6 a)+zD (⟨#[10]⟩:W))) (by have j:zD (⟨#[10]⟩:W)=1:=rfl;unfold uA;first|omega|(simp only[zE];omega))) p0))<|Qa<|tn [4,5,20,21,22] [] (pc 1 (Cs x) (pl 2 (Xb x) p0))<|mz [(5,.s ((Q6 a)++(⟨#[10]⟩:W))),(20,.o 1280 (Xb x)),(21,.i ((Xb x).length:Y)),(22,.i 0)] [0,3,15] [] [3]<|wT 20 0 (.own O 1280) (Xb x) (λa4 a5=>?_)
 refine SW C2 Fw (Xb x) ((Q6 a)++(⟨#[10]⟩:W)) (λd g=> [(5,.s g),(22,.i (d:Y))]) [5,22] (λb=> [(5,.s b)]) [5,20,21,22] (λd g=>zD g<=40+10400*d) (λb=>zD b<=400000) wf0 (by have y:zD (⟨#[10]⟩:W)=1:=rfl;simp only[zE];omega) (λd g k U=>?_) (λd g k U=>?_) (λb r=>?_)
 ·have m:=U.2;obtain⟨s,V⟩:=Xn (l:=Xb x) (i:=d) k;have a6:=o.2 _ (zS V);have a7:=o.1;refine su [(23,.b O)] [] [] [] (pe 0 (zB ((d:Y)<((Xb x).length:Y))) p0)<|Qa<|ckT<|Qd<|Qa<|Qn<|su [(7,.s s)] [23] [] [] (pN 0 V p0)<|rn [4,5,20,21,22] [] (px (Jr (n:=(zD s+zD (⟨#[10]⟩:W))) (by have j:zD (⟨#[10]⟩:W)=1:=rfl;unfold uA;first|omega|(simp only[zE];omega))) (px (Jr (n:=(zD g+zD (s++(⟨#[10]⟩:W)))) (by have j:zD (⟨#[10]⟩:W)=1:=rfl;unfold uA;first|omega|(simp only[zE];omega))) p0)) ?_
  refine qn [4,5,20,21,22] [] (pw 0 d p0) ?_;exact xw (g++(s++(⟨#[10]⟩:W))) ⟨Qp V rfl U.1,(by have y:zD (⟨#[10]⟩:W)=1:=rfl;simp only[zE];omega)⟩
 ·have m:=U.2;exact su [(23,.b I)] [] [] [] (pe 0 (zC ((d:Y)<((Xb x).length:Y))) p0)<|Qa<|ckF<|Qv<|xw g ⟨Xo k rfl U.1,by first|omega|(simp only[yC];omega)⟩
 have z:=r.2;have a8:=Qgz b;have a9:=Vd (n:=H7 b) (by omega);exact sn [4] [] (pc 2 (LS b) (pc 3 (Bn (H7 b) (by omega)) (px (Jr (n:=(zD b+zD (Q6 (H7 b)))) (by unfold uA;first|omega|(simp only[zE];omega))) (px (Jr (n:=(zD (b++(Q6 (H7 b)))+zD (⟨#[46]⟩:W))) (by have j:zD (⟨#[46]⟩:W)=1:=rfl;unfold uA;first|omega|(simp only[zE];omega))) p0))))<|Qc<|ps [] (Qh q (Vz r.1 rfl))
def Fx(_:H)(a:W)(b:W):Rd (W) (W) (W):=(.next ((b++a)++(⟨#[10]⟩:W)))
def Mq(_:H)(a:W):W:=a
def Hy(a:Y)(x:Qw):W:=(bif ((!(X4 x))|| (!(Xd a 1 1000000000))) then⟨#[]⟩ else(Out.on (X5 Fx Mq (Yp x) 0 ((Q6 a)++(⟨#[10]⟩:W))) (λb=>((b++(Q6 (A7 b)))++(⟨#[46]⟩:W)))))
theorem QN(a:Y)(x:Qw):ACalls uS 50 [.i a,.a [.h x.1.1,.h x.1.2.1,.i x.1.2.2,.h x.2]] (.s (Hy a x)):=by
 refine en func50 λ_ _ _=>?_
 have m:=Qu5 x;refine sn [0,3,4] [3] p0<|Qa<|Qa<|mz [(3,.p 3 0),(4,.s ⟨#[]⟩)] [1] [(3, [.h x.1.1,.h x.1.2.1,.i x.1.2.2,.h x.2])] []<|jn [(15,.b ((!(X4 x))|| (!(Xd a 1 1000000000))))] [] [] [] (!(X4 x)) (λo=>?_) (λo=>?_) ?_
 ·have c:(X4 x)=I:=Kj o;exact rn [0,3,4,15] [3] (pc 1 (cb c (H6 x)) (pe 2 (show .b (!I)= .b O from rfl) p0))<|zA (by rw[o]<;>kernel_rfl)
 ·have c:(X4 x)=O:=Yu o;have a1:=(RZ c).2.2.1;have a2:=P1 ((Ot x).symm.trans c);exact rn [0,3,4,15] [3] (pc 1 (cb c (H6 x)) (pe 2 (show .b (!O)= .b I from rfl) (pc 5 (Js a 1 1000000000) p0)))<|zA (by rw[o]<;>kernel_rfl)
 refine ck ((!(X4 x))|| (!(Xd a 1 1000000000))) (λp=>?_) (λp=>?_)
 ·exact su [] [15] [] [] p0<|Qc<|ps [] (Qu p rfl)
 have t:((!(X4 x)))=I:=Sl p;have f:(X4 x)=O:=Yu t;have u:=(RZ f).2.2.1;have v:=P1 ((Ot x).symm.trans f);have w:((!(Xd a 1 1000000000)))=I:=Rz p;have g:(Xd a 1 1000000000)=O:=Yu w;have h:=Bj.1 g;have h:=Bj.1 g;refine Qd ?_;have a3:=Vd (n:=a) (by omega);refine sn [3,4,5] [3] (pc 1 (H1 a (by omega)) (px (Jr (n:=(zD (Q6 a)+zD (⟨#[10]⟩:W))) (by have q:zD (⟨#[10]⟩:W)=1:=rfl;unfold uA;first|omega|(simp only[zE];omega))) p0))<|tn [4,5,6] [] (pc 1 (Ct x) p0)<|Qa<|tu [(5,.s ((Q6 a)++(⟨#[10]⟩:W))),(6,.o 1280 (Yp x)),(7,.i 0)] [0,3,15] [] [3] p0<|wT 6 0 (.own O 1280) (Yp x) (λa4 a5=>?_)
 refine SW Fx Mq (Yp x) ((Q6 a)++(⟨#[10]⟩:W)) (λd e=> [(5,.s e),(7,.i (d:Y))]) [5,7] (λb=> [(5,.s b)]) [5,6,7] (λd e=>zD e<=40+10400*d) (λb=>zD b<=400000) wf0 (by have y:zD (⟨#[10]⟩:W)=1:=rfl;simp only[zE];omega) (λd e j U=>?_) (λd e j U=>?_) (λb r=>?_)
 ·have k:=U.2;obtain⟨s,V⟩:=Xn (l:=Yp x) (i:=d) j;have a6:=m.2 _ (zS V);have a7:=m.1;refine Qa<|sn [4,5,6,7,24] [] (pl 2 (Yp x) (pe 3 (zB ((d:Y)<((Yp x).length:Y))) p0))<|ckT<|Qd<|Qa<|Qn<|qn [4,5,6,7] [] (pN 3 V (px (Jr (n:=(zD e+zD s)) (by unfold uA;first|omega|(simp only[zE];omega))) (px (Jr (n:=(zD (e++s)+zD (⟨#[10]⟩:W))) (by have q:zD (⟨#[10]⟩:W)=1:=rfl;unfold uA;first|omega|(simp only[zE];omega))) p0))) ?_
  refine qu [(5,.s ((e++s)++(⟨#[10]⟩:W))),(7,.i ((d+1:H):Y))] [5,7] [] [] (pw 1 d p0) ?_;exact xw ((e++s)++(⟨#[10]⟩:W)) ⟨Qp V rfl U.1,(by have y:zD (⟨#[10]⟩:W)=1:=rfl;simp only[zE];omega)⟩
 ·have k:=U.2;exact Qa<|sn [4,5,6,7,24] [] (pl 2 (Yp x) (pe 3 (zC ((d:Y)<((Yp x).length:Y))) p0))<|ckF<|Qv<|xw e ⟨Xo j rfl U.1,by first|omega|(simp only[yC];omega)⟩
 have z:=r.2;have a8:=Qm9 b;have a9:=Vd (n:=A7 b) (by omega);exact sn [4] [] (pc 2 (LT b) (pc 3 (H1 (A7 b) (by omega)) (px (Jr (n:=(zD b+zD (Q6 (A7 b)))) (by unfold uA;first|omega|(simp only[zE];omega))) (px (Jr (n:=(zD (b++(Q6 (A7 b)))+zD (⟨#[46]⟩:W))) (by have q:zD (⟨#[46]⟩:W)=1:=rfl;unfold uA;first|omega|(simp only[zE];omega))) p0))))<|Qc<|ps [] (Qh p (Vz r.1 rfl))
def Jf(a:Z)(bn:K Q0):W×Z×(K Q0):=(bif ((a.length:Y)==(0:Y)) then(⟨#[]⟩,a,bn) else((nth a 0),zG 1 a,bn))
theorem Ty(a:Z)(bn:K Q0):(Jf a bn).2.1.length<=a.length/\(Jf a bn).2.2.length=bn.length/\(1<=a.length->(Jf a bn).2.1.length+1=a.length)/\((Jf a bn).1.size=0\/1<=a.length):=by
 unfold Jf;cases h:((a.length:Y)==(0:Y)) with
 | true=>have:=eq_of_beq h;simp only[E];exact⟨yE _,trivial,λb=>by omega,.inl rfl⟩
 | false=>have:=ne_of_beq_false h;simp only[G,yB];exact⟨by omega,trivial,λ_=>by omega,.inr (by omega)⟩
theorem Qnm{k:Y}{w:W}{n:H}(h:((Q1 k).toList==w.toList)=O)(c:w.size=0\/1<=n):1<=n:=by
 have a:=L5 h;have b:=Qw6 k;rw[a] at b;omega
theorem ZD(a:Z)(bn:K Q0):AGive uS 400 [.h a,.o 41 bn] [] (.s (((Jf a bn)).1)) [.h (((Jf a bn)).2.1),.o 41 (((Jf a bn)).2.2)]:=by
 refine PP (tt:=tt) Z7 func400 (fn:=Tryz.f400) rfl (by unfold Iy;kernel_rfl) (Nat.le_of_ble_eq_true rfl) (Nat.le_of_ble_eq_true rfl) rfl rfl λw0 F0 i=>?_
 refine sn [0,2] [60000] p0<|Qa<|tn [0,2,9] [60000] (pl 4 a p0)<|ck ((a.length:Y)==(0:Y)) (λd=>?_) (λd=>?_)
 ·refine tu [(2,.s ⟨#[]⟩)] [] [] [] p0<|Qc ?_
  have b:Jf a bn=(⟨#[]⟩,a,bn):=Qu d (rfl);exact Qf5 [] (uB (λz=>(.s z.1:AV)) b.symm) (uB (λz=>([.h z.2.1,.o 41 z.2.2]:K C)) b.symm)
 have f:=Yt d;refine Qd<|wB 60000 0 .sh a (λg h=>?_)
 have e:=ng a 0;refine tu [(2,.s ⟨#[]⟩),(3,.s (nth a 0))] [] [] [] (pg 4 0 e p0)<|sn [0,2,3] [60000] (pe 5 (JS .sh 1 1 1 a rfl) (px (Nc (lo:=1) (hi:=(((eL a):K (K PV)).length:Y)) (n:=(zF (eL a))) (JT (by omega) (by omega))) p0))<|tn [0,2] [60000] p0<|Qc ?_
 have c:Jf a bn=((nth a 0),zG 1 a,bn):=Qh d (rfl);exact Qf5 [] (uB (λz=>(.s z.1:AV)) c.symm) (uB (λz=>([.h z.2.1,.o 41 z.2.2]:K C)) c.symm)
def Tz(b:W×Z×(K Q0))(a:H)(c:Y):Rd (D×Z×(K Q0)) (Y) (Y):=(bif ((Q1 ((a+1:H):Y)).toList==b.1.toList) then(.next ((a+1:H):Y)) else(.next c))
def T0(_:H)(a:Y):Y:=a
def Yg(n_:H)(j:Z)(bn:K Q0):D×Z×(K Q0):=match n_ with
 | 0=>default
 | n_+1=>(lt (Jf j bn) (λc=>(Out.on (Vj (Tz c) T0 (((9:Y)+1)-1).toNat 0 0) (λa=>(lt (α:=D) (bif (a==(2:Y)) then(a==(2:Y)) else(bif (a==(8:Y)) then(a==(8:Y)) else(a==(9:Y)))) (λk=>(bif k then(lt (Jf c.2.1 c.2.2) (λh=>((a !=(0:Y)),h.2.1,h.2.2++ [((a,0,0,h.1,(0,0,⟨#[]⟩)):Q0)]))) else(bif (bif (a==(3:Y)) then(a==(3:Y)) else(a==(4:Y))) then(lt (Jf c.2.1 c.2.2) (λg=>(lt (Jf g.2.1 g.2.2) (λd=>(((Xm d.1)).2,d.2.1,d.2.2++ [((a,0,0,g.1,(((Xm d.1)).1)):Q0)]))))) else(bif (a==(5:Y)) then(lt (Yg n_ c.2.1 c.2.2) (λe=>(e.1,e.2.1,e.2.2++ [((a,((e.2.2.length:Y)-1),0,⟨#[]⟩,(0,0,⟨#[]⟩)):Q0)]))) else(lt (α:=D) (bif (a==(6:Y)) then(a==(6:Y)) else(a==(7:Y))) (λi=>(bif i then(lt (Yg n_ c.2.1 c.2.2) (λb=>(bif b.1 then(lt (Yg n_ b.2.1 b.2.2) (λf=>(f.1,f.2.1,f.2.2++ [((a,((b.2.2.length:Y)-1),((f.2.2.length:Y)-1),⟨#[]⟩,(0,0,⟨#[]⟩)):Q0)]))) else(I,b.2.1,b.2.2++ [((a,((b.2.2.length:Y)-1),((b.2.2.length:Y)-1),⟨#[]⟩,(0,0,⟨#[]⟩)):Q0)])))) else((a !=(0:Y)),c.2.1,c.2.2++ [((a,0,0,⟨#[]⟩,(0,0,⟨#[]⟩)):Q0)])))))))))))))
theorem UD:∀(n:H) (c:Z) (bn:K Q0),(Yg n c bn).2.1.length<=c.length/\(Yg n c bn).2.2.length+2*(Yg n c bn).2.1.length<=bn.length+2*c.length+1
 | 0,c,bn=>⟨zW _,zW _⟩
 | n +1,c,bn=>by
  have m:=Ty c bn;have g:=UD n;unfold Yg lt;generalize Jf c bn=a at m⊢;dsimp only;rw[YN (f:=Tz a) (e:=T0) (p:=λk=>(Q1 ((k+1:H):Y)).toList==a.1.toList) (λ_ _=>rfl) (λ_ _=>rfl)];simp only[Out.on]
  have d:YM (λk=>(Q1 ((k+1:H):Y)).toList==a.1.toList) (((9:Y)+1)-1).toNat 0 0≠0->1<=c.length:=λh=>by
   have:=Qnl (w:=a.1) h;omega
  generalize YM (λk=>(Q1 ((k+1:H):Y)).toList==a.1.toList) (((9:Y)+1)-1).toNat 0 0=y0 at d⊢;have i:=Ty a.2.1 a.2.2;cases(bif (y0==(2:Y)) then(y0==(2:Y)) else(bif (y0==(8:Y)) then(y0==(8:Y)) else(y0==(9:Y)))) with
  | true=>
   simp only[E];generalize Jf a.2.1 a.2.2=b at i⊢;simp only[zH,List.length_cons,List.length_nil];omega
  | false=>
  simp only[G];cases(bif (y0==(3:Y)) then(y0==(3:Y)) else(y0==(4:Y))) with
  | true=>
   simp only[E];generalize Jf a.2.1 a.2.2=b at i⊢;have o:=Ty b.2.1 b.2.2;generalize Jf b.2.1 b.2.2=q at o⊢;simp only[zH,List.length_cons,List.length_nil];omega
  | false=>
  simp only[G];have j:=g a.2.1 a.2.2;cases r:(y0==(5:Y)) with
  | true=>
   have:=d (by have:=eq_of_beq r;omega);simp only[E];generalize Yg n a.2.1 a.2.2=b at j⊢;simp only[zH,List.length_cons,List.length_nil];omega
  | false=>
  simp only[G];cases l:(bif (y0==(6:Y)) then(y0==(6:Y)) else(y0==(7:Y))) with
  | true=>
   have:=d (by intro e;rw[e] at l;revert l;decide);simp only[E];generalize Yg n a.2.1 a.2.2=b at j⊢;cases b.1 with
   | true=>
    have s:=g b.2.1 b.2.2;simp only[E];generalize Yg n b.2.1 b.2.2=q at s⊢;simp only[zH,List.length_cons,List.length_nil];omega
   | false=>
    simp only[G,zH,List.length_cons,List.length_nil];omega
  | false=>
   simp only[G,zH,List.length_cons,List.length_nil];omega
theorem AT:∀(i:H) (h:Z) (bn:K Q0) (hf:zF h<i) (hz:zF h<=24) (hb:zF bn+2*zF h<=100),AGive uS 376 [.h h,.o 41 bn] [] (.b (((Yg i h bn)).1)) [.h (((Yg i h bn)).2.1),.o 41 (((Yg i h bn)).2.2)]:=by
 intro i
 induction i with
 | zero=>intro h bn hf hz hb;exact(by omega:False).elim
 | succ i ih=>
  intro h bn hf hz hb;refine PP (tt:=tt) Z7 func376 (fn:=Tryz.f376) rfl (by unfold Iy;kernel_rfl) (Nat.le_of_ble_eq_true rfl) (Nat.le_of_ble_eq_true rfl) rfl rfl λw0 F0 hG=>?_
  refine sn [0,2] [60000] p0 ?_;obtain⟨e,l⟩:=nm (Jf h bn);have w:=Ty h bn;rw[l] at w;refine tn [0,2,3] [60000] (po 1 (.give uG (.s e.1) [.h e.2.1,.o 41 e.2.2]) (px (Pb (l▸ZD h bn)) p0))<|tu [(2,.b I),(3,.s e.1),(4,.p 4 0)] [] [(4, [.i 0,.i 0,.i 0,.s ⟨#[]⟩,.i 0,.i 0,.s ⟨#[]⟩]),(60000, [.h e.2.1,.o 553 e.2.2])] [60000] p0<|Qa<|su [(5,.i 1)] [] [] [] p0<|Qx9 (Tz e) T0 (((9:Y)+1)-1).toNat 0 (λo _=> [(5,.i ((o+1:H):Y))]) [5] (λ_ s0=> [(4, [.i s0,.i 0,.i 0,.s ⟨#[]⟩,.i 0,.i 0,.s ⟨#[]⟩])]) [4] (λ_=> []) [3,5] (λa=> [(4, [.i a,.i 0,.i 0,.s ⟨#[]⟩,.i 0,.i 0,.s ⟨#[]⟩])]) [4] (λ_ s0=>(s0=0\/1<=zF h)) (λa=>(a=0\/1<=zF h)) wf0 (by exact .inl rfl) (λo s0 a4 U=>?_) (λo s0 a4 U=>?_) (λa p=>?_)
  ·have j:=U.2;refine Qa<|su [(11,.b O)] [] [] [] (pe 1 (zB (((o+1:H):Y)<=(9:Y))) p0)<|ckT<|Qd<|Qa<|Qn ?_
   have b5:=Qnc ((o+1:H):Y);refine sn [0,2,3,4,5,17] [4,60000] (pc 1 (YJ ((o+1:H):Y)) p0)<|ck ((Q1 ((o+1:H):Y)).toList==e.1.toList) (λh3=>?_) (λh3=>?_)
   ·refine qn [0,2,3,4,5] [4,60000] p0 ?_;refine qu [(5,.i ((o+2:H):Y))] [5,11] [(4, [.i ((o+1:H):Y),.i 0,.i 0,.s ⟨#[]⟩,.i 0,.i 0,.s ⟨#[]⟩])] [4] (pe 1 (show .i (uQ uR (((o+1:H):Y)+1))= .i ((o+2:H):Y) from Nn ((IntWalk.i64_in _ (by omega)).trans (by omega))) p0) ?_;exact xw ((o+1:H):Y) ⟨Kb a4 (Qu h3 rfl) U.1,(by first | exact j | exact .inr (Qnm (by assumption) w.2.2.2))⟩
   refine Qd<|qn [0,2,3,4,5] [4,60000] (pe 1 (show .i (uQ uR (((o+1:H):Y)+1))= .i ((o+2:H):Y) from Nn ((IntWalk.i64_in _ (by omega)).trans (by omega))) p0) ?_
   exact xw s0 ⟨Kb a4 (Qh h3 rfl) U.1,(by first | exact j | exact .inr (Qnm (by assumption) w.2.2.2))⟩
  ·have j:=U.2;exact Qa<|su [(11,.b I)] [] [] [] (pe 1 (zC (((o+1:H):Y)<=(9:Y))) p0)<|ckF<|Qv<|xw s0 ⟨Hu a4 rfl U.1,by exact j⟩
  have ao:=p.2;refine sn [0,2,4,6] [4,60000] p0<|Qa<|tn [0,2,4,6,24] [4,60000] p0<|Qn<|Qa<|tu [(6,.b (a !=(0:Y))),(24,.i a),(25,.b (a==(2:Y)))] [] [] [] p0 ?_
  obtain⟨x4,k⟩:=nm ((bif (a==(2:Y)) then(a==(2:Y)) else(bif (a==(8:Y)) then(a==(8:Y)) else(a==(9:Y)))));refine jn [(25,.b x4)] [25] [] [] (a==(2:Y)) (λh5=>?_) (λh5=>?_) ?_
  ·have ap:=eq_of_beq h5;refine ckt h5 ?_;refine Qd ?_;obtain rfl:x4=(a==(2:Y)):=k.symm.trans (show(bif (a==(2:Y)) then(a==(2:Y)) else(bif (a==(8:Y)) then(a==(8:Y)) else(a==(9:Y))))=(a==(2:Y)) from Qu h5 rfl);exact zA (by kernel_rfl)
  ·have ap:=Yt h5;refine ckf h5 ?_;refine sn [0,2,4,6,24,25] [4,60000] p0<|ck (a==(8:Y)) (λh6=>?_) (λh6=>?_)
   ·have aq:=eq_of_beq h6;refine Qd ?_;obtain rfl:x4=(a==(8:Y)):=k.symm.trans (show(bif (a==(2:Y)) then(a==(2:Y)) else(bif (a==(8:Y)) then(a==(8:Y)) else(a==(9:Y))))=(a==(8:Y)) from Qh h5 (Qu h6 rfl));exact zA (by kernel_rfl)
   have aq:=Yt h6;refine qn [0,2,4,6,24,25] [4,60000] p0 ?_;obtain rfl:x4=(a==(9:Y)):=k.symm.trans (show(bif (a==(2:Y)) then(a==(2:Y)) else(bif (a==(8:Y)) then(a==(8:Y)) else(a==(9:Y))))=(a==(9:Y)) from Qh h5 (Qh h6 rfl));exact zA (by kernel_rfl)
  refine ck x4 (λh7=>?_) (λh7=>?_)
  ·obtain⟨q,ae⟩:=nm (Jf e.2.1 e.2.2);have ak:=Ty e.2.1 e.2.2;rw[ae] at ak;refine rn [0,2,4,6] [4,60000] (po 1 (.give uG (.s q.1) [.h q.2.1,.o 41 q.2.2]) (px (Pb (ae▸ZD e.2.1 e.2.2)) p0)) ?_;refine wB 60000 1 (.own O 1961) q.2.2 (λb6 ar=>?_);refine tU [] [4,24,25] [(60000, [.h q.2.1,.slc (.own O 5568) 7 (eA q.2.2 ((a,0,0,q.1,(0,0,⟨#[]⟩)):Q0))])] [4,60000] (pa q.2.2 [((a,0,0,q.1,(0,0,⟨#[]⟩)):Q0)] p0) ?_;refine eqn [] [] [(60000, [.h q.2.1,.o 5568 (q.2.2++ [((a,0,0,q.1,(0,0,⟨#[]⟩)):Q0)])])] [60000] (by rw[Wu]<;>kernel_rfl) ?_;refine sn [0,2] [60000] p0<|Qc ?_
   have a7:Yg (i+1) h bn=((a !=(0:Y)),q.2.1,q.2.2++ [((a,0,0,q.1,(0,0,⟨#[]⟩)):Q0)]):=XN l (Vz p.1 (XN k (Qu h7 (XN ae rfl))));exact Qf5 [] (uB (λz=>(.b z.1:AV)) a7.symm) (uB (λz=>([.h z.2.1,.o 41 z.2.2]:K C)) a7.symm)
  refine Qa<|sn [0,2,4,6,24,32] [4,60000] p0<|mz [(32,.b (a==(3:Y)))] [25] [] []<|jn [(32,.b (bif (a==(3:Y)) then(a==(3:Y)) else(a==(4:Y))))] [32] [] [] (a==(3:Y)) (λr=>?_) (λr=>?_) ?_
  ·have al:=eq_of_beq r;refine ckt r ?_;exact Qd<|⟨rfl,Qe (by rw[r]<;>kernel_rfl)⟩
  ·have al:=Yt r;refine ckf r ?_;exact rn [0,2,4,6,24,32] [4,60000] p0<|zA (by rw[r]<;>kernel_rfl)
  refine ck (bif (a==(3:Y)) then(a==(3:Y)) else(a==(4:Y))) (λv=>?_) (λv=>?_)
  ·obtain⟨g,x⟩:=nm (Jf e.2.1 e.2.2);have af:=Ty e.2.1 e.2.2;rw[x] at af;refine sn [0,2,4,6] [4,60000] (po 1 (.give uG (.s g.1) [.h g.2.1,.o 41 g.2.2]) (px (Pb (x▸ZD e.2.1 e.2.2)) p0)) ?_;obtain⟨f,y⟩:=nm (Jf g.2.1 g.2.2);have ag:=Ty g.2.1 g.2.2;rw[y] at ag;refine qn [0,2,4,6] [4,60000] (po 1 (.give uG (.s f.1) [.h f.2.1,.o 41 f.2.2]) (px (Pb (y▸ZD g.2.1 g.2.2)) (pc 2 (QI f.1) p0))) ?_;refine wB 60000 1 (.own O 2601) f.2.2 (λau av=>?_);refine tU [(6,.b (((Xm f.1)).2))] [4,6,24,32] [(60000, [.h f.2.1,.slc (.own O 5568) 7 (eA f.2.2 ((a,0,0,g.1,(((Xm f.1)).1)):Q0))])] [4,60000] (pa f.2.2 [((a,0,0,g.1,(((Xm f.1)).1)):Q0)] p0) ?_;refine eqn [] [] [(60000, [.h f.2.1,.o 5568 (f.2.2++ [((a,0,0,g.1,(((Xm f.1)).1)):Q0)])])] [60000] (by rw[Wu]<;>kernel_rfl) ?_;refine sn [0,2] [60000] p0<|Qc ?_
   have a8:Yg (i+1) h bn=(((Xm f.1)).2,f.2.1,f.2.2++ [((a,0,0,g.1,(((Xm f.1)).1)):Q0)]):=XN l (Vz p.1 (XN k (Qh h7 (Qu v (XN x (XN y rfl))))));exact Qf5 [] (uB (λz=>(.b z.1:AV)) a8.symm) (uB (λz=>([.h z.2.1,.o 41 z.2.2]:K C)) a8.symm)
  refine sn [0,2,4,6,24,45] [4,60000] p0<|ck (a==(5:Y)) (λs=>?_) (λs=>?_)
  ·have am:=eq_of_beq s;obtain⟨c,a1⟩:=nm (Yg i e.2.1 e.2.2);have ah:=UD i e.2.1 e.2.2;rw[a1] at ah;refine tn [0,2,4,6] [4,60000] (po 1 (.give uG (.b c.1) [.h c.2.1,.o 41 c.2.2]) (px (Pb (a1▸ih e.2.1 e.2.2 (by first|omega|(have m:a=6\/a=7:=(by simp_all);omega)) (by first|omega|(have m:a=6\/a=7:=(by simp_all);omega)) (by first|omega|(have m:a=6\/a=7:=(by simp_all);omega)))) p0))<|wB 60000 1 (.own O 3113) c.2.2 (λaw ax=>?_)
   refine qu [(6,.b c.1)] [6,24,32] [(4, [.i a,.i ((c.2.2.length:Y)-1),.i 0,.s ⟨#[]⟩,.i 0,.i 0,.s ⟨#[]⟩]),(60000, [.h c.2.1,.o 3113 c.2.2])] [4,60000] (pl 4 c.2.2 (pe 5 (Nn (IntWalk.i64_in ((c.2.2.length:Y)-1) (by omega))) p0)) ?_;refine sU [] [4] [(60000, [.h c.2.1,.slc (.own O 5568) 7 (eA c.2.2 ((a,((c.2.2.length:Y)-1),0,⟨#[]⟩,(0,0,⟨#[]⟩)):Q0))])] [4,60000] (pa c.2.2 [((a,((c.2.2.length:Y)-1),0,⟨#[]⟩,(0,0,⟨#[]⟩)):Q0)] p0) ?_;refine eqn [] [] [(60000, [.h c.2.1,.o 5568 (c.2.2++ [((a,((c.2.2.length:Y)-1),0,⟨#[]⟩,(0,0,⟨#[]⟩)):Q0)])])] [60000] (by rw[Wu]<;>kernel_rfl) ?_;refine sn [0,2] [60000] p0<|Qc ?_
   have a9:Yg (i+1) h bn=(c.1,c.2.1,c.2.2++ [((a,((c.2.2.length:Y)-1),0,⟨#[]⟩,(0,0,⟨#[]⟩)):Q0)]):=XN l (Vz p.1 (XN k (Qh h7 (Qh v (Qu s (XN a1 rfl))))));exact Qf5 [] (uB (λz=>(.b z.1:AV)) a9.symm) (uB (λz=>([.h z.2.1,.o 41 z.2.2]:K C)) a9.symm)
  have am:=Yt s;refine Qa<|tn [0,2,4,6,24,56] [4,60000] p0<|mz [(56,.b (a==(6:Y)))] [32] [] [] ?_
  obtain⟨a5,n⟩:=nm ((bif (a==(6:Y)) then(a==(6:Y)) else(a==(7:Y))));refine jn [(56,.b a5)] [24,56] [] [] (a==(6:Y)) (λt=>?_) (λt=>?_) ?_
  ·have an:=eq_of_beq t;refine ckt t ?_;refine Qd ?_;obtain rfl:a5=(a==(6:Y)):=n.symm.trans (show(bif (a==(6:Y)) then(a==(6:Y)) else(a==(7:Y)))=(a==(6:Y)) from Qu t rfl);exact zA (by kernel_rfl)
  ·have an:=Yt t;refine ckf t ?_;refine rn [0,2,4,6,56] [4,60000] p0 ?_;obtain rfl:a5=(a==(7:Y)):=n.symm.trans (show(bif (a==(6:Y)) then(a==(6:Y)) else(a==(7:Y)))=(a==(7:Y)) from Qh t rfl);exact zA (by kernel_rfl)
  refine ck a5 (λa6=>?_) (λa6=>?_)
  ·obtain⟨b,u⟩:=nm (Yg i e.2.1 e.2.2);have ai:=UD i e.2.1 e.2.2;rw[u] at ai;refine sn [0,2,4,6] [4,60000] (po 1 (.give uG (.b b.1) [.h b.2.1,.o 41 b.2.2]) (px (Pb (u▸ih e.2.1 e.2.2 (by first|omega|(have m:a=6\/a=7:=(by simp_all);omega)) (by first|omega|(have m:a=6\/a=7:=(by simp_all);omega)) (by first|omega|(have m:a=6\/a=7:=(by simp_all);omega)))) p0))<|wB 60000 1 (.own O 3881) b.2.2 (λay az=>?_)
   refine tn [0,2,4,6] [4,60000] (pl 4 b.2.2 (pe 5 (Nn (IntWalk.i64_in ((b.2.2.length:Y)-1) (by omega))) p0))<|Qa<|Ye b.1 (λa2=>?_) (λa2=>?_)
   ·obtain⟨d,a3⟩:=nm (Yg i b.2.1 b.2.2);have aj:=UD i b.2.1 b.2.2;rw[a3] at aj;refine qu [(6,.b d.1)] [6,56] [(4, [.i a,.i ((b.2.2.length:Y)-1),.i 0,.s ⟨#[]⟩,.i 0,.i 0,.s ⟨#[]⟩]),(60000, [.h d.2.1,.o 4585 d.2.2])] [4,60000] (pt 0 a2 (po 3 (.give uG (.b d.1) [.h d.2.1,.o 41 d.2.2]) (px (Pb (a3▸ih b.2.1 b.2.2 (by first|omega|(have m:a=6\/a=7:=(by simp_all);omega)) (by first|omega|(have m:a=6\/a=7:=(by simp_all);omega)) (by first|omega|(have m:a=6\/a=7:=(by simp_all);omega)))) p0))) ?_;refine wB 60000 1 (.own O 4585) d.2.2 (λb1 b2=>?_);refine rn [0,2,4,6] [4,60000] (pl 4 d.2.2 (pe 5 (Nn (IntWalk.i64_in ((d.2.2.length:Y)-1) (by omega))) p0)) ?_;refine tU [] [4] [(60000, [.h d.2.1,.slc (.own O 5568) 7 (eA d.2.2 ((a,((b.2.2.length:Y)-1),((d.2.2.length:Y)-1),⟨#[]⟩,(0,0,⟨#[]⟩)):Q0))])] [4,60000] (pa d.2.2 [((a,((b.2.2.length:Y)-1),((d.2.2.length:Y)-1),⟨#[]⟩,(0,0,⟨#[]⟩)):Q0)] p0) ?_;refine eqn [] [] [(60000, [.h d.2.1,.o 5568 (d.2.2++ [((a,((b.2.2.length:Y)-1),((d.2.2.length:Y)-1),⟨#[]⟩,(0,0,⟨#[]⟩)):Q0)])])] [60000] (by rw[Wu]<;>kernel_rfl) ?_;refine sn [0,2] [60000] p0<|Qc ?_
    have aa:Yg (i+1) h bn=(d.1,d.2.1,d.2.2++ [((a,((b.2.2.length:Y)-1),((d.2.2.length:Y)-1),⟨#[]⟩,(0,0,⟨#[]⟩)):Q0)]):=XN l (Vz p.1 (XN k (Qh h7 (Qh v (Qh s (XN n (Qu a6 (XN u (Qu a2 (XN a3 rfl))))))))));exact Qf5 [] (uB (λz=>(.b z.1:AV)) aa.symm) (uB (λz=>([.h z.2.1,.o 41 z.2.2]:K C)) aa.symm)
   refine qu [(6,.b I)] [6,56] [(4, [.i a,.i ((b.2.2.length:Y)-1),.i 0,.s ⟨#[]⟩,.i 0,.i 0,.s ⟨#[]⟩]),(60000, [.h b.2.1,.o 3881 b.2.2])] [4,60000] (pf 0 a2 p0) ?_;refine rn [0,2,4,6] [4,60000] (pl 4 b.2.2 (pe 5 (Nn (IntWalk.i64_in ((b.2.2.length:Y)-1) (by omega))) p0)) ?_;refine tU [] [4] [(60000, [.h b.2.1,.slc (.own O 5568) 7 (eA b.2.2 ((a,((b.2.2.length:Y)-1),((b.2.2.length:Y)-1),⟨#[]⟩,(0,0,⟨#[]⟩)):Q0))])] [4,60000] (pa b.2.2 [((a,((b.2.2.length:Y)-1),((b.2.2.length:Y)-1),⟨#[]⟩,(0,0,⟨#[]⟩)):Q0)] p0) ?_;refine eqn [] [] [(60000, [.h b.2.1,.o 5568 (b.2.2++ [((a,((b.2.2.length:Y)-1),((b.2.2.length:Y)-1),⟨#[]⟩,(0,0,⟨#[]⟩)):Q0)])])] [60000] (by rw[Wu]<;>kernel_rfl) ?_;refine su [] [6] [] [] p0<|Qc ?_
   have ab:Yg (i+1) h bn=(I,b.2.1,b.2.2++ [((a,((b.2.2.length:Y)-1),((b.2.2.length:Y)-1),⟨#[]⟩,(0,0,⟨#[]⟩)):Q0)]):=XN l (Vz p.1 (XN k (Qh h7 (Qh v (Qh s (XN n (Qu a6 (XN u (Qh a2 rfl)))))))));exact Qf5 [] (uB (λz=>(.b z.1:AV)) ab.symm) (uB (λz=>([.h z.2.1,.o 41 z.2.2]:K C)) ab.symm)
  refine Qd<|wB 60000 1 (.own O 553) e.2.2 (λb3 b4=>?_)
  refine sU [] [4,56] [(60000, [.h e.2.1,.slc (.own O 5568) 7 (eA e.2.2 ((a,0,0,⟨#[]⟩,(0,0,⟨#[]⟩)):Q0))])] [4,60000] (pa e.2.2 [((a,0,0,⟨#[]⟩,(0,0,⟨#[]⟩)):Q0)] p0) ?_;refine eqn [] [] [(60000, [.h e.2.1,.o 5568 (e.2.2++ [((a,0,0,⟨#[]⟩,(0,0,⟨#[]⟩)):Q0)])])] [60000] (by rw[Wu]<;>kernel_rfl) ?_;refine sn [0,2] [60000] p0<|Qc ?_
  have ad:Yg (i+1) h bn=((a !=(0:Y)),e.2.1,e.2.2++ [((a,0,0,⟨#[]⟩,(0,0,⟨#[]⟩)):Q0)]):=XN l (Vz p.1 (XN k (Qh h7 (Qh v (Qh s (XN n (Qh a6 rfl)))))));exact Qf5 [] (uB (λz=>(.b z.1:AV)) ad.symm) (uB (λz=>([.h z.2.1,.o 41 z.2.2]:K C)) ad.symm)
def Gj(p:Z)(a:Y)(b:H)(c:Y):Rd ((K Q0)×Y) (Y) (Y):=(bif ((Qt p a).toList==(Yw ((b+1:H):Y)).toList) then(.next ((b+1:H):Y)) else(.next c))
def M6(_:H)(a:Y):Y:=a
def Zf(n_:H)(p:Z)(b:Y)(q:K Q0)(d:Y):(K Q0)×Y:=match n_ with
 | 0=>default
 | n_+1=>(Out.on (Vj (Gj p b) M6 (((9:Y)+1)-1).toNat 0 0) (λc=>(bif ((c==(0:Y))|| (decide (d>(9:Y))|| decide ((q.length:Y)>(9:Y)))) then(q,0) else(bif ((c==(2:Y))|| ((c==(8:Y))|| (c==(9:Y)))) then(q++ [((c,0,0,(Qt p (uQ uR (b+1))),(0,0,⟨#[]⟩)):Q0)],2) else(bif ((c==(3:Y))|| (c==(4:Y))) then(q++ [((c,0,0,(Qt p (uQ uR (b+1))),(((Zz (Qt p (uQ uR (b+2))))).1)):Q0)],3) else(bif (Xd c 5 7) then(lt (Zf n_ p (uQ uR (b+1)) q (uQ uR (d+1))) (λa=>(bif (a.2==(0:Y)) then(a.1,0) else(bif (c !=(5:Y)) then(lt (Zf n_ p (uQ uR (b+uQ uR (1+a.2))) a.1 (uQ uR (d+1))) (λe=>(bif (e.2==(0:Y)) then(e.1,0) else(e.1++ [((c,((a.1.length:Y)-1),((e.1.length:Y)-1),⟨#[]⟩,(0,0,⟨#[]⟩)):Q0)],uQ uR (uQ uR (1+a.2)+e.2))))) else(a.1++ [((c,((a.1.length:Y)-1),0,⟨#[]⟩,(0,0,⟨#[]⟩)):Q0)],uQ uR (1+a.2)))))) else(q++ [((c,0,0,⟨#[]⟩,(0,0,⟨#[]⟩)):Q0)],1)))))))
theorem Qnn{p:Z}{a:Y}{k:Y}(h:((Qt p a).toList==(Yw k).toList)=O):a<(p.length:Y):=by
 have c:=L5 h;have b:=Qw6 k;rw[←Qg2,←c] at b;unfold Qt at b;by_cases d:a>=(p.length:Y)
 . rw[uF d,E] at b;exact absurd b (by decide)
 omega
theorem Qno{p:Z}{at_:Y}(h:JF (Qt p at_)≠0):at_<(p.length:Y):=by
 have a:=Qnl h;unfold Qt at a;by_cases b:at_>=(p.length:Y)
 . rw[uF b,E] at a;exact absurd a (by decide)
 omega
theorem Qss(p:Z)(a:Y):Vj (Gj p a) M6 (((9:Y)+1)-1).toNat 0 0= .brk (JF (Qt p a)):=by
 rw[YN (f:=Gj p a) (e:=M6) (p:=λk=>(Q1 ((k+1:H):Y)).toList==(Qt p a).toList) (λk s=>by
  unfold Gj;rw[Qg2,show((Qt p a).toList==(Q1 ((k+1:H):Y)).toList)=((Q1 ((k+1:H):Y)).toList==(Qt p a).toList) from Bool.eq_iff_iff.2 (by simp only[beq_iff_eq];exact eq_comm)]) (λ_ _=>rfl)]
 rfl
theorem Rt:∀(n:H) (p:Z) (at_:Y) (q:K Q0) (a:Y),0<=at_->at_<=30->p.length<=24->0<=a->a<=10->
 ((Zf n p at_ q a).1.length<=q.length\/(Zf n p at_ q a).1.length<=9+n)/\0<=(Zf n p at_ q a).2/\((Zf n p at_ q a).2=0\/at_+(Zf n p at_ q a).2<=(p.length:Y)+2)
 | 0,p,at_,q,a,_,_,_,_,_=>⟨.inl (zW _),Int.le_refl _,.inl rfl⟩
 | n + 1,p,at_,q,a,h0,h1,hp,hd,hx=>by
  unfold Zf lt;rw[Qss];simp only[Out.on];have g:=Qno (p:=p) (at_:=at_);generalize JF (Qt p at_)=c at g⊢;rw[IntWalk.i64_in (at_+1) (by omega),IntWalk.i64_in (a+1) (by omega)];cases l:((c==(0:Y))|| (decide (a>(9:Y))|| decide ((q.length:Y)>(9:Y)))) with
  | true=>exact⟨.inl (yE _),Int.le_refl _,.inl rfl⟩
  | false=>
   obtain⟨e,m⟩:=bo l;obtain⟨h,i⟩:=bo m;have e:=ne_of_beq_false e;have h:=uE h;have i:=uE i;have o:=g e;simp only[G];cases((c==(2:Y))|| ((c==(8:Y))|| (c==(9:Y)))) with
   | true=>simp only[E,zH,List.length_cons,List.length_nil];omega
   | false=>
   cases((c==(3:Y))|| (c==(4:Y))) with
   | true=>simp only[E,G,zH,List.length_cons,List.length_nil];omega
   | false=>
   cases Xd c 5 7 with
   | false=>simp only[G,zH,List.length_cons,List.length_nil];omega
   | true=>
    have r:=Rt n p (at_+1) q (a+1) (by omega) (by omega) hp (by omega) (by omega);simp only[E,G];generalize Zf n p (at_+1) q (a+1)=b at r⊢;cases j:(b.2==(0:Y)) with
    | true=>simp only[E];omega
    | false=>
     have j:=ne_of_beq_false j;rw[IntWalk.i64_in (1+b.2) (by omega),IntWalk.i64_in (at_+(1+b.2)) (by omega)];simp only[G];cases(c !=(5:Y)) with
     | false=>simp only[G,zH,List.length_cons,List.length_nil];omega
     | true=>
      have f:=Rt n p (at_+(1+b.2)) b.1 (a+1) (by omega) (by omega) hp (by omega) (by omega);simp only[E];generalize Zf n p (at_+(1+b.2)) b.1 (a+1)=d at f⊢;cases k:(d.2==(0:Y)) with
      | true=>simp only[E];omega
      | false=>
       have k:=ne_of_beq_false k;rw[IntWalk.i64_in (1+b.2+d.2) (by omega)];simp only[G,zH,List.length_cons,List.length_nil];omega
theorem SE:∀(g:H) (p:Z) (a:Y) (q:K Q0) (b:Y) (ha:0<=a) (hz:zF p<=24) (ht:a<=30) (hd:0<=b) (hx:b<=10) (hn:11<=b+((g:H):Y)) (hm:g<=12),AVal uS 342 [.h p,.i a,.o 40 q,.i b] (.tup [(I, [.o 0 (((Zf g p a q b)).1)]),(I, [.i (((Zf g p a q b)).2)])]):=by
 intro g
 induction g with
 | zero=>intro p a q b ha hz ht hd hx hn hm;exact(by omega:False).elim
 | succ g ih=>
  intro p a q b ha hz ht hd hx hn hm
  refine Qlg (tt:=tt) Z7 func342 (fn:=Tryz.f342) rfl (by unfold Iy;kernel_rfl) (Nat.le_of_ble_eq_true rfl) rfl λw0 F0 hG=>?_
  have bc:uQ uR (a+1)=a+1:=IntWalk.i64_in _ (by omega)
  have bd:uQ uR (b+1)=b+1:=IntWalk.i64_in _ (by omega);have be:uQ uR (a+2)=a+2:=IntWalk.i64_in _ (by omega)
  refine sn [0,1,2,3,8,9] [] p0<|tn [0,1,2,3,8,9,10] [] p0<|Qa<|tu [(8,.e 0),(9,.i 0),(10,.i 0),(11,.i 1)] [] [] [] p0<|Qsa (Gj p a) M6 (((9:Y)+1)-1).toNat 0 (λl y=> [(10,.i y),(11,.i ((l+1:H):Y))]) [10,11] (λd=> [(10,.i d)]) [10,11] (λ_ y=>(y=0\/a<(zF p:Y))) (λd=>(d=0\/a<(zF p:Y))) wf0 (by exact .inl rfl) (λl y v U=>?_) (λl y v U=>?_) (λd h=>?_)
  ·have i:=U.2;refine Qa<|su [(16,.b O)] [] [] [] (pe 1 (zB (((l+1:H):Y)<=(9:Y))) p0)<|ckT<|Qd<|Qa<|Qn ?_
   have bf:=Qsq ((l+1:H):Y);refine sn [0,1,2,3,8,9,10,11,24] [] (pc 2 (U9 p a (by omega)) (pc 4 (YK ((l+1:H):Y)) p0))<|ck ((Qt p a).toList==(Yw ((l+1:H):Y)).toList) (λh2=>?_) (λh2=>?_)
   ·refine qn [0,1,2,3,8,9,10,11] [] p0 ?_;refine qu [(10,.i ((l+1:H):Y)),(11,.i ((l+2:H):Y))] [10,11,16] [] [] (pe 1 (show .i (uQ uR (((l+1:H):Y)+1))= .i ((l+2:H):Y) from Nn ((IntWalk.i64_in _ (by omega)).trans (by omega))) p0) ?_;exact xw ((l+1:H):Y) ⟨Kb v (Qu h2 rfl) U.1,(by first | exact i | exact .inr (Qnn (by assumption)))⟩
   refine Qd<|qn [0,1,2,3,8,9,10,11] [] (pe 1 (show .i (uQ uR (((l+1:H):Y)+1))= .i ((l+2:H):Y) from Nn ((IntWalk.i64_in _ (by omega)).trans (by omega))) p0) ?_
   exact xw y ⟨Kb v (Qh h2 rfl) U.1,(by first | exact i | exact .inr (Qnn (by assumption)))⟩
  ·have i:=U.2;exact Qa<|su [(16,.b I)] [] [] [] (pe 1 (zC (((l+1:H):Y)<=(9:Y))) p0)<|ckF<|Qv<|xw y ⟨Hu v rfl U.1,by exact i⟩
  have aj:=h.2;refine sn [0,1,2,3,8,9,10,12] [12] p0<|tn [0,1,2,3,8,9,10,12,13] [12] p0<|Qa<|Qn<|Qa<|mz [(12,.p 12 0),(13,.i 1)] [] [(12, [.i d,.i 0,.i 0,.s ⟨#[]⟩,.i 0,.i 0,.s ⟨#[]⟩])] []<|jn [(28,.b ((d==(0:Y))|| (decide (b>(9:Y))|| decide ((q.length:Y)>(9:Y)))))] [] [] [] (d==(0:Y)) (λw=>?_) (λw=>?_) ?_
  ·have ak:=eq_of_beq w;exact ru [(28,.b O)] [] [] [] (pt 1 w p0)<|zA (by rw[w]<;>kernel_rfl)
  ·have ak:=Yt w;refine Ye (decide (b>(9:Y))) (λh4=>?_) (λh4=>?_)
   ·have al:=uK h4;exact ru [(28,.b O)] [] [] [] (pf 1 w (pt 4 h4 p0))<|zA (by rw[w,h4]<;>kernel_rfl)
   have al:=uE h4;exact rn [0,1,2,3,8,9,10,12,13,28] [12] (pf 1 w (pf 4 h4 (pl 8 q p0)))<|zA (by rw[w,h4]<;>kernel_rfl)
  refine ck ((d==(0:Y))|| (decide (b>(9:Y))|| decide ((q.length:Y)>(9:Y)))) (λs=>?_) (λs=>?_)
  ·exact sn [2,8,9,12,13] [12] p0<|Qc<|pz [] (show Zf (g+1) p a q b=_ from Vz h.1 (Qu s rfl)) (λz=> .tup [(I, [.o 0 z.1]),(I, [.i z.2])])
  have am:((d==(0:Y)))=I:=Sl s;have b1:=Yt am;have a5:((decide (b>(9:Y))|| decide ((q.length:Y)>(9:Y))))=I:=Rz s;have a6:(decide (b>(9:Y)))=I:=Sl a5;have an:=uE a6;have a7:(decide ((q.length:Y)>(9:Y)))=I:=Rz a5;have ao:=uE a7;refine Qa<|jn [(41,.b ((d==(2:Y))|| ((d==(8:Y))|| (d==(9:Y)))))] [28] [] [] (d==(2:Y)) (λx=>?_) (λx=>?_) ?_
  ·have ap:=eq_of_beq x;exact ru [(41,.b O)] [28] [] [] (pt 1 x p0)<|zA (by rw[x]<;>kernel_rfl)
  ·have ap:=Yt x;refine Ye (d==(8:Y)) (λh7=>?_) (λh7=>?_)
   ·have aq:=eq_of_beq h7;exact ru [(41,.b O)] [28] [] [] (pf 1 x (pt 4 h7 p0))<|zA (by rw[x,h7]<;>kernel_rfl)
   have aq:=Yt h7;exact ru [(41,.b (d==(9:Y)))] [28] [] [] (pf 1 x (pf 4 h7 p0))<|zA (by rw[x,h7]<;>kernel_rfl)
  refine ck ((d==(2:Y))|| ((d==(8:Y))|| (d==(9:Y)))) (λu=>?_) (λu=>?_)
  ·refine sn [2,8,9,12,13] [12] (pc 3 (U9 p (uQ uR (a+1)) (by omega)) p0)<|qn [2,8,9,12,13] [12] p0 ?_
   refine wT 2 0 (.own O 40) q (λbg b2=>?_);refine tu [(8,.one (.slc (.own O 8064) 7 (eA q ((d,0,0,(Qt p (uQ uR (a+1))),(0,0,⟨#[]⟩)):Q0)))),(9,.i 2)] [0,1,2,3,8,9,10,12,13,41] [] [12] (pa q [((d,0,0,(Qt p (uQ uR (a+1))),(0,0,⟨#[]⟩)):Q0)] p0) ?_;refine eqn [(8,.o 8064 (q++ [((d,0,0,(Qt p (uQ uR (a+1))),(0,0,⟨#[]⟩)):Q0)]))] [8] [] [] (by rw[Wu]<;>kernel_rfl) ?_;exact Qc<|pz [] (show Zf (g+1) p a q b=_ from Vz h.1 (Qh s (Qu u rfl))) (λz=> .tup [(I, [.o 0 z.1]),(I, [.i z.2])])
  have ar:((d==(2:Y)))=I:=Sl u;have b3:=Yt ar;have a8:(((d==(8:Y))|| (d==(9:Y))))=I:=Rz u;have a9:((d==(8:Y)))=I:=Sl a8;have au:=Yt a9;have aa:((d==(9:Y)))=I:=Rz a8;have av:=Yt aa;refine Qa<|jn [(57,.b ((d==(3:Y))|| (d==(4:Y))))] [41] [] [] (d==(3:Y)) (λm=>?_) (λm=>?_) ?_
  ·have ab:=eq_of_beq m;exact ru [(57,.b O)] [41] [] [] (pt 1 m p0)<|zA (by rw[m]<;>kernel_rfl)
  ·have ab:=Yt m;exact ru [(57,.b (d==(4:Y)))] [41] [] [] (pf 1 m p0)<|zA (by rw[m]<;>kernel_rfl)
  refine ck ((d==(3:Y))|| (d==(4:Y))) (λj=>?_) (λj=>?_)
  ·refine sn [0,1,2,8,9,12,13] [12] (pc 3 (U9 p (uQ uR (a+1)) (by omega)) p0)<|tn [2,8,9,12,13] [12] (pc 3 (U9 p (uQ uR (a+2)) (by omega)) (pc 4 (QK (Qt p (uQ uR (a+2)))) p0))<|qu [(13,.i 3)] [0,1,3,10,13,57] [(12, [.i d,.i 0,.i 0,.s (Qt p (uQ uR (a+1))),.i ((((Zz (Qt p (uQ uR (a+2))))).1).1),.i ((((Zz (Qt p (uQ uR (a+2))))).1).2.1),.s ((((Zz (Qt p (uQ uR (a+2))))).1).2.2)])] [12] p0 ?_
   refine wT 2 0 (.own O 40) q (λb4 b5=>?_);refine su [(8,.one (.slc (.own O 8064) 7 (eA q ((d,0,0,(Qt p (uQ uR (a+1))),(((Zz (Qt p (uQ uR (a+2))))).1)):Q0)))),(9,.i 3)] [2,8,9,12,13] [] [12] (pa q [((d,0,0,(Qt p (uQ uR (a+1))),(((Zz (Qt p (uQ uR (a+2))))).1)):Q0)] p0) ?_;refine eqn [(8,.o 8064 (q++ [((d,0,0,(Qt p (uQ uR (a+1))),(((Zz (Qt p (uQ uR (a+2))))).1)):Q0)]))] [8] [] [] (by rw[Wu]<;>kernel_rfl) ?_;exact Qc<|pz [] (show Zf (g+1) p a q b=_ from Vz h.1 (Qh s (Qh u (Qu j rfl)))) (λz=> .tup [(I, [.o 0 z.1]),(I, [.i z.2])])
  have ad:((d==(3:Y)))=I:=Sl j;have aw:=Yt ad;have ae:((d==(4:Y)))=I:=Rz j;have ax:=Yt ae;refine sn [0,1,2,3,8,9,10,12,13,78] [12] (pc 1 (Js d 5 7) p0)<|ck (Xd d 5 7) (λk=>?_) (λk=>?_)
  ·have af:=Bj.1 k;have af:=Bj.1 k;refine tu [(14,.i 0)] [57] [] [] p0 ?_;obtain⟨c,f⟩:=nm ((Zf g p (uQ uR (a+1)) q (uQ uR (b+1))));have a1:=Rt g p (uQ uR (a+1)) q (uQ uR (b+1)) (by omega) (by omega) (by omega) (by omega) (by omega);rw[f] at a1;have a2:uQ uR (1+c.2)=1+c.2:=IntWalk.i64_in _ (by omega);have ay:uQ uR (a+uQ uR (1+c.2))=a+(1+c.2):=by rw[a2];exact IntWalk.i64_in _ (by omega)
   refine sn [0,1,2,3,8,9,10,12,13,14] [12] (po 6 (.giv [40] (.tup [(I, [.o 0 c.1]),(I, [.i c.2])])) (px (Qfz (f▸ih p (uQ uR (a+1)) q (uQ uR (b+1)) (by omega) (by omega) (by omega) (by omega) (by omega) (by omega) (by omega))) p0))<|wT 2 0 (.own O 5632) c.1 (λb6 b7=>?_)
   refine tn [0,1,2,3,8,9,10,12,13,14] [12] (pl 1 c.1 (pe 2 (Nn (IntWalk.i64_in ((c.1.length:Y)-1) (by omega))) p0))<|tu [(2,.o 5632 c.1),(13,.i (uQ uR (1+c.2))),(14,.i c.2)] [2,13,14] [(12, [.i d,.i ((c.1.length:Y)-1),.i 0,.s ⟨#[]⟩,.i 0,.i 0,.s ⟨#[]⟩])] [12] p0<|Qa<|su [(98,.b (c.2==(0:Y)))] [] [] [] p0<|ck (c.2==(0:Y)) (λn=>?_) (λn=>?_)
   ·have ag:=eq_of_beq n;exact su [(8,.o 5632 c.1)] [8,98] [] [] p0<|Qc<|pz [] (show Zf (g+1) p a q b=_ from Vz h.1 (Qh s (Qh u (Qh j (Qu k (XN f (Qu n rfl))))))) (λz=> .tup [(I, [.o 0 z.1]),(I, [.i z.2])])
   have ag:=Yt n;refine Qd<|sn [0,1,2,3,8,9,12,13,14,101] [12] p0<|ck (d !=(5:Y)) (λr=>?_) (λr=>?_)
   ·have ah:=Sk r;obtain⟨e,o⟩:=nm ((Zf g p (uQ uR (a+uQ uR (1+c.2))) c.1 (uQ uR (b+1))));have a3:=Rt g p (uQ uR (a+uQ uR (1+c.2))) c.1 (uQ uR (b+1)) (by omega) (by omega) (by omega) (by omega) (by omega);rw[o] at a3;have a4:uQ uR (1+e.2)=1+e.2:=IntWalk.i64_in _ (by omega);have az:uQ uR (a+uQ uR (1+e.2))=a+(1+e.2):=by rw[a4];exact IntWalk.i64_in _ (by omega)
    refine tn [2,8,9,12,13,14] [12] (po 7 (.giv [5632] (.tup [(I, [.o 0 e.1]),(I, [.i e.2])])) (px (Qfz (o▸ih p (uQ uR (a+uQ uR (1+c.2))) c.1 (uQ uR (b+1)) (by omega) (by omega) (by omega) (by omega) (by omega) (by omega) (by omega))) p0))<|wT 2 0 (.own O 7040) e.1 (λb8 b9=>?_)
    refine tu [(2,.o 7040 e.1),(14,.i e.2)] [0,1,2,3,10,14,98] [(12, [.i d,.i ((c.1.length:Y)-1),.i ((e.1.length:Y)-1),.s ⟨#[]⟩,.i 0,.i 0,.s ⟨#[]⟩])] [12] (pl 1 e.1 (pe 2 (Nn (IntWalk.i64_in ((e.1.length:Y)-1) (by omega))) p0))<|sn [2,8,9,12,13,14] [12] p0<|tn [2,8,9,12,13,121] [12] p0<|ck (e.2==(0:Y)) (λt=>?_) (λt=>?_)
    ·have ai:=eq_of_beq t;exact tu [(8,.o 7040 e.1),(13,.i (uQ uR (uQ uR (1+c.2)+e.2)))] [8,13,14] [] [] p0<|Qc<|pz [] (show Zf (g+1) p a q b=_ from Vz h.1 (Qh s (Qh u (Qh j (Qu k (XN f (Qh n (Qu r (XN o (Qu t rfl)))))))))) (λz=> .tup [(I, [.o 0 z.1]),(I, [.i z.2])])
    have ai:=Yt t;refine Qd<|tu [(8,.one (.slc (.own O 8064) 7 (eA e.1 ((d,((c.1.length:Y)-1),((e.1.length:Y)-1),⟨#[]⟩,(0,0,⟨#[]⟩)):Q0)))),(9,.i (uQ uR (uQ uR (1+c.2)+e.2)))] [2,8,9,12,13,14] [] [12] (pa e.1 [((d,((c.1.length:Y)-1),((e.1.length:Y)-1),⟨#[]⟩,(0,0,⟨#[]⟩)):Q0)] p0) ?_
    refine eqn [(8,.o 8064 (e.1++ [((d,((c.1.length:Y)-1),((e.1.length:Y)-1),⟨#[]⟩,(0,0,⟨#[]⟩)):Q0)]))] [8] [] [] (by rw[Wu]<;>kernel_rfl) ?_;exact Qc<|pz [] (show Zf (g+1) p a q b=_ from Vz h.1 (Qh s (Qh u (Qh j (Qu k (XN f (Qh n (Qu r (XN o (Qh t rfl)))))))))) (λz=> .tup [(I, [.o 0 z.1]),(I, [.i z.2])])
   have ah:=Ut r;refine Qd<|tu [(8,.one (.slc (.own O 8064) 7 (eA c.1 ((d,((c.1.length:Y)-1),0,⟨#[]⟩,(0,0,⟨#[]⟩)):Q0)))),(9,.i (uQ uR (1+c.2)))] [0,1,2,3,8,9,10,12,13,14,98] [] [12] (pa c.1 [((d,((c.1.length:Y)-1),0,⟨#[]⟩,(0,0,⟨#[]⟩)):Q0)] p0) ?_
   refine eqn [(8,.o 8064 (c.1++ [((d,((c.1.length:Y)-1),0,⟨#[]⟩,(0,0,⟨#[]⟩)):Q0)]))] [8] [] [] (by rw[Wu]<;>kernel_rfl) ?_;exact Qc<|pz [] (show Zf (g+1) p a q b=_ from Vz h.1 (Qh s (Qh u (Qh j (Qu k (XN f (Qh n (Qh r rfl)))))))) (λz=> .tup [(I, [.o 0 z.1]),(I, [.i z.2])])
  refine Qd<|wT 2 0 (.own O 40) q (λba bb=>?_)
  refine tu [(8,.one (.slc (.own O 8064) 7 (eA q ((d,0,0,⟨#[]⟩,(0,0,⟨#[]⟩)):Q0)))),(9,.i 1)] [0,1,2,3,8,9,10,12,13,57] [] [12] (pa q [((d,0,0,⟨#[]⟩,(0,0,⟨#[]⟩)):Q0)] p0) ?_;refine eqn [(8,.o 8064 (q++ [((d,0,0,⟨#[]⟩,(0,0,⟨#[]⟩)):Q0)]))] [8] [] [] (by rw[Wu]<;>kernel_rfl) ?_;exact Qc<|pz [] (show Zf (g+1) p a q b=_ from Vz h.1 (Qh s (Qh u (Qh j (Qh k rfl))))) (λz=> .tup [(I, [.o 0 z.1]),(I, [.i z.2])])
def Zk(b:W):(K Q0)×D:=(bif (!(((Yh b)).2)) then([],I) else(lt (Yg (zF (((Yh b)).1)+1) (((Yh b)).1) ([]:K Q0)) (λa=>(bif ((!a.1)|| (decide ((a.2.1.length:Y)>(0:Y))|| (!(Qm a.2.2)))) then([],I) else(a.2.2,O)))))
theorem CO(a:W):ACalls uS 335 [.s a] (.tup [(I, [.o 0 (((Zk a)).1)]),(I, [.b (((Zk a)).2)])]):=by
 refine en func335 λ_ _ _=>sn [0,2,3] [] p0 ?_
 have k:=Qw5 a;refine tn [2,3,4,5] [] (pc 1 (AJ a) p0)<|Qa<|tu [(2,.e 0),(3,.b I),(4,.o 576 (((Yh a)).1)),(13,.b (!(((Yh a)).2)))] [0] [] [] p0<|ck (!(((Yh a)).2)) (λh=>?_) (λh=>?_)
 ·refine sn [2,3,4] [] p0<|opn [(I,2,0,O,104,7)] ?_
  exact Qc<|pz [] (show Zk a=_ from Qu h rfl) (λz=> .tup [(I, [.o 0 z.1]),(I, [.b z.2])])
 refine Qd<|sn [2,3,6] [16] p0<|Qa ?_
 obtain⟨b,c⟩:=nm (Yg (zF (((Yh a)).1)+1) (((Yh a)).1) ([]:K Q0));have g:=UD (zF (((Yh a)).1)+1) (((Yh a)).1) ([]:K Q0);rw[c] at g;refine Qa<|mz [(6,.p 16 0)] [4,13] [(16, [.o 576 (((Yh a)).1),.e 7])] []<|jn [(35,.b ((!b.1)|| (decide ((b.2.1.length:Y)>(0:Y))|| (!(Qm b.2.2)))))] [] [(16, [.h b.2.1,.o 1193 b.2.2])] [16] (!b.1) (λf=>?_) (λf=>?_) ?_
 ·have d:(b.1)=I:=Kj f;refine I3 (Dd [576] rfl) ?_;refine opn [(O,16,1,O,448006,7)] ?_;refine rn [2,3,6,35] [16] (po 1 (.give uG (.b I) [.h b.2.1,.o 41 b.2.2]) (px (Pb (gb d (c▸AT (zF (((Yh a)).1)+1) (((Yh a)).1) ([]:K Q0) (by omega) (by omega) (by simp;omega)))) (pe 2 (show .b (!I)= .b O from rfl) p0))) ?_;exact zA (by rw[f]<;>kernel_rfl)
 ·have d:(b.1)=O:=Yu f;refine Ye (decide ((b.2.1.length:Y)>(0:Y))) (λe=>?_) (λe=>?_)
  ·have i:=uK e;refine I3 (Dd [576] rfl) ?_;refine opn [(O,16,1,O,448007,7)] ?_;refine rn [2,3,6,35] [16] (po 1 (.give uG (.b O) [.h b.2.1,.o 41 b.2.2]) (px (Pb (gb d (c▸AT (zF (((Yh a)).1)+1) (((Yh a)).1) ([]:K Q0) (by omega) (by omega) (by simp;omega)))) (pe 2 (show .b (!O)= .b I from rfl) (pl 8 b.2.1 (pt 9 e p0))))) ?_;exact zA (by rw[f,e]<;>kernel_rfl)
  have i:=uE e;refine I3 (Dd [576] rfl) ?_;refine opn [(O,16,1,O,448008,7)] ?_;refine rn [2,3,6,35] [16] (po 1 (.give uG (.b O) [.h b.2.1,.o 41 b.2.2]) (px (Pb (gb d (c▸AT (zF (((Yh a)).1)+1) (((Yh a)).1) ([]:K Q0) (by omega) (by omega) (by simp;omega)))) (pe 2 (show .b (!O)= .b I from rfl) (pl 8 b.2.1 (pf 9 e (pc 16 (Uu b.2.2) p0)))))) ?_;exact zA (by rw[f,e]<;>kernel_rfl)
 refine ck ((!b.1)|| (decide ((b.2.1.length:Y)>(0:Y))|| (!(Qm b.2.2)))) (λj=>?_) (λj=>?_)
 ·refine su [] [35] [] [] p0<|opn [(I,2,0,O,104,7)] ?_
  exact Qc<|pz [] (show Zk a=_ from Qh h (XN c (Qu j rfl))) (λz=> .tup [(I, [.o 0 z.1]),(I, [.b z.2])])
 exact Qd<|sn [2,3] [] p0<|Qc<|pz [] (show Zk a=_ from Qh h (XN c (Qh j rfl))) (λz=> .tup [(I, [.o 0 z.1]),(I, [.b z.2])])
def Jj(a:W):(K Q0)×D:=(bif (!(((Qf a)).2)) then([],I) else(lt (Zf 12 (((Qf a)).1) 0 ([]:K Q0) 0) (λb=>(bif ((b.2 !=((((Qf a)).1).length:Y))|| (((Zy b.1).toList==(⟨#[]⟩:W).toList)|| (!((Zy b.1).toList==(Am (((Qf a)).1)).toList)))) then([],I) else(b.1,O)))))
theorem CP(a:W):ACalls uS 304 [.s a] (.tup [(I, [.o 0 (((Jj a)).1)]),(I, [.b (((Jj a)).2)])]):=by
 refine en func304 λ_ _ _=>sn [0,2,3] [] p0 ?_
 have i:=S3 a;refine tn [2,3,4,5] [] (pc 1 (Sz a) p0)<|Qa<|tu [(2,.e 0),(3,.b I),(4,.o 704 (((Qf a)).1)),(15,.b (!(((Qf a)).2)))] [0] [] [] p0<|ck (!(((Qf a)).2)) (λg=>?_) (λg=>?_)
 ·exact sn [2,3,4] [] p0<|Qc<|pz [] (show Jj a=_ from Qu g rfl) (λz=> .tup [(I, [.o 0 z.1]),(I, [.b z.2])])
 refine Qd ?_;obtain⟨b,c⟩:=nm ((Zf 12 (((Qf a)).1) 0 ([]:K Q0) 0));have e:=Rt 12 (((Qf a)).1) 0 ([]:K Q0) 0 (by omega) (by omega) (by omega) (by omega) (by omega);rw[c] at e;refine sn [2,3,4,6,7] [] (po 2 (.giv [1216] (.tup [(I, [.o 0 b.1]),(I, [.i b.2])])) (px (Qfz (c▸SE 12 (((Qf a)).1) 0 ([]:K Q0) 0 (by omega) (by omega) (by omega) (by omega) (by omega) (by omega) (by omega))) p0)) ?_;have j:=Qsr b.1;refine tn [2,3,4,6,7,8] [] (pc 1 (S4 b.1) p0)<|Qa<|Qa<|mz [(6,.o 1280 b.1),(7,.i b.2),(8,.s (Zy b.1))] [15] [] []<|jn [(38,.b ((b.2 !=((((Qf a)).1).length:Y))|| (((Zy b.1).toList==(⟨#[]⟩:W).toList)|| (!((Zy b.1).toList==(Am (((Qf a)).1)).toList)))))] [4,7,8] [] [] (b.2 !=((((Qf a)).1).length:Y)) (λd=>?_) (λd=>?_) ?_
 ·exact rn [2,3,6,38] [] (pl 2 (((Qf a)).1) (pt 3 d p0))<|zA (by rw[d]<;>kernel_rfl)
 ·have k:=Ut d;refine Ye ((Zy b.1).toList==(⟨#[]⟩:W).toList) (λf=>?_) (λf=>?_)
  ·exact rn [2,3,6,38] [] (pl 2 (((Qf a)).1) (pf 3 d (pt 6 f p0)))<|zA (by rw[d,f]<;>kernel_rfl)
  refine rn [2,3,6,38] [] (pl 2 (((Qf a)).1) (pf 3 d (pf 6 f (pc 11 (UB (((Qf a)).1) (by first | exact(S3 _).1 | (simp only[yB];have:=(S3 line).1;omega)) (by first | exact(S3 _).2 | exact λy l=>(S3 line).2 y (yF l))) p0)))) ?_;exact zA (by rw[d,f]<;>kernel_rfl)
 refine ck ((b.2 !=((((Qf a)).1).length:Y))|| (((Zy b.1).toList==(⟨#[]⟩:W).toList)|| (!((Zy b.1).toList==(Am (((Qf a)).1)).toList)))) (λh=>?_) (λh=>?_)
 ·exact sn [2,3,6] [] p0<|Qc<|pz [] (show Jj a=_ from Qh g (XN c (Qu h rfl))) (λz=> .tup [(I, [.o 0 z.1]),(I, [.b z.2])])
 exact Qd<|sn [2,3] [] p0<|Qc<|pz [] (show Jj a=_ from Qh g (XN c (Qh h rfl))) (λz=> .tup [(I, [.o 0 z.1]),(I, [.b z.2])])
def Uk(w:Z)(a:D×Y×(K Hk)):Rd (Xt×D) (D×Y×(K Hk)) (D×(K Hk)):=(bif decide (a.2.1<(w.length:Y)) then(.next ((a.1&&((Xm (nth w (uQ uR (a.2.1+1)).toNat))).2),uQ uR (a.2.1+2),a.2.2++ [((nth w a.2.1.toNat),(((Xm (nth w (uQ uR (a.2.1+1)).toNat))).1))])) else(.brk (a.1,a.2.2)))
def Wj(w:Z):Xt×D:=(bif (decide ((w.length:Y)<(4:Y))|| (yN (w.length:Y) 2 !=(0:Y))) then((0,0,I,0, []),I) else(Out.on (N2 (Uk w) (zF w+1) (((Ql (nth w 0)).2&&((Ql (nth w 1)).2&&(Ql (nth w 3)).2)),4, [])) (λa=>(((Ql (nth w 0)).1,(Ql (nth w 1)).1,((nth w 2).toList==(⟨#[115]⟩:W).toList),(Ql (nth w 3)).1,a.2),a.1))))
theorem Qra{w:Z}(c:zF w<=1073741800)(b:D):(whl (Uk w) (zF w+1) (b,4, [])).isSome=O:=
 Qld (λs=>s.2.1 / 2) ((w.length:Y) / 2+1) (λs s' d h=>by
  unfold Uk at h;by_cases a:s.2.1<(w.length:Y)
  . rw[uF a,E] at h;have h:=Rd.next.inj h;rw[←h];have e:uQ uR (s.2.1+2)=s.2.1+2:=IntWalk.i64_in _ (by omega);simp only[e];omega
  rw[uC a,G] at h;cases h) _ _ (by show(0:Y)<=4 / 2;decide) (by show _<=(4:Y) / 2+_;omega)
theorem Qb6(w:Z)(hw:zF w<=1073741800):ACalls uS 334 [.h w] (.tup [(O, [.i ((((Wj w)).1).1),.i ((((Wj w)).1).2.1),.b ((((Wj w)).1).2.2.1),.i ((((Wj w)).1).2.2.2.1),.o 0 ((((Wj w)).1).2.2.2.2)]),(I, [.b (((Wj w)).2)])]):=by
 refine en func334 λ_ _ _=>?_
 have a6:yN (w.length:Y) 2=(w.length:Y) % 2:=Int.tmod_eq_emod_of_nonneg (by omega);refine sn [0,2,3] [2] p0<|Qa<|Qa<|mz [(2,.p 2 0),(3,.b I)] [] [(2, [.i 0,.i 0,.b I,.i 0,.e 4])] []<|jn [(23,.b (decide ((w.length:Y)<(4:Y))|| (yN (w.length:Y) 2 !=(0:Y))))] [] [] [] (decide ((w.length:Y)<(4:Y))) (λf=>?_) (λf=>?_) ?_
 ·exact rn [0,2,3,23] [2] (pl 1 w (pt 2 f p0))<|zA (by rw[f]<;>kernel_rfl)
 ·have a7:=uE f;refine rn [0,2,3,23] [2] (pl 1 w (pf 2 f (pl 5 w (px (Qtz (n:=2) (by omega)) (px (Qks (k:= .i64) (n:=yN (w.length:Y) 2) (by unfold InR;simp only[IntKind.min,IntKind.max,IntKind.bits,IntKind.signed];omega)) p0))))) ?_;exact zA (by rw[f]<;>kernel_rfl)
 refine ck (decide ((w.length:Y)<(4:Y))|| (yN (w.length:Y) 2 !=(0:Y))) (λi=>?_) (λi=>?_)
 ·refine su [] [23] [] [] p0<|opn [(O,2,4,O,106,4)] ?_
  exact Qc<|pz [] (show Wj w=_ from Qu i rfl) (λz=> .tup [(O, [.i z.1.1,.i z.1.2.1,.b z.1.2.2.1,.i z.1.2.2.2.1,.o 0 z.1.2.2.2.2]),(I, [.b z.2])])
 have m:(decide ((w.length:Y)<(4:Y)))=I:=Sl i;have a1:=uE m;have o:((yN (w.length:Y) 2 !=(0:Y)))=I:=Rz i;have a2:=Ut o;refine Qd<|wT 0 0 .sh w (λa8 a9=>?_)
 have p:=ng w 0;refine sn [0,2,3,4,5] [2] (pg 1 0 p (pc 3 (C1 (nth w 0)) p0)) ?_;have q:=ng w 1;refine tn [0,2,3,4,5,6,7] [2] (pg 1 1 q (pc 3 (C1 (nth w 1)) p0)) ?_;have r:=ng w 3;refine tu [(4,.i ((Ql (nth w 0)).1)),(5,.b ((Ql (nth w 0)).2)),(6,.i ((Ql (nth w 1)).1)),(7,.b ((Ql (nth w 1)).2)),(8,.i ((Ql (nth w 3)).1)),(9,.b ((Ql (nth w 3)).2))] [23] [] [] (pg 1 3 r (pc 3 (C1 (nth w 3)) p0)) ?_;have s:=ng w 2;refine sn [0,2,3,5,7,9,10] [2,10] (pg 3 2 s p0)<|Qa<|mz [(10,.p 10 0)] [4,6,8] [(10, [.i ((Ql (nth w 0)).1),.i ((Ql (nth w 1)).1),.b ((nth w 2).toList==(⟨#[115]⟩:W).toList),.i ((Ql (nth w 3)).1),.e 4])] []<|jn [(11,.b ((Ql (nth w 0)).2&&((Ql (nth w 1)).2&&(Ql (nth w 3)).2)))] [5,7,9] [] [] ((Ql (nth w 0)).2) (λe=>?_) (λe=>?_) ?_
 ·refine Ye ((Ql (nth w 1)).2) (λb=>?_) (λb=>?_)
  ·exact rn [0,2,3,10,11] [2,10] (pt 0 e (pt 2 b p0))<|zA (by rw[e,b]<;>kernel_rfl)
  exact rn [0,2,3,10,11] [2,10] (pt 0 e (pf 2 b p0))<|zA (by rw[e,b]<;>kernel_rfl)
 ·exact rn [0,2,3,10,11] [2,10] (pf 0 e p0)<|zA (by rw[e]<;>kernel_rfl)
 refine Qa<|su [(12,.i 4)] [] [] [] p0<|blw (λ(a:D×Y×(K Hk))=> [(11,.b a.1),(12,.i a.2.1)]) [11,12] (λa=> [(10, [.i ((Ql (nth w 0)).1),.i ((Ql (nth w 1)).1),.b ((nth w 2).toList==(⟨#[115]⟩:W).toList),.i ((Ql (nth w 3)).1),.o 104 a.2.2])]) [10] (λ(g:D×(K Hk))=> [(11,.b g.1)]) [0,11,12] (λg=> [(10, [.i ((Ql (nth w 0)).1),.i ((Ql (nth w 1)).1),.b ((nth w 2).toList==(⟨#[115]⟩:W).toList),.i ((Ql (nth w 3)).1),.o 105 g.2])]) [10] (λ(k0:H) (a:D×Y×(K Hk))=>whl (Uk w) k0 a=uD (N2 (Uk w) (zF w+1) (((Ql (nth w 0)).2&&((Ql (nth w 1)).2&&(Ql (nth w 3)).2)),4, []))/\4<=a.2.1/\a.2.1<=(zF w:Y)/\a.2.1 % 2=0/\2*(zF a.2.2:Y)+4=a.2.1) (λ(g:D×(K Hk))=>(N2 (Uk w) (zF w+1) (((Ql (nth w 0)).2&&((Ql (nth w 1)).2&&(Ql (nth w 3)).2)),4, []))= .brk g) (zF w+1) (((Ql (nth w 0)).2&&((Ql (nth w 1)).2&&(Ql (nth w 3)).2)),4, []) (wgf [(O,10,4,O,320008,4)] [] [] [(320008,104)]) ⟨Mv (Qra hw _),(by first | omega | rfl | (simp;omega) | (simp;done)),(by first | omega | rfl | (simp;omega) | (simp;done)),(by first | omega | rfl | (simp;omega) | (simp;done)),(by first | omega | rfl | (simp;omega) | (simp;done))⟩ (λ_ h=>P9 h.1) (λk0 a U=>?_) (λg t=>?_)
 ·have u:=U.2.1;have v:=U.2.2.1;have x:=U.2.2.2.1;have y:=U.2.2.2.2;have e1:uQ uR (a.2.1+1)=a.2.1+1:=IntWalk.i64_in _ (by omega);have e2:uQ uR (a.2.1+2)=a.2.1+2:=IntWalk.i64_in _ (by omega);refine Qa<|sn [0,2,3,10,11,12,64] [2,10] (pl 2 w p0)<|ck (decide (a.2.1<(w.length:Y))) (λd=>?_) (λd=>?_)
  ·have a3:=uK d;refine Qd<|Qa<|Qn ?_
   have j:=ng w (uQ uR (a.2.1+1)).toNat;refine tn [0,2,3,10,11,12,13,14] [2,10,13] (pg 3 (uQ uR (a.2.1+1)) j (pc 5 (QI (nth w (uQ uR (a.2.1+1)).toNat)) p0)) ?_;have l:=ng w a.2.1.toNat;refine wB 10 4 (.own O 104) a.2.2 (λa4 a5=>?_);refine tU [(14,.b (((Xm (nth w (uQ uR (a.2.1+1)).toNat))).2))] [] [(10, [.i ((Ql (nth w 0)).1),.i ((Ql (nth w 1)).1),.b ((nth w 2).toList==(⟨#[115]⟩:W).toList),.i ((Ql (nth w 3)).1),.slc (.own O 5440) 4 (eA a.2.2 ((nth w a.2.1.toNat),(((Xm (nth w (uQ uR (a.2.1+1)).toNat))).1)))])] [10] (pg 4 a.2.1 l (pa a.2.2 [((nth w a.2.1.toNat),(((Xm (nth w (uQ uR (a.2.1+1)).toNat))).1))] p0)) ?_;refine eqn [] [] [(10, [.i ((Ql (nth w 0)).1),.i ((Ql (nth w 1)).1),.b ((nth w 2).toList==(⟨#[115]⟩:W).toList),.i ((Ql (nth w 3)).1),.o 5440 (a.2.2++ [((nth w a.2.1.toNat),(((Xm (nth w (uQ uR (a.2.1+1)).toNat))).1))])])] [10] (by rw[Wu]<;>kernel_rfl) ?_;refine jn [(11,.b (a.1&&((Xm (nth w (uQ uR (a.2.1+1)).toNat))).2))] [11,14] [] [] a.1 (λc=>?_) (λc=>?_) ?_
   ·exact rn [0,2,3,10,11,12] [2,10] (pt 0 c p0)<|zA (by rw[c]<;>kernel_rfl)
   ·exact rn [0,2,3,10,11,12] [2,10] (pf 0 c p0)<|zA (by rw[c]<;>kernel_rfl)
   refine rn [0,2,3,10,11,12] [2,10] p0 ?_;exact zM ((a.1&&((Xm (nth w (uQ uR (a.2.1+1)).toNat))).2),uQ uR (a.2.1+2),a.2.2++ [((nth w a.2.1.toNat),(((Xm (nth w (uQ uR (a.2.1+1)).toNat))).1))]) (zR (wsf [(5440,104)]) ⟨wn U.1 (Qu d rfl),(by first|omega|(simp;omega)),(by first|omega|(simp;omega)),(by first|omega|(simp;omega)),(by first|omega|(simp;omega))⟩)
  exact Qv<|zM _ (zR (wsf [(104,105)]) (wb U.1 (Qh d rfl)))
 exact sn [2,3] [2] p0<|Qc<|pz [] (show Wj w=_ from Qh i (Vz t rfl)) (λz=> .tup [(O, [.i z.1.1,.i z.1.2.1,.b z.1.2.2.1,.i z.1.2.2.2.1,.o 0 z.1.2.2.2.2]),(I, [.b z.2])])
def Ks(b:K Zt)(c:K Xt)(e:Y)(d:K Yj)(a:W):D×(K Zt)×(K Xt)×Y×(K Yj):=(bif (((nth (Q7 32 a) 0).toList==(⟨#[102,105,101,108,100]⟩:W).toList)&&(((Q7 32 a).length:Y)==(3:Y))) then(bif ((nth (Q7 32 a) 2).toList==(⟨#[115,116,114,105,110,103]⟩:W).toList) then(O,b++ [(((nth (Q7 32 a) 1),2):Zt)],c,e,d) else(O,b++ [(((nth (Q7 32 a) 1),1):Zt)],c,e,d)) else(bif (((nth (Q7 32 a) 0).toList==(⟨#[110,101,120,116]⟩:W).toList)&&(((Q7 32 a).length:Y)==(2:Y))) then((Ql (nth (Q7 32 a) 1)).2,b,c,(Ql (nth (Q7 32 a) 1)).1,d) else(bif ((nth (Q7 32 a) 0).toList==(⟨#[102,105,108,101]⟩:W).toList) then(((Wj (zG 1 (Q7 32 a)))).2,b,c++ [(((Wj (zG 1 (Q7 32 a)))).1)],e,d) else(bif (((nth (Q7 32 a) 0).toList==(⟨#[100,105,114]⟩:W).toList)&&decide (((Q7 32 a).length:Y)>(2:Y))) then(((Zk (Ya ⟨#[32]⟩ (zG 2 (Q7 32 a))))).2,b,c,e,d++ [((nth (Q7 32 a) 1),((Zk (Ya ⟨#[32]⟩ (zG 2 (Q7 32 a))))).1)]) else(I,b,c,e,d)))))
theorem Qnp(b:K Zt)(c:K Xt)(e:Y)(d:K Yj)(a:W):(Ks b c e d a).2.1.length<=b.length+1/\(Ks b c e d a).2.2.1.length<=c.length+1/\(Ks b c e d a).2.2.2.2.length<=d.length+1:=by
 unfold Ks;simp only[Bool.cond_eq_ite]
 repeat' split
 all_goals (simp only[zH,List.length_cons,List.length_nil];omega)
theorem Qiv(b:K Zt)(c:K Xt)(e:Y)(d:K Yj)(a:W)(hl:zD a<=1073741000)(h1:zF b<1073741824)(v:zF c<1073741824)(h4:zF d<1073741824):AGive uS 292 [.o 40 b,.o 41 c,.i e,.o 43 d] [.s a] (.b (((Ks b c e d a)).1)) [.o 40 (((Ks b c e d a)).2.1),.o 41 (((Ks b c e d a)).2.2.1),.i (((Ks b c e d a)).2.2.2.1),.o 43 (((Ks b c e d a)).2.2.2.2)]:=by
 refine PP (tt:=tt) Z7 func292 (fn:=Tryz.f292) rfl (by unfold Iy;kernel_rfl) (Nat.le_of_ble_eq_true rfl) (Nat.le_of_ble_eq_true rfl) rfl rfl λw0 F0 hG=>?_
 have b5:=Qnb 32 a 2;have b6:=AP 32 a;refine sn [0,1,4] [60000] p0<|stT 1 0 a (λb7=>?_)
 refine tn [0,4,5] [60000] (pc 1 (ZT a 32 (by omega)) p0)<|Qa<|Qn<|Qa<|mz [(4,.b I),(5,.o 896 (Q7 32 a))] [1] [] []<|jn [(15,.b (((nth (Q7 32 a) 0).toList==(⟨#[102,105,101,108,100]⟩:W).toList)&&(((Q7 32 a).length:Y)==(3:Y))))] [] [] [] ((nth (Q7 32 a) 0).toList==(⟨#[102,105,101,108,100]⟩:W).toList) (λv=>?_) (λv=>?_) ?_
 ·refine wT 5 0 (.own O 896) (Q7 32 a) (λb8 b9=>?_);have a7:=ng (Q7 32 a) 0;exact rn [0,4,5,15] [60000] (pG 1 0 a7 (pt 3 v (pl 6 (Q7 32 a) p0)))<|zA (by rw[v]<;>kernel_rfl)
 ·refine wT 5 0 (.own O 896) (Q7 32 a) (λba bb=>?_);have a8:=ng (Q7 32 a) 0;exact rn [0,4,5,15] [60000] (pG 1 0 a8 (pf 3 v p0))<|zA (by rw[v]<;>kernel_rfl)
 refine ck (((nth (Q7 32 a) 0).toList==(⟨#[102,105,101,108,100]⟩:W).toList)&&(((Q7 32 a).length:Y)==(3:Y))) (λk=>?_) (λk=>?_)
 ·have bc:(((nth (Q7 32 a) 0).toList==(⟨#[102,105,101,108,100]⟩:W).toList))=O:=HL k;have a9:((((Q7 32 a).length:Y)==(3:Y)))=O:=HM k;have ad:=eq_of_beq a9;refine sn [0,4,5,6] [60000] p0<|Qa<|wT 5 0 (.own O 896) (Q7 32 a) (λae af=>?_)
  have w:=ng (Q7 32 a) 2;refine tn [0,4,5,6,28] [60000] (pG 1 2 w p0)<|ck ((nth (Q7 32 a) 2).toList==(⟨#[115,116,114,105,110,103]⟩:W).toList) (λu=>?_) (λu=>?_)
  ·refine qu [(6,.i 2)] [15] [] [] p0 ?_;have x:=ng (Q7 32 a) 1;refine wB 60000 0 (.own O 40) b (λag ah=>?_);refine sU [] [5,6] [(60000, [.slc (.own O 2624) 2 (eA b (((nth (Q7 32 a) 1),2):Zt)),.o 41 c,.i e,.o 43 d])] [60000] (pG 7 1 x (pa b [(((nth (Q7 32 a) 1),2):Zt)] p0)) ?_;refine eqn [] [] [(60000, [.o 2624 (b++ [(((nth (Q7 32 a) 1),2):Zt)]),.o 41 c,.i e,.o 43 d])] [60000] (by rw[Wu]<;>kernel_rfl) ?_;refine sn [0,4] [60000] p0<|Qc ?_
   have o:Ks b c e d a=(O,b++ [(((nth (Q7 32 a) 1),2):Zt)],c,e,d):=Qu k (Qu u rfl);exact Qf5 [] (uB (λz=>(.b z.1:AV)) o.symm) (uB (λz=>([.o 40 z.2.1,.o 41 z.2.2.1,.i z.2.2.2.1,.o 43 z.2.2.2.2]:K C)) o.symm)
  refine Qd ?_;have y:=ng (Q7 32 a) 1;refine wB 60000 0 (.own O 40) b (λai aj=>?_);refine tU [] [5,15] [(60000, [.slc (.own O 2624) 2 (eA b (((nth (Q7 32 a) 1),1):Zt)),.o 41 c,.i e,.o 43 d])] [60000] (pG 7 1 y (pa b [(((nth (Q7 32 a) 1),1):Zt)] p0)) ?_;refine eqn [] [] [(60000, [.o 2624 (b++ [(((nth (Q7 32 a) 1),1):Zt)]),.o 41 c,.i e,.o 43 d])] [60000] (by rw[Wu]<;>kernel_rfl) ?_;refine sn [0,4] [60000] p0<|Qc ?_
  have p:Ks b c e d a=(O,b++ [(((nth (Q7 32 a) 1),1):Zt)],c,e,d):=Qu k (Qh u rfl);exact Qf5 [] (uB (λz=>(.b z.1:AV)) p.symm) (uB (λz=>([.o 40 z.2.1,.o 41 z.2.2.1,.i z.2.2.2.1,.o 43 z.2.2.2.2]:K C)) p.symm)
 refine Qa<|jn [(45,.b (((nth (Q7 32 a) 0).toList==(⟨#[110,101,120,116]⟩:W).toList)&&(((Q7 32 a).length:Y)==(2:Y))))] [15] [] [] ((nth (Q7 32 a) 0).toList==(⟨#[110,101,120,116]⟩:W).toList) (λg=>?_) (λg=>?_) ?_
 ·refine wT 5 0 (.own O 896) (Q7 32 a) (λak al=>?_);have a1:=ng (Q7 32 a) 0;exact rn [0,4,5,45] [60000] (pG 1 0 a1 (pt 3 g (pl 6 (Q7 32 a) p0)))<|zA (by rw[g]<;>kernel_rfl)
 ·refine wT 5 0 (.own O 896) (Q7 32 a) (λam an=>?_);have a2:=ng (Q7 32 a) 0;exact rn [0,4,5,45] [60000] (pG 1 0 a2 (pf 3 g p0))<|zA (by rw[g]<;>kernel_rfl)
 refine ck (((nth (Q7 32 a) 0).toList==(⟨#[110,101,120,116]⟩:W).toList)&&(((Q7 32 a).length:Y)==(2:Y))) (λf=>?_) (λf=>?_)
 ·have ao:(((nth (Q7 32 a) 0).toList==(⟨#[110,101,120,116]⟩:W).toList))=O:=HL f;have a3:((((Q7 32 a).length:Y)==(2:Y)))=O:=HM f;have aa:=eq_of_beq a3;refine wT 5 0 (.own O 896) (Q7 32 a) (λap aq=>?_);have a4:=ng (Q7 32 a) 1;refine sn [0,4,7,8] [60000] (pG 1 1 a4 (pc 3 (C1 (nth (Q7 32 a) 1)) p0))<|tn [0,4,8] [60000] p0<|tu [(4,.b ((Ql (nth (Q7 32 a) 1)).2))] [4,5,45] [(60000, [.o 40 b,.o 41 c,.i ((Ql (nth (Q7 32 a) 1)).1),.o 43 d])] [60000] p0<|Qc ?_
  have q:Ks b c e d a=((Ql (nth (Q7 32 a) 1)).2,b,c,(Ql (nth (Q7 32 a) 1)).1,d):=Qh k (Qu f rfl);exact Qf5 [] (uB (λz=>(.b z.1:AV)) q.symm) (uB (λz=>([.o 40 z.2.1,.o 41 z.2.2.1,.i z.2.2.2.1,.o 43 z.2.2.2.2]:K C)) q.symm)
 refine wT 5 0 (.own O 896) (Q7 32 a) (λar au=>?_);have h:=ng (Q7 32 a) 0;refine sn [0,4,5,68] [60000] (pG 1 0 h p0)<|ck ((nth (Q7 32 a) 0).toList==(⟨#[102,105,108,101]⟩:W).toList) (λl=>?_) (λl=>?_)
 ·refine tn [0,4,9,10] [9,60000] (pe 1 (JS (.vw 896) 1 1 1 (Q7 32 a) rfl) (px (Nc (lo:=1) (hi:=(((eL (Q7 32 a)):K (K PV)).length:Y)) (n:=(zF (eL (Q7 32 a)))) (JT (by omega) (by omega))) (pc 2 (Qb6 (zG 1 (Q7 32 a)) (by have:=(YZ 32 a).1;simp only[yB];omega)) p0)))<|wB 60000 1 (.own O 41) c (λav aw=>?_)
  refine tU [(10,.b (((Wj (zG 1 (Q7 32 a)))).2))] [5,45] [(60000, [.o 40 b,.slc (.own O 5568) 5 (eA c (((Wj (zG 1 (Q7 32 a)))).1)),.i e,.o 43 d])] [60000] (pa c [(((Wj (zG 1 (Q7 32 a)))).1)] p0) ?_;refine eqn [] [] [(60000, [.o 40 b,.o 5568 (c++ [(((Wj (zG 1 (Q7 32 a)))).1)]),.i e,.o 43 d])] [60000] (by rw[Wu]<;>kernel_rfl) ?_;refine sn [0,4] [60000] p0<|Qc ?_
  have r:Ks b c e d a=(((Wj (zG 1 (Q7 32 a)))).2,b,c++ [(((Wj (zG 1 (Q7 32 a)))).1)],e,d):=Qh k (Qh f (Qu l rfl));exact Qf5 [] (uB (λz=>(.b z.1:AV)) r.symm) (uB (λz=>([.o 40 z.2.1,.o 41 z.2.2.1,.i z.2.2.2.1,.o 43 z.2.2.2.2]:K C)) r.symm)
 refine Qa<|mz [(68,.b ((nth (Q7 32 a) 0).toList==(⟨#[102,105,108,101]⟩:W).toList))] [45] [] []<|jn [(92,.b (((nth (Q7 32 a) 0).toList==(⟨#[100,105,114]⟩:W).toList)&&decide (((Q7 32 a).length:Y)>(2:Y))))] [68] [] [] ((nth (Q7 32 a) 0).toList==(⟨#[100,105,114]⟩:W).toList) (λi=>?_) (λi=>?_) ?_
 ·exact rn [0,4,5,92] [60000] (pG 1 0 h (pt 3 i (pl 6 (Q7 32 a) p0)))<|zA (by rw[i]<;>kernel_rfl)
 ·exact rn [0,4,5,92] [60000] (pG 1 0 h (pf 3 i p0))<|zA (by rw[i]<;>kernel_rfl)
 refine ck (((nth (Q7 32 a) 0).toList==(⟨#[100,105,114]⟩:W).toList)&&decide (((Q7 32 a).length:Y)>(2:Y))) (λj=>?_) (λj=>?_)
 ·have ax:(((nth (Q7 32 a) 0).toList==(⟨#[100,105,114]⟩:W).toList))=O:=HL j;have a5:(decide (((Q7 32 a).length:Y)>(2:Y)))=O:=HM j;have ab:=uK a5;refine sn [0,4,5,11,12] [60000] (pe 1 (JS (.vw 896) 1 2 2 (Q7 32 a) rfl) (px (Nc (lo:=2) (hi:=(((eL (Q7 32 a)):K (K PV)).length:Y)) (n:=(zF (eL (Q7 32 a)))) (JT (by omega) (by omega))) (pc 2 (Av (zG 2 (Q7 32 a)) ⟨#[32]⟩ (by first | omega | exact zQ (Ad (m:=10) (n:=20) rfl (by assumption) (by omega)) (by decide) | (simp only[Vb,Wv,Wg,zE];omega))) (pc 3 (CO (Ya ⟨#[32]⟩ (zG 2 (Q7 32 a)))) p0)))) ?_;have a6:=ng (Q7 32 a) 1;refine wB 60000 3 (.own O 43) d (λay az=>?_);refine tU [(12,.b (((Zk (Ya ⟨#[32]⟩ (zG 2 (Q7 32 a))))).2))] [5,92] [(60000, [.o 40 b,.o 41 c,.i e,.slc (.own O 7680) 2 (eA d ((nth (Q7 32 a) 1),((Zk (Ya ⟨#[32]⟩ (zG 2 (Q7 32 a))))).1))])] [60000] (pG 6 1 a6 (pa d [((nth (Q7 32 a) 1),((Zk (Ya ⟨#[32]⟩ (zG 2 (Q7 32 a))))).1)] p0)) ?_;refine eqn [] [] [(60000, [.o 40 b,.o 41 c,.i e,.o 7680 (d++ [((nth (Q7 32 a) 1),((Zk (Ya ⟨#[32]⟩ (zG 2 (Q7 32 a))))).1)])])] [60000] (by rw[Wu]<;>kernel_rfl) ?_;refine sn [0,4] [60000] p0<|Qc ?_
  have s:Ks b c e d a=(((Zk (Ya ⟨#[32]⟩ (zG 2 (Q7 32 a))))).2,b,c,e,d++ [((nth (Q7 32 a) 1),((Zk (Ya ⟨#[32]⟩ (zG 2 (Q7 32 a))))).1)]):=Qh k (Qh f (Qh l (Qu j rfl)));exact Qf5 [] (uB (λz=>(.b z.1:AV)) s.symm) (uB (λz=>([.o 40 z.2.1,.o 41 z.2.2.1,.i z.2.2.2.1,.o 43 z.2.2.2.2]:K C)) s.symm)
 refine Qd<|sn [0,4] [60000] p0<|Qc ?_
 have t:Ks b c e d a=(I,b,c,e,d):=Qh k (Qh f (Qh l (Qh j rfl)));exact Qf5 [] (uB (λz=>(.b z.1:AV)) t.symm) (uB (λz=>([.o 40 z.2.1,.o 41 z.2.2.1,.i z.2.2.2.1,.o 43 z.2.2.2.2]:K C)) t.symm)
def Vc(a:W)(b:Y×(K Hk)):Rd (Qw) (Y×(K Hk)) (K Hk):=(bif decide (b.1<((((Qf a)).1).length:Y)) then(.next (uQ uR (b.1+2),b.2++ [((nth (((Qf a)).1) b.1.toNat),(((Zz (Qt (((Qf a)).1) (uQ uR (b.1+1))))).1))])) else(.brk b.2))
def Jt(x:Qw)(a:W):Qw:=(bif ((Qt (((Qf a)).1) 0).toList==(⟨#[102,105,101,108,100]⟩:W).toList) then(bif ((Qt (((Qf a)).1) 2).toList==(⟨#[105,110,116]⟩:W).toList) then((x.1.1++ [(((Qt (((Qf a)).1) 1),1):Zt)],x.1.2.1,x.1.2.2),x.2) else((x.1.1++ [(((Qt (((Qf a)).1) 1),2):Zt)],x.1.2.1,x.1.2.2),x.2)) else(bif ((Qt (((Qf a)).1) 0).toList==(⟨#[110,101,120,116]⟩:W).toList) then((x.1.1,x.1.2.1,(J0 (((Qf a)).1) 1)),x.2) else(bif ((Qt (((Qf a)).1) 0).toList==(⟨#[102,105,108,101]⟩:W).toList) then(Out.on (N2 (Vc a) (zF (Qf a).1+1) (5, [])) (λb=>((x.1.1,x.1.2.1++ [((J0 (((Qf a)).1) 1),(J0 (((Qf a)).1) 2),((Qt (((Qf a)).1) 3).toList==(⟨#[115]⟩:W).toList),(J0 (((Qf a)).1) 4),b)],x.1.2.2),x.2))) else(bif ((Qt (((Qf a)).1) 0).toList==(⟨#[100,105,114]⟩:W).toList) then(bif decide (((((Qf a)).1).length:Y)>(2:Y)) then(x.1,x.2++ [((Qt (((Qf a)).1) 1),((Jj (Am (zG 2 (((Qf a)).1))))).1)]) else(x.1,x.2++ [(((Qt (((Qf a)).1) 1), []):Yj)])) else x))))
theorem Qw7(a:W):(whl (Vc a) (zF (Qf a).1+1) (5, [])).isSome=O:=
 Qld (λs=>s.1 / 2) (((Qf a).1.length:Y) / 2+1) (λs s' c h=>by
  have hw:=(S3 a).1;unfold Vc at h;by_cases b:s.1<((Qf a).1.length:Y)
  . rw[uF b,E] at h;have h:=Rd.next.inj h;rw[←h];have e:uQ uR (s.1+2)=s.1+2:=IntWalk.i64_in _ (by omega);simp only[e];omega
  rw[uC b,G] at h;cases h) _ _ (by show(0:Y)<=5 / 2;decide) (by show _<=(5:Y) / 2+_;omega)
theorem Qu7(a:W):∃t,N2 (Vc a) (zF (Qf a).1+1) (5, [])= .brk t:=
 Qg5 (λs r h=>by
  unfold Vc at h;cases b:decide (s.1<((Qf a).1.length:Y))<;>rw[b] at h<;>simp at h) _ _ _ (Mv (Qw7 a))
theorem Qnq(x:Qw)(a:W):(Jt x a).1.1.length<=x.1.1.length+1/\(Jt x a).1.2.1.length<=x.1.2.1.length+1/\(Jt x a).2.length<=x.2.length+1:=by
 obtain⟨t,b⟩:=Qu7 a;unfold Jt;rw[b];simp only[Bool.cond_eq_ite,Out.on]
 repeat' split
 all_goals (first|omega|(simp only[zH,List.length_cons,List.length_nil];omega))
theorem SF(x:Qw)(a:W)(h1:zF x.1.1<1073741824)(d:zF x.1.2.1<1073741824)(h4:zF x.2<1073741824):AVal uS 264 [.a [.o 40 x.1.1,.o 41 x.1.2.1,.i x.1.2.2,.o 42 x.2],.s a] (.a [.o 0 ((Jt x a).1.1),.o 1 ((Jt x a).1.2.1),.i ((Jt x a).1.2.2),.o 2 ((Jt x a).2)]):=by
 refine Qlg (tt:=tt) Z7 func264 (fn:=Tryz.f264) rfl (by unfold Iy;kernel_rfl) (Nat.le_of_ble_eq_true rfl) rfl λw0 F0 hG=>?_
 refine sn [1,2,4] [2,4] p0 ?_;have aa:=S3 a;refine tn [2,4,5] [2,4] (pc 1 (Sz a) p0)<|Qa<|tu [(2,.p 2 0),(4,.p 4 0),(5,.o 960 (((Qf a)).1)),(19,.s (Qt (((Qf a)).1) 0))] [0,1] [(2, [.o 40 x.1.1,.o 41 x.1.2.1,.i x.1.2.2,.o 42 x.2]),(4, [.e 2,.e 5,.i 0,.e 2])] [] (pc 1 (U9 (((Qf a)).1) 0 (by omega)) p0)<|Qn<|sn [2,4,5,19,20] [2,4] p0<|ck ((Qt (((Qf a)).1) 0).toList==(⟨#[102,105,101,108,100]⟩:W).toList) (λd=>?_) (λd=>?_)
 ·refine tn [2,4,5,7] [2,4,7] (pc 1 (U9 (((Qf a)).1) 1 (by omega)) p0)<|Qa<|tu [(7,.p 7 0),(27,.b ((Qt (((Qf a)).1) 2).toList==(⟨#[105,110,116]⟩:W).toList))] [5,19] [(7, [.s (Qt (((Qf a)).1) 1),.i 2])] [] (pc 1 (U9 (((Qf a)).1) 2 (by omega)) p0)<|ck ((Qt (((Qf a)).1) 2).toList==(⟨#[105,110,116]⟩:W).toList) (λm=>?_) (λm=>?_)
  ·refine rn [2,4,7] [2,4,7] p0 ?_;refine wB 2 0 (.own O 40) x.1.1 (λab ad=>?_);refine qu [] [7,27] [(2, [.slc (.own O 2176) 2 (eA x.1.1 (((Qt (((Qf a)).1) 1),1):Zt)),.o 41 x.1.2.1,.i x.1.2.2,.o 42 x.2])] [2,7] (pa x.1.1 [(((Qt (((Qf a)).1) 1),1):Zt)] p0) ?_;refine eqn [] [] [(2, [.o 2176 (x.1.1++ [(((Qt (((Qf a)).1) 1),1):Zt)]),.o 41 x.1.2.1,.i x.1.2.2,.o 42 x.2])] [2] (by rw[Wu]<;>kernel_rfl) ?_;exact sn [4] [4] p0<|Qc<|pz [] (show Jt x a=_ from Qu d (Qu m rfl)) (λz=> .a [.o 0 z.1.1,.o 1 z.1.2.1,.i z.1.2.2,.o 2 z.2])
  refine Qd<|wB 2 0 (.own O 40) x.1.1 (λae af=>?_)
  refine ru [] [7,27] [(2, [.slc (.own O 2176) 2 (eA x.1.1 (((Qt (((Qf a)).1) 1),2):Zt)),.o 41 x.1.2.1,.i x.1.2.2,.o 42 x.2])] [2,7] (pa x.1.1 [(((Qt (((Qf a)).1) 1),2):Zt)] p0) ?_;refine eqn [] [] [(2, [.o 2176 (x.1.1++ [(((Qt (((Qf a)).1) 1),2):Zt)]),.o 41 x.1.2.1,.i x.1.2.2,.o 42 x.2])] [2] (by rw[Wu]<;>kernel_rfl) ?_;exact sn [4] [4] p0<|Qc<|pz [] (show Jt x a=_ from Qu d (Qh m rfl)) (λz=> .a [.o 0 z.1.1,.o 1 z.1.2.1,.i z.1.2.2,.o 2 z.2])
 refine tn [2,4,5,19,37] [2,4] p0<|ck ((Qt (((Qf a)).1) 0).toList==(⟨#[110,101,120,116]⟩:W).toList) (λi=>?_) (λi=>?_)
 ·refine qu [] [5,19] [(2, [.o 40 x.1.1,.o 41 x.1.2.1,.i (J0 (((Qf a)).1) 1),.o 42 x.2])] [2] (pc 1 (Rs (((Qf a)).1) 1 (by omega)) p0) ?_;exact sn [4] [4] p0<|Qc<|pz [] (show Jt x a=_ from Qh d (Qu i rfl)) (λz=> .a [.o 0 z.1.1,.o 1 z.1.2.1,.i z.1.2.2,.o 2 z.2])
 refine tu [(43,.b ((Qt (((Qf a)).1) 0).toList==(⟨#[102,105,108,101]⟩:W).toList))] [] [] [] p0<|ck ((Qt (((Qf a)).1) 0).toList==(⟨#[102,105,108,101]⟩:W).toList) (λj=>?_) (λj=>?_)
 ·refine sn [2,4,5,8] [2,4,8] (pc 1 (Rs (((Qf a)).1) 1 (by omega)) (pc 3 (Rs (((Qf a)).1) 2 (by omega)) (pc 5 (U9 (((Qf a)).1) 3 (by omega)) (pc 8 (Rs (((Qf a)).1) 4 (by omega)) p0))))<|Qa<|tn [2,4,5,8,9] [2,4,8] p0<|mz [(8,.p 8 0),(9,.i 5)] [19,43] [(8, [.i (J0 (((Qf a)).1) 1),.i (J0 (((Qf a)).1) 2),.b ((Qt (((Qf a)).1) 3).toList==(⟨#[115]⟩:W).toList),.i (J0 (((Qf a)).1) 4),.e 4])] []<|blw (λ(b:Y×(K Hk))=> [(9,.i b.1)]) [9] (λb=> [(8, [.i (J0 (((Qf a)).1) 1),.i (J0 (((Qf a)).1) 2),.b ((Qt (((Qf a)).1) 3).toList==(⟨#[115]⟩:W).toList),.i (J0 (((Qf a)).1) 4),.o 104 b.2])]) [8] (λ(g:K Hk)=> []) [5,9] (λg=> [(8, [.i (J0 (((Qf a)).1) 1),.i (J0 (((Qf a)).1) 2),.b ((Qt (((Qf a)).1) 3).toList==(⟨#[115]⟩:W).toList),.i (J0 (((Qf a)).1) 4),.o 106 g])]) [8] (λ(s:H) (b:Y×(K Hk))=>whl (Vc a) s b=uD (N2 (Vc a) (zF (Qf a).1+1) (5, []))/\5<=b.1/\b.1<=(zF (Qf a).1:Y)+5/\2*(zF b.2:Y)+5=b.1) (λ(g:K Hk)=>(N2 (Vc a) (zF (Qf a).1+1) (5, []))= .brk g) (zF (Qf a).1+1) (5, []) (wgf [(O,8,4,O,320008,4)] [] [] [(320008,104)]) ⟨Mv (Qw7 a),(by first | omega | rfl | (simp;omega) | (simp;done)),(by first | omega | rfl | (simp;omega) | (simp;done)),(by first | omega | rfl | (simp;omega) | (simp;done))⟩ (λ_ h=>P9 h.1) (λs b U=>?_) (λg o=>?_)
  ·have p:=U.2.1;have q:=U.2.2.1;have r:=U.2.2.2;have e1:uQ uR (b.1+1)=b.1+1:=IntWalk.i64_in _ (by have:=(S3 a).1;omega);have e2:uQ uR (b.1+2)=b.1+2:=IntWalk.i64_in _ (by have:=(S3 a).1;omega);refine Qa<|sn [2,4,5,8,9,58] [2,4,8] (pl 2 (((Qf a)).1) p0)<|ck (decide (b.1<((((Qf a)).1).length:Y))) (λe=>?_) (λe=>?_)
   ·have t:=uK e;refine Qd<|Qa<|Qn<|tn [2,4,5,8,9,10] [2,4,8,10] (pc 3 (U9 (((Qf a)).1) (uQ uR (b.1+1)) (by omega)) (pc 4 (QK (Qt (((Qf a)).1) (uQ uR (b.1+1)))) p0))<|wT 5 0 (.own O 960) (((Qf a)).1) (λu v=>?_)
    have k:=ng (((Qf a)).1) b.1.toNat;refine wB 8 4 (.own O 104) b.2 (λw a1=>?_);refine qU [] [] [(8, [.i (J0 (((Qf a)).1) 1),.i (J0 (((Qf a)).1) 2),.b ((Qt (((Qf a)).1) 3).toList==(⟨#[115]⟩:W).toList),.i (J0 (((Qf a)).1) 4),.slc (.own O 4992) 4 (eA b.2 ((nth (((Qf a)).1) b.1.toNat),(((Zz (Qt (((Qf a)).1) (uQ uR (b.1+1))))).1)))])] [8] (pG 4 b.1 k (pa b.2 [((nth (((Qf a)).1) b.1.toNat),(((Zz (Qt (((Qf a)).1) (uQ uR (b.1+1))))).1))] p0)) ?_;refine eqn [] [] [(8, [.i (J0 (((Qf a)).1) 1),.i (J0 (((Qf a)).1) 2),.b ((Qt (((Qf a)).1) 3).toList==(⟨#[115]⟩:W).toList),.i (J0 (((Qf a)).1) 4),.o 4992 (b.2++ [((nth (((Qf a)).1) b.1.toNat),(((Zz (Qt (((Qf a)).1) (uQ uR (b.1+1))))).1))])])] [8] (by rw[Wu]<;>kernel_rfl) ?_;refine rn [2,4,5,8,9] [2,4,8] p0 ?_;exact zM (uQ uR (b.1+2),b.2++ [((nth (((Qf a)).1) b.1.toNat),(((Zz (Qt (((Qf a)).1) (uQ uR (b.1+1))))).1))]) (zR (wsf [(4992,104)]) ⟨wn U.1 (Qu e rfl),(by first|omega|(simp;omega)),(by first|omega|(simp;omega)),(by first|omega|(simp;omega))⟩)
   exact Qv<|zM _ (zR (wsf [(104,106)]) (wb U.1 (Qh e rfl)))
  refine wB 2 1 (.own O 41) x.1.2.1 (λa2 a3=>?_);refine ru [] [8] [(2, [.o 40 x.1.1,.slc (.own O 5440) 5 (eA x.1.2.1 ((J0 (((Qf a)).1) 1),(J0 (((Qf a)).1) 2),((Qt (((Qf a)).1) 3).toList==(⟨#[115]⟩:W).toList),(J0 (((Qf a)).1) 4),g)),.i x.1.2.2,.o 42 x.2])] [2,8] (pa x.1.2.1 [((J0 (((Qf a)).1) 1),(J0 (((Qf a)).1) 2),((Qt (((Qf a)).1) 3).toList==(⟨#[115]⟩:W).toList),(J0 (((Qf a)).1) 4),g)] p0) ?_;refine eqn [] [] [(2, [.o 40 x.1.1,.o 5440 (x.1.2.1++ [((J0 (((Qf a)).1) 1),(J0 (((Qf a)).1) 2),((Qt (((Qf a)).1) 3).toList==(⟨#[115]⟩:W).toList),(J0 (((Qf a)).1) 4),g)]),.i x.1.2.2,.o 42 x.2])] [2] (by rw[Wu]<;>kernel_rfl) ?_;exact sn [4] [4] p0<|Qc<|pz [] (show Jt x a=_ from Qh d (Qh i (Qu j (Vz o rfl)))) (λz=> .a [.o 0 z.1.1,.o 1 z.1.2.1,.i z.1.2.2,.o 2 z.2])
 refine sn [2,4,5,88] [2,4] p0<|ck ((Qt (((Qf a)).1) 0).toList==(⟨#[100,105,114]⟩:W).toList) (λf=>?_) (λf=>?_)
 ·refine tn [2,4,5,12] [2,4,12] (pc 1 (U9 (((Qf a)).1) 1 (by omega)) p0)<|Qa<|tu [(12,.p 12 0),(95,.b (decide (((((Qf a)).1).length:Y)>(2:Y))))] [19,43] [(12, [.s (Qt (((Qf a)).1) 1),.e 7])] [] (pl 1 (((Qf a)).1) p0)<|ck (decide (((((Qf a)).1).length:Y)>(2:Y))) (λc=>?_) (λc=>?_)
  ·have l:=uK c;refine wT 5 0 (.own O 960) (((Qf a)).1) (λa4 a5=>?_);refine rn [2,4,12] [2,4,12] (pe 1 (JS (.vw 960) 1 2 2 (((Qf a)).1) rfl) (px (Nc (lo:=2) (hi:=(((eL (((Qf a)).1)):K (K PV)).length:Y)) (n:=(zF (eL (((Qf a)).1)))) (JT (by omega) (by omega))) (pc 2 (UB (zG 2 (((Qf a)).1)) (by first | exact(S3 _).1 | (simp only[yB];have:=(S3 a).1;omega)) (by first | exact(S3 _).2 | exact λy hy=>(S3 a).2 y (yF hy))) (pc 3 (CP (Am (zG 2 (((Qf a)).1)))) p0)))) ?_;refine wB 2 3 (.own O 42) x.2 (λa6 a7=>?_);refine qu [] [5,12,95] [(2, [.o 40 x.1.1,.o 41 x.1.2.1,.i x.1.2.2,.slc (.own O 6912) 2 (eA x.2 ((Qt (((Qf a)).1) 1),((Jj (Am (zG 2 (((Qf a)).1))))).1))])] [2,12] (pa x.2 [((Qt (((Qf a)).1) 1),((Jj (Am (zG 2 (((Qf a)).1))))).1)] p0) ?_;refine eqn [] [] [(2, [.o 40 x.1.1,.o 41 x.1.2.1,.i x.1.2.2,.o 6912 (x.2++ [((Qt (((Qf a)).1) 1),((Jj (Am (zG 2 (((Qf a)).1))))).1)])])] [2] (by rw[Wu]<;>kernel_rfl) ?_;exact sn [4] [4] p0<|Qc<|pz [] (show Jt x a=_ from Qh d (Qh i (Qh j (Qu f (Qu c rfl))))) (λz=> .a [.o 0 z.1.1,.o 1 z.1.2.1,.i z.1.2.2,.o 2 z.2])
  have l:=uE c;refine Qd<|wB 2 3 (.own O 42) x.2 (λa8 a9=>?_)
  refine ru [] [5,12,95] [(2, [.o 40 x.1.1,.o 41 x.1.2.1,.i x.1.2.2,.slc (.own O 6912) 2 (eA x.2 (((Qt (((Qf a)).1) 1), []):Yj))])] [2,12] (pa x.2 [(((Qt (((Qf a)).1) 1), []):Yj)] p0) ?_;refine eqn [] [] [(2, [.o 40 x.1.1,.o 41 x.1.2.1,.i x.1.2.2,.o 6912 (x.2++ [(((Qt (((Qf a)).1) 1), []):Yj)])])] [2] (by rw[Wu]<;>kernel_rfl) ?_;exact sn [4] [4] p0<|Qc<|pz [] (show Jt x a=_ from Qh d (Qh i (Qh j (Qu f (Qh c rfl))))) (λz=> .a [.o 0 z.1.1,.o 1 z.1.2.1,.i z.1.2.2,.o 2 z.2])
 exact Qd<|tn [4] [4] p0<|Qc<|pz [] (show Jt x a=_ from Qh d (Qh i (Qh j (Qh f rfl)))) (λz=> .a [.o 0 z.1.1,.o 1 z.1.2.1,.i z.1.2.2,.o 2 z.2])
def E9(a:Z)(b:H)(c:W)(_:uH):Rd (D) (uH) (uH):=(bif (!(c.toList==(nth a b).toList)) then(.ret I) else(.next ()))
def Fa(_:H)(_:uH):uH:=()
def W4(a:Z)(b:Z):D:=(bif ((a.length:Y) !=(b.length:Y)) then I else(Out.on (X5 (E9 b) Fa a 0 ()) (λ_=>O)))
theorem N5(a:Z)(b:Z):ACalls uS 59 [.h a,.h b] (.b (W4 a b)):=by
 refine en func59 λ_ _ _=>sn [0,1,4] [] p0 ?_
 refine Qa<|tn [0,1,4,10] [] (pl 1 a (pl 3 b p0))<|ck ((a.length:Y) !=(b.length:Y)) (λe=>?_) (λe=>?_)
 ·exact tu [(4,.b I)] [] [] [] p0<|Qc<|pb [] (Qu e rfl)
 have k:=Ut e;refine Qd<|Qa<|tu [(4,.b I),(12,.i (a.length:Y)),(13,.i 0)] [] [] [] (pl 1 a p0)<|wT 0 0 .sh a (λm n=>?_)
 refine S8 (E9 b) Fa a () (λc _=> [(13,.i (c:Y))]) [13] (λ_=> []) [0,1,12,13] wf0 (λc o d U=>?_) (λc o d U=>?_) (λs f=>?_)
 ·obtain⟨p,V⟩:=Xn (l:=a) (i:=c) d;refine su [(14,.b O)] [] [] [] (pe 0 (zB ((c:Y)<(a.length:Y))) p0)<|Qa<|ckT<|Qd<|Qa<|Qn<|sn [0,1,4,5,12,13] [] p0<|wT 1 0 .sh b (λq r=>?_)
  have g:=ng b c;refine tN [0,1,4,12,13,24] [] (pn 2 V (pn 6 g p0))<|ck (!(p.toList==(nth b c).toList)) (λh=>?_) (λh=>?_)
  ·refine tu [] [14] [] [] p0<|Qc ?_
   have j:(X5 (E9 b) Fa a 0 ())= .ret I:=Kc V (Qu h rfl) U;exact pb [] (Qh e (Pe j))
  refine Qd<|qu [(13,.i ((c+1:H):Y))] [13,14] [] [] (pw 0 c p0) ?_
  exact xw _ (Qp V (Qh h rfl) U)
 ·exact sn [0,1,4,12,13,14] [] (pe 0 (zC ((c:Y)<(a.length:Y))) p0)<|Qa<|ckF<|Qv<|xw _ (Xo d rfl U)
 exact sn [4] [] p0<|Qc<|pb [] (Qh e (Vz f rfl))
def H8(_:H)(c:W)(b:Qw):Rd (Qw×D) (Qw) (Qw):=(lt (Ks b.1.1 b.1.2.1 b.1.2.2 b.2 c) (λa=>(bif (!a.1) then(.ret ((([], [],0), []),I)) else(.next ((a.2.1,a.2.2.1,a.2.2.2.1),a.2.2.2.2)))))
def Ci(_:H)(a:Qw):Qw:=a
def X9(a:Z):Qw×D:=(Out.on (X5 H8 Ci a 0 (([], [],0), [])) (λb=>(bif ((!(Qs b))|| (!(W4 (Xb b) a))) then((([], [],0), []),I) else(b,O))))
theorem ZG(a:Z)(u:∀y,y∈a->zD y<=1073741000):ACalls uS 250 [.h a] (.tup [(O, [.o 0 ((((X9 a)).1).1.1),.o 1 ((((X9 a)).1).1.2.1),.i ((((X9 a)).1).1.2.2),.o 2 ((((X9 a)).1).2)]),(I, [.b (((X9 a)).2)])]):=by
 refine en func250 λ_ _ _=>sn [0,2,3] [2] p0 ?_
 refine tn [0,2,3,4] [2,4] p0<|Qa<|tu [(2,.p 2 0),(3,.b I),(4,.p 4 0),(8,.h a),(9,.i (a.length:Y)),(10,.i 0)] [] [(2, [.e 2,.e 5,.i 0,.e 2]),(4, [.e 2,.e 5,.i 0,.e 2])] [] (pl 1 a p0)<|wT 0 0 .sh a (λv w=>?_)
 refine LC H8 Ci a (([], [],0), []) (λd _=> [(10,.i (d:Y))]) [10] (λ_ b=> [(4, [.o 104 b.1.1,.o 105 b.1.2.1,.i b.1.2.2,.o 106 b.2])]) [4] (λ_=> []) [8,9,10] (λc=> [(4, [.o 107 c.1.1,.o 108 c.1.2.1,.i c.1.2.2,.o 109 c.2])]) [4] (λd b=>zF b.1.1<=d/\zF b.1.2.1<=d/\zF b.2<=d) (wgf [(O,4,0,O,320008,2),(O,4,1,O,320009,5),(O,4,3,O,320010,2)] [] [] [(320008,104),(320009,105),(320010,106)]) ⟨(by exact zW _),(by exact zW _),(by exact zW _)⟩ (λd b g U=>?_) (λd b g U=>?_) (λc n=>?_)
 ·have h:=U.2.1;have j:=U.2.2.1;have k:=U.2.2.2;obtain⟨q,V⟩:=Xn (l:=a) (i:=d) g;refine su [(11,.b O)] [] [] [] (pe 0 (zB ((d:Y)<(a.length:Y))) p0)<|Qa<|ckT<|Qd<|Qa<|Qn<|su [(6,.s q)] [11] [] [] (pn 0 V p0) ?_
  obtain⟨e,f⟩:=nm (Ks b.1.1 b.1.2.1 b.1.2.2 b.2 q);have o:=Qnp b.1.1 b.1.2.1 b.1.2.2 b.2 q;rw[f] at o;refine sn [0,2,3,4,8,9,10,16] [2,4] (po 1 (.give uG (.b e.1) [.o 40 e.2.1,.o 41 e.2.2.1,.i e.2.2.2.1,.o 43 e.2.2.2.2]) (px (Pb (f▸Qiv b.1.1 b.1.2.1 b.1.2.2 b.2 q (u _ (zS V)) (by omega) (by omega) (by omega))) p0))<|ck (!e.1) (λr=>?_) (λr=>?_)
  ·refine tn [0,2,3,4,8,9,10] [2,4] p0<|opn [(O,2,0,O,110,2),(O,2,1,O,111,5),(O,2,3,O,112,2)] ?_
   refine Qc ?_;have s:(X5 H8 Ci a 0 (([], [],0), []))= .ret ((([], [],0), []),I):=Kc V (by exact XN f (Qu r rfl)) U.1;exact pz [] (show X9 a=_ from Pe s) (λz=> .tup [(O, [.o 0 z.1.1.1,.o 1 z.1.1.2.1,.i z.1.1.2.2,.o 2 z.1.2]),(I, [.b z.2])])
  refine Qd<|qn [0,2,3,4,8,9,10] [2,4] (pw 0 d p0) ?_
  exact zM ((e.2.1,e.2.2.1,e.2.2.2.1),e.2.2.2.2) (zR (wsf [(1000,104),(1001,105),(1003,106)]) ⟨Qp V (XN f (Qh r rfl)) U.1,(by first|omega|(dsimp only;omega)),(by first|omega|(dsimp only;omega)),(by first|omega|(dsimp only;omega))⟩)
 ·have h:=U.2.1;have j:=U.2.2.1;have k:=U.2.2.2;exact su [(11,.b I)] [] [] [] (pe 0 (zC ((d:Y)<(a.length:Y))) p0)<|Qa<|ckF<|Qv<|zM _ (zR (wsf [(104,107),(105,108),(106,109)]) (Xo g rfl U.1))
 refine Qa<|Qa<|jn [(28,.b ((!(Qs c))|| (!(W4 (Xb c) a))))] [0] [] [] (!(Qs c)) (λp=>?_) (λp=>?_) ?_
 ·have m:(Qs c)=I:=Kj p;exact rn [2,3,4,28] [2,4] (pc 1 (cb m (H5 c)) (pe 2 (show .b (!I)= .b O from rfl) p0))<|zA (by rw[p]<;>kernel_rfl)
 ·have m:(Qs c)=O:=Yu p;exact rn [2,3,4,28] [2,4] (pc 1 (cb m (H5 c)) (pe 2 (show .b (!O)= .b I from rfl) (pc 5 (Cs c) (pc 7 (N5 (Xb c) a) p0))))<|zA (by rw[p]<;>kernel_rfl)
 refine ck ((!(Qs c))|| (!(W4 (Xb c) a))) (λt=>?_) (λt=>?_)
 ·refine su [] [28] [] [] p0<|opn [(O,2,0,O,110,2),(O,2,1,O,111,5),(O,2,3,O,112,2)] ?_
  exact Qc<|pz [] (show X9 a=_ from Vz n (Qu t rfl)) (λz=> .tup [(O, [.o 0 z.1.1.1,.o 1 z.1.1.2.1,.i z.1.1.2.2,.o 2 z.1.2]),(I, [.b z.2])])
 exact Qd<|sn [2,3] [2] p0<|Qc<|pz [] (show X9 a=_ from Vz n (Qh t rfl)) (λz=> .tup [(O, [.o 0 z.1.1.1,.o 1 z.1.1.2.1,.i z.1.1.2.2,.o 2 z.1.2]),(I, [.b z.2])])
def Cj(_:H)(a:W)(b:Qw):Rd (Qw×D) (Qw) (Qw):=(lt (Jt b a) (λc=>(.next c)))
def Fb(_:H)(a:Qw):Qw:=a
def Yc(a:Z):Qw×D:=(Out.on (X5 Cj Fb a 0 (([], [],0), [])) (λb=>(bif ((!(X4 b))|| (!(C7 (Yp b) a))) then((([], [],0), []),I) else(b,O))))
theorem ZH(a:Z)(u:∀y,y∈a->zD y<=1073741000):ACalls uS 212 [.h a] (.tup [(O, [.o 0 ((((Yc a)).1).1.1),.o 1 ((((Yc a)).1).1.2.1),.i ((((Yc a)).1).1.2.2),.o 2 ((((Yc a)).1).2)]),(I, [.b (((Yc a)).2)])]):=by
 refine en func212 λ_ _ _=>sn [0,2,3] [2] p0 ?_
 refine tn [0,2,3,4] [2,4] p0<|Qa<|tu [(2,.p 2 0),(3,.b I),(4,.p 4 0),(5,.i 0)] [] [(2, [.e 2,.e 5,.i 0,.e 2]),(4, [.e 2,.e 5,.i 0,.e 2])] [] p0<|wT 0 0 .sh a (λs t=>?_)
 refine LC Cj Fb a (([], [],0), []) (λd _=> [(5,.i (d:Y))]) [5] (λ_ c=> [(2, [.slc (.own O 104) 2 [],.e 5,.i 0,.e 2]),(4, [.o 105 c.1.1,.o 106 c.1.2.1,.i c.1.2.2,.o 107 c.2])]) [2,4] (λ_=> []) [5] (λb=> [(2, [.slc (.own O 108) 2 [],.e 5,.i 0,.e 2]),(4, [.o 109 b.1.1,.o 110 b.1.2.1,.i b.1.2.2,.o 111 b.2])]) [2,4] (λd c=>zF c.1.1<=d/\zF c.1.2.1<=d/\zF c.2<=d) (wgf [(O,2,0,O,320008,2),(O,4,0,O,320009,2),(O,4,1,O,320010,5),(O,4,3,O,320011,2)] [] [] [(320008,104),(320009,105),(320010,106),(320011,107)]) ⟨(by exact zW _),(by exact zW _),(by exact zW _)⟩ (λd c e U=>?_) (λd c e U=>?_) (λb m=>?_)
 ·have f:=U.2.1;have g:=U.2.2.1;have h:=U.2.2.2;obtain⟨q,V⟩:=Xn (l:=a) (i:=d) e;refine Qa<|su [(10,.b O)] [] [] [] (pl 2 a (pe 3 (zB ((d:Y)<(a.length:Y))) p0))<|ckT<|Qd<|Qa<|Qn ?_
  obtain⟨n,j⟩:=nm ((Jt c q));have o:=Qnq c q;rw[j] at o;refine rN [0,2,3,4,5] [2,4] (pn 3 V (po 5 (.giv [105,106,107] (.a [.o 0 n.1.1,.o 1 n.1.2.1,.i n.1.2.2,.o 2 n.2])) (px (Qfz (j▸SF c q (by omega) (by omega) (by omega))) p0))) ?_;refine qn [0,2,3,4,5] [2,4] (pw 1 d p0) ?_;exact zM n (zR (wsf [(1152,105),(1153,106),(1154,107)]) ⟨Qp V (XN j rfl) U.1,(by first|omega|(dsimp only;omega)),(by first|omega|(dsimp only;omega)),(by first|omega|(dsimp only;omega))⟩)
 ·have f:=U.2.1;have g:=U.2.2.1;have h:=U.2.2.2;exact Qa<|su [(10,.b I)] [] [] [] (pl 2 a (pe 3 (zC ((d:Y)<(a.length:Y))) p0))<|ckF<|Qv<|zM _ (zR (wsf [(104,108),(105,109),(106,110),(107,111)]) (Xo e rfl U.1))
 refine Qa<|Qa<|jn [(28,.b ((!(X4 b))|| (!(C7 (Yp b) a))))] [0] [] [] (!(X4 b)) (λp=>?_) (λp=>?_) ?_
 ·have k:(X4 b)=I:=Kj p;exact rn [2,3,4,28] [2,4] (pc 1 (cb k (H6 b)) (pe 2 (show .b (!I)= .b O from rfl) p0))<|zA (by rw[p]<;>kernel_rfl)
 ·have k:(X4 b)=O:=Yu p;exact rn [2,3,4,28] [2,4] (pc 1 (cb k (H6 b)) (pe 2 (show .b (!O)= .b I from rfl) (pc 5 (Ct b) (pc 7 (JE (Yp b) a) p0))))<|zA (by rw[p]<;>kernel_rfl)
 refine ck ((!(X4 b))|| (!(C7 (Yp b) a))) (λr=>?_) (λr=>?_)
 ·refine sn [2,3,4] [2,4] p0<|opn [(O,2,0,O,112,2),(O,2,1,O,113,5),(O,2,3,O,114,2)] ?_
  exact Qc<|pz [] (show Yc a=_ from Vz m (Qu r rfl)) (λz=> .tup [(O, [.o 0 z.1.1.1,.o 1 z.1.1.2.1,.i z.1.1.2.2,.o 2 z.1.2]),(I, [.b z.2])])
 exact Qd<|sn [2,3] [2] p0<|Qc<|pz [] (show Yc a=_ from Vz m (Qh r rfl)) (λz=> .tup [(O, [.o 0 z.1.1.1,.o 1 z.1.1.2.1,.i z.1.1.2.2,.o 2 z.1.2]),(I, [.b z.2])])
theorem SG(s:W):∀(a:K uI) (k b:H) (o:K W) (cur:K uI),s.data.toList.drop k=a->b<=k->k<=s.size->cur=(s.data.toList.drop b).take (k-b)->10∉cur->
 Vj (L4 s) Oq a.length k (o,(b:Y))= .brk (o++((FO 10 (cur++a)).map Ej).dropLast)
 | [],k,b,o,cur,_,_,_,_,hc=>by
   rw[zP,Qeu hc];simp[Vj,Oq]
 | c ::a,k,b,o,cur,hr,hb,hk,hcur,hc=>by
   obtain⟨i,hd,g⟩:=P0 hr;rw[Ij] at g;have p:cur.length=k-b:=by rw[hcur,List.length_take,yB,Ij];omega
   rw[List.length_cons]
   have f:L4 s k (o,(b:Y))=(bif ((c.toNat:Y)==(10:Y)) then(.next (o++ [Ej cur],((k+1:H):Y))) else(.next (o,(b:Y)))):=by
    unfold L4;rw[S1 i];simp only[zZ];rw[YL,←hcur]
   by_cases d:c=10
   . subst d;rw[show(((10:uI).toNat:Y)==(10:Y))=O from rfl,E] at f;rw[Tx f,SG s a (k+1) (k+1) _ [] hd (yE _) (by omega) (by rw[Nat.sub_self];rfl) (by simp),SB a hc,zJ,List.nil_append];obtain⟨q,r,j⟩:=FP 10 a;rw[j];rfl
   have l:((c.toNat:Y)==(10:Y))=I:=by
    cases m:((c.toNat:Y)==(10:Y)) with
    | false=>rfl
    | true=>exact absurd (UInt8.toNat_inj.1 (show c.toNat=(10:uI).toNat by have:=eq_of_beq m;have e:(10:uI).toNat=10:=rfl;omega)) d
   rw[l,G] at f;rw[Tx f,SG s a (k+1) b o (cur++ [c]) hd (by omega) (by omega) ?_ ?_,zJ,List.singleton_append]
   . have:(s.data.toList.drop b)[k-b]? =uD c:=by rw[List.getElem?_drop,show b+(k-b)=k by omega];exact i
     rw[show k+1-b=(k-b)+1 by omega,List.take_add_one,this,←hcur];rfl
   exact λn=>(yA.1 n).elim hc λh=>d (zO.1 h).symm
theorem Qg6(s:W):Z0 s=(Q7 10 s).dropLast:=by
 unfold Z0;have h:=SG s s.data.toList 0 0 [] [] rfl (yE _) (zW _) rfl (by simp);rw[Ij] at h;rw[show yH (zD s:Y)=s.size by omega,show(([]:K W),(0:Y))=([],((0:H):Y)) from rfl,h];rfl
theorem Qrb{s:W}{n:H}(h:s.size<=n):∀y,y∈Z0 s->y.size<=n:=λy a=>by
 rw[Qg6] at a;have:=(YZ 10 s).2 y ((List.dropLast_sublist _).subset a);omega
def Q5(a:W):Y×Qw×D:=(bif decide (((Q7 10 a).length:Y)<(2:Y)) then(0,(([], [],0), []),I) else(bif ((!((Ql (nth (Q7 10 a) 0)).2))|| ((!(((X9 (zG 1 (zT (((Q7 10 a).length:Y)-1).toNat (Q7 10 a))))).2))|| (!((Uf ((Ql (nth (Q7 10 a) 0)).1) (((X9 (zG 1 (zT (((Q7 10 a).length:Y)-1).toNat (Q7 10 a))))).1)).toList==a.toList)))) then(0,(([], [],0), []),I) else((Ql (nth (Q7 10 a) 0)).1,(((X9 (zG 1 (zT (((Q7 10 a).length:Y)-1).toNat (Q7 10 a))))).1),O)))
theorem QO(a:W)(i:zD a<=1073741000):ACalls uS 180 [.s a] (.tup [(I, [.i (((Q5 a)).1)]),(O, [.o 0 ((((Q5 a)).2.1).1.1),.o 1 ((((Q5 a)).2.1).1.2.1),.i ((((Q5 a)).2.1).1.2.2),.o 2 ((((Q5 a)).2.1).2)]),(I, [.b (((Q5 a)).2.2)])]):=by
 refine en func180 λ_ _ _=>?_
 have j:=AP 10 a;refine sn [0,2,3,4] [3] p0<|stT 0 0 a (λk=>?_)
 refine tn [0,2,3,4,5] [3] (pc 1 (ZT a 10 (by omega)) p0)<|Qa<|tu [(2,.i 0),(3,.p 3 0),(4,.b I),(5,.o 704 (Q7 10 a)),(14,.b (decide (((Q7 10 a).length:Y)<(2:Y))))] [] [(3, [.e 2,.e 5,.i 0,.e 2])] [] (pl 1 (Q7 10 a) p0)<|ck (decide (((Q7 10 a).length:Y)<(2:Y))) (λe=>?_) (λe=>?_)
 ·refine su [] [14] [] [] p0<|opn [(O,3,0,O,104,2),(O,3,1,O,105,5),(O,3,3,O,106,2)] ?_
  exact Qc<|pz [] (show Q5 a=_ from Qu e rfl) (λz=> .tup [(I, [.i z.1]),(O, [.o 0 z.2.1.1.1,.o 1 z.2.1.1.2.1,.i z.2.1.1.2.2,.o 2 z.2.1.2]),(I, [.b z.2.2])])
 have l:=uE e;refine Qd<|wT 5 0 (.own O 704) (Q7 10 a) (λm o=>?_)
 have g:=ng (Q7 10 a) 0;refine sn [0,2,3,4,5,6,7] [3] (pG 1 0 g (pc 3 (C1 (nth (Q7 10 a) 0)) p0))<|tn [0,2,3,4,6,7,8,9] [3,8] (pl 2 (Q7 10 a) (pe 3 (Nn (IntWalk.i64_in (((Q7 10 a).length:Y)-1) (by omega))) (pe 4 (Qwf (.vw 704) 1 1 (((Q7 10 a).length:Y)-1).toNat 1 (((Q7 10 a).length:Y)-1) (Q7 10 a) rfl rfl) (px (Nc (lo:=1) (hi:=(((Q7 10 a).length:Y)-1)) (n:=(zF (eL (Q7 10 a)))) (Qk7 (by omega) (by omega) (by omega))) (pc 5 (ZG (zG 1 (zT (((Q7 10 a).length:Y)-1).toNat (Q7 10 a))) (λy p=>zQ ((YZ 10 a).2 y (List.mem_of_mem_take (yF p))) i)) p0)))))<|Qa<|Qa<|mz [(6,.i ((Ql (nth (Q7 10 a) 0)).1)),(7,.b ((Ql (nth (Q7 10 a) 0)).2)),(8,.p 8 0),(9,.b (((X9 (zG 1 (zT (((Q7 10 a).length:Y)-1).toNat (Q7 10 a))))).2))] [5,14] [(8, [.o 1856 ((((X9 (zG 1 (zT (((Q7 10 a).length:Y)-1).toNat (Q7 10 a))))).1).1.1),.o 1857 ((((X9 (zG 1 (zT (((Q7 10 a).length:Y)-1).toNat (Q7 10 a))))).1).1.2.1),.i ((((X9 (zG 1 (zT (((Q7 10 a).length:Y)-1).toNat (Q7 10 a))))).1).1.2.2),.o 1858 ((((X9 (zG 1 (zT (((Q7 10 a).length:Y)-1).toNat (Q7 10 a))))).1).2)])] []<|jn [(44,.b ((!((Ql (nth (Q7 10 a) 0)).2))|| ((!(((X9 (zG 1 (zT (((Q7 10 a).length:Y)-1).toNat (Q7 10 a))))).2))|| (!((Uf ((Ql (nth (Q7 10 a) 0)).1) (((X9 (zG 1 (zT (((Q7 10 a).length:Y)-1).toNat (Q7 10 a))))).1)).toList==a.toList)))))] [0,7,9] [] [] (!((Ql (nth (Q7 10 a) 0)).2)) (λd=>?_) (λd=>?_) ?_
 ·have b:((Ql (nth (Q7 10 a) 0)).2)=I:=Kj d;exact rn [2,3,4,6,8,44] [3,8] (pf 0 b (pe 1 (show .b (!I)= .b O from rfl) p0))<|zA (by rw[d]<;>kernel_rfl)
 ·have b:((Ql (nth (Q7 10 a) 0)).2)=O:=Yu d;refine Ye (!(((X9 (zG 1 (zT (((Q7 10 a).length:Y)-1).toNat (Q7 10 a))))).2)) (λf=>?_) (λf=>?_)
  ·have c:(((X9 (zG 1 (zT (((Q7 10 a).length:Y)-1).toNat (Q7 10 a))))).2)=I:=Kj f;exact rn [2,3,4,6,8,44] [3,8] (pt 0 b (pe 1 (show .b (!O)= .b I from rfl) (pf 3 c (pe 4 (show .b (!I)= .b O from rfl) p0))))<|zA (by rw[d,f]<;>kernel_rfl)
  have c:(((X9 (zG 1 (zT (((Q7 10 a).length:Y)-1).toNat (Q7 10 a))))).2)=O:=Yu f;exact rn [2,3,4,6,8,44] [3,8] (pt 0 b (pe 1 (show .b (!O)= .b I from rfl) (pt 3 c (pe 4 (show .b (!O)= .b I from rfl) (pc 9 (QM ((Ql (nth (Q7 10 a) 0)).1) (((X9 (zG 1 (zT (((Q7 10 a).length:Y)-1).toNat (Q7 10 a))))).1)) p0)))))<|zA (by rw[d,f]<;>kernel_rfl)
 refine ck ((!((Ql (nth (Q7 10 a) 0)).2))|| ((!(((X9 (zG 1 (zT (((Q7 10 a).length:Y)-1).toNat (Q7 10 a))))).2))|| (!((Uf ((Ql (nth (Q7 10 a) 0)).1) (((X9 (zG 1 (zT (((Q7 10 a).length:Y)-1).toNat (Q7 10 a))))).1)).toList==a.toList)))) (λh=>?_) (λh=>?_)
 ·refine su [] [44] [] [] p0<|opn [(O,3,0,O,104,2),(O,3,1,O,105,5),(O,3,3,O,106,2)] ?_
  exact Qc<|pz [] (show Q5 a=_ from Qh e (Qu h rfl)) (λz=> .tup [(I, [.i z.1]),(O, [.o 0 z.2.1.1.1,.o 1 z.2.1.1.2.1,.i z.2.1.1.2.2,.o 2 z.2.1.2]),(I, [.b z.2.2])])
 exact Qd<|sN [2,3,4] [3] p0<|Qc<|pz [] (show Q5 a=_ from Qh e (Qh h rfl)) (λz=> .tup [(I, [.i z.1]),(O, [.o 0 z.2.1.1.1,.o 1 z.2.1.1.2.1,.i z.2.1.1.2.2,.o 2 z.2.1.2]),(I, [.b z.2.2])])
def Xk(a:W):Y×Qw×D:=(bif (((Z0 a).length:Y)==(0:Y)) then(0,(([], [],0), []),I) else(bif ((!(((Yc (zG 1 (Z0 a)))).2))|| (!((Hy (((X1 (nth (Z0 a) 0))).1) (((Yc (zG 1 (Z0 a)))).1)).toList==a.toList))) then(0,(([], [],0), []),I) else(((X1 (nth (Z0 a) 0))).1,(((Yc (zG 1 (Z0 a)))).1),O)))
theorem QP(a:W)(g:zD a<=1073741000):ACalls uS 148 [.s a] (.tup [(I, [.i (((Xk a)).1)]),(O, [.o 0 ((((Xk a)).2.1).1.1),.o 1 ((((Xk a)).2.1).1.2.1),.i ((((Xk a)).2.1).1.2.2),.o 2 ((((Xk a)).2.1).2)]),(I, [.b (((Xk a)).2.2)])]):=by
 refine en func148 λ_ _ _=>sn [0,2,3,4] [3] p0 ?_
 refine tn [0,2,3,4,5] [3] (pc 1 (Qby a (by omega)) p0)<|Qa<|tu [(2,.i 0),(3,.p 3 0),(4,.b I),(5,.o 704 (Z0 a)),(14,.b (((Z0 a).length:Y)==(0:Y)))] [] [(3, [.e 2,.e 5,.i 0,.e 2])] [] (pl 1 (Z0 a) p0)<|ck (((Z0 a).length:Y)==(0:Y)) (λc=>?_) (λc=>?_)
 ·refine su [] [14] [] [] p0<|opn [(O,3,0,O,104,2),(O,3,1,O,105,5),(O,3,3,O,106,2)] ?_
  exact Qc<|pz [] (show Xk a=_ from Qu c rfl) (λz=> .tup [(I, [.i z.1]),(O, [.o 0 z.2.1.1.1,.o 1 z.2.1.1.2.1,.i z.2.1.1.2.2,.o 2 z.2.1.2]),(I, [.b z.2.2])])
 have h:=Yt c;refine Qd<|wT 5 0 (.own O 704) (Z0 a) (λi j=>?_)
 have e:=ng (Z0 a) 0;refine sn [0,2,3,4,5,6] [3] (pG 1 0 e (pc 3 (Px (nth (Z0 a) 0)) p0))<|tn [0,2,3,4,6,8,9] [3,8] (pe 1 (JS (.vw 704) 1 1 1 (Z0 a) rfl) (px (Nc (lo:=1) (hi:=(((eL (Z0 a)):K (K PV)).length:Y)) (n:=(zF (eL (Z0 a)))) (JT (by omega) (by omega))) (pc 2 (ZH (zG 1 (Z0 a)) (λy k=>Qrb g y (yF k))) p0)))<|Qa<|Qa<|mz [(6,.i (((X1 (nth (Z0 a) 0))).1)),(8,.p 8 0),(9,.b (((Yc (zG 1 (Z0 a)))).2))] [5,14] [(8, [.o 1664 ((((Yc (zG 1 (Z0 a)))).1).1.1),.o 1665 ((((Yc (zG 1 (Z0 a)))).1).1.2.1),.i ((((Yc (zG 1 (Z0 a)))).1).1.2.2),.o 1666 ((((Yc (zG 1 (Z0 a)))).1).2)])] []<|jn [(37,.b ((!(((Yc (zG 1 (Z0 a)))).2))|| (!((Hy (((X1 (nth (Z0 a) 0))).1) (((Yc (zG 1 (Z0 a)))).1)).toList==a.toList))))] [0,9] [] [] (!(((Yc (zG 1 (Z0 a)))).2)) (λd=>?_) (λd=>?_) ?_
 ·have b:(((Yc (zG 1 (Z0 a)))).2)=I:=Kj d;exact rn [2,3,4,6,8,37] [3,8] (pf 0 b (pe 1 (show .b (!I)= .b O from rfl) p0))<|zA (by rw[d]<;>kernel_rfl)
 ·have b:(((Yc (zG 1 (Z0 a)))).2)=O:=Yu d;exact rn [2,3,4,6,8,37] [3,8] (pt 0 b (pe 1 (show .b (!O)= .b I from rfl) (pc 5 (QN (((X1 (nth (Z0 a) 0))).1) (((Yc (zG 1 (Z0 a)))).1)) p0)))<|zA (by rw[d]<;>kernel_rfl)
 refine ck ((!(((Yc (zG 1 (Z0 a)))).2))|| (!((Hy (((X1 (nth (Z0 a) 0))).1) (((Yc (zG 1 (Z0 a)))).1)).toList==a.toList))) (λf=>?_) (λf=>?_)
 ·refine su [] [37] [] [] p0<|opn [(O,3,0,O,104,2),(O,3,1,O,105,5),(O,3,3,O,106,2)] ?_
  exact Qc<|pz [] (show Xk a=_ from Qh c (Qu f rfl)) (λz=> .tup [(I, [.i z.1]),(O, [.o 0 z.2.1.1.1,.o 1 z.2.1.1.2.1,.i z.2.1.1.2.2,.o 2 z.2.1.2]),(I, [.b z.2.2])])
 exact Qd<|sN [2,3,4] [3] p0<|Qc<|pz [] (show Xk a=_ from Qh c (Qh f rfl)) (λz=> .tup [(I, [.i z.1]),(O, [.o 0 z.2.1.1.1,.o 1 z.2.1.1.2.1,.i z.2.1.1.2.2,.o 2 z.2.1.2]),(I, [.b z.2.2])])
def J6(d:P3):Y×Qw×D×D:=(bif (((Q5 d.2)).2.2&&((!(((Q5 d.1)).2.2))|| decide (((Q5 d.2)).1>((Q5 d.1)).1))) then(((Q5 d.2)).1,(((Q5 d.2)).2.1),O,I) else(((Q5 d.1)).1,(((Q5 d.1)).2.1),((Q5 d.1)).2.2,((Q5 d.1)).2.2))
theorem CQ(d:P3)(h:zD d.1<=1073741000)(i:zD d.2<=1073741000):ACalls uS 113 [.a [.s d.1,.s d.2]] (.tup [(I, [.i (((J6 d)).1)]),(O, [.o 0 ((((J6 d)).2.1).1.1),.o 1 ((((J6 d)).2.1).1.2.1),.i ((((J6 d)).2.1).1.2.2),.o 2 ((((J6 d)).2.1).2)]),(I, [.b (((J6 d)).2.2.1)]),(I, [.b (((J6 d)).2.2.2)])]):=by
 refine en func113 λ_ _ _=>sn [1,2,3,4,5] [1,3] p0 ?_
 refine tn [1,2,3,4,5,6,7,8] [1,3,7] (pc 2 (QO d.1 (by assumption)) p0)<|tu [(2,.i 0),(3,.p 3 0),(4,.b I),(5,.b I),(6,.i (((Q5 d.1)).1)),(7,.p 7 0),(8,.b (((Q5 d.1)).2.2)),(9,.i (((Q5 d.2)).1)),(10,.p 10 0),(11,.b (((Q5 d.2)).2.2))] [0] [(3, [.e 2,.e 5,.i 0,.e 2]),(7, [.o 960 ((((Q5 d.1)).2.1).1.1),.o 961 ((((Q5 d.1)).2.1).1.2.1),.i ((((Q5 d.1)).2.1).1.2.2),.o 962 ((((Q5 d.1)).2.1).2)]),(10, [.o 1408 ((((Q5 d.2)).2.1).1.1),.o 1409 ((((Q5 d.2)).2.1).1.2.1),.i ((((Q5 d.2)).2.1).1.2.2),.o 1410 ((((Q5 d.2)).2.1).2)])] [] (pc 2 (QO d.2 (by assumption)) p0)<|Qa<|Qa<|jn [(35,.b (((Q5 d.2)).2.2&&((!(((Q5 d.1)).2.2))|| decide (((Q5 d.2)).1>((Q5 d.1)).1))))] [11] [] [] (((Q5 d.2)).2.2) (λa=>?_) (λa=>?_) ?_
 ·refine Ye (!(((Q5 d.1)).2.2)) (λc=>?_) (λc=>?_)
  ·have b:(((Q5 d.1)).2.2)=I:=Kj c;exact ru [(35,.b O)] [11] [] [] (pt 0 a (pf 2 b (pe 3 (show .b (!I)= .b O from rfl) p0)))<|zA (by rw[a,c]<;>kernel_rfl)
  have b:(((Q5 d.1)).2.2)=O:=Yu c;exact rn [2,3,4,5,6,7,8,9,10,35] [3,7,10] (pt 0 a (pt 2 b (pe 3 (show .b (!O)= .b I from rfl) p0)))<|zA (by rw[a,c]<;>kernel_rfl)
 ·exact ru [(35,.b I)] [11] [] [] (pf 0 a p0)<|zA (by rw[a]<;>kernel_rfl)
 refine ck (((Q5 d.2)).2.2&&((!(((Q5 d.1)).2.2))|| decide (((Q5 d.2)).1>((Q5 d.1)).1))) (λe=>?_) (λe=>?_)
 ·have f:(((Q5 d.2)).2.2)=O:=HL e;have g:(((!(((Q5 d.1)).2.2))|| decide (((Q5 d.2)).1>((Q5 d.1)).1)))=O:=HM e;exact sN [2,3,4,5,6,7,8] [3,7] p0<|Qc<|pz [] (show J6 d=_ from Qu e rfl) (λz=> .tup [(I, [.i z.1]),(O, [.o 0 z.2.1.1.1,.o 1 z.2.1.1.2.1,.i z.2.1.1.2.2,.o 2 z.2.1.2]),(I, [.b z.2.2.1]),(I, [.b z.2.2.2])])
 exact Qd<|sN [2,3,4,5] [3] p0<|Qc<|pz [] (show J6 d=_ from Qh e rfl) (λz=> .tup [(I, [.i z.1]),(O, [.o 0 z.2.1.1.1,.o 1 z.2.1.1.2.1,.i z.2.1.1.2.2,.o 2 z.2.1.2]),(I, [.b z.2.2.1]),(I, [.b z.2.2.2])])
def Jn(d:P3):Y×Qw×D×D:=(bif (((Xk d.1)).2.2&&((!(((Xk d.2)).2.2))|| decide (((Xk d.1)).1>=((Xk d.2)).1))) then(((Xk d.1)).1,(((Xk d.1)).2.1),O,O) else(((Xk d.2)).1,(((Xk d.2)).2.1),((Xk d.2)).2.2,I))
theorem IP(d:P3)(h:zD d.1<=1073741000)(i:zD d.2<=1073741000):ACalls uS 90 [.a [.s d.1,.s d.2]] (.tup [(I, [.i (((Jn d)).1)]),(O, [.o 0 ((((Jn d)).2.1).1.1),.o 1 ((((Jn d)).2.1).1.2.1),.i ((((Jn d)).2.1).1.2.2),.o 2 ((((Jn d)).2.1).2)]),(I, [.b (((Jn d)).2.2.1)]),(I, [.b (((Jn d)).2.2.2)])]):=by
 refine en func90 λ_ _ _=>sn [1,2,3,4,5] [1,3] p0 ?_
 refine tn [1,2,3,4,5,6,7,8] [1,3,7] (pc 2 (QP d.1 (by assumption)) p0)<|tu [(2,.i 0),(3,.p 3 0),(4,.b I),(5,.b I),(6,.i (((Xk d.1)).1)),(7,.p 7 0),(8,.b (((Xk d.1)).2.2)),(9,.i (((Xk d.2)).1)),(10,.p 10 0),(11,.b (((Xk d.2)).2.2))] [0] [(3, [.e 2,.e 5,.i 0,.e 2]),(7, [.o 960 ((((Xk d.1)).2.1).1.1),.o 961 ((((Xk d.1)).2.1).1.2.1),.i ((((Xk d.1)).2.1).1.2.2),.o 962 ((((Xk d.1)).2.1).2)]),(10, [.o 1408 ((((Xk d.2)).2.1).1.1),.o 1409 ((((Xk d.2)).2.1).1.2.1),.i ((((Xk d.2)).2.1).1.2.2),.o 1410 ((((Xk d.2)).2.1).2)])] [] (pc 2 (QP d.2 (by assumption)) p0)<|Qa<|Qa<|jn [(35,.b (((Xk d.1)).2.2&&((!(((Xk d.2)).2.2))|| decide (((Xk d.1)).1>=((Xk d.2)).1))))] [8] [] [] (((Xk d.1)).2.2) (λa=>?_) (λa=>?_) ?_
 ·refine Ye (!(((Xk d.2)).2.2)) (λc=>?_) (λc=>?_)
  ·have b:(((Xk d.2)).2.2)=I:=Kj c;exact ru [(35,.b O)] [8] [] [] (pt 0 a (pf 2 b (pe 3 (show .b (!I)= .b O from rfl) p0)))<|zA (by rw[a,c]<;>kernel_rfl)
  have b:(((Xk d.2)).2.2)=O:=Yu c;exact rn [2,3,4,5,6,7,9,10,11,35] [3,7,10] (pt 0 a (pt 2 b (pe 3 (show .b (!O)= .b I from rfl) p0)))<|zA (by rw[a,c]<;>kernel_rfl)
 ·exact ru [(35,.b I)] [8] [] [] (pf 0 a p0)<|zA (by rw[a]<;>kernel_rfl)
 refine ck (((Xk d.1)).2.2&&((!(((Xk d.2)).2.2))|| decide (((Xk d.1)).1>=((Xk d.2)).1))) (λe=>?_) (λe=>?_)
 ·have f:(((Xk d.1)).2.2)=O:=HL e;have g:(((!(((Xk d.2)).2.2))|| decide (((Xk d.1)).1>=((Xk d.2)).1)))=O:=HM e;exact sN [2,3,4,5,9,10,11] [3,10] p0<|Qc<|pz [] (show Jn d=_ from Qu e rfl) (λz=> .tup [(I, [.i z.1]),(O, [.o 0 z.2.1.1.1,.o 1 z.2.1.1.2.1,.i z.2.1.1.2.2,.o 2 z.2.1.2]),(I, [.b z.2.2.1]),(I, [.b z.2.2.2])])
 exact Qd<|sN [2,3,4,5] [3] p0<|Qc<|pz [] (show Jn d=_ from Qh e rfl) (λz=> .tup [(I, [.i z.1]),(O, [.o 0 z.2.1.1.1,.o 1 z.2.1.1.2.1,.i z.2.1.1.2.2,.o 2 z.2.1.2]),(I, [.b z.2.2.1]),(I, [.b z.2.2.2])])
def Fd(d:P3)(x:Qw):W×D:=((Uf (uQ uR (((J6 d)).1+1)) x),(!(((J6 d)).2.2.2)))
theorem LW(d:P3)(x:Qw)(a:zD d.1<=1073741000)(b:zD d.2<=1073741000):ACalls uS 63 [.a [.s d.1,.s d.2],.a [.h x.1.1,.h x.1.2.1,.i x.1.2.2,.h x.2]] (.tup [(I, [.s (((Fd d x)).1)]),(I, [.b (((Fd d x)).2)])]):=by
 refine en func63 λ_ _ _=>sn [2,3,4,5] [2,3] p0 ?_
 exact tn [3,4,5,6,9] [3] (pc 1 (CQ d (by assumption) (by assumption)) p0)<|tu [(4,.s (Uf (uQ uR (((J6 d)).1+1)) x)),(5,.b (!(((J6 d)).2.2.2)))] [0,1] [] [] (pc 3 (QM (uQ uR (((J6 d)).1+1)) x) p0)<|Qc<|pz [] (show Fd d x=((Uf (uQ uR (((J6 d)).1+1)) x),(!(((J6 d)).2.2.2))) from rfl) (λz=> .tup [(I, [.s z.1]),(I, [.b z.2])])
theorem Qst(t:W):∀(n k:H) (s:Y),0<=s->s<10^k->k+n<=10->Vj (Vy t) B6 n k s= .ret (0,I)\/∃y,Vj (Vy t) B6 n k s= .brk y/\0<=y
 | 0,k,s,h0,_,_=> .inr ⟨s,rfl,h0⟩
 | n + 1,k,s,h0,h1,hk=>by
   cases a:(decide (Kp t ((k:H):Y)<(48:Y))|| decide (Kp t ((k:H):Y)>(57:Y))) with
   | true=>
     refine .inl (Qb2 ?_);unfold Vy;rw[a,E]
   | false=>
     obtain⟨d,e⟩:=bo a;have d:=uE d;have e:=uE e;have b:=Qd6 (c:=Kp t ((k:H):Y)) h0 h1 (by omega) (by omega) (by omega)
     have f:Vy t k s= .next (10*s+(Kp t ((k:H):Y)-48)):=by
      unfold Vy;rw[a,G,b.1]
     rw[Tx f];exact Qst t n (k+1) _ b.2.1 b.2.2 (by omega)
theorem Qb7(t:W):∀(a:K uI) (k acc m:H),t.data.toList.drop k=a->(acc:Y)<10^k->k+a.length<=10->Lib.decFrom acc a=uD m->Vj (Vy t) B6 a.length k (acc:Y)= .brk (m:Y)
 | [],k,acc,m,_,_,_,h=>by
   obtain rfl:acc=m:=by simpa [Lib.decFrom] using h
   rfl
 | b ::a,k,acc,m,hr,hlt,hk,h=>by
   obtain⟨g,hd,_⟩:=P0 hr;rw[List.length_cons] at hk⊢;simp only[Lib.decFrom] at h;cases e:Lib.digitVal b with
   | none=>rw[e] at h;cases h
   | some d=>
     rw[e] at h
     have hb:(48<=b.toNat/\b.toNat<=57)/\b.toNat-48=d:=by
      unfold Lib.digitVal at e;split at e
      . rename_i hb;exact⟨hb,yJ e⟩
      cases e
     have j:=S1 g;have f:=Qd6 (s:=(acc:Y)) (c:=Kp t ((k:H):Y)) (by omega) hlt (by omega) (by omega) (by omega)
     have i:Vy t k (acc:Y)= .next (((acc*10+d:H)):Y):=by
      unfold Vy;rw[uC (show¬Kp t ((k:H):Y)<48 by omega),uC (show¬Kp t ((k:H):Y)>57 by omega),Bool.or_false,G,f.1]
      congr 1
      omega
     rw[Tx i];exact Qb7 t a (k+1) _ m hd (by have:=f.2.2;omega) (by omega) h
theorem Iu(t:W):X1 t=Ql t:=by
 unfold X1 Ql;cases a:Nk t with
 | some n=>
   obtain⟨i,rfl⟩:=UA a;have j:=Vd (n:=(n:Y)) (by omega);have b:=Qb7 (Q6 (n:Y)) (Q6 (n:Y)).data.toList 0 0 n rfl (by decide) (by rw[Ij];omega) (by rw[Et];exact JD n);rw[Ij] at b;rw[uC (show¬(zD (Q6 (n:Y)):Y)>10 by omega),G,show yH (zD (Q6 (n:Y)):Y)=(Q6 (n:Y)).size by omega,show(0:Y)=((0:H):Y) from rfl,b];simp only[Out.on];rw[uC (show¬(n:Y)>1000000000 by omega),uJ];rfl
 | none =>
   cases c:decide ((zD t:Y)>(10:Y)) with
   | true=>rfl
   | false=>
     have c:=uE c;rcases Qst t (yH (zD t:Y)) 0 0 (by decide) (by decide) (by omega) with h | ⟨y,h,e⟩
     . rw[h];rfl
     rw[h];simp only[G,Out.on];cases f:(decide (y>(1000000000:Y))|| (!((Q6 y).toList==t.toList))) with
     | true=>rfl
     | false=>
       obtain⟨d,g⟩:=bo f;have d:=uE d;obtain⟨m,rfl⟩:=Int.eq_ofNat_of_zero_le e;rw[AM (n:=m) (by omega) (L5 (bn g))] at a;cases a
theorem UE{n:Y}(h:0<=n/\n<=1000000000):Ql (Q6 n)=(n,O):=by
 obtain⟨m,rfl⟩:=Int.eq_ofNat_of_zero_le h.1;unfold Ql;rw[AM (n:=m) (by omega) rfl]
theorem Qu8:Xm ⟨#[45]⟩=((0,0,⟨#[]⟩),O):=by kernel_rfl
theorem Qey:Xm ⟨#[]⟩=((0,0,⟨#[]⟩),I):=by kernel_rfl
theorem UF(s:W):Zz s=Xm s:=by
 cases hd:(s.toList==(⟨#[45]⟩:W).toList) with
 | true=>
   rw[L5 hd,Qu8];unfold Zz;rw[uJ];rfl
 | false =>
   unfold Zz Xm;rw[hd,Iu];simp only[G,yG,E];cases a:(Ql s).2 with
   | true =>
     simp only[E];have e:Yk (J9 (Ql s).1)=Xf (Wa (Ql s).1):=rfl;rw[e];cases b:Xf (Wa (Ql s).1) with
     | false=>rfl
     | true=>
       have c:Je (J9 (Ql s).1)=s:=by
        unfold Je;rw[e,b]
        have f:Q6 (Ql s).1=s:=by
         unfold Ql at a⊢;cases d:Nk s with
         | none=>rw[d] at a;cases a
         | some n=>exact(UA d).2
        exact f
       rw[c,uJ];rfl
   | false=>
     simp only[G];have e:Yk (Zx s)=Xf (Ko s):=rfl;rw[e];cases b:Xf (Ko s) with
     | false=>rfl
     | true=>
       have c:Je (Zx s)=s:=by
        unfold Je;rw[e,b];rfl
       rw[c,uJ];rfl
theorem Qb8{v:Wx}(h:Xf v=O)(c:v.1≠0):(v.1=1/\(0<=v.2.1/\v.2.1<=999)/\v.2.2=⟨#[]⟩)\/(v.1=2/\v.2.1=0/\Xp v.2.2=O):=by
 cases a:(v.1==(1:Y)) with
 | true=>
   refine .inl ⟨eq_of_beq a,SA h a, ?_⟩;unfold Xf at h;rw[eq_of_beq a] at h;simp only[show((1:Y)==0)=I from rfl,show((1:Y)==1)=O from rfl,E,G,zN] at h;exact L5 h.2
 | false=>
   cases b:(v.1==(2:Y)) with
   | true=>have:=Qna h b;exact .inr ⟨eq_of_beq b,this.2,this.1⟩
   | false=>
     exfalso;unfold Xf at h;have e0:(v.1==(0:Y))=I:=by simpa using c
     rw[e0,a,b] at h;cases h
theorem UG{n:Y}(h:0<=n):Word (Q6 n):=by
 obtain⟨m,rfl⟩:=Int.eq_ofNat_of_zero_le h;refine⟨?_,λb hb=>?_⟩
 . have a:=IG m;rw[←Et] at a;have c:=Ij (Q6 (m:Y));have d:=List.length_pos_iff.2 a;show 1<=(Q6 (m:Y)).size;omega
 have hb:b∈(Q6 (m:Y)).data.toList:=hb;rw[Et] at hb;have:=AL m b hb;omega
theorem OI{s:W}(d:1<=s.size)(h:∀k:H,k<s.size->97<=Kp s (k:Y)/\Kp s (k:Y)<=122):Word s:=by
 refine⟨d,λb hb=>?_⟩;obtain⟨i,c⟩:=yD hb;have a:=(List.getElem?_eq_some_iff.1 c).1;rw[Ij] at a;have e:=h i a;rw[S1 c] at e;omega
theorem SH{s:W}(h:Xp s=O):Word s:=by
 have l:=Rr h;refine OI l.1 λk q=>?_
 unfold Xp at h
 have key:∀(n j:H),Vj (Y3 s) V6 n j ()= .brk ()->∀i,j<=i->i<j+n->97<=Kp s (i:Y)/\Kp s (i:Y)<=122:=by
  intro n
  induction n with
  | zero=>intro j _ i m o;omega
  | succ n d=>
    intro j c i m o;cases b:(decide (Kp s ((j:H):Y)<(97:Y))|| decide (Kp s ((j:H):Y)>(122:Y))) with
    | true=>
      have a:Y3 s j ()= .ret I:=by unfold Y3;rw[b,E]
      rw[Qb2 a] at c;cases c
    | false=>
      have a:Y3 s j ()= .next ():=by unfold Y3;rw[b,G]
      rw[Tx a] at c;obtain⟨f,g⟩:=bo b;have f:=uE f;have g:=uE g;by_cases e:i=j
      . subst e;omega
      exact d (j+1) c i (by omega) (by omega)
 cases a:Vj (Y3 s) V6 (yH (s.size:Y)) 0 () with
 | brk t=>exact key _ _ a k (zW _) (by omega)
 | ret r =>
   exfalso;rw[a] at h;obtain rfl:r=O:=h
   have p:∀n j,Vj (Y3 s) V6 n j ()≠ .ret O:=by
    intro n
    induction n with
    | zero=>intro j h;simp[Vj] at h
    | succ n d=>
      intro j h;cases b:(decide (Kp s ((j:H):Y)<(97:Y))|| decide (Kp s ((j:H):Y)>(122:Y))) with
      | true=>
        have a:Y3 s j ()= .ret I:=by unfold Y3;rw[b,E]
        rw[Qb2 a] at h;simp at h
      | false=>
        have a:Y3 s j ()= .next ():=by unfold Y3;rw[b,G]
        rw[Tx a] at h;exact d _ h
   exact p _ _ a
theorem IQ{s:W}(h:Q8 s=O):Word s:=by
 have a:=PX h;unfold Q8 at h;simp only[zN,uM] at h;refine OI (by omega) λk b=>?_
 obtain rfl:k=0:=by omega
 exact⟨h.2.1,h.2.2⟩
theorem Qg7{v:Wx}(h:Xf v=O)(c:v.1≠0):Word (Yi v):=by
 unfold Yi;rw[h];rcases Qb8 h c with⟨a,b,_⟩ | ⟨a,_,b⟩
 . rw[a];exact UG b.1
 rw[a];exact SH b
theorem Qb9{v:Wx}(h:Xf v=O)(i:v.1≠0):Xm (Yi v)=(v,O):=by
 obtain⟨k,n,s⟩:=v;rcases Qb8 h i with⟨d,c,a⟩ | ⟨d,c,a⟩
 . obtain rfl:k=1:=d;obtain rfl:s=⟨#[]⟩:=a;have c:0<=n/\n<=999:=c;have e:Yi (1,n,⟨#[]⟩)=Q6 n:=by unfold Yi;rw[h];rfl
   rw[e];unfold Xm;rw[UE (by omega),show Wa n=((1,n,⟨#[]⟩):Wx) from rfl,h];rfl
 obtain rfl:k=2:=d;obtain rfl:n=0:=c;have a:Xp s=O:=a;have e:Yi (2,0,s)=s:=by unfold Yi;rw[h];rfl
 rw[e];unfold Xm
 have hu:(Ql s).2=I:=by
  unfold Ql;cases j:Nk s with
  | none=>rfl
  | some m=>
    exfalso;obtain⟨_,rfl⟩:=UA j;have hw:=AL m;have t:=Rr a;have l:=IG m;cases f:Lib.decDigits m with
    | nil=>exact l f
    | cons b r=>
      have hb:=hw b (by rw[f];exact zL ..);have g:(Q6 (m:Y)).data.toList[0]? =uD b:=by rw[Et,f];rfl
      unfold Xp at a;obtain⟨q,hq⟩:∃q,yH (((Q6 (m:Y)).size:H):Y)=q+1:=⟨(Q6 (m:Y)).size-1,by omega⟩;rw[hq] at a
      have o:Y3 (Q6 (m:Y)) 0 ()= .ret I:=by
       unfold Y3;rw[S1 g,uF (show(b.toNat:Y)<97 by omega)];rfl
      rw[Qb2 o] at a;cases a
 have hd:(s.toList==(⟨#[45]⟩:W).toList)=I:=by
  cases p:(s.toList==(⟨#[45]⟩:W).toList) with
  | false=>rfl
  | true=>
    exfalso;rw[L5 p] at a;exact absurd a (by decide)
 rw[hu,hd,show Ko s=((2,0,s):Wx) from rfl,h];rfl
abbrev NZ:Wx:=(0,0,⟨#[]⟩)
inductive Pr:K W->K Q0->K W->K Q0->Prop
 | all {w:W} {r:K W} {q:K Q0}:JF w=1->Pr (w::r) q r (q++ [((1,0,0,⟨#[]⟩,NZ):Q0)])
 | nm {w x:W} {r:K W} {q:K Q0} {op:Y}:JF w=op->op=2\/op=8\/op=9->Pr (w::x::r) q r (q++ [((op,0,0,x,NZ):Q0)])
 | vl {w x y:W} {r:K W} {q:K Q0} {op:Y}:JF w=op->op=3\/op=4->(Xm y).2=O->Pr (w::x::y::r) q r (q++ [((op,0,0,x,(Xm y).1):Q0)])
 | nt {w:W} {r r1:K W} {q q1:K Q0}:JF w=5->Pr r q r1 q1->Pr (w::r) q r1 (q1++ [((5,(q1.length:Y)-1,0,⟨#[]⟩,NZ):Q0)])
 | tw {w:W} {r r1 r2:K W} {q q1 q2:K Q0} {op:Y}:JF w=op->op=6\/op=7->Pr r q r1 q1->Pr r1 q1 r2 q2->Pr (w::r) q r2 (q2++ [((op,(q1.length:Y)-1,(q2.length:Y)-1,⟨#[]⟩,NZ):Q0)])
theorem Pr.len{r a:K W}{q b:K Q0}(h:Pr r q a b):q.length<b.length/\a.length<r.length/\r.length+2*q.length<=a.length+2*b.length+1:=by
 induction h<;>simp only[zH,List.length_cons,List.length_nil]<;>omega
theorem Pr.suf{r r':K W}{q a:K Q0}(h:Pr r q r' a):r'=r.drop (r.length-r'.length):=by
 have key:∃u,r=u++r':=by
  induction h with
  | @all w r=>exact⟨[w],rfl⟩
  | @nm w x r=>exact⟨[w,x],rfl⟩
  | @vl w x y r=>exact⟨[w,x,y],rfl⟩
  | @nt w _ _ _ _ _ _ ih=>obtain⟨u,rfl⟩:=ih;exact⟨w::u,rfl⟩
  | @tw w _ _ _ _ _ _ _ _ _ _ _ ih1 ih2=>
    obtain⟨u,rfl⟩:=ih2;obtain⟨b,rfl⟩:=ih1;exact⟨w::(b++u),by simp⟩
 obtain⟨u,rfl⟩:=key;rw[zH,Nat.add_sub_cancel,List.drop_left]
def Qu9(n:H)(c:W×(K W)×(K Q0))(a:Y):D×(K W)×(K Q0):=
 bif (bif (a==(2:Y)) then(a==(2:Y)) else(bif (a==(8:Y)) then(a==(8:Y)) else(a==(9:Y)))) then
  ((a !=(0:Y)),(Jf c.2.1 c.2.2).2.1,(Jf c.2.1 c.2.2).2.2++ [((a,0,0,(Jf c.2.1 c.2.2).1,NZ):Q0)])
 else bif (bif (a==(3:Y)) then(a==(3:Y)) else(a==(4:Y))) then
  lt (Jf c.2.1 c.2.2) λg=>lt (Jf g.2.1 g.2.2) λd=>((Xm d.1).2,d.2.1,d.2.2++ [((a,0,0,g.1,(Xm d.1).1):Q0)])
 else bif (a==(5:Y)) then
  lt (Yg n c.2.1 c.2.2) λe=>(e.1,e.2.1,e.2.2++ [((a,((e.2.2.length:Y)-1),0,⟨#[]⟩,NZ):Q0)])
 else bif (bif (a==(6:Y)) then(a==(6:Y)) else(a==(7:Y))) then
  lt (Yg n c.2.1 c.2.2) λb=>bif b.1 then
   lt (Yg n b.2.1 b.2.2) λf=>(f.1,f.2.1,f.2.2++ [((a,((b.2.2.length:Y)-1),((f.2.2.length:Y)-1),⟨#[]⟩,NZ):Q0)])
  else(I,b.2.1,b.2.2++ [((a,((b.2.2.length:Y)-1),((b.2.2.length:Y)-1),⟨#[]⟩,NZ):Q0)])
 else((a !=(0:Y)),c.2.1,c.2.2++ [((a,0,0,⟨#[]⟩,NZ):Q0)])
theorem KQ(n:H)(a:K W)(bn:K Q0):Yg (n+1) a bn=Qu9 n (Jf a bn) (JF (Jf a bn).1):=by
 unfold Yg lt;dsimp only;rw[YN (f:=Tz (Jf a bn)) (e:=T0) (p:=λk=>(Q1 ((k+1:H):Y)).toList==(Jf a bn).1.toList) (λ_ _=>rfl) (λ_ _=>rfl)];rfl
theorem L6(w:W)(r:K W)(q:K Q0):Jf (w::r) q=(w,r,q):=rfl
theorem UH(q:K Q0):Jf [] q=(⟨#[]⟩, [],q):=rfl
theorem Qw8(n:H)(w:W)(r:K W)(q:K Q0):Qu9 n (w,r,q) 5=((Yg n r q).1,(Yg n r q).2.1,(Yg n r q).2.2++ [((5,(((Yg n r q).2.2.length:Y)-1),0,⟨#[]⟩,NZ):Q0)]):=rfl
def Qw9(n:H)(r:K W)(q:K Q0)(a:Y):D×(K W)×(K Q0):=bif (Yg n r q).1 then((Yg n (Yg n r q).2.1 (Yg n r q).2.2).1,(Yg n (Yg n r q).2.1 (Yg n r q).2.2).2.1,(Yg n (Yg n r q).2.1 (Yg n r q).2.2).2.2++ [((a,(((Yg n r q).2.2.length:Y)-1),(((Yg n (Yg n r q).2.1 (Yg n r q).2.2).2.2.length:Y)-1),⟨#[]⟩,NZ):Q0)]) else(I,(Yg n r q).2.1,(Yg n r q).2.2++ [((a,(((Yg n r q).2.2.length:Y)-1),(((Yg n r q).2.2.length:Y)-1),⟨#[]⟩,NZ):Q0)])
theorem Qxa(n:H)(w:W)(r:K W)(q:K Q0){op:Y}(h:op=6\/op=7):Qu9 n (w,r,q) op=Qw9 n r q op:=by rcases h with rfl | rfl<;>rfl
theorem Qva{r e:K W}{q f:K Q0}(h:Pr r q e f):∀n,r.length<n->Yg n r q=(O,e,f):=by
 induction h with
 | all h=>
   intro n a;obtain⟨m,rfl⟩:∃m,n=m+1:=⟨n-1,by omega⟩;rw[KQ,L6];dsimp only;rw[h];rfl
 | nm h b=>
   intro n a;obtain⟨m,rfl⟩:∃m,n=m+1:=⟨n-1,by omega⟩;rw[KQ,L6];dsimp only;rw[h];rcases b with rfl | rfl | rfl<;>rfl
 | vl h b i=>
   intro n a;obtain⟨m,rfl⟩:∃m,n=m+1:=⟨n-1,by omega⟩;rw[KQ,L6];dsimp only;rw[h,←i];rcases b with rfl | rfl<;>rfl
 | nt h g j=>
   intro n a;obtain⟨m,rfl⟩:∃m,n=m+1:=⟨n-1,by omega⟩;simp only[List.length_cons] at a;rw[KQ,L6];dsimp only;rw[h];rw[Qw8,j m (by omega)]
 | tw h b g o c d=>
   intro n a;obtain⟨m,rfl⟩:∃m,n=m+1:=⟨n-1,by omega⟩;simp only[List.length_cons] at a;have p:=g.len;have k:=c m (by omega);have l:=d m (by omega);rw[KQ,L6];dsimp only;rw[h,Qxa _ _ _ _ b];unfold Qw9;rw[k];simp only[E];rw[l]
def Gd(q:K Q0):Prop:=∀x,x∈q->x.1=2\/x.1=3\/x.1=4\/x.1=8\/x.1=9->1<=x.2.2.2.1.size
theorem Gd.left{q p:K Q0}(h:Gd (q++p)):Gd q:=λx a=>h x (List.mem_append_left _ a)
theorem Gd.last{q:K Q0}{x:Q0}(h:Gd (q++ [x])):x.1=2\/x.1=3\/x.1=4\/x.1=8\/x.1=9->1<=x.2.2.2.1.size:=h x (List.mem_append_right _ (List.mem_singleton.2 rfl))
theorem Qsu(w:W):JF w=0\/JF w=1\/JF w=2\/JF w=3\/JF w=4\/JF w=5\/JF w=6\/JF w=7\/JF w=8\/JF w=9:=by have:=Qu6 w;omega
theorem Qez{P:Prop}(h:1<=(⟨#[]⟩:W).size):P:=absurd h (by decide)
theorem SI:∀(n:H) (r:K W) (q:K Q0) (r':K W) (q':K Q0),Yg n r q=(O,r',q')->Gd q'->Pr r q r' q'
 | 0,r,q,r',q',h,_=>by cases h
 | n+1, [],q,r',q',h,_=>by
   rw[KQ,UH] at h;dsimp only at h;rw[SD] at h;cases h
 | n + 1,w::r,q,r',q',h,hg=>by
   rw[KQ,L6] at h;dsimp only at h
   have b:∀a:Y,JF w=a->a=2\/a=8\/a=9->((a !=(0:Y)),(Jf r q).2.1,(Jf r q).2.2++ [((a,0,0,(Jf r q).1,NZ):Q0)])=(O,r',q')->Pr (w::r) q r' q':=λa c d h=>by
    cases r with
    | nil=>
      rw[UH] at h;simp only[yI] at h;obtain⟨_,_,rfl⟩:=h;exact Qez (hg.last (by show a=2\/_;omega))
    | cons x r=>
      rw[L6] at h;simp only[yI] at h;obtain⟨_,rfl,rfl⟩:=h;exact .nm c d
   have f:∀a:Y,JF w=a->a=3\/a=4->((Xm (Jf (Jf r q).2.1 (Jf r q).2.2).1).2,(Jf (Jf r q).2.1 (Jf r q).2.2).2.1,(Jf (Jf r q).2.1 (Jf r q).2.2).2.2++ [((a,0,0,(Jf r q).1,(Xm (Jf (Jf r q).2.1 (Jf r q).2.2).1).1):Q0)])=(O,r',q')->Pr (w::r) q r' q':=λa c d h=>by
    cases r with
    | nil=>
      rw[UH] at h;dsimp only at h;rw[UH,Qey] at h;cases h
    | cons x r=>
      rw[L6] at h;dsimp only at h;cases r with
      | nil=>
        rw[UH,Qey] at h;cases h
      | cons y r=>
        rw[L6] at h;simp only[yI] at h;obtain⟨p,rfl,rfl⟩:=h;exact .vl c d p
   have g:∀a:Y,JF w=a->a=6\/a=7->(bif (Yg n r q).1 then((Yg n (Yg n r q).2.1 (Yg n r q).2.2).1,(Yg n (Yg n r q).2.1 (Yg n r q).2.2).2.1,(Yg n (Yg n r q).2.1 (Yg n r q).2.2).2.2++ [((a,(((Yg n r q).2.2.length:Y)-1),(((Yg n (Yg n r q).2.1 (Yg n r q).2.2).2.2.length:Y)-1),⟨#[]⟩,NZ):Q0)]) else(I,(Yg n r q).2.1,(Yg n r q).2.2++ [((a,(((Yg n r q).2.2.length:Y)-1),(((Yg n r q).2.2.length:Y)-1),⟨#[]⟩,NZ):Q0)]))=(O,r',q')->Pr (w::r) q r' q':=λa c d h=>by
    rcases i:Yg n r q with⟨l,j,q1⟩
    rw[i] at h;dsimp only at h;cases l with
    | false=>cases h
    | true=>
      simp only[E] at h;rcases m:Yg n j q1 with⟨z,s,t⟩
      rw[m] at h;simp only[yI] at h;obtain⟨rfl,rfl,rfl⟩:=h;have o:=SI n j q1 s t m hg.left
      have k:Gd q1:=by
       obtain⟨u,v⟩:=pr_pre o;rw[v] at hg;exact hg.left.left
      exact .tw c d (SI n r q j q1 i k) o
   rcases Qsu w with e | e | e | e | e | e | e | e | e | e<;>rw[e] at h
   . cases h
   . obtain⟨_,h⟩:=Prod.mk.inj h;obtain⟨rfl,rfl⟩:=Prod.mk.inj h;exact .all e
   . exact b 2 e (by omega) h
   . exact f 3 e (by omega) h
   . exact f 4 e (by omega) h
   . rcases i:Yg n r q with⟨l,j,q1⟩
     have h:((Yg n r q).1,(Yg n r q).2.1,(Yg n r q).2.2++ [((5,(((Yg n r q).2.2.length:Y)-1),0,⟨#[]⟩,NZ):Q0)])=(O,r',q'):=h;rw[i] at h;simp only[yI] at h;obtain⟨rfl,rfl,rfl⟩:=h;exact .nt e (SI n r q j q1 i hg.left)
   . exact g 6 e (by omega) h
   . exact g 7 e (by omega) h
   . exact b 8 e (by omega) h
   exact b 9 e (by omega) h
where
 pr_pre {r r':K W} {q q':K Q0} (h:Pr r q r' q'):∃u,q'=q++u:=by
  induction h with
  | all | nm | vl=>exact⟨_,rfl⟩
  | nt _ _ ih=>obtain⟨u,rfl⟩:=ih;exact⟨_,zJ ..⟩
  | tw _ _ _ _ ih1 ih2=>obtain⟨u,rfl⟩:=ih1;obtain⟨u2,rfl⟩:=ih2;exact⟨u++(u2++_),by simp only[zJ];rfl⟩
theorem Ck{p r:K W}{w:W}{a:H}(h:p.drop a=w::r):Qt p (a:Y)=w/\p.drop (a+1)=r/\a<p.length:=by
 obtain⟨b,c,d⟩:=P0 h;refine⟨?_,c,d⟩;unfold Qt;rw[uC (show¬(a:Y)>=(p.length:Y) by omega),G,zZ];unfold nth;rw[zV,b];rfl
theorem DS{p:K W}{a:H}(h:p.drop a= []):Qt p (a:Y)=⟨#[]⟩:=by
 have:p.length<=a:=by
  have:=uB zF h;rw[yB] at this;simp only[List.length_nil] at this;omega
 unfold Qt;rw[uF (show(a:Y)>=(p.length:Y) by omega),E]
def LX(n:H)(p:K W)(a:Y)(q:K Q0)(d:Y)(c:Y):(K Q0)×Y:=
 bif ((c==(0:Y))|| (decide (d>(9:Y))|| decide ((q.length:Y)>(9:Y)))) then(q,0)
 else bif ((c==(2:Y))|| ((c==(8:Y))|| (c==(9:Y)))) then(q++ [((c,0,0,(Qt p (a+1)),NZ):Q0)],2)
 else bif ((c==(3:Y))|| (c==(4:Y))) then(q++ [((c,0,0,(Qt p (a+1)),(Xm (Qt p (a+2))).1):Q0)],3)
 else bif (Xd c 5 7) then
  lt (Zf n p (a+1) q (d+1)) λb=>bif (b.2==(0:Y)) then(b.1,0) else bif (c !=(5:Y)) then
   lt (Zf n p (a+(1+b.2)) b.1 (d+1)) λe=>bif (e.2==(0:Y)) then(e.1,0) else(e.1++ [((c,((b.1.length:Y)-1),((e.1.length:Y)-1),⟨#[]⟩,NZ):Q0)],1+b.2+e.2)
  else(b.1++ [((c,((b.1.length:Y)-1),0,⟨#[]⟩,NZ):Q0)],1+b.2)
 else(q++ [((c,0,0,⟨#[]⟩,NZ):Q0)],1)
theorem AU(n:H)(p:K W)(a:Y)(q:K Q0)(b:Y)(v:0<=a)(w:a<=30)(f:p.length<=24)(hd:0<=b)(x:b<=10):Zf (n+1) p a q b=LX n p a q b (JF (Qt p a)):=by
 unfold Zf LX lt;rw[Qss];simp only[Out.on];have g:=Qno (p:=p) (at_:=a);generalize JF (Qt p a)=j at g⊢;rw[IntWalk.i64_in (a+1) (by omega),IntWalk.i64_in (a+2) (by omega),IntWalk.i64_in (b+1) (by omega),UF];cases k:((j==(0:Y))|| (decide (b>(9:Y))|| decide ((q.length:Y)>(9:Y)))) with
 | true=>rfl
 | false=>
   obtain⟨l,m⟩:=bo k;obtain⟨h,y⟩:=bo m;have h:=uE h;have o:=g (ne_of_beq_false l);have r:=Rt n p (a+1) q (b+1) (by omega) (by omega) f (by omega) (by omega);generalize Zf n p (a+1) q (b+1)=c at r⊢;have s:uQ uR (1+c.2)=1+c.2:=IntWalk.i64_in _ (by omega);have t:uQ uR (a+(1+c.2))=a+(1+c.2):=IntWalk.i64_in _ (by omega);rw[s,t];cases i:(c.2==(0:Y)) with
   | true=>rfl
   | false=>
     have i:=ne_of_beq_false i;have e:=Rt n p (a+(1+c.2)) c.1 (b+1) (by omega) (by omega) f (by omega) (by omega);generalize Zf n p (a+(1+c.2)) c.1 (b+1)=d at e⊢;have u:uQ uR (1+c.2+d.2)=1+c.2+d.2:=IntWalk.i64_in _ (by omega);rw[u]
theorem Qvb{r r':K W}{q o:K Q0}(h:Pr r q r' o):∀(n a:H) (p:K W) (b:H),p.drop a=r->p.length<=24->o.length+b<=9->n+b=12->Zf n p (a:Y) q (b:Y)=(o,((r.length-r'.length:H):Y)):=by
 induction h with
 | @all w r q h=>
   intro n a p b d c f l;obtain⟨m,rfl⟩:∃m,n=m+1:=⟨n-1,by omega⟩;obtain⟨g,_,i⟩:=Ck d;rw[zH] at f;rw[AU m p a q b (by omega) (by omega) c (by omega) (by omega),g,h];unfold LX;rw[uC (show¬(b:Y)>9 by omega),uC (show¬(q.length:Y)>9 by omega)];rw[show(w::r).length-r.length=1 by rw[List.length_cons];omega];rfl
 | @nm w x r q op h ho=>
   intro n a p b d c f l;obtain⟨m,rfl⟩:∃m,n=m+1:=⟨n-1,by omega⟩;obtain⟨g,j,i⟩:=Ck d;obtain⟨s,_,_⟩:=Ck j;rw[zH] at f;rw[AU m p a q b (by omega) (by omega) c (by omega) (by omega),g,h];unfold LX;rw[uC (show¬(b:Y)>9 by omega),uC (show¬(q.length:Y)>9 by omega)];rw[show(w::x::r).length-r.length=2 by simp only[List.length_cons];omega];rw[show((a:Y)+1)=((a+1:H):Y) from rfl,s];rcases ho with rfl | rfl | rfl<;>rfl
 | @vl w x y r q op h ho hv=>
   intro n a p b d c f l;obtain⟨m,rfl⟩:∃m,n=m+1:=⟨n-1,by omega⟩;obtain⟨g,j,i⟩:=Ck d;obtain⟨s,h3,_⟩:=Ck j;obtain⟨e3,_,_⟩:=Ck h3;rw[zH] at f;rw[AU m p a q b (by omega) (by omega) c (by omega) (by omega),g,h];unfold LX;rw[uC (show¬(b:Y)>9 by omega),uC (show¬(q.length:Y)>9 by omega)];rw[show(w::x::y::r).length-r.length=3 by simp only[List.length_cons];omega];rw[show((a:Y)+1)=((a+1:H):Y) from rfl,show((a:Y)+2)=((a+1+1:H):Y) from rfl,s,e3];rcases ho with rfl | rfl<;>rfl
 | @nt w r r1 q q1 h h1 ih=>
   intro n a p b d c f l;obtain⟨m,rfl⟩:∃m,n=m+1:=⟨n-1,by omega⟩;obtain⟨g,j,i⟩:=Ck d;have hl:=h1.len;simp only[zH,List.length_cons,List.length_nil] at f;have hi:=ih m (a+1) p (b+1) j c (by omega) (by omega);rw[AU m p a q b (by omega) (by omega) c (by omega) (by omega),g,h];unfold LX lt;rw[uC (show¬(b:Y)>9 by omega),uC (show¬(q.length:Y)>9 by omega)];rw[show((a:Y)+1)=((a+1:H):Y) from rfl,show((b:Y)+1)=((b+1:H):Y) from rfl,hi]
   have hk:(((r.length-r1.length:H):Y)==(0:Y))=I:=by
    cases k:(((r.length-r1.length:H):Y)==(0:Y)) with
    | false=>rfl
    | true=>have:=eq_of_beq k;omega
   show(bif (((r.length-r1.length:H):Y)==(0:Y)) then _ else _)=_;rw[hk,show(((w::r).length-r1.length:H):Y)=1+((r.length-r1.length:H):Y) by rw[List.length_cons];omega];rfl
 | @tw w r r1 r2 q q1 q2 op h ho h1 j ih1 ih2=>
   intro n a p b d c f l;obtain⟨m,rfl⟩:∃m,n=m+1:=⟨n-1,by omega⟩;obtain⟨g,hd,i⟩:=Ck d;have a2:=h1.len;have a3:=j.len;simp only[zH,List.length_cons,List.length_nil] at f;have t:=ih1 m (a+1) p (b+1) hd c (by omega) (by omega)
   have u:p.drop (a+(1+(r.length-r1.length)))=r1:=by
    have e:p.drop (a+(1+(r.length-r1.length)))=(p.drop (a+1)).drop (r.length-r1.length):=by
     rw[List.drop_drop]
     congr 1
     omega
    rw[e,hd];exact h1.suf.symm
   have v:=ih2 m (a+(1+(r.length-r1.length))) p (b+1) u c (by omega) (by omega);rw[AU m p a q b (by omega) (by omega) c (by omega) (by omega),g,h]
   have z:(((r.length-r1.length:H):Y)==(0:Y))=I:=by
    cases k:(((r.length-r1.length:H):Y)==(0:Y)) with
    | false=>rfl
    | true=>have:=eq_of_beq k;omega
   have a1:(((r1.length-r2.length:H):Y)==(0:Y))=I:=by
    cases k:(((r1.length-r2.length:H):Y)==(0:Y)) with
    | false=>rfl
    | true=>have:=eq_of_beq k;omega
   have hK:LX m p (a:Y) q (b:Y) op=(bif (((r.length-r1.length:H):Y)==(0:Y)) then(q1,0) else(bif (((r1.length-r2.length:H):Y)==(0:Y)) then(q2,0) else(q2++ [((op,((q1.length:Y)-1),((q2.length:Y)-1),⟨#[]⟩,NZ):Q0)],1+((r.length-r1.length:H):Y)+((r1.length-r2.length:H):Y)))):=by
    unfold LX lt;rw[uC (show¬(b:Y)>9 by omega),uC (show¬(q.length:Y)>9 by omega)];rw[show((a:Y)+1)=((a+1:H):Y) from rfl,show((b:Y)+1)=((b+1:H):Y) from rfl,t];dsimp only;rw[show((a:Y)+(1+((r.length-r1.length:H):Y)))=((a+(1+(r.length-r1.length)):H):Y) by omega,v];rcases ho with rfl | rfl<;>rfl
   rw[hK,z,a1,show(((w::r).length-r2.length:H):Y)=1+((r.length-r1.length:H):Y)+((r1.length-r2.length:H):Y) by rw[List.length_cons];omega];rfl
def Gs(q:K Q0):Prop:=Gd q/\∀x,x∈q->x.1=3\/x.1=4->x.2.2.2.2.1≠0
theorem Gs.left{q p:K Q0}(h:Gs (q++p)):Gs q:=⟨h.1.left,λx a=>h.2 x (List.mem_append_left _ a)⟩
theorem Qvc{s:W}(h:(Xm s).1.1≠0):(Xm s).2=O:=by
 cases hb:(Xm s).2 with
 | true=>rfl
 | false=>
   refine absurd ?_ h;revert hb;unfold Xm;cases(Ql s).2 with
   | true=>
     simp only[E];cases Xf (Wa (Ql s).1) with
     | false=>intro _;rfl
     | true=>intro h;cases h
   | false=>
     simp only[G];cases(s.toList==(⟨#[45]⟩:W).toList) with
     | false=>
       simp only[yG,E];cases Xf (Ko s) with
       | false=>intro _;rfl
       | true=>intro h;cases h
     | true=>
       simp only[zX,G];cases Xf (0,0,⟨#[]⟩) with
       | false=>intro _;rfl
       | true=>intro h;cases h
theorem Qrc{r d:K W}{q c:K Q0}(h:Pr r q d c):∃u,c=q++u:=by
 induction h with
 | all | nm | vl=>exact⟨_,rfl⟩
 | nt _ _ e=>obtain⟨u,rfl⟩:=e;exact⟨_,zJ ..⟩
 | tw _ _ _ _ a b=>obtain⟨u,rfl⟩:=a;obtain⟨f,rfl⟩:=b;exact⟨u++(f++_),by simp only[zJ];rfl⟩
theorem SJ:∀(n a:H) (p:K W) (q:K Q0) (b:H) (g:K Q0) (k:Y),Zf n p (a:Y) q (b:Y)=(g,k)->k≠0->Gs g->a<=30->p.length<=24->b<=10->∃j:H,k=(j:Y)/\Pr (p.drop a) q (p.drop (a+j)) g/\a+j<=p.length
 | 0,a,p,q,b,g,k,h,hk,_,_,_,_=>by
   obtain⟨_,rfl⟩:=Prod.mk.inj h;exact absurd rfl hk
 | n + 1, a,p,q,b,g,k,h,hk,hg,ha,hp,hd=>by
   rw[AU n p a q b (by omega) (by omega) hp (by omega) (by omega)] at h;cases hr:p.drop a with
   | nil=>
     rw[DS hr,SD] at h;obtain⟨_,rfl⟩:=Prod.mk.inj (show(q,(0:Y))=(g,k) from h);exact absurd rfl hk
   | cons w r=>
   obtain⟨e1,t,aa⟩:=Ck hr;rw[e1] at h
   have i:∀{c:D} {X:(K Q0)×Y},(bif c then(q,(0:Y)) else X)=(g,k)->X=(g,k):=λ{c} {X} h=>by
    cases c with
    | false=>exact h
    | true=>obtain⟨_,rfl⟩:=Prod.mk.inj (show(q,(0:Y))=(g,k) from h);exact absurd rfl hk
   have ab:b<=9:=by
    refine yM λhc=>?_
    unfold LX at h;rw[uF (show(b:Y)>9 by omega),Bool.true_or,Bool.or_true,E] at h;obtain⟨_,rfl⟩:=Prod.mk.inj h;exact hk rfl
   have z:∀d:Y,JF w=d->d=2\/d=8\/d=9->(q++ [((d,0,0,(Qt p ((a:Y)+1)),NZ):Q0)],(2:Y))=(g,k)->∃j:H,k=(j:Y)/\Pr (w::r) q (p.drop (a+j)) g/\a+j<=p.length:=λd ho h9 h=>by
    obtain⟨rfl,rfl⟩:=Prod.mk.inj h;rw[show((a:Y)+1)=((a+1:H):Y) from rfl] at hg⊢;cases m:p.drop (a+1) with
    | nil=>
      rw[DS m] at hg;exact Qez (hg.1.last (by show d=2\/_;omega))
    | cons x r2=>
      obtain⟨e2,a1,a4⟩:=Ck m;rw[e2,←t,m];refine⟨2,rfl, ?_,by omega⟩;rw[show a+2=a+1+1 from rfl,a1];exact .nm ho h9
   have a5:∀d:Y,JF w=d->d=3\/d=4->(q++ [((d,0,0,(Qt p ((a:Y)+1)),(Xm (Qt p ((a:Y)+2))).1):Q0)],(3:Y))=(g,k)->∃j:H,k=(j:Y)/\Pr (w::r) q (p.drop (a+j)) g/\a+j<=p.length:=λd ho h9 h=>by
    obtain⟨rfl,rfl⟩:=Prod.mk.inj h;rw[show((a:Y)+1)=((a+1:H):Y) from rfl,show((a:Y)+2)=((a+1+1:H):Y) from rfl] at hg⊢;have hv:=Qvc (hg.2 _ (yO _ (zO.2 rfl)) h9);cases m:p.drop (a+1) with
    | nil=>
      rw[DS m] at hg;exact Qez (hg.1.last (by show d=2\/_;omega))
    | cons x r2=>
      obtain⟨e2,a1,a4⟩:=Ck m;cases a2:p.drop (a+1+1) with
      | nil=>
        rw[DS a2,Qey] at hv;cases hv
      | cons y r4=>
        obtain⟨e3,a7,a9⟩:=Ck a2;rw[e3] at hv;rw[e2,e3,←t,m,←a1,a2];refine⟨3,rfl, ?_,by omega⟩;rw[show a+3=a+1+1+1 from rfl,a7];exact .vl ho h9 hv
   have hin:∀d:Y,JF w=d->d=5\/d=6\/d=7->(lt (Zf n p ((a:Y)+1) q ((b:Y)+1)) λl=>bif (l.2==(0:Y)) then(l.1,0) else bif (d !=(5:Y)) then lt (Zf n p ((a:Y)+(1+l.2)) l.1 ((b:Y)+1)) λf=>bif (f.2==(0:Y)) then(f.1,0) else(f.1++ [((d,((l.1.length:Y)-1),((f.1.length:Y)-1),⟨#[]⟩,NZ):Q0)],1+l.2+f.2) else(l.1++ [((d,((l.1.length:Y)-1),0,⟨#[]⟩,NZ):Q0)],1+l.2))=(g,k)->∃j:H,k=(j:Y)/\Pr (w::r) q (p.drop (a+j)) g/\a+j<=p.length:=λd ho h9 h=>by
    rw[show((a:Y)+1)=((a+1:H):Y) from rfl,show((b:Y)+1)=((b+1:H):Y) from rfl] at h;rcases h1:Zf n p ((a+1:H):Y) q ((b+1:H):Y) with⟨q1,k1⟩
    rw[h1] at h;have h:(bif (k1==(0:Y)) then(q1,(0:Y)) else bif (d !=(5:Y)) then lt (Zf n p ((a:Y)+(1+k1)) q1 ((b+1:H):Y)) λf=>bif (f.2==(0:Y)) then(f.1,0) else(f.1++ [((d,((q1.length:Y)-1),((f.1.length:Y)-1),⟨#[]⟩,NZ):Q0)],1+k1+f.2) else(q1++ [((d,((q1.length:Y)-1),0,⟨#[]⟩,NZ):Q0)],1+k1))=(g,k):=h;cases o:(k1==(0:Y)) with
    | true=>
      rw[o] at h;obtain⟨_,rfl⟩:=Prod.mk.inj (show(q1,(0:Y))=(g,k) from h);exact absurd rfl hk
    | false=>
      rw[o,G] at h;have o:=ne_of_beq_false o;rcases h9 with rfl | h9
      . have h:(q1++ [((5,((q1.length:Y)-1),0,⟨#[]⟩,NZ):Q0)],1+k1)=(g,k):=h;obtain⟨rfl,rfl⟩:=Prod.mk.inj h;obtain⟨j,rfl,hP,hj⟩:=SJ n (a+1) p q (b+1) q1 k1 h1 o hg.left (by omega) hp (by omega);refine⟨1+j,by omega, ?_,by omega⟩;rw[t] at hP;rw[show a+(1+j)=a+1+j by omega];exact .nt ho hP
      rw[show(d !=(5:Y))=O by rcases h9 with rfl | rfl<;>rfl,E] at h;rcases h2:Zf n p ((a:Y)+(1+k1)) q1 ((b+1:H):Y) with⟨q2,k2⟩
      rw[h2] at h;have h:(bif (k2==(0:Y)) then(q2,(0:Y)) else(q2++ [((d,((q1.length:Y)-1),((q2.length:Y)-1),⟨#[]⟩,NZ):Q0)],1+k1+k2))=(g,k):=h;cases v:(k2==(0:Y)) with
      | true=>
        rw[v] at h;obtain⟨_,rfl⟩:=Prod.mk.inj (show(q2,(0:Y))=(g,k) from h);exact absurd rfl hk
      | false=>
        rw[v,G] at h;have v:=ne_of_beq_false v;obtain⟨rfl,rfl⟩:=Prod.mk.inj h;have hl:=Rt n p ((a+1:H):Y) q ((b+1:H):Y) (by omega) (by omega) hp (by omega) (by omega);rw[h1] at hl;obtain⟨s,rfl⟩:=Int.eq_ofNat_of_zero_le (show 0<=k1 from hl.2.1);have ad:((s:Y)=0\/((a+1:H):Y)+(s:Y)<=(p.length:Y)+2):=hl.2.2;rw[show((a:Y)+(1+(s:Y)))=((a+(1+s):H):Y) by omega] at h2;obtain⟨j2,rfl,a3,ae⟩:=SJ n (a+(1+s)) p q1 (b+1) q2 k2 h2 v hg.left (by omega) hp (by omega)
        have a8:Gs q1:=by
         obtain⟨u,hu⟩:=Qrc a3;rw[hu] at hg;exact hg.left.left
        obtain⟨j3,e3,a6,af⟩:=SJ n (a+1) p q (b+1) q1 (s:Y) h1 o a8 (by omega) hp (by omega);obtain rfl:s=j3:=by omega
        refine⟨1+s+j2,by omega, ?_,by omega⟩;rw[t] at a6;rw[show a+(1+s)=a+1+s by omega] at a3;rw[show a+(1+s+j2)=a+1+s+j2 by omega];exact .tw ho h9 a6 a3
   rcases Qsu w with e | e | e | e | e | e | e | e | e | e<;>rw[e] at h<;>unfold LX at h
   . obtain⟨_,rfl⟩:=Prod.mk.inj (show(q,(0:Y))=(g,k) from h);exact absurd rfl hk
   . have h:=i h;obtain⟨rfl,rfl⟩:=Prod.mk.inj (show(q++ [((1,0,0,⟨#[]⟩,NZ):Q0)],(1:Y))=(g,k) from h);refine⟨1,rfl, ?_,by omega⟩;rw[t];exact .all e
   . exact z 2 e (by omega) (i h)
   . exact a5 3 e (by omega) (i h)
   . exact a5 4 e (by omega) (i h)
   . exact hin 5 e (by omega) (i h)
   . exact hin 6 e (by omega) (i h)
   . exact hin 7 e (by omega) (i h)
   . exact z 8 e (by omega) (i h)
   exact z 9 e (by omega) (i h)
theorem T1{s:W}(h:(decide (1<=s.size)&&s.data.toList.all λb=>decide (33<=b.toNat)&&decide (b.toNat<=126))=O):Word s:=by
 simp only[zN,uM,List.all_eq_true] at h;exact⟨h.1,h.2⟩
theorem Qvd{a:Y}(h:1<=a/\a<=9):Word (Q1 a):=by
 rcases DP (V0.2 h) with rfl | rfl | rfl | rfl | rfl | rfl | rfl | rfl | rfl<;>exact T1 (by decide)
theorem SK{n:Q0}{k:Y}(h:Jb n k=O):(n.1=2\/n.1=3\/n.1=4->Q8 n.2.2.2.1=O)/\(n.1=8\/n.1=9->Xp n.2.2.2.1=O)/\(n.1=3\/n.1=4->Xf n.2.2.2.2=O/\n.2.2.2.2.1≠0)/\(1<=n.1/\n.1<=9):=by
 unfold Jb at h;cases a:(n.1==(1:Y)) with
 | true=>have e:=eq_of_beq a;exact⟨λ_=>by omega,λ_=>by omega,λ_=>by omega,by omega⟩
 | false=>
 cases b:(n.1==(2:Y)) with
 | true=>
   have e:=eq_of_beq b;simp only[a,b,E,G,zN] at h;exact⟨λ_=>h.2,λ_=>by omega,λ_=>by omega,by omega⟩
 | false=>
 cases c:(n.1==(3:Y)) with
 | true=>
   have e:=eq_of_beq c;simp only[a,b,c,E,G,zN,bne_iff_ne] at h;exact⟨λ_=>h.2.1,λ_=>by omega,λ_=>⟨h.2.2.1,h.2.2.2.1⟩,by omega⟩
 | false=>
 cases d:(n.1==(4:Y)) with
 | true=>
   have e:=eq_of_beq d;simp only[a,b,c,d,E,G,zN,bne_iff_ne] at h;exact⟨λ_=>h.2.1,λ_=>by omega,λ_=>⟨h.2.2.1,h.2.2.2.1⟩,by omega⟩
 | false=>
 cases f:(n.1==(5:Y)) with
 | true=>have e:=eq_of_beq f;exact⟨λ_=>by omega,λ_=>by omega,λ_=>by omega,by omega⟩
 | false=>
 cases g:(n.1==(6:Y)) with
 | true=>have e:=eq_of_beq g;exact⟨λ_=>by omega,λ_=>by omega,λ_=>by omega,by omega⟩
 | false=>
 cases i:(n.1==(7:Y)) with
 | true=>have e:=eq_of_beq i;exact⟨λ_=>by omega,λ_=>by omega,λ_=>by omega,by omega⟩
 | false=>
 cases j:(n.1==(8:Y)) with
 | true=>
   have e:=eq_of_beq j;simp only[a,b,c,d,f,g,i,j,E,G,zN] at h;exact⟨λ_=>by omega,λ_=>h.2,λ_=>by omega,by omega⟩
 | false=>
 cases l:(n.1==(9:Y)) with
 | true=>
   have e:=eq_of_beq l;simp only[a,b,c,d,f,g,i,j,l,E,G,zN] at h;exact⟨λ_=>by omega,λ_=>h.2,λ_=>by omega,by omega⟩
 | false=>
   simp only[a,b,c,d,f,g,i,j,l,G] at h;cases h
theorem Qnr{q:K Q0}(h:Qm q=O):Gs q:=by
 have c:∀x,x∈q->∃k:Y,Jb x k=O:=λx a=>by
  obtain⟨i,e⟩:=yD a;exact⟨_,HP h e⟩
 refine⟨λx a d=>?_,λx a d=>?_⟩
 . obtain⟨k,b⟩:=c x a;obtain⟨f,g,_,_⟩:=SK b;by_cases j:x.1=8\/x.1=9
   . exact(Rr (g j)).1
   have:=PX (f (by omega));omega
 obtain⟨k,b⟩:=c x a;exact((SK b).2.2.1 d).2
def qw:H->K Q0->Y->K W
 | 0,_,_=> []
 | n+1,q,k=>bif ((qa q k).1==(2:Y))|| ((qa q k).1==(8:Y))|| ((qa q k).1==(9:Y)) then [Q1 (qa q k).1,(qa q k).2.2.2.1]
   else bif ((qa q k).1==(3:Y))|| ((qa q k).1==(4:Y)) then [Q1 (qa q k).1,(qa q k).2.2.2.1,Yi (qa q k).2.2.2.2]
   else bif ((qa q k).1==(5:Y)) then [Q1 (qa q k).1]++qw n q (qa q k).2.1
   else bif ((qa q k).1==(6:Y))|| ((qa q k).1==(7:Y)) then [Q1 (qa q k).1]++(qw n q (qa q k).2.1++qw n q (qa q k).2.2.1)
   else [Q1 (qa q k).1]
theorem Qiw{a:W}{l:K W}(h:l≠ []):Ya ⟨#[32]⟩ ([a]++l)=Ya ⟨#[32]⟩ [a,Ya ⟨#[32]⟩ l]:=by
 rw[Mn _ (λe=>by cases e) h,Vb,Wv]
theorem Qix{a:W}{l m:K W}(h:l≠ [])(b:m≠ []):Ya ⟨#[32]⟩ ([a]++(l++m))=Ya ⟨#[32]⟩ [a,Ya ⟨#[32]⟩ l,Ya ⟨#[32]⟩ m]:=by
 rw[Mn _ (λe=>by cases e) (by simp[h]),Vb,Mn _ h b,Wg];simp only[ByteArray.append_assoc]
theorem Qns:∀(n:H) {q:K Q0} (_:Qm q=O) {k:H} (_:k<q.length) (_:k<n),Y4 n q (k:Y)=Ya ⟨#[32]⟩ (qw n q (k:Y))/\qw n q (k:Y)≠ []/\∀y,y∈qw n q (k:Y)->Word y/\y.size<=10
 | 0,q,hv,k,hk,hn=>by omega
 | n +1,q,hv,k,hk,hn=>by
   have b:=HP hv (Hn hk);obtain⟨z,f2,f3,f4⟩:=SK b;have l:=Qvd f4;have a1:=Qnc (nth q k).1;have o:=SX hv (k:=(k:Y)) (by omega) (by omega);have p:=DC hv (k:=(k:Y)) (by omega) (by omega);have r:=FA hv (k:=(k:Y)) (by omega) (by omega);have s:=SY hv (k:=(k:Y)) (by omega) (by omega);have t:=Qal hv (k:=(k:Y)) (by omega) (by omega)
   have c:∀j:Y,0<=j/\j<(k:Y)->Y4 n q j=Ya ⟨#[32]⟩ (qw n q j)/\qw n q j≠ []/\∀y,y∈qw n q j->Word y/\y.size<=10:=λj hj=>by
    obtain⟨m,rfl⟩:=Int.eq_ofNat_of_zero_le hj.1;exact Qns n hv (by omega) (by omega)
   unfold Y4 qw
   (try unfold qa at o p r s t⊢);rw[zZ] at o p r s t⊢
   (try unfold qa at*);generalize nth q k=x at*
   have one:∀y,y∈ [Q1 x.1]->Word y/\y.size<=10:=λy hy=>by rw[zO.1 hy];exact⟨l,by omega⟩
   have d:Word x.2.2.2.1/\x.2.2.2.1.size<=10->∀y,y∈ [Q1 x.1,x.2.2.2.1]->Word y/\y.size<=10:=λhx y hy=>by
    rcases zU.1 hy with rfl | hy
    . exact one _ (zO.2 rfl)
    rw[zO.1 hy];exact hx
   have f:Q8 x.2.2.2.1=O->Word x.2.2.2.1/\x.2.2.2.1.size<=10:=λh=>⟨IQ h,by rw[PX h];decide⟩
   have g:Xp x.2.2.2.1=O->Word x.2.2.2.1/\x.2.2.2.1.size<=10:=λh=>⟨SH h,by have:=Rr h;omega⟩
   cases h2:(x.1==(2:Y)) with
   | true=>exact⟨rfl,List.cons_ne_nil _ _,d (f (z (.inl (eq_of_beq h2))))⟩
   | false=>
   cases h8:(x.1==(8:Y)) with
   | true=>exact⟨rfl,List.cons_ne_nil _ _,d (g (f2 (.inl (eq_of_beq h8))))⟩
   | false=>
   cases h9:(x.1==(9:Y)) with
   | true=>exact⟨rfl,List.cons_ne_nil _ _,d (g (f2 (.inr (eq_of_beq h9))))⟩
   | false=>
   have i:x.1=3\/x.1=4->∀y,y∈ [Q1 x.1,x.2.2.2.1,Yi x.2.2.2.2]->Word y/\y.size<=10:=λh y hy=>by
    rcases zU.1 hy with rfl | hy
    . exact one _ (zO.2 rfl)
    rcases zU.1 hy with rfl | hy
    . exact f (z (.inr h))
    rw[zO.1 hy];exact⟨Qg7 (f3 h).1 (f3 h).2,Qev _⟩
   cases h3:(x.1==(3:Y)) with
   | true=>exact⟨rfl,List.cons_ne_nil _ _,i (.inl (eq_of_beq h3))⟩
   | false=>
   cases h4:(x.1==(4:Y)) with
   | true=>exact⟨rfl,List.cons_ne_nil _ _,i (.inr (eq_of_beq h4))⟩
   | false=>
   cases h5:(x.1==(5:Y)) with
   | true=>
     obtain⟨u,v,w⟩:=c _ (o h5);refine⟨?_,λe=>by simp at e,λy hy=>?_⟩
     . show Ya _ [_,Y4 n q x.2.1]=Ya _ ([_]++qw n q x.2.1);rw[Qiw v,u]
     exact(yA.1 (show y∈ [Q1 x.1]++qw n q x.2.1 from hy)).elim (one y) (w y)
   | false=>
   have a:(0<=x.2.1/\x.2.1<(k:Y))->(0<=x.2.2.1/\x.2.2.1<(k:Y))->Ya ⟨#[32]⟩ [Q1 x.1,Y4 n q x.2.1,Y4 n q x.2.2.1]=Ya ⟨#[32]⟩ ([Q1 x.1]++(qw n q x.2.1++qw n q x.2.2.1))/\([Q1 x.1]++(qw n q x.2.1++qw n q x.2.2.1))≠ []/\∀y,y∈ [Q1 x.1]++(qw n q x.2.1++qw n q x.2.2.1)->Word y/\y.size<=10:=λhl hr=>by
    obtain⟨u,v,w⟩:=c _ hl;obtain⟨e1,e2,e3⟩:=c _ hr;refine⟨by rw[Qix v e2,u,e1],λe=>by simp at e,λy hy=>?_⟩;exact(yA.1 hy).elim (one y) λhy=>(yA.1 hy).elim (w y) (e3 y)
   cases h6:(x.1==(6:Y)) with
   | true=>exact a (p h6) (s h6)
   | false=>
   cases h7:(x.1==(7:Y)) with
   | true=>exact a (r h7) (t h7)
   | false=>exact⟨by show Ya _ [_]=Ya _ [_];rfl,List.cons_ne_nil _ _,one⟩
def qws(q:K Q0):K W:=qw q.length q ((q.length:Y)-1)
theorem BT{q:K Q0}(a:Qm q=O):Xr q=Ya ⟨#[32]⟩ (qws q)/\qws q≠ []/\∀y,y∈qws q->Word y/\y.size<=10:=by
 have b:=Nf a;unfold Xr qws;rw[a,show((q.length:Y)-1)=((q.length-1:H):Y) by omega];exact Qns q.length a (by omega) (by omega)
theorem Qe0{l:K W}(h:∀y,y∈l->Word y)(d:¬(l.length<=24/\(Ya ⟨#[32]⟩ l).size<=600)):Yh (Ya ⟨#[32]⟩ l)=([],I):=by
 unfold Yh;cases a:decide (((Ya ⟨#[32]⟩ l).size:Y)>(600:Y)) with
 | true=>rfl
 | false=>
   have a:=uE a;simp only[G];have c:=Qb3 (Ya ⟨#[32]⟩ l) (Ya ⟨#[32]⟩ l).data.toList 0 rfl;rw[Ij] at c;rw[show yH (zD (Ya ⟨#[32]⟩ l):Y)=(Ya ⟨#[32]⟩ l).size by omega,c]
   have ha:(Ya ⟨#[32]⟩ l).data.toList.all N4=O:=List.all_eq_true.2 λb hb=>by
    have:=AQ h b hb;unfold N4;simp only[zN,uM];exact this
   rw[ha,KP h];simp only[if_true,Out.on];rw[uF (show(l.length:Y)>24 by omega)];rfl
theorem Qyk{q:K Q0}(h:Qm q=O):q≠ []:=λe=>by have:=Nf h;rw[e] at this;simp at this
theorem Qyl{q:K Q0}(d:Qm q=O)(h:Zk (Xr q)=(q,O)):Pr (qws q) [] [] q/\((qws q).length<=24/\(Xr q).size<=600):=by
 obtain⟨j,o,k⟩:=BT d;rw[j] at h⊢;have e:∀y,y∈qws q->Word y:=λy l=>(k y l).1
 by_cases a:(qws q).length<=24/\(Ya ⟨#[32]⟩ (qws q)).size<=600
 . refine ⟨?_,a⟩;unfold Zk lt at h;rw[UC e a.1 a.2] at h;dsimp only at h;rcases f:Yg ((qws q).length+1) (qws q) [] with⟨b,r,g⟩
   rw[f] at h;simp only[zX,G] at h;cases c:((!b)|| (decide ((r.length:Y)>(0:Y))|| (!(Qm g)))) with
   | true=>rw[c] at h;obtain⟨_,h⟩:=Prod.mk.inj (show(([]:K Q0),I)=(q,O) from h);cases h
   | false=>
     rw[c] at h;obtain⟨rfl,_⟩:=Prod.mk.inj (show(g,O)=(q,O) from h);obtain⟨m,n⟩:=bo c;obtain⟨i,_⟩:=bo n;have i:=uE i;obtain rfl:r= []:=List.eq_nil_of_length_eq_zero (by omega);obtain rfl:=bn m;exact SI _ _ _ _ _ f (Qnr d).1
 unfold Zk at h;rw[Qe0 e a] at h;obtain⟨_,h⟩:=Prod.mk.inj (show(([]:K Q0),I)=(q,O) from h);cases h
theorem Qym{q:K Q0}(b:Qm q=O)(h:Pr (qws q) [] [] q)(a:(qws q).length<=24/\(Xr q).size<=600):Zk (Xr q)=(q,O):=by
 obtain⟨c,f,d⟩:=BT b;rw[c] at a⊢;unfold Zk lt;rw[UC (λy e=>(d y e).1) a.1 a.2];dsimp only;rw[Qva h _ (Nat.lt_succ_self _)];simp only[zX,G,b];rfl
theorem Qxb{q:K Q0}(g:Qm q=O)(h:Pr (qws q) [] [] q)(d:(qws q).length<=24/\(Xr q).size<=600):Jj (Xr q)=(q,O):=by
 obtain⟨b,j,i⟩:=BT g;have m:=Nf g;have k:=Qvb h 12 0 (qws q) 0 rfl d.1 (by omega) rfl
 have f:(Xr q).toList==(⟨#[]⟩:W).toList↔False:=by
  refine⟨λe=>?_,False.elim⟩;have e:=L5 e;obtain⟨y,l,c⟩:=List.exists_cons_of_ne_nil j;have hw:=(i y (by rw[c];exact zL ..)).1;have a:(Ya ⟨#[32]⟩ (qws q)).size=0:=by rw[←b,e];rfl
  rw[c] at a;cases l with
  | nil=>rw[Vb] at a;have:=hw.1;omega
  | cons z n=>rw[Hi,zE,zE] at a;have:=hw.1;omega
 unfold Jj lt;rw[Qng,b,UC (λy c=>(i y c).1) d.1 (by rw[←b];exact d.2)];dsimp only;rw[show(0:Y)=((0:H):Y) from rfl,k];dsimp only;rw[Qu3,OH,←b,uJ,show(((Xr q).toList==(⟨#[]⟩:W).toList)=I) from Bool.eq_false_iff.2 λe=>f.1 e];rw[show((((qws q).length-([]:K W).length:H):Y) !=((qws q).length:Y))=I from bne_eq_false_iff_eq.2 (by simp)];rfl
theorem Qxc{q:K Q0}(d:Qm q=O)(h:(Jj (Xr q)).1=q):Pr (qws q) [] [] q/\((qws q).length<=24/\(Xr q).size<=600):=by
 obtain⟨n,o,p⟩:=BT d;have b:=Qyk d;have g:∀y,y∈qws q->Word y:=λy r=>(p y r).1
 rw[n] at h⊢;unfold Jj lt at h;rw[Qng] at h;by_cases c:(qws q).length<=24/\(Ya ⟨#[32]⟩ (qws q)).size<=600
 . refine ⟨?_,c⟩;rw[UC g c.1 c.2] at h;dsimp only at h;rcases i:Zf 12 (qws q) 0 [] 0 with⟨a,k⟩
   rw[i] at h;simp only[zX,G] at h;cases f:(((k:Y) !=((qws q).length:Y))|| (((Zy a).toList==(⟨#[]⟩:W).toList)|| (!((Zy a).toList==(Am (qws q)).toList)))) with
   | true=>rw[f] at h;exact absurd (show []=q from h).symm b
   | false=>
     rw[f] at h;obtain rfl:a=q:=h;obtain⟨s,_⟩:=bo f;have t:k=((qws a).length:Y):=bne_eq_false_iff_eq.1 s;have l:1<=(qws a).length:=List.length_pos_iff.2 o;obtain⟨j,e,m,_⟩:=SJ 12 0 (qws a) [] 0 a k i (by omega) (Qnr d) (by omega) c.1 (by omega);obtain rfl:j=(qws a).length:=by omega
     rw[yK,List.drop_length] at m;exact m
 rw[Qe0 g c] at h;exact absurd (show []=q from h).symm b
abbrev SP:W:=⟨#[32]⟩
abbrev FLD:W:=⟨#[102,105,101,108,100]⟩
abbrev NXT:W:=⟨#[110,101,120,116]⟩
abbrev FIL:W:=⟨#[102,105,108,101]⟩
abbrev DIR:W:=⟨#[100,105,114]⟩
theorem Qy8{y:W}(h:Word y):(32:uI)∉y.data.toList:=h.no (by decide)
theorem UI{l:K W}(a:l≠ [])(h:∀y,y∈l->Word y):Q7 32 (Ya SP l)=l:=Qg1 a λy b=>Qy8 (h y b)
theorem UJ{l:K W}(h:∀y,y∈l->Word y)(a:l.length<=24)(b:(Ya SP l).size<=600):Qf (Ya SP l)=(l,O):=by rw[Qng];exact UC h a b
theorem Qca{f:Zt}(a:Q8 f.1=O)(b:f.2=1\/f.2=2):Jd f=Ya SP [FLD,f.1,bif f.2==(1:Y) then⟨#[105,110,116]⟩ else⟨#[115,116,114,105,110,103]⟩]:=by
 unfold Jd;rw[a,Wg];rcases b with h | h<;>rw[h]
 . show((⟨#[102,105,101,108,100,32]⟩:W)++f.1)++(⟨#[32,105,110,116]⟩:W)=_;rw[show(⟨#[102,105,101,108,100,32]⟩:W)=FLD++SP from rfl,show(⟨#[32,105,110,116]⟩:W)=SP++⟨#[105,110,116]⟩ from rfl];simp only[ByteArray.append_assoc];rfl
 show((⟨#[102,105,101,108,100,32]⟩:W)++f.1)++(⟨#[32,115,116,114,105,110,103]⟩:W)=_;rw[show(⟨#[102,105,101,108,100,32]⟩:W)=FLD++SP from rfl,show(⟨#[32,115,116,114,105,110,103]⟩:W)=SP++⟨#[115,116,114,105,110,103]⟩ from rfl];simp only[ByteArray.append_assoc];rfl
theorem Qxd{f:Zt}(a:Q8 f.1=O):∀y,y∈ [FLD,f.1,bif f.2==(1:Y) then(⟨#[105,110,116]⟩:W) else⟨#[115,116,114,105,110,103]⟩]->Word y/\y.size<=10:=λy b=>by
 simp only[zU,List.mem_nil_iff,uN] at b;rcases b with rfl | rfl | rfl
 . exact⟨T1 (by decide),by decide⟩
 . exact⟨IQ a,by rw[PX a];decide⟩
 cases(f.2==(1:Y))<;>exact⟨T1 (by decide),by decide⟩
theorem Qy9{f:Zt}(a:Q8 f.1=O)(b:f.2=1\/f.2=2)(c:K Zt)(d:K Xt)(g:Y)(i:K Yj):Ks c d g i (Jd f)=(O,c++ [f],d,g,i):=by
 rw[Qca a b];unfold Ks;rw[UI (λe=>by cases e) λy j=>(Qxd a y j).1];obtain⟨n,k⟩:=f;rcases b with h | h<;>obtain rfl:k=_:=h<;>kernel_rfl
theorem Qza{f:Zt}(b:Q8 f.1=O)(c:f.2=1\/f.2=2)(x:Qw):Jt x (Jd f)=((x.1.1++ [f],x.1.2.1,x.1.2.2),x.2):=by
 have hw:=Qxd b;have d:=Ad (s:=SP) (m:=10) (n:=3) rfl (λy a=>(hw y a).2) (yE _);rw[Qca b c];unfold Jt;rw[UJ (λy a=>(hw y a).1) (Nat.le_of_ble_eq_true rfl) (zQ d (by decide))];obtain⟨n,k⟩:=f;rcases c with h | h<;>obtain rfl:k=_:=h<;>(show _=_;kernel_rfl)
theorem Qcb(n:Y):(⟨#[110,101,120,116,32]⟩:W)++Q6 n=Ya SP [NXT,Q6 n]:=by
 rw[Wv];rfl
theorem Qxe{n:Y}(h:0<=n/\n<=1000000000):∀y,y∈ [NXT,Q6 n]->Word y/\y.size<=10:=λy a=>by
 simp only[zU,List.mem_nil_iff,uN] at a;rcases a with rfl | rfl
 . exact⟨T1 (by decide),by decide⟩
 exact⟨UG h.1,Vd h⟩
theorem Qzb{n:Y}(h:0<=n/\n<=1000000000)(a:K Zt)(c:K Xt)(f:Y)(d:K Yj):Ks a c f d ((⟨#[110,101,120,116,32]⟩:W)++Q6 n)=(O,a,c,n,d):=by
 rw[Qcb];unfold Ks;rw[UI (λe=>by cases e) λy g=>(Qxe h y g).1];refine Eq.trans (b:=((Ql (Q6 n)).2,a,c,(Ql (Q6 n)).1,d)) (by kernel_rfl) ?_;rw[UE h]
theorem Qzc{n:Y}(h:0<=n/\n<=1000000000)(x:Qw):Jt x ((⟨#[110,101,120,116,32]⟩:W)++Q6 n)=((x.1.1,x.1.2.1,n),x.2):=by
 have hw:=Qxe h;have c:=Ad (s:=SP) (m:=10) (n:=2) rfl (λy a=>(hw y a).2) (yE _);rw[Qcb];unfold Jt;rw[UJ (λy a=>(hw y a).1) (Nat.le_of_ble_eq_true rfl) (zQ c (by decide))];refine Eq.trans (b:=((x.1.1,x.1.2.1,(X1 (Q6 n)).1),x.2)) (by kernel_rfl) ?_;rw[Iu,UE h]
def Qiy(l:K Hk):K W:=l.flatMap λa=> [a.1,Yi a.2]
def Qyw(l:K Hk):Prop:=∀a,a∈l->Q8 a.1=O/\Xf a.2=O/\a.2.1≠0
theorem AW(a:Hk)(l:K Hk):Qiy (a::l)=a.1::Yi a.2::Qiy l:=rfl
theorem Qcc(l:K Hk):(Qiy l).length=2*l.length:=by
 induction l with
 | nil=>rfl
 | cons a l b=>rw[AW];simp only[List.length_cons,b];omega
theorem Qg8{w r:K W}{i:H}{a b:W}(h:w.drop i=a::b::r):nth w i=a/\nth w (i+1)=b/\w.drop (i+2)=r/\i+1<w.length:=by
 obtain⟨c,d,_⟩:=P0 h;obtain⟨e,f,g⟩:=P0 d;refine⟨?_, ?_,f,g⟩
 . unfold nth;rw[zV,c];rfl
 unfold nth;rw[zV,e];rfl
theorem BU{w:K W}{i:H}(h:w.drop i= []):w.length<=i:=by
 have:=uB zF h;rw[yB] at this;simp only[List.length_nil] at this;omega
theorem OJ{w:K W}(d:w.length<=1000):∀(l:K Hk) (i n:H) (A:K Hk),Qyw l->w.drop i=Qiy l->l.length<n->whl (Uk w) n (O,(i:Y),A)=uD (.brk (O,A++l))
 | [],i,n,A,_,h,hn=>by
   obtain⟨m,rfl⟩:∃m,n=m+1:=⟨n-1,by omega⟩;have j:=BU h
   have c:Uk w (O,(i:Y),A)= .brk (O,A):=by
    unfold Uk;rw[uC (show¬(i:Y)<(w.length:Y) by omega),G]
   rw[whl,c,zP]
 | a ::l,i,n,A,ho,h,hn=>by
   obtain⟨m,rfl⟩:∃m,n=m+1:=⟨n-1,by omega⟩;rw[AW] at h;obtain⟨e,f,g,k⟩:=Qg8 h;have ha:=ho a (zL ..)
   have c:Uk w (O,(i:Y),A)= .next (O,((i+2:H):Y),A++ [a]):=by
    unfold Uk;rw[uF (show(i:Y)<(w.length:Y) by omega),E];dsimp only;rw[IntWalk.i64_in ((i:Y)+1) (by omega),IntWalk.i64_in ((i:Y)+2) (by omega),show((i:Y)+1)=((i+1:H):Y) from rfl,zZ,zZ,e,f,Qb9 ha.2.1 ha.2.2];rfl
   rw[List.length_cons] at hn;rw[whl,c];show whl (Uk w) m (O,((i+2:H):Y),A++ [a])=_;rw[OJ d l (i+2) m (A++ [a]) (λb hb=>ho b (zK _ hb)) g (by omega),zJ,List.singleton_append]
theorem OK{line:W}{w:K W}(c:(Qf line).1=w)(e:w.length<=1000):∀(l:K Hk) (i n:H) (A:K Hk),Qyw l->w.drop i=Qiy l->l.length<n->whl (Vc line) n ((i:Y),A)=uD (.brk (A++l))
 | [],i,n,A,_,h,hn=>by
   obtain⟨m,rfl⟩:∃m,n=m+1:=⟨n-1,by omega⟩;have o:=BU h
   have d:Vc line ((i:Y),A)= .brk A:=by
    unfold Vc;rw[c,uC (show¬(i:Y)<(w.length:Y) by omega),G]
   rw[whl,d,zP]
 | a ::l,i,n,A,ho,h,hn=>by
   obtain⟨m,rfl⟩:∃m,n=m+1:=⟨n-1,by omega⟩;rw[AW] at h;obtain⟨f,g,j,p⟩:=Qg8 h;have ha:=ho a (zL ..)
   have d:Vc line ((i:Y),A)= .next (((i+2:H):Y),A++ [a]):=by
    unfold Vc;rw[c,uF (show(i:Y)<(w.length:Y) by omega),E];dsimp only;rw[IntWalk.i64_in ((i:Y)+1) (by omega),IntWalk.i64_in ((i:Y)+2) (by omega)]
    have k:Qt w ((i:Y)+1)=Yi a.2:=by
     unfold Qt;rw[uC (show¬((i:Y)+1)>=(w.length:Y) by omega),G,show((i:Y)+1)=((i+1:H):Y) from rfl,zZ,g]
    rw[k,zZ,f,UF,Qb9 ha.2.1 ha.2.2];rfl
   rw[List.length_cons] at hn;rw[whl,d];show whl (Vc line) m (((i+2:H):Y),A++ [a])=_;rw[OK c e l (i+2) m (A++ [a]) (λb hb=>ho b (zK _ hb)) j (by omega),zJ,List.singleton_append]
theorem Qnt{R S T:Type}[Inhabited T]{f:S->Rd R S T}{n:H}{s:S}{o:Out R T}(h:whl f n s=uD o):N2 f n s=o:=by unfold N2;rw[h];rfl
theorem UK(f:Xt):Gi f=FIL::Q6 f.1::Q6 f.2.1::(bif f.2.2.1 then(⟨#[115]⟩:W) else⟨#[111]⟩)::Q6 f.2.2.2.1::Qiy f.2.2.2.2:=rfl
theorem Qg9{f:Xt}(h:FBd f):∀y,y∈Gi f->Word y:=λy hy=>by
 rw[UK] at hy;have c:=h.1;have d:=h.2.1;have e:=h.2.2.1;simp only[zU] at hy;rcases hy with rfl | rfl | rfl | rfl | rfl | hy
 . exact T1 (by decide)
 . exact UG (by omega)
 . exact UG (by omega)
 . cases f.2.2.1<;>exact T1 (by decide)
 . exact UG (by omega)
 obtain⟨a,ha,hy⟩:=List.mem_flatMap.1 hy;have b:=h.2.2.2.2 a ha;simp only[zU,List.mem_nil_iff,uN] at hy;rcases hy with rfl | rfl
 . exact IQ b.1
 exact Qg7 b.2.1 b.2.2
theorem Qcd{f:Xt}(h:FBd f):Wj ((Gi f).drop 1)=(f,O):=by
 have k:=h.1;have m:=h.2.1;have p:=h.2.2.1;have q:=h.2.2.2.1;have a:((Gi f).drop 1).length=4+2*f.2.2.2.2.length:=by rw[UK];simp only[yR,List.drop_zero,List.length_cons,Qcc];omega
 unfold Wj;rw[a,uC (show¬((4+2*f.2.2.2.2.length:H):Y)<4 by omega),Bool.false_or];rw[show(yN ((4+2*f.2.2.2.2.length:H):Y) 2 !=(0:Y))=I from bne_eq_false_iff_eq.2 (by rw[Int.tmod_eq_emod_of_nonneg (by omega)];omega),G];have c:nth ((Gi f).drop 1) 0=Q6 f.1:=rfl;have d:nth ((Gi f).drop 1) 1=Q6 f.2.1:=rfl;have e:nth ((Gi f).drop 1) 2=(bif f.2.2.1 then(⟨#[115]⟩:W) else⟨#[111]⟩):=rfl;have g:nth ((Gi f).drop 1) 3=Q6 f.2.2.2.1:=rfl;rw[c,d,e,g,UE (n:=f.1) (by omega),UE (n:=f.2.1) (by omega),UE (n:=f.2.2.2.1) (by omega)];have j:=OJ (w:=(Gi f).drop 1) (by rw[a];omega) f.2.2.2.2 4 (4+2*f.2.2.2.2.length+1) [] h.2.2.2.2 rfl (by omega);have b:=Qnt j;rw[show(O&&(O&&O))=O from rfl,show(4:Y)=((4:H):Y) from rfl];simp only[];rw[b];obtain⟨i,o,s,l,z⟩:=f;cases s<;>(show _=_;kernel_rfl)
theorem Qzd{f:Xt}(h:FBd f)(a:K Zt)(c:K Xt)(d:Y)(e:K Yj):Ks a c d e (J5 f)=(O,a,c++ [f],d,e):=by
 rw[DR];unfold Ks;rw[UI (by rw[UK];exact List.cons_ne_nil _ _) (Qg9 h)];refine Eq.trans (b:=((Wj ((Gi f).drop 1)).2,a,c++ [(Wj ((Gi f).drop 1)).1],d,e)) (by kernel_rfl) ?_;rw[Qcd h]
theorem Qze{f:Xt}(h:FBd f)(x:Qw):Jt x (J5 f)=((x.1.1,x.1.2.1++ [f],x.1.2.2),x.2):=by
 have j:=h.1;have k:=h.2.1;have p:=h.2.2.1;have hb:=Qb5 h;have d:=Ad (s:=SP) (m:=10) (n:=15) rfl hb.2 hb.1;rw[DR];have c:=UJ (Qg9 h) (by omega) (zQ d (by decide));have e:=OK (line:=Ya SP (Gi f)) (w:=Gi f) (by rw[c]) (by omega) f.2.2.2.2 5 ((Gi f).length+1) [] h.2.2.2.2 rfl (by rw[UK];simp only[List.length_cons,Qcc];omega);have a:=Qnt e;unfold Jt;rw[c];refine Eq.trans (b:=(Out.on (N2 (Vc (Ya SP (Gi f))) ((Gi f).length+1) (((5:H):Y), [])) (λg=>((x.1.1,x.1.2.1++ [((X1 (Q6 f.1)).1,(X1 (Q6 f.2.1)).1,((bif f.2.2.1 then(⟨#[115]⟩:W) else⟨#[111]⟩).toList==(⟨#[115]⟩:W).toList),(X1 (Q6 f.2.2.2.1)).1,g)],x.1.2.2),x.2)):Qw)) (by kernel_rfl) ?_;rw[a,Iu,Iu,Iu,UE (n:=f.1) (by omega),UE (n:=f.2.1) (by omega),UE (n:=f.2.2.2.1) (by omega)];obtain⟨i,o,s,l,z⟩:=f;cases s<;>(show _=_;kernel_rfl)
theorem UL{d:Yj}(a:Qm d.2=O):Bu d=Ya SP (DIR::d.1::qws d.2):=by
 obtain⟨b,c,_⟩:=BT a;unfold Bu;rw[b,show(DIR::d.1::qws d.2)= [DIR,d.1]++qws d.2 from rfl,Mn _ (λe=>by cases e) c,Wv];simp only[ByteArray.append_assoc];rfl
theorem Qrd{d:Yj}(a:Xp d.1=O)(b:Qm d.2=O):∀y,y∈DIR::d.1::qws d.2->Word y/\y.size<=10:=λy hy=>by
 simp only[zU] at hy;rcases hy with rfl | rfl | hy
 . exact⟨T1 (by decide),by decide⟩
 . exact⟨SH a,by have:=Rr a;omega⟩
 exact(BT b).2.2 y hy
theorem Qyn{d:Yj}(g:Xp d.1=O)(a:Qm d.2=O)(b:K Zt)(c:K Xt)(e:Y)(f:K Yj):Ks b c e f (Bu d)=((Zk (Xr d.2)).2,b,c,e,f++ [(d.1,(Zk (Xr d.2)).1)]):=by
 obtain⟨h,i,_⟩:=BT a;rw[UL a,h];unfold Ks;rw[UI (List.cons_ne_nil _ _) λy j=>(Qrd g a y j).1];have k:decide (((DIR::d.1::qws d.2).length:Y)>(2:Y))=O:=uF (by have:=List.length_pos_iff.2 i;simp only[List.length_cons];omega);rw[k];show _=_
 kernel_rfl
theorem SL{d:Yj}(e:Xp d.1=O)(b:Qm d.2=O)(c:(DIR::d.1::qws d.2).length<=24/\(Bu d).size<=600)(x:Qw):Jt x (Bu d)=(x.1,x.2++ [(d.1,(Jj (Xr d.2)).1)]):=by
 obtain⟨f,g,_⟩:=BT b;rw[UL b] at c⊢;rw[f];unfold Jt;rw[UJ (λy h=>(Qrd e b y h).1) c.1 c.2];have i:decide (((DIR::d.1::qws d.2).length:Y)>(2:Y))=O:=uF (by have:=List.length_pos_iff.2 g;simp only[List.length_cons];omega);have p0:Qt (DIR::d.1::qws d.2) 0=DIR:=(Ck (a:=0) rfl).1;have j:Qt (DIR::d.1::qws d.2) 1=d.1:=(Ck (a:=1) rfl).1;have k1:(DIR.toList==(⟨#[102,105,101,108,100]⟩:W).toList)=I:=by kernel_rfl
 have k:(DIR.toList==(⟨#[110,101,120,116]⟩:W).toList)=I:=by kernel_rfl
 have l:(DIR.toList==(⟨#[102,105,108,101]⟩:W).toList)=I:=by kernel_rfl
 dsimp only;rw[p0,j,i,k1,k,l,uJ];simp only[E,G,yR,List.drop_zero];rw[OH]
theorem Qnu{d:Yj}(c:Xp d.1=O)(a:Qm d.2=O)(b:¬((DIR::d.1::qws d.2).length<=24/\(Bu d).size<=600))(x:Qw):Jt x (Bu d)=x:=by
 rw[UL a] at b⊢;unfold Jt;rw[Qng,Qe0 (λy e=>(Qrd c a y e).1) b]
 kernel_rfl
theorem Qe1{α:Type}[Inhabited α]:∀{a b:K α},a.length=b.length->(∀i,i<a.length->nth a i=nth b i)->a=b
 | [], [],_,_=>rfl
 | [],_::_,h,_=>by cases h
 | _::_, [],h,_=>by cases h
 | x::a,y::b,h,hi=>by
   have d:=hi 0 (Nat.zero_lt_succ _);have:a=b:=Qe1 (by simpa using h) λi c=>hi (i+1) (Nat.succ_lt_succ c)
   rw[this,show x=y from d]
theorem SM{R:Type}(b:K W)(f:H->W->uH->Rd D uH uH)(e:H->uH->uH)(j:∀k a,f k a ()=(bif (!(a.toList==(nth b k).toList)) then(.ret I) else(.next ()))):∀(l:K W) (k:H),Out.on (X5 f e l k ()) (λ_=>O)=decide (∀i,i<l.length->nth l i=nth b (k+i))
 | [],k=>by simp[X5,Out.on]
 | a :: l,k=>by
   simp only[X5];rw[j];cases c:(a.toList==(nth b k).toList) with
   | false=>
     simp only[yG,E,Out.on];refine(uC λh=>?_).symm;have d:a=nth b k:=h 0 (Nat.zero_lt_succ _);rw[d,uJ] at c;cases c
   | true=>
     simp only[zX,G];have d:a=nth b k:=L5 c;have m:=SM (R:=R) b f e j l (k+1);rw[m];refine uP.2 ⟨λh i g=>?_,λh i g=>?_⟩
     . cases i with
       | zero=>exact d
       | succ i=>have:=h i (Nat.lt_of_succ_lt_succ g);rw[show k+(i+1)=k+1+i by omega];exact this
     have:=h (i+1) (Nat.succ_lt_succ g);rw[show k+1+i=k+(i+1) by omega];exact this
theorem Qsv(a b:K W):W4 a b=decide (a=b):=by
 unfold W4;by_cases c:a.length=b.length
 . rw[show((a.length:Y) !=(b.length:Y))=I from bne_eq_false_iff_eq.2 (by omega),G,SM (R:=uH) b _ _ λ_ _=>rfl];refine uP.2 ⟨λh=>Qe1 c λi d=>by have:=h i d;rwa [yK] at this,λh i _=>by rw[h,yK]⟩
 rw[show((a.length:Y) !=(b.length:Y))=O from bne_iff_ne.2 (by omega),E];exact(uC λh=>c (by rw[h])).symm
theorem Qsw(a b:K W):C7 a b=decide (a=b):=by
 unfold C7;by_cases c:a.length=b.length
 . rw[show((a.length:Y) !=(b.length:Y))=I from bne_eq_false_iff_eq.2 (by omega),G,SM (R:=uH) b _ _ λ_ _=>rfl];refine uP.2 ⟨λh=>Qe1 c λi d=>by have:=h i d;rwa [yK] at this,λh i _=>by rw[h,yK]⟩
 rw[show((a.length:Y) !=(b.length:Y))=O from bne_iff_ne.2 (by omega),E];exact(uC λh=>c (by rw[h])).symm
def Ou:K W->Qw->Option Qw
 | [],s=>uD s
 | a::l,s=>bif (Ks s.1.1 s.1.2.1 s.1.2.2 s.2 a).1 then Ou l (((Ks s.1.1 s.1.2.1 s.1.2.2 s.2 a).2.1,(Ks s.1.1 s.1.2.1 s.1.2.2 s.2 a).2.2.1,(Ks s.1.1 s.1.2.1 s.1.2.2 s.2 a).2.2.2.1),(Ks s.1.1 s.1.2.1 s.1.2.2 s.2 a).2.2.2.2) else uG
def Mr:K W->Qw->Qw
 | [],s=>s
 | a::l,s=>Mr l (Jt s a)
theorem UM:∀(a b:K W) (s:Qw),Ou (a++b) s=(Ou a s).bind (Ou b)
 | [],_,_=>rfl
 | x::a,b,s=>by
   simp only[List.cons_append,Ou];cases(Ks s.1.1 s.1.2.1 s.1.2.2 s.2 x).1 with
   | true=>exact UM a b _
   | false=>rfl
theorem Qce:∀(a b:K W) (s:Qw),Mr (a++b) s=Mr b (Mr a s)
 | [],_,_=>rfl
 | _::a,b,s=>Qce a b _
theorem OL:∀(l:K W) (k:H) (s:Qw),X5 H8 Ci l k s=(match Ou l s with | some y=> .brk y | none=> .ret ((([], [],0), []),I))
 | [],_,_=>rfl
 | a ::l,k,s=>by
   have b:H8 k a s=bif (!(Ks s.1.1 s.1.2.1 s.1.2.2 s.2 a).1) then .ret ((([], [],0), []),I) else .next (((Ks s.1.1 s.1.2.1 s.1.2.2 s.2 a).2.1,(Ks s.1.1 s.1.2.1 s.1.2.2 s.2 a).2.2.1,(Ks s.1.1 s.1.2.1 s.1.2.2 s.2 a).2.2.2.1),(Ks s.1.1 s.1.2.1 s.1.2.2 s.2 a).2.2.2.2):=rfl
   simp only[X5,Ou];rw[b];cases(Ks s.1.1 s.1.2.1 s.1.2.2 s.2 a).1 with
   | true=>
     simp only[zX,G,E];exact OL l (k+1) _
   | false=>rfl
theorem OM:∀(l:K W) (k:H) (s:Qw),X5 Cj Fb l k s= .brk (Mr l s)
 | [],_,_=>rfl
 | a::l,k,s=>by
   simp only[X5,Mr];unfold Cj lt;exact OM l (k+1) _
abbrev ZS:Qw:=(([], [],0), [])
theorem Qzf(a:K W):X9 a=match Ou a ZS with
 | some y=>bif Qs y&&decide (Xb y=a) then(y,O) else(ZS,I)
 | none=>(ZS,I):=by
 unfold X9;rw[OL];cases Ou a ZS with
 | none=>rfl
 | some y=>
   simp only[Out.on];rw[Qsv];cases Qs y<;>cases decide (Xb y=a)<;>rfl
theorem Qzg(a:K W):Yc a=bif Qs (Mr a ZS)&&decide (Xb (Mr a ZS)=a) then(Mr a ZS,O) else(ZS,I):=by
 unfold Yc;rw[OM];simp only[Out.on];rw[Qsw,Ot,enc_eq];cases Qs (Mr a ZS)<;>cases decide (Xb (Mr a ZS)=a)<;>rfl
theorem Qcf:∀(l:K Zt) (s:Qw),(∀f,f∈l->Q8 f.1=O/\(f.2=1\/f.2=2))->Ou (l.map Jd) s=uD ((s.1.1++l,s.1.2.1,s.1.2.2),s.2)
 | [],s,_=>by rw[zP];rfl
 | f::l,s,h=>by
   have a:=h f (zL ..);rw[zY,Ou,Qy9 a.1 a.2];simp only[E];rw[Qcf l _ λg b=>h g (zK _ b)];simp only[zJ,List.singleton_append]
theorem Qcg:∀(l:K Zt) (s:Qw),(∀f,f∈l->Q8 f.1=O/\(f.2=1\/f.2=2))->Mr (l.map Jd) s=((s.1.1++l,s.1.2.1,s.1.2.2),s.2)
 | [],s,_=>by rw[zP];rfl
 | f::l,s,h=>by
   have a:=h f (zL ..);rw[zY,Mr,Qza a.1 a.2,Qcg l _ λg b=>h g (zK _ b)];simp only[zJ,List.singleton_append]
theorem Qch:∀(l:K Xt) (s:Qw),(∀f,f∈l->FBd f)->Ou (l.map J5) s=uD ((s.1.1,s.1.2.1++l,s.1.2.2),s.2)
 | [],s,_=>by rw[zP];rfl
 | f::l,s,h=>by
   rw[zY,Ou,Qzd (h f (zL ..))];simp only[E];rw[Qch l _ λg a=>h g (zK _ a)];simp only[zJ,List.singleton_append]
theorem Qci:∀(l:K Xt) (s:Qw),(∀f,f∈l->FBd f)->Mr (l.map J5) s=((s.1.1,s.1.2.1++l,s.1.2.2),s.2)
 | [],s,_=>by rw[zP];rfl
 | f::l,s,h=>by
   rw[zY,Mr,Qze (h f (zL ..)),Qci l _ λg a=>h g (zK _ a)];simp only[zJ,List.singleton_append]
abbrev DOk(d:Yj):Prop:=Xp d.1=O/\Qm d.2=O
def RdI(d:Yj):Prop:=Zk (Xr d.2)=(d.2,O)
def RdS(d:Yj):Prop:=((DIR::d.1::qws d.2).length<=24/\(Bu d).size<=600)/\(Jj (Xr d.2)).1=d.2
theorem Qcj:∀(l:K Yj) (s:Qw),(∀d,d∈l->DOk d)->(∀d,d∈l->RdI d)->Ou (l.map Bu) s=uD (s.1,s.2++l)
 | [],s,_,_=>by rw[zP];rfl
 | d::l,s,h,hr=>by
   have hd:=h d (zL ..);have b:=hr d (zL ..);unfold RdI at b;rw[zY,Ou,Qyn hd.1 hd.2,b];simp only[E];rw[Qcj l _ (λg a=>h g (zK _ a)) λg a=>hr g (zK _ a)];simp only[zJ,List.singleton_append]
theorem IR : ∀(l m:K Yj) (s t:Qw),(∀d,d∈l->DOk d)->Ou (l.map Bu) s=uD t->t.2=s.2++m->m.length=l.length->∀(i:H) d,l[i]? =uD d->∃g,m[i]? =uD g/\g.1=d.1/\Zk (Xr d.2)=(g.2,O)
 | [],_,_,_,_,_,_,_,i,d,hi=>by simp at hi
 | a :: l, m,s,t,h,hf,ht,hm,i,d,hi=>by
   have ha:=h a (zL ..);rw[zY,Ou,Qyn ha.1 ha.2] at hf;cases k:(Zk (Xr a.2)).2 with
   | false=>rw[k] at hf;cases hf
   | true =>
     rw[k] at hf;simp only[E] at hf;cases m with
     | nil=>simp at hm
     | cons g m=>
       have c:∀(l:K Yj) (s t:Qw),(∀d,d∈l->DOk d)->Ou (l.map Bu) s=uD t->∃u,t.2=s.2++u:=by
        intro l
        induction l with
        | nil=>intro s t _ h;obtain rfl:=yJ (show uD s=uD t from h);exact⟨[],(zP _).symm⟩
        | cons b l o=>
          intro s t hb h;have f:=hb b (zL ..);rw[zY,Ou,Qyn f.1 f.2] at h;cases n:(Zk (Xr b.2)).2 with
          | false=>rw[n] at h;cases h
          | true=>
            rw[n] at h;obtain⟨u,j⟩:=o _ t (λd hd=>hb d (zK _ hd)) h;exact⟨_::u,by rw[j];simp only[zJ,List.singleton_append];rfl⟩
       obtain⟨u,j⟩:=c l _ t (λd hd=>h d (zK _ hd)) hf
       have e: [(a.1,(Zk (Xr a.2)).1)]++u=g::m:=by
        have:=j.symm.trans ht;simp only[zJ] at this;exact List.append_cancel_left this
       obtain⟨rfl,rfl⟩:(a.1,(Zk (Xr a.2)).1)=g/\u=m:=by simpa using e
       cases i with
       | zero=>
         obtain rfl:a=d:=by simpa using hi
         exact⟨_,rfl,rfl,by rw[←k]⟩
       | succ i=>
         exact IR l u _ t (λd hd=>h d (zK _ hd)) hf j (by simpa using hm) i d (by simpa using hi)
theorem Qck:∀(l:K Yj) (s:Qw),(∀d,d∈l->DOk d)->(∀d,d∈l->RdS d)->Mr (l.map Bu) s=(s.1,s.2++l)
 | [],s,_,_=>by rw[zP];rfl
 | d::l,s,h,hr=>by
   have hd:=h d (zL ..);have b:=hr d (zL ..);rw[zY,Mr,SL hd.1 hd.2 b.1,b.2,Qck l _ (λg a=>h g (zK _ a)) λg a=>hr g (zK _ a)];simp only[zJ,List.singleton_append]
theorem DT:∀(l:K Yj) (s:Qw),(∀d,d∈l->DOk d)->∃u,(Mr (l.map Bu) s).2=s.2++u/\u.length<=l.length
 | [],s,_=>⟨[],(zP _).symm,yE _⟩
 | d ::l,s,h=>by
   have hd:=h d (zL ..);rw[zY,Mr];by_cases e:(DIR::d.1::qws d.2).length<=24/\(Bu d).size<=600
   . rw[SL hd.1 hd.2 e];obtain⟨u,a,b⟩:=DT l (s.1,s.2++ [(d.1,(Jj (Xr d.2)).1)]) λg c=>h g (zK _ c)
     exact⟨_::u,by rw[a];simp only[zJ,List.singleton_append];rfl,Nat.succ_le_succ b⟩
   rw[Qnu hd.1 hd.2 e];obtain⟨u,a,b⟩:=DT l s λg c=>h g (zK _ c)
   exact⟨u,a,Nat.le_succ_of_le b⟩
theorem IS:∀(l:K Yj) (s:Qw),(∀d,d∈l->DOk d)->(Mr (l.map Bu) s).2=s.2++l->∀d,d∈l->RdS d
 | [],_,_,_,d,hd=>by cases hd
 | a ::l,s,h,hf,d,hd=>by
   have ha:=h a (zL ..);have c:=λg j=>h g (zK _ j)
   rw[zY,Mr] at hf;by_cases f:(DIR::a.1::qws a.2).length<=24/\(Bu a).size<=600
   . rw[SL ha.1 ha.2 f] at hf;obtain⟨u,b,_⟩:=DT l (s.1,s.2++ [(a.1,(Jj (Xr a.2)).1)]) c
     have e: [(a.1,(Jj (Xr a.2)).1)]++u=a::l:=by
      have:=b.symm.trans hf;simp only[zJ] at this;exact List.append_cancel_left this
     obtain⟨e1,rfl⟩:(a.1,(Jj (Xr a.2)).1)=a/\u=l:=by simpa using e
     have k:(Jj (Xr a.2)).1=a.2:=uB Prod.snd e1;rcases zU.1 hd with rfl | hd
     . exact⟨f,k⟩
     exact IS u (s.1,s.2++ [(a.1,(Jj (Xr a.2)).1)]) c b d hd
   rw[Qnu ha.1 ha.2 f] at hf;obtain⟨u,b,i⟩:=DT l s c;have e:u=a::l:=List.append_cancel_left (b.symm.trans hf);rw[e] at i;simp only[List.length_cons] at i;omega
theorem Qsx{d:Yj}(h:DOk d):RdI d↔RdS d:=by
 unfold RdI RdS;refine⟨λe=>?_,λb=>?_⟩
 . obtain⟨a,b⟩:=Qyl h.2 e;have f:=a.len;have c:=Nf h.2;simp only[List.length_nil] at f;refine⟨⟨by simp only[List.length_cons];omega, ?_⟩,by rw[Qxb h.2 a b]⟩;have hb:=Ad (s:=SP) (m:=10) (n:=21) (l:=DIR::d.1::qws d.2) rfl (λy g=>(Qrd h.1 h.2 y g).2) (by simp only[List.length_cons];omega);rw[UL h.2];exact zQ hb (by decide)
 obtain⟨a,c⟩:=Qxc h.2 b.2;exact Qym h.2 a c
theorem BV{x:Qw}(a:Qs x=O):Xb x=(x.1.1.map Jd++ [((⟨#[110,101,120,116,32]⟩:W)++(Q6 x.1.2.2))])++(x.1.2.1.map J5++x.2.map Bu):=by
 rw[IN,a];simp only[zX,G,zJ]
theorem Qve{x:Qw}(a:Qs x=O):Ou (Xb x) ZS=Ou (x.2.map Bu) ((x.1.1,x.1.2.1,x.1.2.2), []):=by
 have hb:=Sd a;have b:=(DO (Qet (AK a)).1).2;rw[BV a,UM,UM,Qcf _ _ b];simp only[Option.bind_some,Ou];rw[Qzb (by omega)];simp only[E];rw[Option.bind_some,UM,Qch _ _ hb.2.2.2];rfl
theorem Qvf{x:Qw}(a:Qs x=O):Mr (Xb x) ZS=Mr (x.2.map Bu) ((x.1.1,x.1.2.1,x.1.2.2), []):=by
 have hb:=Sd a;have b:=(DO (Qet (AK a)).1).2;rw[BV a];simp only[Qce];rw[Qcg _ _ b];simp only[Mr];rw[Qzc (by omega),Qci _ _ hb.2.2.2];rfl
theorem Qre{x:Qw}(a:Qs x=O):∀d,d∈x.2->DOk d:=λd hd=>(DQ a hd).2
theorem Qha{x:Qw}(b:Qs x=O):Ou (Xb x) ZS=uD x↔Mr (Xb x) ZS=x:=by
 have hd:=Qre b;rw[Qve b,Qvf b];refine⟨λh=>?_,λh=>?_⟩
 . have c:∀d,d∈x.2->RdI d:=λd a=>by
    obtain⟨i,e⟩:=yD a;obtain⟨g,f,k,j⟩:=IR x.2 x.2 _ x hd h rfl rfl i d e;obtain rfl:d=g:=yJ (e.symm.trans f);exact j
   rw[Qck _ _ hd λd a=>(Qsx (hd d a)).1 (c d a)];rfl
 have c:=IS x.2 ((x.1.1,x.1.2.1,x.1.2.2), []) hd (by rw[h];rfl);rw[Qcj _ _ hd λd a=>(Qsx (hd d a)).2 (c d a)];rfl
theorem Qnv(lines:K W):Yc lines=X9 lines:=by
 rw[Qzf,Qzg];cases a:(Qs (Mr lines ZS)&&decide (Xb (Mr lines ZS)=lines)) with
 | true=>
   simp only[zN,uM] at a;have hb:=(Qha a.1).2 (by rw[a.2]);rw[a.2] at hb;rw[hb];simp only[a.1,a.2,decide_true,Bool.and_true,E]
 | false=>
   simp only[G];cases c:Ou lines ZS with
   | none=>rfl
   | some y=>
     simp only[];cases b:(Qs y&&decide (Xb y=lines)) with
     | false=>rfl
     | true=>
       exfalso;simp only[zN,uM] at b;have hb:=(Qha b.1).1 (by rw[b.2];exact c);rw[b.2] at hb;rw[hb] at a;simp only[b.1,b.2,decide_true,Bool.and_true] at a;cases a
theorem IT:∀(l:K W) (k:H) (s:W),X5 Fx Mq l k s=X5 C2 Fw l k s/\∃y,X5 C2 Fw l k s= .brk y
 | [],k,s=>⟨rfl,s,rfl⟩
 | a::l,k,s=>by
   simp only[X5,Fx,C2];rw[ByteArray.append_assoc];exact IT l (k+1) _
theorem ON(n:Y)(x:Qw):Hy n x=Uf n x:=by
 unfold Hy Uf;have e:∀n,Xd n 1 1000000000=X6 n 1 1000000000:=λn=>rfl
 rw[Ot,enc_eq,e,(IT _ _ _).1];cases((!(Qs x))|| (!(X6 n 1 1000000000))) with
 | true=>rfl
 | false=>
   obtain⟨y,a⟩:=(IT (Xb x) 0 ((Q6 n)++(⟨#[10]⟩:W))).2;rw[a];simp only[G,Out.on];rw[Qg0]
theorem Qe2{n:Y}(x:Qw)(h:¬(1<=n/\n<=1000000000)):Uf n x=⟨#[]⟩:=by
 unfold Uf
 have e:X6 n 1 1000000000=I:=by
  cases a:X6 n 1 1000000000 with
  | false=>rfl
  | true=>exact absurd (V0.1 a) h
 rw[e];simp only[yG,Bool.or_true,E]
theorem UN(s:W):Xk s=Q5 s:=by
 unfold Xk Q5;rw[Qg6];have e:=AP 10 s;have a:((Q7 10 s).dropLast).length=(Q7 10 s).length-1:=List.length_dropLast ..;by_cases c:(Q7 10 s).length=1
 . rw[a,c];rfl
 rw[show((((Q7 10 s).dropLast).length:Y)==(0:Y))=I from by
  cases b:((((Q7 10 s).dropLast).length:Y)==(0:Y)) with
  | false=>rfl
  | true=>have:=eq_of_beq b;omega,uC (show¬((Q7 10 s).length:Y)<2 by omega),G,G]
 have f:nth ((Q7 10 s).dropLast) 0=nth (Q7 10 s) 0:=by
  unfold nth;rw[zV,zV,List.getElem?_dropLast,if_pos (by omega)]
 have g:zT (yH (((Q7 10 s).length:Y)-1)) (Q7 10 s)=(Q7 10 s).dropLast:=by
  rw[List.dropLast_eq_take,show yH (((Q7 10 s).length:Y)-1)=(Q7 10 s).length-1 by omega]
 rw[f,g,Qnv,Iu,ON];cases d:(Ql (nth (Q7 10 s) 0)).2 with
 | true=>rfl
 | false=>
   have b:(Ql (nth (Q7 10 s) 0)).1=0:=by
    unfold Ql at d⊢;cases h:Nk (nth (Q7 10 s) 0) with
    | none=>rfl
    | some n=>rw[h] at d;cases d
   rw[b,Qe2 _ (by omega)]
   have i:((⟨#[]⟩:W).toList==s.toList)=I:=by
    cases b:((⟨#[]⟩:W).toList==s.toList) with
    | false=>rfl
    | true=>rw[←L5 b] at c;exact absurd rfl c
   rw[i];simp only[yG,Bool.or_true,Bool.true_or,E]
theorem Qnw{c:D}{n:Y}{x:Qw}(h:(bif c then((0,ZS,I):Y×Qw×D) else(n,x,O)).2.2=I):(bif c then((0,ZS,I):Y×Qw×D) else(n,x,O))=(0,ZS,I):=by
 cases c with
 | true=>rfl
 | false=>cases h
theorem Qnx(d:P3):Jn d=J6 d:=by
 unfold Jn J6;rw[UN,UN]
 have e:∀s,(Q5 s).2.2=I->Q5 s=(0,ZS,I):=λs h=>by
  unfold Q5 at h⊢;cases c:decide (((Q7 10 s).length:Y)<(2:Y)) with
  | true=>rfl
  | false=>
    rw[c] at h;simp only[G] at h⊢;exact Qnw h
 have c:=e d.1;have f:=e d.2;generalize Q5 d.1=a at c⊢;generalize Q5 d.2=b at f⊢;obtain⟨n,x,p⟩:=a;obtain⟨m,y,q⟩:=b;cases p with
 | true=>
   cases q with
   | true=>
     by_cases h:m>n
     . simp[h,show¬n>=m by omega]
     simp[h,show n>=m by omega]
   | false=>rfl
 | false=>
   cases q with
   | true=>rfl
   | false=>
     have g:=c rfl;have i:=f rfl;rw[g,i];rfl
def Kg(d:P3):Y×Qw×D:=(((Jn d)).1,(((Jn d)).2.1),((Jn d)).2.2.1)
theorem ZI(d:P3)(a:zD d.1<=1073741000)(b:zD d.2<=1073741000):ACalls uS 49 [.a [.s d.1,.s d.2]] (.tup [(I, [.i (((Kg d)).1)]),(O, [.o 0 ((((Kg d)).2.1).1.1),.o 1 ((((Kg d)).2.1).1.2.1),.i ((((Kg d)).2.1).1.2.2),.o 2 ((((Kg d)).2.1).2)]),(I, [.b (((Kg d)).2.2)])]):=by
 refine en func49 λ_ _ _=>sn [1,2,3,4] [1,3] p0 ?_
 exact tn [2,3,4,5,6,7] [3,6] (pc 1 (IP d (by assumption) (by assumption)) p0)<|tU [(2,.i (((Jn d)).1)),(3,.p 3 0),(4,.b (((Jn d)).2.2.1))] [0] [(3, [.o 704 ((((Jn d)).2.1).1.1),.o 705 ((((Jn d)).2.1).1.2.1),.i ((((Jn d)).2.1).1.2.2),.o 706 ((((Jn d)).2.1).2)])] [] p0<|Qc<|pz [] (show Kg d=(((Jn d)).1,(((Jn d)).2.1),((Jn d)).2.2.1) from rfl) (λz=> .tup [(I, [.i z.1]),(O, [.o 0 z.2.1.1.1,.o 1 z.2.1.1.2.1,.i z.2.1.1.2.2,.o 2 z.2.1.2]),(I, [.b z.2.2])])
def Kh(x:Ul):Qw:=((Xc x.1.1),(X0 x.1.2.1))
theorem ZJ(x:Ul):ACalls uS 30 [.a [.h x.1.1.1,.h x.1.1.2.1,.i x.1.1.2.2,.h x.1.2.1,.h x.1.2.2,.s x.2.1.1,.s x.2.1.2,.i x.2.2.1,.h x.2.2.2.1,.h x.2.2.2.2.1,.h x.2.2.2.2.2]] (.a [.o 0 ((Kh x).1.1),.o 1 ((Kh x).1.2.1),.i ((Kh x).1.2.2),.o 2 ((Kh x).2)]):=by
 refine en func30 λ_ _ _=>sn [1,2] [1,2] p0 ?_
 exact tN [2] [2] (pc 3 (Cx x.1.1) (pc 7 (A6 x.1.2.1) p0))<|Qc<|pz [] (show Kh x=((Xc x.1.1),(X0 x.1.2.1)) from rfl) (λz=> .a [.o 0 z.1.1,.o 1 z.1.2.1,.i z.1.2.2,.o 2 z.2])
def C8(x:Qw):Qw:=((Qg x.1),(Vt x.2))
theorem LY(x:Qw):ACalls uS 48 [.a [.h x.1.1,.h x.1.2.1,.i x.1.2.2,.h x.2]] (.a [.o 0 ((C8 x).1.1),.o 1 ((C8 x).1.2.1),.i ((C8 x).1.2.2),.o 2 ((C8 x).2)]):=by
 refine en func48 λ_ _ _=>sn [1,2] [1,2] p0 ?_
 exact tN [2] [2] (pc 2 (Lt x.1) (pc 5 (A0 x.2) p0))<|Qc<|pz [] (show C8 x=((Qg x.1),(Vt x.2)) from rfl) (λz=> .a [.o 0 z.1.1,.o 1 z.1.2.1,.i z.1.2.2,.o 2 z.2])
def Ki(x:Ul):Qw:=(C8 (x.1.1,x.1.2.1))
theorem ZK(x:Ul):ACalls uS 20 [.a [.h x.1.1.1,.h x.1.1.2.1,.i x.1.1.2.2,.h x.1.2.1,.h x.1.2.2,.s x.2.1.1,.s x.2.1.2,.i x.2.2.1,.h x.2.2.2.1,.h x.2.2.2.2.1,.h x.2.2.2.2.2]] (.a [.o 0 ((Ki x).1.1),.o 1 ((Ki x).1.2.1),.i ((Ki x).1.2.2),.o 2 ((Ki x).2)]):=by
 refine en func20 λ_ _ _=>sn [1,2] [1,2] p0 ?_
 exact tn [2] [2] (pc 7 (LY (x.1.1,x.1.2.1)) p0)<|Qc<|pz [] (show Ki x=(C8 (x.1.1,x.1.2.1)) from rfl) (λz=> .a [.o 0 z.1.1,.o 1 z.1.2.1,.i z.1.2.2,.o 2 z.2])
def C9(a:Qw)(b:Qw):D:=(W4 (Xb a) (Xb b))
theorem LZ(a:Qw)(b:Qw):ACalls uS 29 [.a [.h a.1.1,.h a.1.2.1,.i a.1.2.2,.h a.2],.a [.h b.1.1,.h b.1.2.1,.i b.1.2.2,.h b.2]] (.b (C9 a b)):=by
 refine en func29 λ_ _ _=>sn [2,3,4] [2,3] p0 ?_
 exact tN [4] [] (pc 1 (Cs a) (pc 3 (Cs b) (pc 4 (N5 (Xb a) (Xb b)) p0)))<|Qc<|pb [] (show C9 a b=(W4 (Xb a) (Xb b)) from rfl)
def Da(a:Qw)(b:Qw):D:=(C7 (Yp a) (Yp b))
theorem MA(a:Qw)(b:Qw):ACalls uS 19 [.a [.h a.1.1,.h a.1.2.1,.i a.1.2.2,.h a.2],.a [.h b.1.1,.h b.1.2.1,.i b.1.2.2,.h b.2]] (.b (Da a b)):=by
 refine en func19 λ_ _ _=>sn [2,3,4] [2,3] p0 ?_
 exact tN [4] [] (pc 1 (Ct a) (pc 3 (Ct b) (pc 4 (JE (Yp a) (Yp b)) p0)))<|Qc<|pb [] (show Da a b=(C7 (Yp a) (Yp b)) from rfl)
theorem Qiz(l:K Xt):Dh l=l:=by
 unfold Dh;rw[Ww (f:=Gu) (g:=id) (λ_ _ _=>rfl),yQ];rfl
theorem Qny(d:K Yj):X0 d=d:=by
 unfold X0;rw[Ww (f:=Lp) (g:=id) (λ_ _ _=>rfl),yQ];rfl
theorem Qi0(s:X2):Xc s=s:=by
 unfold Xc;rw[Qiz]
theorem Qvg(s:X2):Qg s=s:=by
 unfold Qg;rw[Ww (f:=Ds) (g:=id) (λ_ _ _=>rfl),yQ];rfl
theorem Qvh(d:K Yj):Vt d=d:=by
 unfold Vt;rw[Ww (f:=M3) (g:=id) (λ_ _ _=>rfl),yQ];rfl
theorem Qi1(x:Ul):Ki x=Kh x:=by
 unfold Ki Kh C8;rw[Qvg,Qvh,Qi0,Qny]
theorem Qrf(a b:Qw):Da a b=C9 a b:=by
 unfold Da C9;rw[enc_eq,enc_eq,Qsv,Qsw]
def Nl(d:P3)(x:Qw):Y:=(zD (((Fd d x)).1):Y)
theorem MB(d:P3)(x:Qw)(a:zD d.1<=1073741000)(b:zD d.2<=1073741000):ACalls uS 31 [.a [.s d.1,.s d.2],.a [.h x.1.1,.h x.1.2.1,.i x.1.2.2,.h x.2]] (.i (Nl d x)):=by
 refine en func31 λ_ _ _=>sn [2,3,4] [2,3] p0 ?_
 exact tn [4,5] [] (pc 2 (LW d x (by assumption) (by assumption)) p0)<|tu [(4,.i (zD (((Fd d x)).1):Y))] [0,1] [] [] p0<|Qc<|pi [] (show Nl d x=(zD (((Fd d x)).1):Y) from rfl)
def Nm(d:P3)(x:Qw):Y:=(zD (Hy (uQ uR (((Kg d)).1+1)) x):Y)
theorem MC(d:P3)(x:Qw)(a:zD d.1<=1073741000)(b:zD d.2<=1073741000):ACalls uS 21 [.a [.s d.1,.s d.2],.a [.h x.1.1,.h x.1.2.1,.i x.1.2.2,.h x.2]] (.i (Nm d x)):=by
 refine en func21 λ_ _ _=>sn [2,3,4] [2,3] p0 ?_
 exact tn [3,4,5] [3] (pc 1 (ZI d (by assumption) (by assumption)) p0)<|tu [(4,.i (zD (Hy (uQ uR (((Kg d)).1+1)) x):Y))] [0,1] [] [] (pc 3 (QN (uQ uR (((Kg d)).1+1)) x) p0)<|Qc<|pi [] (show Nm d x=(zD (Hy (uQ uR (((Kg d)).1+1)) x):Y) from rfl)
def Dt(x:Ul)(b:Y)(a:K Vk):Y:=(bif ((!(((Xh x b a)).2))|| (C9 (((Xh x b a)).1) (Kh x))) then 0 else(Nl x.2.1 (((Xh x b a)).1)))
theorem CS(x:Ul)(b:Y)(a:K Vk)(i:zD x.2.1.1<=1073741000)(j:zD x.2.1.2<=1073741000):ACalls uS 9 [.a [.h x.1.1.1,.h x.1.1.2.1,.i x.1.1.2.2,.h x.1.2.1,.h x.1.2.2,.s x.2.1.1,.s x.2.1.2,.i x.2.2.1,.h x.2.2.2.1,.h x.2.2.2.2.1,.h x.2.2.2.2.2],.i b,.h a] (.i (Dt x b a)):=by
 refine en func9 λ_ _ _=>sn [1,2,3,6] [3] p0 ?_
 refine tn [3,6,7,8] [3,7] (pc 3 (Tu x b a) p0)<|Qa<|Qa<|mz [(3,.p 3 0),(6,.i 0),(7,.p 7 0),(8,.b (((Xh x b a)).2))] [0,1,2] [(3, [.h x.1.1.1,.h x.1.1.2.1,.i x.1.1.2.2,.h x.1.2.1,.h x.1.2.2,.s x.2.1.1,.s x.2.1.2,.i x.2.2.1,.h x.2.2.2.1,.h x.2.2.2.2.1,.h x.2.2.2.2.2]),(7, [.o 832 ((((Xh x b a)).1).1.1),.o 833 ((((Xh x b a)).1).1.2.1),.i ((((Xh x b a)).1).1.2.2),.o 834 ((((Xh x b a)).1).2)])] []<|jn [(23,.b ((!(((Xh x b a)).2))|| (C9 (((Xh x b a)).1) (Kh x))))] [8] [] [] (!(((Xh x b a)).2)) (λd=>?_) (λd=>?_) ?_
 ·have c:(((Xh x b a)).2)=I:=Kj d;exact rN [3,6,7,23] [3,7] (pf 0 c (pe 1 (show .b (!I)= .b O from rfl) p0))<|zA (by rw[d]<;>kernel_rfl)
 ·have c:(((Xh x b a)).2)=O:=Yu d;exact rN [3,6,7,23] [3,7] (pt 0 c (pe 1 (show .b (!O)= .b I from rfl) (pc 5 (ZJ x) (pc 6 (LZ (((Xh x b a)).1) (Kh x)) p0))))<|zA (by rw[d]<;>kernel_rfl)
 refine ck ((!(((Xh x b a)).2))|| (C9 (((Xh x b a)).1) (Kh x))) (λe=>?_) (λe=>?_)
 ·exact su [] [23] [] [] p0<|Qc<|pi [] (Qu e rfl)
 have f:((!(((Xh x b a)).2)))=I:=Sl e;have g:(((Xh x b a)).2)=O:=Yu f;have h:((C9 (((Xh x b a)).1) (Kh x)))=I:=Rz e;exact Qd<|sn [6] [] (pc 3 (MB x.2.1 (((Xh x b a)).1) (by assumption) (by assumption)) p0)<|Qc<|pi [] (Qh e rfl)
def Se(x:Ul)(u:Y)(a:K Vk):Y:=(bif ((!(((Xi x u a)).2))|| (Da (((Xi x u a)).1) (Ki x))) then 0 else(Nm x.2.1 (((Xi x u a)).1)))
theorem CT(x:Ul)(u:Y)(a:K Vk)(h:zD x.2.1.1<=1073741000)(i:zD x.2.1.2<=1073741000):ACalls uS 6 [.a [.h x.1.1.1,.h x.1.1.2.1,.i x.1.1.2.2,.h x.1.2.1,.h x.1.2.2,.s x.2.1.1,.s x.2.1.2,.i x.2.2.1,.h x.2.2.2.1,.h x.2.2.2.2.1,.h x.2.2.2.2.2],.i u,.h a] (.i (Se x u a)):=by
 refine en func6 λ_ _ _=>sn [1,2,3,6] [3] p0 ?_
 refine tn [3,6,7,8] [3,7] (pc 3 (Tw x u a) p0)<|Qa<|Qa<|mz [(3,.p 3 0),(6,.i 0),(7,.p 7 0),(8,.b (((Xi x u a)).2))] [0,1,2] [(3, [.h x.1.1.1,.h x.1.1.2.1,.i x.1.1.2.2,.h x.1.2.1,.h x.1.2.2,.s x.2.1.1,.s x.2.1.2,.i x.2.2.1,.h x.2.2.2.1,.h x.2.2.2.2.1,.h x.2.2.2.2.2]),(7, [.h ((((Xi x u a)).1).1.1),.h ((((Xi x u a)).1).1.2.1),.i ((((Xi x u a)).1).1.2.2),.h ((((Xi x u a)).1).2)])] []<|jn [(23,.b ((!(((Xi x u a)).2))|| (Da (((Xi x u a)).1) (Ki x))))] [8] [] [] (!(((Xi x u a)).2)) (λc=>?_) (λc=>?_) ?_
 ·have b:(((Xi x u a)).2)=I:=Kj c;exact rN [3,6,7,23] [3,7] (pf 0 b (pe 1 (show .b (!I)= .b O from rfl) p0))<|zA (by rw[c]<;>kernel_rfl)
 ·have b:(((Xi x u a)).2)=O:=Yu c;exact rN [3,6,7,23] [3,7] (pt 0 b (pe 1 (show .b (!O)= .b I from rfl) (pc 5 (ZK x) (pc 6 (MA (((Xi x u a)).1) (Ki x)) p0))))<|zA (by rw[c]<;>kernel_rfl)
 refine ck ((!(((Xi x u a)).2))|| (Da (((Xi x u a)).1) (Ki x))) (λd=>?_) (λd=>?_)
 ·exact su [] [23] [] [] p0<|Qc<|pi [] (Qu d rfl)
 have e:((!(((Xi x u a)).2)))=I:=Sl d;have f:(((Xi x u a)).2)=O:=Yu e;have g:((Da (((Xi x u a)).1) (Ki x)))=I:=Rz d;exact Qd<|sn [6] [] (pc 3 (MC x.2.1 (((Xi x u a)).1) (by assumption) (by assumption)) p0)<|Qc<|pi [] (Qh d rfl)
theorem Qe3(d:P3)(x:Qw):Nm d x=Nl d x:=by
 unfold Nm Nl Fd Kg;rw[Qnx,ON]
theorem SN(x:Ul)(u:Y)(l:K Vk):Se x u l=Dt x u l:=by
 unfold Se Dt;rw[Qm7,Qrf,Qi1,Qe3]
open GoD (rd own)
def szI(t:H)(left:Y):Y:=bif decide ((t:Y)<=left) then left-t else-1
theorem Qsy{t:H}{left r:Y}(h:szq t left r):r=szI t left:=by
 unfold szq at h;unfold szI;by_cases a:(t:Y)<=left
 . rw[uF a];simp only[E];omega
 rw[uC a];simp only[G];omega
theorem Qsz(t:H)(left:Y):szI t left<0\/(0<=szI t left/\szI t left=left-t/\(t:Y)<=left):=by
 by_cases a:(t:Y)<=left
 . have:szI t left=left-t:=by unfold szI;rw[uF a];rfl
   omega
 have:szI t left= -1:=by unfold szI;rw[uC a];rfl
 omega
theorem Qs0(t:H){left:Y}(b:0<=left)(c:left<=1048576):InR .i64 (szI t left):=by
 rw[XB];unfold I64;by_cases a:(t:Y)<=left
 . have:szI t left=left-t:=by unfold szI;rw[uF a];rfl
   omega
 have:szI t left= -1:=by unfold szI;rw[uC a];rfl
 omega
section
variable {α:Type} [GoE α] {P:uO} {f:H}
theorem Qvi{F:H->Prop}{w:World}{v:uL}{a:α}(h:AR (LA F) w v (B9 a)):∃cs:K uL,v= .agg cs.toArray/\rd w cs a:=by
 obtain⟨vs,rfl,b⟩:=h;exact⟨vs,rfl,GoE.vc_rd (Qwd b λ_=>GoE.no_any)⟩
theorem Qvj{F:H->Prop}{w:World}{v:uL}{l:K α}(h:AR (LA F) w v (Qhu l)):rd w [v] l:=Qkq h
theorem Qcl{F:H->Prop}{w w':World}{v:uL}{r:AV}(a:Below w.heap.size w w')(b:∀J,AR J w' v r):Qo7 F w r (.returned v) w':=
 ⟨v,λ_=> [],rfl,a,λ_=>List.nodup_nil,(λ_ _ h=>by simp at h),(λ_ _ _ h=>by simp at h),b _⟩
theorem Qi2(c:Iy P f){a:α}{left:Y}(i:0<=left)(j:left<=1048576)(h:∀w (cs:K uL),rd w cs a->Calls P f #[.agg cs.toArray,.int .i64 left] w (Iw w (GoD.size a) left)):ACalls P f [B9 a,Qpm left] (Qpm (szI (GoD.size a) left)):=by
 refine⟨c,λw _ F g o b=>?_⟩;cases b with
 | cons k d=>cases d with
   | cons d l=>
     cases l
     obtain⟨cs,rfl,m⟩:=Qvi k;obtain⟨rfl,_⟩:=d;refine(h w cs m).mono ?_
     rintro e w' ⟨r,rfl,n,hb⟩
     exact Qcl hb λJ=>⟨by rw[Qsy n],Qs0 _ i j⟩
theorem Qi3(b:Iy P f){l:K α}{left:Y}(g:0<=left)(i:left<=1048576)(h:∀w (v:uL),rd w [v] l->Calls P f #[v,.int .i64 left] w (Iw w (GoD.size l) left)):ACalls P f [Qhu l,Qpm left] (Qpm (szI (GoD.size l) left)):=by
 refine⟨b,λw _ F d n a=>?_⟩;cases a with
 | cons j c=>cases c with
   | cons c k=>
     cases k
     obtain⟨rfl,_⟩:=c;refine(h w _ (Qvj j)).mono ?_
     rintro e w' ⟨r,rfl,m,hb⟩
     exact Qcl hb λJ=>⟨by rw[Qsy m],Qs0 _ g i⟩
end
section
variable {α:Type} [GoE α] {P:uO} {f:H}
end
section
variable {P:uO} {N:H} {w0:Base} {F0:H->Prop} {J:Inj} {a:Act} {w w':World} {s:St}
theorem Rel.mark(h:Rel N w0 F0 J a w s)(ks:K H){L:K H}(hL:∀b,b∈L->∃k,k∈ks/\b∈J.L k)(v:Chg L w w')(d:H)(hd:d<N)(n:Y)(hn:InR .i64 n)(bx:Option (H×K C))
 (hb:∀k c,bx=uD (k,c)->∃c0,get s.bx k=uD c0/\∃p e,w.heap[J.B k]? =uD (.cells p e (0,0))/\∀J':Inj,(∀b,J'.F b↔J.F b\/b∈L)->All2 (CR J' w') p.toList c):
 ∃J',(∀b,J'.F b↔J.F b\/b∈L)/\(∀k,J'.B k=J.B k)/\Rel N w0 F0 J' (a.put (uD d) (.int .i64 n)) w' (s.step (uD d) ⟨.one (.int .i64 n),W5 ks,uG,bx⟩):=by
 let J':Inj:=⟨λb=>J.F b\/b∈L,λk=>if k∈ks then [] else J.L k,J.B⟩
 have u:∀b,b∈L->w0.lo (b)/\b<w.heap.size/\¬J.F b:=λb hb=>by
  obtain⟨k,_,g⟩:=hL b hb;exact h.lo k b g
 have q:∀b,b<w.heap.size->b∉L->w'.heap[b]? =w.heap[b]? :=v.block
 have r:∀k b,b∈J'.L k->k∉ks/\b∈J.L k:=λk b g=>by
  have g:b∈(if k∈ks then [] else J.L k):=g;split at g
  . simp at g
  rename_i f;exact⟨f,g⟩
 have x:∀k b,k∉ks->b∈J.L k->b∉L:=λk b f g y=>by
  obtain⟨l,z,a1⟩:=hL b y;exact f (h.dj k l b g a1▸z)
 have j:∀k c,get s.bx k=uD c->J.B k∉L:=λk c f y=>by
  obtain⟨l,_,g⟩:=hL _ y;exact(h.bo k c f).2.2.1 l g
 refine⟨J',λb=>Iff.rfl,λ_=>rfl, ?_⟩;refine h.upd (w':=w') (J':=J') (uD d) (λd' e=>by cases e;exact hd) _ _ (h.below.step v.os v.tape v.output v.size λb hb a3=>q b hb λy=>a3 (u b y).1) ?_ ?_ (λ_=>⟨rfl,hn⟩) ?_ ?_
 . constructor
   . exact λb hb=>⟨.inl hb,q b (h.fl b hb).1 λy=>(u b y).2.2 hb⟩
   . intro k f;rw[Dc] at f;split at f
     . cases f
     rename_i hn;exact⟨if_neg hn,λb hb=>q b (h.lo k b hb).2.1 (x k b hn hb)⟩
   . intro k f;rw[Dc] at f;split at f<;>cases f
   . intro k l f;rw[Dc] at f;split at f<;>cases f
   . intro k t f;rw[Dc] at f;split at f<;>cases f
   . exact λ_ _=>rfl
   intro k d m i o cs f;rw[Dc] at f;split at f<;>cases f
 . constructor
   . intro b hb;rcases hb with hb | hb
     . exact⟨yL (h.fl b hb).1 v.size,(h.fl b hb).2⟩
     exact⟨yL (u b hb).2.1 v.size,.inr (u b hb).1⟩
   . exact λb hb=> .inl (h.f0 b hb)
   . intro k;show(if _ then _ else _:K H).Nodup;split
     . exact List.nodup_nil
     exact h.nd k
   . intro k b g;obtain⟨f,g⟩:=r k b g;obtain⟨h1,h2,h3⟩:=h.lo k b g;exact⟨h1,yL h2 v.size,λhF=>hF.elim h3 (x k b f g)⟩
   intro k l b g a1;exact h.dj k l b (r k b g).2 (r l b a1).2
 . intro k c f _;obtain⟨h1,h2,h3,p,e,h4,_⟩:=h.bo k c f;refine⟨by simp,λhF=>hF.elim h2 (j k c f),λl g=>h3 l (r l _ g).2,q _ ?_ (j k c f)⟩;exact Xy h4
 intro k c f;obtain⟨c0,hg,p,e,hh,a2⟩:=hb k c f;obtain⟨h1,h2,h3,a6,e',h4,_⟩:=h.bo k c0 hg;have a4:J.B k<w.heap.size:=Xy h4;exact⟨h1,λhF=>hF.elim h2 (j k c0 hg),λl g=>h3 l (r l _ g).2,⟨p,e,(q _ a4 (j k c0 hg)).trans hh,a2 J' λ_=>Iff.rfl⟩,λl c' z a5 e=>a5 (h.bi l k c' c0 z hg e)⟩
end
class GoM (α:Type) [GoE α]:Prop where
 mkw:∀{a:α} {k:H},wide a->wide (GoD.mark a k).1
 mkT:∀{a:α} {k:H},wide a->wide (GoD.markT a k).1
instance:GoM Y:=⟨λ_=>trivial,λ_=>trivial⟩
instance:GoM D:=⟨λ_=>trivial,λ_=>trivial⟩
instance:GoM W:=⟨λ_=>trivial,λ_=>trivial⟩
instance {α β:Type} [GoE α] [GoE β] [GoM α] [GoM β]:GoM (α×β):=⟨λh=>⟨GoM.mkw h.1,GoM.mkw h.2⟩,λh=>⟨GoM.mkT h.1,GoM.mkT h.2⟩⟩
theorem AX{α:Type}[GoE α][GoM α]:∀{l:K α} {k:H},(∀a,a∈l->wide a)->∀a,a∈(JG l k).1->wide a
 | [],k,_,a,ha=>by simp[JG] at ha
 | x::l,k,h,a,ha=>by
   simp only[JG,zU] at ha;rcases ha with rfl | ha
   . exact GoM.mkw (h x zL)
   exact AX (λa ha=>h a (zK _ ha)) a ha
instance {α:Type} [GoE α] [GoM α]:GoM (K α):=⟨λ{l k} h=>⟨by rw[show(GoD.mark l k).1=(JG l k).1 from rfl,VM];exact h.1,AX h.2⟩,λ{l k} h=>⟨by rw[show(GoD.markT l k).1=(JG l k).1 from rfl,VM];exact h.1,AX h.2⟩⟩
section
variable {P:uO} {N:H} {w0:Base} {F0:H->Prop} {s s':St} {Q:Exit->St->Prop}
end
end Go.Proofs.YtlipbhahenojhaaGreatDoor
