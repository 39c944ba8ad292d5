/- Texts of this proof, put together by a program: Ex, Ey, Eva, Evb, Tw, Clr, Inr, Ins, Df, Eua, Eub, Wsa, Wsb, Np, Wsc, Sw, Wsd, Wst, Wse, Wsf, Wsg, Wsh. -/
import Derived.Test.YtkdnkiggkgakmaaGreatDoorP4
import Derived.KernelRfl
import Derived.Laws.Externs
import Derived.Lib.AppendZerosOnto
import Derived.Deep.RegionLaw
import Derived.Lib.Atoi
import Derived.Outline
set_option linter.unusedVariables false
set_option linter.unusedSimpArgs false
namespace Go.Proofs.YtkdnkiggkgakmaaGreatDoor
open _root_ renaming Int → W, ByteArray → K, List → I, Nat → E, Bool → A, cond_false → uB, cond_true → uC, Unit → uE, UInt8 → uG, if_pos → uH, of_decide_eq_false → uI, if_neg → uK, of_decide_eq_true → uL, congrArg → uM, decide_eq_false → uN, beq_eq_false_iff_ne → uO, beq_iff_eq → uP, decide_eq_true → uR, decide_eq_true_eq → uS, Array → uU, Option → uW, beq_self_eq_true → uX, or_false → uY, decide_eq_decide → uZ
open _root_.Bool renaming true → H, false → D
open _root_.Go renaming maxLen → uD, Value → uJ, World → uQ, Program → uT, TypeId → uV
open _root_.Option renaming some → uA, none → uF
open _root_.Go.IntKind renaming wrap → vA, i64 → vB
open _root_.Go.Proofs.Tryz renaming prog → vC
open _root_.Go.Proofs.Tryz
open _root_.And renaming intro → zQ
open _root_.Array renaming getD_eq_getD_getElem? → yK, length_toList → xB
open _root_.Bool renaming and_eq_true → zG, not_true → zZ, true_and → yI, or_eq_true → yR, or_eq_false_iff → xQ
open _root_.ByteArray renaming size → zD, size_append → zE, ext → xU
open _root_.Classical renaming byContradiction → xH
open _root_.Exists renaming intro → zL
open _root_.Int renaming toNat_natCast → zN, toNat → zO, natCast_add → yY, tmod → xF
open _root_.List renaming length → zF, mem_cons_self → zH, replicate → zJ, length_set → zK, mem_cons_of_mem → zM, mem_singleton → zP, mem_of_getElem? → zR, mem_append → zS, set → zU, map_cons → zV, length_append → zX, getElem?_of_mem → zY, cons_append → yA, getElem?_eq_some_iff → yB, mem_cons → yC, getElem?_cons_zero → yD, length_map → yG, nil_append → yH, getElem?_toArray → yJ, append_assoc → yL, getD_eq_getElem?_getD → yM, length_drop → yO, getElem?_eq_getElem → yQ, filter_append → yS, getElem?_cons_succ → yT, length_pos_of_mem → yU, flatten_cons → yV, take_add_one → yW, length_take → yX, append_nil → yZ, drop_succ_cons → xA, getElem?_drop → xD, drop_drop → xE, mem_map → xJ, take_of_length_le → xK, map_nil → xL, mem_filter → xM, foldl_cons → xN, mem_append_right → xO, getD → xR, replicate_succ → xS, length_flatten → xT, map_map → xV, range' → xW
open _root_.Nat renaming zero_le → zT, le_trans → zW, le_refl → yE, zero_add → yF, mul_le_mul_right → yN, beq → xC, eq_of_beq_eq_true → xP, add_mul → xX
open _root_.Option renaming isSome_iff_exists → yP, isSome_map → xI
open _root_.UInt8 renaming toNat_ofNat' → xG
section
open Go.RowKit
def D8(n:Q9)(c:W):A:=((n.2.1==c)&&(n.1==6|| n.1==7|| n.1==5))|| ((n.2.2.1==c)&&(n.1==6|| n.1==7))
theorem Qhn(c:W)(k:E)(a:Q9)(s:W)(e:0<=s)(f:s<=1000):∃s',Kw c k a s= .next s'/\s+(bif D8 a c then 1 else 0)<=s'/\s'<=s+2:=by
 have b:vA vB (s+1)=s+1:=IntWalk.i64_in _ (by omega);have d:vA vB (s+1+1)=s+1+1:=IntWalk.i64_in _ (by omega);unfold Kw D8;rw[b,d];cases(a.2.1==c)<;>cases(a.2.2.1==c)<;>cases(a.1==6)<;>cases(a.1==7)<;>cases(a.1==5)<;>exact⟨_,rfl,by first | (simp;done) | (simp;omega) | omega,by omega⟩
theorem NX(c:W):∀(l:I Q9) (k:E) (s:W),0<=s->s+2*l.length<=1000->∃s',X8 (Kw c) Ho l k s= .brk s'/\s+(l.filter λn=>D8 n c).length<=s'
 | [],k,s,_,_=>⟨s,rfl,by simp⟩
 | a::l,k,s,h0,h1=>by
   rw[List.length_cons] at h1;obtain⟨s1,d,b,h⟩:=Qhn c k a s h0 (by omega);have e:0<=s1:=by cases hb:D8 a c<;>(rw[hb] at b;simp at b;omega)
   obtain⟨f,g,i⟩:=NX c l (k+1) s1 e (by omega);refine⟨f,by simp only[X8,d];exact g, ?_⟩;rw[List.filter_cons];cases hb:D8 a c with
   | true=>rw[hb] at b;simp only[uC] at b;simp only[if_true,List.length_cons];omega
   | false=>rw[hb] at b;simp only[uB] at b;simp only[Bool.false_eq_true,if_false];omega
theorem Qq5{α:Type}{p:α->A}{l:I α}{i j:E}{a b:α}(c:i<j)(hi:l[i]? =uA a)(d:l[j]? =uA b)(f:p a=H)(g:p b=H):2<=(l.filter p).length:=by
 have e:l=l.take j++l.drop j:=(List.take_append_drop j l).symm;rw[e,yS,zX];have h:1<=((l.take j).filter p).length:=yU (a:=a) (xM.2 ⟨zR (i:=i) (by rw[List.getElem?_take,uH c];exact hi),f⟩);have k:1<=((l.drop j).filter p).length:=yU (a:=b) (xM.2 ⟨zR (i:=0) (by rw[xD];exact d),g⟩);omega
theorem Qo6{q:I Q9}(h:Qj q=H){i:E}(hi:i+1<q.length):Kk q (i:W)=1:=by
 obtain⟨⟨t,d⟩,_⟩:=Qgz h;have:=XE (λk a t=>by unfold Z1;generalize(_|| _:A)=c;cases c<;>simp) d i (nth q i) (Dc (by omega));unfold Z1 at this;rw[yF] at this;have hd:decide (((i:E):W)<((q.length:W)-1))=H:=uR (by omega);rw[hd,yI] at this;cases b:(Kk q ((i:E):W) !=(1:W)) with
 | false=>exact Ap b
 | true=>rw[b,Bool.or_true] at this;simp at this
theorem Qld{q:I Q9}(h:Qj q=H){c i j:E}(d:c+1<q.length)(a:i<j)(f:j<q.length)(k:D8 (nth q i) (c:W)=H)(l:D8 (nth q j) (c:W)=H):False:=by
 have b:=Qo6 h d;have m:=(Fs h).2;obtain⟨s,e,g⟩:=NX (c:W) q 0 0 (by omega) (by omega);unfold Kk at b;rw[e] at b;have:=Qq5 (p:=λn=>D8 n (c:W)) a (Dc (by omega)) (Dc f) k l;simp only[Out.on] at b;omega
theorem Qho{q:I Q9}(h:Qj q=H){c i:E}(hi:i<q.length)(a:D8 (nth q i) (c:W)=H):c<i:=by
 obtain⟨d,f⟩:=G7 h (k:=(i:W)) (by omega) (by omega);rw[zN] at d f;unfold D8 at a;simp only[yR,zG,uP] at a;rcases a with⟨e,b⟩ | ⟨e,b⟩
 . have:=d (by omega);omega
 have:=f (by omega);omega
theorem GS{L:I A}{i:E}(x:A)(hi:i<L.length)(j:E):nth (L.set i x) j=if j=i then x else nth L j:=by
 unfold nth;simp only[yM,List.getElem?_set];by_cases h:i=j
 . subst h;simp[hi]
 simp[h,Ne.symm h]
theorem Qle{q:I Q9}(h:Qj q=H){k:E}(hk:k<q.length)(s:I A)(r:s.length=q.length):∃s',Z9 q k s= .next s'/\s'.length=q.length/\
 (∀j:E,D8 (nth q (q.length-1-k)) (j:W)=D->nth s' j=nth s j)/\
 (∀j:E,D8 (nth q (q.length-1-k)) (j:W)=H->nth s' j=(nth s (q.length-1-k)|| ((nth q (q.length-1-k)).1==5))):=by
 have t:zO (dn ((q.length:W)-1) k)=q.length-1-k:=by rw[SN];omega
 obtain⟨g,p⟩:=G7 h (k:=((q.length-1-k:E):W)) (by omega) (by omega);rw[zN] at g p;have u:q.length-1-k<s.length:=by omega
 unfold Z9;rw[t];generalize q.length-1-k=i at g p u⊢;generalize nth q i=n at g p⊢;generalize(nth s i|| (n.1==5))=b
 have c:∀(f:(n.1==(5:W))=D),(n.1=6\/n.1=7)->(zU (zU s (zO n.2.1) b) (zO n.2.2.1) b).length=q.length/\(∀j:E,D8 n (j:W)=D->nth (zU (zU s (zO n.2.1) b) (zO n.2.2.1) b) j=nth s j)/\(∀j:E,D8 n (j:W)=H->nth (zU (zU s (zO n.2.1) b) (zO n.2.2.1) b) j=b):=λf d=>by
  obtain⟨z,V⟩:=g (.inr d);obtain⟨g3,g4⟩:=p d;have l:(n.1==6|| n.1==7)=H:=by rcases d with e | e<;>simp[e]
  have m:(zU s (zO n.2.1) b).length=s.length:=zK ..;refine⟨by rw[zK,m,r],λj a=>?_,λj a=>?_⟩
  . simp only[D8,l,Bool.true_or,Bool.and_true,xQ,uO,ne_eq] at a;rw[Nc _ (by omega),Nc _ (by omega)]
  simp only[D8,l,Bool.true_or,Bool.and_true,yR,uP] at a;rw[GS _ (by omega),GS _ (by omega)];split
  . rfl
  rw[uH (by omega)]
 by_cases o:n.1=5
 . obtain ⟨z,V⟩:=g (.inl o);simp only[o,uX,uC];refine⟨_,rfl,by rw[zK,r],λj a=>?_,λj a=>?_⟩
   . have:n.2.1≠(j:W):=by simpa [D8,o] using a
     exact Nc _ (by omega)
   have:n.2.1=(j:W):=by simpa [D8,o] using a
   rw[GS _ (by omega),uH (by omega)]
 have f:(n.1==(5:W))=D:=uO.2 o;rw[f,uB];by_cases v:n.1=6
 . simp only[v,uX,uC];exact⟨_,rfl,c f (.inl v)⟩
 by_cases w:n.1=7
 . simp only[w,uX,uC];exact⟨_,rfl,c f (.inr w)⟩
 have x:(n.1==(6:W))=D:=uO.2 v;have y:(n.1==(7:W))=D:=uO.2 w;rw[x,y,uB,uB];refine⟨_,rfl,r,λ_ _=>rfl,λj a=>?_⟩;simp[D8,f,x,y] at a
def Qhp(q:I Q9)(k:E)(s:I A):Prop:=s.length=q.length/\∀i,q.length<=i+k->i<q.length->∀c:E,D8 (nth q i) (c:W)=H->nth s c=(nth s i|| ((nth q i).1==5))
theorem Qlf{q:I Q9}(h:Qj q=H){k:E}(m:k<q.length){s:I A}(l:Qhp q k s):∃s',Z9 q k s= .next s'/\Qhp q (k+1) s':=by
 obtain⟨s',n,o,g,p⟩:=Qle h m s l.1
 have a:nth s' (q.length-1-k)=nth s (q.length-1-k):=g _ (by
  cases d:D8 (nth q (q.length-1-k)) ((q.length-1-k:E):W) with
  | false=>rfl
  | true=>have:=Qho h (by omega) d;omega)
 refine⟨s',n,o,λi r b c f=>?_⟩;by_cases e:i=q.length-1-k
 . subst e;rw[p c f,a]
 have t:=Qho h b f
 have u:D8 (nth q (q.length-1-k)) (c:W)=D:=by
  cases d:D8 (nth q (q.length-1-k)) (c:W) with
  | false=>rfl
  | true=>exact(Qld h (c:=c) (i:=q.length-1-k) (j:=i) (by omega) (by omega) b d f).elim
 have v:D8 (nth q (q.length-1-k)) (i:W)=D:=by
  cases d:D8 (nth q (q.length-1-k)) (i:W) with
  | false=>rfl
  | true=>have:=Qho h (by omega) d;omega
 rw[g c u,g i v];exact l.2 i (by omega) b c f
theorem Qb7{q:I Q9}(h:Qj q=H):∀(n k:E) (s:I A),k+n=q.length->Qhp q k s->∃s',K0 (Z9 q) He n k s= .brk s'/\Qhp q q.length s'
 | 0,k,s,hk,hs=>⟨s,rfl,by rw[show k=q.length by omega] at hs;exact hs⟩
 | n+1,k,s,hk,hs=>by
   obtain⟨a,b,c⟩:=Qlf h (by omega) hs;obtain⟨d,e,f⟩:=Qb7 h n (k+1) a (by omega) c;exact⟨d,by simp only[K0,b];exact e,f⟩
theorem Qlg{q:I Q9}(h:Qj q=H):Qhp q q.length (Yd q):=by
 unfold Yd;obtain⟨s,a,b⟩:=Qb7 h (zF q) 0 (zJ (zO (q.length:W)) D) (by omega) ⟨by simp,λi a b=>by omega⟩;rw[h];simp only[zZ,uB,a,Out.on];exact b
theorem Qlh{q:I Q9}{i:E}(hi:i<(Yd q).length)(n:nth (Yd q) i=H)(hd:K3 (nth q i)=H):(nth q i).2.2.2.1∈Ye q:=by
 have key:∀(l:I A) (k:E) (s:I K),∃t,X8 (Wk q H) Hq l k s= .brk t/\(∀x,x∈s->x∈t)/\∀j,l[j]? =uA H->K3 (nth q (k+j))=H->(nth q (k+j)).2.2.2.1∈t:=by
  intro l
  induction l with
  | nil=>intro k s;exact⟨s,rfl,λ_ h=>h,λj h=>by simp at h⟩
  | cons a l g=>
    intro k s;simp only[X8,Wk];cases m:(K3 (nth q k)&&(a==H)) with
    | true=>
      obtain⟨t,c,e,d⟩:=g (k+1) (s++ [(nth q k).2.2.2.1]);refine⟨t,c,λx o=>e x (List.mem_append_left _ o),λj f b=>?_⟩;cases j with
      | zero=>exact e _ (xO _ (by simp))
      | succ j=>
        have:=d j (by simpa using f) (by rwa [show k+1+j=k+(j+1) by omega])
        rwa [show k+1+j=k+(j+1) by omega] at this
    | false=>
      obtain⟨t,c,e,d⟩:=g (k+1) s;refine⟨t,c,e,λj f b=>?_⟩;cases j with
      | zero=>
        obtain rfl:a=H:=by simpa using f
        rw[Nat.add_zero] at b;rw[b] at m;cases m
      | succ j=>
        have:=d j (by simpa using f) (by rwa [show k+1+j=k+(j+1) by omega])
        rwa [show k+1+j=k+(j+1) by omega] at this
 unfold Ye Wx;obtain⟨t,c,_,d⟩:=key (Yd q) 0 [];rw[c];simp only[Out.on];have:=d i (by rw[Dc hi,n]) (by rwa [yF]);rw[yF] at this;exact((HK t).2 _).2 this
theorem JH(l:I W)(x:W):V2 l x=H↔x∈l:=by
 unfold V2 Ky Cb
 have key:∀(l:I W) (k:E),decide (((X8 (Kx x) Ue l k ()).on λ_=> -1)>=0)=H↔x∈l:=by
  intro l
  induction l with
  | nil=>intro k;simp[X8,Out.on,Ue]
  | cons a l b=>
    intro k;by_cases h:x=a
    . subst h;simp[X8,Kx,Out.on]
    have c:(x==a)=D:=uO.2 h;simp only[X8,Kx,c,uB];rw[b (k+1)];simp[h]
 exact key l 0
structure Seen (q:I Q9) (a b:I Qo):Prop where
 grow:∀nm x,x∈Zb a nm->x∈Zb b nm
 same:∀nm,nm∈Ye q->Zb a nm=Zb b nm
theorem EJ{q:I Q9}(w:Qj q=H){a b:I Qo}(r:Seen q a b)(f:Yn):∀(n:E) (k:E),k<n->k<q.length->
 (nth (Yd q) k=H->Zc n q (k:W) f a=Zc n q (k:W) f b)/\(Zc n q (k:W) f a=H->Zc n q (k:W) f b=H)
 | 0,_,h,_=>absurd h (by omega)
 | n +1,k,hkn,hk=>by
   obtain⟨s,x⟩:=G7 w (k:=(k:W)) (by omega) (by omega);rw[zN] at s x;obtain⟨a1,d⟩:=Qlg w;have d:=d k (by omega) hk;have t:=Qq4 (T1 w (Dc hk));have o:=Qlh (q:=q) (i:=k) (by omega);have ih:=EJ w r f n;unfold Zc;rw[zN];generalize nth q k=m at s x d t o⊢
   have g:∀c:W,0<=c->c<(k:W)->D8 m c=H->((nth (Yd q) k|| (m.1==5))=H->Zc n q c f a=Zc n q c f b)/\(Zc n q c f a=H->Zc n q c f b=H):=λc h0 h1 y=>by
    obtain⟨j,rfl⟩:∃j:E,c=(j:W):=⟨zO c,by omega⟩;obtain⟨p,u⟩:=ih j (by omega) (by omega);exact⟨λl=>p ((d j y).trans l),u⟩
   rcases t with h | h | h | h | h | h | h | h | h
   . simp[h]
   . simp[h]
   . simp[h]
   . simp[h]
   . obtain⟨k1,v⟩:=s (.inl h);obtain⟨p,_⟩:=g m.2.1 k1 v (by simp[D8,h]);have:=p (by simp[h]);simp[h,this]
   . obtain⟨k1,v⟩:=s (.inr (.inl h));obtain⟨z,V⟩:=x (.inl h);obtain⟨p,u⟩:=g m.2.1 k1 v (by simp[D8,h]);obtain⟨g3,g4⟩:=g m.2.2.1 z V (by simp[D8,h]);refine⟨λl=>?_,λe=>?_⟩
     . simp[h,p (by simp[l]),g3 (by simp[l])]
     simp[h] at e⊢;exact⟨u e.1,g4 e.2⟩
   . obtain⟨k1,v⟩:=s (.inr (.inr h));obtain⟨z,V⟩:=x (.inr h);obtain⟨p,u⟩:=g m.2.1 k1 v (by simp[D8,h]);obtain⟨g3,g4⟩:=g m.2.2.1 z V (by simp[D8,h]);refine⟨λl=>?_,λe=>?_⟩
     . simp[h,p (by simp[l]),g3 (by simp[l])]
     simp[h] at e⊢;exact e.imp u g4
   . refine⟨λl=>?_,λe=>?_⟩
     . simp[h,r.same _ (o l (by simp[K3,h]))]
     simp[h] at e⊢;exact(JH _ _).2 (r.grow _ _ ((JH _ _).1 e))
   refine⟨λl=>?_,λe=>?_⟩
   . simp[h,r.same _ (o l (by simp[K3,h]))]
   simp[h] at e⊢;exact⟨e.1,(JH _ _).2 (r.grow _ _ ((JH _ _).1 e.2))⟩
theorem NY{q:I Q9}{a b:I Qo}(d:Seen q a b)(f:Yn)(h:Up q f a=H):Up q f b=H:=by
 unfold Up at h⊢;cases c:Qj q with
 | false=>rw[c] at h;cases h
 | true=>
   rw[c,yI] at h;rw[yI];have g:=Fs c;have e:((q.length:W)-1)=((q.length-1:E):W):=by omega
   rw[e] at h⊢;exact(EJ c d f q.length (q.length-1) (by omega) (by omega)).2 h
theorem Qd0(s:Yl)(q:I Q9)(r:I Qo):Zj s q r=sel s.2.1 (λf=>f.1) λf=>Up q f r:=by
 unfold Zj;rw[N4 (f:=H2 q r) (p:=λf=>Up q f r) (g:=λf=>f.1) (λ_ _ _=>rfl)];rfl
theorem AI{d:I Zo}{L:I W}(h:Qt d=(L,H)):Jh d=H/\L.length=d.length/\Sat (K1 d) d.length L/\∀j,0<=nth L j:=by
 unfold Qt at h;cases c:Jh d with
 | false=>rw[c] at h;simp at h
 | true=>
   rw[c] at h;simp only[zZ,uB] at h;have m:=Gx c;have hw:=Nf (d:=d) (f:=Hy d) (e:=Hz) (F:=Wy d) (λ_ _ _=>rfl) (λ_ _=>rfl) (λ_=>rfl) (by omega) (d.length*d.length+3) (zJ d.length 0) H (Dw _).1 (Dw _).2
   have a:(ZY (K1 d) d.length d.length (d.length*d.length+3) (H,zJ d.length 0)).isSome=H:=by
    have:=Gy d m;rw[zN,hw,xI] at this;exact this
   obtain⟨r,k⟩:=yP.1 a;unfold Ps at h;rw[zN,hw,k] at h;have g:∀i e,e∈K1 d i->e.2<=1/\e.1<d.length:=λi e l=>⟨(Rf d i e l).1,(Rf d i e l).2.1⟩
   obtain⟨n,_⟩:=WB g _ 0 H r (λe=>by cases e) k;cases r with
   | none=>simp[Qp9,Out.on] at h
   | some M=>
     have e:M=L:=by simpa [Qp9,Out.on] using h
     subst e;obtain⟨b,o⟩:=n M rfl;rw[o];exact⟨rfl,Uu _ _ _,XK (Uu _ _ _) b,λj=>B5 _ _ j _⟩
theorem Qhq{d:I Zo}{L:I W}(h:Qt d=(L,H)):∀j,nth L j<=(d.length:W):=by
 obtain⟨g,k,_,_⟩:=AI h;have n:=Gx g;unfold Qt at h;rw[g] at h;simp only[zZ,uB] at h;have hw:=Nf (d:=d) (f:=Hy d) (e:=Hz) (F:=Wy d) (λ_ _ _=>rfl) (λ_ _=>rfl) (λ_=>rfl) (by omega) (d.length*d.length+3) (zJ d.length 0) H (Dw _).1 (Dw _).2
 have a:(ZY (K1 d) d.length d.length (d.length*d.length+3) (H,zJ d.length 0)).isSome=H:=by
  have:=Gy d n;rw[zN,hw,xI] at this;exact this
 obtain⟨r,l⟩:=yP.1 a;unfold Ps at h;rw[zN,hw,l] at h;have c:∀i e,e∈K1 d i->e.2<=1/\e.1<d.length:=λi e m=>⟨(Rf d i e m).1,(Rf d i e m).2.1⟩
 obtain⟨o,_⟩:=WB c _ 0 H r (λe=>by cases e) l;cases r with
 | none=>simp[Qp9,Out.on] at h
 | some M=>
   have e:M=L:=by simpa [Qp9,Out.on] using h
   subst e;obtain⟨b,p⟩:=o M rfl;intro j;by_cases q:j<d.length
   . rw[p];exact Int.le_of_lt (SY c b j q)
   have:nth M j=0:=HM (by omega);omega
theorem Rk{d:I Zo}{w:W}{nm:K}:∀{l:I K},nm∈l->0<=Yf d nm->(zO (Yf d nm),w)∈Vr d w l
 | x::l,h,h0=>by
   simp only[Vr];rcases yC.1 h with rfl | h
   . rw[uH h0];exact zH ..
   split
   . exact zM _ (Rk h h0)
   exact Rk h h0
theorem Qd1{d:I Zo}{L:I W}(h:Qt d=(L,H)){i:E}(hi:i<d.length){nm:K}(a:nm∈Ye (nth d i).2)(b:0<=Yf d nm):nth L (zO (Yf d nm))<nth L i:=by
 obtain⟨_,_,c,_⟩:=AI h
 have e:(zO (Yf d nm),(1:W))∈K1 d i:=by
  unfold K1;rw[uH hi];exact xO _ (Rk a b)
 have:=(D4.1 (c i hi)).2 _ e;simp only at this;omega
theorem Qhr(nm:K):∀(d:I Zo) (o:I Qo) (k:E),o.map (·.1)=d.map (·.1)->
 (X8 (Yq nm) Zm d k ()= .brk ()/\X8 (Vs nm) Uo o k ()= .brk ())\/
 ∃i:E,i<d.length/\X8 (Yq nm) Zm d k ()= .ret (((k+i:E)):W)/\X8 (Vs nm) Uo o k ()= .ret (nth o i).2
 | [], [],_,_=> .inl ⟨rfl,rfl⟩
 | [],_::_,_,h=>by simp at h
 | _::_, [],_,h=>by simp at h
 | a ::d,b::o,k,h=>by
   simp only[zV,List.cons.injEq] at h;obtain⟨c,e⟩:=h;simp only[X8,Yq,Vs,D6,c];cases(a.1.toList==nm.toList) with
   | true=>exact .inr ⟨0,by simp,rfl,rfl⟩
   | false=>
     simp only[uB];rcases Qhr nm d o (k+1) e with h | ⟨i,hi,f,g⟩
     . exact .inl h
     exact .inr ⟨i+1,by simpa using hi,by rw[f,show k+1+i=k+(i+1) by omega],g⟩
theorem AJ{d:I Zo}{o:I Qo}(h:o.map (·.1)=d.map (·.1))(nm:K):(Yf d nm<0/\Zb o nm= [])\/(0<=Yf d nm/\zO (Yf d nm)<d.length/\Zb o nm=(nth o (zO (Yf d nm))).2):=by
 unfold Yf Ke Zb;rcases Qhr nm d o 0 h with⟨a,b⟩ | ⟨i,hi,a,b⟩
 . rw[a,b];refine .inl ⟨?_, ?_⟩
   . show(-1:W)<0;omega
   rfl
 rw[a,b];simp only[Out.on,yF,zN];exact .inr ⟨by omega,hi,trivial⟩
abbrev GT(d:I Zo)(k:E)(o:I Qo)(f:Yn):A:=Up (nth d k).2 f o
theorem Qo7{d:I Zo}{L:I W}(h:Qt d=(L,H))(fs:I Yn){act:E->A}{c:W}(q:∀k,act k=H->nth L k=c):Qlb fs (GT d) act (d.map (·.1)):=by
 intro a b g e i k r j f _ t;rw[yG] at r;refine NY (⟨λnm x m=>?_,λnm u=>?_⟩:Seen (nth d k).2 a b) f t
 . rcases AJ g nm with⟨n,l⟩ | ⟨n,l,o⟩
   . rw[l] at m;simp at m
   rcases AJ e nm with⟨s,_⟩ | ⟨_,_,p⟩
   . omega
   rw[o] at m;rw[p];exact(i _).1 x m
 rcases AJ g nm with⟨n,l⟩ | ⟨n,l,o⟩
 . rcases AJ e nm with⟨_,v⟩ | ⟨s,_,_⟩
   . rw[l,v]
   omega
 rcases AJ e nm with⟨s,_⟩ | ⟨_,_,p⟩
 . omega
 rw[o,p];refine(i _).2 ?_;have w:=Qd1 h r u n;cases y:act (zO (Yf d nm)) with
 | false=>rfl
 | true=>have:=q _ y;have:=q _ j;omega
structure EvS (d:I Zo) (L:I W) (on:E->A) (fs:I Yn) (k:W) (o:I Qo):Prop where
 names:o.map (·.1)=d.map (·.1)
 none:∀j,k<=nth L j->on j=H->(nth o j).2= []
 some_:∀j,j<d.length->on j=H->∃p:Yn->A,(nth o j).2=sel fs (λf=>f.1) p
def RR(L:I W)(on:E->A)(k:W)(j:E):A:=(nth L j==k)&&on j
theorem Qhs{d:I Zo}{L:I W}{on:E->A}{fs:I Yn}{k:W}{o:I Qo}(h:EvS d L on fs k o):StateC fs (λf:Yn=>f.1) (GT d) (RR L on k) (d.map (·.1)) o o:=
 ⟨h.names,λj _ a=>⟨λ_=>D,by
  unfold RR at a;simp only[zG,uP] at a;rw[h.none j (by omega) a.2];simp[sel],λf _ b=>by cases b⟩,λ_ _=>rfl⟩
theorem Qli{d:I Zo}{L:I W}{on:E->A}{k:W}{o o':I Qo}{fs:I Yn}(h:EvS d L on fs k o)(h':StateC fs (λf:Yn=>f.1) (GT d) (RR L on k) (d.map (·.1)) o o'):EvS d L on fs (k+1) o':=
 ⟨h'.names,λj b a=>by
  rw[h'.rest j (by unfold RR;rw[Bool.and_eq_false_iff];exact .inl (uO.2 (by omega)))];exact h.none j (by omega) a,λj b a=>by
  cases ha:RR L on k j with
  | false=>rw[h'.rest j ha];exact h.some_ j b a
  | true=>
    have c:o'.length=d.length:=by have:=uM zF h'.names;simpa using this
    obtain⟨p,e,_⟩:=h'.good j (by omega) ha;exact⟨p,e⟩⟩
theorem Ic{d:I Zo}{L:I W}{on:E->A}{fs:I Yn}{k:W}{o:I Qo}(h:EvS d L on fs k o):zF o=zF d:=by have:=uM zF h.names;simpa using this
theorem Qb8(a b:I W):Um a b=decide (a=b):=by
 by_cases h:a.length=b.length
 . exact Qhj a b h
 have hb:((a.length:W) !=(b.length:W))=H:=by simpa using λe:(a.length:W)=(b.length:W)=>h (by omega)
 unfold Um;rw[hb,uN (λe=>h (uM zF e))];rfl
def Qlj(s:Yl)(d:I Zo)(L:I W)(on:E->A)(b:W){R T:Type}(f:E->Zo->I Qo×A->Rd R (I Qo×A) T):Prop:=
 ∀k a o c,d[k]? =uA a->f k a (o,c)=bif RR L on b k then(bif !(decide (Zj s a.2 o=(nth o k).2)) then .next (zU o k ((nth o k).1,Zj s a.2 o),H) else .next (o,c)) else .next (o,c)
theorem GU{R:Type}{s:Yl}{d:I Zo}{L:I W}{on:E->A}{g:W}{f:E->Zo->I Qo×A->Rd R (I Qo×A) (I Qo×A)}{e:E->I Qo×A->I Qo×A}
 (i:Qlj s d L on g f) (j:∀k s,e k s=s):∀(l:I Zo) (k:E) (o:I Qo) (c:A),d.drop k=l->X8 f e l k (o,c)= .brk (GR s.2.1 (λf:Yn=>f.1) (GT d) (RR L on g) (xW k l.length) (o,c))
 | [],k,o,c,_=>by simp[X8,GR,j]
 | a ::l,k,o,c,hl=>by
   have n:d[k]? =uA a:=by
    have:=uM (·[0]?) hl;simpa using this
   have ha:nth d k=a:=UX n;have b:d.drop (k+1)=l:=by rw[←xE,hl];rfl
   have p:GR s.2.1 (λf:Yn=>f.1) (GT d) (RR L on g) (xW k (a::l).length) (o,c)=GR s.2.1 (λf:Yn=>f.1) (GT d) (RR L on g) (xW (k+1) l.length) (NV s.2.1 (λf:Yn=>f.1) (GT d) (RR L on g) (o,c) k):=by
    rw[List.length_cons,List.range'_succ];rfl
   have h:sel s.2.1 (λf:Yn=>f.1) (GT d k o)=Zj s a.2 o:=by rw[Qd0,←ha]
   rw[p];simp only[X8,i k a o c n];unfold NV;cases RR L on g k with
   | false=>simp only[uB];exact GU i j l (k+1) o c b
   | true=>
     simp only[uC,h];by_cases m:Zj s a.2 o=(nth o k).2
     . rw[uR m,uH m];exact GU i j l (k+1) o c b
     rw[uN m,uK m];exact GU i j l (k+1) _ H b
theorem Qm4{q:Type}{s:Yl}{d:I Zo}{L:I W}{on:E->A}{b:W}{f:E->Zo->I Qo×A->Rd (Rd q (I Qo×W×A) (I Qo×W)) (I Qo×A) (I Qo×A)}{e:E->I Qo×A->I Qo×A}{F:I Qo×W×A->Rd q (I Qo×W×A) (I Qo×W)}
 (u:Qlj s d L on b f) (v:∀k s,e k s=s) (g:∀x,F x=bif x.2.2 then(Out.on (X8 f e d 0 (x.1,D)) λy=> .next (y.1,vA vB (x.2.1+1),y.2)) else .brk (x.1,x.2.1))
 (w:Qt d=(L,H)) {o:I Qo} (h:EvS d L on s.2.1 b o) (p:W):
 ∃o' z,whl F (zF d*zF s.2.1+2) (o,p,H)=uA (.brk (o',z))/\EvS d L on s.2.1 (b+1) o':=by
 have c:o.length=d.length:=by have:=uM zF h.names;simpa using this
 have a:=Qhm s.2.1.length (RR L on b) o 0;rw[c] at a
 obtain⟨s',V,hc,t,r,h3⟩:=Qtb (fs:=s.2.1) (idOf:=λf:Yn=>f.1) (m:=GT d) (act:=RR L on b) (nm:=d.map (·.1)) (F:=F) (out:=λx=>x.1) (ch:=λx=>x.2.2) (n:=d.length) (by simp)
  (λx i=>⟨_,by rw[g,i,uC,GU u v d 0 x.1 D rfl];rfl,by rw[List.range_eq_range']⟩)
  (λx i=>⟨_,by rw[g,i,uB]⟩) (Qo7 w s.2.1 λk j=>by unfold RR at j;simp only[zG,uP] at j;exact j.1) (o:=o) (zF d*zF s.2.1+2) (o,p,H) (Qhs h) (by simp only[uC];omega)
 have l:s'.2.2=D:=hc;have hb:F s'= .brk (s'.1,s'.2.1):=by rw[g,l];rfl
 rw[hb] at r;cases r
 exact⟨s'.1,s'.2.1,h3,Qli h V⟩
theorem WI{R T:Type}{d:I Zo}{L:I W}{on:E->A}{fs:I Yn}{g:Zo->I W}{f:E->Zo->I Qo->Rd R (I Qo) T}{e:E->I Qo->T}(l:∀k a s,f k a s= .next (s++ [(a.1,g a)]))(i:∀j,j<d.length->on j=H->g (nth d j)= []):
 X8 f e d 0 []= .brk (e d.length (d.map λa=>(a.1,g a)))/\EvS d L on fs 0 (d.map λa=>(a.1,g a)):=by
 refine⟨by rw[Wu (g:=λa=>((a.1,g a):Qo)) l];simp, ?_,λj _ c=>?_,λj c h=>?_⟩
 . rw[xV];rfl
 . by_cases b:j<d.length
   . have:nth (d.map λa=>((a.1,g a):Qo)) j=((nth d j).1,g (nth d j)):=by simp[nth,xR,b]
     rw[this];exact i j b c
   have:nth (d.map λa=>((a.1,g a):Qo)) j=default:=by simp[nth,xR,b]
   rw[this];rfl
 have:nth (d.map λa=>((a.1,g a):Qo)) j=((nth d j).1,g (nth d j)):=by simp[nth,xR,c]
 exact⟨λ_=>D,by rw[this,i j c h];simp[sel]⟩
theorem Mc{d:I Zo}(h:((Qt d)).2=H):zF ((Qt d)).1=zF d/\zF d<=5/\∀x,x∈((Qt d)).1->0<=x/\x<=5:=by
 have b:Qt d=((Qt d).1,H):=Prod.ext rfl h;obtain⟨c,a,j,e⟩:=AI b;have f:=Gx c;refine⟨a,f,λx g=>?_⟩;obtain⟨i,hi,rfl⟩:=GE g;refine⟨e i, ?_⟩;have hb:=Qhq b i;omega
open GoE (enc wide)
def Ln(_:E)(a:Zo)(b:Z):Rd Z Z Z:=(.next (b++ [a.1]))
def Lo(_:E)(a:Z):Z:=a
def Zu(d:I Zo):Z:=(Out.on (X8 Ln Lo d 0 []) (λa=>a))
theorem CI(d:I Zo):ACalls vC 123 [.h d] (.o 0 (Zu d)):=by
 refine en func123 λ_ _ _=>sn [0,2] [] p0 ?_
 refine tn [0,2,3] [] p0<|Qa<|tu [(2,.e 0),(3,.one (.slc (.own H 384) 1 [])),(7,.h d),(8,.i (d.length:W)),(9,.i 0)] [0] [] [] (pl 1 d p0)<|wT 7 0 .sh d (λh j=>?_)
 refine CA Ln Lo d [] (λb a=> [(3,.o 147201 a),(9,.i (b:W))]) [3,9] (λg=> [(3,.o 147351 g)]) [3,7,8,9] (λb a=>zF a<=b) (wsf [(384,147201)]) (by simp) (λb a O U=>?_) (λb a O U=>?_) (λg f=>?_)
 ·have c:=U.2;obtain⟨e,V⟩:=Xo (l:=d) (i:=b) O;refine sn [2,3,7,8,9,10] [] (pe 0 (zB ((b:W)<(d.length:W))) p0)<|Qa<|ckT<|Qd<|Qa<|Qp<|tn [2,3,5,7,8,9] [5] (pn 0 V p0)<|wT 3 0 (.own H 147201) a (λk m=>?_)
  refine qu [(3,.one (.slc (.own H 1088) 1 ((eL a)++ [[.s e.1]])))] [3] [] [] (pa a [e.1] p0) ?_;refine eqn [(3,.o 1088 (a++ [e.1]))] [3] [] [] (by rw[show((eL a)++ [[.s e.1]])=(eL (a++ [e.1])) from Jg rfl (rfl)]<;>kernel_rfl) ?_;refine rn [2,3,7,8,9] [] (pw 0 b p0) ?_;exact zL (a++ [e.1]) (zQ (wsf [(1088,147201)]) ⟨Qr V rfl U.1,by first|omega|(simp;omega) | simp⟩)
 ·have c:=U.2;exact sn [2,3,7,8,9,10] [] (pe 0 (zC ((b:W)<(d.length:W))) p0)<|Qa<|ckF<|Xa<|zL _ (zQ (wsf [(147201,147351)]) (Xq O rfl U.1))
 exact sn [2] [] p0<|Qc<|po0 [] (Vx f rfl)
def W5(v:K)(a:E)(b:K)(_:uE):Rd (W) (uE) (uE):=(bif (v.toList==b.toList) then(.ret (a:W)) else(.next ()))
def H3(_:E)(_:uE):uE:=()
def Bw(a:Z)(v:K):W:=(Out.on (X8 (W5 v) H3 a 0 ()) (λ_=> -1))
theorem Sr(a:Z)(v:K):ACalls vC 215 [.h a,.s v] (.i (Bw a v)):=by
 refine en func215 λ_ _ _=>sn [0,1,4] [] p0 ?_
 refine Qa<|tn [0,1,4,7,8] [] (pl 1 a p0)<|mz [(4,.i 0),(7,.i (a.length:W)),(8,.i 0)] [] [] []<|wT 0 0 .sh a (λg h=>?_)
 refine S7 (W5 v) H3 a () (λb _=> [(8,.i (b:W))]) [8] (λ_=> []) [0,1,7,8] wf0 (λb j O U=>?_) (λb j O U=>?_) (λk c=>?_)
 ·obtain⟨f,V⟩:=Xo (l:=a) (i:=b) O;refine sn [0,1,4,7,8,9] [] (pe 0 (zB ((b:W)<(a.length:W))) p0)<|Qa<|ckT<|Qd<|Qa<|Qp<|tn [0,1,4,5,7,8] [] p0<|tu [(5,.i (b:W)),(16,.b (v.toList==f.toList))] [] [] [] (pn 3 V p0)<|ck (v.toList==f.toList) (λd=>?_) (λd=>?_)
  ·refine sn [0,1,4,7,8] [] p0<|Qc ?_
   have e:(X8 (W5 v) H3 a 0 ())= .ret (b:W):=Kj V (Xg d rfl) U;exact pi [] (Pq e)
  refine Qd<|rn [0,1,4,7,8] [] (pw 0 b p0) ?_
  exact xw _ (Qr V (Qi d rfl) U)
 ·exact sn [0,1,4,7,8,9] [] (pe 0 (zC ((b:W)<(a.length:W))) p0)<|Qa<|ckF<|Xa<|xw _ (Xq O rfl U)
 exact sn [4] [] p0<|Qc<|pi [] (Vx c rfl)
def Xu(a:Z)(v:K):A:=decide ((Bw a v)>=(0:W))
theorem Fe(a:Z)(v:K):ACalls vC 167 [.h a,.s v] (.b (Xu a v)):=by
 refine en func167 λ_ _ _=>sn [0,1,4] [] p0 ?_
 exact tn [4] [] (pc 2 (Sr a v) p0)<|Qc<|pb [] (show Xu a v=decide ((Bw a v)>=(0:W)) from rfl)
def Hr(x:I W)(a:E)(b:W):Rd (W) (W) (W):=(.next (max b (nth x (a+1))))
def Dy(_:E)(a:W):W:=a
def Iw(x:I W):W:=(Out.on (K0 (Hr x) Dy (x.length-1) 0 (nth x 0)) (λa=>a))
theorem AK(x:I W)(i:0<x.length):ACalls vC 216 [.h x] (.i (Iw x)):=by
 refine en func216 λ_ _ _=>sn [0,2] [] p0 ?_
 refine Qa<|tn [0,2,7] [] (pl 1 x (pe 2 (show .b (decide ((x.length:W)<(1:W)))= .b D from Qn (uN (by omega))) p0))<|ckF<|Qd<|wT 0 0 .sh x (λg h=>?_)
 have c:=ng x 0;refine tu [(2,.i 0),(3,.i (nth x 0))] [] [] [] (pg 1 0 c p0)<|Qa<|sn [0,2,3,4] [] p0<|mz [(4,.i 1)] [] [] []<|Qss (Hr x) Dy (x.length-1) (nth x 0) (λa b=> [(3,.i b),(4,.i ((a+1:E):W))]) [3,4] (λf=> [(3,.i f)]) [0,3,4] wf0 (λa b O U=>?_) (λa b O U=>?_) (λf d=>?_)
 ·refine Qa<|sn [0,2,3,4,15] [] (pl 2 x (pe 3 (zB (((a+1:E):W)<(x.length:W))) p0))<|ckT<|Qd<|Qa<|Qp ?_
  have e:=ng x (a+1);refine qn [0,2,3,4] [] (pg 3 ((a+1:E):W) e p0) ?_;refine qu [(3,.i (max b (nth x (a+1)))),(4,.i ((a+2:E):W))] [3,4] [] [] (pe 1 (show .i (vA vB (((a+1:E):W)+1))= .i ((a+2:E):W) from G6 ((IntWalk.i64_in _ (by omega)).trans (by omega))) p0) ?_;exact xw _ (Jd O rfl U)
 ·exact Qa<|sn [0,2,3,4,15] [] (pl 2 x (pe 3 (zC (((a+1:E):W)<(x.length:W))) p0))<|ckF<|Xa<|xw _ (Hn O rfl U)
 exact sn [2] [] p0<|Qc<|pi [] (Vx d rfl)
def Vk(d:I Zo):W:=(bif ((!(((Qt d)).2))|| (((((Qt d)).1).length:W)==(0:W))) then-1 else(Iw (((Qt d)).1)))
theorem Pd(d:I Zo):ACalls vC 168 [.h d] (.i (Vk d)):=by
 refine en func168 λ_ _ _=>sn [0,2] [] p0 ?_
 refine tn [2,3,4] [] (pc 1 (Rh d) p0)<|Qa<|Qa<|mz [(2,.i 0),(3,.o 448 (((Qt d)).1)),(4,.b (((Qt d)).2))] [0] [] []<|jn [(16,.b ((!(((Qt d)).2))|| (((((Qt d)).1).length:W)==(0:W))))] [4] [] [] (!(((Qt d)).2)) (λb=>?_) (λb=>?_) ?_
 ·have a:(((Qt d)).2)=D:=V1 b;refine rn [2,3,16] [] (pf 0 a (pe 1 (show .b (!D)= .b H from rfl) p0)) ?_;exact zA (by rw[b]<;>kernel_rfl)
 ·have a:(((Qt d)).2)=H:=Z5 b;refine rn [2,3,16] [] (pt 0 a (pe 1 (show .b (!H)= .b D from rfl) (pl 4 (((Qt d)).1) p0))) ?_;exact zA (by rw[b]<;>kernel_rfl)
 refine ck ((!(((Qt d)).2))|| (((((Qt d)).1).length:W)==(0:W))) (λc=>?_) (λc=>?_)
 ·exact sn [2,3] [] p0<|Qc<|pi [] (Xg c rfl)
 have e:((!(((Qt d)).2)))=D:=CG c;have g:(((Qt d)).2)=H:=Z5 e;have f:((((((Qt d)).1).length:W)==(0:W)))=D:=FW c;have h:=Yi f;exact Qd<|sn [2] [] (pc 1 (AK (((Qt d)).1) (by first|omega|(simp_all;omega))) p0)<|Qc<|pi [] (Qi c rfl)
def H4(a:I W)(b:E)(c:W)(_:uE):Rd (A) (uE) (uE):=(bif (c !=(nth a b)) then(.ret D) else(.next ()))
def Bx(_:E)(_:uE):uE:=()
def Wa(a:I W)(b:I W):A:=(bif ((a.length:W) !=(b.length:W)) then D else(Out.on (X8 (H4 b) Bx a 0 ()) (λ_=>H)))
theorem JI(a:I W)(b:I W):ACalls vC 170 [.h a,.h b] (.b (Wa a b)):=by
 refine en func170 λ_ _ _=>sn [0,1,4] [] p0 ?_
 refine Qa<|tn [0,1,4,10] [] (pl 1 a (pl 3 b p0))<|ck ((a.length:W) !=(b.length:W)) (λd=>?_) (λd=>?_)
 ·exact tu [(4,.b D)] [] [] [] p0<|Qc<|pb [] (Xg d rfl)
 have j:=Ap d;refine Qd<|Qa<|tu [(4,.b D),(12,.i (a.length:W)),(13,.i 0)] [] [] [] (pl 1 a p0)<|wT 0 0 .sh a (λk m=>?_)
 refine S7 (H4 b) Bx a () (λc _=> [(13,.i (c:W))]) [13] (λ_=> []) [0,1,12,13] wf0 (λc n O U=>?_) (λc n O U=>?_) (λr e=>?_)
 ·obtain⟨o,V⟩:=Xo (l:=a) (i:=c) O;refine su [(14,.b H)] [] [] [] (pe 0 (zB ((c:W)<(a.length:W))) p0)<|Qa<|ckT<|Qd<|Qa<|Qp<|sn [0,1,4,5,12,13] [] p0<|wT 1 0 .sh b (λp q=>?_)
  have f:=ng b c;refine tN [0,1,4,12,13,24] [] (pn 2 V (pn 6 f p0))<|ck (o !=(nth b c)) (λg=>?_) (λg=>?_)
  ·refine tu [] [14] [] [] p0<|Qc ?_
   have h:(X8 (H4 b) Bx a 0 ())= .ret D:=Kj V (Xg g rfl) U;exact pb [] (Qi d (Pq h))
  refine Qd<|qu [(13,.i ((c+1:E):W))] [13,14] [] [] (pw 0 c p0) ?_
  exact xw _ (Qr V (Qi g rfl) U)
 ·exact sn [0,1,4,12,13,14] [] (pe 0 (zC ((c:W)<(a.length:W))) p0)<|Qa<|ckF<|Xa<|xw _ (Xq O rfl U)
 exact sn [4] [] p0<|Qc<|pb [] (Qi d (Vx e rfl))
def Ko(r:I Qo)(names:Z)(_:E)(a:Zo)(b:I Qo):Rd ((I Qo)×W×A) (I Qo) (I Qo):=(bif (!(Xu names a.1)) then(.next (b++ [(a.1,(Zb r a.1))])) else(.next (b++ [((a.1, []):Qo)])))
def Vt(_:E)(a:I Qo):(I Qo):=a
def Wl(e:Yl)(d:I Zo)(names:Z)(f:E)(b:E)(c:Zo)(a:(I Qo)×A):Rd (Rd (Rd ((I Qo)×W×A) ((I Qo)×W) ((I Qo)×W)) ((I Qo)×W×A) ((I Qo)×W)) ((I Qo)×A) ((I Qo)×A):=(bif (((nth (((Qt d)).1) b) !=(f:W))|| (!(Xu names c.1))) then(.next (a.1,a.2)) else(bif (!(Wa (Zj e c.2 a.1) ((nth a.1 b).2))) then(.next (zU a.1 b ((nth a.1 b).1,(Zj e c.2 a.1)),H)) else(.next (a.1,a.2))))
def Dz(_:E)(a:(I Qo)×A):(I Qo)×A:=(a.1,a.2)
def Vu(c:Yl)(d:I Zo)(names:Z)(e:E)(a:(I Qo)×W×A):Rd (Rd ((I Qo)×W×A) ((I Qo)×W) ((I Qo)×W)) ((I Qo)×W×A) ((I Qo)×W):=(bif a.2.2 then(Out.on (X8 (Wl c d names e) Dz d 0 (a.1,D)) (λb=>(.next (b.1,vA vB (a.2.1+1),b.2)))) else(.brk (a.1,a.2.1)))
def Wm(a:Yl)(d:I Zo)(names:Z)(e:E)(b:(I Qo)×W):Rd ((I Qo)×W×A) ((I Qo)×W) ((I Qo)×W):=(Out.on (Ps (Vu a d names e) (zF d*zF a.2.1+2) (b.1,b.2,H)) (λc=>(.next (c.1,c.2))))
def D0(_:E)(a:(I Qo)×W):(I Qo)×W:=(a.1,a.2)
def Z6(a:Yl)(d:I Zo)(r:I Qo)(names:Z):(I Qo)×W×A:=(bif ((!(((Qt d)).2))|| (!(Xr a))) then([],0,D) else(Out.on (X8 (Ko r names) Vt d 0 []) (λc=>(Out.on (K0 (Wm a d names) D0 ((Vk d)+1).toNat 0 (c,0)) (λb=>(b.1,b.2,H))))))
theorem Qm5{B:W}{x:I W}(b:∀a,a∈x->a<=B)(c:0<=B):∀(n k:E) (s:W),s<=B->∃t,K0 (Hr x) Dy n k s= .brk t/\t<=B
 | 0,k,s,h=>⟨s,rfl,h⟩
 | n +1,k,s,h=>by
   obtain⟨t,d,e⟩:=Qm5 b c n (k+1) (max s (nth x (k+1))) (by
    by_cases f:k+1<x.length
    . have:=b _ (SX f);omega
    rw[HM (by omega)];omega)
   exact⟨t,by simp only[K0,Hr];exact d,e⟩
theorem XT{d:I Zo}(h:((Qt d)).2=H):zF ((Qt d)).1=zF d/\zF d<=5/\Vk d<=5:=by
 obtain⟨c,f,b⟩:=Mc h;refine⟨c,f, ?_⟩;unfold Vk;rw[h];simp only[zZ,Bool.false_or];cases g:(((((Qt d)).1).length:W)==(0:W)) with
 | true=>simp only[uC];omega
 | false=>
  simp only[uB];have i:0<(((Qt d)).1).length:=by have:=Yi g;omega
  unfold Iw;obtain⟨t,e,j⟩:=Qm5 (B:=5) (x:=((Qt d)).1) (λa ha=>(b a ha).2) (by omega) ((((Qt d)).1).length-1) 0 (nth ((Qt d)).1 0) (b _ (SX i)).2;rw[e];exact j
theorem Qm6(b:I W):∀(l:I W) (k:E),l.length=(b.drop k).length->Out.on (X8 (H4 b) Bx l k ()) (λ_=>H)=decide (l=b.drop k)
 | [],k,h=>by
   have:b.drop k= []:=List.eq_nil_of_length_eq_zero (by rw[←h];rfl);rw[this];rfl
 | a ::l,k,h=>by
   have c:k<b.length:=by simp only[List.length_cons,yO] at h;omega
   have hd:b.drop k=nth b k::b.drop (k+1):=by
    rw[List.drop_eq_getElem_cons c,show nth b k=b[k] by simp[nth,xR,c]]
   rw[hd] at h⊢;simp only[X8,H4];by_cases e:a=nth b k
   . rw[show(a !=nth b k)=D by simp[e],uB,Qm6 b l (k+1) (by simpa using h)];simp[e]
   rw[show(a !=nth b k)=H by simp[e],uC];simp[e,Out.on]
theorem Qq6(a b:I W)(h:a.length=b.length):Wa a b=decide (a=b):=by
 unfold Wa;rw[show((a.length:W) !=(b.length:W))=D by simp[h],uB,Qm6 b a 0 (by simpa using h),List.drop_zero]
theorem Qht(a b:I W):Wa a b=decide (a=b):=by
 by_cases h:a.length=b.length
 . exact Qq6 a b h
 have hb:((a.length:W) !=(b.length:W))=H:=by simpa using λe:(a.length:W)=(b.length:W)=>h (by omega)
 unfold Wa;rw[hb,uN (λe=>h (uM zF e))];rfl
def onD(d:I Zo)(names:Z)(j:E):A:=Xu names (nth d j).1
theorem CJ(e:Yl)(d:I Zo)(names:Z)(b:E):Qlj e d (Qt d).1 (onD d names) (b:W) (Wl e d names b):=by
 intro k a o c f;have ha:nth d k=a:=UX f;unfold Wl RR onD;rw[ha,Qht];simp only[bne];cases(nth (Qt d).1 k==(b:W))<;>cases Xu names a.1<;>rfl
section
variable {s_:Yl} {d:I Zo} {names:Z} {k1:E} {o:I Qo} {p:W}
theorem Ix(a:((Qt d)).2=H)(h:EvS d ((Qt d)).1 (onD d names) s_.2.1 (k1:W) o):∃o' b,whl (Vu s_ d names k1) (zF d*zF s_.2.1+2) (o,p,H)=uA (.brk (o',b))/\EvS d ((Qt d)).1 (onD d names) s_.2.1 ((k1:W)+1) o':=
 Qm4 (f:=Wl s_ d names k1) (e:=Dz) (CJ s_ d names k1) (λ_ _=>rfl) (λ_=>rfl) (Prod.ext rfl a) h p
theorem TM(a:((Qt d)).2=H)(h:EvS d ((Qt d)).1 (onD d names) s_.2.1 (((k1:E)):W) o):(whl (Vu s_ d names k1) (zF d*zF s_.2.1+2) (o,p,H)).isSome=H:=by
 obtain⟨c,e,b,_⟩:=Ix (p:=p) a h;rw[b];rfl
theorem Gh{y:I Qo×W}(b:((Qt d)).2=H)(h:EvS d ((Qt d)).1 (onD d names) s_.2.1 (((k1:E)):W) o)(a:Ps (Vu s_ d names k1) (zF d*zF s_.2.1+2) (o,p,H)= .brk y):EvS d ((Qt d)).1 (onD d names) s_.2.1 ((((k1+1):E)):W) y.1:=by
 obtain⟨c,f,g,i⟩:=Ix (p:=p) b h;unfold Ps at a;rw[g] at a;have e:(c,f)=y:=by simpa using a
 rw[←e,yY];exact i
def Te(r:I Qo)(names:Z)(a:Zo):I W:=bif (!(Xu names a.1)) then(Zb r a.1) else []
theorem W6{r:I Qo}(b:X8 (Ko r names) Vt d 0 []= .brk o):EvS d ((Qt d)).1 (onD d names) s_.2.1 (((0:E)):W) o:=by
 obtain⟨h,i⟩:=WI (L:=((Qt d)).1) (on:=onD d names) (fs:=s_.2.1) (g:=Te r names) (f:=Ko r names) (e:=Vt) (d:=d) (λk a s=>by
  unfold Ko Te;cases Xu names a.1<;>rfl) (λj _ c=>by unfold onD at c;unfold Te;rw[c];rfl)
 rw[h] at b;have e:(d.map λa=>((a.1,Te r names a):Qo))=o:=Out.brk.inj b;rw[←e];exact i
end
theorem AL(a:Yl)(d:I Zo)(r:I Qo)(names:Z):ACalls vC 122 [.a [.h a.1,.h a.2.1,.i a.2.2],.h d,.h r,.h names] (.tup [(D, [.o 0 (((Z6 a d r names)).1)]),(D, [.i (((Z6 a d r names)).2.1)]),(D, [.b (((Z6 a d r names)).2.2)])]):=by
 refine en func122 λ_ _ _=>sn [1,2,3,4,8,9,10] [4] p0 ?_
 refine tn [1,2,3,4,8,9,10,11,12] [4] (pc 1 (Rh d) p0)<|Qa<|Qa<|mz [(4,.p 4 0),(8,.e 0),(9,.i 0),(10,.b D),(11,.o 1600 (((Qt d)).1)),(12,.b (((Qt d)).2))] [0] [(4, [.h a.1,.h a.2.1,.i a.2.2])] []<|jn [(34,.b ((!(((Qt d)).2))|| (!(Xr a))))] [12] [] [] (!(((Qt d)).2)) (λh1=>?_) (λh1=>?_) ?_
 ·have v:(((Qt d)).2)=D:=V1 h1;refine ru [(34,.b H)] [12] [] [] (pf 0 v (pe 1 (show .b (!D)= .b H from rfl) p0)) ?_;exact zA (by rw[h1]<;>kernel_rfl)
 ·have v:(((Qt d)).2)=H:=Z5 h1;have al:=XT v;refine rn [1,2,3,4,8,9,10,11,34] [4] (pt 0 v (pe 1 (show .b (!H)= .b D from rfl) (pc 4 (H0 a) p0))) ?_;exact zA (by rw[h1]<;>kernel_rfl)
 refine ck ((!(((Qt d)).2))|| (!(Xr a))) (λh2=>?_) (λh2=>?_)
 ·refine su [] [34] [] [] p0<|opn [(D,8,0,H,384000,2)] ?_
  exact Qc<|pz [] (show Z6 a d r names=_ from Xg h2 rfl) (λz=> .tup [(D, [.o 0 z.1]),(D, [.i z.2.1]),(D, [.b z.2.2])])
 have am:((!(((Qt d)).2)))=D:=CG h2;have aa:(((Qt d)).2)=H:=Z5 am;have ak:=XT aa;have an:((!(Xr a)))=D:=FW h2;have ax:(Xr a)=H:=Z5 an;refine Qd<|sn [1,2,3,4,8,9,10,11,13] [4] p0<|Qa<|tn [1,2,3,4,8,9,10,11,13,36,37,38] [4] (pl 1 d p0)<|mz [(13,.one (.slc (.own H 2240) 2 [])),(36,.h d),(37,.i (d.length:W)),(38,.i 0)] [34] [] []<|wT 1 0 .sh d (λb5 b6=>?_)
 refine CA (Ko r names) Vt d [] (λs f=> [(13,.o 147208 f),(38,.i (s:W))]) [13,38] (λy0=> [(13,.o 147358 y0)]) [2,13,36,37,38] (λs f=>zF f<=s) (wsf [(2240,147208)]) (by simp) (λs f O U=>?_) (λs f O U=>?_) (λy0 g=>?_)
 ·have a1:=U.2;obtain⟨e,V⟩:=Xo (l:=d) (i:=s) O;refine su [(39,.b H)] [] [] [] (pe 0 (zB ((s:W)<(d.length:W))) p0)<|Qa<|ckT<|Qd<|Qa<|Qp<|su [(15,.p 15 0)] [39] [(15, [.s e.1,.h e.2])] [] (pn 0 V p0)<|su [(16,.p 16 0)] [] [(16, [.s e.1,.e 1])] [] p0<|Qa<|su [(49,.b (!(Xu names e.1)))] [] [] [] (pc 3 (Fe names e.1) p0)<|ck (!(Xu names e.1)) (λh5=>?_) (λh5=>?_)
  ·have ao:(Xu names e.1)=D:=V1 h5;refine rn [1,2,3,4,8,9,10,11,13,16,36,37,38] [4,16] (pc 3 (Fa r e.1) p0) ?_;refine wT 13 0 (.own H 147208) f (λb7 b8=>?_);refine qu [(13,.one (.slc (.own H 3712) 2 ((eL f)++ [[.s e.1,.h (Zb r e.1)]])))] [13,15,16,49] [] [15,16] (pa f [(e.1,(Zb r e.1))] p0) ?_;refine eqn [(13,.o 3712 (f++ [(e.1,(Zb r e.1))]))] [13] [] [] (by rw[show((eL f)++ [[.s e.1,.h (Zb r e.1)]])=(eL (f++ [(e.1,(Zb r e.1))])) from Jg rfl (rfl)]<;>kernel_rfl) ?_;refine ru [(38,.i ((s+1:E):W))] [38] [] [] (pw 0 s p0) ?_;exact zL (f++ [(e.1,(Zb r e.1))]) (zQ (wsf [(3712,147208)]) ⟨Qr V (Xg h5 rfl) U.1,by first|omega|(simp;omega) | simp⟩)
  have ao:(Xu names e.1)=H:=Z5 h5;refine Qd<|wT 13 0 (.own H 147208) f (λb9 ba=>?_)
  refine ru [(13,.one (.slc (.own H 3712) 2 ((eL f)++ [[.s e.1,.slc 1 []]])))] [13,15,16,49] [] [15,16] (pa f [((e.1, []):Qo)] p0) ?_;refine eqn [(13,.o 3712 (f++ [((e.1, []):Qo)]))] [13] [] [] (by rw[show((eL f)++ [[.s e.1,.slc 1 []]])=(eL (f++ [((e.1, []):Qo)])) from Jg rfl (rfl)]<;>kernel_rfl) ?_;refine ru [(38,.i ((s+1:E):W))] [38] [] [] (pw 0 s p0) ?_;exact zL (f++ [((e.1, []):Qo)]) (zQ (wsf [(3712,147208)]) ⟨Qr V (Qi h5 rfl) U.1,by first|omega|(simp;omega) | simp⟩)
 ·have a1:=U.2;exact su [(39,.b D)] [] [] [] (pe 0 (zC ((s:W)<(d.length:W))) p0)<|Qa<|ckF<|Xa<|zL _ (zQ (wsf [(147208,147358)]) (Xq O rfl U.1))
 refine su [(17,.i 0)] [] [] [] p0<|Qa<|su [(18,.i 0)] [] [] [] p0<|Qqs (Wm a d names) D0 ((Vk d)+1).toNat (y0,0) (λk1 p=> [(13,.o 147358 p.1),(17,.i p.2),(18,.i (k1:W))]) [13,17,18] (λ_ _=> []) [] (λy1=> [(13,.o 147358 y1.1),(17,.i y1.2)]) [1,3,4,11,13,17,18] (λ_=> []) [4] (λk1 p=>EvS d ((Qt d)).1 (onD d names) a.2.1 (((k1:E)):W) p.1/\zF p.1=zF d) wf0 ⟨(by first | exact W6 g | exact W6 g.1 | exact Ic (fs:=a.2.1) (W6 g) | exact Ic (fs:=a.2.1) (W6 g.1)),(by first | exact W6 g | exact W6 g.1 | exact Ic (fs:=a.2.1) (W6 g) | exact Ic (fs:=a.2.1) (W6 g.1))⟩ (λk1 p a2 k=>?_) (λk1 p a2 k=>?_) (λy1 ap=>?_)
 ·have a4:=k.2.1;have a5:=k.2.2;refine Qa<|su [(63,.b H)] [] [] [] (pc 2 (Pd d) (pe 3 (zB ((k1:W)<=(Vk d))) p0))<|ckT<|Qd<|Qa<|Qp<|su [(19,.b H)] [63] [] [] p0<|blw (λ(m:(I Qo)×W×A)=> [(13,.o 147358 m.1),(17,.i m.2.1),(19,.b m.2.2)]) [13,17,19] (λm=> []) [] (λ(x:(I Qo)×W)=> [(13,.o 147358 x.1),(17,.i x.2)]) [13,17,19] (λx=> []) [] (λ(k2:E) (m:(I Qo)×W×A)=>whl (Vu a d names k1) k2 m=uA (Ps (Vu a d names k1) (zF d*zF a.2.1+2) (p.1,p.2,H))/\zF m.1=zF d) (λ(x:(I Qo)×W)=>(Ps (Vu a d names k1) (zF d*zF a.2.1+2) (p.1,p.2,H))= .brk x) (zF d*zF a.2.1+2) (p.1,p.2,H) wf0 ⟨N1 (TM (by assumption) (by assumption)),(by assumption)⟩ (λ_ h=>Sb h.1) (λk2 m a6=>?_) (λx aq=>?_)
  ·have ar:=a6.2;refine Qa<|su [(66,.b m.2.2)] [] [] [] p0<|ck m.2.2 (λa7=>?_) (λa7=>?_)
   ·refine Qd<|Qp<|su [(19,.b D)] [19,66] [] [] p0<|sn [1,3,4,8,9,10,11,13,17,18,19] [4] p0<|tn [1,3,4,8,9,10,11,13,17,18,19,69,70,71] [4] (pl 1 d p0)<|mz [(17,.i (vA vB (m.2.1+1))),(69,.h d),(70,.i (d.length:W)),(71,.i 0)] [17] [] []<|Qbn (Wl a d names k1) Dz d (m.1,D) (λc b=> [(13,.o 147358 b.1),(19,.b b.2),(71,.i (c:W))]) [13,19,71] (λy3=> [(13,.o 147358 y3.1),(19,.b y3.2)]) [13,19,69,70,71] (λ_ b=>zF b.1=zF m.1) (λy3=>zF y3.1=zF m.1) wf0 (by simp) (λc b a8 n=>?_) (λc b a8 n=>?_) (λy3 ab=>?_)
    ·have a9:=n.2;obtain⟨j,w⟩:=Xo (l:=d) (i:=c) a8;refine su [(72,.b H)] [] [] [] (pe 0 (zB ((c:W)<(d.length:W))) p0)<|Qa<|ckT<|Qd<|Qa<|Qp<|sn [1,3,4,8,9,10,11,13,17,18,19,20,21,69,70,71] [4,21] (pn 1 w p0)<|Qa<|Qa<|mz [(20,.i (c:W)),(21,.p 21 0)] [72] [(21, [.s j.1,.h j.2])] []<|jn [(88,.b (((nth (((Qt d)).1) c) !=(k1:W))|| (!(Xu names j.1))))] [] [] [] ((nth (((Qt d)).1) c) !=(k1:W)) (λo=>?_) (λo=>?_) ?_
     ·have ad:=P8 o;refine wT 11 0 (.own H 1600) (((Qt d)).1) (λay az=>?_);have ae:=ng (((Qt d)).1) c;refine ru [(88,.b H)] [] [] [] (pN 2 ae (pt 5 o p0)) ?_;exact zA (by rw[o]<;>kernel_rfl)
     ·have ad:=Ap o;refine wT 11 0 (.own H 1600) (((Qt d)).1) (λb1 b2=>?_);have af:=ng (((Qt d)).1) c;refine ru [(88,.b (!(Xu names j.1)))] [] [] [] (pN 2 af (pf 5 o (pc 10 (Fe names j.1) p0))) ?_;exact zA (by rw[o]<;>kernel_rfl)
     refine ck (((nth (((Qt d)).1) c) !=(k1:W))|| (!(Xu names j.1))) (λq=>?_) (λq=>?_)
     ·refine Xa<|rn [1,3,4,8,9,10,11,13,17,18,19,69,70,71] [4] (pw 0 c p0) ?_
      exact xw (b.1,b.2) ⟨Qr w (Xg q rfl) n.1,(by first|omega|(simp only[zK];omega))⟩
     have ah:(((nth (((Qt d)).1) c) !=(k1:W)))=D:=CG q;have au:=Ap ah;have ai:((!(Xu names j.1)))=D:=FW q;have av:(Xu names j.1)=H:=Z5 ai;refine Qd<|su [(22,.o 5952 (Zj a j.2 b.1))] [21,88] [] [21] (pc 4 (JF a j.2 b.1) p0)<|wT 13 0 (.own H 147358) b.1 (λb3 b4=>?_)
     have t:=ng b.1 c;refine sn [1,3,4,8,9,10,11,13,17,18,19,20,22,69,70,71,101] [4] (pN 3 t (pc 6 (JI (Zj a j.2 b.1) ((nth b.1 c).2)) p0))<|ck (!(Wa (Zj a j.2 b.1) ((nth b.1 c).2))) (λu=>?_) (λu=>?_)
     ·have aj:(Wa (Zj a j.2 b.1) ((nth b.1 c).2))=D:=V1 u;refine tu [(13,.one (.slc (.own H 147358) 2 (setRow (eL b.1) c 1 [.h (Zj a j.2 b.1)])))] [13,20,22] [] [] (pN 3 t p0)<|eqn [(13,.o 147358 (zU b.1 c ((nth b.1 c).1,(Zj a j.2 b.1))))] [13] [] [] (by rw[Km (y:=((nth b.1 c).1,(Zj a j.2 b.1))) t rfl]<;>kernel_rfl) ?_
      refine ru [(19,.b H)] [19] [] [] p0 ?_;refine ru [(71,.i ((c+1:E):W))] [71] [] [] (pw 0 c p0) ?_;exact xw (zU b.1 c ((nth b.1 c).1,(Zj a j.2 b.1)),H) ⟨Qr w (Qi q (Xg u rfl)) n.1,(by first|omega|(simp only[zK];omega))⟩
     have aj:(Wa (Zj a j.2 b.1) ((nth b.1 c).2))=H:=Z5 u;refine Qd<|qu [(71,.i ((c+1:E):W))] [20,22,71] [] [] (pw 0 c p0) ?_
     exact xw (b.1,b.2) ⟨Qr w (Qi q (Qi u rfl)) n.1,(by first|omega|(simp only[zK];omega))⟩
    ·have a9:=n.2;exact su [(72,.b D)] [] [] [] (pe 0 (zC ((c:W)<(d.length:W))) p0)<|Qa<|ckF<|Xa<|xw (b.1,b.2) ⟨Xq a8 rfl n.1,by first|omega|(simp only[zK];omega)⟩
    have aw:=ab.2;exact xw (y3.1,vA vB (m.2.1+1),y3.2) ⟨wn a6.1 (Xg a7 (Vx ab.1 rfl)),(by first|omega|(simp only[zK];omega))⟩
   exact Xa<|xw _ (wb a6.1 (Qi a7 rfl))
  refine rn [1,3,4,8,9,10,11,13,17,18] [4] (pw 1 k1 p0) ?_;exact xw (x.1,x.2) ⟨Jd a2 (Vx aq rfl) k.1,(by first | exact Gh (by assumption) (by assumption) (by assumption) | exact Ic (fs:=a.2.1) (Gh (by assumption) (by assumption) (by assumption))),(by first | exact Gh (by assumption) (by assumption) (by assumption) | exact Ic (fs:=a.2.1) (Gh (by assumption) (by assumption) (by assumption)))⟩
 ·have a4:=k.2.1;have a5:=k.2.2;exact Qa<|su [(63,.b D)] [] [] [] (pc 2 (Pd d) (pe 3 (zC ((k1:W)<=(Vk d))) p0))<|ckF<|Xa<|xw _ (Hn a2 rfl k.1)
 exact sn [8,9,10] [] p0<|Qc<|pz [] (show Z6 a d r names=_ from Qi h2 (Vx g (Vx ap rfl))) (λz=> .tup [(D, [.o 0 z.1]),(D, [.i z.2.1]),(D, [.b z.2.2])])
def Zv(a:Yl)(d:I Zo):(I Qo)×A:=(((Z6 a d [] (Zu d))).1,((Z6 a d [] (Zu d))).2.2)
theorem Tf(a:Yl)(d:I Zo):ACalls vC 71 [.a [.h a.1,.h a.2.1,.i a.2.2],.h d] (.tup [(D, [.o 0 (((Zv a d)).1)]),(D, [.b (((Zv a d)).2)])]):=by
 refine en func71 λ_ _ _=>sn [1,2,4,5] [2] p0 ?_
 exact tN [4,5,6,8] [] (pc 3 (CI d) (pc 4 (AH (.cons (ArgLe.rfl _) (.cons (ArgLe.rfl _) (.cons (ArgLe.nil 2) (.cons (ArgLe.rfl _) (.nil))))) (AL a d [] (Zu d))) p0))<|tu [(4,.o 896 (((Z6 a d [] (Zu d))).1)),(5,.b (((Z6 a d [] (Zu d))).2.2))] [0,1] [] [] p0<|Qc<|pz [] (show Zv a d=(((Z6 a d [] (Zu d))).1,((Z6 a d [] (Zu d))).2.2) from rfl) (λz=> .tup [(D, [.o 0 z.1]),(D, [.b z.2])])
def Hb(_:E)(a:W)(b:W):Rd (W) (W) (W):=(bif decide (a>b) then(.next a) else(.next b))
def C2(_:E)(a:W):W:=a
def W0(d:I Zo):W:=(Out.on (X8 Hb C2 (((Yj d)).1) 0 (-1)) (λa=>a))
theorem Pe(d:I Zo):ACalls vC 151 [.h d] (.i (W0 d)):=by
 refine en func151 λ_ _ _=>sn [0,2] [] p0 ?_
 refine tn [2,3] [] (pc 1 (Rg d) p0)<|tu [(2,.i 0),(3,.o 576 (((Yj d)).1)),(5,.i (-1))] [0] [] [] p0<|Qa<|sn [2,3,5,6] [] p0<|mz [(6,.i 0)] [] [] []<|wT 3 0 (.own H 576) (((Yj d)).1) (λh j=>?_)
 refine S7 Hb C2 (((Yj d)).1) (-1) (λa b=> [(5,.i b),(6,.i (a:W))]) [5,6] (λf=> [(5,.i f)]) [3,5,6] wf0 (λa b O U=>?_) (λa b O U=>?_) (λf c=>?_)
 ·obtain⟨g,V⟩:=Xo (l:=((Yj d)).1) (i:=a) O;refine Qa<|sn [2,3,5,6,15] [] (pl 2 (((Yj d)).1) (pe 3 (zB ((a:W)<((((Yj d)).1).length:W))) p0))<|ckT<|Qd<|Qa<|Qp<|tn [2,3,5,6,23] [] (pN 2 V p0)<|ck (decide (g>b)) (λe=>?_) (λe=>?_)
  ·refine qu [(5,.i g)] [5] [] [] (pN 2 V p0) ?_;refine rn [2,3,5,6] [] (pw 1 a p0) ?_;exact xw _ (Qr V (Xg e rfl) U)
  refine Qd<|qu [(6,.i ((a+1:E):W))] [6] [] [] (pw 1 a p0) ?_
  exact xw _ (Qr V (Qi e rfl) U)
 ·exact Qa<|sn [2,3,5,6,15] [] (pl 2 (((Yj d)).1) (pe 3 (zC ((a:W)<((((Yj d)).1).length:W))) p0))<|ckF<|Xa<|xw _ (Xq O rfl U)
 exact sn [2] [] p0<|Qc<|pi [] (Vx c rfl)
def C3(_:E)(a:Zo)(b:I Qo):Rd ((I Qo)×W×A) (I Qo) (I Qo):=(.next (b++ [((a.1, []):Qo)]))
def Ff(_:E)(a:I Qo):(I Qo):=a
def H5(c:Yl)(d:I Zo)(f:E)(b:E)(e:Zo)(a:(I Qo)×A):Rd (Rd (Rd ((I Qo)×W×A) ((I Qo)×W) ((I Qo)×W)) ((I Qo)×W×A) ((I Qo)×W)) ((I Qo)×A) ((I Qo)×A):=(bif ((nth (((Yj d)).1) b) !=(f:W)) then(.next (a.1,a.2)) else(bif (!(Um (Jj c e.2 a.1) ((nth a.1 b).2))) then(.next (zU a.1 b ((nth a.1 b).1,(Jj c e.2 a.1)),H)) else(.next (a.1,a.2))))
def Iy(_:E)(a:(I Qo)×A):(I Qo)×A:=(a.1,a.2)
def U1(c:Yl)(d:I Zo)(e:E)(a:(I Qo)×W×A):Rd (Rd ((I Qo)×W×A) ((I Qo)×W) ((I Qo)×W)) ((I Qo)×W×A) ((I Qo)×W):=(bif a.2.2 then(Out.on (X8 (H5 c d e) Iy d 0 (a.1,D)) (λb=>(.next (b.1,vA vB (a.2.1+1),b.2)))) else(.brk (a.1,a.2.1)))
def Iz(a:Yl)(d:I Zo)(e:E)(b:(I Qo)×W):Rd ((I Qo)×W×A) ((I Qo)×W) ((I Qo)×W):=(Out.on (Ps (U1 a d e) (zF d*zF a.2.1+2) (b.1,b.2,H)) (λc=>(.next (c.1,c.2))))
def XU(_:E)(a:(I Qo)×W):(I Qo)×W:=(a.1,a.2)
def Hc(a:Yl)(d:I Zo):(I Qo)×W×A:=(bif ((!(((Yj d)).2))|| (!(Ja a))) then([],0,D) else(Out.on (X8 C3 Ff d 0 []) (λc=>(Out.on (K0 (Iz a d) XU ((W0 d)+1).toNat 0 (c,0)) (λb=>(b.1,b.2,H))))))
theorem TN{B:W}:∀(x:I W) (k:E) (s:W),(∀a,a∈x->a<=B)->s<=B->∃t,X8 Hb C2 x k s= .brk t/\t<=B
 | [],k,s,_,h=>⟨s,rfl,h⟩
 | a::x,k,s,hx,h=>by
  simp only[X8,Hb];cases c:decide (a>s) with
  | true=>exact TN x (k+1) a (λb hb=>hx b (zM _ hb)) (hx a (zH ..))
  | false=>exact TN x (k+1) s (λb hb=>hx b (zM _ hb)) h
theorem XV{d:I Zo}(h:((Yj d)).2=H):zF ((Yj d)).1=zF d/\zF d<=5/\W0 d<=5:=by
 have b:=h;rw[Ay] at b;obtain⟨c,f,g⟩:=Mc b;unfold W0;rw[Ay];obtain⟨t,e,i⟩:=TN (B:=5) ((Qt d)).1 0 (-1) (λa ha=>(g a ha).2) (by omega);refine⟨c,f, ?_⟩;rw[e];exact i
theorem TO(e:Yl)(d:I Zo)(b:E):Qlj e d (Qt d).1 (λ_=>H) (b:W) (H5 e d b):=by
 intro k a o c f;unfold H5 RR;rw[Qb8,Ay,←NU];simp only[bne];cases(nth (Qt d).1 k==(b:W))<;>rfl
section
variable {s_:Yl} {d:I Zo} {k1:E} {o:I Qo} {p:W}
theorem EK(a:((Yj d)).2=H)(h:EvS d ((Yj d)).1 (λ_=>H) s_.2.1 (k1:W) o):∃o' b,whl (U1 s_ d k1) (zF d*zF s_.2.1+2) (o,p,H)=uA (.brk (o',b))/\EvS d ((Yj d)).1 (λ_=>H) s_.2.1 ((k1:W)+1) o':=by
 rw[Ay] at a h⊢;exact Qm4 (f:=H5 s_ d k1) (e:=Iy) (TO s_ d k1) (λ_ _=>rfl) (λ_=>rfl) (Prod.ext rfl a) h p
theorem Qlk(a:((Yj d)).2=H)(h:EvS d ((Yj d)).1 (λ_=>H) s_.2.1 (((k1:E)):W) o):(whl (U1 s_ d k1) (zF d*zF s_.2.1+2) (o,p,H)).isSome=H:=by
 obtain⟨c,e,b,_⟩:=EK (p:=p) a h;rw[b];rfl
theorem Oe{y:I Qo×W}(b:((Yj d)).2=H)(h:EvS d ((Yj d)).1 (λ_=>H) s_.2.1 (((k1:E)):W) o)(a:Ps (U1 s_ d k1) (zF d*zF s_.2.1+2) (o,p,H)= .brk y):EvS d ((Yj d)).1 (λ_=>H) s_.2.1 ((((k1+1):E)):W) y.1:=by
 obtain⟨c,f,g,i⟩:=EK (p:=p) b h;unfold Ps at a;rw[g] at a;have e:(c,f)=y:=by simpa using a
 rw[←e,yY];exact i
theorem Az(b:X8 C3 Ff d 0 []= .brk o):EvS d ((Yj d)).1 (λ_=>H) s_.2.1 (((0:E)):W) o:=by
 obtain⟨c,h⟩:=WI (L:=((Yj d)).1) (on:=λ_=>H) (fs:=s_.2.1) (g:=λ_=> []) (f:=C3) (e:=Ff) (d:=d) (λk a s=>rfl) (λj _ i=>rfl);rw[c] at b;have e:(d.map λa=>((a.1,([]:I W)):Qo))=o:=Out.brk.inj b;rw[←e];exact h
end
theorem OA(a:Yl)(d:I Zo):ACalls vC 104 [.a [.h a.1,.h a.2.1,.i a.2.2],.h d] (.tup [(D, [.o 0 (((Hc a d)).1)]),(D, [.i (((Hc a d)).2.1)]),(D, [.b (((Hc a d)).2.2)])]):=by
 refine en func104 λ_ _ _=>sn [1,2,4,5,6] [2] p0 ?_
 refine tn [1,2,4,5,6,7,8] [2] (pc 1 (Rg d) p0)<|Qa<|Qa<|mz [(2,.p 2 0),(4,.e 0),(5,.i 0),(6,.b D),(7,.o 1152 (((Yj d)).1)),(8,.b (((Yj d)).2))] [0] [(2, [.h a.1,.h a.2.1,.i a.2.2])] []<|jn [(27,.b ((!(((Yj d)).2))|| (!(Ja a))))] [8] [] [] (!(((Yj d)).2)) (λh1=>?_) (λh1=>?_) ?_
 ·have r:(((Yj d)).2)=D:=V1 h1;refine ru [(27,.b H)] [8] [] [] (pf 0 r (pe 1 (show .b (!D)= .b H from rfl) p0)) ?_;exact zA (by rw[h1]<;>kernel_rfl)
 ·have r:(((Yj d)).2)=H:=Z5 h1;have ab:=XV r;refine rn [1,2,4,5,6,7,27] [2] (pt 0 r (pe 1 (show .b (!H)= .b D from rfl) (pc 4 (Bu a) p0))) ?_;exact zA (by rw[h1]<;>kernel_rfl)
 refine ck ((!(((Yj d)).2))|| (!(Ja a))) (λh2=>?_) (λh2=>?_)
 ·exact sn [1,2,4,5,6,7] [2] p0<|Qc<|pz [] (show Hc a d=_ from Xg h2 rfl) (λz=> .tup [(D, [.o 0 z.1]),(D, [.i z.2.1]),(D, [.b z.2.2])])
 have ad:((!(((Yj d)).2)))=D:=CG h2;have a6:(((Yj d)).2)=H:=Z5 ad;have aa:=XV a6;have ae:((!(Ja a)))=D:=FW h2;have al:(Ja a)=H:=Z5 ae;refine Qd<|sn [1,2,4,5,6,7,9] [2] p0<|Qa<|tn [1,2,4,5,6,7,9,10] [2] p0<|mz [(9,.one (.slc (.own H 1856) 2 [])),(10,.i 0)] [27] [] []<|wT 1 0 .sh d (λap aq=>?_)
 refine CA C3 Ff d [] (λs n=> [(9,.o 147206 n),(10,.i (s:W))]) [9,10] (λy0=> [(9,.o 147356 y0)]) [9,10] (λs n=>zF n<=s) (wsf [(1856,147206)]) (by simp) (λs n O U=>?_) (λs n O U=>?_) (λy0 e=>?_)
 ·have v:=U.2;obtain⟨a0,V⟩:=Xo (l:=d) (i:=s) O;refine Qa<|su [(33,.b H)] [] [] [] (pl 2 d (pe 3 (zB ((s:W)<(d.length:W))) p0))<|ckT<|Qd<|Qa<|Qp<|wT 9 0 (.own H 147206) n (λar au=>?_)
  refine ru [(9,.one (.slc (.own H 2880) 2 ((eL n)++ [[.s a0.1,.slc 1 []]])))] [9,33] [] [] (pn 3 V (pa n [((a0.1, []):Qo)] p0)) ?_;refine eqn [(9,.o 2880 (n++ [((a0.1, []):Qo)]))] [9] [] [] (by rw[show((eL n)++ [[.s a0.1,.slc 1 []]])=(eL (n++ [((a0.1, []):Qo)])) from Jg rfl (rfl)]<;>kernel_rfl) ?_;refine rn [1,2,4,5,6,7,9,10] [2] (pw 1 s p0) ?_;exact zL (n++ [((a0.1, []):Qo)]) (zQ (wsf [(2880,147206)]) ⟨Qr V rfl U.1,by first|omega|(simp;omega) | simp⟩)
 ·have v:=U.2;exact Qa<|su [(33,.b D)] [] [] [] (pl 2 d (pe 3 (zC ((s:W)<(d.length:W))) p0))<|ckF<|Xa<|zL _ (zQ (wsf [(147206,147356)]) (Xq O rfl U.1))
 refine su [(11,.i 0)] [] [] [] p0<|Qa<|su [(12,.i 0)] [] [] [] p0<|Qqs (Iz a d) XU ((W0 d)+1).toNat (y0,0) (λk1 k=> [(9,.o 147356 k.1),(11,.i k.2),(12,.i (k1:W))]) [9,11,12] (λ_ _=> []) [] (λy1=> [(9,.o 147356 y1.1),(11,.i y1.2)]) [1,2,7,9,11,12] (λ_=> []) [2] (λk1 k=>EvS d ((Yj d)).1 (λ_=>H) a.2.1 (((k1:E)):W) k.1/\zF k.1=zF d) wf0 ⟨(by first | exact Az e | exact Az e.1 | exact Ic (fs:=a.2.1) (Az e) | exact Ic (fs:=a.2.1) (Az e.1)),(by first | exact Az e | exact Az e.1 | exact Ic (fs:=a.2.1) (Az e) | exact Ic (fs:=a.2.1) (Az e.1))⟩ (λk1 k w f=>?_) (λk1 k w f=>?_) (λy1 af=>?_)
 ·have x:=f.2.1;have a1:=f.2.2;refine Qa<|su [(49,.b H)] [] [] [] (pc 2 (Pe d) (pe 3 (zB ((k1:W)<=(W0 d))) p0))<|ckT<|Qd<|Qa<|Qp<|su [(13,.b H)] [49] [] [] p0<|blw (λ(g:(I Qo)×W×A)=> [(9,.o 147356 g.1),(11,.i g.2.1),(13,.b g.2.2)]) [9,11,13] (λg=> []) [] (λ(u:(I Qo)×W)=> [(9,.o 147356 u.1),(11,.i u.2)]) [9,11,13] (λu=> []) [] (λ(k2:E) (g:(I Qo)×W×A)=>whl (U1 a d k1) k2 g=uA (Ps (U1 a d k1) (zF d*zF a.2.1+2) (k.1,k.2,H))/\zF g.1=zF d) (λ(u:(I Qo)×W)=>(Ps (U1 a d k1) (zF d*zF a.2.1+2) (k.1,k.2,H))= .brk u) (zF d*zF a.2.1+2) (k.1,k.2,H) wf0 ⟨N1 (Qlk (by assumption) (by assumption)),(by assumption)⟩ (λ_ h=>Sb h.1) (λk2 g a2=>?_) (λu ah=>?_)
  ·have ai:=a2.2;refine Qa<|su [(52,.b g.2.2)] [] [] [] p0<|ck g.2.2 (λh7=>?_) (λh7=>?_)
   ·refine Qd<|Qp<|su [(13,.b D)] [13,52] [] [] p0<|sn [1,2,4,5,6,7,9,11,12,13] [2] p0<|tn [1,2,4,5,6,7,9,11,12,13,14] [2] p0<|mz [(11,.i (vA vB (g.2.1+1))),(14,.i 0)] [11] [] []<|Qbn (H5 a d k1) Iy d (g.1,D) (λc b=> [(9,.o 147356 b.1),(13,.b b.2),(14,.i (c:W))]) [9,13,14] (λy3=> [(9,.o 147356 y3.1),(13,.b y3.2)]) [9,13,14] (λ_ b=>zF b.1=zF g.1) (λy3=>zF y3.1=zF g.1) wf0 (by simp) (λc b a4 j=>?_) (λc b a4 j=>?_) (λy3 a7=>?_)
    ·have a5:=j.2;obtain⟨o,t⟩:=Xo (l:=d) (i:=c) a4;refine Qa<|su [(58,.b H)] [] [] [] (pl 2 d (pe 3 (zB ((c:W)<(d.length:W))) p0))<|ckT<|Qd<|Qa<|Qp<|Qa<|wT 7 0 (.own H 1152) (((Yj d)).1) (λav am=>?_)
     have aj:=ng (((Yj d)).1) c;refine sn [1,2,4,5,6,7,9,11,12,13,14,66] [2] (pN 2 aj p0)<|ck ((nth (((Yj d)).1) c) !=(k1:W)) (λm=>?_) (λm=>?_)
     ·have a8:=P8 m;refine Xa<|qn [1,2,4,5,6,7,9,11,12,13,14] [2] (pw 1 c p0) ?_
      exact xw (b.1,b.2) ⟨Qr t (Xg m rfl) j.1,(by first|omega|(simp only[zK];omega))⟩
     have a8:=Ap m;refine Qd<|tN [1,2,4,5,6,7,9,11,12,13,14,15] [2] (pn 3 t (pc 7 (JG a o.2 b.1) p0))<|wT 9 0 (.own H 147356) b.1 (λan ao=>?_)
     have p:=ng b.1 c;refine tu [(15,.o 4736 (Jj a o.2 b.1)),(82,.b (!(Um (Jj a o.2 b.1) ((nth b.1 c).2))))] [58] [] [] (pN 3 p (pc 6 (XQ (Jj a o.2 b.1) ((nth b.1 c).2)) p0))<|ck (!(Um (Jj a o.2 b.1) ((nth b.1 c).2))) (λq=>?_) (λq=>?_)
     ·have a9:(Um (Jj a o.2 b.1) ((nth b.1 c).2))=D:=V1 q;refine su [(9,.one (.slc (.own H 147356) 2 (setRow (eL b.1) c 1 [.h (Jj a o.2 b.1)])))] [9,15,82] [] [] (pN 3 p p0)<|eqn [(9,.o 147356 (zU b.1 c ((nth b.1 c).1,(Jj a o.2 b.1))))] [9] [] [] (by rw[Km (y:=((nth b.1 c).1,(Jj a o.2 b.1))) p rfl]<;>kernel_rfl) ?_
      refine ru [(13,.b H)] [13] [] [] p0 ?_;refine rn [1,2,4,5,6,7,9,11,12,13,14] [2] (pw 1 c p0) ?_;exact xw (zU b.1 c ((nth b.1 c).1,(Jj a o.2 b.1)),H) ⟨Qr t (Qi m (Xg q rfl)) j.1,(by first|omega|(simp only[zK];omega))⟩
     have a9:(Um (Jj a o.2 b.1) ((nth b.1 c).2))=H:=Z5 q;refine Qd<|rn [1,2,4,5,6,7,9,11,12,13,14] [2] (pw 1 c p0) ?_
     exact xw (b.1,b.2) ⟨Qr t (Qi m (Qi q rfl)) j.1,(by first|omega|(simp only[zK];omega))⟩
    ·have a5:=j.2;exact Qa<|su [(58,.b D)] [] [] [] (pl 2 d (pe 3 (zC ((c:W)<(d.length:W))) p0))<|ckF<|Xa<|xw (b.1,b.2) ⟨Xq a4 rfl j.1,by first|omega|(simp only[zK];omega)⟩
    have ak:=a7.2;exact xw (y3.1,vA vB (g.2.1+1),y3.2) ⟨wn a2.1 (Xg h7 (Vx a7.1 rfl)),(by first|omega|(simp only[zK];omega))⟩
   exact Xa<|xw _ (wb a2.1 (Qi h7 rfl))
  refine rn [1,2,4,5,6,7,9,11,12] [2] (pw 1 k1 p0) ?_;exact xw (u.1,u.2) ⟨Jd w (Vx ah rfl) f.1,(by first | exact Oe (by assumption) (by assumption) (by assumption) | exact Ic (fs:=a.2.1) (Oe (by assumption) (by assumption) (by assumption))),(by first | exact Oe (by assumption) (by assumption) (by assumption) | exact Ic (fs:=a.2.1) (Oe (by assumption) (by assumption) (by assumption)))⟩
 ·have x:=f.2.1;have a1:=f.2.2;exact Qa<|su [(49,.b D)] [] [] [] (pc 2 (Pe d) (pe 3 (zC ((k1:W)<=(W0 d))) p0))<|ckF<|Xa<|xw _ (Hn w rfl f.1)
 exact sn [4,5,6] [] p0<|Qc<|pz [] (show Hc a d=_ from Qi h2 (Vx e (Vx af rfl))) (λz=> .tup [(D, [.o 0 z.1]),(D, [.i z.2.1]),(D, [.b z.2.2])])
def Wn(a:Yl)(d:I Zo):(I Qo)×A:=(((Hc a d)).1,((Hc a d)).2.2)
theorem Tg(a:Yl)(d:I Zo):ACalls vC 53 [.a [.h a.1,.h a.2.1,.i a.2.2],.h d] (.tup [(D, [.o 0 (((Wn a d)).1)]),(D, [.b (((Wn a d)).2)])]):=by
 refine en func53 λ_ _ _=>sn [1,2,4,5] [2] p0 ?_
 exact tn [4,5,6,8] [] (pc 2 (OA a d) p0)<|tu [(4,.o 768 (((Hc a d)).1)),(5,.b (((Hc a d)).2.2))] [0,1] [] [] p0<|Qc<|pz [] (show Wn a d=(((Hc a d)).1,((Hc a d)).2.2) from rfl) (λz=> .tup [(D, [.o 0 z.1]),(D, [.b z.2])])
end
section
open Go.RowKit
theorem OB(v:K)(l:I K):Xu l v=H↔v∈l:=by
 unfold Xu Bw
 have key:∀(l:I K) (k:E),(0:W)<=((X8 (W5 v) H3 l k ()).on λ_=> -1)↔v∈l:=by
  intro l
  induction l with
  | nil=>intro k;simp[X8,Out.on]
  | cons a l d=>
    intro k;simp only[X8,W5];have b:(v.toList==a.toList)=decide (v=a):=toList_inj;cases c:(v.toList==a.toList) with
    | true=>
      obtain rfl:v=a:=by rw[c] at b;exact uL b.symm
      simp[Out.on]
    | false=>
      have h:v≠a:=by rw[c] at b;exact uI b.symm
      simp only[uB];refine(d (k+1)).trans ?_;simp[h]
 exact decide_eq_true_iff.trans (key l 0)
theorem TP(d:I Zo):Zu d=d.map (·.1):=by
 unfold Zu;rw[Wu (f:=Ln) (g:=λa:Zo=>a.1) (λ_ _ _=>rfl)];simp[Out.on,Lo]
theorem Rl{d:I Zo}{i:E}{a:Zo}(h:d[i]? =uA a):Xu (Zu d) a.1=H:=by
 rw[OB,TP];exact xJ.2 ⟨a,zR h,rfl⟩
theorem Qb9(x:I W):∀(n k:E) (s:W),k+1+n=x.length->K0 (Hr x) Dy n k s= .brk ((x.drop (k+1)).foldl max s)
 | 0,k,s,h=>by rw[List.drop_eq_nil_of_le (by omega)];rfl
 | n+1,k,s,h=>by
   have a:x[k+1]? =uA (nth x (k+1)):=Dc (by omega);rw[FV a];simp only[K0,Hr,xN];exact Qb9 x n (k+1) _ (by omega)
theorem AM:∀(x:I W) (k:E) (s:W),X8 Hb C2 x k s= .brk (x.foldl max s)
 | [],k,s=>rfl
 | a::x,k,s=>by
   simp only[X8,Hb,xN];by_cases h:a>s
   . rw[uR h,uC,show max s a=a by omega];exact AM x (k+1) a
   rw[uN h,uB,show max s a=s by omega];exact AM x (k+1) s
theorem GV(d:I Zo):W0 d=Vk d:=by
 unfold W0 Vk;rw[Ay,AM];simp only[Out.on];cases b:(Qt d).2 with
 | false=>
   have :(Qt d).1= []:=by
    unfold Qt at b⊢;cases g:Jh d with
    | false=>rfl
    | true=>
      rw[g] at b;simp only[zZ,uB] at b⊢;have i:=Gx g;have hw:=Nf (d:=d) (f:=Hy d) (e:=Hz) (F:=Wy d) (λ_ _ _=>rfl) (λ_ _=>rfl) (λ_=>rfl) (by omega) (d.length*d.length+3) (zJ d.length 0) H (Dw _).1 (Dw _).2
      have c:(ZY (K1 d) d.length d.length (d.length*d.length+3) (H,zJ d.length 0)).isSome=H:=by
       have:=Gy d i;rw[zN,hw,xI] at this;exact this
      obtain⟨r,j⟩:=yP.1 c;unfold Ps at b⊢;rw[zN,hw,j] at b⊢;cases r with
      | none=>rfl
      | some M=>simp[Qp9,Out.on] at b
   rw[this];rfl
 | true=>
   obtain⟨l,m,h⟩:=Mc b;simp only[zZ,Bool.false_or];generalize(Qt d).1=x at h;cases x with
   | nil=>rfl
   | cons a x=>
     have n:=(h a (zH ..)).1
     have e:((((a::x).length:E):W)==(0:W))=D:=by
      rw[uO,List.length_cons];omega
     rw[e,uB];unfold Iw;rw[Qb9 _ _ _ _ (by simp;omega)];simp only[Out.on,xN,yF,xA,List.drop_zero];have k:nth (a::x) 0=a:=rfl;rw[show max (-1) a=a by omega,k]
theorem Qq7(s:Yl)(d:I Zo)(b k:E)(a:Zo)(t:I Qo×A)(h:d[k]? =uA a):H5 s d b k a t=Wl s d (Zu d) b k a t:=by
 unfold H5 Wl;rw[Rl h,Ay,←NU,Qb8,Qht];simp
theorem Qq8(s:Yl)(d:I Zo)(k1:E):U1 s d k1=Vu s d (Zu d) k1:=by
 funext t
 unfold U1 Vu;rw[I4 (f:=H5 s d k1) (g:=Wl s d (Zu d) k1) (e:=Iy) (e':=Dz) (λ_ _=>rfl) d 0 _ (λi a t h=>by rw[yF];exact Qq7 s d k1 i a t h)]
theorem Qq9(s:Yl)(d:I Zo):Hc s d=Z6 s d [] (Zu d):=by
 unfold Hc Z6;rw[Ay,GI,GV];rw[I4 (f:=C3) (g:=Ko [] (Zu d)) (e:=Ff) (e':=Vt) (λ_ _=>rfl) d 0 _ (λi a t h=>by unfold C3 Ko;rw[Rl h];rfl)]
 congr 1
 congr 1
 funext y
 rw[show Iz s d=Wm s d (Zu d) from by funext k t;unfold Iz Wm;rw[Qq8]];rfl
theorem AN(s:Yl)(d:I Zo):Wn s d=Zv s d:=by
 unfold Wn Zv;rw[Qq9]
theorem OD{s:Yl}{d:I Zo}{names:I K}{r:I Qo}(h:(Z6 s d r names).2.2=H):zF d<=5/\Xr s=H/\(Z6 s d r names).1.map (·.1)=d.map (·.1)/\∀j,j<d.length->onD d names j=H->∃p:Yn->A,(nth (Z6 s d r names).1 j).2=sel s.2.1 (λf=>f.1) p:=by
 unfold Z6 at h⊢;cases i:((!(((Qt d)).2))|| (!(Xr s))) with
 | true=>rw[i] at h;simp at h
 | false=>
   have t:((Qt d)).2=H:=Z5 (CG i);have u:Xr s=H:=Z5 (FW i);simp only[uB]
   obtain⟨v,w⟩:=WI (L:=((Qt d)).1) (on:=onD d names) (fs:=s.2.1) (g:=Te r names) (f:=Ko r names) (e:=Vt) (d:=d) (λk a s=>by
    unfold Ko Te;cases Xu names a.1<;>rfl) (λj _ b=>by unfold onD at b;unfold Te;rw[b];rfl)
   rw[v]
   have key:∀(n k:E) (o:I Qo) (p:W),EvS d ((Qt d)).1 (onD d names) s.2.1 (((k:E)):W) o->∃o' x,K0 (Wm s d names) D0 n k (o,p)= .brk (o',x)/\EvS d ((Qt d)).1 (onD d names) s.2.1 (((k+n:E)):W) o':=by
    intro n
    induction n with
    | zero=>intro k o p l;exact⟨o,p,rfl,l⟩
    | succ n y=>
      intro k o p l;obtain⟨o1,z,m,c⟩:=Ix (p:=p) t l;obtain⟨o2,V,g3,g4⟩:=y (k+1) o1 z (by rw[yY];exact c);refine⟨o2,V, ?_,by rw[show k+(n+1)=k+1+n by omega];exact g4⟩;simp only[K0];unfold Wm Ps;rw[m];exact g3
   obtain⟨o,p,m,c⟩:=key (zO (Vk d+1)) 0 _ 0 w;simp only[Out.on,Vt];rw[m];exact⟨(Mc t).2.1,u,c.names,λj b q=>c.some_ j b q⟩
theorem AO{s:Yl}{d:I Zo}(h:(Zv s d).2=H):zF d<=5/\Xr s=H/\(Zv s d).1.map (·.1)=d.map (·.1)/\∀x,x∈(Zv s d).1->∃p:Yn->A,x.2=sel s.2.1 (λf=>f.1) p:=by
 unfold Zv at h⊢;obtain⟨e,g,b,j⟩:=OD h;refine⟨e,g,b,λx k=>?_⟩;obtain⟨i,hi⟩:=zY k;have c:(Z6 s d [] (Zu d)).1.length=d.length:=by have:=uM zF b;simpa using this
 have l:i<(Z6 s d [] (Zu d)).1.length:=(yB.1 hi).1;have a:i<d.length:=by omega
 have:=j i a (by unfold onD;exact Rl (Dc a));rw[UX hi] at this;exact this
theorem TQ{s:Yl}{d:I Zo}(h:(Zv s d).2=D):(Zv s d).1= []:=by
 unfold Zv at h⊢;unfold Z6 at h⊢;cases c:((!(((Qt d)).2))|| (!(Xr s))) with
 | true=>rfl
 | false=>
   exfalso;have m:((Qt d)).2=H:=Z5 (CG c);rw[c] at h;simp only[uB] at h
   obtain⟨q,r⟩:=WI (L:=((Qt d)).1) (on:=onD d (Zu d)) (fs:=s.2.1) (g:=Te [] (Zu d)) (f:=Ko [] (Zu d)) (e:=Vt) (d:=d) (λk a s=>by
    unfold Ko Te;cases Xu (Zu d) a.1<;>rfl) (λj _ i=>by unfold onD at i;unfold Te;rw[i];rfl)
   rw[q] at h
   have key:∀(n k:E) (o:I Qo) (p:W),EvS d ((Qt d)).1 (onD d (Zu d)) s.2.1 (((k:E)):W) o->∃y,K0 (Wm s d (Zu d)) D0 n k (o,p)= .brk y:=by
    intro n
    induction n with
    | zero=>intro k o p l;exact⟨_,rfl⟩
    | succ n t=>
      intro k o p l;obtain⟨o1,u,b,v⟩:=Ix (p:=p) m l;obtain⟨y,w⟩:=t (k+1) o1 u (by rw[yY];exact v);refine⟨y, ?_⟩;simp only[K0];unfold Wm Ps;rw[b];exact w
   obtain⟨y,b⟩:=key (zO (Vk d+1)) 0 _ 0 r;simp only[Out.on,Vt] at h;rw[b] at h;cases h
def EL(G:E->Prop)(L:I E):Inj:=⟨G,λk=>if k=63 then L else [],λ_=>0⟩
theorem Qll{P:uT}{tt:I (E×TI)}(a4:Nq P tt=H){f:E}{fn:Func}{c:Code}(hf:P.funcs[f]? =uA fn)(a:fn.body=uA c)(a5:Fr P f){n:E}{l l':I (I PV)}{args:I AV}
 (hn:args.length+1<=fn.ntmps) (y:∀x,x∈args->∀c,c∈x.cells->c.key=uF/\c.bkeys= []) {t:E} (hr:fn.results.toList= [.tmp t])
 (h:∀w0 F0,GoodAt P w0->AWP P fn.ntmps w0 F0 c (λe s=>(e= .ret\/e= .normal)/\∃k,get s.tm t=uA (.one (.slc (.own D k) n l'))) (ZQ (.one (.slc (.own D 63) n l)::args))):ATake P f n l args H D l':=by
 refine⟨a5,λw F G L v d z a6 V a7 a8 a9 a1 o=>calls_of_wp hf a ?_⟩;have ah:=o.length;have V:=V rfl;have aa:(EL G L).L 63=L:=by show(if 63=63 then L else [])=L;simp
 refine wp_mono (h ⟨w,λb=>b∈L,uF⟩ G z (EL G L) _ w ?_) ?_
 . have q:∀k b,b∈(EL G L).L k->k=63/\b∈L:=λk b g=>by
    have g:b∈(if k=63 then L else []):=g;split at g
    . rename_i e;exact⟨e,g⟩
    simp at g
   refine {below:=Base.Keeps.refl _,nodef:=rfl,size:= ?_,fl:=λb a=>⟨a7 b a,.inl a⟩,f0:=λb a=>a,nd:=λk=>?_,lo:=λk b a=>⟨.inr (q k b a).2,a9 b (q k b a).2⟩,dj:=λk k' b a ab=>(q k b a).1.trans (q k' b ab).1.symm,bo:=λk c hc=>by simp[ZQ,get] at hc,nb:= .inl rfl,cb:=(λb a=>by cases a),bi:=λk k' c c' hc=>by simp[ZQ,get] at hc,tm:=λt v' hv=>?_}
   . simp;omega
   . show(if k=63 then L else []:I E).Nodup;split
     . exact a8
     exact List.nodup_nil
   obtain⟨_,ht⟩:=P4 hv
   have p:All2 (AR (EL G L) w) (v::d) (.one (.slc (.own D 63) n l)::args):=by
    refine .cons ?_ ?_
    . show OwnTop G ((EL G L).L 63) w v n l;rw[aa];exact OwnTop.keep a1 (λb a=>⟨a6 b a,rfl⟩) λ_ _=>rfl
    have key:∀{vs:I uJ} {ys:I AV},All2 (AR (LL G) w) vs ys->(∀x,x∈ys->∀c,c∈x.cells->c.key=uF/\c.bkeys= [])->All2 (AR (EL G L) w) vs ys:=by
     intro vs ys ha
     induction ha with
     | nil=>intro _;exact .nil
     | cons h1 _ ih=>
       intro hx;refine .cons (h1.keep λc hc=>?_) (ih λx g=>hx x (zM _ g));obtain⟨e1,e2⟩:=hx _ (zH ..) c hc;exact⟨λb a=>⟨a,rfl⟩,(λk y=>by rw[e1] at y;cases y),(λk y=>by rw[e2] at y;simp at y)⟩
    exact key o y
   obtain⟨u,hu,hr⟩:=p.get' ht;have ad:t<(v::d).length:=(yB.1 hu).1
   have:((v::d).toArray++Array.replicate (fn.ntmps-(v::d).toArray.size) undef).getD t undef=u:=by
    rw[yK,Array.getElem?_append_left (by simpa using ad)];simp at hu⊢;rw[hu];rfl
   rw[this];exact hr
 rintro e a' w' ⟨J',s',i,he,k,ae⟩
 have a2:∃u,(results fn a'.tmps).run P w'= .ok u w'/\AR J' w' u (.one (.slc (.own D k) n l')):=by
  obtain⟨us,r,p⟩:=QU (P:=P) a4 i (rs:= [.tmp t]) (vs:= [.one (.slc (.own D k) n l')]) (by simp[MM,ae]);rw[←hr] at r
  have g:(fn.results.mapM (UL a'.tmps)).run P w'= .ok us.toArray w':=by
   rw[Array.mapM_eq_mapM_toList];simp[r]
  have a3:(results fn a'.tmps).run P w'= .ok (if h:us.toArray.size=1 then us.toArray[0] else .tuple us.toArray) w':=by
   rw[ZR];simp only[Sem.run_bind,g,Result.andThen_ok,Sem.run_pure]
  cases p with
  | cons h1 h2=>
    cases h2
    exact⟨_,by rw[a3];simp,h1⟩
 obtain⟨u,h1,h2⟩:=a2
 have hT:Qr8 F L w n D l' (.returned u) w':=by
  refine⟨u,rfl,λm g af=>⟨i.below.os,i.below.tape,i.below.output,i.below.size,λj hj=>i.below.block j (by show j<w.heap.size;omega) λhx=>by have:=af j hx;omega⟩,λb a hn=>i.below.block b a hn,J'.L k,i.nd k,λb a=>?_, ?_⟩
  . obtain⟨h3,h4,_⟩:=i.lo k b a;exact⟨h4,h3⟩
  have h2:OwnTop J'.F (J'.L k) w' u n l':=h2;refine OwnTop.keep h2 (λb a=>⟨?_,rfl⟩) λ_ _=>rfl
  obtain⟨h3,h4⟩:=i.fl b a;rcases h4 with h4 | h4 | h4
  . exact .inl (V b h4)
  . exact .inr ⟨.inl h4,h3,λg=>(i.lo k b g).2.2 a⟩
  exact .inr ⟨.inr h4,h3,λg=>(i.lo k b g).2.2 a⟩
 rcases he with rfl | rfl
 . exact⟨i.nodef,u,h1,hT⟩
 exact⟨i.nodef,u,h1,hT⟩
theorem Gz{a:Act}{t u:E}{v:uJ}(b:t<a.tmps.size):(a.put (uA t) v).tmps.getD u undef=if u=t then v else a.tmps.getD u undef:=by
 simp only[Act.put,yK,Array.getElem?_setIfInBounds];by_cases h:u=t
 . subst h;simp[b]
 simp[h,Ne.symm h]
theorem Qd2{a b:E}:xC a b=D↔¬a=b:=by
 cases h:xC a b with
 | true=>simp[xP h]
 | false=>simp;exact Nat.ne_of_beq_eq_false h
theorem Qlm{a:Act}{t:E}{v:uJ}(h:a.tmps.getD t undef=v)(b:t<a.tmps.size):a.put (uA t) v=a:=by
 have e:a.tmps.setIfInBounds t v=a.tmps:=by
  apply Array.ext
  . simp
  intro i c d;rw[Array.getElem_setIfInBounds];split
  . rename_i e;subst e;rw[←h,yK,Array.getElem?_eq_getElem b];rfl
  rfl
 show({a with tmps:=a.tmps.setIfInBounds t v}:Act)=a;rw[e]
theorem Qca:∀{vs:I uJ} {cs:I C},Bm vs cs=H->∃ps:I PV,ps.length=vs.length/\∀(X:E->Prop) (w:uQ),VC X w vs ps
 | [], [],_=>⟨[],rfl,λ_ _=> .nil⟩
 | [],_::_,h=>by simp[Bm] at h
 | _::_, [],h=>by simp[Bm] at h
 | v ::vs,c::cs,h=>by
   simp only[Bm,zG] at h;obtain⟨ps,d,e⟩:=Qca h.2;have a:=h.1;unfold QK at a;split at a
   . rename_i k _ _ _;simp only[zG,uS] at a;obtain⟨⟨rfl,rfl⟩,rfl⟩:=a;exact⟨.int k 0::ps,by simp[d],λX w=> .cons (.int (by cases k<;>simp[InR,IntKind.min,IntKind.max,IntKind.bits,IntKind.signed])) (e X w)⟩
   . rename_i b _;exact⟨.bool b::ps,by simp[d],λX w=> .cons (.bool b) (e X w)⟩
   . rename_i s _;have f:s.size=0:=by simp only[zG] at a;exact xP a.1
     exact⟨.str s::ps,by simp[d],λX w=> .cons (.str (by rw[f];exact zT _)) (e X w)⟩
   . rename_i n;exact⟨.slc n []::ps,by simp[d],λX w=> .cons (.emp uF n (zT _)) (e X w)⟩
   cases a
theorem Qcb{X:E->Prop}{w:uQ}{n:E}{vs:I uJ}{ps:I PV}(h:VC X w vs ps)(a:ps.length=n):∀m,VR X w n (zJ m vs).flatten (zJ m ps)
 | 0=> .nil n
 | m+1=>by
   rw[xS,xS,yV];exact .cons h a (Qcb h a m)
theorem Qd3{z:uU uJ}{m:E}:(Builtin.zeroCells z m).toList=(zJ m z.toList).flatten:=by
 have key:∀(l:I uJ) (m:E),(List.range (m*l.length)).map (λi=>l[i % l.length]!)=(zJ m l).flatten:=by
  intro l m
  induction m with
  | zero=>simp
  | succ m b=>
    rw[Nat.succ_mul,List.range_add,List.map_append,b,List.replicate_succ',List.flatten_append]
    congr 1
    simp only[xV,yV,List.flatten_nil,yZ];apply List.ext_getElem
    . simp
    intro i a c;simp only[yG,List.length_range] at a;simp[Nat.mul_add_mod_self_right,Nat.mod_eq_of_lt a,c]
 rw[←key z.toList m];unfold Builtin.zeroCells;rw[Array.toList_map,Array.toList_range];apply List.map_congr_left;intro i _;simp only[xB,getElem!_def,Array.getElem?_toList]
theorem Qln{vs:I uJ}{cs:I C}(h:Bm vs cs=H):∀v,v∈vs->v.oneCell'=H:=by
 induction vs generalizing cs with
 | nil=>intro v b;simp at b
 | cons v vs d=>
   cases cs with
   | nil=>simp[Bm] at h
   | cons c cs=>
     simp only[Bm,zG] at h;intro u hu;rcases yC.1 hu with rfl | hu
     . have a:=h.1;unfold QK at a;split at a<;>first | rfl | cases a
     exact d h.2 u hu
section
variable {P:uT} {N:E} {w0:Base} {F0:E->Prop} {J:Inj} {a:Act} {w:uQ} {s:St} {Q:Exit->St->Prop}
theorem Rel.aside(h:Rel N w0 F0 J a w s){d:E}(hd:d<N)(c:get s.tm d=uF)(v:uJ):Rel N w0 F0 J (a.put (uA d) v) w s:=
 (h.pure (uA d) (λf e=>by cases e;exact hd) (.one .dead) v (λ_=>trivial)).less (λt x b=>by
  show get (ins d _ s.tm) t=uA x;rw[Tr,uK (λe=>by subst e;rw[c] at b;cases b)];exact b) (λ_ _ h=>h)
theorem Qhu{tt:I (E×TI)}(c:Nq P tt=H){d f s:E}{t:I C}{u:I LK}{r:TI}(x:get tt d=uA ⟨.sli f,s,t,u⟩)(y:get tt f=uA r)
 {g cap m i n:E} {cur:uU uJ} {e:uV} (V:r.size=n) (hg:w.heap[g]? =uA (.cells cur e (0,0))) (hs:cur.size=cap*n) (hi:i<m) (hm:m<=cap) (ty:uV):
 ∃ o:I uJ,∃ps:I PV,o.length=n/\ps.length=n/\(∀(X:E->Prop) (w:uQ),VC X w o ps)/\
   (Builtin.clear_ #[d] ty #[.slice (uA ⟨g,i*n,uF⟩) (m-i) (cap-i)]).run P w= .ok (.tuple #[]) (w.setRow g (cur.toList.take (i*n)++(zJ (m-i) o).flatten++cur.toList.drop (i*n+(m-i)*n)).toArray):=by
 obtain⟨a1,z,hI,a2,_,hz,p,h⟩:=(Jc c y).info;obtain⟨ps,p1,p2⟩:=Qca h;have hu:=(Jc c x).sli;have a:z.cells.toList.length=n:=by simpa [V] using p
 refine⟨z.cells.toList,ps,a,by rw[p1,a],p2, ?_⟩;obtain⟨q,hq⟩:∃q,m-i=q+1:=⟨m-i-1,by omega⟩
 have j:((zJ (m-i) z.cells.toList).flatten).length=(m-i)*n:=by
  rw[xT,List.map_replicate,a];simp
 have h3:i*n+(m-i)*n<=cap*n:=by rw[←xX];exact yN n (by omega)
 have b:=run_storeCells_at P g (i*n) e ((zJ (m-i) z.cells.toList).flatten) 0 cur w hg (by rw[j,hs];simpa using h3) (λv k=>by
  obtain⟨l,hl,k⟩:=List.mem_flatten.1 k;rw[List.eq_of_mem_replicate hl] at k;exact Qln h v k)
 simp only[Nat.add_zero,j] at b;rw[hq] at b⊢;simp[Builtin.clear_,run_underlying hu,zeroValue,U4 hI,hz,Qd3,b]
theorem Qhv{tt:I (E×TI)}(a1:Nq P tt=H){id:E}{a6:uU Oper}{f m p x z a4 a7 z1:E}{z2:I C}{z3:I LK}{ti:TI}{y1 y2 y3 y4:uV}{q1 q2 q3 q4:String}{f1 f2 f3 f4:uU Edge}
 (a8:a6= #[⟨uA p,.move (.tmp f),y1,q1,f1,uF⟩,⟨uA x,.move (.tmp m),y2,q2,f2,uF⟩,⟨uA z,.slice a4 (.tmp p) (uA (.tmp x)) uF uF,y3,q3,f3,uF⟩,⟨uF,.call {callee:= .builtin .clear,args:= #[.tmp z],argTypes:= #[a4]},y4,q4,f4,uF⟩])
 (hN:(Nat.blt p N&&Nat.blt x N&&Nat.blt z N&&Nat.blt f N&& !(xC p f)&& !(xC p m)&& !(xC x f)&& !(xC x m)&& !(xC z f)&& !(xC z m)&& !(xC p x)&& !(xC f m))=H)
 (g1:get tt a4=uA ⟨.sli a7,z1,z2,z3⟩) (g2:get tt a7=uA ti) {k n:E} {l:I (I PV)} (hk:get s.tm f=uA (.one (.slc (.own D k) n l))) (hn:ti.size=n) {i:W} (hi:get s.tm m=uA (.one (.int .i64 i))) (h0:0<=i) (hl:i<l.length)
 (hQ:∀l',l'.length=l.length->l'.take i.toNat=l.take i.toNat->Q .normal ⟨[(f,.one (.slc (.own D (64*f)) n l')),(m,.one (.int .i64 i))], []⟩):AWP P N w0 F0 (.region id a6 D) Q s:=λJ a w V=>by
 simp only[zG,Nat.blt_eq,Bool.not_eq_true',Qd2] at hN;obtain⟨⟨⟨⟨⟨⟨⟨⟨⟨⟨⟨m1,m2⟩,m3⟩,m0⟩,n1⟩,n2⟩,n3⟩,n4⟩,n5⟩,n6⟩,n7⟩,n8⟩:=hN;obtain⟨j,rfl⟩:∃j:E,i=(j:W):=⟨i.toNat,by omega⟩;have hj:j<l.length:=by omega
 have e0:CR J w (a.tmps.getD f undef) (.slc (.own D k) n l):=V.tm f _ hk;have e5:CR J w (a.tmps.getD m undef) (.int .i64 (j:W)):=V.tm m _ hi;obtain⟨e5,_⟩:=e5;rcases(show OwnTop J.F (J.L k) w _ n l from e0) with⟨e,_⟩ | ⟨g,cap,cur,e,hL,e0,hg,hs,aj,a5,a9⟩
 . rw[e] at hj;simp at hj
 obtain⟨zs,ps,ak,al,am,aa⟩:=Qhu (P:=P) (w:=w) a1 g1 g2 hn hg hs hj a5 y4;have hu:=(Jc a1 g1).sli;have ab:=Cw (P:=P) (Jc a1 g2) w;rw[hn] at ab
 have an:Rel N w0 F0 J a w ⟨[(m,.one (.int .i64 (j:W)))], []⟩:=V.less (λt v hv=>by
  simp only[get] at hv;split at hv
  . rename_i e;subst e;rw[hi];exact hv
  cases hv) (λk c hc=>by cases hc)
 have no:∀d,¬d=m->get (⟨[(m,.one (.int .i64 (j:W)))], []⟩:St).tm d=uF:=λd hd=>by
  show(if m=d then _ else _)=uF;rw[uK (λe=>hd e.symm)];rfl
 have s0:=V.size;have ad:=(an.aside m1 (no _ n2) (.slice (uA ⟨g,0,uF⟩) l.length cap)).aside m2 (no _ n4) (.int .i64 (j:W));have ae:=ad.aside m3 (no _ n6) (.slice (uA ⟨g,0+j*n,uF⟩) (l.length-j) (cap-j));subst a8;refine wp_region ?_;show wpOps P _ (QX N w0 F0 Q) [0,1,2,3] a w;rw[wpOps_cons];unfold wpOp;simp only[yJ,yD];rw[uH (by simp[Region.wanted])];refine .inl (V4 (v:= .slice (uA ⟨g,0,uF⟩) l.length cap) (w':=w) (by simp[execOp,e0,Act.eval]) ?_);rw[wpOps_cons];unfold wpOp;simp only[yJ,yT,yD];rw[uH (by simp[Region.wanted])];have ao:(a.put (uA p) (.slice (uA ⟨g,0,uF⟩) l.length cap)).tmps.getD m undef= .int .i64 (j:W):=(Gz (by omega)).trans ((uK (λe=>n2 e.symm)).trans e5);refine .inl (V4 (v:= .int .i64 (j:W)) (w':=w) (by simp[execOp,ao,Act.eval]) ?_);rw[wpOps_cons];unfold wpOp;simp only[yJ,yT,yD];rw[uH (by simp[Region.wanted])];have b2:(a.put (uA p) (.slice (uA ⟨g,0,uF⟩) l.length cap)).tmps.size=N:=by simp[Act.put,s0]
 have ea:((a.put (uA p) (.slice (uA ⟨g,0,uF⟩) l.length cap)).put (uA x) (.int .i64 (j:W))).eval (.tmp p)= .slice (uA ⟨g,0,uF⟩) l.length cap:=(Gz (by omega)).trans ((uK n7).trans ((Gz (by omega)).trans (uH rfl)));have eb:((a.put (uA p) (.slice (uA ⟨g,0,uF⟩) l.length cap)).put (uA x) (.int .i64 (j:W))).eval (.tmp x)= .int .i64 (j:W):=(Gz (by omega)).trans (uH rfl)
 have ap:(Instr.sliceBounds H l.length cap (uA (.int .i64 (j:W))) uF uF).run P w= .ok (j,l.length,cap) w:=by
  have e4:∀c,(Instr.sliceBound (.int .i64 (j:W)) l.length c).run P w= .ok j w:=λc=>by
   have:=R8 (P:=P) (w:=w) (k:= .i64) (lo:=(j:W)) (Y:=c) (y:=l.length) (by omega) (by omega);simpa using this
  unfold Instr.sliceBounds;simp only[Sem.run_bind,Sem.run_pure,Result.andThen_ok];simp[e4]
 refine .inl (V4 (v:= .slice (uA ⟨g,0+j*n,uF⟩) (l.length-j) (cap-j)) (w':=w) (by
  have aq:cap≠j:=by omega
  simp[execOp,ea,eb,Instr.sliceAt,run_underlying hu,Instr.slice,ap,ab,aq,Addr.add_lit]) ?_)
 rw[wpOps_cons];unfold wpOp;simp only[yJ,yT,yD];rw[uH (by simp[Region.wanted])];generalize ar:((a.put (uA p) (.slice (uA ⟨g,0,uF⟩) l.length cap)).put (uA x) (.int .i64 (j:W)))=a2 at*;have s2:a2.tmps.size=N:=ad.size;have ec:(a2.put (uA z) (.slice (uA ⟨g,0+j*n,uF⟩) (l.length-j) (cap-j))).eval (.tmp z)= .slice (uA ⟨g,j*n,uF⟩) (l.length-j) (cap-j):=(Gz (by omega)).trans ((uH rfl).trans (by simp));have ec:=ec;simp only[yF] at ec
 refine .inl (V4 (v:= .tuple #[]) (w':=w.setRow g (cur.toList.take (j*n)++(zJ (l.length-j) zs).flatten++cur.toList.drop (j*n+(l.length-j)*n)).toArray) (by
  simp[execOp,resolve,invoke,builtin,ec,aa]) ?_)
 generalize au:a2.put (uA z) (.slice (uA ⟨g,0+j*n,uF⟩) (l.length-j) (cap-j))=a3 at*;show QX N w0 F0 Q .normal a3 _
 have av:a3.tmps.getD f undef= .slice (uA ⟨g,0,uF⟩) l.length cap:=by
  rw[←au];refine(Gz (by omega)).trans ((uK (λe=>n5 e.symm)).trans ?_);rw[←ar];exact(Gz (by omega)).trans ((uK (λe=>n3 e.symm)).trans ((Gz (by omega)).trans ((uK (λe=>n1 e.symm)).trans e0)))
 have q:g∈J.L k:=by rw[hL];exact zH
 have aw:¬J.F g:=(V.lo k g q).2.2;generalize o:w.setRow g (cur.toList.take (j*n)++(zJ (l.length-j) zs).flatten++cur.toList.drop (j*n+(l.length-j)*n)).toArray=w';have ax:w'.heap[g]? =uA (.cells (cur.toList.take (j*n)++(zJ (l.length-j) zs).flatten++cur.toList.drop (j*n+(l.length-j)*n)).toArray e (0,0)):=by rw[←o];exact setRow_heap w g cur _ e (0,0) hg
 have h:∀b,b≠g->w'.heap[b]? =w.heap[b]? :=λb hb=>by rw[←o];exact setRow_other w g b _ hb
 have ay:w'.heap.size=w.heap.size:=by rw[←o];simp[World.setRow]
 have hbelow:w0.Keeps w':=by
  refine V.below.step (by rw[←o];rfl) (by rw[←o];rfl) (by rw[←o];rfl) (by omega) λb _ az=>h b λe=>?_
  exact az (e▸(V.lo k g q).1)
 have af:((zJ (l.length-j) zs).flatten).length=(l.length-j)*n:=by
  rw[xT,List.map_replicate,ak];simp
 have b1:j*n+(l.length-j)*n=l.length*n:=by rw[←xX];congr 1;omega
 have b3:l.length*n<=cap*n:=yN n a5;have ah:cur.toList.length=cap*n:=by simpa using hs
 have b4:j*n<=cap*n:=yN n (by omega);have r:(l.take j++zJ (l.length-j) ps).length=l.length:=by simp;omega
 have ai:OwnTop (QR J w w' (64*f) k [] [g]).F [g] w' (.slice (uA ⟨g,0,uF⟩) l.length cap) n (l.take j++zJ (l.length-j) ps):=by
  refine .inr ⟨g,cap,_,e,rfl,by rw[r],ax, ?_, ?_,by rw[r];exact a5,by rw[r];exact a9⟩
  . simp only[List.size_toArray,zX,af,yX,yO,ah];omega
  rw[r]
  have:((cur.toList.take (j*n)++(zJ (l.length-j) zs).flatten++cur.toList.drop (j*n+(l.length-j)*n)).toArray.toList.take (l.length*n))=cur.toList.take (j*n)++(zJ (l.length-j) zs).flatten:=by
   show((_:I uJ)++_++_).take _=_
   have b5:(cur.toList.take (j*n)++(zJ (l.length-j) zs).flatten).length=l.length*n:=by
    simp only[zX,af,yX,ah];omega
   rw[List.take_append_of_le_length (by omega),xK (by omega)]
  rw[this];refine VR.append (Qcb (am _ _) al _) (VR.keep (X:=J.F) (w:=w) (λb hb=>⟨.inl hb,h b λe=>aw (e▸hb)⟩) ?_);have h3:=aj.take j
  rwa [List.take_take,Nat.min_eq_left (by omega)] at h3
 have hR:=UG ae (t:=f) (k:=k) (n:=n) m0 (frz:= []) (L':= [g]) (by simp) (w':=w') (u:= .slice (uA ⟨g,0,uF⟩) l.length cap) (l':=l.take j++zJ (l.length-j) ps) (d:=D) hbelow (by omega) (λb hb hn=>h b λe=>hn (e▸q)) (by simp) (λb hb=>by
  obtain rfl:=zP.1 hb
  exact⟨by have:=(V.lo k b q).2.1;omega,.inr q⟩) (by
   show OwnTop _ ((QR J w w' (64*f) k [] [g]).L (64*f)) _ _ _ _;rw[show(QR J w w' (64*f) k [] [g]).L (64*f)= [g] from uH rfl];exact ai)
 rw[Qlm av (by rw[ae.size];exact m0)] at hR;refine⟨_,_,hR.less (s':=⟨[(f,.one (.slc (.own D (64*f)) n (l.take j++zJ (l.length-j) ps))),(m,.one (.int .i64 (j:W)))], []⟩) (λt v hv=>?_) (λk c hc=>by cases hc),hQ _ r (by simp[List.take_append,List.take_take];omega)⟩;show get (ins f _ [(m,AV.one (.int .i64 (j:W)))]) t=uA v;rw[Tr];simp only[get] at hv⊢;exact hv
end
end
section
open Go.RowKit
section
variable {P:uT}
theorem Turned.ret{F G:E->Prop}{L:I E}{w w':uQ}{n:E}{t:uW Addr}{cap:E}{u:uJ}{o:E}{c:I uJ}(h:Turned w w' n t cap u o c)(v:∀b,F b->b<w.heap.size/\b∉L)(x:0<cap->∃g,t=uA ⟨g,0,uF⟩/\L= [g])(z:∀b,b∈L->b<w.heap.size)
 {l':I (I PV)} (V:VR F w n c l') (f:l'.length=o) (i:o<=1073741824):Qr8 F L w n D l' (.returned u) w':=by
 obtain⟨p,j,k,e',rfl,y,hs,ht,h1,h2,d⟩:=h.row
 have a:∀b,b<w.heap.size->b∉L->w'.heap[b]? =w.heap[b]? :=λb hb hn=>by
  rcases d with⟨d,q,r⟩ | ⟨_,_,r⟩
  . obtain⟨g,l,rfl⟩:=x q;rw[d] at l;obtain rfl:p=g:=by simpa using l
    exact r b λe=>hn (by simp[e])
  exact r b hb
 refine⟨_,rfl,λm f s=>⟨h.os,h.tape,h.output,h.size,λb hb=>a b (by omega) λhx=>by have:=s b hx;omega⟩,a, [p],by simp,λb hb=>?_, ?_⟩
 . obtain rfl:=zP.1 hb;refine⟨Xb y, ?_⟩;rcases d with⟨d,q,_⟩ | ⟨d,_,_⟩
   . obtain⟨g,l,rfl⟩:=x q;rw[d] at l;obtain rfl:b=g:=by simpa using l
     exact .inr (by simp)
   exact .inl d
 refine .inr ⟨p,j,k,e',rfl,by rw[f],y,hs, ?_,by rw[f];exact h1,h2,by rw[f];exact i⟩;rw[f,ht];exact V.keep λb hb=>⟨.inl hb,a b (v b hb).1 (v b hb).2⟩
end
end
section
open Go.RowKit
section
variable {P:uT} {t e:uV} {ei:TI} {w:uQ} {oa:uW Addr} {m cap i vb voff vc:E} {olds vs:I uJ}
theorem OneAt.block{n:E}(h:OneAt w n oa cap vb voff vs)(f:0<n):vb<w.heap.size/\∃a c d,w.heap[vb]? =uA (.cells a c d)/\0<a.size:=by
 have g:0<vs.length:=by rw[h.len];exact f
 have b:=h.cells 0 vs[0] (yQ g);unfold World.cell? at b;split at b
 . rename_i a c d e;refine⟨Xb e,a,c,d,e, ?_⟩;have b:a[voff+0]? =uA vs[0]:=by simpa using b
   have:=(Array.getElem?_eq_some_iff.1 b).1;omega
 cases b
variable {g:E} {cur:uU uJ} {e0:uV}
end
end
section
open Go.RowKit
theorem Qd4{P:uT}{f n:E}{l l':I (I PV)}{args:I AV}(h:ATake P f n l args H D l')(q:Ds l'):ATake P f n l args D D l':=by
 refine⟨h.1,λw F G L v c j k _ m o p d a=>?_⟩;refine(h.2 w G G L v c j (λ_ h=>h) (λ_ _ h=>h) m o p (OwnTop.keep d (λb hb=>⟨k b hb,rfl⟩) λ_ _=>rfl) a).mono ?_
 rintro e w' ⟨u,rfl,r,s,L',t,x,i⟩
 refine⟨u,rfl,r,s,L',t,x, ?_⟩;rcases i with i | ⟨g,cap,cur,e,rfl,rfl,y,z,V,i,h6⟩
 . exact .inl i
 exact .inr ⟨g,cap,cur,e,rfl,rfl,y,z,OR.vr (VR.orr (w':=w') V q) λb hb=>(by simp at hb),i,h6⟩
theorem Qra{n:E}{hi:W}(a:0<=hi)(b:hi<=(n:W)):(0:W)<=0/\0<=hi/\hi<=(n:W):=⟨Int.le_refl _,a,b⟩
section
variable {α:Type} {p:α->A}
def ixF(p:α->A):I α->W
 | []=> -1
 | a::l=>bif p a then 0 else bif ixF p l== -1 then-1 else ixF p l+1
theorem EM(p:α->A):∀l:I α,-1<=ixF p l/\ixF p l<l.length
 | []=>by simp[ixF]
 | a ::l=>by
   have b:=EM p l;simp only[ixF,List.length_cons];cases p a with
   | true=>simp only[uC];omega
   | false=>
     simp only[uB];cases h:(ixF p l== -1) with
     | true=>simp only[uC];omega
     | false=>simp only[uB];omega
theorem Qm7{f:E->α->uE->Rd W uE uE}{e:E->uE->uE}(b:∀k a s,f k a s=bif p a then .ret ((k:E):W) else .next ()):∀(l:I α) (k:E),X8 f e l k ()=bif ixF p l== -1 then .brk () else .ret ((k:W)+ixF p l)
 | [],k=>rfl
 | a :: l,k=>by
   simp only[X8,b,ixF];cases p a with
   | true=>simp only[uC];rw[show((0:W)== -1)=D from rfl,uB,Int.add_zero]
   | false=>
     simp only[uB];rw[Qm7 b l (k+1)];have hb:=EM p l;cases h:(ixF p l== -1) with
     | true=>simp only[uC];rfl
     | false=>
       have c:ixF p l≠-1:=by simpa using h
       simp only[uB];rw[show(ixF p l+1== -1)=D by simp;omega,uB]
       congr 1;omega
theorem Qrb{f:E->α->uE->Rd W uE uE}{e:E->uE->uE}(b:∀k a s,f k a s=bif p a then .ret ((k:E):W) else .next ())(l:I α):Out.on (X8 f e l 0 ()) (λ_=> -1)=ixF p l:=by
 rw[Qm7 b];cases h:(ixF p l== -1) with
 | true=>simp only[uC,Out.on];exact(by simpa using h:ixF p l= -1).symm
 | false=>simp only[uB,Out.on];omega
theorem Qlo{l :I α}(h:ixF p l= -1):∀a,a∈l->p a=D:=by
 induction l with
 | nil=>intro a ha;simp at ha
 | cons b l ih =>
   intro a ha;have hb:=EM p l;simp only[ixF] at h;cases c:p b with
   | true=>rw[c] at h;simp at h
   | false=>
     rw[c] at h;simp only[uB] at h;cases d:(ixF p l== -1) with
     | true => rcases yC.1 ha with rfl | ha
               . exact c
               exact ih (by simpa using d) a ha
     | false=>rw[d] at h;simp only[uB] at h;omega
theorem Qlp{l:I α}{i:E}(h:ixF p l=(i:W)):(l.take i).filter (λa=> !p a)=l.take i/\∃a,l[i]? =uA a/\p a=H:=by
 induction l generalizing i with
 | nil=>simp[ixF] at h
 | cons b l e=>
   have hb:=EM p l;simp only[ixF] at h;cases c:p b with
   | true=>
     rw[c] at h;simp only[uC] at h;obtain rfl:i=0:=by omega
     exact⟨rfl,b,rfl,c⟩
   | false=>
     rw[c] at h;simp only[uB] at h;cases d:(ixF p l== -1) with
     | true=>rw[d] at h;simp only[uC] at h;omega
     | false=>
       rw[d] at h;simp only[uB] at h;have:ixF p l≠-1:=by simpa using d
       obtain⟨j,rfl⟩:∃j,i=j+1:=⟨i-1,by omega⟩;obtain⟨f,a,g,k⟩:=e (i:=j) (by omega);exact⟨by simp[c,f],a,by simpa using g,k⟩
theorem Qcc{R S T:Type}{f:S->Rd R S T}:∀{n m:E} {s:S} {x:Out R T},whl f n s=uA x->n<=m->whl f m s=uA x
 | 0,_,_,_,h,_=>by simp[whl] at h
 | n+1,0,_,_,_,hm=>absurd hm (Nat.not_succ_le_zero n)
 | n+1,m+1,s,x,h,hm=>by
   simp only[whl] at h⊢;cases a:f s with
   | brk t=>rw[a] at h;exact h
   | ret r=>rw[a] at h;exact h
   | next s'=>rw[a] at h;exact Qcc h (by omega)
variable [Inhabited α]
def AP{R:Type}(f:I α×W×W->Rd R (I α×W×W) (I α×W))(p:α->A):Prop:=
 ∀(s:I α) (i j:E),i<j->j<=1073741824->f (s,(i:W),(j:W))=bif decide ((j:W)<(s.length:W)) then(bif p (nth s j) then .next (s,(i:W),((j+1:E):W)) else .next (s.set i (nth s j),((i+1:E):W),((j+1:E):W))) else .brk (s,(i:W))
theorem TR{R:Type}{f:I α×W×W->Rd R (I α×W×W) (I α×W)}(g:AP f p)(o:I α)(q:o.length<=1073741824):∀(n:E) (s:I α) (i j:E),j+n=o.length->i<j->s.length=o.length->s.take i=(o.take j).filter (λa=> !p a)->s.drop j=o.drop j->
 ∃s' k,whl f (n+1) (s,(i:W),(j:W))=uA (.brk (s',((k:E):W)))/\s'.take k=o.filter (λa=> !p a)/\k<o.length/\s'.length=o.length
 | 0,s,i,j,hn,hij,hl,ht,hd=>by
   refine⟨s,i, ?_, ?_,by omega,hl⟩
   . simp only[whl,g s i j hij (by omega)];rw[uN (by omega)];rfl
   rw[ht,xK (by omega)]
 | n +1,s,i,j,hn,hij,hl,ht,hd=>by
   have v:j<s.length:=by omega
   have c:j<o.length:=by omega
   have t:nth s j=o[j]:=by
    have r:s[j]? =o[j]? :=by
     have:=uM (λl=>l[0]?) hd;simpa [xD] using this
    rw[yQ c] at r;simp[nth,xR,r]
   have d:o.take (j+1)=o.take j++ [o[j]]:=by rw[yW,yQ c];rfl
   have e:∀m:I α,m.drop (j+1)=s.drop (j+1)->m.drop (j+1)=o.drop (j+1):=λm u=>by
    have:=uM (List.drop 1) hd;rw[xE,xE] at this;exact u.trans this
   have b:f (s,(i:W),(j:W))=_:=g s i j hij (by omega);rw[uR (by omega),t] at b;simp only[uC] at b;cases h:p o[j] with
   | true=>
     rw[h] at b;simp only[whl,b,uC];exact TR g o q n s i (j+1) (by omega) (by omega) hl (by rw[ht,d,yS];simp[h]) (e s rfl)
   | false=>
     rw[h] at b;simp only[whl,b,uB];refine TR g o q n (s.set i o[j]) (i+1) (j+1) (by omega) (by omega) (by simpa using hl) ?_ (e _ (List.drop_set_of_lt (by omega)));rw[d,yS,←ht];rw[yW,List.take_set_of_le (yE i),List.getElem?_set_self (by omega)];simp[h]
theorem Qcd{R:Type}{f:I α×W×W->Rd R (I α×W×W) (I α×W)}(d:AP f p){o:I α}(e:o.length<=1073741824){b:W}(g:b=ixF p o)(h:b≠-1):
 ∃s' c,whl f (o.length+1) (o,b,b+1)=uA (.brk (s',((c:E):W)))/\s'.take c=o.filter (λa=> !p a)/\c<o.length/\s'.length=o.length:=by
 have hb:=EM p o;obtain⟨i,hi⟩:∃i:E,b=(i:W):=⟨b.toNat,by omega⟩;obtain⟨j,a,k,m⟩:=Qlp (p:=p) (l:=o) (i:=i) (by omega);have n:i<o.length:=by omega
 obtain⟨s',c,q,r⟩:=TR d o e (o.length-(i+1)) o i (i+1) (by omega) (by omega) rfl (by
  rw[yW,k,yS,j];simp[m]) rfl
 refine⟨s',c, ?_,r⟩;subst hi;exact Qcc q (by omega)
theorem Qlq{R:Type}{f:I α×W×W->Rd R (I α×W×W) (I α×W)}(d:AP f p){o:I α}(e:o.length<=1073741824){a:W}(b:a=ixF p o)(c:a≠-1):(whl f (o.length+1) (o,a,a+1)).isSome=H:=by
 obtain⟨s',g,h,_⟩:=Qcd d e b c;rw[h];rfl
theorem Qrc{f:I α×W×W->Rd (I α) (I α×W×W) (I α×W)}(d:AP f p){o:I α}(e:o.length<=1073741824){b:W}(c:b=ixF p o):
 (bif (b==(-1:W)) then o else Out.on (Ps f (o.length+1) (o,b,b+1)) (λy=>List.take (zO y.2) y.1))=o.filter (λa=> !p a):=by
 cases h:(b==(-1:W)) with
 | true=>
   have h:b= -1:=by simpa using h
   simp only[uC];exact(List.filter_eq_self.2 λa ha=>by simp[Qlo (c▸h) a ha]).symm
 | false=>
   obtain⟨s',j,g,i,_⟩:=Qcd d e c (by simpa using h);simp only[uB,Ps,g];simpa [Out.on] using i
end
open GoE (enc wide)
def Og(f:Yn)(a:W):A:=((Wi a)&&((f.2.1==a)|| f.2.2.1))
theorem GW(f:Yn)(a:W):ACalls vC 223 [.a [.i f.1,.i f.2.1,.b f.2.2.1,.i f.2.2.2.1,.h f.2.2.2.2],.i a] (.b (Og f a)):=by
 refine en func223 λ_ _ _=>sn [1,2,4] [2] p0 ?_
 refine Qa<|mz [(2,.p 2 0),(4,.b D)] [0] [(2, [.i f.1,.i f.2.1,.b f.2.2.1,.i f.2.2.2.1,.h f.2.2.2.2])] []<|jn [(4,.b ((Wi a)&&((f.2.1==a)|| f.2.2.1)))] [1,2,4] [] [2] (Wi a) (λb=>?_) (λb=>?_) ?_
 ·refine X4 (f.2.1==a) (λc=>?_) (λc=>?_)
  ·refine rn [4] [] (pc 1 (cb b (B9 a)) (pt 6 c p0)) ?_;exact zA (by rw[b,c]<;>kernel_rfl)
  refine rn [4] [] (pc 1 (cb b (B9 a)) (pf 6 c p0)) ?_;exact zA (by rw[b,c]<;>kernel_rfl)
 ·refine rn [4] [] (pc 1 (cb b (B9 a)) p0) ?_;exact zA (by rw[b]<;>kernel_rfl)
 exact Qc<|pb [] (show Og f a=((Wi a)&&((f.2.1==a)|| f.2.2.1)) from rfl)
def Yg(f:Yn):Yn:=f
theorem Th(f:Yn):ACalls vC 171 [.a [.i f.1,.i f.2.1,.b f.2.2.1,.i f.2.2.2.1,.h f.2.2.2.2]] (.a [.i ((Yg f).1),.i ((Yg f).2.1),.b ((Yg f).2.2.1),.i ((Yg f).2.2.2.1),.o 0 ((Yg f).2.2.2.2)]):=by
 refine en func171 λ_ _ _=>sn [1,2] [1,2] p0 ?_
 exact tn [1,2] [1,2] (pc 2 (SS f.2.2.2.2) p0)<|tu [(2,.p 2 0)] [0] [(2, [.i f.1,.i f.2.1,.b f.2.2.1,.i f.2.2.2.1,.o 320 f.2.2.2.2])] [] p0<|Qc<|pz [] (show Yg f=f from rfl) (λz=> .a [.i z.1,.i z.2.1,.b z.2.2.1,.i z.2.2.2.1,.o 0 z.2.2.2.2])
def G0(f:Yn)(a:W):A:=(f.1==a)
theorem CK(f:Yn)(a:W):ACalls vC 272 [.a [.i f.1,.i f.2.1,.b f.2.2.1,.i f.2.2.2.1,.h f.2.2.2.2],.one (.rptr .sh [.i a])] (.b (G0 f a)):=by
 refine en func272 λ_ _ _=>sn [1,2,3] [2] p0 ?_
 exact tn [3] [] p0<|Qc<|pb [] (show G0 f a=(f.1==a) from rfl)
def Vl(a:W)(b:E)(c:Yn)(_:uE):Rd (W) (uE) (uE):=(bif (G0 c a) then(.ret (b:W)) else(.next ()))
def Vm(_:E)(_:uE):uE:=()
def Wb(a:I Yn)(b:W):W:=(Out.on (X8 (Vl b) Vm a 0 ()) (λ_=> -1))
theorem D9(a:I Yn)(c:W):ACalls vC 271 [.h a,.one (.fnr 272 [[.i c]])] (.i (Wb a c)):=by
 refine en func271 λ_ _ _=>sn [0,1,4] [] p0 ?_
 refine Qa<|tn [0,1,4,7,8] [] (pl 1 a p0)<|mz [(4,.i 0),(7,.i (a.length:W)),(8,.i 0)] [] [] []<|wT 0 0 .sh a (λh j=>?_)
 refine S7 (Vl c) Vm a () (λb _=> [(8,.i (b:W))]) [8] (λ_=> []) [0,1,7,8] wf0 (λb k O U=>?_) (λb k O U=>?_) (λm d=>?_)
 ·obtain⟨e,V⟩:=Xo (l:=a) (i:=b) O;refine sn [0,1,4,7,8,9] [] (pe 0 (zB ((b:W)<(a.length:W))) p0)<|Qa<|ckT<|Qd<|Qa<|Qp<|tn [0,1,4,5,7,8] [] p0<|tu [(5,.i (b:W)),(16,.b (G0 e c))] [] [] [] (pn 3 V (pc 5 (CK e c) p0))<|ck (G0 e c) (λf=>?_) (λf=>?_)
  ·refine sn [0,1,4,7,8] [] p0<|Qc ?_
   have g:(X8 (Vl c) Vm a 0 ())= .ret (b:W):=Kj V (Xg f rfl) U;exact pi [] (Pq g)
  refine Qd<|rn [0,1,4,7,8] [] (pw 0 b p0) ?_
  exact xw _ (Qr V (Qi f rfl) U)
 ·exact sn [0,1,4,7,8,9] [] (pe 0 (zC ((b:W)<(a.length:W))) p0)<|Qa<|ckF<|Xa<|xw _ (Xq O rfl U)
 exact sn [4] [] p0<|Qc<|pi [] (Vx d rfl)
def Sj(a:Yl)(b:W):W:=(Wb a.2.1 b)
theorem OE(a:Yl)(b:W):ACalls vC 224 [.a [.h a.1,.h a.2.1,.i a.2.2],.i b] (.i (Sj a b)):=by
 refine en func224 λ_ _ _=>sn [2,3,4] [2,3] p0 ?_
 exact tn [4] [] (pc 3 (D9 a.2.1 b) p0)<|Qc<|pi [] (show Sj a b=(Wb a.2.1 b) from rfl)
def Ea(a:W)(_:E)(b:Yn)(c:I Yn):Rd (Yl) (I Yn) (I Yn):=(bif (Og b a) then(.next (c++ [(Yg b)])) else(.next c))
def Eb(_:E)(a:I Yn):(I Yn):=a
def Ec(c:Yl)(b:E)(_:Yn)(a:I Yn):Rd (Yl) (I Yn) (I Yn):=(bif decide ((Sj (c.1,a,c.2.2) ((nth a b).2.2.2.1))<(0:W)) then(.next (zU a b ((nth a b).1,(nth a b).2.1,(nth a b).2.2.1,0,(nth a b).2.2.2.2))) else(.next a))
def Ed(_:E)(a:I Yn):(I Yn):=a
def K6(b:Yl)(a:W):Yl:=(Out.on (X8 (Ea a) Eb b.2.1 0 []) (λc=>(Out.on (X8 (Ec b) Ed c 0 c) (λd=>(b.1,d,b.2.2)))))
theorem XW(a:Yl)(c:W):ACalls vC 178 [.a [.h a.1,.h a.2.1,.i a.2.2],.i c] (.a [.o 0 ((K6 a c).1),.o 1 ((K6 a c).2.1),.i ((K6 a c).2.2)]):=by
 refine en func178 λ_ _ _=>sn [1,2,4] [2,4] p0 ?_
 refine tN [1,2,4,5] [2,4,5] (pc 2 (KL a.1) p0)<|Qa<|tu [(4,.p 4 0),(5,.p 5 0),(17,.h a.2.1),(18,.i (a.2.1.length:W)),(19,.i 0)] [0] [(4, [.e 2,.e 5,.i 0]),(5, [.o 768 a.1,.e 5,.i a.2.2])] [] (pl 2 a.2.1 p0)<|wT 17 0 .sh a.2.1 (λw x=>?_)
 refine VB (Ea c) Eb a.2.1 [] (λh _=> [(19,.i (h:W))]) [19] (λ_ e=> [(5, [.o 768 a.1,.o 147210 e,.i a.2.2])]) [5] (λ_=> []) [1,17,18,19] (λg=> [(5, [.o 768 a.1,.o 147360 g,.i a.2.2])]) [5] (λh e=>zF e<=h) (wgf [(H,5,1,H,320008,5)] [] [] [(320008,147210)]) (by simp) (λh e O U=>?_) (λh e O U=>?_) (λg r=>?_)
 ·have k:=U.2;obtain⟨d,V⟩:=Xo (l:=a.2.1) (i:=h) O;refine su [(20,.b H)] [] [] [] (pe 0 (zB ((h:W)<(a.2.1.length:W))) p0)<|Qa<|ckT<|Qd<|Qa<|Qp<|sn [1,4,5,7,17,18,19] [4,5,7] (pn 0 V p0)<|tn [1,4,5,7,17,18,19,25] [4,5,7] (pc 2 (GW d c) p0)<|ck (Og d c) (λs=>?_) (λs=>?_)
  ·refine wB 5 1 (.own H 147210) e (λa2 a3=>?_);refine qU [] [20] [(5, [.o 768 a.1,.slc (.own H 1984) 5 ((eL e)++ [[.i ((Yg d).1),.i ((Yg d).2.1),.b ((Yg d).2.2.1),.i ((Yg d).2.2.2.1),.h ((Yg d).2.2.2.2)]]),.i a.2.2])] [5] (pc 3 (Th d) (pa e [(Yg d)] p0)) ?_;refine eqn [] [] [(5, [.o 768 a.1,.o 1984 (e++ [(Yg d)]),.i a.2.2])] [5] (by rw[show((eL e)++ [[.i ((Yg d).1),.i ((Yg d).2.1),.b ((Yg d).2.2.1),.i ((Yg d).2.2.2.1),.h ((Yg d).2.2.2.2)]])=(eL (e++ [(Yg d)])) from Jg rfl (rfl)]<;>kernel_rfl) ?_;refine rn [1,4,5,17,18,19] [4,5] (pw 0 h p0) ?_;exact zL (e++ [(Yg d)]) (zQ (wsf [(1984,147210)]) ⟨Qr V (Xg s rfl) U.1,by first|omega|(simp;omega) | simp⟩)
  refine Qd<|qu [(19,.i ((h+1:E):W))] [19,20] [] [] (pw 0 h p0) ?_
  exact xw e ⟨Qr V (Qi s rfl) U.1,by first|omega|(simp;omega) | simp⟩
 ·have k:=U.2;exact su [(20,.b D)] [] [] [] (pe 0 (zC ((h:W)<(a.2.1.length:W))) p0)<|Qa<|ckF<|Xa<|zL _ (zQ (wsf [(147210,147360)]) (Xq O rfl U.1))
 refine Qa<|sn [4,5,35,36,37] [4,5] (pl 2 g p0)<|mz [(35,.o 147360 g),(36,.i (g.length:W)),(37,.i 0)] [] [] []<|wT 35 0 (.own H 147360) g (λa4 a5=>?_)
 refine VB (Ec a) Ed g g (λk1 b=> [(35,.o 147360 b),(37,.i (k1:W))]) [35,37] (λ_ b=> [(5, [.o 768 a.1,.o 147360 b,.i a.2.2])]) [5] (λ_=> []) [35,36,37] (λu=> [(5, [.o 768 a.1,.o 147360 u,.i a.2.2])]) [5] (λ_ b=>zF b=zF g) wf0 (by simp) (λk1 b m f=>?_) (λk1 b m f=>?_) (λu t=>?_)
 ·have n:=f.2;obtain⟨a1,p⟩:=Xo (l:=g) (i:=k1) m;refine su [(38,.b H)] [] [] [] (pe 0 (zB ((k1:W)<(g.length:W))) p0)<|Qa<|ckT<|Qd<|Qa<|Qp<|wT 35 0 (.own H 147360) b (λa6 v=>?_)
  have o:=ng b k1;refine sn [4,5,8,9,35,36,37] [4,5,9] (pN 1 o p0)<|tn [4,5,8,35,36,37,46] [4,5] (pc 3 (OE (a.1,b,a.2.2) ((nth b k1).2.2.2.1)) p0)<|ck (decide ((Sj (a.1,b,a.2.2) ((nth b k1).2.2.2.1))<(0:W))) (λj=>?_) (λj=>?_)
  ·have q:=uL j;refine qu [(35,.one (.slc (.own H 147360) 5 (setRow (eL b) k1 3 [.i 0])))] [35,38] [(5, [.o 768 a.1,.slc (.own H 147360) 5 (setRow (eL b) k1 3 [.i 0]),.i a.2.2])] [5] (pN 3 o p0) ?_;refine eqn [(35,.o 147360 (zU b k1 ((nth b k1).1,(nth b k1).2.1,(nth b k1).2.2.1,0,(nth b k1).2.2.2.2)))] [35] [(5, [.o 768 a.1,.o 147360 (zU b k1 ((nth b k1).1,(nth b k1).2.1,(nth b k1).2.2.1,0,(nth b k1).2.2.2.2)),.i a.2.2])] [5] (by rw[Km (y:=((nth b k1).1,(nth b k1).2.1,(nth b k1).2.2.1,0,(nth b k1).2.2.2.2)) o rfl]<;>kernel_rfl) ?_;refine rn [4,5,35,36,37] [4,5] (pw 0 k1 p0) ?_;exact xw (zU b k1 ((nth b k1).1,(nth b k1).2.1,(nth b k1).2.2.1,0,(nth b k1).2.2.2.2)) ⟨Qr p (Xg j rfl) f.1,(by first|omega|(simp only[zK];omega))⟩
  have q:=uI j;refine Qd<|qu [(37,.i ((k1+1:E):W))] [37,38] [] [] (pw 0 k1 p0) ?_
  exact xw b ⟨Qr p (Qi j rfl) f.1,(by first|omega|(simp only[zK];omega))⟩
 ·have n:=f.2;exact su [(38,.b D)] [] [] [] (pe 0 (zC ((k1:W)<(g.length:W))) p0)<|Qa<|ckF<|Xa<|xw _ (Xq m rfl f.1)
 exact sn [4] [4] p0<|Qc<|pz [] (show K6 a c=_ from Vx r (Vx t rfl)) (λz=> .a [.o 0 z.1,.o 1 z.2.1,.i z.2.2])
def Zq(b:Yl)(d:I Zo)(a:W):(I Qo)×A:=(bif ((!(Xr b))|| (!(Wi a))) then([],D) else(((Zv (K6 b a) d)).1,((Zv (K6 b a) d)).2))
theorem Rm(b:Yl)(d:I Zo)(a:W):ACalls vC 129 [.a [.h b.1,.h b.2.1,.i b.2.2],.h d,.i a] (.tup [(D, [.o 0 (((Zq b d a)).1)]),(D, [.b (((Zq b d a)).2)])]):=by
 refine en func129 λ_ _ _=>sn [1,2,3,6,7] [3] p0 ?_
 refine Qa<|Qa<|mz [(3,.p 3 0),(6,.e 0),(7,.b D)] [0] [(3, [.h b.1,.h b.2.1,.i b.2.2])] []<|jn [(15,.b ((!(Xr b))|| (!(Wi a))))] [] [] [] (!(Xr b)) (λe=>?_) (λe=>?_) ?_
 ·have c:(Xr b)=D:=V1 e;refine rn [1,2,3,6,7,15] [3] (pc 1 (cb c (H0 b)) (pe 2 (show .b (!D)= .b H from rfl) p0)) ?_;exact zA (by rw[e]<;>kernel_rfl)
 ·have c:(Xr b)=H:=Z5 e;refine rn [1,2,3,6,7,15] [3] (pc 1 (cb c (H0 b)) (pe 2 (show .b (!H)= .b D from rfl) (pc 5 (B9 a) p0))) ?_;exact zA (by rw[e]<;>kernel_rfl)
 refine ck ((!(Xr b))|| (!(Wi a))) (λf=>?_) (λf=>?_)
 ·refine su [] [15] [] [] p0<|opn [(D,6,0,H,384000,2)] ?_
  exact Qc<|pz [] (show Zq b d a=_ from Xg f rfl) (λz=> .tup [(D, [.o 0 z.1]),(D, [.b z.2])])
 exact Qd<|sn [6,7] [] (pc 2 (XW b a) (pc 4 (Tf (K6 b a) d) p0))<|Qc<|pz [] (show Zq b d a=_ from Qi f rfl) (λz=> .tup [(D, [.o 0 z.1]),(D, [.b z.2])])
def Yx(c:Yl)(d:I Zo)(a:W)(b:K):(I W):=(Zb (((Zq c d a)).1) b)
theorem GX(c:Yl)(d:I Zo)(a:W)(b:K):ACalls vC 76 [.a [.h c.1,.h c.2.1,.i c.2.2],.h d,.i a,.s b] (.o 0 (Yx c d a b)):=by
 refine en func76 λ_ _ _=>sn [1,2,3,4,8] [4] p0 ?_
 exact tn [3,8,9] [] (pc 3 (Rm c d a) p0)<|tu [(8,.o 1280 (Zb (((Zq c d a)).1) b))] [0,1,2,3] [] [] (pc 2 (Fa (((Zq c d a)).1) b) p0)<|Qc<|po0 [] (show Yx c d a b=(Zb (((Zq c d a)).1) b) from rfl)
def Oh(f:Yn)(u:W):A:=((Q8 u 0 2)&&((f.2.1==u)|| f.2.2.1))
theorem GY(f:Yn)(u:W):ACalls vC 196 [.a [.i f.1,.i f.2.1,.b f.2.2.1,.i f.2.2.2.1,.h f.2.2.2.2],.i u] (.b (Oh f u)):=by
 refine en func196 λ_ _ _=>sn [1,2,4] [2] p0 ?_
 refine Qa<|mz [(2,.p 2 0),(4,.b D)] [0] [(2, [.i f.1,.i f.2.1,.b f.2.2.1,.i f.2.2.2.1,.h f.2.2.2.2])] []<|jn [(4,.b ((Q8 u 0 2)&&((f.2.1==u)|| f.2.2.1)))] [1,2,4] [] [2] (Q8 u 0 2) (λa=>?_) (λa=>?_) ?_
 ·have c:=Vb.1 a;refine X4 (f.2.1==u) (λb=>?_) (λb=>?_)
  ·refine rn [4] [] (pc 1 (cb a (Yw u 0 2)) (pt 6 b p0)) ?_;exact zA (by rw[a,b]<;>kernel_rfl)
  refine rn [4] [] (pc 1 (cb a (Yw u 0 2)) (pf 6 b p0)) ?_;exact zA (by rw[a,b]<;>kernel_rfl)
 ·refine rn [4] [] (pc 1 (cb a (Yw u 0 2)) p0) ?_;exact zA (by rw[a]<;>kernel_rfl)
 exact Qc<|pb [] (show Oh f u=((Q8 u 0 2)&&((f.2.1==u)|| f.2.2.1)) from rfl)
def Ys(f:Yn):Yn:=f
theorem XX(f:Yn):ACalls vC 105 [.a [.i f.1,.i f.2.1,.b f.2.2.1,.i f.2.2.2.1,.h f.2.2.2.2]] (.a [.i ((Ys f).1),.i ((Ys f).2.1),.b ((Ys f).2.2.1),.i ((Ys f).2.2.2.1),.o 0 ((Ys f).2.2.2.2)]):=by
 refine en func105 λ_ _ _=>sn [1,2] [1,2] p0 ?_
 refine wB 1 4 .sh f.2.2.2.2 (λa b=>?_);exact tn [1,2] [1,2] (po 3 (.flat) (px (Db (n:=(([]:I (I PV)).length+((eL f.2.2.2.2):I (I PV)).length)) (Eo rfl (Yu f.2.2.2.2) (by first|omega|(simp only[List.length_cons,List.length_nil];omega) | (simp;omega) | simp))) (px (Ae (Uz f.2.2.2.2)) p0)))<|tu [(2,.p 2 0)] [0] [(2, [.i f.1,.i f.2.1,.b f.2.2.1,.i f.2.2.2.1,.o 384 f.2.2.2.2])] [] p0<|Qc<|pz [] (show Ys f=f from rfl) (λz=> .a [.i z.1,.i z.2.1,.b z.2.2.1,.i z.2.2.2.1,.o 0 z.2.2.2.2])
def Lp(a:W)(b:E)(c:Yn)(_:uE):Rd (W) (uE) (uE):=(bif (c.1==a) then(.ret (b:W)) else(.next ()))
def Lq(_:E)(_:uE):uE:=()
def Rn(a:Yl)(b:W):W:=(Out.on (X8 (Lp b) Lq a.2.1 0 ()) (λ_=> -1))
theorem CL(a:Yl)(c:W):ACalls vC 197 [.a [.h a.1,.h a.2.1,.i a.2.2],.i c] (.i (Rn a c)):=by
 refine en func197 λ_ _ _=>sn [1,2,4] [2] p0 ?_
 refine Qa<|tn [1,2,4,5] [2] p0<|mz [(2,.p 2 0),(4,.i 0),(5,.i 0)] [0] [(2, [.h a.1,.h a.2.1,.i a.2.2])] []<|wB 2 1 .sh a.2.1 (λg h=>?_)
 refine Qqr (Lp c) Lq a.2.1 () (λb _=> [(5,.i (b:W))]) [5] (λ_ _=> []) [] (λ_=> []) [1,2,5] (λ_=> []) [2] wf0 (λb j O U=>?_) (λb j O U=>?_) (λm d=>?_)
 ·obtain⟨k,V⟩:=Xo (l:=a.2.1) (i:=b) O;refine Qa<|sn [1,2,4,5,10] [2] (pl 3 a.2.1 (pe 4 (zB ((b:W)<(a.2.1.length:W))) p0))<|ckT<|Qd<|Qa<|Qp<|tn [1,2,4,5,20] [2] (pn 3 V p0)<|ck (k.1==c) (λe=>?_) (λe=>?_)
  ·refine tu [(4,.i (b:W))] [4] [] [] p0<|Qc ?_
   have f:(X8 (Lp c) Lq a.2.1 0 ())= .ret (b:W):=Kj V (Xg e rfl) U;exact pi [] (Pq f)
  refine Qd<|qu [(5,.i ((b+1:E):W))] [5] [] [] (pw 1 b p0) ?_
  exact xw _ (Qr V (Qi e rfl) U)
 ·exact Qa<|sn [1,2,4,5,10] [2] (pl 3 a.2.1 (pe 4 (zC ((b:W)<(a.2.1.length:W))) p0))<|ckF<|Xa<|xw _ (Xq O rfl U)
 exact sn [4] [] p0<|Qc<|pi [] (Vx d rfl)
def Ee(u:W)(_:E)(a:Yn)(b:I Yn):Rd (Yl) (I Yn) (I Yn):=(bif (Oh a u) then(.next (b++ [(Ys a)])) else(.next b))
def Ef(_:E)(a:I Yn):(I Yn):=a
def Eg(c:Yl)(b:E)(a:I Yn):Rd (Yl) (I Yn) (I Yn):=(bif decide ((Rn (c.1,a,c.2.2) ((nth a b).2.2.2.1))<(0:W)) then(.next (zU a b ((nth a b).1,(nth a b).2.1,(nth a b).2.2.1,0,(nth a b).2.2.2.2))) else(.next a))
def Eh(_:E)(a:I Yn):(I Yn):=a
def Vv(a:Yl)(u:W):Yl:=(Out.on (X8 (Ee u) Ef a.2.1 0 []) (λb=>(Out.on (K0 (Eg a) Eh (zF b) 0 b) (λc=>(a.1,c,a.2.2)))))
theorem XY(a:Yl)(u:W):ACalls vC 156 [.a [.h a.1,.h a.2.1,.i a.2.2],.i u] (.a [.o 0 ((Vv a u).1),.o 1 ((Vv a u).2.1),.i ((Vv a u).2.2)]):=by
 refine en func156 λ_ _ _=>sn [1,2,4] [2,4] p0 ?_
 refine wB 2 0 .sh a.1 (λx a1=>?_);refine tN [1,2,4,5] [2,4,5] (po 3 (.flat) (px (Db (n:=(([]:I (I PV)).length+((eL a.1):I (I PV)).length)) (Eo rfl (Yu a.1) (by first|omega|(simp only[List.length_cons,List.length_nil];omega) | (simp;omega) | simp))) (px (Ae (Uz a.1)) p0)))<|Qa<|tu [(2,.p 2 0),(4,.p 4 0),(5,.p 5 0),(6,.i 0)] [0] [(2, [.h a.1,.h a.2.1,.i a.2.2]),(4, [.e 2,.e 5,.i 0]),(5, [.o 704 a.1,.e 5,.i a.2.2])] [] p0<|wB 2 1 .sh a.2.1 (λa2 a3=>?_)
 refine VB (Ee u) Ef a.2.1 [] (λg _=> [(6,.i (g:W))]) [6] (λ_ d=> [(5, [.o 704 a.1,.o 147212 d,.i a.2.2])]) [5] (λ_=> []) [1,2,6] (λo=> [(5, [.o 704 a.1,.o 147362 o,.i a.2.2])]) [2,5] (λg d=>zF d<=g) (wgf [(H,5,1,H,320008,5)] [] [] [(320008,147212)]) (by simp) (λg d O U=>?_) (λg d O U=>?_) (λo s=>?_)
 ·have j:=U.2;obtain⟨c,V⟩:=Xo (l:=a.2.1) (i:=g) O;refine Qa<|su [(19,.b H)] [] [] [] (pl 3 a.2.1 (pe 4 (zB ((g:W)<(a.2.1.length:W))) p0))<|ckT<|Qd<|Qa<|Qp<|sn [1,2,4,5,6,28] [2,4,5] (pn 3 V (pc 6 (GY c u) p0))<|ck (Oh c u) (λt=>?_) (λt=>?_)
  ·refine wB 5 1 (.own H 147212) d (λa4 a5=>?_);refine qU [] [19] [(5, [.o 704 a.1,.slc (.own H 2432) 5 ((eL d)++ [[.i ((Ys c).1),.i ((Ys c).2.1),.b ((Ys c).2.2.1),.i ((Ys c).2.2.2.1),.h ((Ys c).2.2.2.2)]]),.i a.2.2])] [5] (pn 5 V (pc 7 (XX c) (pa d [(Ys c)] p0))) ?_;refine eqn [] [] [(5, [.o 704 a.1,.o 2432 (d++ [(Ys c)]),.i a.2.2])] [5] (by rw[show((eL d)++ [[.i ((Ys c).1),.i ((Ys c).2.1),.b ((Ys c).2.2.1),.i ((Ys c).2.2.2.1),.h ((Ys c).2.2.2.2)]])=(eL (d++ [(Ys c)])) from Jg rfl (rfl)]<;>kernel_rfl) ?_;refine rn [1,2,4,5,6] [2,4,5] (pw 1 g p0) ?_;exact zL (d++ [(Ys c)]) (zQ (wsf [(2432,147212)]) ⟨Qr V (Xg t rfl) U.1,by first|omega|(simp;omega) | simp⟩)
  refine Qd<|qn [1,2,4,5,6] [2,4,5] (pw 1 g p0) ?_
  exact xw d ⟨Qr V (Qi t rfl) U.1,by first|omega|(simp;omega) | simp⟩
 ·have j:=U.2;exact Qa<|su [(19,.b D)] [] [] [] (pl 3 a.2.1 (pe 4 (zC ((g:W)<(a.2.1.length:W))) p0))<|ckF<|Xa<|zL _ (zQ (wsf [(147212,147362)]) (Xq O rfl U.1))
 refine Qa<|sn [4,5,7] [4,5] p0<|mz [(7,.i 0)] [] [] []<|Qom (Eg a) Eh (zF o) o (λk1 _=> [(7,.i (k1:W))]) [7] (λ_ b=> [(5, [.o 704 a.1,.o 147362 b,.i a.2.2])]) [5] (λ_=> []) [7] (λr=> [(5, [.o 704 a.1,.o 147362 r,.i a.2.2])]) [5] (λ_ b=>zF b=zF o) (λr=>zF r=zF o) wf0 (by simp) (λk1 b h e=>?_) (λk1 b h e=>?_) (λr p=>?_)
 ·have k:=e.2;refine Qa<|sn [4,5,7,44] [4,5] (pl 3 b (pe 4 (zB ((k1:W)<(b.length:W))) p0))<|ckT<|Qd<|Qa<|Qp<|wB 5 1 (.own H 147362) b (λa6 w=>?_)
  have m:=ng b k1;refine tN [4,5,7,55] [4,5] (pN 4 m (pc 7 (CL (a.1,b,a.2.2) ((nth b k1).2.2.2.1)) p0))<|ck (decide ((Rn (a.1,b,a.2.2) ((nth b k1).2.2.2.1))<(0:W))) (λf=>?_) (λf=>?_)
  ·have q:=uL f;refine qu [] [] [(5, [.o 704 a.1,.slc (.own H 147362) 5 (setRow (eL b) k1 3 [.i 0]),.i a.2.2])] [5] (pN 3 m p0) ?_;refine eqn [] [] [(5, [.o 704 a.1,.o 147362 (zU b k1 ((nth b k1).1,(nth b k1).2.1,(nth b k1).2.2.1,0,(nth b k1).2.2.2.2)),.i a.2.2])] [5] (by rw[Km (y:=((nth b k1).1,(nth b k1).2.1,(nth b k1).2.2.1,0,(nth b k1).2.2.2.2)) m rfl]<;>kernel_rfl) ?_;refine rn [4,5,7] [4,5] (pw 1 k1 p0) ?_;exact xw (zU b k1 ((nth b k1).1,(nth b k1).2.1,(nth b k1).2.2.1,0,(nth b k1).2.2.2.2)) ⟨Jd h (Xg f rfl) e.1,(by first|omega|(simp only[zK];omega))⟩
  have q:=uI f;refine Qd<|qu [(7,.i ((k1+1:E):W))] [7] [] [] (pw 1 k1 p0) ?_
  exact xw b ⟨Jd h (Qi f rfl) e.1,(by first|omega|(simp only[zK];omega))⟩
 ·have k:=e.2;exact Qa<|sn [4,5,7,44] [4,5] (pl 3 b (pe 4 (zC ((k1:W)<(b.length:W))) p0))<|ckF<|Xa<|xw b ⟨Hn h rfl e.1,by first|omega|(simp only[zK];omega)⟩
 have v:=p.2;exact sn [4] [4] p0<|Qc<|pz [] (show Vv a u=_ from Vx s (Vx p.1 rfl)) (λz=> .a [.o 0 z.1,.o 1 z.2.1,.i z.2.2])
def J7(a:Yl)(d:I Zo)(u:W):(I Qo)×A:=(bif ((!(Q8 u 0 2))|| (!(Ja a))) then([],D) else(((Wn (Vv a u) d)).1,((Wn (Vv a u) d)).2))
theorem Ro(a:Yl)(d:I Zo)(u:W):ACalls vC 110 [.a [.h a.1,.h a.2.1,.i a.2.2],.h d,.i u] (.tup [(D, [.o 0 (((J7 a d u)).1)]),(D, [.b (((J7 a d u)).2)])]):=by
 refine en func110 λ_ _ _=>sn [1,2,3,6,7] [3] p0 ?_
 refine Qa<|Qa<|mz [(3,.p 3 0),(6,.e 0),(7,.b D)] [0] [(3, [.h a.1,.h a.2.1,.i a.2.2])] []<|jn [(15,.b ((!(Q8 u 0 2))|| (!(Ja a))))] [] [] [] (!(Q8 u 0 2)) (λc=>?_) (λc=>?_) ?_
 ·have b:(Q8 u 0 2)=D:=V1 c;refine rn [1,2,3,6,7,15] [3] (pc 1 (cb b (Yw u 0 2)) (pe 2 (show .b (!D)= .b H from rfl) p0)) ?_;exact zA (by rw[c]<;>kernel_rfl)
 ·have b:(Q8 u 0 2)=H:=Z5 c;have i:=Vb.1 b;refine rn [1,2,3,6,7,15] [3] (pc 1 (cb b (Yw u 0 2)) (pe 2 (show .b (!H)= .b D from rfl) (pc 5 (Bu a) p0))) ?_;exact zA (by rw[c]<;>kernel_rfl)
 refine ck ((!(Q8 u 0 2))|| (!(Ja a))) (λf=>?_) (λf=>?_)
 ·exact sn [1,2,3,6,7] [3] p0<|Qc<|pz [] (show J7 a d u=_ from Xg f rfl) (λz=> .tup [(D, [.o 0 z.1]),(D, [.b z.2])])
 have g:((!(Q8 u 0 2)))=D:=CG f;have e:(Q8 u 0 2)=H:=Z5 g;have h:=Vb.1 e;exact Qd<|sn [6,7] [] (pc 2 (XY a u) (pc 4 (Tg (Vv a u) d) p0))<|Qc<|pz [] (show J7 a d u=_ from Qi f rfl) (λz=> .tup [(D, [.o 0 z.1]),(D, [.b z.2])])
def Zr(b:Yl)(d:I Zo)(u:W)(a:K):(I W):=(Wz (((J7 b d u)).1) a)
theorem GZ(b:Yl)(d:I Zo)(u:W)(a:K):ACalls vC 60 [.a [.h b.1,.h b.2.1,.i b.2.2],.h d,.i u,.s a] (.o 0 (Zr b d u a)):=by
 refine en func60 λ_ _ _=>sn [1,2,3,4,8] [4] p0 ?_
 exact tn [3,8,9] [] (pc 3 (Ro b d u) p0)<|tu [(8,.o 1280 (Wz (((J7 b d u)).1) a))] [0,1,2,3] [] [] (pc 2 (Lm (((J7 b d u)).1) a) p0)<|Qc<|po0 [] (show Zr b d u a=(Wz (((J7 b d u)).1) a) from rfl)
theorem OF{α R S T:Type}{f:E->α->S->Rd R S T}{g:E->S->Rd R S T}{e e':E->S->T}(b:∀k a s,f k a s=g k s)(c:∀k s,e k s=e' k s):∀(l:I α) (k:E) (s:S),X8 f e l k s=K0 g e' l.length k s
 | [],k,s=>by simp[X8,K0,c]
 | a::l,k,s=>by
   simp only[X8,K0,List.length_cons,b];cases g k s with
   | next s'=>exact OF b c l (k+1) s'
   | brk t=>rfl
   | ret r=>rfl
theorem Qd5(s:Yl)(u:W):Vv s u=K6 s u:=by
 unfold Vv K6;rw[I4 (f:=Ee u) (g:=Ea u) (e:=Ef) (e':=Eb) (λ_ _=>rfl) s.2.1 0 _ (λi a t _=>rfl)]
 congr 1
 funext y
 rw[OF (f:=Ec s) (g:=Eg s) (e:=Ed) (e':=Eh) (λ_ _ _=>rfl) (λ_ _=>rfl)]
theorem TS(s:Yl)(d:I Zo)(u:W):J7 s d u=Zq s d u:=by
 unfold J7 Zq;rw[GI,Qd5,AN];have h:Q8 u 0 2=Wi u:=rfl;rw[h,Bool.or_comm]
theorem Qd6(s:Yl)(d:I Zo)(u:W)(n:K):Zr s d u n=Yx s d u n:=by
 unfold Zr Yx;rw[TS];rfl
theorem Qhw{s:Yl}(h:Xr s=H):s.2.1.length<=12:=by
 unfold Xr at h;cases b:X8 (Z2 s) K4 s.2.1 0 () with
 | brk t=>
   rw[b] at h;simp only[Out.on,zG,uS] at h;omega
 | ret r=>
   rw[b] at h;obtain rfl:r=H:=h;exfalso
   have key:∀(l:I Yn) k,X8 (Z2 s) K4 l k ()≠ .ret H:=by
    intro l
    induction l with
    | nil=>intro k h;simp[X8] at h
    | cons a l d=>
      intro k h;simp only[X8] at h;unfold Z2 at h;split at h
      . rename_i b;exact d _ h
      . cases h
      rename_i r b;cases h;revert b;generalize(_|| _:A)=c;cases c<;>simp
   exact key _ _ b
theorem Qrd{fs:I Yn}{p:Yn->A}{x:W}(h:x∈sel fs (λf=>f.1) p):∃f,f∈fs/\f.1=x:=by
 obtain⟨f,a,e⟩:=xJ.1 h;exact⟨f,(xM.1 a).1,e⟩
theorem Qhx{s:Yl}(h:Xr s=H){f:Yn}(b:f∈s.2.1):1<=f.1/\f.1<=60:=by
 have hv:Ji s.1 f=H:=by
  unfold Xr at h;obtain⟨i,hi⟩:=zY b;cases d:X8 (Z2 s) K4 s.2.1 0 () with
  | brk t=>
    have:=XE (λk a t=>by unfold Z2;generalize(_|| _:A)=c;cases c<;>simp) d i f hi;unfold Z2 at this;cases hv:Ji s.1 f with
    | true=>rfl
    | false=>rw[hv] at this;simp at this
  | ret r=>
    rw[d] at h;obtain rfl:r=H:=h;exfalso
    have key:∀(l:I Yn) k,X8 (Z2 s) K4 l k ()≠ .ret H:=by
     intro l
     induction l with
     | nil=>intro k h;simp[X8] at h
     | cons a l e=>
       intro k h;simp only[X8] at h;unfold Z2 at h;split at h
       . rename_i b;exact e _ h
       . cases h
       rename_i r b;cases h;revert b;generalize(_|| _:A)=c;cases c<;>simp
    exact key _ _ d
 unfold Ji at hv;cases d:X8 (Vh s.1 f) Ud f.2.2.2.2 0 () with
 | brk t=>
   rw[d] at hv;simp only[Out.on] at hv;cases hw:Xv f.1 1 60 with
   | true=>exact Kr.1 hw
   | false=>rw[hw] at hv;simp at hv
 | ret r=>
   rw[d] at hv;obtain rfl:r=H:=hv;exfalso
   have key:∀(l:I Wv) k,X8 (Vh s.1 f) Ud l k ()≠ .ret H:=by
    intro l
    induction l with
    | nil=>intro k h;simp[X8] at h
    | cons a l e=>
      intro k h;simp only[X8] at h;unfold Vh at h;split at h
      . rename_i b;exact e _ h
      . cases h
      rename_i r b;cases h;revert b;generalize(bif decide (((k:E):W)>(0:W)) then _ else _:A)=c;cases c<;>simp
   exact key _ _ d
theorem Qo8(s:Yl)(d:I Zo)(u:W):((Zq s d u)).1.length<=5/\∀x,x∈((Zq s d u)).1->x.2.length<=12/\∀n,n∈x.2->1<=n/\n<=60:=by
 unfold Zq;cases m:((!(Xr s))|| (!(Wi u))) with
 | true=>exact⟨zT _,λx a=>by simp at a⟩
 | false=>
   simp only[uB];cases c:(Zv (K6 s u) d).2 with
   | false=>rw[TQ c];exact⟨zT _,λx a=>by simp at a⟩
   | true=>
     obtain⟨o,e,i,j⟩:=AO c;have k:=Qhw e;have b:=uM zF i;rw[yG,yG] at b;refine⟨by omega,λx a=>?_⟩;obtain⟨p,g⟩:=j x a;refine⟨by rw[g];exact zW (TJ _ _ _) k,λn h=>?_⟩;rw[g] at h;obtain⟨f,l,rfl⟩:=Qrd h;exact Qhx e l
theorem Qce(nm:K):∀(o:I Qo) (k:E),X8 (Vs nm) Uo o k ()= .brk ()\/∃x,x∈o/\X8 (Vs nm) Uo o k ()= .ret x.2
 | [],_=> .inl rfl
 | b ::o,k=>by
   simp only[X8,Vs];cases(b.1.toList==nm.toList) with
   | true=>exact .inr ⟨b,zH ..,rfl⟩
   | false=>
     simp only[uB];rcases Qce nm o (k+1) with h | ⟨x,a,h⟩
     . exact .inl h
     exact .inr ⟨x,zM _ a,h⟩
theorem XZ(s:Yl)(d:I Zo)(u:W)(n:K):(Yx s d u n).length<=12:=by
 unfold Yx Zb;rcases Qce n (Zq s d u).1 0 with h | ⟨x,a,h⟩
 . rw[h];exact zT _
 rw[h];exact((Qo8 s d u).2 x a).1
theorem Rp(l:I W):GoD.size l=l.length:=Qdr (λ_=>rfl)
open GoE (enc wide)
def Uq(d:I Zo):A:=((Qt d)).2
theorem YA(d:I Zo):ACalls vC 258 [.h d] (.b (Uq d)):=by
 refine en func258 λ_ _ _=>sn [0,2] [] p0 ?_
 exact tn [2,4] [] (pc 1 (Rh d) p0)<|tu [(2,.b (((Qt d)).2))] [0] [] [] p0<|Qc<|pb [] (show Uq d=((Qt d)).2 from rfl)
def Qm(x:Qw):A:=((Xr x.1)&&(Uq x.2))
theorem W7(x:Qw):ACalls vC 205 [.a [.h x.1.1,.h x.1.2.1,.i x.1.2.2,.h x.2]] (.b (Qm x)):=by
 refine en func205 λ_ _ _=>sn [1,2] [1] p0 ?_
 refine Qa<|mz [(1,.p 1 0),(2,.b D)] [0] [(1, [.h x.1.1,.h x.1.2.1,.i x.1.2.2,.h x.2])] []<|jn [(2,.b ((Xr x.1)&&(Uq x.2)))] [1,2] [] [1] (Xr x.1) (λa=>?_) (λa=>?_) ?_
 ·refine rn [2] [] (pc 2 (cb a (H0 x.1)) (pc 6 (YA x.2) p0)) ?_;exact zA (by rw[a]<;>kernel_rfl)
 ·refine rn [2] [] (pc 2 (cb a (H0 x.1)) p0) ?_;exact zA (by rw[a]<;>kernel_rfl)
 exact Qc<|pb [] (show Qm x=((Xr x.1)&&(Uq x.2)) from rfl)
def Hs(d:I Zo):A:=((Yj d)).2
theorem YB(d:I Zo):ACalls vC 154 [.h d] (.b (Hs d)):=by
 refine en func154 λ_ _ _=>sn [0,2] [] p0 ?_
 exact tn [2,4] [] (pc 1 (Rg d) p0)<|tu [(2,.b (((Yj d)).2))] [0] [] [] p0<|Qc<|pb [] (show Hs d=((Yj d)).2 from rfl)
def Xe(x:Qw):A:=((Ja x.1)&&(Hs x.2))
theorem J3(x:Qw):ACalls vC 107 [.a [.h x.1.1,.h x.1.2.1,.i x.1.2.2,.h x.2]] (.b (Xe x)):=by
 refine en func107 λ_ _ _=>sn [1,2] [1] p0 ?_
 refine Qa<|mz [(1,.p 1 0),(2,.b D)] [0] [(1, [.h x.1.1,.h x.1.2.1,.i x.1.2.2,.h x.2])] []<|jn [(2,.b ((Ja x.1)&&(Hs x.2)))] [1,2] [] [1] (Ja x.1) (λa=>?_) (λa=>?_) ?_
 ·refine rn [2] [] (pc 2 (cb a (Bu x.1)) (pc 6 (YB x.2) p0)) ?_;exact zA (by rw[a]<;>kernel_rfl)
 ·refine rn [2] [] (pc 2 (cb a (Bu x.1)) p0) ?_;exact zA (by rw[a]<;>kernel_rfl)
 exact Qc<|pb [] (show Xe x=((Ja x.1)&&(Hs x.2)) from rfl)
def Y6(f:Y4):K:=(bif (!(Qz f.1)) then⟨#[]⟩ else(bif (f.2==(1:W)) then(((⟨#[102,105,101,108,100,32]⟩:K)++f.1)++(⟨#[32,105,110,116]⟩:K)) else(bif (f.2==(2:W)) then(((⟨#[102,105,101,108,100,32]⟩:K)++f.1)++(⟨#[32,115,116,114,105,110,103]⟩:K)) else⟨#[]⟩)))
theorem JJ(f:Y4):ACalls vC 259 [.a [.s f.1,.i f.2]] (.s (Y6 f)):=by
 refine en func259 λ_ _ _=>sn [1,2] [1] p0 ?_
 refine Qa<|Qp<|tn [1,2,3] [1] (pc 2 (Zi f.1) p0)<|ck (!(Qz f.1)) (λb=>?_) (λb=>?_)
 ·exact tu [(2,.s ⟨#[]⟩)] [0] [] [] p0<|Qc<|ps [] (Xg b rfl)
 have e:(Qz f.1)=H:=Z5 b;have i:=GJ e;refine tu [(1,.p 1 0),(2,.s ⟨#[]⟩),(8,.b (f.2==(1:W)))] [0] [(1, [.s f.1,.i f.2])] [] p0<|ck (f.2==(1:W)) (λc=>?_) (λc=>?_)
 ·have g:=eq_of_beq c;exact sn [2] [] (px (Zw (n:=(zD (⟨#[102,105,101,108,100,32]⟩:K)+zD f.1)) (by have a:zD (⟨#[102,105,101,108,100,32]⟩:K)=6:=rfl;unfold uD;first|omega|(simp only[zE];omega))) (px (Zw (n:=(zD ((⟨#[102,105,101,108,100,32]⟩:K)++f.1)+zD (⟨#[32,105,110,116]⟩:K))) (by have a:zD (⟨#[102,105,101,108,100,32]⟩:K)=6:=rfl;have h:zD (⟨#[32,105,110,116]⟩:K)=4:=rfl;unfold uD;first|omega|(simp only[zE];omega))) p0))<|Qc<|ps [] (Qi b (Xg c rfl))
 have g:=Yi c;refine sn [1,2,16] [1] p0<|ck (f.2==(2:W)) (λd=>?_) (λd=>?_)
 ·have j:=eq_of_beq d;exact tn [2] [] (px (Zw (n:=(zD (⟨#[102,105,101,108,100,32]⟩:K)+zD f.1)) (by have a:zD (⟨#[102,105,101,108,100,32]⟩:K)=6:=rfl;unfold uD;first|omega|(simp only[zE];omega))) (px (Zw (n:=(zD ((⟨#[102,105,101,108,100,32]⟩:K)++f.1)+zD (⟨#[32,115,116,114,105,110,103]⟩:K))) (by have a:zD (⟨#[102,105,101,108,100,32]⟩:K)=6:=rfl;have h:zD (⟨#[32,115,116,114,105,110,103]⟩:K)=7:=rfl;unfold uD;first|omega|(simp only[zE];omega))) p0))<|Qc<|ps [] (Qi b (Qi c (Xg d rfl)))
 exact Qd<|tn [2] [] p0<|Qc<|ps [] (Qi b (Qi c (Qi d rfl)))
def Kp(f:Y4):K:=(bif (!(Xy f.1)) then⟨#[]⟩ else(bif (f.2==(1:W)) then(((⟨#[102,105,101,108,100,32]⟩:K)++f.1)++(⟨#[32,105,110,116]⟩:K)) else(bif (f.2==(2:W)) then(((⟨#[102,105,101,108,100,32]⟩:K)++f.1)++(⟨#[32,115,116,114,105,110,103]⟩:K)) else⟨#[]⟩)))
theorem JK(f:Y4):ACalls vC 236 [.a [.s f.1,.i f.2]] (.s (Kp f)):=by
 refine en func236 λ_ _ _=>sn [1,2] [1] p0 ?_
 refine Qa<|Qp<|tn [1,2,3] [1] (pc 2 (Ym f.1) p0)<|ck (!(Xy f.1)) (λb=>?_) (λb=>?_)
 ·exact tu [(2,.s ⟨#[]⟩)] [0] [] [] p0<|Qc<|ps [] (Xg b rfl)
 have e:(Xy f.1)=H:=Z5 b;have i:=Qq1 e;refine tu [(1,.p 1 0),(2,.s ⟨#[]⟩),(8,.b (f.2==(1:W)))] [0] [(1, [.s f.1,.i f.2])] [] p0<|ck (f.2==(1:W)) (λc=>?_) (λc=>?_)
 ·have g:=eq_of_beq c;exact sn [2] [] (px (Zw (n:=(zD (⟨#[102,105,101,108,100,32]⟩:K)+zD f.1)) (by have a:zD (⟨#[102,105,101,108,100,32]⟩:K)=6:=rfl;unfold uD;first|omega|(simp only[zE];omega))) (px (Zw (n:=(zD ((⟨#[102,105,101,108,100,32]⟩:K)++f.1)+zD (⟨#[32,105,110,116]⟩:K))) (by have a:zD (⟨#[102,105,101,108,100,32]⟩:K)=6:=rfl;have h:zD (⟨#[32,105,110,116]⟩:K)=4:=rfl;unfold uD;first|omega|(simp only[zE];omega))) p0))<|Qc<|ps [] (Qi b (Xg c rfl))
 have g:=Yi c;refine sn [1,2,16] [1] p0<|ck (f.2==(2:W)) (λd=>?_) (λd=>?_)
 ·have j:=eq_of_beq d;exact tn [2] [] (px (Zw (n:=(zD (⟨#[102,105,101,108,100,32]⟩:K)+zD f.1)) (by have a:zD (⟨#[102,105,101,108,100,32]⟩:K)=6:=rfl;unfold uD;first|omega|(simp only[zE];omega))) (px (Zw (n:=(zD ((⟨#[102,105,101,108,100,32]⟩:K)++f.1)+zD (⟨#[32,115,116,114,105,110,103]⟩:K))) (by have a:zD (⟨#[102,105,101,108,100,32]⟩:K)=6:=rfl;have h:zD (⟨#[32,115,116,114,105,110,103]⟩:K)=7:=rfl;unfold uD;first|omega|(simp only[zE];omega))) p0))<|Qc<|ps [] (Qi b (Qi c (Xg d rfl)))
 exact Qd<|tn [2] [] p0<|Qc<|ps [] (Qi b (Qi c (Qi d rfl)))
def Lr(a:K)(b:E)(c:W):Rd (W) (W) (W):=(.next (xF (vA vB (vA vB (33*c)+vA vB (Jl a (b:W)))) 65521))
def Lt(_:E)(a:W):W:=a
def W8(a:K):W:=(Out.on (K0 (Lr a) Lt (zD a:W).toNat 0 3) (λb=>b))
theorem CM(a:K):ACalls vC 208 [.s a] (.i (W8 a)):=by
 refine en func208 λ_ _ _=>sn [0,2] [] p0 ?_
 refine tn [0,2,3] [] p0<|Qa<|tu [(2,.i 0),(3,.i 3),(6,.i (zD a:W)),(7,.i 0)] [] [] [] p0<|stT 0 0 a (λl=>?_)
 refine Qst (Lr a) Lt (zD a:W).toNat 3 (λb e=> [(3,.i e),(7,.i (b:W))]) [3,7] (λj=> [(3,.i j)]) [0,3,6,7] (λ_ e=>0<=e/\e<=65520) wf0 ⟨(by decide),(by decide)⟩ (λb e O U=>?_) (λb e O U=>?_) (λj h=>?_)
 ·have c:=U.2.1;have d:=U.2.2;have g:=XR a (b:W);have f:=JD c d g.1 g.2;refine sn [0,2,3,6,7,8] [] (pe 0 (zB ((b:W)<(zD a:W))) p0)<|Qa<|ckT<|Qd<|Qa<|Qp<|tn [0,2,3,4,6,7] [] p0<|qu [(3,.i (xF (vA vB (vA vB (33*e)+vA vB (Jl a (b:W)))) 65521))] [3] [] [] (px (Df (i:=(b:W)) (n:=(zD a)) (by omega)) (px (Qn8 (n:=65521) (by omega)) (px (Qf7 (k:= .i64) (n:=xF (vA vB (vA vB (33*e)+vA vB (Jl a (b:W)))) 65521) (by unfold InR;simp only[IntKind.min,IntKind.max,IntKind.bits,IntKind.signed];omega)) p0))) ?_
  refine rn [0,2,3,6,7] [] (pw 0 b p0) ?_;exact xw (xF (vA vB (vA vB (33*e)+vA vB (Jl a (b:W)))) 65521) ⟨Jd O rfl U.1,(by first | exact f.1 | exact f.2),(by first | exact f.1 | exact f.2)⟩
 ·have c:=U.2.1;have d:=U.2.2;exact sn [0,2,3,6,7,8] [] (pe 0 (zC ((b:W)<(zD a:W))) p0)<|Qa<|ckF<|Xa<|xw _ (Hn O rfl U.1)
 exact sn [2] [] p0<|Qc<|pi [] (Vx h rfl)
def Fg(a:K)(b:E)(c:W):Rd (W) (W) (W):=(.next (xF (vA vB (vA vB (c*33)+vA vB (Jl a (b:W)))) 65521))
def Lu(_:E)(a:W):W:=a
def U6(a:K):W:=(Out.on (K0 (Fg a) Lu (zD a:W).toNat 0 3) (λb=>b))
theorem CN(a:K):ACalls vC 189 [.s a] (.i (U6 a)):=by
 refine en func189 λ_ _ _=>sn [0,2] [] p0 ?_
 refine tn [0,2,3] [] p0<|Qa<|tu [(2,.i 0),(3,.i 3),(4,.i 0)] [] [] [] p0<|stT 0 0 a (λl=>?_)
 refine Qst (Fg a) Lu (zD a:W).toNat 3 (λb e=> [(3,.i e),(4,.i (b:W))]) [3,4] (λj=> [(3,.i j)]) [0,3,4] (λ_ e=>0<=e/\e<=65520) wf0 ⟨(by decide),(by decide)⟩ (λb e O U=>?_) (λb e O U=>?_) (λj h=>?_)
 ·have c:=U.2.1;have d:=U.2.2;have g:=XR a (b:W);have f:=TE c d g.1 g.2;refine Qa<|sn [0,2,3,4,8] [] (pe 3 (zB ((b:W)<(zD a:W))) p0)<|ckT<|Qd<|Qa<|Qp<|qn [0,2,3,4] [] (px (Df (i:=(b:W)) (n:=(zD a)) (by omega)) (px (Qn8 (n:=65521) (by omega)) (px (Qf7 (k:= .i64) (n:=xF (vA vB (vA vB (e*33)+vA vB (Jl a (b:W)))) 65521) (by unfold InR;simp only[IntKind.min,IntKind.max,IntKind.bits,IntKind.signed];omega)) p0))) ?_
  refine qu [(3,.i (xF (vA vB (vA vB (e*33)+vA vB (Jl a (b:W)))) 65521)),(4,.i ((b+1:E):W))] [3,4] [] [] (pw 1 b p0) ?_;exact xw (xF (vA vB (vA vB (e*33)+vA vB (Jl a (b:W)))) 65521) ⟨Jd O rfl U.1,(by first | exact f.1 | exact f.2),(by first | exact f.1 | exact f.2)⟩
 ·have c:=U.2.1;have d:=U.2.2;exact Qa<|sn [0,2,3,4,8] [] (pe 3 (zC ((b:W)<(zD a:W))) p0)<|ckF<|Xa<|xw _ (Hn O rfl U.1)
 exact sn [2] [] p0<|Qc<|pi [] (Vx h rfl)
def Fh(c:K)(b:E)(a:Z×W):Rd Z (Z×W) Z:=(bif (Jl c (b:W)==(10:W)) then(.next (a.1++ [(ByteArray.extract c a.2.toNat (b:W).toNat)],((b+1:E):W))) else(.next (a.1,a.2)))
def I0(_:E)(a:Z×W):Z:=a.1
def Y9(a:K):Z:=(Out.on (K0 (Fh a) I0 (zD a:W).toNat 0 ([],0)) (λb=>b))
theorem OG(c:K)(q:zD c<=1073741000):ACalls vC 145 [.s c] (.o 0 (Y9 c)):=by
 refine en func145 λ_ _ _=>sn [0,2] [] p0 ?_
 refine tn [0,2,3] [] p0<|tu [(2,.e 0),(3,.one (.slc (.own H 384) 1 [])),(4,.i 0)] [] [] [] p0<|Qa<|sn [0,2,3,4,5] [] p0<|mz [(5,.i 0)] [] [] []<|stT 0 0 c (λm=>?_)
 refine Qst (Fh c) I0 (zD c:W).toNat ([],0) (λb a=> [(3,.o 147202 a.1),(4,.i a.2),(5,.i (b:W))]) [3,4,5] (λl=> [(3,.o 147352 l)]) [0,3,4,5] (λb a=>zF a.1<=b/\0<=a.2/\a.2<=(b:W)/\zF a.1<=b) (wsf [(384,147202)]) ⟨(by simp),(by first | omega | simp),(by first | omega | simp),(by first | omega | simp)⟩ (λb a O U=>?_) (λb a O U=>?_) (λl j=>?_)
 ·have d:=U.2.1;have e:=U.2.2.1;have f:=U.2.2.2.1;have g:=U.2.2.2.2;refine Qa<|sn [0,2,3,4,5,10] [] (pe 3 (zB ((b:W)<(zD c:W))) p0)<|ckT<|Qd<|Qa<|Qp<|tn [0,2,3,4,5,16] [] (px (Df (i:=(b:W)) (n:=(zD c)) (by omega)) p0)<|ck (Jl c (b:W)==(10:W)) (λh=>?_) (λh=>?_)
  ·have k:=eq_of_beq h;refine wT 3 0 (.own H 147202) a.1 (λo p=>?_);refine tu [(3,.one (.slc (.own H 1472) 1 ((eL a.1)++ [[.s (ByteArray.extract c a.2.toNat (b:W).toNat)]])))] [3] [] [] (px (Gt (lo:=a.2) (hi:=(b:W)) (n:=(zD c)) (⟨by omega,by omega,by omega⟩)) (pa a.1 [(ByteArray.extract c a.2.toNat (b:W).toNat)] p0))<|eqn [(3,.o 1472 (a.1++ [(ByteArray.extract c a.2.toNat (b:W).toNat)]))] [3] [] [] (by rw[show((eL a.1)++ [[.s (ByteArray.extract c a.2.toNat (b:W).toNat)]])=(eL (a.1++ [(ByteArray.extract c a.2.toNat (b:W).toNat)])) from Jg rfl (rfl)]<;>kernel_rfl) ?_
   refine rn [0,2,3,4,5] [] (pw 1 b p0) ?_;refine qn [0,2,3,4,5] [] (pw 1 b p0) ?_;exact zL (a.1++ [(ByteArray.extract c a.2.toNat (b:W).toNat)],((b+1:E):W)) (zQ (wsf [(1472,147202)]) ⟨Jd O (Xg h rfl) U.1,by first|omega|(simp;omega) | simp,(by first|omega|(simp;omega)),(by first|omega|(simp;omega)),(by first|omega|(simp;omega))⟩)
  have k:=Yi h;refine Qd<|qu [(5,.i ((b+1:E):W))] [5] [] [] (pw 1 b p0) ?_
  exact xw (a.1,a.2) ⟨Jd O (Qi h rfl) U.1,by first|omega|(simp;omega) | simp,(by first|omega|(simp;omega)),(by first|omega|(simp;omega)),(by first|omega|(simp;omega))⟩
 ·have d:=U.2.1;have e:=U.2.2.1;have f:=U.2.2.2.1;have g:=U.2.2.2.2;exact Qa<|sn [0,2,3,4,5,10] [] (pe 3 (zC ((b:W)<(zD c:W))) p0)<|ckF<|Xa<|zL _ (zQ (wsf [(147202,147352)]) (Hn O rfl U.1))
 exact sn [2] [] p0<|Qc<|po0 [] (Vx j rfl)
def Kq(a:K)(b:E)(c:W):Rd (W×A) (W) (W):=(bif (decide (Jl a (b:W)<(48:W))|| decide (Jl a (b:W)>(57:W))) then(.ret (0,D)) else(.next (vA vB (vA vB (vA vB (10*c)+vA vB (Jl a (b:W)))-48))))
def Ht(_:E)(a:W):W:=a
def Xn(a:K):W×A:=(bif decide ((zD a:W)>(10:W)) then(0,D) else(Out.on (K0 (Kq a) Ht (zD a:W).toNat 0 0) (λb=>(bif (decide (b>(1000000000:W))|| (!((Q7 b).toList==a.toList))) then(0,D) else(b,H)))))
theorem Lw(a:K):ACalls vC 146 [.s a] (.tup [(D, [.i (((Xn a)).1)]),(D, [.b (((Xn a)).2)])]):=by
 refine en func146 λ_ _ _=>sn [0,2,3] [] p0 ?_
 refine Qa<|tn [0,2,3,8] [] p0<|ck (decide ((zD a:W)>(10:W))) (λl=>?_) (λl=>?_)
 ·exact tu [(2,.i 0),(3,.b D)] [] [] [] p0<|Qc<|pz [] (show Xn a=_ from Xg l rfl) (λz=> .tup [(D, [.i z.1]),(D, [.b z.2])])
 have y:=uI l;refine Qd<|tu [(2,.i 0),(3,.b D),(4,.i 0)] [] [] [] p0<|Qa<|sn [0,2,3,4,5] [] p0<|mz [(5,.i 0)] [] [] []<|stT 0 0 a (λV=>?_)
 refine Qol (Kq a) Ht (zD a:W).toNat 0 (λb g=> [(4,.i g),(5,.i (b:W))]) [4,5] (λd=> [(4,.i d)]) [4,5] (λb g=>0<=g/\g<10^b) (λd=>0<=d) wf0 ⟨(by decide),(by decide)⟩ (λb g O U=>?_) (λb g O U=>?_) (λd h=>?_)
 ·have e:=U.2.1;have f:=U.2.2;have a1:=XR a (b:W);have o:=TG (c:=Jl a (b:W)) e f (by omega);refine Qa<|sn [0,2,3,4,5,12] [] (pe 3 (zB ((b:W)<(zD a:W))) p0)<|ckT<|Qd<|Qa<|Qp<|Qa<|Qa<|mz [(12,.b H)] [] [] []<|jn [(24,.b (decide (Jl a (b:W)<(48:W))|| decide (Jl a (b:W)>(57:W))))] [12] [] [] (decide (Jl a (b:W)<(48:W))) (λj=>?_) (λj=>?_) ?_
  ·have q:=uL j;refine rn [0,2,3,4,5,24] [] (px (Df (i:=(b:W)) (n:=(zD a)) (by omega)) (pt 3 j p0)) ?_;exact zA (by rw[j]<;>kernel_rfl)
  ·have q:=uI j;refine rn [0,2,3,4,5,24] [] (px (Df (i:=(b:W)) (n:=(zD a)) (by omega)) (pf 3 j (px (Df (i:=(b:W)) (n:=(zD a)) (by omega)) p0))) ?_;exact zA (by rw[j]<;>kernel_rfl)
  refine ck (decide (Jl a (b:W)<(48:W))|| decide (Jl a (b:W)>(57:W))) (λp=>?_) (λp=>?_)
  ·refine su [] [24] [] [] p0<|Qc ?_
   have r:(K0 (Kq a) Ht (zD a:W).toNat 0 0)= .ret (0,D):=XC O (Xg p rfl) U.1;exact pz [] (show Xn a=_ from Qi l (Pq r)) (λz=> .tup [(D, [.i z.1]),(D, [.b z.2])])
  have s:(decide (Jl a (b:W)<(48:W)))=D:=CG p;have w:=uI s;have t:(decide (Jl a (b:W)>(57:W)))=D:=FW p;have x:=uI t;refine Qd<|rn [0,2,3,4,5] [] (px (Df (i:=(b:W)) (n:=(zD a)) (by omega)) p0) ?_
  refine qn [0,2,3,4,5] [] (pw 1 b p0) ?_;exact xw (vA vB (vA vB (vA vB (10*g)+vA vB (Jl a (b:W)))-48)) ⟨Jd O (Qi p rfl) U.1,(by first | (have k:=o (by omega) (by omega);rw[k.1];first | exact k.2.1 | exact k.2.2)),(by first | (have k:=o (by omega) (by omega);rw[k.1];first | exact k.2.1 | exact k.2.2))⟩
 ·have e:=U.2.1;have f:=U.2.2;exact Qa<|sn [0,2,3,4,5,12] [] (pe 3 (zC ((b:W)<(zD a:W))) p0)<|ckF<|Xa<|xw g ⟨Hn O rfl U.1,by first|omega|(simp only[zK];omega)⟩
 have u:=h.2;refine Qa<|Qa<|jn [(40,.b (decide (d>(1000000000:W))|| (!((Q7 d).toList==a.toList))))] [0] [] [] (decide (d>(1000000000:W))) (λm=>?_) (λm=>?_) ?_
 ·refine rn [2,3,4,40] [] (pt 1 m p0) ?_;exact zA (by rw[m]<;>kernel_rfl)
 ·have a2:=uI m;have a3:=Kb (n:=d) (by omega);refine rn [2,3,4,40] [] (pf 1 m (pc 4 (W4 d (by omega)) p0)) ?_;exact zA (by rw[m]<;>kernel_rfl)
 refine ck (decide (d>(1000000000:W))|| (!((Q7 d).toList==a.toList))) (λv=>?_) (λv=>?_)
 ·exact sn [2,3,4] [] p0<|Qc<|pz [] (show Xn a=_ from Qi l (Vx h.1 (Xg v rfl))) (λz=> .tup [(D, [.i z.1]),(D, [.b z.2])])
 exact Qd<|sn [2,3] [] p0<|Qc<|pz [] (show Xn a=_ from Qi l (Vx h.1 (Qi v rfl))) (λz=> .tup [(D, [.i z.1]),(D, [.b z.2])])
def Qy(a:W):K:=(bif (!(Xv a 1 9)) then⟨#[63]⟩ else(nth [(⟨#[97,108,108]⟩:K),⟨#[104,97,115]⟩,⟨#[101,113]⟩,⟨#[108,116]⟩,⟨#[110,111,116]⟩,⟨#[97,110,100]⟩,⟨#[111,114]⟩,⟨#[105,110]⟩,⟨#[108,105,110,107,101,100]⟩] (vA vB (a-1)).toNat))
theorem Rq(a:W):ACalls vC 344 [.i a] (.s (Qy a)):=by
 refine en func344 λ_ _ _=>sn [0,2] [] p0 ?_
 refine tn [0,2,3] [] p0<|Qa<|tu [(2,.s ⟨#[]⟩),(3,.o 256 [(⟨#[97,108,108]⟩:K),⟨#[104,97,115]⟩,⟨#[101,113]⟩,⟨#[108,116]⟩,⟨#[110,111,116]⟩,⟨#[97,110,100]⟩,⟨#[111,114]⟩,⟨#[105,110]⟩,⟨#[108,105,110,107,101,100]⟩]),(7,.b (!(Xv a 1 9)))] [] [] [] (pc 1 (Jz a 1 9) p0)<|ck (!(Xv a 1 9)) (λd=>?_) (λd=>?_)
 ·exact sn [0,2,3] [] p0<|Qc<|ps [] (Xg d rfl)
 have b:(Xv a 1 9)=H:=Z5 d;have c:=Kr.1 b;have c:=Kr.1 b;have f:=IntWalk.i64_in (a-1) (by have:=Kr.1 b;omega);refine Qd<|wT 3 0 (.own H 256) [(⟨#[97,108,108]⟩:K),⟨#[104,97,115]⟩,⟨#[101,113]⟩,⟨#[108,116]⟩,⟨#[110,111,116]⟩,⟨#[97,110,100]⟩,⟨#[111,114]⟩,⟨#[105,110]⟩,⟨#[108,105,110,107,101,100]⟩] (λg h=>?_)
 have e:=ng [(⟨#[97,108,108]⟩:K),⟨#[104,97,115]⟩,⟨#[101,113]⟩,⟨#[108,116]⟩,⟨#[110,111,116]⟩,⟨#[97,110,100]⟩,⟨#[111,114]⟩,⟨#[105,110]⟩,⟨#[108,105,110,107,101,100]⟩] (vA vB (a-1)).toNat (by simp only[List.length_cons,List.length_nil];omega);exact sn [2] [] (pG 3 (vA vB (a-1)) e p0)<|Qc<|ps [] (Qi d rfl)
def X6(a:W):K:=(bif (!(Q8 a 1 9)) then⟨#[63]⟩ else(nth ([⟨#[]⟩,⟨#[97,108,108]⟩,⟨#[104,97,115]⟩,⟨#[101,113]⟩,⟨#[108,116]⟩,⟨#[110,111,116]⟩,⟨#[97,110,100]⟩,⟨#[111,114]⟩,⟨#[105,110]⟩,⟨#[108,105,110,107,101,100]⟩]:Z) a.toNat))
theorem Rr(a:W):ACalls vC 328 [.i a] (.s (X6 a)):=by
 refine en func328 λ_ _ _=>sn [0,2] [] p0 ?_
 refine Qa<|tn [0,2,5] [] (pc 1 (Yw a 1 9) p0)<|ck (!(Q8 a 1 9)) (λd=>?_) (λd=>?_)
 ·exact tu [(2,.s ⟨#[63]⟩)] [] [] [] p0<|Qc<|ps [] (Xg d rfl)
 have b:(Q8 a 1 9)=H:=Z5 d;have c:=Vb.1 b;have c:=Vb.1 b;refine Qd ?_;have e:=ng ([⟨#[]⟩,⟨#[97,108,108]⟩,⟨#[104,97,115]⟩,⟨#[101,113]⟩,⟨#[108,116]⟩,⟨#[110,111,116]⟩,⟨#[97,110,100]⟩,⟨#[111,114]⟩,⟨#[105,110]⟩,⟨#[108,105,110,107,101,100]⟩]:Z) a.toNat (by simp only[List.length_cons,List.length_nil];omega);exact tu [(2,.s (nth ([⟨#[]⟩,⟨#[97,108,108]⟩,⟨#[104,97,115]⟩,⟨#[101,113]⟩,⟨#[108,116]⟩,⟨#[110,111,116]⟩,⟨#[97,110,100]⟩,⟨#[111,114]⟩,⟨#[105,110]⟩,⟨#[108,105,110,107,101,100]⟩]:Z) a.toNat))] [0] [] [] (pG 2 a e p0)<|Qc<|ps [] (Qi d rfl)
def H6(line:K)(a:E)(_:uE):Rd (Z×A) (uE) (uE):=(bif (!(Xv (vA vB (Jl line (a:W))) 32 126)) then(.ret ([],D)) else(.next ()))
def By(_:E)(_:uE):uE:=()
def X0(line:K):Z×A:=(bif decide ((zD line:W)>(600:W)) then([],D) else(Out.on (K0 (H6 line) By (zD line:W).toNat 0 ()) (λ_=>(bif decide (((Vj line).length:W)>(24:W)) then([],D) else((Vj line),H)))))
theorem JL(line:K):ACalls vC 298 [.s line] (.tup [(D, [.o 0 (((X0 line)).1)]),(D, [.b (((X0 line)).2)])]):=by
 refine en func298 λ_ _ _=>sn [0,2,3] [] p0 ?_
 refine Qa<|tn [0,2,3,8] [] p0<|ck (decide ((zD line:W)>(600:W))) (λc=>?_) (λc=>?_)
 ·have m:=uL c;refine tu [(2,.e 0),(3,.b D)] [] [] [] p0<|opn [(D,2,0,H,384000,1)] ?_
  exact Qc<|pz [] (show X0 line=_ from Xg c rfl) (λz=> .tup [(D, [.o 0 z.1]),(D, [.b z.2])])
 have m:=uI c;refine Qd<|Qa<|tu [(2,.e 0),(3,.b D),(10,.i (zD line:W)),(11,.i 0)] [] [] [] p0<|stT 0 0 line (λs=>?_)
 refine Qol (H6 line) By (zD line:W).toNat () (λa _=> [(11,.i (a:W))]) [11] (λ_=> []) [10,11] (λa _=>∀j:E,j<a->Jl line (j:W)<=126) (λ_=>∀j:E,j<zD line->Jl line (j:W)<=126) wf0 (by(intro j f;omega)) (λa t O U=>?_) (λa t O U=>?_) (λu d=>?_)
 ·have b:=U.2;have o:=XR line (a:W);have g:=Qo2 o;refine su [(12,.b H)] [] [] [] (pe 0 (zB ((a:W)<(zD line:W))) p0)<|Qa<|ckT<|Qd<|Qa<|Qp<|sn [0,2,3,4,10,11] [] p0<|tn [0,2,3,10,11,19] [] (px (Df (i:=(a:W)) (n:=(zD line)) (by omega)) (pc 4 (Jz (vA vB (Jl line (a:W))) 32 126) p0))<|ck (!(Xv (vA vB (Jl line (a:W))) 32 126)) (λh=>?_) (λh=>?_)
  ·have e:(Xv (vA vB (Jl line (a:W))) 32 126)=D:=V1 h;refine tu [] [12] [] [] p0<|opn [(D,2,0,H,384000,1)] ?_
   refine Qc ?_;have p:(K0 (H6 line) By (zD line:W).toNat 0 ())= .ret ([],D):=XC O (Xg h rfl) U.1;exact pz [] (show X0 line=_ from Qi c (Pq p)) (λz=> .tup [(D, [.o 0 z.1]),(D, [.b z.2])])
  have e:(Xv (vA vB (Jl line (a:W))) 32 126)=H:=Z5 h;have k:=Kr.1 e;have k:=Kr.1 e;refine Qd<|qu [(11,.i ((a+1:E):W))] [11,12] [] [] (pw 0 a p0) ?_
  exact xw () ⟨Jd O (Qi h rfl) U.1,(by(intro j f;rcases Nat.lt_succ_iff_lt_or_eq.1 f with f | rfl;exact b j f;first | exact(g ‹_›).2 | (apply(g _).2;simp_all)))⟩
 ·have b:=U.2;exact sn [0,2,3,10,11,12] [] (pe 0 (zC ((a:W)<(zD line:W))) p0)<|Qa<|ckF<|Xa<|xw () ⟨Hn O rfl U.1,by(intro j f;first | exact b j (by omega) | (simp_all;done))⟩
 have q:=d.2;refine sn [2,3,5] [] (pc 1 (AD line (by omega) (Qk9 (by assumption))) p0)<|Qa<|tn [2,3,5,25] [] (pl 1 (Vj line) p0)<|ck (decide (((Vj line).length:W)>(24:W))) (λl=>?_) (λl=>?_)
 ·have r:=uL l;refine tu [(5,.o 1408 (Vj line))] [0] [] [] p0<|opn [(D,2,0,H,384000,1)] ?_
  exact Qc<|pz [] (show X0 line=_ from Qi c (Vx d.1 (Xg l rfl))) (λz=> .tup [(D, [.o 0 z.1]),(D, [.b z.2])])
 have r:=uI l;exact Qd<|tu [(2,.o 1408 (Vj line)),(3,.b H)] [0,2,3] [] [] p0<|Qc<|pz [] (show X0 line=_ from Qi c (Vx d.1 (Qi l rfl))) (λz=> .tup [(D, [.o 0 z.1]),(D, [.b z.2])])
def Wc(line:K)(a:E)(b:Z×W):Rd (Z×A) (Z×W) Z:=(bif (decide ((a:W)<(zD line:W))&&(decide (Jl line (a:W)<(32:W))|| decide (Jl line (a:W)>(126:W)))) then(.ret ([],D)) else(bif (decide ((a:W)<(zD line:W))&&(Jl line (a:W) !=(32:W))) then(.next (b.1,b.2)) else(bif decide (b.2<(a:W)) then(.next (b.1++ [(ByteArray.extract line b.2.toNat (a:W).toNat)],((a+1:E):W))) else(.next (b.1,((a+1:E):W))))))
def Uf(_:E)(a:Z×W):Z:=a.1
def Qb(line:K):Z×A:=(bif decide ((zD line:W)>(600:W)) then([],D) else(Out.on (K0 (Wc line) Uf ((zD line:W)+1).toNat 0 ([],0)) (λa=>(bif decide ((a.length:W)>(24:W)) then([],D) else(a,H)))))
theorem Ng(line:K):ACalls vC 230 [.s line] (.tup [(D, [.o 0 (((Qb line)).1)]),(D, [.b (((Qb line)).2)])]):=by
 refine en func230 λ_ _ _=>sn [0,2,3] [] p0 ?_
 refine tn [0,2,3,4] [] p0<|Qa<|tu [(2,.e 0),(3,.b D),(4,.one (.slc (.own H 448) 1 [])),(10,.b (decide ((zD line:W)>(600:W))))] [] [] [] p0<|ck (decide ((zD line:W)>(600:W))) (λl=>?_) (λl=>?_)
 ·exact sn [0,2,3,4] [] p0<|Qc<|pz [] (show Qb line=_ from Xg l rfl) (λz=> .tup [(D, [.o 0 z.1]),(D, [.b z.2])])
 have a5:=uI l;refine Qd<|sn [0,2,3,4,5] [] p0<|Qa<|tn [0,2,3,4,5,6] [] p0<|mz [(5,.i 0),(6,.i 0)] [10] [] []<|stT 0 0 line (λa6=>?_)
 refine Qol (Wc line) Uf ((zD line:W)+1).toNat ([],0) (λb c=> [(4,.o 147203 c.1),(5,.i c.2),(6,.i (b:W))]) [4,5,6] (λm=> [(4,.o 147353 m)]) [0,4,5,6] (λb c=>zF c.1<=b/\0<=c.2/\c.2<=(b:W)/\∀y,y∈c.1->zD y<=600) (λm=>∀x,x∈m->zD x<=600) (wsf [(448,147203)]) ⟨(by simp),(by first | omega | simp),(by first | omega | simp),(by first | omega | simp)⟩ (λb c O U=>?_) (λb c O U=>?_) (λm e=>?_)
 ·have f:=U.2.1;have g:=U.2.2.1;have h:=U.2.2.2.1;have a:=U.2.2.2.2;refine Qa<|su [(15,.b H)] [] [] [] (pe 3 (zB ((b:W)<=(zD line:W))) p0)<|ckT<|Qd<|Qa<|Qp<|Qa<|Qa<|jn [(33,.b (decide ((b:W)<(zD line:W))&&(decide (Jl line (b:W)<(32:W))|| decide (Jl line (b:W)>(126:W)))))] [15] [] [] (decide ((b:W)<(zD line:W))) (λd=>?_) (λd=>?_) ?_
  ·have a7:=uL d;refine X4 (decide (Jl line (b:W)<(32:W))) (λj=>?_) (λj=>?_)
   ·have s:=uL j;refine rn [0,2,3,4,5,6,33] [] (pt 3 d (px (Df (i:=(b:W)) (n:=(zD line)) (by omega)) (pt 8 j p0))) ?_;exact zA (by rw[d,j]<;>kernel_rfl)
   have s:=uI j;refine rn [0,2,3,4,5,6,33] [] (pt 3 d (px (Df (i:=(b:W)) (n:=(zD line)) (by omega)) (pf 8 j (px (Df (i:=(b:W)) (n:=(zD line)) (by omega)) p0)))) ?_;exact zA (by rw[d,j]<;>kernel_rfl)
  ·refine rn [0,2,3,4,5,6,33] [] (pf 3 d p0) ?_;exact zA (by rw[d]<;>kernel_rfl)
  refine ck (decide ((b:W)<(zD line:W))&&(decide (Jl line (b:W)<(32:W))|| decide (Jl line (b:W)>(126:W)))) (λq=>?_) (λq=>?_)
  ·refine sn [0,2,3,4,5,6] [] p0<|Qc ?_
   have t:(K0 (Wc line) Uf ((zD line:W)+1).toNat 0 ([],0))= .ret ([],D):=XC O (Xg q rfl) U.1;exact pz [] (show Qb line=_ from Qi l (Pq t)) (λz=> .tup [(D, [.o 0 z.1]),(D, [.b z.2])])
  refine Qd<|Qa<|Qa<|jn [(44,.b (decide ((b:W)<(zD line:W))&&(Jl line (b:W) !=(32:W))))] [33] [] [] (decide ((b:W)<(zD line:W))) (λo=>?_) (λo=>?_) ?_
  ·have a8:=uL o;refine rn [0,2,3,4,5,6,44] [] (pt 3 o (px (Df (i:=(b:W)) (n:=(zD line)) (by omega)) p0)) ?_;exact zA (by rw[o]<;>kernel_rfl)
  ·refine rn [0,2,3,4,5,6,44] [] (pf 3 o p0) ?_;exact zA (by rw[o]<;>kernel_rfl)
  refine ck (decide ((b:W)<(zD line:W))&&(Jl line (b:W) !=(32:W))) (λp=>?_) (λp=>?_)
  ·have u:(decide ((b:W)<(zD line:W)))=H:=MW p;have a1:=uL u;have v:((Jl line (b:W) !=(32:W)))=H:=CF p;have a2:=P8 v;refine Xa<|rn [0,2,3,4,5,6] [] (pw 1 b p0) ?_
   exact xw (c.1,c.2) ⟨Jd O (Qi q (Xg p rfl)) U.1,by first|omega|(simp;omega) | simp,(by first|omega|(simp;omega) | exact a | (intro y hy;rcases zS.1 hy with hy | hy;exact a y hy;rw[zP.1 hy,ByteArray.size_extract];omega)),(by first|omega|(simp;omega) | exact a | (intro y hy;rcases zS.1 hy with hy | hy;exact a y hy;rw[zP.1 hy,ByteArray.size_extract];omega)),(by first|omega|(simp;omega) | exact a | (intro y hy;rcases zS.1 hy with hy | hy;exact a y hy;rw[zP.1 hy,ByteArray.size_extract];omega))⟩
  refine Qd<|Qa<|sn [0,2,3,4,5,6,47] [] p0<|ck (decide (c.2<(b:W))) (λr=>?_) (λr=>?_)
  ·have w:=uL r;refine wT 4 0 (.own H 147203) c.1 (λa3 a4=>?_);refine qu [(4,.one (.slc (.own H 3456) 1 ((eL c.1)++ [[.s (ByteArray.extract line c.2.toNat (b:W).toNat)]])))] [4,44] [] [] (px (Gt (lo:=c.2) (hi:=(b:W)) (n:=(zD line)) (⟨by omega,by omega,by omega⟩)) (pa c.1 [(ByteArray.extract line c.2.toNat (b:W).toNat)] p0)) ?_;refine eqn [(4,.o 3456 (c.1++ [(ByteArray.extract line c.2.toNat (b:W).toNat)]))] [4] [] [] (by rw[show((eL c.1)++ [[.s (ByteArray.extract line c.2.toNat (b:W).toNat)]])=(eL (c.1++ [(ByteArray.extract line c.2.toNat (b:W).toNat)])) from Jg rfl (rfl)]<;>kernel_rfl) ?_;refine rn [0,2,3,4,5,6] [] (pw 1 b p0) ?_;refine qn [0,2,3,4,5,6] [] (pw 1 b p0) ?_;exact zL (c.1++ [(ByteArray.extract line c.2.toNat (b:W).toNat)],((b+1:E):W)) (zQ (wsf [(3456,147203)]) ⟨Jd O (Qi q (Qi p (Xg r rfl))) U.1,by first|omega|(simp;omega) | simp,(by first|omega|(simp;omega) | exact a | (intro y hy;rcases zS.1 hy with hy | hy;exact a y hy;rw[zP.1 hy,ByteArray.size_extract];omega)),(by first|omega|(simp;omega) | exact a | (intro y hy;rcases zS.1 hy with hy | hy;exact a y hy;rw[zP.1 hy,ByteArray.size_extract];omega)),(by first|omega|(simp;omega) | exact a | (intro y hy;rcases zS.1 hy with hy | hy;exact a y hy;rw[zP.1 hy,ByteArray.size_extract];omega))⟩)
  have w:=uI r;refine Qd<|qn [0,2,3,4,5,6] [] (pw 1 b p0) ?_
  refine qu [(5,.i ((b+1:E):W)),(6,.i ((b+1:E):W))] [5,6,44] [] [] (pw 1 b p0) ?_;exact xw (c.1,((b+1:E):W)) ⟨Jd O (Qi q (Qi p (Qi r rfl))) U.1,by first|omega|(simp;omega) | simp,(by first|omega|(simp;omega) | exact a | (intro y hy;rcases zS.1 hy with hy | hy;exact a y hy;rw[zP.1 hy,ByteArray.size_extract];omega)),(by first|omega|(simp;omega) | exact a | (intro y hy;rcases zS.1 hy with hy | hy;exact a y hy;rw[zP.1 hy,ByteArray.size_extract];omega)),(by first|omega|(simp;omega) | exact a | (intro y hy;rcases zS.1 hy with hy | hy;exact a y hy;rw[zP.1 hy,ByteArray.size_extract];omega))⟩
 ·have f:=U.2.1;have g:=U.2.2.1;have h:=U.2.2.2.1;have a:=U.2.2.2.2;exact Qa<|su [(15,.b D)] [] [] [] (pe 3 (zC ((b:W)<=(zD line:W))) p0)<|ckF<|Xa<|zL c.1 (zQ (wsf [(147203,147353)]) ⟨Hn O rfl U.1,by first | omega | exact a⟩)
 have V:=e.2;refine Qa<|sn [2,3,4,59] [] (pl 1 m p0)<|ck (decide ((m.length:W)>(24:W))) (λk=>?_) (λk=>?_)
 ·exact tn [2,3,4] [] p0<|Qc<|pz [] (show Qb line=_ from Qi l (Vx e.1 (Xg k rfl))) (λz=> .tup [(D, [.o 0 z.1]),(D, [.b z.2])])
 exact Qd<|tn [2,3] [] p0<|Qc<|pz [] (show Qb line=_ from Qi l (Vx e.1 (Qi k rfl))) (λz=> .tup [(D, [.o 0 z.1]),(D, [.b z.2])])
theorem Gi(x:Qw):Xe x=Qm x:=by
 unfold Xe Qm Hs Uq;rw[GI,Ay]
theorem Qhy(f:Y4):Kp f=Y6 f:=by
 unfold Kp Y6;rw[VY]
theorem TT(f:Y4):(Y6 f).size<=20:=by
 unfold Y6;cases a:Qz f.1 with
 | false=>exact zT _
 | true=>
   have b:f.1.size=1:=by
    unfold Qz at a;simp only[zG,uP] at a;omega
   simp only[zZ,uB];have c:(⟨#[102,105,101,108,100,32]⟩:K).size=6:=rfl;have d:(⟨#[32,105,110,116]⟩:K).size=4:=rfl;have e:(⟨#[32,115,116,114,105,110,103]⟩:K).size=7:=rfl;cases(f.2==(1:W)) with
   | true=>simp only[uC,zE];omega
   | false=>
     cases(f.2==(2:W)) with
     | true=>simp only[uC,uB,zE];omega
     | false=>exact zT _
theorem Sk{x:Qw}(h:Qm x=H):Xr x.1=H:=by
 unfold Qm at h;simp only[zG] at h;exact h.1
theorem YC{α:Type}{l:I α}{p:E->α->A}{f:E->α->uE->Rd A uE uE}{e:E->uE->uE}{b:A}(g:∀k a u,f k a u=bif p k a then .ret D else .next ())(h:Out.on (X8 f e l 0 ()) (λ_=>b)=H):b=H/\∀(i:E) a,l[i]? =uA a->p i a=D:=by
 cases c:X8 f e l 0 () with
 | brk t=>
   rw[c] at h;refine⟨h,λi a hi=>?_⟩;have:=XE (λk a t=>by rw[g];cases p k a<;>simp) c i a hi;rw[yF,g] at this;cases d:p i a with
   | false=>rfl
   | true=>rw[d] at this;simp at this
 | ret r=>
   rw[c] at h;obtain rfl:r=H:=h;exfalso
   have key:∀(l:I α) k,X8 f e l k ()≠ .ret H:=by
    intro l
    induction l with
    | nil=>intro k h;simp[X8] at h
    | cons a l j=>
      intro k h;simp only[X8,g] at h;cases d:p k a with
      | false=>rw[d] at h;exact j _ h
      | true=>rw[d] at h;simp at h
   exact key _ _ c
theorem bo{a b:A}(h:(a|| b)=D):a=D/\b=D:=by cases a<;>cases b<;>simp_all
theorem bn{a:A}(h:(!a)=D):a=H:=by cases a<;>simp_all
theorem IA{s:Yl}(h:Xr s=H):Jw s.1=H/\s.2.1.length<=12/\(1<=s.2.2/\s.2.2<=61)/\∀f,f∈s.2.1->Ji s.1 f=H:=by
 unfold Xr at h;obtain⟨a,b⟩:=YC (λ_ _ _=>rfl) h;simp only[zG,uS] at a;refine⟨a.1,by omega,Kr.1 a.2.2,λf c=>?_⟩;obtain⟨i,hi⟩:=zY c;exact bn (bo (b i f hi)).1
theorem YD{s:I Y4}(h:Jw s=H):s.length<=5/\∀f,f∈s->Qz f.1=H/\(f.2=1\/f.2=2):=by
 unfold Jw at h;obtain⟨e,g⟩:=YC (λ_ _ _=>rfl) h;refine⟨by have:=uL e;omega,λf j=>?_⟩;obtain⟨i,hi⟩:=zY j;have:=bo (g i f hi);refine⟨bn this.1, ?_⟩;by_cases c:f.2=1
 . exact .inl c
 refine .inr (xH λk=>?_);have d:=this.2;have a:(f.2 !=(1:W))=H:=by simpa using c
 have b:(f.2 !=(2:W))=H:=by simpa using k
 rw[a,b] at d;simp at d
theorem Wd{a b:K}(h:(a.toList==b.toList)=H):a=b:=uL (toList_inj.symm.trans h)
theorem Qo9{s:I Y4}{n:K}(h:A5 s n≠0):∃f,f∈s/\f.1=n:=by
 refine xH λd=>h ?_
 have key:∀(l:I Y4) k,(∀f,f∈l->f.1≠n)->∃u,X8 (Bd n) Dx l k ()= .brk u:=by
  intro l
  induction l with
  | nil=>intro k _;exact⟨_,rfl⟩
  | cons a l g=>
    intro k c
    have ha:(a.1.toList==n.toList)=D:=by
     cases i:(a.1.toList==n.toList) with
     | false=>rfl
     | true=>exact absurd (Wd i) (c a (zH ..))
    simp only[X8];unfold Bd;rw[ha];exact g _ λf b=>c f (zM _ b)
 unfold A5;obtain⟨u,j⟩:=key s 0 λf b e=>d ⟨f,b,e⟩
 rw[j];rfl
theorem Qcf{α:Type}[DecidableEq α]:∀{l m:I α},l.Nodup->(∀x,x∈l->x∈m)->l.length<=m.length
 | [],_,_,_=>zT _
 | a::l,m,hn,hs=>by
   have ha:=hs a (zH ..);have b:=List.nodup_cons.1 hn;have:=Qcf (l:=l) (m:=m.erase a) b.2 λx c=>(List.mem_erase_of_ne (λe=>b.1 (by rw[←e];exact c))).2 (hs x (zM _ c))
   rw[List.length_erase_of_mem ha] at this;have:=yU ha;simp only[List.length_cons];omega
def FBd(f:Yn):Prop:=(1<=f.1/\f.1<=60)/\(0<=f.2.1/\f.2.1<=2)/\(0<=f.2.2.2.1/\f.2.2.2.1<=60)/\f.2.2.2.2.length<=5/\∀a,a∈f.2.2.2.2->Qz a.1=H/\Xd a.2=H/\a.2.1≠0
theorem Qhz:∀(l:I K),(∀(i:E) a,l[i]? =uA a->0<i->bl (nth l (i-1)) a=H)->l.Nodup:=λl h=>by
 have f:l.Pairwise (λa b=>bl a b=H):=by
  induction l with
  | nil=>exact .nil
  | cons a l g=>
    have j:∀(i:E) x,l[i]? =uA x->0<i->bl (nth l (i-1)) x=H:=λi x hi k=>by
     have:=h (i+1) x (by simpa using hi) (by omega);rw[show i+1-1=(i-1)+1 by omega] at this;simpa [nth] using this
    have d:=g j;refine List.pairwise_cons.2 ⟨λx hx=>?_,d⟩;cases l with
    | nil=>cases hx
    | cons b l=>
      have c:bl a b=H:=by simpa [nth] using h 1 b (by simp) (by omega)
      rcases yC.1 hx with rfl | hx
      . exact c
      exact GB c ((List.pairwise_cons.1 d).1 x hx)
 exact f.imp λ{a b} c e=>by subst e;rw[Qmy] at c;cases c
theorem Qlr{s:I Y4}{f:Yn}(h:Ji s f=H):FBd f:=by
 unfold Ji at h;obtain⟨c,y⟩:=YC (λ_ _ _=>rfl) h;simp only[zG] at c
 have r:∀(i:E) a,f.2.2.2.2[i]? =uA a->Jf s a.1 a.2=H/\(0<i->bl (nth f.2.2.2.2 (i-1)).1 a.1=H):=λi a hi=>by
  have k:=y i a hi;cases o:decide (((i:E):W)>(0:W)) with
  | false=>
    rw[o] at k;exact⟨bn k,λt=>absurd (uI o) (by omega)⟩
  | true=>
    rw[o] at k;have u:=bo k;refine⟨bn u.2,λ_=>?_⟩;have v:=bn u.1;rw[show zO (((i:E):W)-1)=i-1 by omega] at v;exact v
 have d:=YD c.2.2.2
 have w:∀a,a∈f.2.2.2.2->(∃g,g∈s/\g.1=a.1)/\Xd a.2=H/\a.2.1≠0:=λa ha=>by
  obtain⟨i,hi⟩:=zY ha;have b:=(r i a hi).1;unfold Jf at b;simp only[zG,bne_iff_ne,ne_eq,uP] at b;exact⟨Qo9 (b.2.2▸b.2.1),b.1,b.2.1⟩
 have j:f.2.2.2.2.length<=5:=by
  have p:(f.2.2.2.2.map (·.1)).Nodup:=Qhz _ λi a hi t=>by
   rw[List.getElem?_map,Option.map_eq_some_iff] at hi;obtain⟨x,n,rfl⟩:=hi;have z:=(r i x n).2 t;have V:=(yB.1 n).1
   rw[show nth (f.2.2.2.2.map (·.1)) (i-1)=(nth f.2.2.2.2 (i-1)).1 from by
    have e:=Dc (l:=f.2.2.2.2) (i:=i-1) (by omega);unfold nth;rw[yM,List.getElem?_map,e];rfl]
   exact z
  have:=Qcf p (m:=s.map (·.1)) λx n=>by
   obtain⟨a,ha,rfl⟩:=xJ.1 n;obtain⟨⟨g,q,e⟩,_⟩:=w a ha;exact xJ.2 ⟨g,q,e⟩
  rw[yG,yG] at this;omega
 refine⟨Kr.1 c.1, ?_,Kr.1 c.2.2.1,j,λa ha=>?_⟩
 . have:=c.2.1;unfold Wi at this;exact Kr.1 this
 obtain⟨⟨g,q,e⟩,h8⟩:=w a ha;exact⟨e▸(d.2 g q).1,h8⟩
theorem Lx{x:Qw}(h:Qm x=H):x.1.1.length<=5/\x.1.2.1.length<=12/\(1<=x.1.2.2/\x.1.2.2<=61)/\∀f,f∈x.1.2.1->FBd f:=by
 obtain⟨a,b,c,d⟩:=IA (Sk h);exact⟨(YD a).1,b,c,λf e=>Qlr (d f e)⟩
theorem IB{x:Qw}(h:Xe x=H):x.1.1.length<=5/\x.1.2.1.length<=12/\(1<=x.1.2.2/\x.1.2.2<=61)/\∀f,f∈x.1.2.1->FBd f:=Lx ((Gi x).symm.trans h)
theorem AQ(s:K):∀(n k:E) (a:W),0<=a->a<=65520->∃y,K0 (Lr s) Lt n k a= .brk y/\K0 (Fg s) Lu n k a= .brk y/\0<=y/\y<=65520
 | 0,k,a,h0,h1=>⟨a,rfl,rfl,h0,h1⟩
 | n+1,k,a,h0,h1=>by
   have hb:=XR s ((k:E):W);have b:=JD h0 h1 hb.1 hb.2;obtain⟨y,c,d,e⟩:=AQ s n (k+1) _ b.1 b.2;refine⟨y,c, ?_,e⟩;simp only[K0];unfold Fg;rw[Int.mul_comm a 33];exact d
theorem Qcg(s:K):0<=W8 s/\W8 s<=65520:=by
 obtain⟨y,a,_,b⟩:=AQ s (zO (s.size:W)) 0 3 (by decide) (by decide);unfold W8;rw[a];exact b
theorem Qch(s:K):U6 s=W8 s:=by
 obtain⟨y,a,b,_⟩:=AQ s (zO (s.size:W)) 0 3 (by decide) (by decide);unfold U6 W8;rw[a,b]
theorem Qh0(s:K):0<=U6 s/\U6 s<=65520:=by rw[Qch];exact Qcg s
theorem IC{v:Va}(h:Xd v=H)(a:(v.1==(1:W))=H):0<=v.2.1/\v.2.1<=999:=by
 unfold Xd at h;have e:v.1=1:=eq_of_beq a;rw[e] at h;simp only[show((1:W)==0)=D from rfl,show((1:W)==1)=H from rfl,uC,uB,zG] at h;exact Kr.1 h.1
theorem Fi{s:K}(h:Xl s=H):1<=s.size/\s.size<=6:=by
 unfold Xl at h;cases a:K0 (Yb s) Ku (zO (s.size:W)) 0 () with
 | brk t=>rw[a] at h;have:=Kr.1 h;omega
 | ret r=>
   rw[a] at h;obtain rfl:r=H:=h;exfalso
   have key:∀n k,K0 (Yb s) Ku n k ()≠ .ret H:=by
    intro n
    induction n with
    | zero=>intro k h;simp[K0] at h
    | succ n c=>
      intro k h;simp only[K0] at h;unfold Yb at h;cases b:(decide (Jl s ((k:E):W)<(97:W))|| decide (Jl s ((k:E):W)>(122:W))) with
      | true=>rw[b] at h;simp at h
      | false=>rw[b] at h;exact c _ h
   exact key _ _ a
theorem Qh1{v:Va}(h:Xd v=H)(a:(v.1==(2:W))=H):Xl v.2.2=H/\v.2.1=0:=by
 unfold Xd at h;have e:v.1=2:=eq_of_beq a;rw[e] at h;simp only[show((2:W)==0)=D from rfl,show((2:W)==1)=D from rfl,show((2:W)==2)=H from rfl,uC,uB,zG,uP] at h;exact h
open GoD (rd own)
theorem Qre{α:Type}[GoD α]{a b:α}(h:¬a=b):eqb a b=D:=by
 unfold eqb;exact @decide_eq_false _ (_) h
theorem Ti(r:I uG):∀(l:I uG) (acc:E),Lib.decFrom acc (l++r)=(Lib.decFrom acc l).bind (λa=>Lib.decFrom a r)
 | [],acc=>rfl
 | b::l,acc=>by
   simp only[yA,Lib.decFrom];cases Lib.digitVal b with
   | none=>rfl
   | some d=>exact Ti r l _
theorem AS(d:E)(h:d<10):Lib.digitVal (UInt8.ofNat (48+d))=uA d:=by
 have a:(UInt8.ofNat (48+d)).toNat=48+d:=by rw[xG];omega
 unfold Lib.digitVal;rw[a,uH (by omega)]
 congr 1
 omega
theorem Tj:∀n:E,Lib.decFrom 0 (Lib.decDigits n)=uA n:=by
 intro n
 induction n using Nat.strongRecOn with
 | ind n a=>
   by_cases h:n<10
   . rw[Ri h];simp only[Lib.decFrom,AS n h];simp
   rw[WG h,Ti,a (n / 10) (by omega)];simp only[Option.bind_some,Lib.decFrom,AS (n % 10) (Nat.mod_lt _ (by decide))]
   congr 1
   omega
theorem JM:∀n:E,∀b,b∈Lib.decDigits n->48<=b.toNat/\b.toNat<=57:=by
 intro n
 induction n using Nat.strongRecOn with
 | ind n a=>
   intro b hb;by_cases h:n<10
   . rw[Ri h] at hb;have e:=zP.1 hb;rw[e,xG];omega
   rw[WG h] at hb;rcases zS.1 hb with hb | hb
   . exact a (n / 10) (by omega) b hb
   have e:=zP.1 hb;rw[e,xG];omega
theorem AT(n:E):Lib.decDigits n≠ []:=by
 by_cases h:n<10
 . rw[Ri h];simp
 rw[WG h];simp
theorem QB(n:E):Lib.atoi (Lib.decDigits n)=uA (n:W):=by
 have d:=Tj n;have f:=JM n;have g:=AT n;generalize Lib.decDigits n=l at*;cases l with
 | nil=>exact absurd rfl g
 | cons b r=>
   have hb:=f b (by simp)
   have a:(b==45)=D:=by
    rw[uO];intro e;rw[e] at hb;exact absurd hb.1 (by decide)
   have c:(b==43)=D:=by
    rw[uO];intro e;rw[e] at hb;exact absurd hb.1 (by decide)
   simp only[Lib.atoi,a,c,Lib.decNat,List.isEmpty_cons,d];rfl
theorem Qd7(k n:E)(h:n<10^(k+1)):(Lib.decDigits n).length<=k+1:=TF k n h
theorem AU(n:E):Q7 (n:W)=⟨(Lib.decDigits n).toArray⟩:=by
 unfold Q7 Lib.itoa;rw[uK (by omega)];rfl
theorem Cc(n:E):(Q7 (n:W)).data.toList=Lib.decDigits n:=by rw[AU]
def G1(s:K):uW E:=match Lib.atoi s.data.toList with
 | some m=>if m.toNat<=1000000000/\Q7 (m.toNat:W)=s then uA m.toNat else uF
 | none=>uF
theorem JN{s:K}{n:E}(h:n<=1000000000)(e:Q7 (n:W)=s):G1 s=uA n:=by
 subst e;unfold G1;rw[Cc,QB];exact uH ⟨h,rfl⟩
theorem YE{s:K}(h:∀n:E,n<=1000000000->Q7 (n:W)≠s):G1 s=uF:=by
 unfold G1;split
 . rename_i m _;exact uK λa=>h _ a.1 a.2
 rfl
def Qsz:uW E->uJ
 | some n=> .tuple #[.int .i64 n,.bool H]
 | none=> .tuple #[.int .i64 0,.bool D]
def errOk (w : World) : Prop := ∃ tp p, w.var? Tryz.prog "strconv.ErrSyntax" = some #[.iface tp p]
theorem Qtc : Tryz.prog.globalNamed "strconv.ErrSyntax" = some 1 := by kernel_rfl
theorem errOk.keep{w w':uQ}(h:errOk w)(a:Below w.heap.size w w'):errOk w':=by
 obtain⟨b,p,h⟩:=h;exact⟨b,p,Go.Joins.var_stays Qtc h a (yE _)⟩
set_option maxRecDepth 20000 in
theorem AW(w:uQ)(s:K)(hs:s.size<=uD)(ht:tabOk w)(i:errOk w):Calls vC 162 #[.string s] w (Ret w (Qsz (G1 s))):=by
 unfold uD at hs;have HT:=Lib.hid ht;clear ht;have HE:=Lib.hid i;clear i;by_cases a5:10<s.size
 . have a:G1 s=uF:=YE λn hn e=>by
    have h1:=Qd7 9 n (by omega);have h2:s.size=(Lib.decDigits n).length:=by rw[←e,AU];simp[zD]
    omega
   rw[a];clear a;go_enter func162,ntmps162
   go_wp2
   refine bodyPost_ret (v:= .tuple #[.int .i64 0,.bool D]) (by simp[results,results162,go_sem]) rfl ⟨rfl,Below.refl _ _⟩
 cases ha:Lib.atoi s.data.toList with
 | none=>
   have a:G1 s=uF:=YE λn hn e=>by
    rw[←e,Cc,QB] at ha;cases ha
   rw[a];clear a;have o:=Lib.hid ha;clear ha;go_enter func162,ntmps162
   go_wp2_with (go_at_call 201;obtain⟨tp,p,hv⟩:=HE.out;refine(Sh.strconv_Atoi_err_var s (by omega) o.out tp p w hv).mono ?_;clear hv;rintro e1 w1 ⟨N,rfl,hN,_,hb⟩;have HB:=Lib.hid hb;clear hb)
   refine bodyPost_ret (v:= .tuple #[.int .i64 0,.bool D]) (by simp[results,results162,go_sem]) rfl ⟨rfl,HB.out⟩
 | some v=>
   have q:∀n:E,Q7 (n:W)=s->v=(n:W):=λn e=>by
    rw[←e,Cc,QB] at ha;exact(Option.some.inj ha).symm
   have r:=Lib.hid q;clear q;have o:=Lib.hid ha;clear ha;cases j:inR v 0 1000000000
   . have a:G1 s=uF:=YE λn hn e=>by
      have h1:=r.out n e;rw[h1,WF (by omega) (by omega)] at j;cases j
     rw[a];clear a;have HR:=Lib.hid j;clear j;go_enter func162,ntmps162
     go_wp2_with (first | (go_at_call 201;refine(Sh.strconv_Atoi s _ (by omega) o.out w).mono ?_;rintro e1 w1 ⟨rfl,t1,c⟩;have d:Below w.heap.size w w1:=(by rw[c];exact Go.Joins.below_bytesWorld _ _ _ _ (yE _));clear c;have t:=d.size) | (go_at_call 202;refine Vq (w:=w) (GK _ v 0 1000000000 D HR.out) (by go_grown) ?_;intro g2 x f y g;clear f g))
     refine bodyPost_ret (v:= .tuple #[.int .i64 0,.bool D]) (by simp[results,results162,go_sem]) rfl ⟨rfl,(by go_grown)⟩
   have a1:∃n:E,v=(n:W)/\n<=1000000000:=by
    unfold inR at j;simp only[zG,uS] at j;exact⟨v.toNat,by omega,by omega⟩
   obtain⟨n,rfl,hn⟩:=a1;have HR:=Lib.hid j;clear j;have z:I64 (n:W):=by unfold I64;omega
   have V:=Lib.hid z;clear z;by_cases i:Q7 (n:W)=s
   . rw[JN hn i];have a2:=Lib.hid i;clear i;go_enter func162,ntmps162
     go_wp2_with (first | (go_at_call 201;refine(Sh.strconv_Atoi s _ (by omega) o.out w).mono ?_;rintro e1 w1 ⟨rfl,t1,c⟩;have d:Below w.heap.size w w1:=(by rw[c];exact Go.Joins.below_bytesWorld _ _ _ _ (yE _));clear c;have t:=d.size) | (go_at_call 202;refine Vq (w:=w) (GK _ n 0 1000000000 H HR.out) (by go_grown) ?_;intro g2 x f y g;clear f g) | (go_at_call 203;have b:=(λw1 h=>Ll w1 n V.out h);rw[a2.out] at b;refine Vq (w:=w) (b _ (HT.out.keep (by go_grown))) (by go_grown) ?_;clear b;intro g3 a3 k a4 l;clear k l))
     refine bodyPost_ret (v:= .tuple #[.int .i64 n,.bool H]) (by simp[results,results162,go_sem]) rfl ⟨rfl,(by go_grown)⟩
   have a:G1 s=uF:=YE λm hm e=>by
    have h1:=r.out m e;have h2:n=m:=by omega
    exact i (h2▸e)
   rw[a];clear a;generalize hu:Q7 (n:W)=u at*;have HU:=Lib.hid hu;clear hu;have a6:(u.toList==s.toList)=D:=by rw[Qop];exact Qre i
   go_enter func162,ntmps162
   go_wp2_with (first | (go_at_call 201;refine(Sh.strconv_Atoi s _ (by omega) o.out w).mono ?_;rintro e1 w1 ⟨rfl,t1,c⟩;have d:Below w.heap.size w w1:=(by rw[c];exact Go.Joins.below_bytesWorld _ _ _ _ (yE _));clear c;have t:=d.size) | (go_at_call 202;refine Vq (w:=w) (GK _ n 0 1000000000 H HR.out) (by go_grown) ?_;intro g2 x f y g;clear f g) | (go_at_call 203;have b:=(λw1 h=>Ll w1 n V.out h);rw[HU.out] at b;refine Vq (w:=w) (b _ (HT.out.keep (by go_grown))) (by go_grown) ?_;clear b;intro g3 a3 k a4 l;clear k l))
   refine bodyPost_ret (v:= .tuple #[.int .i64 0,.bool D]) (by simp[results,results162,go_sem]) rfl ⟨rfl,(by go_grown)⟩
def Qf(s:K):W×A:=match G1 s with
 | some n=>(n,H)
 | none=>(0,D)
theorem YF{s:K}{n:E}(h:G1 s=uA n):n<=1000000000/\Q7 (n:W)=s:=by
 unfold G1 at h;split at h
 . split at h
   . rename_i a;cases h
     exact a
   cases h
 cases h
section
variable {P:uT}
theorem OH{f:E}(c:Fr P f){s:K}(h:∀w,Good P w->s.size<=uD->Calls P f #[.string s] w (Ret w (Qsz (G1 s)))):ACalls P f [.s s] (.tup [(D, [.i (Qf s).1]),(D, [.b (Qf s).2])]):=by
 refine⟨c,λw i F g p a=>?_⟩;cases a with
 | cons j l=>
   cases l
   obtain⟨rfl,m⟩:=j;refine(h w i m).mono ?_
   rintro e w' ⟨rfl,hb⟩
   refine⟨_,λ_=> [],rfl,hb,λ_=>List.nodup_nil,λk b d=>by simp at d,λk q b d=>by simp at d, ?_⟩;unfold Qf Qsz;split
   . rename_i n o;have:=(YF o).1;exact⟨[_,_],rfl,.cons ⟨_,rfl,rfl,by constructor<;>simp[IntKind.min,IntKind.max,IntKind.bits,IntKind.signed]<;>omega⟩ (.cons ⟨_,rfl,rfl⟩ .nil)⟩
   exact⟨[_,_],rfl,.cons ⟨_,rfl,rfl,by constructor<;>decide⟩ (.cons ⟨_,rfl,rfl⟩ .nil)⟩
end
theorem Au(s:K):ACalls vC 162 [.s s] (.tup [(D, [.i (Qf s).1]),(D, [.b (Qf s).2])]):=OH (by unfold Fr;kernel_rfl) λw a b=>AW w s b (a.tab _ Qsx) (a.err _ Qtc)
open GoE (enc wide)
def X1(v:Va):K:=(bif (!(Xd v)) then⟨#[63]⟩ else(bif (v.1==(1:W)) then(Q7 v.2.1) else(bif (v.1==(2:W)) then v.2.2 else⟨#[45]⟩)))
theorem Nh(v:Va):ACalls vC 303 [.a [.i v.1,.i v.2.1,.s v.2.2]] (.s (X1 v)):=by
 refine en func303 λ_ _ _=>sn [1,2] [1] p0 ?_
 refine Qa<|Qp<|tn [1,2,3] [1] (pc 1 (J0 v) p0)<|ck (!(Xd v)) (λa=>?_) (λa=>?_)
 ·exact tu [(2,.s ⟨#[63]⟩)] [0] [] [] p0<|Qc<|ps [] (Xg a rfl)
 have c:(Xd v)=H:=Z5 a;refine tu [(1,.p 1 0),(2,.s ⟨#[]⟩),(7,.b (v.1==(1:W)))] [0] [(1, [.i v.1,.i v.2.1,.s v.2.2])] [] p0<|ck (v.1==(1:W)) (λb=>?_) (λb=>?_)
 ·have e:=IC c b;have f:=eq_of_beq b;have g:=Kb (n:=v.2.1) (by omega);exact sn [2] [] (pc 2 (Hj v.2.1 (by omega)) p0)<|Qc<|ps [] (Qi a (Xg b rfl))
 refine sn [1,2,14] [1] p0<|ck (v.1==(2:W)) (λd=>?_) (λd=>?_)
 ·exact tn [2] [] p0<|Qc<|ps [] (Qi a (Qi b (Xg d rfl)))
 exact Qd<|tn [2] [] p0<|Qc<|ps [] (Qi a (Qi b (Qi d rfl)))
def Zk(v:Va):K:=(bif (!(X2 v)) then⟨#[63]⟩ else(bif (v.1==(1:W)) then(Q7 v.2.1) else(bif (v.1==(2:W)) then v.2.2 else⟨#[45]⟩)))
theorem C4(v:Va):ACalls vC 278 [.a [.i v.1,.i v.2.1,.s v.2.2]] (.s (Zk v)):=by
 refine en func278 λ_ _ _=>sn [1,2] [1] p0 ?_
 refine Qa<|Qp<|tn [1,2,3] [1] (pc 1 (Zg v) p0)<|ck (!(X2 v)) (λa=>?_) (λa=>?_)
 ·exact tu [(2,.s ⟨#[63]⟩)] [0] [] [] p0<|Qc<|ps [] (Xg a rfl)
 have c:(X2 v)=H:=Z5 a;refine tu [(1,.p 1 0),(2,.s ⟨#[]⟩),(7,.b (v.1==(1:W)))] [0] [(1, [.i v.1,.i v.2.1,.s v.2.2])] [] p0<|ck (v.1==(1:W)) (λb=>?_) (λb=>?_)
 ·have e:=IC c b;have f:=eq_of_beq b;have g:=Kb (n:=v.2.1) (by omega);exact sn [2] [] (pc 2 (W4 v.2.1 (by omega)) p0)<|Qc<|ps [] (Qi a (Xg b rfl))
 refine sn [1,2,14] [1] p0<|ck (v.1==(2:W)) (λd=>?_) (λd=>?_)
 ·exact tn [2] [] p0<|Qc<|ps [] (Qi a (Qi b (Xg d rfl)))
 exact Qd<|tn [2] [] p0<|Qc<|ps [] (Qi a (Qi b (Qi d rfl)))
def Kv(n:W):Va:=(1,n,⟨#[]⟩)
theorem CO(n:W):ACalls vC 340 [.i n] (.a [.i ((Kv n).1),.i ((Kv n).2.1),.s ((Kv n).2.2)]):=by
 refine en func340 λ_ _ _=>sn [0,2] [2] p0 ?_
 exact tn [2] [2] p0<|Qc<|pz [] (show Kv n=(1,n,⟨#[]⟩) from rfl) (λz=> .a [.i z.1,.i z.2.1,.s z.2.2])
def Jk(a:K):Va:=(2,0,a)
theorem JO(a:K):ACalls vC 341 [.s a] (.a [.i ((Jk a).1),.i ((Jk a).2.1),.s ((Jk a).2.2)]):=by
 refine en func341 λ_ _ _=>sn [0,2] [2] p0 ?_
 exact tn [2] [2] p0<|Qc<|pz [] (show Jk a=(2,0,a) from rfl) (λz=> .a [.i z.1,.i z.2.1,.s z.2.2])
def Qx(a:K):Va×A:=(bif (Qf a).2 then(bif (!(Xd (Kv ((Qf a).1)))) then((0,0,⟨#[]⟩),D) else((Kv ((Qf a).1)),H)) else(bif (!(a.toList==(⟨#[45]⟩:K).toList)) then(bif (!(Xd (Jk a))) then((0,0,⟨#[]⟩),D) else((Jk a),H)) else(bif (!(Xd (0,0,⟨#[]⟩))) then((0,0,⟨#[]⟩),D) else((0,0,⟨#[]⟩),H))))
theorem Pf(a:K):ACalls vC 297 [.s a] (.tup [(H, [.i ((((Qx a)).1).1),.i ((((Qx a)).1).2.1),.s ((((Qx a)).1).2.2)]),(D, [.b (((Qx a)).2)])]):=by
 refine en func297 λ_ _ _=>sn [0,2,3] [2] p0 ?_
 refine tn [0,2,3,4,5] [2] (pc 1 (Au a) p0)<|tu [(2,.p 2 0),(3,.b D),(4,.i ((Qf a).1)),(5,.b ((Qf a).2)),(6,.p 6 0)] [] [(2, [.i 0,.i 0,.s ⟨#[]⟩]),(6, [.i 0,.i 0,.s ⟨#[]⟩])] [] p0<|Qa<|Qp<|sn [0,2,3,4,6,13] [2,6] p0<|ck ((Qf a).2) (λb=>?_) (λb=>?_)
 ·refine qn [2,3,6] [2,6] (pc 1 (CO ((Qf a).1)) p0) ?_;refine Qa<|tu [(24,.b (!(Xd (Kv ((Qf a).1)))))] [0,4,5] [(6, [.i ((Kv ((Qf a).1)).1),.i ((Kv ((Qf a).1)).2.1),.s ((Kv ((Qf a).1)).2.2)])] [6] (pc 1 (J0 (Kv ((Qf a).1))) p0)<|ck (!(Xd (Kv ((Qf a).1)))) (λd=>?_) (λd=>?_)
  ·exact su [] [24] [] [] p0<|Qc<|pz [] (show Qx a=_ from Xg b (Xg d rfl)) (λz=> .tup [(H, [.i z.1.1,.i z.1.2.1,.s z.1.2.2]),(D, [.b z.2])])
  exact Qd<|sn [2,3] [2] p0<|Qc<|pz [] (show Qx a=_ from Xg b (Qi d rfl)) (λz=> .tup [(H, [.i z.1.1,.i z.1.2.1,.s z.1.2.2]),(D, [.b z.2])])
 refine tn [0,2,3,6,17] [2,6] p0<|ck (!(a.toList==(⟨#[45]⟩:K).toList)) (λc=>?_) (λc=>?_)
 ·refine qu [] [0,4,5] [(6, [.i ((Jk a).1),.i ((Jk a).2.1),.s ((Jk a).2.2)])] [6] (pc 1 (JO a) p0) ?_;refine Qa<|sn [2,3,6,24] [2,6] (pc 1 (J0 (Jk a)) p0)<|ck (!(Xd (Jk a))) (λe=>?_) (λe=>?_)
  ·exact tu [] [] [] [] p0<|Qc<|pz [] (show Qx a=_ from Qi b (Xg c (Xg e rfl))) (λz=> .tup [(H, [.i z.1.1,.i z.1.2.1,.s z.1.2.2]),(D, [.b z.2])])
  exact Qd<|tn [2,3] [2] p0<|Qc<|pz [] (show Qx a=_ from Qi b (Xg c (Qi e rfl))) (λz=> .tup [(H, [.i z.1.1,.i z.1.2.1,.s z.1.2.2]),(D, [.b z.2])])
 refine Qd<|Qa<|tu [(24,.b (!(Xd (0,0,⟨#[]⟩))))] [0,4,5] [] [] (pc 1 (J0 (0,0,⟨#[]⟩)) p0)<|ck (!(Xd (0,0,⟨#[]⟩))) (λf=>?_) (λf=>?_)
 ·exact su [] [24] [] [] p0<|Qc<|pz [] (show Qx a=_ from Qi b (Qi c (Xg f rfl))) (λz=> .tup [(H, [.i z.1.1,.i z.1.2.1,.s z.1.2.2]),(D, [.b z.2])])
 exact Qd<|sn [2,3] [2] p0<|Qc<|pz [] (show Qx a=_ from Qi b (Qi c (Qi f rfl))) (λz=> .tup [(H, [.i z.1.1,.i z.1.2.1,.s z.1.2.2]),(D, [.b z.2])])
def Y7(w:K):Va:=(2,0,w)
theorem JP(w:K):ACalls vC 275 [.s w] (.a [.i ((Y7 w).1),.i ((Y7 w).2.1),.s ((Y7 w).2.2)]):=by
 refine en func275 λ_ _ _=>sn [0,2] [2] p0 ?_
 exact tn [2] [2] p0<|Qc<|pz [] (show Y7 w=(2,0,w) from rfl) (λz=> .a [.i z.1,.i z.2.1,.s z.2.2])
def Jb(n:W):Va:=(1,n,⟨#[]⟩)
theorem CP(n:W):ACalls vC 276 [.i n] (.a [.i ((Jb n).1),.i ((Jb n).2.1),.s ((Jb n).2.2)]):=by
 refine en func276 λ_ _ _=>sn [0,2] [2] p0 ?_
 exact tn [2] [2] p0<|Qc<|pz [] (show Jb n=(1,n,⟨#[]⟩) from rfl) (λz=> .a [.i z.1,.i z.2.1,.s z.2.2])
def Xw(a:K):Va×A:=(bif (a.toList==(⟨#[45]⟩:K).toList) then((0,0,⟨#[]⟩),H) else(bif ((Xn a)).2 then(bif ((!(X2 (Jb (((Xn a)).1))))|| (!((Zk (Jb (((Xn a)).1))).toList==a.toList))) then((0,0,⟨#[]⟩),D) else((Jb (((Xn a)).1)),H)) else(bif ((!(X2 (Y7 a)))|| (!((Zk (Y7 a)).toList==a.toList))) then((0,0,⟨#[]⟩),D) else((Y7 a),H))))
theorem Pg(a:K):ACalls vC 233 [.s a] (.tup [(H, [.i ((((Xw a)).1).1),.i ((((Xw a)).1).2.1),.s ((((Xw a)).1).2.2)]),(D, [.b (((Xw a)).2)])]):=by
 refine en func233 λ_ _ _=>sn [0,2,3] [2] p0 ?_
 refine Qa<|tn [0,2,3,8] [2] p0<|ck (a.toList==(⟨#[45]⟩:K).toList) (λd=>?_) (λd=>?_)
 ·exact tu [(2,.p 2 0),(3,.b H)] [] [(2, [.i 0,.i 0,.s ⟨#[]⟩])] [] p0<|Qc<|pz [] (show Xw a=_ from Xg d rfl) (λz=> .tup [(H, [.i z.1.1,.i z.1.2.1,.s z.1.2.2]),(D, [.b z.2])])
 refine Qd<|tu [(2,.p 2 0),(3,.b D),(4,.i (((Xn a)).1)),(5,.b (((Xn a)).2))] [] [(2, [.i 0,.i 0,.s ⟨#[]⟩])] [] (pc 1 (Lw a) p0)<|sn [0,2,3,4,5,6] [2,6] (pc 1 (JP a) p0)<|Qa<|tn [0,2,3,4,6,17] [2,6] p0<|ck (((Xn a)).2) (λe=>?_) (λe=>?_)
 ·refine qu [(6,.p 6 0)] [4,5] [(6, [.i ((Jb (((Xn a)).1)).1),.i ((Jb (((Xn a)).1)).2.1),.s ((Jb (((Xn a)).1)).2.2)])] [] (pc 1 (CP (((Xn a)).1)) p0) ?_;refine Qa<|Qa<|jn [(28,.b ((!(X2 (Jb (((Xn a)).1))))|| (!((Zk (Jb (((Xn a)).1))).toList==a.toList))))] [0] [] [] (!(X2 (Jb (((Xn a)).1)))) (λf=>?_) (λf=>?_) ?_
  ·have b:(X2 (Jb (((Xn a)).1)))=D:=V1 f;refine rn [2,3,6,28] [2,6] (pc 1 (cb b (Zg (Jb (((Xn a)).1)))) (pe 2 (show .b (!D)= .b H from rfl) p0)) ?_;exact zA (by rw[f]<;>kernel_rfl)
  ·have b:(X2 (Jb (((Xn a)).1)))=H:=Z5 f;refine rn [2,3,6,28] [2,6] (pc 1 (cb b (Zg (Jb (((Xn a)).1)))) (pe 2 (show .b (!H)= .b D from rfl) (pc 5 (C4 (Jb (((Xn a)).1))) p0))) ?_;exact zA (by rw[f]<;>kernel_rfl)
  refine ck ((!(X2 (Jb (((Xn a)).1))))|| (!((Zk (Jb (((Xn a)).1))).toList==a.toList))) (λh=>?_) (λh=>?_)
  ·exact su [] [28] [] [] p0<|Qc<|pz [] (show Xw a=_ from Qi d (Xg e (Xg h rfl))) (λz=> .tup [(H, [.i z.1.1,.i z.1.2.1,.s z.1.2.2]),(D, [.b z.2])])
  exact Qd<|sn [2,3] [2] p0<|Qc<|pz [] (show Xw a=_ from Qi d (Xg e (Qi h rfl))) (λz=> .tup [(H, [.i z.1.1,.i z.1.2.1,.s z.1.2.2]),(D, [.b z.2])])
 refine Qd<|Qa<|Qa<|mz [(6,.p 6 0),(17,.b (((Xn a)).2))] [5] [(6, [.i ((Y7 a).1),.i ((Y7 a).2.1),.s ((Y7 a).2.2)])] []<|jn [(28,.b ((!(X2 (Y7 a)))|| (!((Zk (Y7 a)).toList==a.toList))))] [0,4,17] [] [] (!(X2 (Y7 a))) (λg=>?_) (λg=>?_) ?_
 ·have c:(X2 (Y7 a))=D:=V1 g;refine rn [2,3,6,28] [2,6] (pc 1 (cb c (Zg (Y7 a))) (pe 2 (show .b (!D)= .b H from rfl) p0)) ?_;exact zA (by rw[g]<;>kernel_rfl)
 ·have c:(X2 (Y7 a))=H:=Z5 g;refine rn [2,3,6,28] [2,6] (pc 1 (cb c (Zg (Y7 a))) (pe 2 (show .b (!H)= .b D from rfl) (pc 5 (C4 (Y7 a)) p0))) ?_;exact zA (by rw[g]<;>kernel_rfl)
 refine ck ((!(X2 (Y7 a)))|| (!((Zk (Y7 a)).toList==a.toList))) (λi=>?_) (λi=>?_)
 ·exact su [] [28] [] [] p0<|Qc<|pz [] (show Xw a=_ from Qi d (Qi e (Xg i rfl))) (λz=> .tup [(H, [.i z.1.1,.i z.1.2.1,.s z.1.2.2]),(D, [.b z.2])])
 exact Qd<|sn [2,3] [2] p0<|Qc<|pz [] (show Xw a=_ from Qi d (Qi e (Qi i rfl))) (λz=> .tup [(H, [.i z.1.1,.i z.1.2.1,.s z.1.2.2]),(D, [.b z.2])])
def Qg(p:Z)(at_:W):K:=(bif decide (at_>=(p.length:W)) then⟨#[]⟩ else(nth p at_.toNat))
theorem We(p:Z)(at_:W)(f:0<=at_):ACalls vC 231 [.h p,.i at_] (.s (Qg p at_)):=by
 refine en func231 λ_ _ _=>sn [0,1,4] [] p0 ?_
 refine Qa<|tn [0,1,4,8] [] (pl 2 p p0)<|ck (decide (at_>=(p.length:W))) (λa=>?_) (λa=>?_)
 ·exact tu [(4,.s ⟨#[]⟩)] [] [] [] p0<|Qc<|ps [] (Xg a rfl)
 have c:=uI a;refine Qd<|wT 0 0 .sh p (λd e=>?_)
 have b:=ng p at_.toNat;exact tu [(4,.s (nth p at_.toNat))] [0,1] [] [] (pg 2 at_ b p0)<|Qc<|ps [] (Qi a rfl)
def Ag(c:E)(a:K)(b:K):Rd (K) (K) (K):=(bif decide ((c:W)>(0:W)) then(.next ((b++(⟨#[32]⟩:K))++a)) else(.next (b++a)))
def Di(_:E)(a:K):K:=a
def Wf(p:Z):K:=(Out.on (X8 Ag Di p 0 ⟨#[]⟩) (λa=>a))
theorem YG(p:Z)(s:zF p<=24)(k:∀y,y∈p->zD y<=600):ACalls vC 235 [.h p] (.s (Wf p)):=by
 refine en func235 λ_ _ _=>?_
 have m:zD (⟨#[32]⟩:K)=1:=rfl;refine sn [0,2] [] p0<|tn [0,2,3] [] p0<|Qa<|tu [(2,.s ⟨#[]⟩),(3,.s ⟨#[]⟩),(4,.i 0)] [] [] [] p0<|wT 0 0 .sh p (λo q=>?_)
 refine CA Ag Di p ⟨#[]⟩ (λb a=> [(3,.s a),(4,.i (b:W))]) [3,4] (λj=> [(3,.s j)]) [0,3,4] (λb a=>zD a<=700*b) wf0 (by decide) (λb a O U=>?_) (λb a O U=>?_) (λj f=>?_)
 ·have c:=U.2;obtain⟨d,V⟩:=Xo (l:=p) (i:=b) O;have r:=k _ (zR V);refine Qa<|sn [0,2,3,4,8] [] (pl 2 p (pe 3 (zB ((b:W)<(p.length:W))) p0))<|ckT<|Qd<|Qa<|Qp<|Qa<|tn [0,2,3,4,12] [] p0<|ck (decide ((b:W)>(0:W))) (λe=>?_) (λe=>?_)
  ·have g:=uL e;refine qu [(3,.s (a++(⟨#[32]⟩:K)))] [3] [] [] (px (Zw (n:=(zD a+zD (⟨#[32]⟩:K))) (by have h:zD (⟨#[32]⟩:K)=1:=rfl;unfold uD;first|omega|(simp only[zE];omega))) p0) ?_;refine rn [0,2,3,4] [] (pn 3 V (px (Zw (n:=(zD (a++(⟨#[32]⟩:K))+zD d)) (by have h:zD (⟨#[32]⟩:K)=1:=rfl;unfold uD;first|omega|(simp only[zE];omega))) p0)) ?_;refine qn [0,2,3,4] [] (pw 1 b p0) ?_;exact xw ((a++(⟨#[32]⟩:K))++d) ⟨Qr V (Xg e rfl) U.1,(by first|omega|(simp only[zE];omega))⟩
  have g:=uI e;refine Qd<|qu [(3,.s (a++d))] [3] [] [] (pn 3 V (px (Zw (n:=(zD a+zD d)) (by unfold uD;first|omega|(simp only[zE];omega))) p0)) ?_
  refine rn [0,2,3,4] [] (pw 1 b p0) ?_;exact xw (a++d) ⟨Qr V (Qi e rfl) U.1,(by first|omega|(simp only[zE];omega))⟩
 ·have c:=U.2;exact Qa<|sn [0,2,3,4,8] [] (pl 2 p (pe 3 (zC ((b:W)<(p.length:W))) p0))<|ckF<|Xa<|xw _ (Xq O rfl U.1)
 exact sn [2] [] p0<|Qc<|ps [] (Vx f rfl)
def Zd(p:Z)(at_:W):W:=((Xn (Qg p at_))).1
theorem Md(p:Z)(at_:W)(a:0<=at_):ACalls vC 232 [.h p,.i at_] (.i (Zd p at_)):=by
 refine en func232 λ_ _ _=>sn [0,1,4] [] p0 ?_
 exact tn [4,5] [] (pc 2 (We p at_ (by omega)) (pc 3 (Lw (Qg p at_)) p0))<|tu [(4,.i (((Xn (Qg p at_))).1))] [0,1] [] [] p0<|Qc<|pi [] (show Zd p at_=((Xn (Qg p at_))).1 from rfl)
def Ly(b:Z)(a:E)(c:K)(_:uE):Rd (A) (uE) (uE):=(bif (!(c.toList==(nth b a).toList)) then(.ret D) else(.next ()))
def Lz(_:E)(_:uE):uE:=()
def Er(a:Z)(b:Z):A:=(bif ((a.length:W) !=(b.length:W)) then D else(Out.on (X8 (Ly b) Lz a 0 ()) (λ_=>H)))
theorem CQ(a:Z)(b:Z):ACalls vC 187 [.h a,.h b] (.b (Er a b)):=by
 refine en func187 λ_ _ _=>sn [0,1,4] [] p0 ?_
 refine Qa<|tn [0,1,4,10] [] (pl 1 a (pl 3 b p0))<|ck ((a.length:W) !=(b.length:W)) (λd=>?_) (λd=>?_)
 ·exact tu [(4,.b D)] [] [] [] p0<|Qc<|pb [] (Xg d rfl)
 have j:=Ap d;refine Qd<|Qa<|tu [(4,.b D),(5,.i 0)] [] [] [] p0<|wT 0 0 .sh a (λk m=>?_)
 refine S7 (Ly b) Lz a () (λc _=> [(5,.i (c:W))]) [5] (λ_=> []) [0,1,5] wf0 (λc n O U=>?_) (λc n O U=>?_) (λr e=>?_)
 ·obtain⟨o,V⟩:=Xo (l:=a) (i:=c) O;refine Qa<|sn [0,1,4,5,14] [] (pl 2 a (pe 3 (zB ((c:W)<(a.length:W))) p0))<|ckT<|Qd<|Qa<|Qp<|wT 1 0 .sh b (λp q=>?_)
  have f:=ng b c;refine tN [0,1,4,5,25] [] (pn 2 V (pn 6 f p0))<|ck (!(o.toList==(nth b c).toList)) (λg=>?_) (λg=>?_)
  ·refine tu [] [] [] [] p0<|Qc ?_
   have h:(X8 (Ly b) Lz a 0 ())= .ret D:=Kj V (Xg g rfl) U;exact pb [] (Qi d (Pq h))
  refine Qd<|qu [(5,.i ((c+1:E):W))] [5] [] [] (pw 1 c p0) ?_
  exact xw _ (Qr V (Qi g rfl) U)
 ·exact Qa<|sn [0,1,4,5,14] [] (pl 2 a (pe 3 (zC ((c:W)<(a.length:W))) p0))<|ckF<|Xa<|xw _ (Xq O rfl U)
 exact sn [4] [] p0<|Qc<|pb [] (Qi d (Vx e rfl))
theorem Gj(a b:I uG):Ca (a++b)=Ca a++Ca b:=by
 apply xU;rw[ByteArray.data_append];show(a++b).toArray=a.toArray++b.toArray;simp
theorem J8(s a:K):Xs s [a]=a:=by
 unfold Xs;rw[zV,xL,Lib.join_one,U5]
theorem Wo(s a b:K)(l:I K):Xs s (a::b::l)=a++s++Xs s (b::l):=by
 unfold Xs;simp only[zV];rw[Lib.join_cons,Lib.join_cons];unfold Lib.joinTail;simp only[zV,yV];rw[Gj,Gj,Gj,Gj,U5,U5,U5];simp only[ByteArray.append_assoc]
theorem Vd(s a b:K):Xs s [a,b]=(a++s)++b:=by rw[Wo,J8]
theorem Kz(s a b c:K):Xs s [a,b,c]=(((a++s)++b)++s)++c:=by
 rw[Wo,Vd];simp only[ByteArray.append_assoc]
theorem F2(s:K):∀{l m:I K},l≠ []->m≠ []->Xs s (l++m)=Xs s l++s++Xs s m
 | [],_,h,_=>absurd rfl h
 | [a], [],_,h=>absurd rfl h
 | [a],b::m,_,_=>by rw[List.singleton_append,Wo,J8]
 | a::b::l,m,_,h=>by
   have c:=F2 s (l:=b::l) (m:=m) (λe=>by cases e) h;rw[yA] at c;rw[yA,yA,Wo,c,Wo];simp only[ByteArray.append_assoc]
theorem EN{s:K}{m:E}(c:s.size=1):∀{l:I K},(∀y,y∈l->y.size<=m)->(Xs s l).size<=l.length*(m+1)
 | [],_=>zT _
 | [a],h=>by rw[J8];have:=h a (zH ..);simp only[List.length_cons,List.length_nil];omega
 | a::b::l,h=>by
   rw[Wo,zE,zE];have f:=h a (zH ..);have d:=EN c (l:=b::l) λy e=>h y (zM _ e)
   simp only[List.length_cons,xX] at d⊢;omega
theorem Ug{s:K}{m n:E}{l:I K}(a:s.size=1)(h:∀y,y∈l->y.size<=m)(b:l.length<=n):(Xs s l).size<=n*(m+1):=
 zW (EN a h) (yN _ b)
theorem AX{c:uG}(a b:K)(l:I K):(Xs ⟨#[c]⟩ (a::b::l)).data.toList=a.data.toList++c::(Xs ⟨#[c]⟩ (b::l)).data.toList:=by
 rw[Wo,ByteArray.data_append,ByteArray.data_append];simp
theorem TU{c:uG}:∀{l:I uG},c∉l->AB c l= [l]
 | [],_=>rfl
 | b::l,h=>by
   have hb:¬b=c:=λe=>h (by rw[e];exact zH ..)
   rw[AB,uK hb,TU λa=>h (zM _ a)]
theorem ID{c:uG}(r:I uG):∀{l:I uG},c∉l->AB c (l++c::r)=l::AB c r
 | [],_=>by rw[yH,AB,uH rfl]
 | b::l,h=>by
   have hb:¬b=c:=λe=>h (by rw[e];exact zH ..)
   rw[yA,AB,uK hb,ID r λa=>h (zM _ a)]
theorem Qci{c:uG}:∀{l:I K},l≠ []->(∀y,y∈l->c∉y.data.toList)->Qs c (Xs ⟨#[c]⟩ l)=l
 | [],h,_=>absurd rfl h
 | [a],_,h=>by
   rw[J8];unfold Qs;rw[TU (h a (zH ..)),zV,xL,U5]
 | a::b::l,_,h=>by
   have d:=Qci (c:=c) (l:=b::l) (λe=>by cases e) λy f=>h y (zM _ f)
   unfold Qs at d⊢;rw[AX,ID _ (h a (zH ..)),zV,d,U5]
theorem JQ(c:uG)(s:K):1<=(Qs c s).length:=by
 obtain⟨p,ps,h⟩:=AC c s.data.toList;unfold Qs;rw[h,zV,List.length_cons];omega
theorem OI(c:uG):∀l:I uG,Lib.join (AB c l) [c]=l
 | []=>by rw[AB,Lib.join_one]
 | b::l=>by
   have a:=OI c l;obtain⟨p,ps,h⟩:=AC c l;rw[h] at a;rw[Lib.join_cons] at a;by_cases hb:b=c
   . rw[AB,uH hb,h,Lib.join_cons];unfold Lib.joinTail at a⊢;rw[zV,yV,yH,yL,a,hb];rfl
   rw[AB,uK hb,h];show Lib.join ((b::p)::ps) [c]=_;rw[Lib.join_cons,yA,a]
theorem Qls(c:uG)(s:K):Xs ⟨#[c]⟩ (Qs c s)=s:=by
 unfold Xs Qs;rw[xV,show((λx:K=>x.data.toList) ∘ Ca)=id from funext λ_=>rfl,List.map_id];show Ca (Lib.join (AB c s.data.toList) [c])=s;rw[OI,U5]
theorem KQ(s:K):∀(l:I K) (k:E),(Xs s (l.drop k)).size<=(Xs s l).size
 | l,0=>yE _
 | [],k+1=>by rw[List.drop_nil];exact yE _
 | [a],k+1=>by rw[xA,List.drop_nil];exact zT _
 | a::b::l,k+1=>by
   have:=KQ s (b::l) k;rw[xA,Wo,zE];omega
theorem Qh2(c:uG)(s:K)(k:E):(Xs ⟨#[c]⟩ ((Qs c s).drop k)).size<=s.size:=by
 have:=KQ ⟨#[c]⟩ (Qs c s) k
 rwa [Qls] at this
def Word(s:K):Prop:=1<=s.size/\∀b,b∈s.data.toList->33<=b.toNat/\b.toNat<=126
theorem Word.no{s:K}(h:Word s){c:uG}(b:c.toNat<33):c∉s.data.toList:=λa=>by have:=(h.2 c a).1;omega
theorem Word.ne{s:K}(h:Word s):s.data.toList≠ []:=λe=>by
 have b:=h.1;have a:s.data.toList.length=s.size:=xB;rw[e] at a;simp at a;omega
theorem Word.sp{s:K}(h:Word s){b:uG}(c:b∈s.data.toList):Lib.isSp b=D:=by
 have d:=h.2 b c;cases a:Lib.isSp b with
 | false=>rfl
 | true=>
   exfalso;unfold Lib.isSp at a;simp only[yR,uP] at a;rcases a with((((rfl | rfl) | rfl) | rfl) | rfl) | rfl<;>revert d<;>decide
theorem QC:∀(l cur r:I uG),(∀b,b∈l->Lib.isSp b=D)->Lib.fieldsGo cur (l++r)=Lib.fieldsGo (cur++l) r
 | [],cur,r,_=>by rw[yH,yZ]
 | b::l,cur,r,h=>by
   rw[yA,Lib.fieldsGo_more _ _ _ (h b (zH ..)),QC l _ r λx a=>h x (zM _ a),yL,List.singleton_append]
theorem QD:∀{l:I K},(∀y,y∈l->Word y)->Vj (Xs ⟨#[32]⟩ l)=l
 | [],_=>rfl
 | [a],h=>by
   have ha:=h a (zH ..);rw[J8];unfold Vj Lib.fields;have:=QC a.data.toList [] [] λb hb=>ha.sp hb
   rw[yZ,yH] at this;rw[this];unfold Lib.fieldsGo;rw[uK (by simpa using ha.ne),zV,xL,U5]
 | a::b::l,h=>by
   have ha:=h a (zH ..);have c:=QD (l:=b::l) λy d=>h y (zM _ d)
   unfold Vj Lib.fields at c⊢;rw[AX,QC _ _ _ λb hb=>ha.sp hb,yH,Lib.fieldsGo_end _ _ _ rfl ha.ne,zV,c,U5]
theorem JR{l:I K}(h:∀y,y∈l->Word y):∀b,b∈(Xs ⟨#[32]⟩ l).data.toList->32<=b.toNat/\b.toNat<=126:=by
 match l,h with
 | [],_=>intro b hb;simp[Xs,Lib.join,Ca,List.intercalate] at hb
 | [a],h=>
   intro b hb;rw[J8] at hb;have:=(h a (zH ..)).2 b hb;omega
 | a::b::l,h=>
   intro x hx;rw[AX] at hx;rcases zS.1 hx with hx | hx
   . have:=(h a (zH ..)).2 x hx;omega
   rcases yC.1 hx with rfl | hx
   . decide
   exact JR (λy c=>h y (zM _ c)) x hx
theorem TV(v:Va):(X1 v).size<=10:=by
 unfold X1;cases a:Xd v with
 | false=>exact show(1:E)<=10 by decide
 | true=>
   simp only[zZ,uB];cases c:(v.1==(1:W)) with
   | true=>have b:=IC a c;exact Kb (by omega)
   | false=>
     cases b:(v.1==(2:W)) with
     | true=>exact zW (Fi (Qh1 a b).1).2 (by decide)
     | false=>exact show(1:E)<=10 by decide
theorem Qrf(v:Va):Zk v=X1 v:=rfl
theorem Qm8(v:Va):(Zk v).size<=10:=TV v
theorem WJ{a:W}(h:Xv a 1 9=H):a=1\/a=2\/a=3\/a=4\/a=5\/a=6\/a=7\/a=8\/a=9:=by
 have:=Kr.1 h;omega
theorem Qcj(op:W):X6 op=Qy op:=by
 unfold X6 Qy;rw[←UY];cases h:Xv op 1 9 with
 | false=>rfl
 | true=>rcases WJ h with rfl | rfl | rfl | rfl | rfl | rfl | rfl | rfl | rfl<;>rfl
theorem Qh3(a:W):(Qy a).size<=6:=by
 cases h:Xv a 1 9 with
 | false=>unfold Qy;rw[h];exact show(1:E)<=6 by decide
 | true=>rcases WJ h with rfl | rfl | rfl | rfl | rfl | rfl | rfl | rfl | rfl<;>decide
theorem Qm9(a:W):(X6 a).size<=6:=Qcj a▸Qh3 a
theorem EO(p:I K):Wf p=Xs ⟨#[32]⟩ p:=by
 have e0:∀a:K,(⟨#[]⟩:K)++a=a:=λa=>by apply xU;rw[ByteArray.data_append];simp
 have key:∀(l:I K) (k:E) (a s:K),X8 Ag Di l (k+1) (s++a)= .brk (s++Xs ⟨#[32]⟩ (a::l)):=by
  intro l
  induction l with
  | nil=>intro k a s;rw[J8];rfl
  | cons b l c=>
    intro k a s
    have d:Ag (k+1) b (s++a)= .next ((s++a++⟨#[32]⟩)++b):=by
     unfold Ag;rw[uR (show(((k+1:E):E):W)>0 by omega),uC]
    simp only[X8,d];have:=c (k+1) b (s++a++⟨#[32]⟩);rw[this,Wo];simp only[ByteArray.append_assoc]
 unfold Wf;cases p with
 | nil=>rfl
 | cons a l=>
   have e:X8 Ag Di (a::l) 0 ⟨#[]⟩=X8 Ag Di l (0+1) ((⟨#[]⟩:K)++a):=rfl;rw[e,key,e0];rfl
theorem Qpa{n:Q9}{k:W}(h:Y5 n k=H):n.2.2.2.1.size<=6:=by
 have e:∀{a:K},(a.toList==(⟨#[]⟩:K).toList)=H->a.size<=6:=λh=>by rw[Wd h];decide
 have b:∀{a:K},Qz a=H->a.size<=6:=λh=>by rw[GJ h];decide
 have c:∀{a:K},Xl a=H->a.size<=6:=λh=>(Fi h).2
 unfold Y5 at h
 cases d:(n.1==(1:W))<;>cases f:(n.1==(2:W))<;>cases g:(n.1==(3:W))<;>cases i:(n.1==(4:W))<;>cases j:(n.1==(5:W))<;>cases l:(n.1==(6:W))<;>cases m:(n.1==(7:W))<;>cases o:(n.1==(8:W))<;>cases p:(n.1==(9:W))<;>simp only[d,f,g,i,j,l,m,o,p,uC,uB,zG] at h<;>first
  | exact e h.2.2.2.1
  | exact e h.1.2.2.2.1
  | exact b h.2
  | exact b h.2.1
  | exact c h.2
  | cases h
theorem AY{q:I Q9}{at_:W}(a:Qj q=H)(b:0<=at_)(c:at_<(q.length:W)):(nth q (zO at_)).2.2.2.1.size<=6:=Qpa (T1 a (Dc (by omega)))
theorem Qck{f:Yn}(h:FBd f):∀y,y∈ [(⟨#[102,105,108,101]⟩:K),(Q7 f.1),(Q7 f.2.1),(bif f.2.2.1 then⟨#[115]⟩ else⟨#[111]⟩),(Q7 f.2.2.2.1)]->y.size<=10:=λy a=>by
 have b:=h.1;have c:=h.2.1;have d:=h.2.2.1;simp only[yC,List.mem_nil_iff,uY] at a;rcases a with rfl | rfl | rfl | rfl | rfl
 . decide
 . exact Kb (by omega)
 . exact Kb (by omega)
 . cases f.2.2.1<;>decide
 exact Kb (by omega)
theorem Qh4{f:Yn}(h:FBd f){l:I K}{k:E}{a:Wv}(b:f.2.2.2.2[k]? =uA a)(c:∀y,y∈l->y.size<=10):∀y,y∈l++ [a.1,X1 a.2]->y.size<=10:=λy hy=>by
 rcases zS.1 hy with hy | hy
 . exact c y hy
 have:=h.2.2.2.2 a (zR b);simp only[yC,List.mem_nil_iff,uY] at hy;rcases hy with rfl | rfl
 . rw[GJ this.1];decide
 exact TV _
theorem Qh5{f:Yn}(h:FBd f){a:Wv}(b:a∈f.2.2.2.2):a.1.size<=10:=by
 rw[GJ (h.2.2.2.2 a b).1];decide
def Ik(b:uG):A:=decide (32<=b.toNat)&&decide (b.toNat<=126)
theorem Ni{s:K}{k:E}{c:uG}(h:s.data.toList[k]? =uA c):Jl s ((k:E):W)=(c.toNat:W):=by
 unfold Jl;rw[zN,yM,h];rfl
theorem Ei(s:K):s.data.toList.length=s.size:=xB
theorem Fj{α:Type}{l r:I α}{k:E}{c:α}(h:l.drop k=c::r):l[k]? =uA c/\l.drop (k+1)=r/\k<l.length:=by
 have a:l[k]? =uA c:=by
  have:=uM (λx=>x[0]?) h;simpa using this
 refine⟨a, ?_,(yB.1 a).1⟩;have:=uM (List.drop 1) h;rw[xE] at this;simpa [Nat.add_comm] using this
theorem Qs0{c:uG}(h:Ik c=H)(b:c.toNat≠32):Lib.isSp c=D:=by
 unfold Ik at h;simp only[zG,uS] at h;cases a:Lib.isSp c with
 | false=>rfl
 | true=>
   exfalso;unfold Lib.isSp at a;simp only[yR,uP] at a;rcases a with((((rfl | rfl) | rfl) | rfl) | rfl) | rfl<;>revert h b<;>decide
theorem Qrg{c:uG}(h:c.toNat=32):Lib.isSp c=H:=by
 have:c=32:=UInt8.toNat_inj.1 h;rw[this];rfl
theorem Rs(s:K)(b k:E):ByteArray.extract s b k=Ca ((s.data.toList.drop b).take (k-b)):=by
 apply xU;rw[ByteArray.data_extract];apply Array.toList_inj.1;rw[Array.toList_extract];unfold Ca;simp[List.extract_eq_take_drop]
theorem Mw{R S T:Type}{f:E->S->Rd R S T}{e:E->S->T}{n k:E}{s s':S}(h:f k s= .next s'):K0 f e (n+1) k s=K0 f e n (k+1) s':=by rw[K0,h]
theorem EP{R S T:Type}{f:E->S->Rd R S T}{e:E->S->T}{n k:E}{s:S}{r:R}(h:f k s= .ret r):K0 f e (n+1) k s= .ret r:=by rw[K0,h]
theorem Qh6(line:K):∀(rest:I uG) (k b:E) (g:I K),line.data.toList.drop k=rest->k<=line.size->b<=k->
 K0 (Wc line) Uf (rest.length+1) k (g,(b:W))=if rest.all Ik then .brk (g++(Lib.fieldsGo ((line.data.toList.drop b).take (k-b)) rest).map Ca) else .ret ([],D)
 | [], k,b,g,hr,hk,hb=>by
   have s:k=line.size:=by
    have:=uM zF hr;rw[yO,Ei] at this;simp only[List.length_nil] at this;omega
   have h:decide (((k:E):W)<(line.size:W))=D:=uN (by omega);simp only[List.length_nil,K0];unfold Wc;rw[h];simp only[Bool.false_and,uB,List.all_nil,if_true]
   have j:((line.data.toList.drop b).take (k-b)).length=k-b:=by
    rw[yX,yO,Ei];omega
   unfold Lib.fieldsGo;by_cases o:b<k
   . rw[uR (show(b:W)<((k:E):W) by omega)]
     have a:((line.data.toList.drop b).take (k-b)).isEmpty=D:=by
      cases t:(line.data.toList.drop b).take (k-b) with
      | nil=>rw[t] at j;simp at j;omega
      | cons _ _=>rfl
     rw[a];simp only[uC,Uf,zN];rw[Rs];rfl
   rw[uN (show¬(b:W)<((k:E):W) by omega)]
   have a:((line.data.toList.drop b).take (k-b)).isEmpty=H:=by
    rw[show k-b=0 by omega];rfl
   rw[a];simp only[uB,Uf,if_true,xL,yZ]
 | c :: rest,k,b,g,hr,hk,hb=>by
   obtain⟨r,hd,l⟩:=Fj hr;rw[Ei] at l;have h:decide (((k:E):W)<(line.size:W))=H:=uR (by omega);have u:=Ni r;rw[List.length_cons]
   have f:Wc line k (g,(b:W))=(bif (decide ((c.toNat:W)<(32:W))|| decide ((c.toNat:W)>(126:W))) then(.ret ([],D)) else(bif ((c.toNat:W) !=(32:W)) then(.next (g,(b:W))) else(bif decide ((b:W)<((k:E):W)) then(.next (g++ [(ByteArray.extract line (zO (b:W)) (zO ((k:E):W)))],((k+1:E):W))) else(.next (g,((k+1:E):W)))))):=by
    unfold Wc;rw[h,u,yI,yI]
   rw[List.all_cons];cases d:Ik c with
   | false=>
     have p:(decide ((c.toNat:W)<(32:W))|| decide ((c.toNat:W)>(126:W)))=H:=by
      unfold Ik at d;simp only[Bool.and_eq_false_iff,decide_eq_false_iff_not] at d;simp only[yR,uS];omega
     rw[p,uC] at f;rw[EP f];rfl
   | true =>
     have p:(decide ((c.toNat:W)<(32:W))|| decide ((c.toNat:W)>(126:W)))=D:=by
      unfold Ik at d;simp only[zG,uS] at d;simp only[xQ,decide_eq_false_iff_not];omega
     rw[p,uB] at f;rw[yI];by_cases i:c.toNat=32
     . have q:((c.toNat:W) !=(32:W))=D:=by rw[i];rfl
       rw[q,uB] at f;have m:=Qrg i
       have j:((line.data.toList.drop b).take (k-b)).length=k-b:=by
        rw[yX,yO,Ei];omega
       have n:=λv=>Qh6 line rest (k+1) (k+1) v hd (by omega) (yE _)
       simp only[Nat.sub_self,List.take_zero] at n;by_cases o:b<k
       . rw[uR (show(b:W)<((k:E):W) by omega),uC] at f;have a:(line.data.toList.drop b).take (k-b)≠ []:=λe=>by rw[e] at j;simp at j;omega
         rw[Mw f,n,Lib.fieldsGo_end _ _ _ m a,zN,zN,Rs];split
         . rw[zV,yL,List.singleton_append]
         rfl
       rw[uN (show¬(b:W)<((k:E):W) by omega),uB] at f;have a:(line.data.toList.drop b).take (k-b)= []:=by rw[show k-b=0 by omega];rfl
       rw[Mw f,n,a,Lib.fieldsGo_sp _ _ m]
     have q:((c.toNat:W) !=(32:W))=H:=by
      rw[bne_iff_ne];omega
     rw[q,uC] at f;have n:=Qh6 line rest (k+1) b g hd (by omega) (by omega);rw[Mw f,n,Lib.fieldsGo_more _ _ _ (Qs0 d i)]
     have e:(line.data.toList.drop b).take (k+1-b)=(line.data.toList.drop b).take (k-b)++ [c]:=by
      have:(line.data.toList.drop b)[k-b]? =uA c:=by rw[xD,show b+(k-b)=k by omega];exact r
      rw[show k+1-b=(k-b)+1 by omega,yW,this];rfl
     rw[e]
theorem OJ(line:K):∀(a:I uG) (k:E),line.data.toList.drop k=a->K0 (H6 line) By a.length k ()=if a.all Ik then .brk () else .ret ([],D)
 | [],k,_=>rfl
 | c ::a,k,hr=>by
   obtain⟨b,hd,_⟩:=Fj hr;simp only[List.length_cons,K0];unfold H6;rw[Ni b,IntWalk.i64_in (c.toNat:W) (by have:=c.toNat_lt;omega)]
   have e:Xv (c.toNat:W) 32 126=Ik c:=by
    unfold Xv Ik
    congr 1
    . exact uZ.2 (by omega)
    exact uZ.2 (by omega)
   rw[e,List.all_cons];cases d:Ik c with
   | false=>rfl
   | true=>
     simp only[zZ,uB,yI];exact OJ line a (k+1) hd
theorem Qh7(line:K):Qb line=X0 line:=by
 unfold Qb X0;cases decide ((zD line:W)>(600:W)) with
 | true=>rfl
 | false=>
   simp only[uB];have a:=Qh6 line line.data.toList 0 0 [] rfl (zT _) (yE _);have b:=OJ line line.data.toList 0 rfl;rw[Ei] at a b;rw[show zO ((zD line:W)+1)=line.size+1 by omega,show zO (zD line:W)=line.size by omega];rw[show(([]:I K),(0:W))=([],((0:E):W)) from rfl,a,b];cases line.data.toList.all Ik with
   | false=>rfl
   | true=>
     simp only[if_true,Out.on,Nat.sub_self,List.take_zero,yH];rfl
theorem Qrh(line:K):(X0 line).1.length<=24/\∀y,y∈(X0 line).1->y.size<=600:=by
 unfold X0;cases c:decide ((zD line:W)>(600:W)) with
 | true=>exact⟨zT _,λy a=>by cases a⟩
 | false=>
   have e:=uI c;simp only[uB];have b:=OJ line line.data.toList 0 rfl;rw[Ei] at b;rw[show zO (zD line:W)=line.size by omega,b];cases line.data.toList.all Ik with
   | false=>exact⟨zT _,λy a=>by cases a⟩
   | true=>
     simp only[if_true,Out.on];cases d:decide (((Vj line).length:W)>(24:W)) with
     | true=>exact⟨zT _,λy a=>by cases a⟩
     | false=>
       have:=uI d;simp only[uB];refine⟨by omega,λy a=>?_⟩;have:=(XS line).2 y a;omega
theorem Nj(line:K):(Qb line).1.length<=24/\∀y,y∈(Qb line).1->y.size<=600:=by rw[Qh7];exact Qrh line
theorem YH{l:I K}(h:∀y,y∈l->Word y)(c:l.length<=24)(d:(Xs ⟨#[32]⟩ l).size<=600):X0 (Xs ⟨#[32]⟩ l)=(l,H):=by
 unfold X0;rw[uN (show¬((Xs ⟨#[32]⟩ l).size:W)>600 by omega)];simp only[uB];have a:=OJ (Xs ⟨#[32]⟩ l) (Xs ⟨#[32]⟩ l).data.toList 0 rfl;rw[Ei] at a;rw[show zO (zD (Xs ⟨#[32]⟩ l):W)=(Xs ⟨#[32]⟩ l).size by omega,a]
 have ha:(Xs ⟨#[32]⟩ l).data.toList.all Ik=H:=List.all_eq_true.2 λb hb=>by
  have:=JR h b hb;unfold Ik;simp only[zG,uS];exact this
 rw[ha,QD h];simp only[if_true,Out.on];rw[uN (show¬(l.length:W)>24 by omega)];rfl
open GoE (enc wide)
def F3(_:E)(a:Wv)(b:Z):Rd (K) Z Z:=(.next (b++ [a.1,(X1 a.2)]))
def F4(_:E)(a:Z):Z:=a
def Z0(f:Yn):K:=(Out.on (X8 F3 F4 f.2.2.2.2 0 [(⟨#[102,105,108,101]⟩:K),(Q7 f.1),(Q7 f.2.1),(bif f.2.2.1 then⟨#[115]⟩ else⟨#[111]⟩),(Q7 f.2.2.2.1)]) (λa=>(Xs ⟨#[32]⟩ a)))
theorem VE(f:Yn)(e:FBd f):ACalls vC 260 [.a [.i f.1,.i f.2.1,.b f.2.2.1,.i f.2.2.2.1,.h f.2.2.2.2]] (.s (Z0 f)):=by
 refine en func260 λ_ _ _=>?_
 have r:=e.1;have s:=e.2.1;have t:=e.2.2.1;have u:=e.2.2.2.1;have k:=Qck e;refine sn [1,2] [1] p0<|tn [1,2,3] [1] p0<|Qa<|tu [(1,.p 1 0),(2,.s ⟨#[]⟩),(3,.s ⟨#[111]⟩),(8,.b f.2.2.1)] [0] [(1, [.i f.1,.i f.2.1,.b f.2.2.1,.i f.2.2.2.1,.h f.2.2.2.2])] [] p0<|jn [(3,.s (bif f.2.2.1 then⟨#[115]⟩ else⟨#[111]⟩))] [3,8] [] [] f.2.2.1 (λo=>?_) (λo=>?_) ?_
 ·refine ckt o ?_;refine rn [1,2,3] [1] p0 ?_;exact zA (by rw[o]<;>kernel_rfl)
 ·refine ckf o ?_;exact Qd<|⟨rfl,Qe (by rw[o]<;>kernel_rfl)⟩
 have v:=Kb (n:=f.1) (by omega);have w:=Kb (n:=f.2.1) (by omega);have z:=Kb (n:=f.2.2.2.1) (by omega);refine sN [1,2,4] [1] (pc 2 (Hj f.1 (by omega)) (pc 5 (Hj f.2.1 (by omega)) (pc 9 (Hj f.2.2.2.1 (by omega)) p0)))<|Qa<|tn [2,4,21,22,23] [] (pl 2 f.2.2.2.2 p0)<|mz [(4,.o 1216 [(⟨#[102,105,108,101]⟩:K),(Q7 f.1),(Q7 f.2.1),(bif f.2.2.1 then⟨#[115]⟩ else⟨#[111]⟩),(Q7 f.2.2.2.1)]),(21,.h f.2.2.2.2),(22,.i (f.2.2.2.2.length:W)),(23,.i 0)] [1,3] [] [1]<|wT 21 0 .sh f.2.2.2.2 (λa1 a2=>?_)
 refine Qbn F3 F4 f.2.2.2.2 [(⟨#[102,105,108,101]⟩:K),(Q7 f.1),(Q7 f.2.1),(bif f.2.2.1 then⟨#[115]⟩ else⟨#[111]⟩),(Q7 f.2.2.2.1)] (λd b=> [(4,.o 147201 b),(23,.i (d:W))]) [4,23] (λj=> [(4,.o 147351 j)]) [4,21,22,23] (λd b=>(∀y,y∈b->zD y<=10)/\zF b<=5+2*d) (λj=>(∀x,x∈j->zD x<=10)/\zF j<=15) (wsf [(1216,147201)]) ⟨(by first | exact k | (simp;done) | decide),(by first | exact k | (simp;done) | decide)⟩ (λd b O U=>?_) (λd b O U=>?_) (λj g=>?_)
 ·have a:=U.2.1;have h:=U.2.2;obtain⟨c,V⟩:=Xo (l:=f.2.2.2.2) (i:=d) O;refine su [(24,.b H)] [] [] [] (pe 0 (zB ((d:W)<(f.2.2.2.2.length:W))) p0)<|Qa<|ckT<|Qd<|Qa<|Qp<|sn [2,4,6,21,22,23] [6] (pn 0 V p0) ?_
  have a3:=TV c.2;refine wT 4 0 (.own H 147201) b (λa4 a5=>?_);refine qU [(4,.one (.slc (.own H 2176) 1 ((eL b)++ [[.s c.1], [.s (X1 c.2)]])))] [4,24] [] [] (pc 5 (Nh c.2) (pa b [c.1,(X1 c.2)] p0)) ?_;refine eqn [(4,.o 2176 (b++ [c.1,(X1 c.2)]))] [4] [] [] (by rw[show((eL b)++ [[.s c.1], [.s (X1 c.2)]])=(eL (b++ [c.1,(X1 c.2)])) from Jg rfl (rfl)]<;>kernel_rfl) ?_;refine rn [2,4,21,22,23] [] (pw 0 d p0) ?_;exact zL (b++ [c.1,(X1 c.2)]) (zQ (wsf [(2176,147201)]) ⟨Qr V rfl U.1,(by first | exact Qh4 e V a | (simp;omega)),(by first | exact Qh4 e V a | (simp;omega))⟩)
 ·have a:=U.2.1;have h:=U.2.2;exact su [(24,.b D)] [] [] [] (pe 0 (zC ((d:W)<(f.2.2.2.2.length:W))) p0)<|Qa<|ckF<|Xa<|zL b (zQ (wsf [(147201,147351)]) ⟨Xq O rfl U.1,by first | exact a | omega,by first | exact a | omega⟩)
 have p:=g.2.1;have q:=g.2.2;exact sn [2] [] (pc 1 (U0 j ⟨#[32]⟩ (by first | omega | exact zW (Ug (m:=10) (n:=20) rfl (by assumption) (by omega)) (by decide) | (simp only[J8,Vd,Kz,zE];omega))) p0)<|Qc<|ps [] (Vx g.1 rfl)
def C5(_:E)(a:Wv)(b:K):Rd (K) (K) (K):=(.next ((((b++(⟨#[32]⟩:K))++a.1)++(⟨#[32]⟩:K))++(Zk a.2)))
def C6(_:E)(a:K):K:=a
def Kt(f:Yn):K:=(Out.on (X8 C5 C6 f.2.2.2.2 0 ((bif f.2.2.1 then(((((⟨#[102,105,108,101,32]⟩:K)++(Q7 f.1))++(⟨#[32]⟩:K))++(Q7 f.2.1))++(⟨#[32,115,32]⟩:K)) else(((((⟨#[102,105,108,101,32]⟩:K)++(Q7 f.1))++(⟨#[32]⟩:K))++(Q7 f.2.1))++(⟨#[32,111,32]⟩:K)))++(Q7 f.2.2.2.1))) (λa=>a))
theorem VF(f:Yn)(j:FBd f):ACalls vC 237 [.a [.i f.1,.i f.2.1,.b f.2.2.1,.i f.2.2.2.1,.h f.2.2.2.2]] (.s (Kt f)):=by
 refine en func237 λ_ _ _=>?_
 have q:=j.1;have r:=j.2.1;have s:=j.2.2.1;have t:=j.2.2.2.1;have b:zD (⟨#[32]⟩:K)=1:=rfl;have g:zD (⟨#[102,105,108,101,32]⟩:K)=5:=rfl;have m:zD (⟨#[32,115,32]⟩:K)=3:=rfl;have u:zD (⟨#[32,111,32]⟩:K)=3:=rfl;refine sn [1,2] [1] p0 ?_;have v:=Kb (n:=f.1) (by omega);have w:=Kb (n:=f.2.1) (by omega);refine tN [1,2,3] [1] (pc 2 (W4 f.1 (by omega)) (px (Zw (n:=(zD (⟨#[102,105,108,101,32]⟩:K)+zD (Q7 f.1))) (by have a:zD (⟨#[102,105,108,101,32]⟩:K)=5:=rfl;unfold uD;first|omega|(simp only[zE];omega) | (cases f.2.2.1<;>simp only[uC,uB,zE]<;>omega))) (px (Zw (n:=(zD ((⟨#[102,105,108,101,32]⟩:K)++(Q7 f.1))+zD (⟨#[32]⟩:K))) (by have a:zD (⟨#[102,105,108,101,32]⟩:K)=5:=rfl;have b:zD (⟨#[32]⟩:K)=1:=rfl;unfold uD;first|omega|(simp only[zE];omega) | (cases f.2.2.1<;>simp only[uC,uB,zE]<;>omega))) (pc 7 (W4 f.2.1 (by omega)) (px (Zw (n:=(zD (((⟨#[102,105,108,101,32]⟩:K)++(Q7 f.1))++(⟨#[32]⟩:K))+zD (Q7 f.2.1))) (by have a:zD (⟨#[102,105,108,101,32]⟩:K)=5:=rfl;have b:zD (⟨#[32]⟩:K)=1:=rfl;unfold uD;first|omega|(simp only[zE];omega) | (cases f.2.2.1<;>simp only[uC,uB,zE]<;>omega))) p0)))))<|Qa<|tu [(1,.p 1 0),(2,.s ⟨#[]⟩),(3,.s ((((⟨#[102,105,108,101,32]⟩:K)++(Q7 f.1))++(⟨#[32]⟩:K))++(Q7 f.2.1))),(15,.b f.2.2.1)] [0] [(1, [.i f.1,.i f.2.1,.b f.2.2.1,.i f.2.2.2.1,.h f.2.2.2.2])] [] p0<|jn [(3,.s (bif f.2.2.1 then(((((⟨#[102,105,108,101,32]⟩:K)++(Q7 f.1))++(⟨#[32]⟩:K))++(Q7 f.2.1))++(⟨#[32,115,32]⟩:K)) else(((((⟨#[102,105,108,101,32]⟩:K)++(Q7 f.1))++(⟨#[32]⟩:K))++(Q7 f.2.1))++(⟨#[32,111,32]⟩:K))))] [3,15] [] [] f.2.2.1 (λk=>?_) (λk=>?_) ?_
 ·refine ckt k ?_;refine rn [1,2,3] [1] (px (Zw (n:=(zD ((((⟨#[102,105,108,101,32]⟩:K)++(Q7 f.1))++(⟨#[32]⟩:K))++(Q7 f.2.1))+zD (⟨#[32,115,32]⟩:K))) (by have a:zD (⟨#[102,105,108,101,32]⟩:K)=5:=rfl;have b:zD (⟨#[32,115,32]⟩:K)=3:=rfl;have g:zD (⟨#[32]⟩:K)=1:=rfl;unfold uD;first|omega|(simp only[zE];omega) | (cases f.2.2.1<;>simp only[uC,uB,zE]<;>omega))) p0) ?_;exact zA (by rw[k]<;>kernel_rfl)
 ·refine ckf k ?_;refine rn [1,2,3] [1] (px (Zw (n:=(zD ((((⟨#[102,105,108,101,32]⟩:K)++(Q7 f.1))++(⟨#[32]⟩:K))++(Q7 f.2.1))+zD (⟨#[32,111,32]⟩:K))) (by have a:zD (⟨#[102,105,108,101,32]⟩:K)=5:=rfl;have b:zD (⟨#[32,111,32]⟩:K)=3:=rfl;have g:zD (⟨#[32]⟩:K)=1:=rfl;unfold uD;first|omega|(simp only[zE];omega) | (cases f.2.2.1<;>simp only[uC,uB,zE]<;>omega))) p0) ?_;exact zA (by rw[k]<;>kernel_rfl)
 have x:=Kb (n:=f.2.2.2.1) (by omega);refine sn [1,2,3] [1] (pc 3 (W4 f.2.2.2.1 (by omega)) (px (Zw (n:=(zD (bif f.2.2.1 then(((((⟨#[102,105,108,101,32]⟩:K)++(Q7 f.1))++(⟨#[32]⟩:K))++(Q7 f.2.1))++(⟨#[32,115,32]⟩:K)) else(((((⟨#[102,105,108,101,32]⟩:K)++(Q7 f.1))++(⟨#[32]⟩:K))++(Q7 f.2.1))++(⟨#[32,111,32]⟩:K)))+zD (Q7 f.2.2.2.1))) (by have a:zD (⟨#[102,105,108,101,32]⟩:K)=5:=rfl;have b:zD (⟨#[32,111,32]⟩:K)=3:=rfl;have g:zD (⟨#[32,115,32]⟩:K)=3:=rfl;have m:zD (⟨#[32]⟩:K)=1:=rfl;unfold uD;first|omega|(simp only[zE];omega) | (cases f.2.2.1<;>simp only[uC,uB,zE]<;>omega))) p0))<|Qa<|tn [1,2,3,4] [1] p0<|mz [(3,.s ((bif f.2.2.1 then(((((⟨#[102,105,108,101,32]⟩:K)++(Q7 f.1))++(⟨#[32]⟩:K))++(Q7 f.2.1))++(⟨#[32,115,32]⟩:K)) else(((((⟨#[102,105,108,101,32]⟩:K)++(Q7 f.1))++(⟨#[32]⟩:K))++(Q7 f.2.1))++(⟨#[32,111,32]⟩:K)))++(Q7 f.2.2.2.1))),(4,.i 0)] [3] [] []<|wB 1 4 .sh f.2.2.2.2 (λy z=>?_)
 refine VB C5 C6 f.2.2.2.2 ((bif f.2.2.1 then(((((⟨#[102,105,108,101,32]⟩:K)++(Q7 f.1))++(⟨#[32]⟩:K))++(Q7 f.2.1))++(⟨#[32,115,32]⟩:K)) else(((((⟨#[102,105,108,101,32]⟩:K)++(Q7 f.1))++(⟨#[32]⟩:K))++(Q7 f.2.1))++(⟨#[32,111,32]⟩:K)))++(Q7 f.2.2.2.1)) (λd c=> [(3,.s c),(4,.i (d:W))]) [3,4] (λ_ _=> []) [] (λp=> [(3,.s p)]) [1,3,4] (λ_=> []) [1] (λd c=>zD c<=100+30*d) wf0 (by first|omega|(simp only[zE];omega) | (cases f.2.2.1<;>simp only[uC,uB,zE]<;>omega)) (λd c O U=>?_) (λd c O U=>?_) (λp o=>?_)
 ·have h:=U.2;obtain⟨e,V⟩:=Xo (l:=f.2.2.2.2) (i:=d) O;have a1:=Qh5 j (zR V);refine Qa<|sn [1,2,3,4,29] [1] (pl 3 f.2.2.2.2 (pe 4 (zB ((d:W)<(f.2.2.2.2.length:W))) p0))<|ckT<|Qd<|Qa<|Qp ?_
  have a2:=Qm8 e.2;refine qN [1,2,3,4] [1] (px (Zw (n:=(zD c+zD (⟨#[32]⟩:K))) (by have a:zD (⟨#[32]⟩:K)=1:=rfl;unfold uD;first|omega|(simp only[zE];omega) | (cases f.2.2.1<;>simp only[uC,uB,zE]<;>omega))) (pn 5 V (px (Zw (n:=(zD (c++(⟨#[32]⟩:K))+zD e.1)) (by have a:zD (⟨#[32]⟩:K)=1:=rfl;unfold uD;first|omega|(simp only[zE];omega) | (cases f.2.2.1<;>simp only[uC,uB,zE]<;>omega))) (px (Zw (n:=(zD ((c++(⟨#[32]⟩:K))++e.1)+zD (⟨#[32]⟩:K))) (by have a:zD (⟨#[32]⟩:K)=1:=rfl;unfold uD;first|omega|(simp only[zE];omega) | (cases f.2.2.1<;>simp only[uC,uB,zE]<;>omega))) (pn 13 V (pc 16 (C4 e.2) (px (Zw (n:=(zD (((c++(⟨#[32]⟩:K))++e.1)++(⟨#[32]⟩:K))+zD (Zk e.2))) (by have a:zD (⟨#[32]⟩:K)=1:=rfl;unfold uD;first|omega|(simp only[zE];omega) | (cases f.2.2.1<;>simp only[uC,uB,zE]<;>omega))) p0))))))) ?_;refine qu [(3,.s ((((c++(⟨#[32]⟩:K))++e.1)++(⟨#[32]⟩:K))++(Zk e.2))),(4,.i ((d+1:E):W))] [3,4] [] [] (pw 1 d p0) ?_;exact xw ((((c++(⟨#[32]⟩:K))++e.1)++(⟨#[32]⟩:K))++(Zk e.2)) ⟨Qr V rfl U.1,(by first|omega|(simp only[zE];omega))⟩
 ·have h:=U.2;exact Qa<|sn [1,2,3,4,29] [1] (pl 3 f.2.2.2.2 (pe 4 (zC ((d:W)<(f.2.2.2.2.length:W))) p0))<|ckF<|Xa<|xw _ (Xq O rfl U.1)
 exact sn [2] [] p0<|Qc<|ps [] (Vx o rfl)
open GoE (enc wide)
def Yc(n_:E)(q:I Q9)(at_:W):K:=match n_ with
 | 0=>default
 | n_+1=>(bif ((nth q at_.toNat).1==(2:W)) then(Xs ⟨#[32]⟩ [(Qy ((nth q at_.toNat).1)),(nth q at_.toNat).2.2.2.1]) else(bif (bif ((nth q at_.toNat).1==(8:W)) then((nth q at_.toNat).1==(8:W)) else((nth q at_.toNat).1==(9:W))) then(Xs ⟨#[32]⟩ [(Qy ((nth q at_.toNat).1)),(nth q at_.toNat).2.2.2.1]) else(bif (bif ((nth q at_.toNat).1==(3:W)) then((nth q at_.toNat).1==(3:W)) else((nth q at_.toNat).1==(4:W))) then(Xs ⟨#[32]⟩ [(Qy ((nth q at_.toNat).1)),(nth q at_.toNat).2.2.2.1,(X1 ((nth q at_.toNat).2.2.2.2.1,(nth q at_.toNat).2.2.2.2.2.1,(nth q at_.toNat).2.2.2.2.2.2))]) else(bif ((nth q at_.toNat).1==(5:W)) then(Xs ⟨#[32]⟩ [(Qy ((nth q at_.toNat).1)),(Yc n_ q ((nth q at_.toNat).2.1))]) else(bif ((nth q at_.toNat).1==(6:W)) then(Xs ⟨#[32]⟩ [(Qy ((nth q at_.toNat).1)),(Yc n_ q ((nth q at_.toNat).2.1)),(Yc n_ q ((nth q at_.toNat).2.2.1))]) else(bif ((nth q at_.toNat).1==(7:W)) then(Xs ⟨#[32]⟩ [(Qy ((nth q at_.toNat).1)),(Yc n_ q ((nth q at_.toNat).2.1)),(Yc n_ q ((nth q at_.toNat).2.2.1))]) else(Xs ⟨#[32]⟩ [(Qy ((nth q at_.toNat).1))])))))))
theorem Qtd:∀(n:E) {q:I Q9} (_:Qj q=H) {k:E} (_:k<q.length),(Yc n q (k:W)).size+8<=40*2^k
 | 0,q,hv,k,hk=>by
  have e:1<=2^k:=Nat.one_le_two_pow;show 0+8<=_;omega
 | n+1,q,hv,k,hk=>by
  have e:1<=2^k:=Nat.one_le_two_pow;have v:(⟨#[32]⟩:K).size=1:=rfl;have f:=AY hv (at_:=(k:W)) (by omega) (by omega);have g:=Qh3 (nth q (k:W).toNat).1;have h:=TV ((nth q (k:W).toNat).2.2.2.2.1,(nth q (k:W).toNat).2.2.2.2.2.1,(nth q (k:W).toNat).2.2.2.2.2.2)
  have a:∀j:W,0<=j/\j<(k:W)->(Yc n q j).size+8<=20*2^k:=λj i=>by
   obtain⟨m,rfl⟩:=Int.eq_ofNat_of_zero_le i.1;have l:=Qtd n hv (k:=m) (by omega);have b:2^(m+1)<=2^k:=Nat.pow_le_pow_right (by decide) (by omega);rw[Nat.pow_succ] at b;omega
  have o:=LN hv (k:=(k:W)) (by omega) (by omega);have p:=VZ hv (k:=(k:W)) (by omega) (by omega);have r:=UZ hv (k:=(k:W)) (by omega) (by omega);have s:=LO hv (k:=(k:W)) (by omega) (by omega);have t:=NA hv (k:=(k:W)) (by omega) (by omega);unfold Yc;generalize nth q (k:W).toNat=x at*;simp only[J8,Vd,Kz];cases l:(x.1==(2:W)) with
  | true=>simp only[uC,zE];omega
  | false=>
  cases w:(x.1==(8:W)) with
  | true=>simp only[uC,uB,zE];omega
  | false=>
  cases y:(x.1==(9:W)) with
  | true=>simp only[uC,uB,zE];omega
  | false=>
  cases b:(x.1==(3:W)) with
  | true=>simp only[uC,uB,zE];omega
  | false=>
  cases z:(x.1==(4:W)) with
  | true=>simp only[uC,uB,zE];omega
  | false=>
  cases u:(x.1==(5:W)) with
  | true=>have:=a _ (o u);simp only[uC,uB,zE];omega
  | false=>
  cases c:(x.1==(6:W)) with
  | true=>have:=a _ (p c);have:=a _ (s c);simp only[uC,uB,zE];omega
  | false=>
  cases d:(x.1==(7:W)) with
  | true=>have:=a _ (r d);have:=a _ (t d);simp only[uC,uB,zE];omega
  | false=>simp only[uB];omega
theorem TW(n:E){q:I Q9}(a:Qj q=H){k:W}(b:0<=k)(c:k<(q.length:W)):(Yc n q k).size<=10240:=by
 obtain⟨m,rfl⟩:=Int.eq_ofNat_of_zero_le b;have d:=Qtd n a (k:=m) (by omega);have e:=Fs a;have f:2^m<=2^8:=Nat.pow_le_pow_right (by decide) (by omega);omega
theorem AZ:∀(d:E) (q:I Q9) (at_:W) (a:Qj q=H) (ha:0<=at_) (hb:at_<(q.length:W)) (hn:at_<((d:E):W)),ACalls vC 304 [.h q,.i at_] (.s (Yc d q at_)):=by
 intro d
 induction d with
 | zero=>intro q at_ a ha hb hn;exact(by omega:False).elim
 | succ d l=>
  intro q at_ a ha hb hn
  refine en func304 λ_ _ _=>?_
  have aj:=AY a ha hb;have ak:=Fs a;have al:zD (⟨#[32]⟩:K)=1:=rfl;refine sn [0,1,4] [] p0<|wT 0 0 .sh q (λam an=>?_)
  have y:=ng q at_.toNat;refine tn [0,4,5] [5] (pg 2 at_ y p0) ?_;have ao:=Qh3 ((nth q at_.toNat).1);refine tu [(4,.s ⟨#[]⟩),(5,.p 5 0),(6,.o 896 [(Qy ((nth q at_.toNat).1))])] [1] [(5, [.i ((nth q at_.toNat).1),.i ((nth q at_.toNat).2.1),.i ((nth q at_.toNat).2.2.1),.s ((nth q at_.toNat).2.2.2.1),.i ((nth q at_.toNat).2.2.2.2.1),.i ((nth q at_.toNat).2.2.2.2.2.1),.s ((nth q at_.toNat).2.2.2.2.2.2)])] [] (pc 2 (Rq ((nth q at_.toNat).1)) p0)<|Qa<|sn [0,4,5,6,16] [5] p0<|Qp<|Qa<|tn [0,4,5,6,16,17] [5] p0<|ck ((nth q at_.toNat).1==(2:W)) (λi=>?_) (λi=>?_)
  ·have z:=eq_of_beq i;refine Qd<|ckt i ?_
   refine wT 6 0 (.own H 896) [(Qy ((nth q at_.toNat).1))] (λap aq=>?_);refine qu [(6,.o 1600 [(Qy ((nth q at_.toNat).1)),(nth q at_.toNat).2.2.2.1])] [0,5,6] [] [5] (pa [(Qy ((nth q at_.toNat).1))] [(nth q at_.toNat).2.2.2.1] p0) ?_;exact sn [4] [] (pc 1 (U0 [(Qy ((nth q at_.toNat).1)),(nth q at_.toNat).2.2.2.1] ⟨#[32]⟩ (by first | omega | exact zW (Ug (m:=10) (n:=20) rfl (by assumption) (by omega)) (by decide) | (simp only[J8,Vd,Kz,zE];omega))) p0)<|Qc<|ps [] (Xg i rfl)
  have z:=Yi i;refine tu [(16,.i ((nth q at_.toNat).1)),(17,.b ((nth q at_.toNat).1==(8:W)))] [] [] [] p0<|jn [(17,.b (bif ((nth q at_.toNat).1==(8:W)) then((nth q at_.toNat).1==(8:W)) else((nth q at_.toNat).1==(9:W))))] [17] [] [] ((nth q at_.toNat).1==(8:W)) (λj=>?_) (λj=>?_) ?_
  ·have V:=eq_of_beq j;refine ckt j ?_;exact Qd<|⟨rfl,Qe (by rw[j]<;>kernel_rfl)⟩
  ·have V:=Yi j;refine ckf j ?_;refine rn [0,4,5,6,16,17] [5] p0 ?_;exact zA (by rw[j]<;>kernel_rfl)
  refine ck (bif ((nth q at_.toNat).1==(8:W)) then((nth q at_.toNat).1==(8:W)) else((nth q at_.toNat).1==(9:W))) (λk=>?_) (λk=>?_)
  ·refine wT 6 0 (.own H 896) [(Qy ((nth q at_.toNat).1))] (λa1 a2=>?_);refine rn [4,6] [] (pa [(Qy ((nth q at_.toNat).1))] [(nth q at_.toNat).2.2.2.1] p0) ?_;exact tn [4] [] (pc 1 (U0 [(Qy ((nth q at_.toNat).1)),(nth q at_.toNat).2.2.2.1] ⟨#[32]⟩ (by first | omega | exact zW (Ug (m:=10) (n:=20) rfl (by assumption) (by omega)) (by decide) | (simp only[J8,Vd,Kz,zE];omega))) p0)<|Qc<|ps [] (Qi i (Xg k rfl))
  refine Qa<|sn [0,4,5,6,16,26] [5] p0<|mz [(26,.b ((nth q at_.toNat).1==(3:W)))] [17] [] []<|jn [(26,.b (bif ((nth q at_.toNat).1==(3:W)) then((nth q at_.toNat).1==(3:W)) else((nth q at_.toNat).1==(4:W))))] [26] [] [] ((nth q at_.toNat).1==(3:W)) (λf=>?_) (λf=>?_) ?_
  ·have o:=eq_of_beq f;refine ckt f ?_;exact Qd<|⟨rfl,Qe (by rw[f]<;>kernel_rfl)⟩
  ·have o:=Yi f;refine ckf f ?_;refine rn [0,4,5,6,16,26] [5] p0 ?_;exact zA (by rw[f]<;>kernel_rfl)
  refine ck (bif ((nth q at_.toNat).1==(3:W)) then((nth q at_.toNat).1==(3:W)) else((nth q at_.toNat).1==(4:W))) (λh=>?_) (λh=>?_)
  ·have a3:=TV ((nth q at_.toNat).2.2.2.2.1,(nth q at_.toNat).2.2.2.2.2.1,(nth q at_.toNat).2.2.2.2.2.2);refine wT 6 0 (.own H 896) [(Qy ((nth q at_.toNat).1))] (λa4 a5=>?_);refine rN [4,6] [] (pc 5 (Nh ((nth q at_.toNat).2.2.2.2.1,(nth q at_.toNat).2.2.2.2.2.1,(nth q at_.toNat).2.2.2.2.2.2)) (pa [(Qy ((nth q at_.toNat).1))] [(nth q at_.toNat).2.2.2.1,(X1 ((nth q at_.toNat).2.2.2.2.1,(nth q at_.toNat).2.2.2.2.2.1,(nth q at_.toNat).2.2.2.2.2.2))] p0)) ?_;exact tn [4] [] (pc 1 (U0 [(Qy ((nth q at_.toNat).1)),(nth q at_.toNat).2.2.2.1,(X1 ((nth q at_.toNat).2.2.2.2.1,(nth q at_.toNat).2.2.2.2.2.1,(nth q at_.toNat).2.2.2.2.2.2))] ⟨#[32]⟩ (by first | omega | exact zW (Ug (m:=10) (n:=20) rfl (by assumption) (by omega)) (by decide) | (simp only[J8,Vd,Kz,zE];omega))) p0)<|Qc<|ps [] (Qi i (Qi k (Xg h rfl)))
  refine sn [0,4,5,6,16,37] [5] p0<|ck ((nth q at_.toNat).1==(5:W)) (λe=>?_) (λe=>?_)
  ·have p:=LN a ha hb e;have a6:=TW d a p.1 (by omega);have r:=eq_of_beq e;refine wT 6 0 (.own H 896) [(Qy ((nth q at_.toNat).1))] (λa7 a8=>?_);refine qn [4,6] [] (pc 4 (l q ((nth q at_.toNat).2.1) a (by have g:=LN a ha hb e;omega) (by have g:=LN a ha hb e;omega) (by have g:=LN a ha hb e;omega)) (pa [(Qy ((nth q at_.toNat).1))] [(Yc d q ((nth q at_.toNat).2.1))] p0)) ?_;exact tu [(4,.s (Xs ⟨#[32]⟩ [(Qy ((nth q at_.toNat).1)),(Yc d q ((nth q at_.toNat).2.1))]))] [0,4,5,6,16,26] [] [5] (pc 1 (U0 [(Qy ((nth q at_.toNat).1)),(Yc d q ((nth q at_.toNat).2.1))] ⟨#[32]⟩ (by first | omega | exact zW (Ug (m:=10) (n:=20) rfl (by assumption) (by omega)) (by decide) | (simp only[J8,Vd,Kz,zE];omega))) p0)<|Qc<|ps [] (Qi i (Qi k (Qi h (Xg e rfl))))
  have r:=Yi e;refine Qa<|tn [0,4,5,6,16,46] [5] p0<|ck ((nth q at_.toNat).1==(6:W)) (λb=>?_) (λb=>?_)
  ·have s:=VZ a ha hb b;have a9:=TW d a s.1 (by omega);have t:=LO a ha hb b;have aa:=TW d a t.1 (by omega);have u:=eq_of_beq b;refine Qd<|ckt b ?_
   refine wT 6 0 (.own H 896) [(Qy ((nth q at_.toNat).1))] (λab ad=>?_);refine qU [(6,.o 3776 [(Qy ((nth q at_.toNat).1)),(Yc d q ((nth q at_.toNat).2.1)),(Yc d q ((nth q at_.toNat).2.2.1))])] [0,5,6,16,26] [] [5] (pc 4 (l q ((nth q at_.toNat).2.1) a (by have g:=VZ a ha hb b;omega) (by have g:=VZ a ha hb b;omega) (by have g:=VZ a ha hb b;omega)) (pc 8 (l q ((nth q at_.toNat).2.2.1) a (by have g:=LO a ha hb b;omega) (by have g:=LO a ha hb b;omega) (by have g:=LO a ha hb b;omega)) (pa [(Qy ((nth q at_.toNat).1))] [(Yc d q ((nth q at_.toNat).2.1)),(Yc d q ((nth q at_.toNat).2.2.1))] p0))) ?_;exact sn [4] [] (pc 1 (U0 [(Qy ((nth q at_.toNat).1)),(Yc d q ((nth q at_.toNat).2.1)),(Yc d q ((nth q at_.toNat).2.2.1))] ⟨#[32]⟩ (by first | omega | exact zW (Ug (m:=10) (n:=20) rfl (by assumption) (by omega)) (by decide) | (simp only[J8,Vd,Kz,zE];omega))) p0)<|Qc<|ps [] (Qi i (Qi k (Qi h (Qi e (Xg b rfl)))))
  have u:=Yi b;refine qu [(46,.b ((nth q at_.toNat).1==(7:W)))] [16,26] [] [] p0 ?_;refine ck ((nth q at_.toNat).1==(7:W)) (λc=>?_) (λc=>?_)
  ·have v:=UZ a ha hb c;have ae:=TW d a v.1 (by omega);have w:=NA a ha hb c;have af:=TW d a w.1 (by omega);have x:=eq_of_beq c;refine wT 6 0 (.own H 896) [(Qy ((nth q at_.toNat).1))] (λah ai=>?_);refine rN [4,6] [] (pc 4 (l q ((nth q at_.toNat).2.1) a (by have g:=UZ a ha hb c;omega) (by have g:=UZ a ha hb c;omega) (by have g:=UZ a ha hb c;omega)) (pc 8 (l q ((nth q at_.toNat).2.2.1) a (by have g:=NA a ha hb c;omega) (by have g:=NA a ha hb c;omega) (by have g:=NA a ha hb c;omega)) (pa [(Qy ((nth q at_.toNat).1))] [(Yc d q ((nth q at_.toNat).2.1)),(Yc d q ((nth q at_.toNat).2.2.1))] p0))) ?_;exact tn [4] [] (pc 1 (U0 [(Qy ((nth q at_.toNat).1)),(Yc d q ((nth q at_.toNat).2.1)),(Yc d q ((nth q at_.toNat).2.2.1))] ⟨#[32]⟩ (by first | omega | exact zW (Ug (m:=10) (n:=20) rfl (by assumption) (by omega)) (by decide) | (simp only[J8,Vd,Kz,zE];omega))) p0)<|Qc<|ps [] (Qi i (Qi k (Qi h (Qi e (Qi b (Xg c rfl))))))
  have x:=Yi c;exact Qd<|sn [4] [] (pc 1 (U0 [(Qy ((nth q at_.toNat).1))] ⟨#[32]⟩ (by first | omega | exact zW (Ug (m:=10) (n:=20) rfl (by assumption) (by omega)) (by decide) | (simp only[J8,Vd,Kz,zE];omega))) p0)<|Qc<|ps [] (Qi i (Qi k (Qi h (Qi e (Qi b (Qi c rfl))))))
def Js(n_:E)(q:I Q9)(at_:W):K:=match n_ with
 | 0=>default
 | n_+1=>(bif ((nth q at_.toNat).1==(2:W)) then(((X6 ((nth q at_.toNat).1))++(⟨#[32]⟩:K))++((nth q at_.toNat).2.2.2.1)) else(bif (bif ((nth q at_.toNat).1==(8:W)) then((nth q at_.toNat).1==(8:W)) else((nth q at_.toNat).1==(9:W))) then(((X6 ((nth q at_.toNat).1))++(⟨#[32]⟩:K))++((nth q at_.toNat).2.2.2.1)) else(bif (bif ((nth q at_.toNat).1==(3:W)) then((nth q at_.toNat).1==(3:W)) else((nth q at_.toNat).1==(4:W))) then(((((X6 ((nth q at_.toNat).1))++(⟨#[32]⟩:K))++((nth q at_.toNat).2.2.2.1))++(⟨#[32]⟩:K))++(Zk ((nth q at_.toNat).2.2.2.2.1,(nth q at_.toNat).2.2.2.2.2.1,(nth q at_.toNat).2.2.2.2.2.2))) else(bif ((nth q at_.toNat).1==(5:W)) then(((X6 ((nth q at_.toNat).1))++(⟨#[32]⟩:K))++(Js n_ q ((nth q at_.toNat).2.1))) else(bif ((nth q at_.toNat).1==(6:W)) then(((((X6 ((nth q at_.toNat).1))++(⟨#[32]⟩:K))++(Js n_ q ((nth q at_.toNat).2.1)))++(⟨#[32]⟩:K))++(Js n_ q ((nth q at_.toNat).2.2.1))) else(bif ((nth q at_.toNat).1==(7:W)) then(((((X6 ((nth q at_.toNat).1))++(⟨#[32]⟩:K))++(Js n_ q ((nth q at_.toNat).2.1)))++(⟨#[32]⟩:K))++(Js n_ q ((nth q at_.toNat).2.2.1))) else(X6 ((nth q at_.toNat).1))))))))
theorem Qh8:∀(n:E) (q:I Q9) (k:W),Js n q k=Yc n q k
 | 0,_,_=>rfl
 | n+1,q,k=>by
  unfold Js Yc;simp only[J8,Vd,Kz,Qcj,Qrf,Qh8 n]
theorem OK(n:E){q:I Q9}(a:Qj q=H){k:W}(b:0<=k)(c:k<(q.length:W)):(Js n q k).size<=10240:=by rw[Qh8];exact TW n a b c
theorem IE:∀(f:E) (q:I Q9) (at_:W) (b:Qj q=H) (ha:0<=at_) (hb:at_<(q.length:W)) (y:at_<((f:E):W)),ACalls vC 280 [.h q,.i at_] (.s (Js f q at_)):=by
 intro f
 induction f with
 | zero=>intro q at_ b ha hb y;exact(by omega:False).elim
 | succ f k=>
  intro q at_ b ha hb y
  refine en func280 λ_ _ _=>?_
  have a6:=AY b ha hb;have a7:=Fs b;have a8:zD (⟨#[32]⟩:K)=1:=rfl;refine sn [0,1,4] [] p0<|wT 0 0 .sh q (λa9 aa=>?_)
  have w:=ng q at_.toNat;refine tn [0,4,5] [5] (pg 2 at_ w p0) ?_;have ab:=Qm9 ((nth q at_.toNat).1);refine tu [(4,.s ⟨#[]⟩),(5,.p 5 0),(6,.s (X6 ((nth q at_.toNat).1)))] [1] [(5, [.i ((nth q at_.toNat).1),.i ((nth q at_.toNat).2.1),.i ((nth q at_.toNat).2.2.1),.s ((nth q at_.toNat).2.2.2.1),.i ((nth q at_.toNat).2.2.2.2.1),.i ((nth q at_.toNat).2.2.2.2.2.1),.s ((nth q at_.toNat).2.2.2.2.2.2)])] [] (pc 2 (Rr ((nth q at_.toNat).1)) p0)<|Qa<|sn [0,4,5,6,15] [5] p0<|Qp<|Qa<|tn [0,4,5,6,15,16] [5] p0<|ck ((nth q at_.toNat).1==(2:W)) (λh=>?_) (λh=>?_)
  ·have x:=eq_of_beq h;refine Qd<|ckt h ?_
   exact tu [(4,.s (((X6 ((nth q at_.toNat).1))++(⟨#[32]⟩:K))++((nth q at_.toNat).2.2.2.1)))] [0,4,5] [] [5] (px (Zw (n:=(zD (X6 ((nth q at_.toNat).1))+zD (⟨#[32]⟩:K))) (by have a:zD (⟨#[32]⟩:K)=1:=rfl;unfold uD;first|omega|(simp only[zE];omega))) (px (Zw (n:=(zD ((X6 ((nth q at_.toNat).1))++(⟨#[32]⟩:K))+zD ((nth q at_.toNat).2.2.2.1))) (by have a:zD (⟨#[32]⟩:K)=1:=rfl;unfold uD;first|omega|(simp only[zE];omega))) p0))<|Qc<|ps [] (Xg h rfl)
  have x:=Yi h;refine tu [(15,.i ((nth q at_.toNat).1)),(16,.b ((nth q at_.toNat).1==(8:W)))] [] [] [] p0<|jn [(16,.b (bif ((nth q at_.toNat).1==(8:W)) then((nth q at_.toNat).1==(8:W)) else((nth q at_.toNat).1==(9:W))))] [16] [] [] ((nth q at_.toNat).1==(8:W)) (λl=>?_) (λl=>?_) ?_
  ·refine ckt l ?_;exact Qd<|⟨rfl,Qe (by rw[l]<;>kernel_rfl)⟩
  ·refine ckf l ?_;refine rn [0,4,5,6,15,16] [5] p0 ?_;exact zA (by rw[l]<;>kernel_rfl)
  refine ck (bif ((nth q at_.toNat).1==(8:W)) then((nth q at_.toNat).1==(8:W)) else((nth q at_.toNat).1==(9:W))) (λi=>?_) (λi=>?_)
  ·exact sn [4,6] [] (px (Zw (n:=(zD (X6 ((nth q at_.toNat).1))+zD (⟨#[32]⟩:K))) (by have a:zD (⟨#[32]⟩:K)=1:=rfl;unfold uD;first|omega|(simp only[zE];omega))) (px (Zw (n:=(zD ((X6 ((nth q at_.toNat).1))++(⟨#[32]⟩:K))+zD ((nth q at_.toNat).2.2.2.1))) (by have a:zD (⟨#[32]⟩:K)=1:=rfl;unfold uD;first|omega|(simp only[zE];omega))) p0))<|Qc<|ps [] (Qi h (Xg i rfl))
  refine Qa<|sn [0,4,5,6,15,25] [5] p0<|mz [(25,.b ((nth q at_.toNat).1==(3:W)))] [16] [] []<|jn [(25,.b (bif ((nth q at_.toNat).1==(3:W)) then((nth q at_.toNat).1==(3:W)) else((nth q at_.toNat).1==(4:W))))] [25] [] [] ((nth q at_.toNat).1==(3:W)) (λm=>?_) (λm=>?_) ?_
  ·refine ckt m ?_;exact Qd<|⟨rfl,Qe (by rw[m]<;>kernel_rfl)⟩
  ·refine ckf m ?_;refine rn [0,4,5,6,15,25] [5] p0 ?_;exact zA (by rw[m]<;>kernel_rfl)
  refine ck (bif ((nth q at_.toNat).1==(3:W)) then((nth q at_.toNat).1==(3:W)) else((nth q at_.toNat).1==(4:W))) (λj=>?_) (λj=>?_)
  ·have z:=Qm8 ((nth q at_.toNat).2.2.2.2.1,(nth q at_.toNat).2.2.2.2.2.1,(nth q at_.toNat).2.2.2.2.2.2);exact sN [4,6] [] (px (Zw (n:=(zD (X6 ((nth q at_.toNat).1))+zD (⟨#[32]⟩:K))) (by have a:zD (⟨#[32]⟩:K)=1:=rfl;unfold uD;first|omega|(simp only[zE];omega))) (px (Zw (n:=(zD ((X6 ((nth q at_.toNat).1))++(⟨#[32]⟩:K))+zD ((nth q at_.toNat).2.2.2.1))) (by have a:zD (⟨#[32]⟩:K)=1:=rfl;unfold uD;first|omega|(simp only[zE];omega))) (px (Zw (n:=(zD (((X6 ((nth q at_.toNat).1))++(⟨#[32]⟩:K))++((nth q at_.toNat).2.2.2.1))+zD (⟨#[32]⟩:K))) (by have a:zD (⟨#[32]⟩:K)=1:=rfl;unfold uD;first|omega|(simp only[zE];omega))) (pc 8 (C4 ((nth q at_.toNat).2.2.2.2.1,(nth q at_.toNat).2.2.2.2.2.1,(nth q at_.toNat).2.2.2.2.2.2)) (px (Zw (n:=(zD ((((X6 ((nth q at_.toNat).1))++(⟨#[32]⟩:K))++((nth q at_.toNat).2.2.2.1))++(⟨#[32]⟩:K))+zD (Zk ((nth q at_.toNat).2.2.2.2.1,(nth q at_.toNat).2.2.2.2.2.1,(nth q at_.toNat).2.2.2.2.2.2)))) (by have a:zD (⟨#[32]⟩:K)=1:=rfl;unfold uD;first|omega|(simp only[zE];omega))) p0)))))<|Qc<|ps [] (Qi h (Qi i (Xg j rfl)))
  refine sn [0,4,5,6,15,38] [5] p0<|ck ((nth q at_.toNat).1==(5:W)) (λe=>?_) (λe=>?_)
  ·have o:=LN b ha hb e;have V:=OK f b o.1 (by omega);have p:=eq_of_beq e;exact tn [4,6] [] (px (Zw (n:=(zD (X6 ((nth q at_.toNat).1))+zD (⟨#[32]⟩:K))) (by have a:zD (⟨#[32]⟩:K)=1:=rfl;unfold uD;first|omega|(simp only[zE];omega))) (pc 5 (k q ((nth q at_.toNat).2.1) b (by have g:=LN b ha hb e;omega) (by have g:=LN b ha hb e;omega) (by have g:=LN b ha hb e;omega)) (px (Zw (n:=(zD ((X6 ((nth q at_.toNat).1))++(⟨#[32]⟩:K))+zD (Js f q ((nth q at_.toNat).2.1)))) (by have a:zD (⟨#[32]⟩:K)=1:=rfl;unfold uD;first|omega|(simp only[zE];omega))) p0)))<|Qc<|ps [] (Qi h (Qi i (Qi j (Xg e rfl))))
  have p:=Yi e;refine Qa<|tn [0,4,5,6,15,47] [5] p0<|ck ((nth q at_.toNat).1==(6:W)) (λc=>?_) (λc=>?_)
  ·have r:=VZ b ha hb c;have a1:=OK f b r.1 (by omega);have s:=LO b ha hb c;have a2:=OK f b s.1 (by omega);have t:=eq_of_beq c;refine Qd<|ckt c ?_
   exact tU [(4,.s (((((X6 ((nth q at_.toNat).1))++(⟨#[32]⟩:K))++(Js f q ((nth q at_.toNat).2.1)))++(⟨#[32]⟩:K))++(Js f q ((nth q at_.toNat).2.2.1))))] [0,4,5,15,25] [] [5] (px (Zw (n:=(zD (X6 ((nth q at_.toNat).1))+zD (⟨#[32]⟩:K))) (by have a:zD (⟨#[32]⟩:K)=1:=rfl;unfold uD;first|omega|(simp only[zE];omega))) (pc 5 (k q ((nth q at_.toNat).2.1) b (by have g:=VZ b ha hb c;omega) (by have g:=VZ b ha hb c;omega) (by have g:=VZ b ha hb c;omega)) (px (Zw (n:=(zD ((X6 ((nth q at_.toNat).1))++(⟨#[32]⟩:K))+zD (Js f q ((nth q at_.toNat).2.1)))) (by have a:zD (⟨#[32]⟩:K)=1:=rfl;unfold uD;first|omega|(simp only[zE];omega))) (px (Zw (n:=(zD (((X6 ((nth q at_.toNat).1))++(⟨#[32]⟩:K))++(Js f q ((nth q at_.toNat).2.1)))+zD (⟨#[32]⟩:K))) (by have a:zD (⟨#[32]⟩:K)=1:=rfl;unfold uD;first|omega|(simp only[zE];omega))) (pc 11 (k q ((nth q at_.toNat).2.2.1) b (by have g:=LO b ha hb c;omega) (by have g:=LO b ha hb c;omega) (by have g:=LO b ha hb c;omega)) (px (Zw (n:=(zD ((((X6 ((nth q at_.toNat).1))++(⟨#[32]⟩:K))++(Js f q ((nth q at_.toNat).2.1)))++(⟨#[32]⟩:K))+zD (Js f q ((nth q at_.toNat).2.2.1)))) (by have a:zD (⟨#[32]⟩:K)=1:=rfl;unfold uD;first|omega|(simp only[zE];omega))) p0))))))<|Qc<|ps [] (Qi h (Qi i (Qi j (Qi e (Xg c rfl)))))
  have t:=Yi c;refine qu [(47,.b ((nth q at_.toNat).1==(7:W)))] [15,25] [] [] p0 ?_;refine ck ((nth q at_.toNat).1==(7:W)) (λd=>?_) (λd=>?_)
  ·have u:=UZ b ha hb d;have a3:=OK f b u.1 (by omega);have v:=NA b ha hb d;have a4:=OK f b v.1 (by omega);have a5:=eq_of_beq d;exact sN [4,6] [] (px (Zw (n:=(zD (X6 ((nth q at_.toNat).1))+zD (⟨#[32]⟩:K))) (by have a:zD (⟨#[32]⟩:K)=1:=rfl;unfold uD;first|omega|(simp only[zE];omega))) (pc 5 (k q ((nth q at_.toNat).2.1) b (by have g:=UZ b ha hb d;omega) (by have g:=UZ b ha hb d;omega) (by have g:=UZ b ha hb d;omega)) (px (Zw (n:=(zD ((X6 ((nth q at_.toNat).1))++(⟨#[32]⟩:K))+zD (Js f q ((nth q at_.toNat).2.1)))) (by have a:zD (⟨#[32]⟩:K)=1:=rfl;unfold uD;first|omega|(simp only[zE];omega))) (px (Zw (n:=(zD (((X6 ((nth q at_.toNat).1))++(⟨#[32]⟩:K))++(Js f q ((nth q at_.toNat).2.1)))+zD (⟨#[32]⟩:K))) (by have a:zD (⟨#[32]⟩:K)=1:=rfl;unfold uD;first|omega|(simp only[zE];omega))) (pc 11 (k q ((nth q at_.toNat).2.2.1) b (by have g:=NA b ha hb d;omega) (by have g:=NA b ha hb d;omega) (by have g:=NA b ha hb d;omega)) (px (Zw (n:=(zD ((((X6 ((nth q at_.toNat).1))++(⟨#[32]⟩:K))++(Js f q ((nth q at_.toNat).2.1)))++(⟨#[32]⟩:K))+zD (Js f q ((nth q at_.toNat).2.2.1)))) (by have a:zD (⟨#[32]⟩:K)=1:=rfl;unfold uD;first|omega|(simp only[zE];omega))) p0))))))<|Qc<|ps [] (Qi h (Qi i (Qi j (Qi e (Qi c (Xg d rfl))))))
  exact Qd<|sn [4] [] p0<|Qc<|ps [] (Qi h (Qi i (Qi j (Qi e (Qi c (Qi d rfl))))))
def Xh(q:I Q9):K:=(bif (!(Qj q)) then⟨#[]⟩ else(Yc (zF q) q ((q.length:W)-1)))
theorem JS(q:I Q9):ACalls vC 261 [.h q] (.s (Xh q)):=by
 refine en func261 λ_ _ _=>sn [0,2] [] p0 ?_
 refine Qa<|tn [0,2,5] [] (pc 1 (V6 q) p0)<|ck (!(Qj q)) (λb=>?_) (λb=>?_)
 ·exact tu [(2,.s ⟨#[]⟩)] [] [] [] p0<|Qc<|ps [] (Xg b rfl)
 have a:(Qj q)=H:=Z5 b;refine Qd<|wT 0 0 .sh q (λc d=>?_)
 exact tu [(2,.s (Yc (zF q) q ((q.length:W)-1)))] [0] [] [] (pl 2 q (pe 3 (G6 (IntWalk.i64_in ((q.length:W)-1) (by omega))) (pc 4 (AZ (zF q) q ((q.length:W)-1) a (by have:=Fs a;omega) (by omega) (by omega)) p0)))<|Qc<|ps [] (Qi b rfl)
def Yr(q:I Q9):K:=(bif (!(Yy q)) then⟨#[]⟩ else(Js (zF q) q ((q.length:W)-1)))
theorem Nk(q:I Q9):ACalls vC 238 [.h q] (.s (Yr q)):=by
 refine en func238 λ_ _ _=>sn [0,2] [] p0 ?_
 refine Qa<|tn [0,2,5] [] (pc 1 (V8 q) p0)<|ck (!(Yy q)) (λb=>?_) (λb=>?_)
 ·exact tu [(2,.s ⟨#[]⟩)] [] [] [] p0<|Qc<|ps [] (Xg b rfl)
 have a:(Yy q)=H:=Z5 b;refine Qd<|wT 0 0 .sh q (λc d=>?_)
 exact tu [(2,.s (Js (zF q) q ((q.length:W)-1)))] [0] [] [] (pl 2 q (pe 3 (G6 (IntWalk.i64_in ((q.length:W)-1) (by omega))) (pc 4 (IE (zF q) q ((q.length:W)-1) (N7 a) (by have:=Fs (N7 a);omega) (by omega) (by omega)) p0)))<|Qc<|ps [] (Qi b rfl)
theorem Qpb(q:I Q9):(Xh q).size<=10240:=by
 unfold Xh;cases a:Qj q with
 | false=>exact zT _
 | true=>
   have:=Fs a;exact TW _ a (by omega) (by omega)
theorem Qpc(q:I Q9):Yr q=Xh q:=by
 unfold Yr Xh;rw[←Qgy,Qh8]
theorem Qna(q:I Q9):(Yr q).size<=10240:=by rw[Qpc];exact Qpb q
theorem Qh9{x:Qw}(h:Qm x=H):Jh x.2=H:=by
 unfold Qm Uq at h;simp only[zG] at h;have a:=h.2;unfold Qt at a;cases b:Jh x.2 with
 | true=>rfl
 | false=>rw[b] at a;cases a
theorem G2{x:Qw}(h:Qm x=H):x.1.1.length<=5/\x.1.2.1.length<=12/\x.2.length<=5:=by
 have a:=Lx h;exact⟨a.1,a.2.1,Gx (Qh9 h)⟩
theorem Sl{x:Qw}(h:Qm x=H){d:Zo}(hd:d∈x.2):d.1.size<=6/\Xl d.1=H/\Qj d.2=H:=by
 have b:=Qh9 h;unfold Jh at b;obtain⟨_,g⟩:=YC (λ_ _ _=>rfl) b;obtain⟨i,hi⟩:=zY hd;have c:=bo (g i d hi);have e:=bn c.1
 have j:Qj d.2=H:=by
  have a:=c.2;cases f:decide (((i:E):W)>(0:W)) with
  | true=>rw[f] at a;exact bn (bo a).2
  | false=>rw[f] at a;exact bn a
 exact⟨(Fi e).2,e,j⟩
theorem Qia{α β:Type}{R:Type}{f:E->α->I β->Rd R (I β) (I β)}{e:E->I β->I β}{g:α->I β}(b:∀k a s,f k a s= .next (s++g a))(c:∀k s,e k s=s):∀(l:I α) (k:E) (s:I β),X8 f e l k s= .brk (s++l.flatMap g)
 | [],k,s=>by simp[X8,c]
 | a::l,k,s=>by
   simp only[X8,b];rw[Qia b c l,List.flatMap_cons,yL]
def Dj(f:Yn):I K:= [(⟨#[102,105,108,101]⟩:K),(Q7 f.1),(Q7 f.2.1),(bif f.2.2.1 then⟨#[115]⟩ else⟨#[111]⟩),(Q7 f.2.2.2.1)]++f.2.2.2.2.flatMap λa=> [a.1,X1 a.2]
theorem WK(f:Yn):Z0 f=Xs ⟨#[32]⟩ (Dj f):=by
 unfold Z0;rw[Qia (f:=F3) (e:=F4) (g:=λa=> [a.1,X1 a.2]) (λ_ _ _=>rfl) (λ_ _=>rfl)];rfl
theorem Qcl:∀(l:I Wv) (k:E) (p:I K),p≠ []->X8 C5 C6 l k (Xs ⟨#[32]⟩ p)= .brk (Xs ⟨#[32]⟩ (p++l.flatMap λa=> [a.1,X1 a.2]))
 | [],k,p,_=>by simp[X8,C6]
 | a ::l,k,p,hp=>by
   simp only[X8,C5]
   rw[show(((Xs ⟨#[32]⟩ p++(⟨#[32]⟩:K))++a.1)++(⟨#[32]⟩:K))++(Zk a.2)=Xs ⟨#[32]⟩ (p++ [a.1,X1 a.2]) by
    rw[F2 _ hp (λe=>by cases e),Vd,Qrf];simp only[ByteArray.append_assoc]]
   rw[Qcl l (k+1) _ (by simp),List.flatMap_cons,yL]
theorem Qlt(f:Yn):Kt f=Xs ⟨#[32]⟩ (Dj f):=by
 have a:((bif f.2.2.1 then(((((⟨#[102,105,108,101,32]⟩:K)++(Q7 f.1))++(⟨#[32]⟩:K))++(Q7 f.2.1))++(⟨#[32,115,32]⟩:K)) else(((((⟨#[102,105,108,101,32]⟩:K)++(Q7 f.1))++(⟨#[32]⟩:K))++(Q7 f.2.1))++(⟨#[32,111,32]⟩:K)))++(Q7 f.2.2.2.1))=Xs ⟨#[32]⟩ [(⟨#[102,105,108,101]⟩:K),(Q7 f.1),(Q7 f.2.1),(bif f.2.2.1 then⟨#[115]⟩ else⟨#[111]⟩),(Q7 f.2.2.2.1)]:=by
  rw[Wo,Wo,Kz];rw[show(⟨#[102,105,108,101,32]⟩:K)=(⟨#[102,105,108,101]⟩:K)++(⟨#[32]⟩:K) from rfl,show(⟨#[32,115,32]⟩:K)=(⟨#[32]⟩:K)++(⟨#[115]⟩:K)++(⟨#[32]⟩:K) from rfl,show(⟨#[32,111,32]⟩:K)=(⟨#[32]⟩:K)++(⟨#[111]⟩:K)++(⟨#[32]⟩:K) from rfl];cases f.2.2.1<;>simp only[uC,uB,ByteArray.append_assoc]
 unfold Kt;rw[a,Qcl _ _ _ (λe=>by cases e)];rfl
theorem Qlu(f:Yn):Kt f=Z0 f:=by rw[Qlt,WK]
theorem OL{f:Yn}(h:FBd f):(Dj f).length<=15/\∀y,y∈Dj f->y.size<=10:=by
 have d:=h.2.2.2.1
 have b:∀l:I Wv,(l.flatMap λa=> [a.1,X1 a.2]).length=2*l.length:=λl=>by
  induction l with
  | nil=>rfl
  | cons a l c=>rw[List.flatMap_cons,zX,c];simp only[List.length_cons,List.length_nil];omega
 refine⟨by unfold Dj;rw[zX,b];simp only[List.length_cons,List.length_nil];omega,λy hy=>?_⟩;rcases zS.1 hy with hy | hy
 . exact Qck h y hy
 obtain⟨a,ha,hy⟩:=List.mem_flatMap.1 hy;simp only[yC,List.mem_nil_iff,uY] at hy;rcases hy with rfl | rfl
 . exact Qh5 h ha
 exact TV _
theorem Qpd{f:Yn}(h:FBd f):(Z0 f).size<=200:=by
 rw[WK];have a:=OL h;exact zW (Ug (m:=10) (n:=15) rfl a.2 a.1) (by decide)
open GoE (enc wide)
def Cd(_:E)(a:Y4)(b:Z):Rd Z Z Z:=(.next (b++ [(Y6 a)]))
def Ce(_:E)(a:Z):Z:=a
def Cf(_:E)(a:Yn)(b:Z):Rd Z Z Z:=(.next (b++ [(Z0 a)]))
def Cg(_:E)(a:Z):Z:=a
def Ch(_:E)(a:Zo)(b:Z):Rd Z Z Z:=(.next (b++ [((((⟨#[100,105,114,32]⟩:K)++a.1)++(⟨#[32]⟩:K))++(Xh a.2))]))
def Ci(_:E)(a:Z):Z:=a
def Xi(x:Qw):Z:=(bif (!(Qm x)) then [] else(Out.on (X8 Cd Ce x.1.1 0 []) (λa=>(Out.on (X8 Cf Cg x.1.2.1 0 (a++ [((⟨#[110,101,120,116,32]⟩:K)++(Q7 x.1.2.2))])) (λb=>(Out.on (X8 Ch Ci x.2 0 b) (λc=>c)))))))
theorem Il(x:Qw):ACalls vC 207 [.a [.h x.1.1,.h x.1.2.1,.i x.1.2.2,.h x.2]] (.o 0 (Xi x)):=by
 refine en func207 λ_ _ _=>sn [1,2] [1] p0 ?_
 refine Qa<|tn [1,2,12] [1] (pc 1 (W7 x) p0)<|ck (!(Qm x)) (λh1=>?_) (λh1=>?_)
 ·have m:(Qm x)=D:=V1 h1;refine tu [(1,.p 1 0),(2,.e 0)] [0] [(1, [.h x.1.1,.h x.1.2.1,.i x.1.2.2,.h x.2])] [] p0<|opn [(D,2,0,H,384000,1)] ?_
  exact Qc<|po0 [] (Xg h1 rfl)
 have m:(Qm x)=H:=Z5 h1;have ab:=(Lx m).2.2.1;have ad:=G2 m;refine Qd<|tu [(1,.p 1 0),(2,.e 0),(3,.one (.slc (.own H 832) 1 []))] [0] [(1, [.h x.1.1,.h x.1.2.1,.i x.1.2.2,.h x.2])] [] p0<|Qa<|sn [1,2,3,16,17,18] [1] (pl 3 x.1.1 p0)<|mz [(16,.h x.1.1),(17,.i (x.1.1.length:W)),(18,.i 0)] [] [] []<|wT 16 0 .sh x.1.1 (λan ao=>?_)
 refine Qbn Cd Ce x.1.1 [] (λj d=> [(3,.o 147202 d),(18,.i (j:W))]) [3,18] (λg=> [(3,.o 147352 g)]) [3,16,17,18] (λj d=>zF d<=j/\zF d<=j) (λg=>zF g<=5) (wsf [(832,147202)]) ⟨(by simp),(by simp)⟩ (λj d O U=>?_) (λj d O U=>?_) (λg a4=>?_)
 ·have o:=U.2.1;have p:=U.2.2;obtain⟨q,V⟩:=Xo (l:=x.1.1) (i:=j) O;refine su [(19,.b H)] [] [] [] (pe 0 (zB ((j:W)<(x.1.1.length:W))) p0)<|Qa<|ckT<|Qd<|Qa<|Qp<|sn [1,2,3,5,16,17,18] [1,5] (pn 0 V p0)<|wT 3 0 (.own H 147202) d (λap aq=>?_)
  refine qu [(3,.one (.slc (.own H 1664) 1 ((eL d)++ [[.s (Y6 q)]])))] [3,19] [] [] (pc 2 (JJ q) (pa d [(Y6 q)] p0)) ?_;refine eqn [(3,.o 1664 (d++ [(Y6 q)]))] [3] [] [] (by rw[show((eL d)++ [[.s (Y6 q)]])=(eL (d++ [(Y6 q)])) from Jg rfl (rfl)]<;>kernel_rfl) ?_;refine rn [1,2,3,16,17,18] [1] (pw 0 j p0) ?_;exact zL (d++ [(Y6 q)]) (zQ (wsf [(1664,147202)]) ⟨Qr V rfl U.1,by first|omega|(simp;omega) | simp,(by(simp;omega))⟩)
 ·have o:=U.2.1;have p:=U.2.2;exact su [(19,.b D)] [] [] [] (pe 0 (zC ((j:W)<(x.1.1.length:W))) p0)<|Qa<|ckF<|Xa<|zL d (zQ (wsf [(147202,147352)]) ⟨Xq O rfl U.1,by first|omega|(simp only[zK];omega)⟩)
 have a6:=a4.2;have ar:=Kb (n:=x.1.2.2) (by omega);refine wT 3 0 (.own H 147352) g (λau av=>?_);refine su [(3,.one (.slc (.own H 2240) 1 ((eL g)++ [[.s ((⟨#[110,101,120,116,32]⟩:K)++(Q7 x.1.2.2))]])))] [3] [] [] (pc 4 (Hj x.1.2.2 (by omega)) (px (Zw (n:=(zD (⟨#[110,101,120,116,32]⟩:K)+zD (Q7 x.1.2.2))) (by have r:zD (⟨#[110,101,120,116,32]⟩:K)=5:=rfl;unfold uD;first|omega|(simp only[zE];omega))) (pa g [((⟨#[110,101,120,116,32]⟩:K)++(Q7 x.1.2.2))] p0)))<|eqn [(3,.o 2240 (g++ [((⟨#[110,101,120,116,32]⟩:K)++(Q7 x.1.2.2))]))] [3] [] [] (by rw[show((eL g)++ [[.s ((⟨#[110,101,120,116,32]⟩:K)++(Q7 x.1.2.2))]])=(eL (g++ [((⟨#[110,101,120,116,32]⟩:K)++(Q7 x.1.2.2))])) from Jg rfl (rfl)]<;>kernel_rfl) ?_
 refine Qa<|sn [1,2,3,38,39,40] [1] (pl 3 x.1.2.1 p0)<|mz [(38,.h x.1.2.1),(39,.i (x.1.2.1.length:W)),(40,.i 0)] [] [] []<|wT 38 0 .sh x.1.2.1 (λaw ae=>?_)
 refine Qbn Cf Cg x.1.2.1 (g++ [((⟨#[110,101,120,116,32]⟩:K)++(Q7 x.1.2.2))]) (λk1 e=> [(3,.o 147202 e),(40,.i (k1:W))]) [3,40] (λy1=> [(3,.o 147352 y1)]) [3,38,39,40] (λk1 e=>zF e<=(g++ [((⟨#[110,101,120,116,32]⟩:K)++(Q7 x.1.2.2))]).length+k1/\zF e<=6+k1) (λy1=>zF y1<=18) (wsf [(2240,147202)]) ⟨(by simp),(by(simp;omega))⟩ (λk1 e s b=>?_) (λk1 e s b=>?_) (λy1 a5=>?_)
 ·have h:=b.2.1;have t:=b.2.2;obtain⟨u,v⟩:=Xo (l:=x.1.2.1) (i:=k1) s;have ax:=(Lx ‹Qm x=H›).2.2.2 _ (zR v);have a7:=h;simp only[zX,List.length_cons,List.length_nil] at a7;refine su [(41,.b H)] [] [] [] (pe 0 (zB ((k1:W)<(x.1.2.1.length:W))) p0)<|Qa<|ckT<|Qd<|Qa<|Qp<|sn [1,2,3,7,38,39,40] [1,7] (pn 0 v p0)<|wT 3 0 (.own H 147202) e (λaf ah=>?_)
  refine qu [(3,.one (.slc (.own H 3072) 1 ((eL e)++ [[.s (Z0 u)]])))] [3,41] [] [] (pc 2 (VE u (by assumption)) (pa e [(Z0 u)] p0)) ?_;refine eqn [(3,.o 3072 (e++ [(Z0 u)]))] [3] [] [] (by rw[show((eL e)++ [[.s (Z0 u)]])=(eL (e++ [(Z0 u)])) from Jg rfl (rfl)]<;>kernel_rfl) ?_;refine rn [1,2,3,38,39,40] [1] (pw 0 k1 p0) ?_;exact zL (e++ [(Z0 u)]) (zQ (wsf [(3072,147202)]) ⟨Qr v rfl b.1,by first|omega|(simp;omega) | simp,(by(simp;omega))⟩)
 ·have h:=b.2.1;have t:=b.2.2;exact su [(41,.b D)] [] [] [] (pe 0 (zC ((k1:W)<(x.1.2.1.length:W))) p0)<|Qa<|ckF<|Xa<|zL e (zQ (wsf [(147202,147352)]) ⟨Xq s rfl b.1,by first|omega|(simp only[zK];omega)⟩)
 have a8:=a5.2;refine Qa<|sn [2,3,51,52,53] [] (pl 2 x.2 p0)<|mz [(51,.h x.2),(52,.i (x.2.length:W)),(53,.i 0)] [1] [] [1]<|wT 51 0 .sh x.2 (λai aj=>?_)
 refine CA Ch Ci x.2 y1 (λk f=> [(3,.o 147201 f),(53,.i (k:W))]) [3,53] (λy2=> [(3,.o 147351 y2)]) [3,51,52,53] (λk f=>zF f<=y1.length+k/\zF f<=18+k) (wsf [(147352,147201)]) ⟨(by simp),(by(simp;omega))⟩ (λk f w c=>?_) (λk f w c=>?_) (λy2 a9=>?_)
 ·have y:=c.2.1;have z:=c.2.2;obtain⟨a,a3⟩:=Xo (l:=x.2) (i:=k) w;have ay:=(Sl ‹Qm x=H› (zR a3)).1;refine su [(54,.b H)] [] [] [] (pe 0 (zB ((k:W)<(x.2.length:W))) p0)<|Qa<|ckT<|Qd<|Qa<|Qp<|sn [2,3,9,51,52,53] [9] (pn 0 a3 p0) ?_
  have ak:=Qpb a.2;refine wT 3 0 (.own H 147201) f (λal am=>?_);refine qU [(3,.one (.slc (.own H 4288) 1 ((eL f)++ [[.s ((((⟨#[100,105,114,32]⟩:K)++a.1)++(⟨#[32]⟩:K))++(Xh a.2))]])))] [3,54] [] [] (px (Zw (n:=(zD (⟨#[100,105,114,32]⟩:K)+zD a.1)) (by have r:zD (⟨#[100,105,114,32]⟩:K)=4:=rfl;unfold uD;first|omega|(simp only[zE];omega))) (px (Zw (n:=(zD ((⟨#[100,105,114,32]⟩:K)++a.1)+zD (⟨#[32]⟩:K))) (by have r:zD (⟨#[100,105,114,32]⟩:K)=4:=rfl;have aa:zD (⟨#[32]⟩:K)=1:=rfl;unfold uD;first|omega|(simp only[zE];omega))) (pc 7 (JS a.2) (px (Zw (n:=(zD (((⟨#[100,105,114,32]⟩:K)++a.1)++(⟨#[32]⟩:K))+zD (Xh a.2))) (by have r:zD (⟨#[100,105,114,32]⟩:K)=4:=rfl;have aa:zD (⟨#[32]⟩:K)=1:=rfl;unfold uD;first|omega|(simp only[zE];omega))) (pa f [((((⟨#[100,105,114,32]⟩:K)++a.1)++(⟨#[32]⟩:K))++(Xh a.2))] p0))))) ?_;refine eqn [(3,.o 4288 (f++ [((((⟨#[100,105,114,32]⟩:K)++a.1)++(⟨#[32]⟩:K))++(Xh a.2))]))] [3] [] [] (by rw[show((eL f)++ [[.s ((((⟨#[100,105,114,32]⟩:K)++a.1)++(⟨#[32]⟩:K))++(Xh a.2))]])=(eL (f++ [((((⟨#[100,105,114,32]⟩:K)++a.1)++(⟨#[32]⟩:K))++(Xh a.2))])) from Jg rfl (rfl)]<;>kernel_rfl) ?_;refine rn [2,3,51,52,53] [] (pw 0 k p0) ?_;exact zL (f++ [((((⟨#[100,105,114,32]⟩:K)++a.1)++(⟨#[32]⟩:K))++(Xh a.2))]) (zQ (wsf [(4288,147201)]) ⟨Qr a3 rfl c.1,by first|omega|(simp;omega) | simp,(by(simp;omega))⟩)
 ·have y:=c.2.1;have z:=c.2.2;exact su [(54,.b D)] [] [] [] (pe 0 (zC ((k:W)<(x.2.length:W))) p0)<|Qa<|ckF<|Xa<|zL _ (zQ (wsf [(147201,147351)]) (Xq w rfl c.1))
 exact sn [2] [] p0<|Qc<|po0 [] (Qi h1 (Vx a4.1 (Vx a5.1 (Vx a9 rfl))))
def Cj(_:E)(a:Y4)(b:Z):Rd Z Z Z:=(.next (b++ [(Kp a)]))
def Ck(_:E)(a:Z):Z:=a
def Cl(_:E)(a:Yn)(b:Z):Rd Z Z Z:=(.next (b++ [(Kt a)]))
def Cm(_:E)(a:Z):Z:=a
def Cn(_:E)(a:Zo)(b:Z):Rd Z Z Z:=(.next (b++ [((((⟨#[100,105,114,32]⟩:K)++a.1)++(⟨#[32]⟩:K))++(Yr a.2))]))
def Co(_:E)(a:Z):Z:=a
def Y0(x:Qw):Z:=(bif (!(Xe x)) then [] else(Out.on (X8 Cj Ck x.1.1 0 []) (λa=>(Out.on (X8 Cl Cm x.1.2.1 0 (a++ [((⟨#[110,101,120,116,32]⟩:K)++(Q7 x.1.2.2))])) (λb=>(Out.on (X8 Cn Co x.2 0 b) (λc=>c)))))))
theorem Im(x:Qw):ACalls vC 188 [.a [.h x.1.1,.h x.1.2.1,.i x.1.2.2,.h x.2]] (.o 0 (Y0 x)):=by
 refine en func188 λ_ _ _=>sn [1,2] [1] p0 ?_
 refine tn [1,2,3] [1] p0<|Qa<|tu [(1,.p 1 0),(2,.e 0),(3,.one (.slc (.own H 448) 1 [])),(10,.b (!(Xe x)))] [0] [(1, [.h x.1.1,.h x.1.2.1,.i x.1.2.2,.h x.2])] [] (pc 1 (J3 x) p0)<|ck (!(Xe x)) (λh1=>?_) (λh1=>?_)
 ·have o:(Xe x)=D:=V1 h1;exact sn [1,2,3] [1] p0<|Qc<|po0 [] (Xg h1 rfl)
 have o:(Xe x)=H:=Z5 h1;have ab:=(IB o).2.2.1;have ad:=G2 ((Gi x).symm.trans o);refine Qd<|Qa<|sn [1,2,3,4] [1] p0<|mz [(4,.i 0)] [10] [] []<|wB 1 0 .sh x.1.1 (λan ao=>?_)
 refine Qbn Cj Ck x.1.1 [] (λj d=> [(3,.o 147202 d),(4,.i (j:W))]) [3,4] (λg=> [(3,.o 147352 g)]) [3,4] (λj d=>zF d<=j/\zF d<=j) (λg=>zF g<=5) (wsf [(448,147202)]) ⟨(by simp),(by simp)⟩ (λj d O U=>?_) (λj d O U=>?_) (λg a4=>?_)
 ·have p:=U.2.1;have q:=U.2.2;obtain⟨r,V⟩:=Xo (l:=x.1.1) (i:=j) O;refine Qa<|sn [1,2,3,4,17] [1] (pl 4 x.1.1 (pe 5 (zB ((j:W)<(x.1.1.length:W))) p0))<|ckT<|Qd<|Qa<|Qp<|wT 3 0 (.own H 147202) d (λap aq=>?_)
  refine qu [(3,.one (.slc (.own H 1856) 1 ((eL d)++ [[.s (Kp r)]])))] [3] [] [] (pn 5 V (pc 7 (JK r) (pa d [(Kp r)] p0))) ?_;refine eqn [(3,.o 1856 (d++ [(Kp r)]))] [3] [] [] (by rw[show((eL d)++ [[.s (Kp r)]])=(eL (d++ [(Kp r)])) from Jg rfl (rfl)]<;>kernel_rfl) ?_;refine rn [1,2,3,4] [1] (pw 1 j p0) ?_;exact zL (d++ [(Kp r)]) (zQ (wsf [(1856,147202)]) ⟨Qr V rfl U.1,by first|omega|(simp;omega) | simp,(by(simp;omega))⟩)
 ·have p:=U.2.1;have q:=U.2.2;exact Qa<|sn [1,2,3,4,17] [1] (pl 4 x.1.1 (pe 5 (zC ((j:W)<(x.1.1.length:W))) p0))<|ckF<|Xa<|zL d (zQ (wsf [(147202,147352)]) ⟨Xq O rfl U.1,by first|omega|(simp only[zK];omega)⟩)
 have a6:=a4.2;have ar:=Kb (n:=x.1.2.2) (by omega);refine wT 3 0 (.own H 147352) g (λau av=>?_);refine su [(3,.one (.slc (.own H 2368) 1 ((eL g)++ [[.s ((⟨#[110,101,120,116,32]⟩:K)++(Q7 x.1.2.2))]])))] [3] [] [] (pc 4 (W4 x.1.2.2 (by omega)) (px (Zw (n:=(zD (⟨#[110,101,120,116,32]⟩:K)+zD (Q7 x.1.2.2))) (by have s:zD (⟨#[110,101,120,116,32]⟩:K)=5:=rfl;unfold uD;first|omega|(simp only[zE];omega))) (pa g [((⟨#[110,101,120,116,32]⟩:K)++(Q7 x.1.2.2))] p0)))<|eqn [(3,.o 2368 (g++ [((⟨#[110,101,120,116,32]⟩:K)++(Q7 x.1.2.2))]))] [3] [] [] (by rw[show((eL g)++ [[.s ((⟨#[110,101,120,116,32]⟩:K)++(Q7 x.1.2.2))]])=(eL (g++ [((⟨#[110,101,120,116,32]⟩:K)++(Q7 x.1.2.2))])) from Jg rfl (rfl)]<;>kernel_rfl) ?_
 refine Qa<|sn [1,2,3,5] [1] p0<|mz [(5,.i 0)] [] [] []<|wB 1 1 .sh x.1.2.1 (λaw ae=>?_)
 refine Qbn Cl Cm x.1.2.1 (g++ [((⟨#[110,101,120,116,32]⟩:K)++(Q7 x.1.2.2))]) (λk1 e=> [(3,.o 147202 e),(5,.i (k1:W))]) [3,5] (λy1=> [(3,.o 147352 y1)]) [3,5] (λk1 e=>zF e<=(g++ [((⟨#[110,101,120,116,32]⟩:K)++(Q7 x.1.2.2))]).length+k1/\zF e<=6+k1) (λy1=>zF y1<=18) (wsf [(2368,147202)]) ⟨(by simp),(by(simp;omega))⟩ (λk1 e t b=>?_) (λk1 e t b=>?_) (λy1 a5=>?_)
 ·have h:=b.2.1;have u:=b.2.2;obtain⟨v,w⟩:=Xo (l:=x.1.2.1) (i:=k1) t;have ax:=(Lx ((Gi x).symm.trans ‹Xe x=H›)).2.2.2 _ (zR w);have a7:=h;simp only[zX,List.length_cons,List.length_nil] at a7;refine Qa<|sn [1,2,3,5,43] [1] (pl 4 x.1.2.1 (pe 5 (zB ((k1:W)<(x.1.2.1.length:W))) p0))<|ckT<|Qd<|Qa<|Qp<|wT 3 0 (.own H 147202) e (λaf ah=>?_)
  refine qu [(3,.one (.slc (.own H 3520) 1 ((eL e)++ [[.s (Kt v)]])))] [3] [] [] (pn 5 w (pc 7 (VF v (by assumption)) (pa e [(Kt v)] p0))) ?_;refine eqn [(3,.o 3520 (e++ [(Kt v)]))] [3] [] [] (by rw[show((eL e)++ [[.s (Kt v)]])=(eL (e++ [(Kt v)])) from Jg rfl (rfl)]<;>kernel_rfl) ?_;refine rn [1,2,3,5] [1] (pw 1 k1 p0) ?_;exact zL (e++ [(Kt v)]) (zQ (wsf [(3520,147202)]) ⟨Qr w rfl b.1,by first|omega|(simp;omega) | simp,(by(simp;omega))⟩)
 ·have h:=b.2.1;have u:=b.2.2;exact Qa<|sn [1,2,3,5,43] [1] (pl 4 x.1.2.1 (pe 5 (zC ((k1:W)<(x.1.2.1.length:W))) p0))<|ckF<|Xa<|zL e (zQ (wsf [(147202,147352)]) ⟨Xq t rfl b.1,by first|omega|(simp only[zK];omega)⟩)
 have a8:=a5.2;refine Qa<|sn [1,2,3,6] [1] p0<|mz [(6,.i 0)] [] [] []<|wB 1 3 .sh x.2 (λai aj=>?_)
 refine VB Cn Co x.2 y1 (λk f=> [(3,.o 147202 f),(6,.i (k:W))]) [3,6] (λ_ _=> []) [] (λy2=> [(3,.o 147352 y2)]) [1,3,6] (λ_=> []) [1] (λk f=>zF f<=y1.length+k/\zF f<=18+k) (wsf [(147352,147202)]) ⟨(by simp),(by(simp;omega))⟩ (λk f y c=>?_) (λk f y c=>?_) (λy2 a9=>?_)
 ·have z:=c.2.1;have a3:=c.2.2;obtain⟨a,m⟩:=Xo (l:=x.2) (i:=k) y;have ay:=(Sl ((Gi x).symm.trans ‹Xe x=H›) (zR m)).1;refine Qa<|sn [1,2,3,6,60] [1] (pl 3 x.2 (pe 4 (zB ((k:W)<(x.2.length:W))) p0))<|ckT<|Qd<|Qa<|Qp ?_
  have ak:=Qna a.2;refine wT 3 0 (.own H 147202) f (λal am=>?_);refine qU [(3,.one (.slc (.own H 5184) 1 ((eL f)++ [[.s ((((⟨#[100,105,114,32]⟩:K)++a.1)++(⟨#[32]⟩:K))++(Yr a.2))]])))] [3] [] [] (pn 4 m (px (Zw (n:=(zD (⟨#[100,105,114,32]⟩:K)+zD a.1)) (by have s:zD (⟨#[100,105,114,32]⟩:K)=4:=rfl;unfold uD;first|omega|(simp only[zE];omega))) (px (Zw (n:=(zD ((⟨#[100,105,114,32]⟩:K)++a.1)+zD (⟨#[32]⟩:K))) (by have s:zD (⟨#[100,105,114,32]⟩:K)=4:=rfl;have aa:zD (⟨#[32]⟩:K)=1:=rfl;unfold uD;first|omega|(simp only[zE];omega))) (pn 12 m (pc 15 (Nk a.2) (px (Zw (n:=(zD (((⟨#[100,105,114,32]⟩:K)++a.1)++(⟨#[32]⟩:K))+zD (Yr a.2))) (by have s:zD (⟨#[100,105,114,32]⟩:K)=4:=rfl;have aa:zD (⟨#[32]⟩:K)=1:=rfl;unfold uD;first|omega|(simp only[zE];omega))) (pa f [((((⟨#[100,105,114,32]⟩:K)++a.1)++(⟨#[32]⟩:K))++(Yr a.2))] p0))))))) ?_;refine eqn [(3,.o 5184 (f++ [((((⟨#[100,105,114,32]⟩:K)++a.1)++(⟨#[32]⟩:K))++(Yr a.2))]))] [3] [] [] (by rw[show((eL f)++ [[.s ((((⟨#[100,105,114,32]⟩:K)++a.1)++(⟨#[32]⟩:K))++(Yr a.2))]])=(eL (f++ [((((⟨#[100,105,114,32]⟩:K)++a.1)++(⟨#[32]⟩:K))++(Yr a.2))])) from Jg rfl (rfl)]<;>kernel_rfl) ?_;refine rn [1,2,3,6] [1] (pw 1 k p0) ?_;exact zL (f++ [((((⟨#[100,105,114,32]⟩:K)++a.1)++(⟨#[32]⟩:K))++(Yr a.2))]) (zQ (wsf [(5184,147202)]) ⟨Qr m rfl c.1,by first|omega|(simp;omega) | simp,(by(simp;omega))⟩)
 ·have z:=c.2.1;have a3:=c.2.2;exact Qa<|sn [1,2,3,6,60] [1] (pl 3 x.2 (pe 4 (zC ((k:W)<(x.2.length:W))) p0))<|ckF<|Xa<|zL _ (zQ (wsf [(147202,147352)]) (Xq y rfl c.1))
 exact sn [2] [] p0<|Qc<|po0 [] (Qi h1 (Vx a4.1 (Vx a5.1 (Vx a9 rfl))))
end
end Go.Proofs.YtkdnkiggkgakmaaGreatDoor
