/- A part. -/
import Derived.Test.YtlipbhahenojhaaGreatDoorP7
import Derived.ShutString
import Derived.ChangeOld
import Derived.Test.YtlipbhahenojhaaGreatDoorCards
import Derived.LaidMore
import Derived.Stop.Joined
import Derived.Stop.LaidErr
import Derived.Lay
import Derived.Shelf.Vars
set_option linter.unusedVariables false
set_option linter.unusedSimpArgs false
namespace Go.Proofs.YtlipbhahenojhaaGreatDoor
open _root_ renaming Int → V, List → S, Nat → J, Bool → uB, Unit → uC, Array → uD, of_decide_eq_true → uE, decide_eq_false → uF, decide_eq_true → uG, of_decide_eq_false → uH
open _root_.Bool renaming true → Y, false → U
open _root_.Go renaming World → L, Value → K, maxLen → uA
open _root_.Option renaming some → T, none → O
open _root_.Go.Proofs.Tryz renaming prog → uI
open _root_.Go.Proofs.Tryz
open _root_.List renaming cons_append → zD, nil_append → zE, getElem?_eq_getElem → zF, take_length → zG, replicate → zL
open _root_.Nat renaming zero_le → zH, le_trans → zK
open _root_.Option.some renaming inj → zJ
section
open Go.RowKit
open GoD (rd own)
set_option maxRecDepth 100000
set_option maxHeartbeats 1000000
theorem cBz{w v:L}{a:Addr}{x:K}(b:Below w.heap.size w v)(h:w.cell? a=T x):v.cell? a=T x:=(b.cell (World.block_lt_of_cell? w _ h)).trans h
theorem zSz:(∀(w:L) o,(w.alloc o).heap.size=w.heap.size+1)/\(∀(w:L) a v,(w.setCell a v).heap.size=w.heap.size)/\∀w:L,w.drew.heap.size=w.heap.size:=⟨λ_ _=>World.size_alloc ..,λ_ _ _=>World.size_setCell ..,λ_=>rfl⟩
abbrev zI{α:Type}[GoD α](l:S α)(left:V)(w:L)(q i:K)(a:L):Prop:=∃(k:J) (r:V),k<=l.length/\i= .int .i64 k/\q= .int .i64 r/\0<=r/\r<=1048576/\Hid (r=left-l.length-((l.take k).map GoD.size).sum)/\Below w.heap.size w a
theorem Qcm(w:L)(h:S K)(a:Wx)(left:V)(i:rd w h a)(p:0<=left)(q:left<=1048576):Calls uI 187 #[.agg h.toArray,.int .i64 left] w (Iw w (GoD.size a) left):=by
 obtain⟨j,k,f⟩:=a;obtain⟨l,m,rfl,c,n,o,rfl,d,b⟩:=i;obtain⟨rfl,c⟩:=c;obtain⟨rfl,d⟩:=d;obtain⟨rfl,b⟩:=b;dsimp only[zD,zE] at*;clear c;clear d;unfold uA at b;have b:f.size<=9223372036854775807:=by omega
 have e:GoD.size (j,k,f)=(0+(0+f.size)):=rfl;have g:=Lib.hid e;clear e;go_enter func187,ntmps187
 go_wp2
 all_goals
  go_ret
  refine⟨_,rfl, ?_,by go_grown⟩;rw[g.out];unfold szq
  (try unfold szq at*)
  go_light
  omega
theorem Qrg(w:L)(p:S K)(a:Hk)(left:V)(r:rd w p a)(u:0<=left)(v:left<=1048576):Calls uI 124 #[.agg p.toArray,.int .i64 left] w (Iw w (GoD.size a) left):=by
 obtain⟨j,k⟩:=a;obtain⟨s,t,rfl,b,d⟩:=r;obtain⟨rfl,b⟩:=b;obtain⟨e,f,g,rfl⟩:=Qwk (show _=3 from GoD.rd_len d);dsimp only[zD,zE] at*;unfold uA at b;have b:j.size<=9223372036854775807:=by omega
 have h:=Lib.hid d;clear d;have c:True:=trivial;have i:GoD.size (j,k)=(j.size+GoD.size k):=rfl;have l:=Lib.hid i;clear i;go_enter func124,ntmps124
 go_wp2_with (first | (go_at_call 187;have x:=c;clear c;refine Wh (w:=w) (Qcm _ [e,f,g] k _ (J4 h.out (by go_grown)) (by omega) (by omega)) (by go_grown) ?_;intro y z hB hb hz m q hs;have n:=Lib.hid q;clear q;(try simp only[zSz] at m);have c0:=λo=>M7 hb (w.heap.size) o (by go_size);clear hb))
 all_goals
  go_ret
  refine⟨_,rfl, ?_,by go_grown⟩;rw[l.out];unfold szq
  (try have u1:=n.out)
  (try unfold szq at*)
  go_light
  omega
theorem Qnz(w:L)(v:K)(l:S Hk)(left:V)(ha:rd w [v] l)(h0:0<=left)(h1:left<=1048576):Calls uI 76 #[v,.int .i64 left] w (Iw w (GoD.size l) left):=by
 obtain⟨oa,cap,u,hl,hm,d⟩:=ha;obtain rfl:v=_:=by simpa using u
 clear u;have HE:=Lib.hid d;clear d;unfold uA at hm;have a1:l.length<=9223372036854775807:=by omega
 have e:GoD.size l=l.length+(l.map GoD.size).sum:=rfl;have b:=Lib.hid e;clear e;by_cases y:left-l.length<0
 . go_enter func76,ntmps76
   go_wp2
   go_ret
   refine⟨_,rfl, ?_,Below.refl _ _⟩;rw[b.out];unfold szq;omega
 go_enter func76,ntmps76
 go_wp2
 go_loopw [1,5] (zI l left w) (λ_ i _=>l.length-(intOf i).toNat)
 case atStart=>exact⟨0,_,zH _,rfl,rfl,by omega,by omega,by show _=_;simp,Below.refl _ _⟩
 case round=>
  obtain⟨k,r,hk,rfl,rfl,a2,a3,p,c⟩:=hrel;by_cases q:k<l.length
  . have m:=zF q;obtain⟨n,o,ee,rfl,f,a,g⟩:=HE.out k _ m;have HT:=Lib.hid (I1 m);have HU:=Lib.hid (Bh m);clear m;generalize l[k]=x at*;obtain⟨x0,x1,x2,x3,rfl⟩:=Qya (show _=4 from f);have p0:wr.cell? ⟨n,o+k*4,O⟩=T x0:=cBz c (a 0 _ rfl);have p1:wr.cell? ⟨n,o+k*4+1,O⟩=T x1:=cBz c (a 1 _ rfl);have p2:wr.cell? ⟨n,o+k*4+2,O⟩=T x2:=cBz c (a 2 _ rfl);have p3:wr.cell? ⟨n,o+k*4+3,O⟩=T x3:=cBz c (a 3 _ rfl);have s:=Lib.hid g;clear g a f;go_wp2_with (go_at_call 124;refine Wh (w:=w) (Qrg _ [x0,x1,x2,x3] x _ (J4 s.out c) (by omega) (by omega)) (by go_grown) ?_;intro w2 r2 a4 hb hz a5 h hs;have j:=Lib.hid h;clear h hb)
    . go_ret
      refine⟨_,rfl, ?_,by go_grown⟩;have z:=HU.out;have u2:=j.out;have t:=p.out;rw[b.out];unfold szq at*;go_light
      omega
    go_roundw
    case rel=>exact⟨k+1,_,by omega,by go_num,rfl,by omega,by omega,by
    show _=_;have z:=HT.out;have u2:=j.out;have t:=p.out;unfold szq at*;rw[z];omega,by go_grown⟩
    case measure=>simp[intOf];omega
  obtain rfl:k=l.length:=by omega
  go_wp2
  go_ret
  refine⟨_,rfl, ?_,c⟩;have t:=p.out;rw[zG] at t;rw[b.out];unfold szq;omega
theorem Qhb(w:L)(p:S K)(a:Xt)(left:V)(r:rd w p a)(h0:0<=left)(h1:left<=1048576):Calls uI 43 #[.agg p.toArray,.int .i64 left] w (Iw w (GoD.size a) left):=by
 obtain⟨s,t,u,v,j⟩:=a;obtain⟨x,y,rfl,c,z,a6,rfl,d,a7,a8,rfl,k,a9,aa,rfl,e,f⟩:=r;obtain⟨rfl,c⟩:=c;obtain⟨rfl,d⟩:=d;obtain rfl:=k;obtain⟨rfl,e⟩:=e;obtain⟨g,rfl⟩:=Sn (show _=1 from GoD.rd_len f);dsimp only[zD,zE] at*;clear c;clear d;clear e;have h:=Lib.hid f;clear f;have b:True:=trivial;have i:GoD.size (s,t,u,v,j)=(0+(0+(0+(0+GoD.size j)))):=rfl;have l:=Lib.hid i;clear i;go_enter func43,ntmps43
 go_wp2_with (first | (go_at_call 76;have tk:=b;clear b;refine Wh (w:=w) (Qnz _ g j _ (J4 h.out (by go_grown)) (by omega) (by omega)) (by go_grown) ?_;intro w1 r1 hB hb hz m q hs;have n:=Lib.hid q;clear q;(try simp only[zSz] at m);have c0:=λo=>M7 hb (w.heap.size) o (by go_size);clear hb))
 all_goals
  go_ret
  refine⟨_,rfl, ?_,by go_grown⟩;rw[l.out];unfold szq
  (try have u1:=n.out)
  (try unfold szq at*)
  go_light
  omega
theorem Qrh(w:L)(s:S K)(a:Q0)(left:V)(u:rd w s a)(h0:0<=left)(h1:left<=1048576):Calls uI 125 #[.agg s.toArray,.int .i64 left] w (Iw w (GoD.size a) left):=by
 obtain⟨v,x,y,m,n⟩:=a;obtain⟨z,a6,rfl,d,a7,a8,rfl,e,a9,aa,rfl,f,ab,ad,rfl,b,g⟩:=u;obtain⟨rfl,d⟩:=d;obtain⟨rfl,e⟩:=e;obtain⟨rfl,f⟩:=f;obtain⟨rfl,b⟩:=b;obtain⟨h,i,j,rfl⟩:=Qwk (show _=3 from GoD.rd_len g);dsimp only[zD,zE] at*;clear d;clear e;clear f;unfold uA at b;have b:m.size<=9223372036854775807:=by omega
 have k:=Lib.hid g;clear g;have c:True:=trivial;have l:GoD.size (v,x,y,m,n)=(0+(0+(0+(m.size+GoD.size n)))):=rfl;have p:=Lib.hid l;clear l;go_enter func125,ntmps125
 go_wp2_with (first | (go_at_call 187;have tk:=c;clear c;refine Wh (w:=w) (Qcm _ [h,i,j] n _ (J4 k.out (by go_grown)) (by omega) (by omega)) (by go_grown) ?_;intro w1 r1 hB hb hz q t hs;have r:=Lib.hid t;clear t;(try simp only[zSz] at q);have c0:=λo=>M7 hb (w.heap.size) o (by go_size);clear hb))
 all_goals
  go_ret
  refine⟨_,rfl, ?_,by go_grown⟩;rw[p.out];unfold szq
  (try have u1:=r.out)
  (try unfold szq at*)
  go_light
  omega
theorem Qn0(w:L)(v:K)(l:S Q0)(left:V)(ha:rd w [v] l)(h0:0<=left)(h1:left<=1048576):Calls uI 77 #[v,.int .i64 left] w (Iw w (GoD.size l) left):=by
 obtain⟨oa,cap,u,hl,hm,f⟩:=ha;obtain rfl:v=_:=by simpa using u
 clear u;have HE:=Lib.hid f;clear f;unfold uA at hm;have a1:l.length<=9223372036854775807:=by omega
 have g:GoD.size l=l.length+(l.map GoD.size).sum:=rfl;have c:=Lib.hid g;clear g;by_cases y:left-l.length<0
 . go_enter func77,ntmps77
   go_wp2
   go_ret
   refine⟨_,rfl, ?_,Below.refl _ _⟩;rw[c.out];unfold szq;omega
 go_enter func77,ntmps77
 go_wp2
 go_loopw [1,5] (zI l left w) (λ_ i _=>l.length-(intOf i).toNat)
 case atStart=>exact⟨0,_,zH _,rfl,rfl,by omega,by omega,by show _=_;simp,Below.refl _ _⟩
 case round=>
  obtain⟨k,r,hk,rfl,rfl,a2,a3,p,b⟩:=hrel;by_cases q:k<l.length
  . have o:=zF q;obtain⟨d,e,ee,rfl,h,a,j⟩:=HE.out k _ o;have HT:=Lib.hid (I1 o);have HU:=Lib.hid (Bh o);clear o;generalize l[k]=x at*;obtain⟨x0,x1,x2,x3,x4,x5,x6,rfl⟩:=Qy4 (show _=7 from h);have p0:wr.cell? ⟨d,e+k*7,O⟩=T x0:=cBz b (a 0 _ rfl);have p1:wr.cell? ⟨d,e+k*7+1,O⟩=T x1:=cBz b (a 1 _ rfl);have p2:wr.cell? ⟨d,e+k*7+2,O⟩=T x2:=cBz b (a 2 _ rfl);have p3:wr.cell? ⟨d,e+k*7+3,O⟩=T x3:=cBz b (a 3 _ rfl);have p4:wr.cell? ⟨d,e+k*7+4,O⟩=T x4:=cBz b (a 4 _ rfl);have p5:wr.cell? ⟨d,e+k*7+5,O⟩=T x5:=cBz b (a 5 _ rfl);have p6:wr.cell? ⟨d,e+k*7+6,O⟩=T x6:=cBz b (a 6 _ rfl);have s:=Lib.hid j;clear j a h;go_wp2_with (go_at_call 125;refine Wh (w:=w) (Qrh _ [x0,x1,x2,x3,x4,x5,x6] x _ (J4 s.out b) (by omega) (by omega)) (by go_grown) ?_;intro w2 r2 a4 hb hz a5 m hs;have n:=Lib.hid m;clear m hb)
    . go_ret
      refine⟨_,rfl, ?_,by go_grown⟩;have z:=HU.out;have u2:=n.out;have t:=p.out;rw[c.out];unfold szq at*;go_light
      omega
    go_roundw
    case rel=>exact⟨k+1,_,by omega,by go_num,rfl,by omega,by omega,by
    show _=_;have z:=HT.out;have u2:=n.out;have t:=p.out;unfold szq at*;rw[z];omega,by go_grown⟩
    case measure=>simp[intOf];omega
  obtain rfl:k=l.length:=by omega
  go_wp2
  go_ret
  refine⟨_,rfl, ?_,b⟩;have t:=p.out;rw[zG] at t;rw[c.out];unfold szq;omega
theorem Qn1(w:L)(m:S K)(a:Yj)(left:V)(p:rd w m a)(s:0<=left)(t:left<=1048576):Calls uI 44 #[.agg m.toArray,.int .i64 left] w (Iw w (GoD.size a) left):=by
 obtain⟨h,i⟩:=a;obtain⟨q,r,rfl,b,d⟩:=p;obtain⟨rfl,b⟩:=b;obtain⟨e,rfl⟩:=Sn (show _=1 from GoD.rd_len d);dsimp only[zD,zE] at*;unfold uA at b;have b:h.size<=9223372036854775807:=by omega
 have f:=Lib.hid d;clear d;have c:True:=trivial;have g:GoD.size (h,i)=(h.size+GoD.size i):=rfl;have j:=Lib.hid g;clear g;go_enter func44,ntmps44
 go_wp2_with (first | (go_at_call 77;have u:=c;clear c;refine Wh (w:=w) (Qn0 _ e i _ (J4 f.out (by go_grown)) (by omega) (by omega)) (by go_grown) ?_;intro v x y hb z k n hs;have l:=Lib.hid n;clear n;(try simp only[zSz] at k);have c0:=λo=>M7 hb (w.heap.size) o (by go_size);clear hb))
 all_goals
  go_ret
  refine⟨_,rfl, ?_,by go_grown⟩;rw[j.out];unfold szq
  (try have u1:=l.out)
  (try unfold szq at*)
  go_light
  omega
theorem Qi4(w:L)(ca:S K)(a:Vk)(left:V)(ha:rd w ca a)(h0:0<=left)(h1:left<=1048576):Calls uI 17 #[.agg ca.toArray,.int .i64 left] w (Iw w (GoD.size a) left):=by
 obtain⟨a1,u,a3,v⟩:=a;obtain⟨a5,a6,rfl,d,a7,a8,rfl,e,a9,aa,rfl,f,g⟩:=ha;obtain⟨rfl,d⟩:=d;obtain⟨h,i,j,k,l,rfl⟩:=Qyb (show _=5 from GoD.rd_len e);obtain⟨rfl,f⟩:=f;obtain⟨m,n,rfl⟩:=LD (show _=2 from GoD.rd_len g);dsimp only[zD,zE] at*;clear d;have q:=Lib.hid e;clear e;clear f;have r:=Lib.hid g;clear g;have b:True:=trivial;have c:True:=trivial;have s:GoD.size (a1,u,a3,v)=(0+(GoD.size u+(0+GoD.size v))):=rfl;have x:=Lib.hid s;clear s;go_enter func17,ntmps17
 go_wp2_with (first | (go_at_call 43;have tk:=b;clear b;refine Wh (w:=w) (Qhb _ [h,i,j,k,l] u _ (J4 q.out (by go_grown)) (by omega) (by omega)) (by go_grown) ?_;intro w1 r1 hB hb hz p t hs;have y:=Lib.hid t;clear t;(try simp only[zSz] at p);have c0:=λo=>M7 hb (w.heap.size) o (by go_size);clear hb) | (go_at_call 44;have tk:=c;clear c;refine Wh (w:=w) (Qn1 _ [m,n] v _ (J4 r.out (by go_grown)) (by omega) (by omega)) (by go_grown) ?_;intro w2 r2 hB hb hz p t hs;have z:=Lib.hid t;clear t;(try simp only[zSz] at p);have c0:=λo=>M7 hb (w.heap.size) o (by go_size);clear hb))
 all_goals
  go_ret
  refine⟨_,rfl, ?_,by go_grown⟩;rw[x.out];unfold szq
  (try have u1:=y.out)
  (try have u2:=z.out)
  (try unfold szq at*)
  go_light
  omega
theorem IU(w:L)(v:K)(l:S Vk)(left:V)(ha:rd w [v] l)(h0:0<=left)(h1:left<=1048576):Calls uI 5 #[v,.int .i64 left] w (Iw w (GoD.size l) left):=by
 obtain⟨oa,cap,u,hl,hm,f⟩:=ha;obtain rfl:v=_:=by simpa using u
 clear u;have HE:=Lib.hid f;clear f;unfold uA at hm;have a1:l.length<=9223372036854775807:=by omega
 have g:GoD.size l=l.length+(l.map GoD.size).sum:=rfl;have e:=Lib.hid g;clear g;by_cases y:left-l.length<0
 . go_enter func5,ntmps5
   go_wp2
   go_ret
   refine⟨_,rfl, ?_,Below.refl _ _⟩;rw[e.out];unfold szq;omega
 go_enter func5,ntmps5
 go_wp2
 go_loopw [1,5] (zI l left w) (λ_ i _=>l.length-(intOf i).toNat)
 case atStart=>exact⟨0,_,zH _,rfl,rfl,by omega,by omega,by show _=_;simp,Below.refl _ _⟩
 case round=>
  obtain⟨k,r,hk,rfl,rfl,a2,a3,p,b⟩:=hrel;by_cases q:k<l.length
  . have o:=zF q;obtain⟨c,d,ee,rfl,h,a,j⟩:=HE.out k _ o;have HT:=Lib.hid (I1 o);have HU:=Lib.hid (Bh o);clear o;generalize l[k]=x at*;obtain⟨x0,x1,x2,x3,x4,x5,x6,x7,x8,rfl⟩:=Qy5 (show _=9 from h);have p0:wr.cell? ⟨c,d+k*9,O⟩=T x0:=cBz b (a 0 _ rfl);have p1:wr.cell? ⟨c,d+k*9+1,O⟩=T x1:=cBz b (a 1 _ rfl);have p2:wr.cell? ⟨c,d+k*9+2,O⟩=T x2:=cBz b (a 2 _ rfl);have p3:wr.cell? ⟨c,d+k*9+3,O⟩=T x3:=cBz b (a 3 _ rfl);have p4:wr.cell? ⟨c,d+k*9+4,O⟩=T x4:=cBz b (a 4 _ rfl);have p5:wr.cell? ⟨c,d+k*9+5,O⟩=T x5:=cBz b (a 5 _ rfl);have p6:wr.cell? ⟨c,d+k*9+6,O⟩=T x6:=cBz b (a 6 _ rfl);have p7:wr.cell? ⟨c,d+k*9+7,O⟩=T x7:=cBz b (a 7 _ rfl);have p8:wr.cell? ⟨c,d+k*9+8,O⟩=T x8:=cBz b (a 8 _ rfl);have s:=Lib.hid j;clear j a h;go_wp2_with (go_at_call 17;refine Wh (w:=w) (Qi4 _ [x0,x1,x2,x3,x4,x5,x6,x7,x8] x _ (J4 s.out b) (by omega) (by omega)) (by go_grown) ?_;intro w2 r2 a4 hb hz a5 m hs;have n:=Lib.hid m;clear m hb)
    . go_ret
      refine⟨_,rfl, ?_,by go_grown⟩;have z:=HU.out;have u2:=n.out;have t:=p.out;rw[e.out];unfold szq at*;go_light
      omega
    go_roundw
    case rel=>exact⟨k+1,_,by omega,by go_num,rfl,by omega,by omega,by
    show _=_;have z:=HT.out;have u2:=n.out;have t:=p.out;unfold szq at*;rw[z];omega,by go_grown⟩
    case measure=>simp[intOf];omega
  obtain rfl:k=l.length:=by omega
  go_wp2
  go_ret
  refine⟨_,rfl, ?_,b⟩;have t:=p.out;rw[zG] at t;rw[e.out];unfold szq;omega
theorem UO(w:L)(v:K)(l:S V)(left:V)(g:rd w [v] l)(j:0<=left)(k:left<=1048576):Calls uI 16 #[v,.int .i64 left] w (Iw w (GoD.size l) left):=by
 obtain⟨oa,cap,f,m,h,a⟩:=g;obtain rfl:v=_:=by simpa using f
 clear f;have n:=Lib.hid a;clear a;unfold uA at h;have i:l.length<=9223372036854775807:=by omega
 have b:GoD.size l=l.length+(l.map GoD.size).sum:=rfl;have d:=Lib.hid b;clear b;have c:(l.map GoD.size).sum=0:=Qow l (λ_=>rfl);have e:=Lib.hid c;clear c;go_enter func16,ntmps16
 go_wp2
 all_goals
  go_ret
  refine⟨_,rfl, ?_,by go_grown⟩;rw[d.out,e.out];unfold szq;go_light
  omega
theorem Qn2(w:L)(g:S K)(a:Zt)(left:V)(h:rd w g a)(l:0<=left)(m:left<=1048576):Calls uI 122 #[.agg g.toArray,.int .i64 left] w (Iw w (GoD.size a) left):=by
 obtain⟨e,i⟩:=a;obtain⟨j,k,rfl,b,c⟩:=h;obtain⟨rfl,b⟩:=b;obtain⟨rfl,c⟩:=c;dsimp only[zD,zE] at*;unfold uA at b;have b:e.size<=9223372036854775807:=by omega
 clear c;have d:GoD.size (e,i)=(e.size+0):=rfl;have f:=Lib.hid d;clear d;go_enter func122,ntmps122
 go_wp2
 all_goals
  go_ret
  refine⟨_,rfl, ?_,by go_grown⟩;rw[f.out];unfold szq
  (try unfold szq at*)
  go_light
  omega
theorem Qi5(w:L)(v:K)(l:S Zt)(left:V)(ha:rd w [v] l)(h0:0<=left)(h1:left<=1048576):Calls uI 71 #[v,.int .i64 left] w (Iw w (GoD.size l) left):=by
 obtain⟨oa,cap,s,hl,hm,c⟩:=ha;obtain rfl:v=_:=by simpa using s
 clear s;have HE:=Lib.hid c;clear c;unfold uA at hm;have a1:l.length<=9223372036854775807:=by omega
 have d:GoD.size l=l.length+(l.map GoD.size).sum:=rfl;have a:=Lib.hid d;clear d;by_cases t:left-l.length<0
 . go_enter func71,ntmps71
   go_wp2
   go_ret
   refine⟨_,rfl, ?_,Below.refl _ _⟩;rw[a.out];unfold szq;omega
 go_enter func71,ntmps71
 go_wp2
 go_loopw [1,5] (zI l left w) (λ_ i _=>l.length-(intOf i).toNat)
 case atStart=>exact⟨0,_,zH _,rfl,rfl,by omega,by omega,by show _=_;simp,Below.refl _ _⟩
 case round=>
  obtain⟨k,r,hk,rfl,rfl,a2,a3,n,j⟩:=hrel;by_cases o:k<l.length
  . have m:=zF o;obtain⟨u,y,ee,rfl,e,b,f⟩:=HE.out k _ m;have HT:=Lib.hid (I1 m);have HU:=Lib.hid (Bh m);clear m;generalize l[k]=x at*;obtain⟨x0,x1,rfl⟩:=LD (show _=2 from e);have p0:wr.cell? ⟨u,y+k*2,O⟩=T x0:=cBz j (b 0 _ rfl);have p1:wr.cell? ⟨u,y+k*2+1,O⟩=T x1:=cBz j (b 1 _ rfl);have p:=Lib.hid f;clear f b e;go_wp2_with (go_at_call 122;refine Wh (w:=w) (Qn2 _ [x0,x1] x _ (J4 p.out j) (by omega) (by omega)) (by go_grown) ?_;intro w2 r2 a4 hb hz a5 g hs;have h:=Lib.hid g;clear g hb)
    . go_ret
      refine⟨_,rfl, ?_,by go_grown⟩;have z:=HU.out;have u2:=h.out;have q:=n.out;rw[a.out];unfold szq at*;go_light
      omega
    go_roundw
    case rel=>exact⟨k+1,_,by omega,by go_num,rfl,by omega,by omega,by
    show _=_;have z:=HT.out;have u2:=h.out;have q:=n.out;unfold szq at*;rw[z];omega,by go_grown⟩
    case measure=>simp[intOf];omega
  obtain rfl:k=l.length:=by omega
  go_wp2
  go_ret
  refine⟨_,rfl, ?_,j⟩;have q:=n.out;rw[zG] at q;rw[a.out];unfold szq;omega
theorem Qn3(w:L)(v:K)(l:S Xt)(left:V)(ha:rd w [v] l)(h0:0<=left)(h1:left<=1048576):Calls uI 72 #[v,.int .i64 left] w (Iw w (GoD.size l) left):=by
 obtain⟨oa,cap,u,hl,hm,d⟩:=ha;obtain rfl:v=_:=by simpa using u
 clear u;have HE:=Lib.hid d;clear d;unfold uA at hm;have a1:l.length<=9223372036854775807:=by omega
 have e:GoD.size l=l.length+(l.map GoD.size).sum:=rfl;have b:=Lib.hid e;clear e;by_cases y:left-l.length<0
 . go_enter func72,ntmps72
   go_wp2
   go_ret
   refine⟨_,rfl, ?_,Below.refl _ _⟩;rw[b.out];unfold szq;omega
 go_enter func72,ntmps72
 go_wp2
 go_loopw [1,5] (zI l left w) (λ_ i _=>l.length-(intOf i).toNat)
 case atStart=>exact⟨0,_,zH _,rfl,rfl,by omega,by omega,by show _=_;simp,Below.refl _ _⟩
 case round=>
  obtain⟨k,r,hk,rfl,rfl,a2,a3,p,c⟩:=hrel;by_cases q:k<l.length
  . have o:=zF q;obtain⟨f,g,ee,rfl,h,a,j⟩:=HE.out k _ o;have HT:=Lib.hid (I1 o);have HU:=Lib.hid (Bh o);clear o;generalize l[k]=x at*;obtain⟨x0,x1,x2,x3,x4,rfl⟩:=Qyb (show _=5 from h);have p0:wr.cell? ⟨f,g+k*5,O⟩=T x0:=cBz c (a 0 _ rfl);have p1:wr.cell? ⟨f,g+k*5+1,O⟩=T x1:=cBz c (a 1 _ rfl);have p2:wr.cell? ⟨f,g+k*5+2,O⟩=T x2:=cBz c (a 2 _ rfl);have p3:wr.cell? ⟨f,g+k*5+3,O⟩=T x3:=cBz c (a 3 _ rfl);have p4:wr.cell? ⟨f,g+k*5+4,O⟩=T x4:=cBz c (a 4 _ rfl);have s:=Lib.hid j;clear j a h;go_wp2_with (go_at_call 43;refine Wh (w:=w) (Qhb _ [x0,x1,x2,x3,x4] x _ (J4 s.out c) (by omega) (by omega)) (by go_grown) ?_;intro w2 r2 a4 hb hz a5 m hs;have n:=Lib.hid m;clear m hb)
    . go_ret
      refine⟨_,rfl, ?_,by go_grown⟩;have z:=HU.out;have u2:=n.out;have t:=p.out;rw[b.out];unfold szq at*;go_light
      omega
    go_roundw
    case rel=>exact⟨k+1,_,by omega,by go_num,rfl,by omega,by omega,by
    show _=_;have z:=HT.out;have u2:=n.out;have t:=p.out;unfold szq at*;rw[z];omega,by go_grown⟩
    case measure=>simp[intOf];omega
  obtain rfl:k=l.length:=by omega
  go_wp2
  go_ret
  refine⟨_,rfl, ?_,c⟩;have t:=p.out;rw[zG] at t;rw[b.out];unfold szq;omega
theorem Qcn(w:L)(t:S K)(a:X2)(left:V)(u:rd w t a)(h0:0<=left)(h1:left<=1048576):Calls uI 38 #[.agg t.toArray,.int .i64 left] w (Iw w (GoD.size a) left):=by
 obtain⟨n,p,v⟩:=a;obtain⟨x,y,rfl,d,z,a4,rfl,e,f⟩:=u;obtain⟨g,rfl⟩:=Sn (show _=1 from GoD.rd_len d);obtain⟨h,rfl⟩:=Sn (show _=1 from GoD.rd_len e);obtain⟨rfl,f⟩:=f;dsimp only[zD,zE] at*;have j:=Lib.hid d;clear d;have k:=Lib.hid e;clear e;clear f;have b:True:=trivial;have c:True:=trivial;have l:GoD.size (n,p,v)=(GoD.size n+(GoD.size p+0)):=rfl;have q:=Lib.hid l;clear l;go_enter func38,ntmps38
 go_wp2_with (first | (go_at_call 71;have tk:=b;clear b;refine Wh (w:=w) (Qi5 _ g n _ (J4 j.out (by go_grown)) (by omega) (by omega)) (by go_grown) ?_;intro w1 r1 hB hb hz i m hs;have r:=Lib.hid m;clear m;(try simp only[zSz] at i);have c0:=λo=>M7 hb (w.heap.size) o (by go_size);clear hb) | (go_at_call 72;have tk:=c;clear c;refine Wh (w:=w) (Qn3 _ h p _ (J4 k.out (by go_grown)) (by omega) (by omega)) (by go_grown) ?_;intro w2 r2 hB hb hz i m hs;have s:=Lib.hid m;clear m;(try simp only[zSz] at i);have c0:=λo=>M7 hb (w.heap.size) o (by go_size);clear hb))
 all_goals
  go_ret
  refine⟨_,rfl, ?_,by go_grown⟩;rw[q.out];unfold szq
  (try have u1:=r.out)
  (try have u2:=s.out)
  (try unfold szq at*)
  go_light
  omega
theorem Qhc(w:L)(v:K)(l:S Yj)(left:V)(ha:rd w [v] l)(h0:0<=left)(h1:left<=1048576):Calls uI 39 #[v,.int .i64 left] w (Iw w (GoD.size l) left):=by
 obtain⟨oa,cap,s,hl,hm,c⟩:=ha;obtain rfl:v=_:=by simpa using s
 clear s;have HE:=Lib.hid c;clear c;unfold uA at hm;have a1:l.length<=9223372036854775807:=by omega
 have d:GoD.size l=l.length+(l.map GoD.size).sum:=rfl;have a:=Lib.hid d;clear d;by_cases t:left-l.length<0
 . go_enter func39,ntmps39
   go_wp2
   go_ret
   refine⟨_,rfl, ?_,Below.refl _ _⟩;rw[a.out];unfold szq;omega
 go_enter func39,ntmps39
 go_wp2
 go_loopw [1,5] (zI l left w) (λ_ i _=>l.length-(intOf i).toNat)
 case atStart=>exact⟨0,_,zH _,rfl,rfl,by omega,by omega,by show _=_;simp,Below.refl _ _⟩
 case round=>
  obtain⟨k,r,hk,rfl,rfl,a2,a3,n,j⟩:=hrel;by_cases o:k<l.length
  . have m:=zF o;obtain⟨u,y,ee,rfl,e,b,f⟩:=HE.out k _ m;have HT:=Lib.hid (I1 m);have HU:=Lib.hid (Bh m);clear m;generalize l[k]=x at*;obtain⟨x0,x1,rfl⟩:=LD (show _=2 from e);have p0:wr.cell? ⟨u,y+k*2,O⟩=T x0:=cBz j (b 0 _ rfl);have p1:wr.cell? ⟨u,y+k*2+1,O⟩=T x1:=cBz j (b 1 _ rfl);have p:=Lib.hid f;clear f b e;go_wp2_with (go_at_call 44;refine Wh (w:=w) (Qn1 _ [x0,x1] x _ (J4 p.out j) (by omega) (by omega)) (by go_grown) ?_;intro w2 r2 a4 hb hz a5 g hs;have h:=Lib.hid g;clear g hb)
    . go_ret
      refine⟨_,rfl, ?_,by go_grown⟩;have z:=HU.out;have u2:=h.out;have q:=n.out;rw[a.out];unfold szq at*;go_light
      omega
    go_roundw
    case rel=>exact⟨k+1,_,by omega,by go_num,rfl,by omega,by omega,by
    show _=_;have z:=HT.out;have u2:=h.out;have q:=n.out;unfold szq at*;rw[z];omega,by go_grown⟩
    case measure=>simp[intOf];omega
  obtain rfl:k=l.length:=by omega
  go_wp2
  go_ret
  refine⟨_,rfl, ?_,j⟩;have q:=n.out;rw[zG] at q;rw[a.out];unfold szq;omega
theorem Qi6(w:L)(m:S K)(a:Qi)(left:V)(p:rd w m a)(s:0<=left)(t:left<=1048576):Calls uI 73 #[.agg m.toArray,.int .i64 left] w (Iw w (GoD.size a) left):=by
 obtain⟨h,i⟩:=a;obtain⟨q,r,rfl,b,d⟩:=p;obtain⟨rfl,b⟩:=b;obtain⟨e,rfl⟩:=Sn (show _=1 from GoD.rd_len d);dsimp only[zD,zE] at*;unfold uA at b;have b:h.size<=9223372036854775807:=by omega
 have f:=Lib.hid d;clear d;have c:True:=trivial;have g:GoD.size (h,i)=(h.size+GoD.size i):=rfl;have j:=Lib.hid g;clear g;go_enter func73,ntmps73
 go_wp2_with (first | (go_at_call 16;have u:=c;clear c;refine Wh (w:=w) (UO _ e i _ (J4 f.out (by go_grown)) (by omega) (by omega)) (by go_grown) ?_;intro v x y hb z k n hs;have l:=Lib.hid n;clear n;(try simp only[zSz] at k);have c0:=λo=>M7 hb (w.heap.size) o (by go_size);clear hb))
 all_goals
  go_ret
  refine⟨_,rfl, ?_,by go_grown⟩;rw[j.out];unfold szq
  (try have u1:=l.out)
  (try unfold szq at*)
  go_light
  omega
theorem Qe4(w:L)(v:K)(l:S Qi)(left:V)(ha:rd w [v] l)(h0:0<=left)(h1:left<=1048576):Calls uI 40 #[v,.int .i64 left] w (Iw w (GoD.size l) left):=by
 obtain⟨oa,cap,s,hl,hm,c⟩:=ha;obtain rfl:v=_:=by simpa using s
 clear s;have HE:=Lib.hid c;clear c;unfold uA at hm;have a1:l.length<=9223372036854775807:=by omega
 have d:GoD.size l=l.length+(l.map GoD.size).sum:=rfl;have a:=Lib.hid d;clear d;by_cases t:left-l.length<0
 . go_enter func40,ntmps40
   go_wp2
   go_ret
   refine⟨_,rfl, ?_,Below.refl _ _⟩;rw[a.out];unfold szq;omega
 go_enter func40,ntmps40
 go_wp2
 go_loopw [1,5] (zI l left w) (λ_ i _=>l.length-(intOf i).toNat)
 case atStart=>exact⟨0,_,zH _,rfl,rfl,by omega,by omega,by show _=_;simp,Below.refl _ _⟩
 case round=>
  obtain⟨k,r,hk,rfl,rfl,a2,a3,n,j⟩:=hrel;by_cases o:k<l.length
  . have m:=zF o;obtain⟨u,y,ee,rfl,e,b,f⟩:=HE.out k _ m;have HT:=Lib.hid (I1 m);have HU:=Lib.hid (Bh m);clear m;generalize l[k]=x at*;obtain⟨x0,x1,rfl⟩:=LD (show _=2 from e);have p0:wr.cell? ⟨u,y+k*2,O⟩=T x0:=cBz j (b 0 _ rfl);have p1:wr.cell? ⟨u,y+k*2+1,O⟩=T x1:=cBz j (b 1 _ rfl);have p:=Lib.hid f;clear f b e;go_wp2_with (go_at_call 73;refine Wh (w:=w) (Qi6 _ [x0,x1] x _ (J4 p.out j) (by omega) (by omega)) (by go_grown) ?_;intro w2 r2 a4 hb hz a5 g hs;have h:=Lib.hid g;clear g hb)
    . go_ret
      refine⟨_,rfl, ?_,by go_grown⟩;have z:=HU.out;have u2:=h.out;have q:=n.out;rw[a.out];unfold szq at*;go_light
      omega
    go_roundw
    case rel=>exact⟨k+1,_,by omega,by go_num,rfl,by omega,by omega,by
    show _=_;have z:=HT.out;have u2:=h.out;have q:=n.out;unfold szq at*;rw[z];omega,by go_grown⟩
    case measure=>simp[intOf];omega
  obtain rfl:k=l.length:=by omega
  go_wp2
  go_ret
  refine⟨_,rfl, ?_,j⟩;have q:=n.out;rw[zG] at q;rw[a.out];unfold szq;omega
theorem Qe5(w:L)(ca:S K)(a:Xu)(left:V)(ha:rd w ca a)(h0:0<=left)(h1:left<=1048576):Calls uI 12 #[.agg ca.toArray,.int .i64 left] w (Iw w (GoD.size a) left):=by
 obtain⟨t,u,v⟩:=a;obtain⟨a5,a6,rfl,g,a7,a8,rfl,h,i⟩:=ha;obtain⟨j,k,l,rfl⟩:=Qwk (show _=3 from GoD.rd_len g);obtain⟨m,rfl⟩:=Sn (show _=1 from GoD.rd_len h);obtain⟨n,rfl⟩:=Sn (show _=1 from GoD.rd_len i);dsimp only[zD,zE] at*;have p:=Lib.hid g;clear g;have q:=Lib.hid h;clear h;have r:=Lib.hid i;clear i;have c:True:=trivial;have d:True:=trivial;have e:True:=trivial;have s:GoD.size (t,u,v)=(GoD.size t+(GoD.size u+GoD.size v)):=rfl;have x:=Lib.hid s;clear s;go_enter func12,ntmps12
 go_wp2_with (first | (go_at_call 38;have tk:=c;clear c;refine Wh (w:=w) (Qcn _ [j,k,l] t _ (J4 p.out (by go_grown)) (by omega) (by omega)) (by go_grown) ?_;intro w1 r1 hB hb hz b f hs;have y:=Lib.hid f;clear f;(try simp only[zSz] at b);have c0:=λo=>M7 hb (w.heap.size) o (by go_size);clear hb) | (go_at_call 39;have tk:=d;clear d;refine Wh (w:=w) (Qhc _ m u _ (J4 q.out (by go_grown)) (by omega) (by omega)) (by go_grown) ?_;intro w2 r2 hB hb hz b f hs;have z:=Lib.hid f;clear f;(try simp only[zSz] at b);have c0:=λo=>M7 hb (w.heap.size) o (by go_size);clear hb) | (go_at_call 40;have tk:=e;clear e;refine Wh (w:=w) (Qe4 _ n v _ (J4 r.out (by go_grown)) (by omega) (by omega)) (by go_grown) ?_;intro w3 r3 hB hb hz b f hs;have a4:=Lib.hid f;clear f;(try simp only[zSz] at b);have c0:=λo=>M7 hb (w.heap.size) o (by go_size);clear hb))
 all_goals
  go_ret
  refine⟨_,rfl, ?_,by go_grown⟩;rw[x.out];unfold szq
  (try have u1:=y.out)
  (try have u2:=z.out)
  (try have u3:=a4.out)
  (try unfold szq at*)
  go_light
  omega
theorem Qri(w:L)(h:S K)(a:P3)(left:V)(i:rd w h a)(l:0<=left)(m:left<=1048576):Calls uI 13 #[.agg h.toArray,.int .i64 left] w (Iw w (GoD.size a) left):=by
 obtain⟨e,f⟩:=a;obtain⟨j,k,rfl,b,c⟩:=i;obtain⟨rfl,b⟩:=b;obtain⟨rfl,c⟩:=c;dsimp only[zD,zE] at*;unfold uA at b;have b:e.size<=9223372036854775807:=by omega
 unfold uA at c;have c:f.size<=9223372036854775807:=by omega
 have d:GoD.size (e,f)=(e.size+f.size):=rfl;have g:=Lib.hid d;clear d;go_enter func13,ntmps13
 go_wp2
 all_goals
  go_ret
  refine⟨_,rfl, ?_,by go_grown⟩;rw[g.out];unfold szq
  (try unfold szq at*)
  go_light
  omega
theorem Qco(w:L)(u:S K)(a:Qw)(left:V)(v:rd w u a)(h0:0<=left)(h1:left<=1048576):Calls uI 74 #[.agg u.toArray,.int .i64 left] w (Iw w (GoD.size a) left):=by
 obtain⟨p,q⟩:=a;obtain⟨x,y,rfl,d,e⟩:=v;obtain⟨f,g,h,rfl⟩:=Qwk (show _=3 from GoD.rd_len d);obtain⟨i,rfl⟩:=Sn (show _=1 from GoD.rd_len e);dsimp only[zD,zE] at*;have k:=Lib.hid d;clear d;have l:=Lib.hid e;clear e;have b:True:=trivial;have c:True:=trivial;have m:GoD.size (p,q)=(GoD.size p+GoD.size q):=rfl;have r:=Lib.hid m;clear m;go_enter func74,ntmps74
 go_wp2_with (first | (go_at_call 38;have z:=b;clear b;refine Wh (w:=w) (Qcn _ [f,g,h] p _ (J4 k.out (by go_grown)) (by omega) (by omega)) (by go_grown) ?_;intro w1 r1 hB hb hz j n hs;have s:=Lib.hid n;clear n;(try simp only[zSz] at j);have c0:=λo=>M7 hb (w.heap.size) o (by go_size);clear hb) | (go_at_call 39;have z:=c;clear c;refine Wh (w:=w) (Qhc _ i q _ (J4 l.out (by go_grown)) (by omega) (by omega)) (by go_grown) ?_;intro w2 r2 hB hb hz j n hs;have t:=Lib.hid n;clear n;(try simp only[zSz] at j);have c0:=λo=>M7 hb (w.heap.size) o (by go_size);clear hb))
 all_goals
  go_ret
  refine⟨_,rfl, ?_,by go_grown⟩;rw[r.out];unfold szq
  (try have u1:=s.out)
  (try have u2:=t.out)
  (try unfold szq at*)
  go_light
  omega
theorem Qe6(w:L)(q:S K)(a:Gm)(left:V)(s:rd w q a)(h0:0<=left)(h1:left<=1048576):Calls uI 41 #[.agg q.toArray,.int .i64 left] w (Iw w (GoD.size a) left):=by
 obtain⟨t,l,u⟩:=a;obtain⟨v,x,rfl,c,y,z,rfl,d,e⟩:=s;obtain⟨rfl,c⟩:=c;obtain⟨f,g,h,i,rfl⟩:=Qya (show _=4 from GoD.rd_len d);obtain⟨rfl,e⟩:=e;dsimp only[zD,zE] at*;clear c;have j:=Lib.hid d;clear d;clear e;have b:True:=trivial;have k:GoD.size (t,l,u)=(0+(GoD.size l+0)):=rfl;have m:=Lib.hid k;clear k;go_enter func41,ntmps41
 go_wp2_with (first | (go_at_call 74;have tk:=b;clear b;refine Wh (w:=w) (Qco _ [f,g,h,i] l _ (J4 j.out (by go_grown)) (by omega) (by omega)) (by go_grown) ?_;intro w1 r1 hB hb hz n r hs;have p:=Lib.hid r;clear r;(try simp only[zSz] at n);have c0:=λo=>M7 hb (w.heap.size) o (by go_size);clear hb))
 all_goals
  go_ret
  refine⟨_,rfl, ?_,by go_grown⟩;rw[m.out];unfold szq
  (try have u1:=p.out)
  (try unfold szq at*)
  go_light
  omega
theorem Qcp(w:L)(v:K)(l:S Gm)(left:V)(ha:rd w [v] l)(h0:0<=left)(h1:left<=1048576):Calls uI 14 #[v,.int .i64 left] w (Iw w (GoD.size l) left):=by
 obtain⟨oa,cap,u,hl,hm,f⟩:=ha;obtain rfl:v=_:=by simpa using u
 clear u;have HE:=Lib.hid f;clear f;unfold uA at hm;have a1:l.length<=9223372036854775807:=by omega
 have g:GoD.size l=l.length+(l.map GoD.size).sum:=rfl;have c:=Lib.hid g;clear g;by_cases y:left-l.length<0
 . go_enter func14,ntmps14
   go_wp2
   go_ret
   refine⟨_,rfl, ?_,Below.refl _ _⟩;rw[c.out];unfold szq;omega
 go_enter func14,ntmps14
 go_wp2
 go_loopw [1,5] (zI l left w) (λ_ i _=>l.length-(intOf i).toNat)
 case atStart=>exact⟨0,_,zH _,rfl,rfl,by omega,by omega,by show _=_;simp,Below.refl _ _⟩
 case round=>
  obtain⟨k,r,hk,rfl,rfl,a2,a3,p,b⟩:=hrel;by_cases q:k<l.length
  . have o:=zF q;obtain⟨d,e,ee,rfl,h,a,j⟩:=HE.out k _ o;have HT:=Lib.hid (I1 o);have HU:=Lib.hid (Bh o);clear o;generalize l[k]=x at*;obtain⟨x0,x1,x2,x3,x4,x5,rfl⟩:=Qy3 (show _=6 from h);have p0:wr.cell? ⟨d,e+k*6,O⟩=T x0:=cBz b (a 0 _ rfl);have p1:wr.cell? ⟨d,e+k*6+1,O⟩=T x1:=cBz b (a 1 _ rfl);have p2:wr.cell? ⟨d,e+k*6+2,O⟩=T x2:=cBz b (a 2 _ rfl);have p3:wr.cell? ⟨d,e+k*6+3,O⟩=T x3:=cBz b (a 3 _ rfl);have p4:wr.cell? ⟨d,e+k*6+4,O⟩=T x4:=cBz b (a 4 _ rfl);have p5:wr.cell? ⟨d,e+k*6+5,O⟩=T x5:=cBz b (a 5 _ rfl);have s:=Lib.hid j;clear j a h;go_wp2_with (go_at_call 41;refine Wh (w:=w) (Qe6 _ [x0,x1,x2,x3,x4,x5] x _ (J4 s.out b) (by omega) (by omega)) (by go_grown) ?_;intro w2 r2 a4 hb hz a5 m hs;have n:=Lib.hid m;clear m hb)
    . go_ret
      refine⟨_,rfl, ?_,by go_grown⟩;have z:=HU.out;have u2:=n.out;have t:=p.out;rw[c.out];unfold szq at*;go_light
      omega
    go_roundw
    case rel=>exact⟨k+1,_,by omega,by go_num,rfl,by omega,by omega,by
    show _=_;have z:=HT.out;have u2:=n.out;have t:=p.out;unfold szq at*;rw[z];omega,by go_grown⟩
    case measure=>simp[intOf];omega
  obtain rfl:k=l.length:=by omega
  go_wp2
  go_ret
  refine⟨_,rfl, ?_,b⟩;have t:=p.out;rw[zG] at t;rw[c.out];unfold szq;omega
theorem Qn4(w:L)(t:S K)(a:T8)(left:V)(u:rd w t a)(h0:0<=left)(h1:left<=1048576):Calls uI 123 #[.agg t.toArray,.int .i64 left] w (Iw w (GoD.size a) left):=by
 obtain⟨v,n,p⟩:=a;obtain⟨x,y,rfl,d,z,a4,rfl,e,f⟩:=u;obtain⟨rfl,d⟩:=d;obtain⟨g,rfl⟩:=Sn (show _=1 from GoD.rd_len e);obtain⟨h,rfl⟩:=Sn (show _=1 from GoD.rd_len f);dsimp only[zD,zE] at*;clear d;have j:=Lib.hid e;clear e;have k:=Lib.hid f;clear f;have b:True:=trivial;have c:True:=trivial;have l:GoD.size (v,n,p)=(0+(GoD.size n+GoD.size p)):=rfl;have q:=Lib.hid l;clear l;go_enter func123,ntmps123
 go_wp2_with (first | (go_at_call 16;have tk:=b;clear b;refine Wh (w:=w) (UO _ g n _ (J4 j.out (by go_grown)) (by omega) (by omega)) (by go_grown) ?_;intro w1 r1 hB hb hz i m hs;have r:=Lib.hid m;clear m;(try simp only[zSz] at i);have c0:=λo=>M7 hb (w.heap.size) o (by go_size);clear hb) | (go_at_call 16;have tk:=c;clear c;refine Wh (w:=w) (UO _ h p _ (J4 k.out (by go_grown)) (by omega) (by omega)) (by go_grown) ?_;intro w2 r2 hB hb hz i m hs;have s:=Lib.hid m;clear m;(try simp only[zSz] at i);have c0:=λo=>M7 hb (w.heap.size) o (by go_size);clear hb))
 all_goals
  go_ret
  refine⟨_,rfl, ?_,by go_grown⟩;rw[q.out];unfold szq
  (try have u1:=r.out)
  (try have u2:=s.out)
  (try unfold szq at*)
  go_light
  omega
theorem Qi7(w:L)(v:K)(l:S T8)(left:V)(ha:rd w [v] l)(h0:0<=left)(h1:left<=1048576):Calls uI 75 #[v,.int .i64 left] w (Iw w (GoD.size l) left):=by
 obtain⟨oa,cap,u,hl,hm,c⟩:=ha;obtain rfl:v=_:=by simpa using u
 clear u;have HE:=Lib.hid c;clear c;unfold uA at hm;have a1:l.length<=9223372036854775807:=by omega
 have d:GoD.size l=l.length+(l.map GoD.size).sum:=rfl;have b:=Lib.hid d;clear d;by_cases y:left-l.length<0
 . go_enter func75,ntmps75
   go_wp2
   go_ret
   refine⟨_,rfl, ?_,Below.refl _ _⟩;rw[b.out];unfold szq;omega
 go_enter func75,ntmps75
 go_wp2
 go_loopw [1,5] (zI l left w) (λ_ i _=>l.length-(intOf i).toNat)
 case atStart=>exact⟨0,_,zH _,rfl,rfl,by omega,by omega,by show _=_;simp,Below.refl _ _⟩
 case round=>
  obtain⟨k,r,hk,rfl,rfl,a2,a3,n,e⟩:=hrel;by_cases o:k<l.length
  . have m:=zF o;obtain⟨p,q,ee,rfl,f,a,g⟩:=HE.out k _ m;have HT:=Lib.hid (I1 m);have HU:=Lib.hid (Bh m);clear m;generalize l[k]=x at*;obtain⟨x0,x1,x2,rfl⟩:=Qwk (show _=3 from f);have p0:wr.cell? ⟨p,q+k*3,O⟩=T x0:=cBz e (a 0 _ rfl);have p1:wr.cell? ⟨p,q+k*3+1,O⟩=T x1:=cBz e (a 1 _ rfl);have p2:wr.cell? ⟨p,q+k*3+2,O⟩=T x2:=cBz e (a 2 _ rfl);have s:=Lib.hid g;clear g a f;go_wp2_with (go_at_call 123;refine Wh (w:=w) (Qn4 _ [x0,x1,x2] x _ (J4 s.out e) (by omega) (by omega)) (by go_grown) ?_;intro w2 r2 a4 hb hz a5 h hs;have j:=Lib.hid h;clear h hb)
    . go_ret
      refine⟨_,rfl, ?_,by go_grown⟩;have z:=HU.out;have u2:=j.out;have t:=n.out;rw[b.out];unfold szq at*;go_light
      omega
    go_roundw
    case rel=>exact⟨k+1,_,by omega,by go_num,rfl,by omega,by omega,by
    show _=_;have z:=HT.out;have u2:=j.out;have t:=n.out;unfold szq at*;rw[z];omega,by go_grown⟩
    case measure=>simp[intOf];omega
  obtain rfl:k=l.length:=by omega
  go_wp2
  go_ret
  refine⟨_,rfl, ?_,e⟩;have t:=n.out;rw[zG] at t;rw[b.out];unfold szq;omega
theorem Qn5(w:L)(v:S K)(a:T9)(left:V)(x:rd w v a)(h0:0<=left)(h1:left<=1048576):Calls uI 42 #[.agg v.toArray,.int .i64 left] w (Iw w (GoD.size a) left):=by
 obtain⟨y,p,q,r⟩:=a;obtain⟨z,a5,rfl,e,a6,a7,rfl,b,a8,a9,rfl,f,g⟩:=x;obtain⟨rfl,e⟩:=e;obtain⟨rfl,b⟩:=b;obtain⟨h,rfl⟩:=Sn (show _=1 from GoD.rd_len f);obtain⟨i,rfl⟩:=Sn (show _=1 from GoD.rd_len g);dsimp only[zD,zE] at*;clear e;unfold uA at b;have b:p.size<=9223372036854775807:=by omega
 have k:=Lib.hid f;clear f;have l:=Lib.hid g;clear g;have c:True:=trivial;have d:True:=trivial;have m:GoD.size (y,p,q,r)=(0+(p.size+(GoD.size q+GoD.size r))):=rfl;have s:=Lib.hid m;clear m;go_enter func42,ntmps42
 go_wp2_with (first | (go_at_call 16;have tk:=c;clear c;refine Wh (w:=w) (UO _ h q _ (J4 k.out (by go_grown)) (by omega) (by omega)) (by go_grown) ?_;intro w1 r1 hB hb hz j n hs;have t:=Lib.hid n;clear n;(try simp only[zSz] at j);have c0:=λo=>M7 hb (w.heap.size) o (by go_size);clear hb) | (go_at_call 75;have tk:=d;clear d;refine Wh (w:=w) (Qi7 _ i r _ (J4 l.out (by go_grown)) (by omega) (by omega)) (by go_grown) ?_;intro w2 r2 hB hb hz j n hs;have u:=Lib.hid n;clear n;(try simp only[zSz] at j);have c0:=λo=>M7 hb (w.heap.size) o (by go_size);clear hb))
 all_goals
  go_ret
  refine⟨_,rfl, ?_,by go_grown⟩;rw[s.out];unfold szq
  (try have u1:=t.out)
  (try have u2:=u.out)
  (try unfold szq at*)
  go_light
  omega
theorem Qi8(w:L)(v:K)(l:S T9)(left:V)(ha:rd w [v] l)(h0:0<=left)(h1:left<=1048576):Calls uI 15 #[v,.int .i64 left] w (Iw w (GoD.size l) left):=by
 obtain⟨oa,cap,u,hl,hm,d⟩:=ha;obtain rfl:v=_:=by simpa using u
 clear u;have HE:=Lib.hid d;clear d;unfold uA at hm;have a1:l.length<=9223372036854775807:=by omega
 have e:GoD.size l=l.length+(l.map GoD.size).sum:=rfl;have b:=Lib.hid e;clear e;by_cases y:left-l.length<0
 . go_enter func15,ntmps15
   go_wp2
   go_ret
   refine⟨_,rfl, ?_,Below.refl _ _⟩;rw[b.out];unfold szq;omega
 go_enter func15,ntmps15
 go_wp2
 go_loopw [1,5] (zI l left w) (λ_ i _=>l.length-(intOf i).toNat)
 case atStart=>exact⟨0,_,zH _,rfl,rfl,by omega,by omega,by show _=_;simp,Below.refl _ _⟩
 case round=>
  obtain⟨k,r,hk,rfl,rfl,a2,a3,p,c⟩:=hrel;by_cases q:k<l.length
  . have m:=zF q;obtain⟨n,o,ee,rfl,f,a,g⟩:=HE.out k _ m;have HT:=Lib.hid (I1 m);have HU:=Lib.hid (Bh m);clear m;generalize l[k]=x at*;obtain⟨x0,x1,x2,x3,rfl⟩:=Qya (show _=4 from f);have p0:wr.cell? ⟨n,o+k*4,O⟩=T x0:=cBz c (a 0 _ rfl);have p1:wr.cell? ⟨n,o+k*4+1,O⟩=T x1:=cBz c (a 1 _ rfl);have p2:wr.cell? ⟨n,o+k*4+2,O⟩=T x2:=cBz c (a 2 _ rfl);have p3:wr.cell? ⟨n,o+k*4+3,O⟩=T x3:=cBz c (a 3 _ rfl);have s:=Lib.hid g;clear g a f;go_wp2_with (go_at_call 42;refine Wh (w:=w) (Qn5 _ [x0,x1,x2,x3] x _ (J4 s.out c) (by omega) (by omega)) (by go_grown) ?_;intro w2 r2 a4 hb hz a5 h hs;have j:=Lib.hid h;clear h hb)
    . go_ret
      refine⟨_,rfl, ?_,by go_grown⟩;have z:=HU.out;have u2:=j.out;have t:=p.out;rw[b.out];unfold szq at*;go_light
      omega
    go_roundw
    case rel=>exact⟨k+1,_,by omega,by go_num,rfl,by omega,by omega,by
    show _=_;have z:=HT.out;have u2:=j.out;have t:=p.out;unfold szq at*;rw[z];omega,by go_grown⟩
    case measure=>simp[intOf];omega
  obtain rfl:k=l.length:=by omega
  go_wp2
  go_ret
  refine⟨_,rfl, ?_,c⟩;have t:=p.out;rw[zG] at t;rw[b.out];unfold szq;omega
theorem OO(w:L)(ca:S K)(a:Ul)(left:V)(ha:rd w ca a)(h0:0<=left)(h1:left<=1048576):Calls uI 4 #[.agg ca.toArray,.int .i64 left] w (Iw w (GoD.size a) left):=by
 obtain⟨a1,a2,a3,a4,a5,a6⟩:=a;obtain⟨ak,al,rfl,i,am,an,rfl,j,ao,ap,rfl,k,aq,ar,rfl,l,au,av,rfl,m,n⟩:=ha;obtain⟨p,q,r,s,t,rfl⟩:=Qyb (show _=5 from GoD.rd_len i);obtain⟨u,v,rfl⟩:=LD (show _=2 from GoD.rd_len j);obtain⟨rfl,k⟩:=k;obtain⟨x,rfl⟩:=Sn (show _=1 from GoD.rd_len l);obtain⟨y,rfl⟩:=Sn (show _=1 from GoD.rd_len m);obtain⟨z,rfl⟩:=Sn (show _=1 from GoD.rd_len n);dsimp only[zD,zE] at*;have a7:=Lib.hid i;clear i;have a8:=Lib.hid j;clear j;clear k;have a9:=Lib.hid l;clear l;have aa:=Lib.hid m;clear m;have ab:=Lib.hid n;clear n;have d:True:=trivial;have e:True:=trivial;have f:True:=trivial;have g:True:=trivial;have h:True:=trivial;have ad:GoD.size (a1,a2,a3,a4,a5,a6)=(GoD.size a1+(GoD.size a2+(0+(GoD.size a4+(GoD.size a5+GoD.size a6))))):=rfl;have ae:=Lib.hid ad;clear ad;go_enter func4,ntmps4
 go_wp2_with (first | (go_at_call 12;have tk:=d;clear d;refine Wh (w:=w) (Qe5 _ [p,q,r,s,t] a1 _ (J4 a7.out (by go_grown)) (by omega) (by omega)) (by go_grown) ?_;intro w1 r1 hB hb hz b c hs;have af:=Lib.hid c;clear c;(try simp only[zSz] at b);have c0:=λo=>M7 hb (w.heap.size) o (by go_size);clear hb) | (go_at_call 13;have tk:=e;clear e;refine Wh (w:=w) (Qri _ [u,v] a2 _ (J4 a8.out (by go_grown)) (by omega) (by omega)) (by go_grown) ?_;intro w2 r2 hB hb hz b c hs;have ag:=Lib.hid c;clear c;(try simp only[zSz] at b);have c0:=λo=>M7 hb (w.heap.size) o (by go_size);clear hb) | (go_at_call 14;have tk:=f;clear f;refine Wh (w:=w) (Qcp _ x a4 _ (J4 a9.out (by go_grown)) (by omega) (by omega)) (by go_grown) ?_;intro w3 r3 hB hb hz b c hs;have ah:=Lib.hid c;clear c;(try simp only[zSz] at b);have c0:=λo=>M7 hb (w.heap.size) o (by go_size);clear hb) | (go_at_call 15;have tk:=g;clear g;refine Wh (w:=w) (Qi8 _ y a5 _ (J4 aa.out (by go_grown)) (by omega) (by omega)) (by go_grown) ?_;intro w4 r4 hB hb hz b c hs;have ai:=Lib.hid c;clear c;(try simp only[zSz] at b);have c0:=λo=>M7 hb (w.heap.size) o (by go_size);clear hb) | (go_at_call 16;have tk:=h;clear h;refine Wh (w:=w) (UO _ z a6 _ (J4 ab.out (by go_grown)) (by omega) (by omega)) (by go_grown) ?_;intro w5 r5 hB hb hz b c hs;have aj:=Lib.hid c;clear c;(try simp only[zSz] at b);have c0:=λo=>M7 hb (w.heap.size) o (by go_size);clear hb))
 all_goals
  go_ret
  refine⟨_,rfl, ?_,by go_grown⟩;rw[ae.out];unfold szq
  (try have u1:=af.out)
  (try have u2:=ag.out)
  (try have u3:=ah.out)
  (try have u4:=ai.out)
  (try have u5:=aj.out)
  (try unfold szq at*)
  go_light
  omega
end
section
open Go.RowKit
open GoE (enc)
section
variable {α:Type} [GoE α] {P:Program} {tt:S (J×TI)} {f g t6:J} {fn:Func} {i0 i1 i2 i3 i4 i5 i6 i7 i8 B B1:J} {O0 O1 O2 O3 O4 O5 O6 O7 O8:uD Oper}
theorem eqS(c:S6 P tt=Y)(n:P.follows .mixedOrders=Y)(q:P.funcs[f]? =T fn)(j:uB)(o:α->Ob)(r:∀(w0:Base) [GoodAt P w0] (a:α),(o a).holds (Jk P w0) (Uq P w0))(l:S α)
 (t:fn.body=T (.seq (.region i0 O0 U) (.seq (.seq (.region i1 O1 U) (.cond (.tmp 10) (.seq (.region i2 O2 U) .ret) .skip)) (.seq (.seq (.region i3 O3 U) (.block B (.loop (.seq (.seq (.region i4 O4 U) (.cond (.tmp 14) .skip (.exit B))) (.seq (.block B1 (.seq (.region i6 O6 Y) (.cond (.tmp t6) (.seq (.region i7 O7 U) .ret) .skip))) (.region i5 O5 U)))))) (.seq (.region i8 O8 U) .ret)))):=by exact rfl)
 (d:Iy P f:=by unfold Iy;kernel_rfl) (u:2<=fn.ntmps:=by exact Nat.le_of_ble_eq_true rfl)
 (v:Hm tt fn.ntmps [] O0.toList [0,1,4] [] (HF [.h l,.h l])=T (⟨[(0,.h l),(1,.h l),(4,.b U)], []⟩, []):=by kernel_rfl)
 (w:Hm tt fn.ntmps [(1,.val (.i (l.length:V))),(3,.val (.i (l.length:V))),(4,.val (.b U))] O1.toList [0,1,4,10] [] ⟨[(0,.h l),(1,.h l),(4,.b U)], []⟩=T (⟨[(0,.h l),(1,.h l),(4,.b U),(10,.b U)], []⟩, [.eq (.i ((eL l).length:V)) (.i (l.length:V)),.eq (.i ((eL l).length:V)) (.i (l.length:V)),.eq (.b ((l.length:V) !=(l.length:V))) (.b U)]):=by kernel_rfl)
 (x:Hm tt fn.ntmps [] O3.toList [5,0,1,4] [] ⟨[(0,.h l),(1,.h l),(4,.b U),(10,.b U)], []⟩=T (⟨[(5,.i 0),(0,.h l),(1,.h l),(4,.b U)], []⟩, []):=by kernel_rfl)
 (m:∀(k:J) (b:uB),Hm tt fn.ntmps [(2,.val (.i (l.length:V))),(3,.val (.b b))] O4.toList [5,0,1,4,14] [] ⟨[(5,.i (k:V)),(0,.h l),(1,.h l),(4,.b U)], []⟩=T (⟨[(5,.i (k:V)),(0,.h l),(1,.h l),(4,.b U),(14,.b b)], []⟩, [.eq (.i ((eL l).length:V)) (.i (l.length:V)),.eq (.b (decide ((k:V)<(l.length:V)))) (.b b)]):=by intro k b;kernel_rfl)
 (z:∀(k:J) (a:α),I4 tt fn.ntmps [(2,.row (enc a)),(6,.row (enc a)),(8,.val (.b j))] O6.toList [5,0,1,4,t6] [] ⟨[(5,.i (k:V)),(0,.h l),(1,.h l),(4,.b U),(14,.b Y)], []⟩=T (⟨[(5,.i (k:V)),(0,.h l),(1,.h l),(4,.b U),(t6,.b U)], []⟩, [.elem (eL l) (k:V) (enc a),.elem (eL l) (k:V) (enc a),o a]):=by intro k a;kernel_rfl)
 (h7:∀k:J,get [(5,AV.i (k:V)),(0,.h l),(1,.h l),(4,.b U),(t6,.b U)] t6=T (.b U):=by intro k;kernel_rfl)
 (h5:∀k:J,Hm tt fn.ntmps [(1,.val (.i ((k+1:J):V)))] O5.toList [5,0,1,4] [] ⟨[(5,.i (k:V)),(0,.h l),(1,.h l),(4,.b U),(t6,.b U)], []⟩=T (⟨[(5,.i ((k+1:J):V)),(0,.h l),(1,.h l),(4,.b U)], []⟩, [.eq (.i (IntKind.i64.wrap ((k:V)+1))) (.i ((k+1:J):V))]):=by intro k;kernel_rfl)
 (h8:Hm tt fn.ntmps [] O8.toList [4] [] ⟨[(4,.b U)], []⟩=T (⟨[(4,.b Y)], []⟩, []):=by kernel_rfl)
 (hr:Tf tt fn.results.toList ⟨[(4,.b Y)], []⟩=T (.b Y):=by kernel_rfl):ACalls P f [.h l,.h l] (.b Y):=by
 refine VG c q t d u λw0 F0 hG=>?_
 refine Qa (Ky c [] _ _ v p0 ?_);refine Qa (Qa (Ky c _ _ _ w (pl 1 l (pl 3 l (pf 4 (by simp) p0))) ?_));refine ckF (Qd ?_);refine Qa (Qa (Ky c [] _ _ x p0 ?_));refine wT 0 0 .sh l (λhw hl=>?_) rfl;refine S8 (R:=uB) (τ:=uC) (λ_ _ (_:uC)=> .next ()) (λ_ _=>()) l () (λk _=> [(5,.i (k:V))]) [5] (λ_=> []) [0,1,5] (Qe rfl) (λk s e g=>?_) (λk s e g=>?_) (λy _=>?_)
 . obtain⟨a,h⟩:=Xn (l:=l) (i:=k) e;refine Qa (Qa (Ky c _ _ _ (m k Y) (pl 2 l (pt 3 (uG (p:=(k:V)<(l.length:V)) (by omega)) p0)) ?_));refine ckT (Qd ?_);refine Qa (Qn (Qa (DA c n _ _ _ (z k a) (pn 2 h (pn 6 h (po 8 (.val (.b j)) (px (r w0 a) p0)))) ?_)));refine VL (h7 k) (Qd ?_);refine Ky c _ _ _ (h5 k) (pe 1 (Nn (ER k (by omega))) p0) ?_;exact⟨(),Qe rfl,Qp h rfl g⟩
 . refine Qa (Qa (Ky c _ _ _ (m k U) (pl 2 l (pf 3 (uF (p:=(k:V)<(l.length:V)) (by omega)) p0)) ?_));refine ckF (Qv ?_);show(bif Nat.beq B B then _ else _:Prop);rw[Nat.beq_refl];exact⟨(),Qe rfl,Xo e rfl g⟩
 refine Qa (Ky c [] _ _ h8 p0 (Qc ?_));exact N8 [] hr rfl
def eqZ(a:α):St:=⟨[(2,.p 2 0),(3,.p 3 0),(4,.b U)], [(2,(enc a).map shC),(3,(enc a).map shC)]⟩
variable {N:J} {w0:Base} {F0:J->Prop} {c y:Code} {rs:S ResultVar} {t:J}
theorem eqA(b:S6 P tt=Y)(e:P.funcs[f]? =T fn)(a:α)(k:∀(w0:Base) (F0:J->Prop) (_:GoodAt P w0),AWP P fn.ntmps w0 F0 c (Qjq tt fn.results.toList (.b Y)) (eqZ a))
 (g:fn.body=T (.seq (.region i0 O0 U) c):=by exact rfl) (d:Iy P f:=by unfold Iy;kernel_rfl) (h:2<=fn.ntmps:=by exact Nat.le_of_ble_eq_true rfl)
 (i:Hm tt fn.ntmps [] O0.toList [2,3,4] [2,3] (HF [B9 a,B9 a])=T (eqZ a, []):=by kernel_rfl):ACalls P f [B9 a,B9 a] (.b Y):=
 VG b e g d h λw0 F0 j=>Qa (Ky b [] _ _ i p0 (k w0 F0 j))
def eqY(a:α)(t:J)(b:uB):St:=⟨[(2,.p 2 0),(3,.p 3 0),(4,.b U),(t,.b b)], [(2,(enc a).map shC),(3,(enc a).map shC)]⟩
theorem eqF(c:S6 P tt=Y){a:α}{b:uB}{Q:Exit->St->Prop}(k:AWP P N w0 F0 y Q (eqZ a))(d:b=U:=by simp)
 (h:Hm tt N [(O1.size-1,.val (.b U))] O1.toList [2,3,4,t] [2,3] (eqZ a)=T (eqY a t U, [.eq (.b b) (.b U)]):=by kernel_rfl) (e:get (eqY a t U).tm t=T (.b U):=by kernel_rfl) (f:(eqY a t U).keep [2,3,4] [2,3]=eqZ a:=by kernel_rfl):AWP P N w0 F0 (.seq (.seq (.region i1 O1 U) (.cond (.tmp t) (.seq (.region i2 O2 U) .ret) .skip)) y) Q (eqZ a):=
 Qa (Qa (Ky c _ _ _ h (pf (O1.size-1) d p0) (VL e (Qd (I3 (EO _ _ f) k)))))
theorem eqG(b:S6 P tt=Y){a:α}{v:AV}{Q:Exit->St->Prop}[GoodAt P w0](c:ACalls P g [v,v] (.b Y))(k:AWP P N w0 F0 y Q (eqZ a))
 (h:Hm tt N [(O1.size-2,.val (.b Y))] O1.toList [2,3,4,t] [2,3] (eqZ a)=T (eqY a t U, [.call g [v,v] (.b Y)]):=by kernel_rfl) (d:get (eqY a t U).tm t=T (.b U):=by kernel_rfl) (e:(eqY a t U).keep [2,3,4] [2,3]=eqZ a:=by kernel_rfl):AWP P N w0 F0 (.seq (.seq (.region i1 O1 U) (.cond (.tmp t) (.seq (.region i2 O2 U) .ret) .skip)) y) Q (eqZ a):=
 Qa (Qa (Ky b _ _ _ h (pc (O1.size-2) c p0) (VL d (Qd (I3 (EO _ _ e) k)))))
theorem eqE(b:S6 P tt=Y){a:α}(h:Hm tt N [] O1.toList [4] [] (eqZ a)=T (⟨[(4,.b Y)], []⟩, []):=by kernel_rfl)(c:Tf tt rs ⟨[(4,.b Y)], []⟩=T (.b Y):=by kernel_rfl):AWP P N w0 F0 (.seq (.region i1 O1 U) .ret) (Qjq tt rs (.b Y)) (eqZ a):=
 Qa (Ky b [] _ _ h p0 (Qc (N8 [] c rfl)))
theorem eqI(b:S6 P tt=Y){a:α}(x:V){Q:Exit->St->Prop}(k:AWP P N w0 F0 y Q (eqZ a))
 (h:Hm tt N [(O1.size-1,.val (.b U))] O1.toList [2,3,4,t] [2,3] (eqZ a)=T (eqY a t U, [.eq (.b (x !=x)) (.b U)]):=by kernel_rfl) (c:get (eqY a t U).tm t=T (.b U):=by kernel_rfl) (d:(eqY a t U).keep [2,3,4] [2,3]=eqZ a:=by kernel_rfl):AWP P N w0 F0 (.seq (.seq (.region i1 O1 U) (.cond (.tmp t) (.seq (.region i2 O2 U) .ret) .skip)) y) Q (eqZ a):=eqF b k (by simp) h c d
theorem eqB(b:S6 P tt=Y){a:α}(x:uB){Q:Exit->St->Prop}(k:AWP P N w0 F0 y Q (eqZ a))
 (h:Hm tt N [(O1.size-1,.val (.b U))] O1.toList [2,3,4,t] [2,3] (eqZ a)=T (eqY a t U, [.eq (.b (!(x==x))) (.b U)]):=by kernel_rfl) (c:get (eqY a t U).tm t=T (.b U):=by kernel_rfl) (d:(eqY a t U).keep [2,3,4] [2,3]=eqZ a:=by kernel_rfl):AWP P N w0 F0 (.seq (.seq (.region i1 O1 U) (.cond (.tmp t) (.seq (.region i2 O2 U) .ret) .skip)) y) Q (eqZ a):=eqF b k (by simp) h c d
theorem eqT(b:S6 P tt=Y){a:α}(x:ByteArray){Q:Exit->St->Prop}(k:AWP P N w0 F0 y Q (eqZ a))
 (h:Hm tt N [(O1.size-1,.val (.b U))] O1.toList [2,3,4,t] [2,3] (eqZ a)=T (eqY a t U, [.eq (.b (!(x.toList==x.toList))) (.b U)]):=by kernel_rfl) (c:get (eqY a t U).tm t=T (.b U):=by kernel_rfl) (d:(eqY a t U).keep [2,3,4] [2,3]=eqZ a:=by kernel_rfl):AWP P N w0 F0 (.seq (.seq (.region i1 O1 U) (.cond (.tmp t) (.seq (.region i2 O2 U) .ret) .skip)) y) Q (eqZ a):=eqF b k (by simp) h c d
def toM{β:Type}(l:S β)(d:β)(k:J):S β:=l.take k++zL (l.length-k) d
theorem Qs1{β:Type}(l:S β)(d:β){k:J}(h:k<l.length):(toM l d k)[k]? =T d:=by
 unfold toM;rw[List.getElem?_append_right (by simp;omega),List.getElem?_replicate];simp;omega
theorem Qvk{β:Type}{l:S β}(d:β){k:J}{a:β}(h:l[k]? =T a):(toM l d k).set k a=toM l d (k+1):=by
 have b:k<l.length:=(List.getElem?_eq_some_iff.1 h).1;obtain⟨m,hm⟩:∃m,l.length-k=m+1:=⟨l.length-k-1,by omega⟩;unfold toM;rw[hm,show l.length-(k+1)=m by omega,List.replicate_succ,List.set_append_right _ _ (by simp;omega),List.take_add_one,h];simp[Nat.min_eq_left (Nat.le_of_lt b)]
theorem toS(d:α)(c:S6 P tt=Y)(s:P.funcs[f]? =T fn)(j:J)(e:α->S (J×Orc))(o:α->S Ob)(t:∀(w0:Base) [GoodAt P w0] (a:α) (orcs:S (J×Orc)) (obs:S Ob),PL (Jk P w0) (Uq P w0) orcs obs->PL (Jk P w0) (Uq P w0) (e a++orcs) (o a++obs))(l:S α)
 (u:fn.body=T (.seq (.region i0 O0 U) (.seq (.region i1 O1 U) (.seq (.seq (.region i2 O2 U) (.block B (.loop (.seq (.seq (.region i3 O3 U) (.cond (.tmp 11) .skip (.exit B))) (.seq (.block B1 (.region i5 O5 U)) (.region i4 O4 U)))))) (.seq (.region i6 O6 U) .ret)))):=by exact rfl)
 (n:Iy P f:=by unfold Iy;kernel_rfl) (v:1<=fn.ntmps:=by exact Nat.le_of_ble_eq_true rfl)
 (w:Hm tt fn.ntmps [] O0.toList [0] [] (HF [.h l])=T (⟨[(0,.h l)], []⟩, []):=by kernel_rfl)
 (z:Hm tt fn.ntmps [(1,.val (.i (l.length:V)))] O1.toList [3,0] [] ⟨[(0,.h l)], []⟩=T (⟨[(3,.one (.slc (.own Y 448) (GoD.n α) (zL l.length (enc d)))),(0,.h l)], []⟩, [.eq (.i ((eL l).length:V)) (.i (l.length:V)),.rng 0 (l.length:V) 1073741824]):=by kernel_rfl)
 (h2:∀m:S α,Hm tt fn.ntmps [] O2.toList [4,3,0] [] ⟨[(3,.one (.slc (.own Y 448) (GoD.n α) (eL m))),(0,.h l)], []⟩=T (⟨[(4,.i 0),(3,.one (.slc (.own Y 448) (GoD.n α) (eL m))),(0,.h l)], []⟩, []):=by intro m;kernel_rfl)
 (q:∀(k:J) (m:S α) (b:uB),Hm tt fn.ntmps [(2,.val (.i (l.length:V))),(3,.val (.b b))] O3.toList [4,3,0,11] [] ⟨[(4,.i (k:V)),(3,.one (.slc (.own Y 448) (GoD.n α) (eL m))),(0,.h l)], []⟩=T (⟨[(4,.i (k:V)),(3,.one (.slc (.own Y 448) (GoD.n α) (eL m))),(0,.h l),(11,.b b)], []⟩, [.eq (.i ((eL l).length:V)) (.i (l.length:V)),.eq (.b (decide ((k:V)<(l.length:V)))) (.b b)]):=by intro k m b;kernel_rfl)
 (h5:∀(k:J) (m:S α) (a x:α),Hm tt fn.ntmps ((4,.row (enc a))::(e a++ [(j,.rowE (enc x))])) O5.toList [4,3,0] [] ⟨[(4,.i (k:V)),(3,.one (.slc (.own Y 448) (GoD.n α) (eL m))),(0,.h l),(11,.b Y)], []⟩=T (⟨[(4,.i (k:V)),(3,.one (.slc (.own Y 448) (GoD.n α) (setRow (eL m) k 0 (enc a)))),(0,.h l)], []⟩,(.elem (eL l) (k:V) (enc a)::(o a++ [.elem (eL m) (k:V) (enc x)]))):=by intro k m a x;kernel_rfl)
 (h4:∀(k:J) (m:S α),Hm tt fn.ntmps [(1,.val (.i ((k+1:J):V)))] O4.toList [4,3,0] [] ⟨[(4,.i (k:V)),(3,.one (.slc (.own Y 448) (GoD.n α) (eL m))),(0,.h l)], []⟩=T (⟨[(4,.i ((k+1:J):V)),(3,.one (.slc (.own Y 448) (GoD.n α) (eL m))),(0,.h l)], []⟩, [.eq (.i (IntKind.i64.wrap ((k:V)+1))) (.i ((k+1:J):V))]):=by intro k m;kernel_rfl)
 (h6:∀m:S α,Hm tt fn.ntmps [] O6.toList [2] [] ⟨[(3,.one (.slc (.own Y 448) (GoD.n α) (eL m)))], []⟩=T (⟨[(2,.one (.slc (.own Y 448) (GoD.n α) (eL m)))], []⟩, []):=by intro m;kernel_rfl)
 (hr:∀m:S α,Tf tt fn.results.toList ⟨[(2,.one (.slc (.own Y 448) (GoD.n α) (eL m)))], []⟩=T (MS m):=by intro m;kernel_rfl)
 (g:∀a b:α,(enc a).length=(enc b).length:=by intro a b;rfl):ACalls P f [.h l] (MS l):=by
 refine VG c s u n v λw0 F0 hG=>?_
 refine Qa (Ky c [] _ _ w p0 ?_);refine wT 0 0 .sh l (λhw hl=>?_) rfl;refine Qa (Ky c _ _ _ z (pl 1 l (px (show(0:V)<=0/\(0:V)<=(l.length:V)/\(l.length:V)<=((1073741824:J):V) by omega) p0)) ?_);have e0:zL l.length (enc d)=eL (toM l d 0):=by simp[toM,eL]
 rw[e0];refine Qa (Qa (Ky c [] _ _ (h2 _) p0 ?_));refine Ho (σ:=uC) (τ:=uC) (λk _=>⟨[(4,.i (k:V)),(3,.one (.slc (.own Y 448) (GoD.n α) (eL (toM l d k)))),(0,.h l)], []⟩) (λ_=>⟨[(3,.one (.slc (.own Y 448) (GoD.n α) (eL l)))], []⟩) (λ_ _=>True) (λ_=>True) l.length () (Qk8 rfl) trivial (λk _ h _=>?_) (λk _ h _=>?_) (λ_ _=>?_)
 . obtain⟨a,r⟩:=Xn (l:=l) (i:=k) h;refine Qa (Qa (Ky c _ _ _ (q k _ Y) (pl 2 l (pt 3 (uG (p:=(k:V)<(l.length:V)) (by omega)) p0)) ?_));refine ckT (Qd ?_);refine Qa (Qn (Ky c _ _ _ (h5 k _ a d) (pn 4 r (t w0 a _ _ (pN j (Qs1 l d h) p0))) ?_));rw[Wd (y:=a) (Qs1 l d h) (by rw[Nat.zero_add,List.take_zero,zE,List.drop_eq_nil_of_le (Nat.le_of_eq (g d a)),List.append_nil]),Qvk d r];exact Ky c _ _ _ (h4 k _) (pe 1 (Nn (ER k (by omega))) p0) ⟨(),Qk8 rfl,trivial⟩
 . subst h;refine Qa (Qa (Ky c _ _ _ (q _ _ U) (pl 2 l (pf 3 (uF (p:=(l.length:V)<(l.length:V)) (by omega)) p0)) ?_));refine ckF (Qv ?_);show(bif Nat.beq B B then _ else _:Prop);rw[Nat.beq_refl];refine⟨(), ?_,trivial⟩;rw[show toM l d l.length=l by simp[toM]];exact Qe rfl
 exact Qa (Ky c [] _ _ (h6 _) p0 (Qc (N8 [] (hr _) rfl)))
end
open GoE (enc wide)
theorem Qi9(a:Ul)(left:V)(b:0<=left)(d:left<=1048576):ACalls uI 4 [B9 a,Qpm left] (Qpm (szI (GoD.size a) left)):=Qi2 (by unfold Iy;kernel_rfl) b d λw c e=>OO w c a left e b d
theorem Qe7(a:S Vk)(left:V)(b:0<=left)(d:left<=1048576):ACalls uI 5 [Qhu a,Qpm left] (Qpm (szI (GoD.size a) left)):=Qi3 (by unfold Iy;kernel_rfl) b d λw c e=>IU w c a left e b d
def KR(a:Zt):Zt:=a
theorem SO(a:Zt):ACalls uI 149 [.a [.s a.1,.i a.2]] (.a [.s ((KR a).1),.i ((KR a).2)]):=by
 refine en func149 λ_ _ _=>sn [1,2] [1,2] p0 ?_
 exact tn [1,2,3] [1,2,3] p0<|tu [(1,.p 1 0),(2,.p 2 0),(3,.p 3 0)] [0] [(1, [.s a.1,.i a.2]),(2, [.s ⟨#[]⟩,.i 0]),(3, [.s a.1,.i 0])] [] p0<|sn [2,3] [2,3] p0<|tn [2] [2] p0<|Qc<|pz [] (show KR a=a from rfl) (λz=> .a [.s z.1,.i z.2])
theorem Qn6(a:Zt):ACalls uI 149 [B9 a] (QQ a):=SO a
theorem Qja(l:S Zt):ACalls uI 93 [.h l] (MS l):=toS default Z7 func93 7 (λa=> [(6,.val (QQ a))]) (λa=> [.call 149 [B9 a] (QQ a)]) (λ_ _ a _ _=>pc 6 (Qn6 a)) l
def T2(a:Wx):Wx:=a
theorem SQ(a:Wx):ACalls uI 213 [.a [.i a.1,.i a.2.1,.s a.2.2]] (.a [.i ((T2 a).1),.i ((T2 a).2.1),.s ((T2 a).2.2)]):=by
 refine en func213 λ_ _ _=>sn [1,2] [1,2] p0 ?_
 exact tn [1,2,3] [1,2,3] p0<|tu [(1,.p 1 0),(2,.p 2 0),(3,.p 3 0)] [0] [(1, [.i a.1,.i a.2.1,.s a.2.2]),(2, [.i 0,.i 0,.s ⟨#[]⟩]),(3, [.i a.1,.i 0,.s ⟨#[]⟩])] [] p0<|sn [1,2,3] [1,2,3] p0<|tn [2,3] [2,3] p0<|tu [] [1,3] [(2, [.i a.1,.i a.2.1,.s a.2.2])] [1,2,3] p0<|Qc<|pz [] (show T2 a=a from rfl) (λz=> .a [.i z.1,.i z.2.1,.s z.2.2])
theorem Qcq(a:Wx):ACalls uI 213 [B9 a] (QQ a):=SQ a
def S5(a:Hk):Hk:=a
theorem Qcr(a:Hk):ACalls uI 151 [.a [.s a.1,.i a.2.1,.i a.2.2.1,.s a.2.2.2]] (.a [.s ((S5 a).1),.i ((S5 a).2.1),.i ((S5 a).2.2.1),.s ((S5 a).2.2.2)]):=by
 refine en func151 λ_ _ _=>sn [1,2] [1,2] p0 ?_
 exact tn [1,2,3] [1,2,3] p0<|tu [(1,.p 1 0),(2,.p 2 0),(3,.p 3 0)] [0] [(1, [.s a.1,.i a.2.1,.i a.2.2.1,.s a.2.2.2]),(2, [.s ⟨#[]⟩,.i 0,.i 0,.s ⟨#[]⟩]),(3, [.s a.1,.i 0,.i 0,.s ⟨#[]⟩])] [] p0<|sn [2,3] [2,3] (pc 2 (Qcq a.2) p0)<|tn [2] [2] p0<|Qc<|pz [] (show S5 a=a from rfl) (λz=> .a [.s z.1,.i z.2.1,.i z.2.2.1,.s z.2.2.2])
theorem Qrj(a:Hk):ACalls uI 151 [B9 a] (QQ a):=Qcr a
theorem Qn7(l:S Hk):ACalls uI 98 [.h l] (MS l):=toS default Z7 func98 7 (λa=> [(6,.val (QQ a))]) (λa=> [.call 151 [B9 a] (QQ a)]) (λ_ _ a _ _=>pc 6 (Qrj a)) l
def Ox(a:Xt):Xt:=a
theorem Qcs(a:Xt):ACalls uI 56 [.a [.i a.1,.i a.2.1,.b a.2.2.1,.i a.2.2.2.1,.h a.2.2.2.2]] (.a [.i ((Ox a).1),.i ((Ox a).2.1),.b ((Ox a).2.2.1),.i ((Ox a).2.2.2.1),.o 0 ((Ox a).2.2.2.2)]):=by
 refine en func56 λ_ _ _=>sn [1,2] [1,2] p0 ?_
 exact tn [1,2,3] [1,2,3] p0<|tu [(1,.p 1 0),(2,.p 2 0),(3,.p 3 0)] [0] [(1, [.i a.1,.i a.2.1,.b a.2.2.1,.i a.2.2.2.1,.h a.2.2.2.2]),(2, [.i 0,.i 0,.b U,.i 0,.e 4]),(3, [.i a.1,.i 0,.b U,.i 0,.e 4])] [] p0<|sn [1,2,3] [1,2,3] p0<|tn [1,2,3] [1,2,3] p0<|tu [] [] [(3, [.i a.1,.i a.2.1,.b a.2.2.1,.i a.2.2.2.1,.e 4])] [3] p0<|sn [2,3] [2,3] (pc 2 (Qn7 a.2.2.2.2) p0)<|tn [2] [2] p0<|Qc<|pz [] (show Ox a=a from rfl) (λz=> .a [.i z.1,.i z.2.1,.b z.2.2.1,.i z.2.2.2.1,.o 0 z.2.2.2.2])
theorem Qhd(a:Xt):ACalls uI 56 [B9 a] (QQ a):=Qcs a
theorem Qn8(l:S Xt):ACalls uI 94 [.h l] (MS l):=toS default Z7 func94 7 (λa=> [(6,.val (QQ a))]) (λa=> [.call 56 [B9 a] (QQ a)]) (λ_ _ a _ _=>pc 6 (Qhd a)) l
def T3(a:X2):X2:=a
theorem SR(a:X2):ACalls uI 51 [.a [.h a.1,.h a.2.1,.i a.2.2]] (.a [.o 0 ((T3 a).1),.o 1 ((T3 a).2.1),.i ((T3 a).2.2)]):=by
 refine en func51 λ_ _ _=>sn [1,2] [1,2] p0 ?_
 exact tn [1,2,3] [1,2,3] p0<|tu [(1,.p 1 0),(2,.p 2 0),(3,.p 3 0)] [0] [(1, [.h a.1,.h a.2.1,.i a.2.2]),(2, [.e 2,.e 5,.i 0]),(3, [.o 384 a.1,.e 5,.i 0])] [] (pc 2 (Qja a.1) p0)<|sn [1,2,3] [1,2,3] (pc 2 (Qn8 a.2.1) p0)<|tn [2,3] [2,3] p0<|tu [] [1,3] [(2, [.o 384 a.1,.o 640 a.2.1,.i a.2.2])] [1,2,3] p0<|Qc<|pz [] (show T3 a=a from rfl) (λz=> .a [.o 0 z.1,.o 1 z.2.1,.i z.2.2])
theorem Qct(a:X2):ACalls uI 51 [B9 a] (QQ a):=SR a
def Iv(a:Q0):Q0:=a
theorem Qcu(a:Q0):ACalls uI 152 [.a [.i a.1,.i a.2.1,.i a.2.2.1,.s a.2.2.2.1,.i a.2.2.2.2.1,.i a.2.2.2.2.2.1,.s a.2.2.2.2.2.2]] (.a [.i ((Iv a).1),.i ((Iv a).2.1),.i ((Iv a).2.2.1),.s ((Iv a).2.2.2.1),.i ((Iv a).2.2.2.2.1),.i ((Iv a).2.2.2.2.2.1),.s ((Iv a).2.2.2.2.2.2)]):=by
 refine en func152 λ_ _ _=>sn [1,2] [1,2] p0 ?_
 exact tn [1,2,3] [1,2,3] p0<|tu [(1,.p 1 0),(2,.p 2 0),(3,.p 3 0)] [0] [(1, [.i a.1,.i a.2.1,.i a.2.2.1,.s a.2.2.2.1,.i a.2.2.2.2.1,.i a.2.2.2.2.2.1,.s a.2.2.2.2.2.2]),(2, [.i 0,.i 0,.i 0,.s ⟨#[]⟩,.i 0,.i 0,.s ⟨#[]⟩]),(3, [.i a.1,.i 0,.i 0,.s ⟨#[]⟩,.i 0,.i 0,.s ⟨#[]⟩])] [] p0<|sn [1,2,3] [1,2,3] p0<|tn [1,2,3] [1,2,3] p0<|tu [] [] [(3, [.i a.1,.i a.2.1,.i a.2.2.1,.s a.2.2.2.1,.i 0,.i 0,.s ⟨#[]⟩])] [3] p0<|sn [2,3] [2,3] (pc 2 (Qcq a.2.2.2.2) p0)<|tn [2] [2] p0<|Qc<|pz [] (show Iv a=a from rfl) (λz=> .a [.i z.1,.i z.2.1,.i z.2.2.1,.s z.2.2.2.1,.i z.2.2.2.2.1,.i z.2.2.2.2.2.1,.s z.2.2.2.2.2.2])
theorem Qrk(a:Q0):ACalls uI 152 [B9 a] (QQ a):=Qcu a
theorem Qn9(l:S Q0):ACalls uI 99 [.h l] (MS l):=toS default Z7 func99 7 (λa=> [(6,.val (QQ a))]) (λa=> [.call 152 [B9 a] (QQ a)]) (λ_ _ a _ _=>pc 6 (Qrk a)) l
def IV(a:Yj):Yj:=a
theorem Qe8(a:Yj):ACalls uI 57 [.a [.s a.1,.h a.2]] (.a [.s ((IV a).1),.o 0 ((IV a).2)]):=by
 refine en func57 λ_ _ _=>sn [1,2] [1,2] p0 ?_
 exact tn [1,2,3] [1,2,3] p0<|tu [(1,.p 1 0),(2,.p 2 0),(3,.p 3 0)] [0] [(1, [.s a.1,.h a.2]),(2, [.s ⟨#[]⟩,.e 7]),(3, [.s a.1,.e 7])] [] p0<|sn [2,3] [2,3] (pc 2 (Qn9 a.2) p0)<|tn [2] [2] p0<|Qc<|pz [] (show IV a=a from rfl) (λz=> .a [.s z.1,.o 0 z.2])
theorem Qoa(a:Yj):ACalls uI 57 [B9 a] (QQ a):=Qe8 a
theorem Qhe(l:S Yj):ACalls uI 52 [.h l] (MS l):=toS default Z7 func52 7 (λa=> [(6,.val (QQ a))]) (λa=> [.call 57 [B9 a] (QQ a)]) (λ_ _ a _ _=>pc 6 (Qoa a)) l
theorem UP(l:S V):ACalls uI 26 [.h l] (MS l):=toS default Z7 func26 6 (λ_=> []) (λ_=> []) (λ_ _ _ _ _ h=>h) l
def YO(a:Qi):Qi:=a
theorem MD(a:Qi):ACalls uI 95 [.a [.s a.1,.h a.2]] (.a [.s ((YO a).1),.o 0 ((YO a).2)]):=by
 refine en func95 λ_ _ _=>sn [1,2] [1,2] p0 ?_
 exact tn [1,2,3] [1,2,3] p0<|tu [(1,.p 1 0),(2,.p 2 0),(3,.p 3 0)] [0] [(1, [.s a.1,.h a.2]),(2, [.s ⟨#[]⟩,.e 1]),(3, [.s a.1,.e 1])] [] p0<|sn [2,3] [2,3] (pc 2 (UP a.2) p0)<|tn [2] [2] p0<|Qc<|pz [] (show YO a=a from rfl) (λz=> .a [.s z.1,.o 0 z.2])
theorem Qjb(a:Qi):ACalls uI 95 [B9 a] (QQ a):=MD a
theorem Qe9(l:S Qi):ACalls uI 53 [.h l] (MS l):=toS default Z7 func53 7 (λa=> [(6,.val (QQ a))]) (λa=> [.call 95 [B9 a] (QQ a)]) (λ_ _ a _ _=>pc 6 (Qjb a)) l
def Fy(a:Xu):Xu:=a
theorem IW(a:Xu):ACalls uI 22 [.a [.h a.1.1,.h a.1.2.1,.i a.1.2.2,.h a.2.1,.h a.2.2]] (.a [.o 0 ((Fy a).1.1),.o 1 ((Fy a).1.2.1),.i ((Fy a).1.2.2),.o 2 ((Fy a).2.1),.o 3 ((Fy a).2.2)]):=by
 refine en func22 λ_ _ _=>sn [1,2] [1,2] p0 ?_
 exact tn [1,2,3] [1,2,3] p0<|tu [(1,.p 1 0),(2,.p 2 0),(3,.p 3 0)] [0] [(1, [.h a.1.1,.h a.1.2.1,.i a.1.2.2,.h a.2.1,.h a.2.2]),(2, [.e 2,.e 5,.i 0,.e 2,.e 2]),(3, [.o 384 a.1.1,.o 385 a.1.2.1,.i a.1.2.2,.e 2,.e 2])] [] (pc 2 (Qct a.1) p0)<|sn [1,2,3] [1,2,3] (pc 2 (Qhe a.2.1) p0)<|tn [2,3] [2,3] (pc 2 (Qe9 a.2.2) p0)<|tu [] [1,3] [(2, [.o 384 a.1.1,.o 385 a.1.2.1,.i a.1.2.2,.o 640 a.2.1,.o 896 a.2.2])] [1,2,3] p0<|Qc<|pz [] (show Fy a=a from rfl) (λz=> .a [.o 0 z.1.1,.o 1 z.1.2.1,.i z.1.2.2,.o 2 z.2.1,.o 3 z.2.2])
theorem Qfa(a:Xu):ACalls uI 22 [B9 a] (QQ a):=IW a
def AY(a:P3):P3:=a
theorem Qcv(a:P3):ACalls uI 23 [.a [.s a.1,.s a.2]] (.a [.s ((AY a).1),.s ((AY a).2)]):=by
 refine en func23 λ_ _ _=>sn [1,2] [1,2] p0 ?_
 exact tn [1,2,3] [1,2,3] p0<|tu [(1,.p 1 0),(2,.p 2 0),(3,.p 3 0)] [0] [(1, [.s a.1,.s a.2]),(2, [.s ⟨#[]⟩,.s ⟨#[]⟩]),(3, [.s a.1,.s ⟨#[]⟩])] [] p0<|sn [2,3] [2,3] p0<|tn [2] [2] p0<|Qc<|pz [] (show AY a=a from rfl) (λz=> .a [.s z.1,.s z.2])
theorem Qrl(a:P3):ACalls uI 23 [B9 a] (QQ a):=Qcv a
def Gk(a:Qw):Qw:=a
theorem CU(a:Qw):ACalls uI 96 [.a [.h a.1.1,.h a.1.2.1,.i a.1.2.2,.h a.2]] (.a [.o 0 ((Gk a).1.1),.o 1 ((Gk a).1.2.1),.i ((Gk a).1.2.2),.o 2 ((Gk a).2)]):=by
 refine en func96 λ_ _ _=>sn [1,2] [1,2] p0 ?_
 exact tn [1,2,3] [1,2,3] p0<|tu [(1,.p 1 0),(2,.p 2 0),(3,.p 3 0)] [0] [(1, [.h a.1.1,.h a.1.2.1,.i a.1.2.2,.h a.2]),(2, [.e 2,.e 5,.i 0,.e 2]),(3, [.o 384 a.1.1,.o 385 a.1.2.1,.i a.1.2.2,.e 2])] [] (pc 2 (Qct a.1) p0)<|sn [2,3] [2,3] (pc 2 (Qhe a.2) p0)<|tn [2] [2] p0<|Qc<|pz [] (show Gk a=a from rfl) (λz=> .a [.o 0 z.1.1,.o 1 z.1.2.1,.i z.1.2.2,.o 2 z.2])
theorem Qcw(a:Qw):ACalls uI 96 [B9 a] (QQ a):=CU a
def Dk(a:Gm):Gm:=a
theorem IX(a:Gm):ACalls uI 54 [.a [.i a.1,.h a.2.1.1.1,.h a.2.1.1.2.1,.i a.2.1.1.2.2,.h a.2.1.2,.i a.2.2]] (.a [.i ((Dk a).1),.o 0 ((Dk a).2.1.1.1),.o 1 ((Dk a).2.1.1.2.1),.i ((Dk a).2.1.1.2.2),.o 2 ((Dk a).2.1.2),.i ((Dk a).2.2)]):=by
 refine en func54 λ_ _ _=>sn [1,2] [1,2] p0 ?_
 exact tn [1,2,3] [1,2,3] p0<|tu [(1,.p 1 0),(2,.p 2 0),(3,.p 3 0)] [0] [(1, [.i a.1,.h a.2.1.1.1,.h a.2.1.1.2.1,.i a.2.1.1.2.2,.h a.2.1.2,.i a.2.2]),(2, [.i 0,.e 2,.e 5,.i 0,.e 2,.i 0]),(3, [.i a.1,.e 2,.e 5,.i 0,.e 2,.i 0])] [] p0<|sn [1,2,3] [1,2,3] (pc 2 (Qcw a.2.1) p0)<|tn [2,3] [2,3] p0<|tu [] [1,3] [(2, [.i a.1,.o 576 a.2.1.1.1,.o 577 a.2.1.1.2.1,.i a.2.1.1.2.2,.o 578 a.2.1.2,.i a.2.2])] [1,2,3] p0<|Qc<|pz [] (show Dk a=a from rfl) (λz=> .a [.i z.1,.o 0 z.2.1.1.1,.o 1 z.2.1.1.2.1,.i z.2.1.1.2.2,.o 2 z.2.1.2,.i z.2.2])
theorem Qfb(a:Gm):ACalls uI 54 [B9 a] (QQ a):=IX a
theorem Qcx(l:S Gm):ACalls uI 24 [.h l] (MS l):=toS default Z7 func24 7 (λa=> [(6,.val (QQ a))]) (λa=> [.call 54 [B9 a] (QQ a)]) (λ_ _ a _ _=>pc 6 (Qfb a)) l
def T4(a:T8):T8:=a
theorem SS(a:T8):ACalls uI 150 [.a [.i a.1,.h a.2.1,.h a.2.2]] (.a [.i ((T4 a).1),.o 0 ((T4 a).2.1),.o 1 ((T4 a).2.2)]):=by
 refine en func150 λ_ _ _=>sn [1,2] [1,2] p0 ?_
 exact tn [1,2,3] [1,2,3] p0<|tu [(1,.p 1 0),(2,.p 2 0),(3,.p 3 0)] [0] [(1, [.i a.1,.h a.2.1,.h a.2.2]),(2, [.i 0,.e 1,.e 1]),(3, [.i a.1,.e 1,.e 1])] [] p0<|sn [1,2,3] [1,2,3] (pc 2 (UP a.2.1) p0)<|tn [2,3] [2,3] (pc 2 (UP a.2.2) p0)<|tu [] [1,3] [(2, [.i a.1,.o 576 a.2.1,.o 832 a.2.2])] [1,2,3] p0<|Qc<|pz [] (show T4 a=a from rfl) (λz=> .a [.i z.1,.o 0 z.2.1,.o 1 z.2.2])
theorem Qob(a:T8):ACalls uI 150 [B9 a] (QQ a):=SS a
theorem Qjc(l:S T8):ACalls uI 97 [.h l] (MS l):=toS default Z7 func97 7 (λa=> [(6,.val (QQ a))]) (λa=> [.call 150 [B9 a] (QQ a)]) (λ_ _ a _ _=>pc 6 (Qob a)) l
def P2(a:T9):T9:=a
theorem ST(a:T9):ACalls uI 55 [.a [.i a.1,.s a.2.1,.h a.2.2.1,.h a.2.2.2]] (.a [.i ((P2 a).1),.s ((P2 a).2.1),.o 0 ((P2 a).2.2.1),.o 1 ((P2 a).2.2.2)]):=by
 refine en func55 λ_ _ _=>sn [1,2] [1,2] p0 ?_
 exact tn [1,2,3] [1,2,3] p0<|tu [(1,.p 1 0),(2,.p 2 0),(3,.p 3 0)] [0] [(1, [.i a.1,.s a.2.1,.h a.2.2.1,.h a.2.2.2]),(2, [.i 0,.s ⟨#[]⟩,.e 1,.e 3]),(3, [.i a.1,.s ⟨#[]⟩,.e 1,.e 3])] [] p0<|sn [1,2,3] [1,2,3] p0<|tn [1,2,3] [1,2,3] (pc 2 (UP a.2.2.1) p0)<|tu [] [1] [(3, [.i a.1,.s a.2.1,.o 768 a.2.2.1,.o 1024 a.2.2.2])] [1,3] (pc 2 (Qjc a.2.2.2) p0)<|sn [2] [2] p0<|Qc<|pz [] (show P2 a=a from rfl) (λz=> .a [.i z.1,.s z.2.1,.o 0 z.2.2.1,.o 1 z.2.2.2])
theorem Qoc(a:T9):ACalls uI 55 [B9 a] (QQ a):=ST a
theorem Qjd(l:S T9):ACalls uI 25 [.h l] (MS l):=toS default Z7 func25 7 (λa=> [(6,.val (QQ a))]) (λa=> [.call 55 [B9 a] (QQ a)]) (λ_ _ a _ _=>pc 6 (Qoc a)) l
def Hj(a:Ul):Ul:=a
theorem ME(a:Ul):ACalls uI 7 [.a [.h a.1.1.1,.h a.1.1.2.1,.i a.1.1.2.2,.h a.1.2.1,.h a.1.2.2,.s a.2.1.1,.s a.2.1.2,.i a.2.2.1,.h a.2.2.2.1,.h a.2.2.2.2.1,.h a.2.2.2.2.2]] (.a [.o 0 ((Hj a).1.1.1),.o 1 ((Hj a).1.1.2.1),.i ((Hj a).1.1.2.2),.o 2 ((Hj a).1.2.1),.o 3 ((Hj a).1.2.2),.s ((Hj a).2.1.1),.s ((Hj a).2.1.2),.i ((Hj a).2.2.1),.o 4 ((Hj a).2.2.2.1),.o 5 ((Hj a).2.2.2.2.1),.o 6 ((Hj a).2.2.2.2.2)]):=by
 refine en func7 λ_ _ _=>sn [1,2] [1,2] p0 ?_
 exact tn [1,2,3] [1,2,3] p0<|tu [(1,.p 1 0),(2,.p 2 0),(3,.p 3 0)] [0] [(1, [.h a.1.1.1,.h a.1.1.2.1,.i a.1.1.2.2,.h a.1.2.1,.h a.1.2.2,.s a.2.1.1,.s a.2.1.2,.i a.2.2.1,.h a.2.2.2.1,.h a.2.2.2.2.1,.h a.2.2.2.2.2]),(2, [.e 2,.e 5,.i 0,.e 2,.e 2,.s ⟨#[]⟩,.s ⟨#[]⟩,.i 0,.e 6,.e 4,.e 1]),(3, [.o 384 a.1.1.1,.o 385 a.1.1.2.1,.i a.1.1.2.2,.o 386 a.1.2.1,.o 387 a.1.2.2,.s ⟨#[]⟩,.s ⟨#[]⟩,.i 0,.e 6,.e 4,.e 1])] [] (pc 2 (Qfa a.1) p0)<|sn [1,2,3] [1,2,3] (pc 2 (Qrl a.2.1) p0)<|tn [1,2,3] [1,2,3] p0<|tu [] [] [(3, [.o 384 a.1.1.1,.o 385 a.1.1.2.1,.i a.1.1.2.2,.o 386 a.1.2.1,.o 387 a.1.2.2,.s a.2.1.1,.s a.2.1.2,.i a.2.2.1,.o 1088 a.2.2.2.1,.e 4,.e 1])] [3] (pc 2 (Qcx a.2.2.2.1) p0)<|sn [1,2,3] [1,2,3] (pc 2 (Qjd a.2.2.2.2.1) p0)<|tn [2,3] [2,3] (pc 2 (UP a.2.2.2.2.2) p0)<|tu [] [1,3] [(2, [.o 384 a.1.1.1,.o 385 a.1.1.2.1,.i a.1.1.2.2,.o 386 a.1.2.1,.o 387 a.1.2.2,.s a.2.1.1,.s a.2.1.2,.i a.2.2.1,.o 1088 a.2.2.2.1,.o 1344 a.2.2.2.2.1,.o 1600 a.2.2.2.2.2])] [1,2,3] p0<|Qc<|pz [] (show Hj a=a from rfl) (λz=> .a [.o 0 z.1.1.1,.o 1 z.1.1.2.1,.i z.1.1.2.2,.o 2 z.1.2.1,.o 3 z.1.2.2,.s z.2.1.1,.s z.2.1.2,.i z.2.2.1,.o 4 z.2.2.2.1,.o 5 z.2.2.2.2.1,.o 6 z.2.2.2.2.2])
theorem Qje(a:Ul):ACalls uI 7 [B9 a] (QQ a):=ME a
theorem AZ(a:Ul)(h:GoD.size a<=1048576):ACalls uI 7 [B9 a] (QQ a):=Qje a
def A8(a:Vk):Vk:=a
theorem MF(a:Vk):ACalls uI 27 [.a [.i a.1,.i a.2.1.1,.i a.2.1.2.1,.b a.2.1.2.2.1,.i a.2.1.2.2.2.1,.h a.2.1.2.2.2.2,.i a.2.2.1,.s a.2.2.2.1,.h a.2.2.2.2]] (.a [.i ((A8 a).1),.i ((A8 a).2.1.1),.i ((A8 a).2.1.2.1),.b ((A8 a).2.1.2.2.1),.i ((A8 a).2.1.2.2.2.1),.o 0 ((A8 a).2.1.2.2.2.2),.i ((A8 a).2.2.1),.s ((A8 a).2.2.2.1),.o 1 ((A8 a).2.2.2.2)]):=by
 refine en func27 λ_ _ _=>sn [1,2] [1,2] p0 ?_
 exact tn [1,2,3] [1,2,3] p0<|tu [(1,.p 1 0),(2,.p 2 0),(3,.p 3 0)] [0] [(1, [.i a.1,.i a.2.1.1,.i a.2.1.2.1,.b a.2.1.2.2.1,.i a.2.1.2.2.2.1,.h a.2.1.2.2.2.2,.i a.2.2.1,.s a.2.2.2.1,.h a.2.2.2.2]),(2, [.i 0,.i 0,.i 0,.b U,.i 0,.e 4,.i 0,.s ⟨#[]⟩,.e 7]),(3, [.i a.1,.i 0,.i 0,.b U,.i 0,.e 4,.i 0,.s ⟨#[]⟩,.e 7])] [] p0<|sn [1,2,3] [1,2,3] (pc 2 (Qhd a.2.1) p0)<|tn [1,2,3] [1,2,3] p0<|tu [] [1] [(3, [.i a.1,.i a.2.1.1,.i a.2.1.2.1,.b a.2.1.2.2.1,.i a.2.1.2.2.2.1,.o 576 a.2.1.2.2.2.2,.i a.2.2.1,.s a.2.2.2.1,.o 1024 a.2.2.2.2])] [1,3] (pc 2 (Qoa a.2.2.2) p0)<|sn [2] [2] p0<|Qc<|pz [] (show A8 a=a from rfl) (λz=> .a [.i z.1,.i z.2.1.1,.i z.2.1.2.1,.b z.2.1.2.2.1,.i z.2.1.2.2.2.1,.o 0 z.2.1.2.2.2.2,.i z.2.2.1,.s z.2.2.2.1,.o 1 z.2.2.2.2])
theorem Qjf(a:Vk):ACalls uI 27 [B9 a] (QQ a):=MF a
theorem Qfc(l:S Vk):ACalls uI 8 [.h l] (MS l):=toS default Z7 func8 7 (λa=> [(6,.val (QQ a))]) (λa=> [.call 27 [B9 a] (QQ a)]) (λ_ _ a _ _=>pc 6 (Qjf a)) l
theorem KS(a:S Vk)(h:GoD.size a<=1048576):ACalls uI 8 [Qhu a] (MS a):=Qfc a
theorem Qod(a:Zt):ACalls uI 183 [B9 a,B9 a] (.b Y):=eqA Z7 func183 a λ_ _ _=>eqT Z7 a.1<|eqI Z7 a.2<|eqE Z7
theorem Qjg(l:S Zt):ACalls uI 115 [.h l,.h l] (.b Y):=eqS Z7 QS func115 Y (λa=> .call 183 [B9 a,B9 a] (.b Y)) (λ_ _ a=>Pa (Qod a)) l
theorem Qcy(a:Wx):ACalls uI 251 [B9 a,B9 a] (.b Y):=eqA Z7 func251 a λ_ _ _=>eqI Z7 a.1<|eqI Z7 a.2.1<|eqT Z7 a.2.2<|eqE Z7
theorem Qrm(a:Hk):ACalls uI 185 [B9 a,B9 a] (.b Y):=eqA Z7 func185 a λ_ _ _=>eqT Z7 a.1<|eqG Z7 (Qcy a.2)<|eqE Z7
theorem Qoe(l:S Hk):ACalls uI 120 [.h l,.h l] (.b Y):=eqS Z7 QS func120 Y (λa=> .call 185 [B9 a,B9 a] (.b Y)) (λ_ _ a=>Pa (Qrm a)) l
theorem Qhf(a:Xt):ACalls uI 69 [B9 a,B9 a] (.b Y):=eqA Z7 func69 a λ_ _ _=>eqI Z7 a.1<|eqI Z7 a.2.1<|eqB Z7 a.2.2.1<|eqI Z7 a.2.2.2.1<|eqG Z7 (Qoe a.2.2.2.2)<|eqE Z7
theorem Qof(l:S Xt):ACalls uI 116 [.h l,.h l] (.b Y):=eqS Z7 QS func116 Y (λa=> .call 69 [B9 a,B9 a] (.b Y)) (λ_ _ a=>Pa (Qhf a)) l
theorem Qcz(a:X2):ACalls uI 64 [B9 a,B9 a] (.b Y):=eqA Z7 func64 a λ_ _ _=>eqG Z7 (Qjg a.1)<|eqG Z7 (Qof a.2.1)<|eqI Z7 a.2.2<|eqE Z7
theorem Qrn(a:Q0):ACalls uI 186 [B9 a,B9 a] (.b Y):=eqA Z7 func186 a λ_ _ _=>eqI Z7 a.1<|eqI Z7 a.2.1<|eqI Z7 a.2.2.1<|eqT Z7 a.2.2.2.1<|eqG Z7 (Qcy a.2.2.2.2)<|eqE Z7
theorem Qog(l:S Q0):ACalls uI 121 [.h l,.h l] (.b Y):=eqS Z7 QS func121 Y (λa=> .call 186 [B9 a,B9 a] (.b Y)) (λ_ _ a=>Pa (Qrn a)) l
theorem Qoh(a:Yj):ACalls uI 70 [B9 a,B9 a] (.b Y):=eqA Z7 func70 a λ_ _ _=>eqT Z7 a.1<|eqG Z7 (Qog a.2)<|eqE Z7
theorem Qhg(l:S Yj):ACalls uI 65 [.h l,.h l] (.b Y):=eqS Z7 QS func65 Y (λa=> .call 70 [B9 a,B9 a] (.b Y)) (λ_ _ a=>Pa (Qoh a)) l
theorem UQ(l:S V):ACalls uI 36 [.h l,.h l] (.b Y):=eqS Z7 QS func36 U (λa=> .eq (.b (a !=a)) (.b U)) (λ_ _ a=>Qk (by simp)) l
theorem Qjh(a:Qi):ACalls uI 117 [B9 a,B9 a] (.b Y):=eqA Z7 func117 a λ_ _ _=>eqT Z7 a.1<|eqG Z7 (UQ a.2)<|eqE Z7
theorem Qfd(l:S Qi):ACalls uI 66 [.h l,.h l] (.b Y):=eqS Z7 QS func66 Y (λa=> .call 117 [B9 a,B9 a] (.b Y)) (λ_ _ a=>Pa (Qjh a)) l
theorem Qfe(a:Xu):ACalls uI 32 [B9 a,B9 a] (.b Y):=eqA Z7 func32 a λ_ _ _=>eqG Z7 (Qcz a.1)<|eqG Z7 (Qhg a.2.1)<|eqG Z7 (Qfd a.2.2)<|eqE Z7
theorem Qro(a:P3):ACalls uI 33 [B9 a,B9 a] (.b Y):=eqA Z7 func33 a λ_ _ _=>eqT Z7 a.1<|eqT Z7 a.2<|eqE Z7
theorem Qc0(a:Qw):ACalls uI 118 [B9 a,B9 a] (.b Y):=eqA Z7 func118 a λ_ _ _=>eqG Z7 (Qcz a.1)<|eqG Z7 (Qhg a.2)<|eqE Z7
theorem Qff(a:Gm):ACalls uI 67 [B9 a,B9 a] (.b Y):=eqA Z7 func67 a λ_ _ _=>eqI Z7 a.1<|eqG Z7 (Qc0 a.2.1)<|eqI Z7 a.2.2<|eqE Z7
theorem Qc1(l:S Gm):ACalls uI 34 [.h l,.h l] (.b Y):=eqS Z7 QS func34 Y (λa=> .call 67 [B9 a,B9 a] (.b Y)) (λ_ _ a=>Pa (Qff a)) l
theorem Qoi(a:T8):ACalls uI 184 [B9 a,B9 a] (.b Y):=eqA Z7 func184 a λ_ _ _=>eqI Z7 a.1<|eqG Z7 (UQ a.2.1)<|eqG Z7 (UQ a.2.2)<|eqE Z7
theorem Qji(l:S T8):ACalls uI 119 [.h l,.h l] (.b Y):=eqS Z7 QS func119 Y (λa=> .call 184 [B9 a,B9 a] (.b Y)) (λ_ _ a=>Pa (Qoi a)) l
theorem Qoj(a:T9):ACalls uI 68 [B9 a,B9 a] (.b Y):=eqA Z7 func68 a λ_ _ _=>eqI Z7 a.1<|eqT Z7 a.2.1<|eqG Z7 (UQ a.2.2.1)<|eqG Z7 (Qji a.2.2.2)<|eqE Z7
theorem Qjj(l:S T9):ACalls uI 35 [.h l,.h l] (.b Y):=eqS Z7 QS func35 Y (λa=> .call 68 [B9 a,B9 a] (.b Y)) (λ_ _ a=>Pa (Qoj a)) l
theorem Qjk(a:Ul):ACalls uI 10 [B9 a,B9 a] (.b Y):=eqA Z7 func10 a λ_ _ _=>eqG Z7 (Qfe a.1)<|eqG Z7 (Qro a.2.1)<|eqI Z7 a.2.2.1<|eqG Z7 (Qc1 a.2.2.2.1)<|eqG Z7 (Qjj a.2.2.2.2.1)<|eqG Z7 (UQ a.2.2.2.2.2)<|eqE Z7
theorem Qjl{a b:Ul}(h:a=b):ACalls uI 10 [B9 a,B9 b] (Qtv Y):=h▸Qjk a
theorem Qjm(a:Vk):ACalls uI 37 [B9 a,B9 a] (.b Y):=eqA Z7 func37 a λ_ _ _=>eqI Z7 a.1<|eqG Z7 (Qhf a.2.1)<|eqI Z7 a.2.2.1<|eqG Z7 (Qoh a.2.2.2)<|eqE Z7
theorem Qfg(l:S Vk):ACalls uI 11 [.h l,.h l] (.b Y):=eqS Z7 QS func11 Y (λa=> .call 37 [B9 a,B9 a] (.b Y)) (λ_ _ a=>Pa (Qjm a)) l
theorem Qfh{a b:(S Vk)}(h:a=b):ACalls uI 11 [Qhu a,Qhu b] (Qtv Y):=h▸Qfg a
def Fe(c:Ul)(b:V)(a:S Vk):uB:=(bif decide ((szI (GoD.size c) 1048576)<(0:V)) then Y else(bif decide ((szI (GoD.size a) (szI (GoD.size c) 1048576))<(0:V)) then Y else Y))
theorem T5(d:Ul)(g:V)(c:S Vk):ACalls uI 3 [.a [.h d.1.1.1,.h d.1.1.2.1,.i d.1.1.2.2,.h d.1.2.1,.h d.1.2.2,.s d.2.1.1,.s d.2.1.2,.i d.2.2.1,.h d.2.2.2.1,.h d.2.2.2.2.1,.h d.2.2.2.2.2],.i g,.h c] (.b (Fe d g c)):=by
 refine en func3 λ_ _ _=>sn [1,2,3,6] [3] p0 ?_
 refine tn [1,2,3,6,7] [3] p0 ?_;have j:=Qsz (GoD.size d) 1048576;refine tu [(3,.p 3 0),(6,.b U),(7,.i (szI (GoD.size d) 1048576))] [0] [(3, [.h d.1.1.1,.h d.1.1.2.1,.i d.1.1.2.2,.h d.1.2.1,.h d.1.2.2,.s d.2.1.1,.s d.2.1.2,.i d.2.2.1,.h d.2.2.2.1,.h d.2.2.2.2.1,.h d.2.2.2.2.2])] [] (pc 2 (Qi9 d 1048576 (by omega) (by omega)) p0)<|Qa<|sn [1,2,3,6,7,16] [3] p0<|ck (decide ((szI (GoD.size d) 1048576)<(0:V))) (λh=>?_) (λh=>?_)
 ·exact tn [1,2,3,6,7] [3] p0<|Qc<|pb [] (Qu h rfl)
 have k:=uH h;refine Qd ?_;have l:=Qsz (GoD.size c) (szI (GoD.size d) 1048576);refine tn [1,2,3,6,7] [3] (pc 2 (Qe7 c (szI (GoD.size d) 1048576) (by omega) (by omega)) p0)<|Qa<|tu [(21,.b (decide ((szI (GoD.size c) (szI (GoD.size d) 1048576))<(0:V))))] [7] [] [] p0<|ck (decide ((szI (GoD.size c) (szI (GoD.size d) 1048576))<(0:V))) (λi=>?_) (λi=>?_)
 ·exact sn [1,2,3,6] [3] p0<|Qc<|pb [] (Qh h (Qu i rfl))
 have m:=uH i;refine Qd ?_;have f:GoD.size d<=1048576:=by omega
 have e:GoD.size c<=1048576:=by omega
 exact sn [1,2,3,6,8] [3] (pc 1 (AZ d f) (pc 4 (KS c e) (pc 5 ((SN d g c)▸(CT d g c (zK (MT (MT (MU f))) (by decide)) (zK (MU (MT (MU f))) (by decide)))) p0)))<|tn [1,2,3,6,8,9] [3,9] (pc 1 (AZ d f) p0)<|tu [(8,.i (Dt d g c)),(9,.p 9 0),(10,.o 1984 c)] [21] [(9, [.o 1856 d.1.1.1,.o 1857 d.1.1.2.1,.i d.1.1.2.2,.o 1858 d.1.2.1,.o 1859 d.1.2.2,.s d.2.1.1,.s d.2.1.2,.i d.2.2.1,.o 1860 d.2.2.2.1,.o 1861 d.2.2.2.2.1,.o 1862 d.2.2.2.2.2])] [] (pc 1 (KS c e) p0)<|sn [2,3,6,8,9,10,11] [3,9] (pc 3 (CS d g c (zK (MT (MT (MU f))) (by decide)) (zK (MU (MT (MU f))) (by decide))) p0)<|Qa<|tn [2,3,6,9,10,38] [3,9] (pe 2 (show .b ((Dt d g c) !=(Dt d g c))= .b U from Qk (by simp)) p0)<|ckF<|Qd<|Qa<|tU [(43,.b U)] [1,3,8,9] [] [3,9] (pc 2 (AZ d f) (pc 3 (Qjl (a:=d) (b:=d) rfl) (pe 4 (show .b (!Y)= .b U from rfl) p0)))<|ckF<|Qd<|Qa<|sn [6,48] [] (pc 2 (KS c e) (pc 3 (Qfh (a:=c) (b:=c) rfl) (pe 4 (show .b (!Y)= .b U from rfl) p0)))<|ckF<|Qd<|tn [6] [] p0<|Qc<|pb [] (Qh h (Qh i rfl))
open GoD (rd own)
set_option maxRecDepth 100000 in
set_option maxHeartbeats 1000000 in
theorem SU(w:L)(c0:S K)(b:Ul)(h0:rd w c0 b)(a1:V)(h1:I64 a1)(v2:K)(z:S Vk)(h2:rd w [v2] z)(v:¬(GoD.size b+GoD.size z<=1048576)):Calls uI 3 #[.agg c0.toArray,.int .i64 a1,v2] w (Ret w (.bool Y)):=by
 obtain⟨c,d,e,f,g,h,i,j,k,l,m,n,p,q,rfl⟩:=Qai h0;have a3:=Lib.hid h0;clear h0;have ad:=Lib.hid h1;clear h1;obtain⟨t,u,rfl⟩:=JI h2;have a7:=Qlh h2;have a4:=Lib.hid h2;clear h2;have r:True:=trivial;have s:True:=trivial;go_enter func3,ntmps3
 go_wp2_with (first | (go_at_call 4;have tk:=r;clear r;refine Wh (w:=w) (OO _ [.slice c b.1.1.1.length d,.slice e b.1.1.2.1.length f,.int .i64 b.1.1.2.2,.slice g b.1.2.1.length h,.slice i b.1.2.2.length j,.string b.2.1.1,.string b.2.1.2,.int .i64 b.2.2.1,.slice k b.2.2.2.1.length l,.slice m b.2.2.2.2.1.length n,.slice p b.2.2.2.2.2.length q] b _ (J4 a3.out (by repeat (first | (with_reducible exact Below.refl _ _) | (with_reducible refine Below.alloc ?_ (by go_size) _) | (with_reducible refine Below.drew ?_)))) (by omega) (by omega)) (by repeat (first | (with_reducible exact Below.refl _ _) | (with_reducible refine Below.alloc ?_ (by go_size) _) | (with_reducible refine Below.drew ?_))) ?_;intro w1 r1 ae hb af _ x ag;have a5:=Lib.hid x;clear x;have a:=hb.size;(repeat (first | rewrite [World.size_alloc] at a | rewrite [World.size_setCell] at a | rewrite [World.size_drew] at a));have a8:=λo=>M7 hb (w.heap.size) o (by go_size);have a9:w.heap.size<w1.heap.size:=(by go_size);have y:=Lib.hid hb;clear hb) | (go_at_call 5;have tk:=s;clear s;refine Wh (w:=w) (IU _ (.slice t z.length u) z _ (J4 a4.out (by repeat (first | (with_reducible exact Below.refl _ _) | (with_reducible refine NI ?_ y.out (by go_size)) | (with_reducible refine Below.alloc ?_ (by go_size) _) | (with_reducible refine Below.drew ?_)))) (by omega) (by omega)) (by repeat (first | (with_reducible exact Below.refl _ _) | (with_reducible refine NI ?_ y.out (by go_size)) | (with_reducible refine Below.alloc ?_ (by go_size) _) | (with_reducible refine Below.drew ?_))) ?_;intro w2 r2 ah hb a _ x ai;have a6:=Lib.hid x;clear x;have a:=hb.size;(repeat (first | rewrite [World.size_alloc] at a | rewrite [World.size_setCell] at a | rewrite [World.size_drew] at a));have aa:=λo=>M7 hb (w.heap.size) o (by go_size);have ab:w.heap.size<w2.heap.size:=(by go_size);have aj:=Lib.hid hb;clear hb) | (exfalso;have q1:=a5.out;have q2:=a6.out;apply v;unfold szq at*;omega))
 all_goals
  go_ret
  refine⟨rfl, ?_⟩;first | (with_reducible assumption) | go_grown
theorem P5(a:Ul)(b:V)(c:S Vk):Fe a b c=Y:=by
 unfold Fe;simp
theorem SV(w:L)(e:S K)(a:Ul)(g:rd w e a)(d:V)(i:I64 d)(f:K)(b:S Vk)(j:rd w [f] b)(k:Good uI w):Calls uI 3 #[.agg e.toArray,.int .i64 d,f] w (Ret w (.bool Y)):=by
 by_cases c:GoD.size a+GoD.size b<=1048576
 . haveI:Good uI w:=k
   have h:=(T5 a d b).run (.cons (Qtw g (GoE.wide_size (show GoD.size a<=1073741824 by omega))) (.cons (Qty i) (.cons (Qtx j (GoE.wide_size (show GoD.size b<=1073741824 by omega))) .nil)));rw[P5] at h;exact h.mono λ_ _ h=>Qpn h
 exact SU w e a g d i f b j c
end
section
open Go.ChangeShapes Go.WideShapes Go.ChangeAt Go.RowKit
open GoD (rd own)
namespace fnExactCommitSizeDone
theorem own:ownKnob Tryz.prog.godebug=O:=by kernel_rfl
theorem Qfi:laidOutB uI=Y:=by kernel_rfl
theorem Ov:Opens uI 9 ByteArray:= .str underlying9 (by as_aux_lemma=>kernel_rfl)
theorem QY:Opens uI 3 V:= .int underlying3 (by as_aux_lemma=>kernel_rfl)
theorem Qvl:Opens uI 191 Zt:= .struct underlying191 (by as_aux_lemma=>kernel_rfl) (.cons rfl Ov (.one rfl QY))
theorem Qrp:Opens uI 22 (S Zt):= .slice underlying22 (by as_aux_lemma=>kernel_rfl) Qvl
theorem Qxf:Opens uI 4 uB:= .bool underlying4 (by as_aux_lemma=>kernel_rfl)
theorem Qok:Opens uI 197 Wx:= .struct underlying197 (by as_aux_lemma=>kernel_rfl) (.cons rfl QY (.cons rfl QY (.one rfl Ov)))
theorem Qxg:Opens uI 199 Hk:= .struct underlying199 (by as_aux_lemma=>kernel_rfl) (.cons rfl Ov (.one rfl Qok))
theorem Qvm:Opens uI 66 (S Hk):= .slice underlying66 (by as_aux_lemma=>kernel_rfl) Qxg
theorem Qs2:Opens uI 68 Xt:= .struct underlying68 (by as_aux_lemma=>kernel_rfl) (.cons rfl QY (.cons rfl QY (.cons rfl Qxf (.cons rfl QY (.one rfl Qvm)))))
theorem Qvn:Opens uI 23 (S Xt):= .slice underlying23 (by as_aux_lemma=>kernel_rfl) Qs2
theorem Qol:Opens uI 25 X2:= .struct underlying25 (by as_aux_lemma=>kernel_rfl) (.cons rfl Qrp (.cons rfl Qvn (.one rfl QY)))
theorem Qxh:Opens uI 202 Q0:= .struct underlying202 (by as_aux_lemma=>kernel_rfl) (.cons rfl QY (.cons rfl QY (.cons rfl QY (.cons rfl Ov (.one rfl Qok)))))
theorem Qvo:Opens uI 69 (S Q0):= .slice underlying69 (by as_aux_lemma=>kernel_rfl) Qxh
theorem Qxi:Opens uI 71 Yj:= .struct underlying71 (by as_aux_lemma=>kernel_rfl) (.cons rfl Ov (.one rfl Qvo))
theorem Qs3:Opens uI 26 (S Yj):= .slice underlying26 (by as_aux_lemma=>kernel_rfl) Qxi
theorem Qc2:Opens uI 34 (S V):= .slice underlying34 (by as_aux_lemma=>kernel_rfl) QY
theorem Qrq:Opens uI 152 Qi:= .struct underlying152 (by as_aux_lemma=>kernel_rfl) (.cons rfl Ov (.one rfl Qc2))
theorem Qom:Opens uI 27 (S Qi):= .slice underlying27 (by as_aux_lemma=>kernel_rfl) Qrq
theorem Qon:Opens uI 29 Xu:= .struct underlying29 (by as_aux_lemma=>kernel_rfl) (.cons rfl Qol (.cons rfl Qs3 (.one rfl Qom)))
theorem Qxj:Opens uI 31 P3:= .struct underlying31 (by as_aux_lemma=>kernel_rfl) (.cons rfl Ov (.one rfl Ov))
theorem Qjn:Opens uI 106 Qw:= .struct underlying106 (by as_aux_lemma=>kernel_rfl) (.cons rfl Qol (.one rfl Qs3))
theorem Qoo:Opens uI 108 Gm:= .struct underlying108 (by as_aux_lemma=>kernel_rfl) (.cons rfl QY (.cons rfl Qjn (.one rfl QY)))
theorem Qjo:Opens uI 32 (S Gm):= .slice underlying32 (by as_aux_lemma=>kernel_rfl) Qoo
theorem Qvp:Opens uI 194 T8:= .struct underlying194 (by as_aux_lemma=>kernel_rfl) (.cons rfl QY (.cons rfl Qc2 (.one rfl Qc2)))
theorem Qrr:Opens uI 110 (S T8):= .slice underlying110 (by as_aux_lemma=>kernel_rfl) Qvp
theorem Qvq:Opens uI 112 T9:= .struct underlying112 (by as_aux_lemma=>kernel_rfl) (.cons rfl QY (.cons rfl Ov (.cons rfl Qc2 (.one rfl Qrr))))
theorem Qrs:Opens uI 33 (S T9):= .slice underlying33 (by as_aux_lemma=>kernel_rfl) Qvq
theorem Qrt:Opens uI 36 Ul:= .struct underlying36 (by as_aux_lemma=>kernel_rfl) (.cons rfl Qon (.cons rfl Qxj (.cons rfl QY (.cons rfl Qjo (.cons rfl Qrs (.one rfl Qc2))))))
theorem Qru:Opens uI 73 Vk:= .struct underlying73 (by as_aux_lemma=>kernel_rfl) (.cons rfl QY (.cons rfl Qs2 (.cons rfl QY (.one rfl Qxi))))
theorem Qop:Opens uI 37 (S Vk):= .slice underlying37 (by as_aux_lemma=>kernel_rfl) Qru
theorem Qrv:(Rows.laid_internal_strconv_uint64pow10:DataW uC)=Lib.tabData .u64 Lib.pow10Tab:=by kernel_rfl
theorem Qvr:(Rows.laid_strings_asciiSpace:DataW uC)=Lib.tabData .u8 Lib.asciiSpaceTab:=by kernel_rfl
theorem Qyx : "*" ++ "errors.errorString" = "*errors.errorString" := by decide
theorem Qxk (u : TypeId) (h : Tryz.prog.typeName? 3 u = some "*errors.errorString") : u = 421 :=
 typeName_ptr_named (nm := "errors.errorString") (by rw [Qyx]; kernel_rfl) (by kernel_rfl) (by decide) u (by rw [Qyx]; exact h)
theorem Qhh{P:Program}{W:L}{l:S (String×DataW uC)}{n:String}{d e:DataW uC}(h:laidMet P ((n,d)::l) W)(hd:d=e):laidMet P ((n,e)::l) W:=hd▸h
theorem Qvs{W:L}(h:laidMetH uI Rows.fnExactCommitSizeRow.laid W)(hs:W.ShapedOpen uI):Good uI W:=by
 rw[MakeChecks.laidMetH_plain _ _ _ (by as_aux_lemma=>kernel_rfl)] at h;refine⟨λg hg=>?_,λg hg=>?_,λg hg=>?_,λg hg=>?_⟩
 · exact Lib.tabIs_of_head hg ((show (Tryz.prog.globals[0]?).map (·.type) = some 380 by kernel_rfl) ▸ (congrArg (fun k : Nat => (Tryz.prog.globals[k]?).map (·.type)) (Option.some.inj (hg.symm.trans (show Tryz.prog.globalNamed "internal/strconv.uint64pow10" = some 0 by kernel_rfl))))) Tryz.underlying380 Tryz.underlying344 (by as_aux_lemma => kernel_rfl) (by as_aux_lemma => kernel_rfl) (Qhh (laidMet.tail (laidMet.tail (h))) Qrv)
 · obtain ⟨a0, s0, hv0, -, -, -⟩ := laid_sentinel (laidMet.tail (laidMet.tail (laidMet.tail (laidMet.tail (laidMet.tail (h)))))) (show Tryz.prog.globalNamed "strconv.ErrSyntax" = some 2 by kernel_rfl) (show (Tryz.prog.globals[2]?).map (·.type) = some 294 by kernel_rfl) Tryz.underlying294 Qxk Tryz.underlying421 Tryz.underlying423 rfl rfl Tryz.underlying9 (by as_aux_lemma => kernel_rfl) (by as_aux_lemma => kernel_rfl)
   exact⟨_,_,hv0⟩
 · obtain rfl := Option.some.inj ((show Tryz.prog.globalNamed "internal/bytealg.MaxLen" = some 1 by kernel_rfl).symm.trans hg)
   exact cell_of_shapedOpen_int (zero:= #[.int .i64 0]) (t:=3) hs (uE (by as_aux_lemma=>kernel_rfl)) (by as_aux_lemma=>kernel_rfl) rfl (by as_aux_lemma=>kernel_rfl) (by as_aux_lemma=>kernel_rfl) underlying3
 exact Lib.tabIs_of_head hg ((show (Tryz.prog.globals[8]?).map (·.type) = some 414 by kernel_rfl) ▸ (congrArg (fun k : Nat => (Tryz.prog.globals[k]?).map (·.type)) (Option.some.inj (hg.symm.trans (show Tryz.prog.globalNamed "strings.asciiSpace" = some 8 by kernel_rfl))))) Tryz.underlying414 Tryz.underlying5 (by as_aux_lemma => kernel_rfl) (by as_aux_lemma => kernel_rfl) (Qhh (laidMet.tail (laidMet.tail (laidMet.tail (laidMet.tail (laidMet.tail (laidMet.tail (laidMet.tail (h)))))))) Qvr)
theorem wrap{H:Type}{enc:TypeId×K->H}{a:Assume}{C:Checked}{z:Os}{f:FuncId}{o:Func}{s:ChangeSpec}{h:S PathCond}{b fresh g l:uB}{X:L->uD K->Prop}
 (hX:∀(w w':L) (args:uD K),w.heap=w'.heap->X w args->X w' args)
 (own:ownKnob C.prog.godebug=O) (m:z.Started) (p:C.prog.inits.idxOf? f=O) (a1:C.prog.funcs[f]? =T o)
 (n:∃(w:L) (c:Tape) (i:Input),w.os=z/\(w.forCall c i).Shaped C.prog/\i.vars= []/\Input.okWide C.prog (w.forCall c i) .any w.heap.size f i/\
  ((s.pre enc C.prog o h b (w.forCall c i).memory i.args/\X (w.forCall c i).memory i.args)/\sizedMet enc C.prog o (OpenSpec.ofChange s) b (w.forCall c i).memory i.args)/\a.holds C.prog (lone (Frame.enter C.prog f i.args .normal) [] (w.forCall c i)))
 (k:∀(W:L) (base:J) (args:uD K) (x y:S (DataW H)) (d:S MemPlace),
  (∀(j:J) t v,o.params[j]? =T t->args[j]? =T v->Value.okWide C.prog W .any base t v)->
  DataW.Whole enc C.prog o.params.toList s.vars b W args.toList x y d->
  h.all (PathCond.test C.prog ⟨o.params.toList,x,s.plain.varTypes C.prog,y⟩)=Y->X W args->W.ShapedOpen C.prog->
  Calls C.prog f args W λe W'=>∃v,e= .returned v/\s.post enc C.prog o b fresh g l W args v W'):
 ReturnsInHanded a C z f .any (λw args=>(s.pre enc C.prog o h b w args/\X w args)/\sizedMet enc C.prog o (OpenSpec.ofChange s) b w args) (s.post enc C.prog o b fresh g l):=by
 refine returnsInHanded_of_calls own m p n ?_;intro w c i _ a2 _ a3 q _;obtain⟨_,_,_,a4,r,_,_,_,_,u⟩:=a3;obtain rfl:=zJ (r.symm.trans a1);obtain⟨⟨⟨x,y,d,hw,hc⟩,hx⟩,_⟩:=q;refine(k (w.forCall c i) w.heap.size i.args x y d u (DataW.Whole.of_heap (w':=w.forCall c i) (by rfl) hw) hc (hX _ _ _ (by rfl) hx) a2).mono λe W' ⟨v,he,hp⟩=>?_
 subst he;exact ChangeSpec.post_blind hp
theorem Qyo(a:Os):(World.holding uI a ⟨#[], #[], []⟩).layFits uI Rows.fnExactCommitSizeRow.laid []=Y:=by kernel_rfl
theorem Qvt(a:Os):(World.holding uI a ⟨#[], #[], []⟩).layIfaces uI Rows.fnExactCommitSizeRow.laid (World.laidAll uI a Rows.fnExactCommitSizeRow.laid)=Y:=by kernel_rfl
theorem Qrw(os:Os)(args:uD K):laidMetH uI Rows.fnExactCommitSizeRow.laid ((World.laidAll uI os Rows.fnExactCommitSizeRow.laid).forCall (λ_ _=>0) ⟨#[],args, []⟩).memory:=by
 rw[MakeChecks.laidMetH_plain _ _ _ (by as_aux_lemma=>kernel_rfl)];exact laidMet_laidAll (P:=uI) (os:=os) (laid:=Rows.fnExactCommitSizeRow.laid) args (Qyo os) (Qvt os)
set_option maxHeartbeats 1000000 in
set_option maxRecDepth 100000 in
theorem Qxl(os:Os)(b:os.Started)(H:Type)(enc:TypeId×K->H):
 ReturnsInHanded {} Tryz.checked os 3 .any (λw args=>(Rows.fnExactCommitSizeSpec.pre enc uI Tryz.f3 [] U w args/\laidMetH uI Rows.fnExactCommitSizeRow.laid w)/\sizedMet enc uI Tryz.f3 (OpenSpec.ofChange Rows.fnExactCommitSizeSpec) U w args)
  (Rows.fnExactCommitSizeSpec.post enc uI Tryz.f3 U Y U U):=by
 refine wrap (C:=Tryz.checked) (X:=λw _=>laidMetH uI Rows.fnExactCommitSizeRow.laid w) (λ_ _ _ hh h=>h.of_heap hh) own b (by as_aux_lemma=>kernel_rfl) func3
  (ChangeSpec.witness_shaped (enc:=enc) (C:=Tryz.checked) (os:=os) (X:=λw _=>laidMetH uI Rows.fnExactCommitSizeRow.laid w) U (World.laidAll uI os Rows.fnExactCommitSizeRow.laid) #[.agg #[.slice O 0 0,.slice O 0 0,.int .i64 0,.slice O 0 0,.slice O 0 0,.string ⟨#[]⟩,.string ⟨#[]⟩,.int .i64 0,.slice O 0 0,.slice O 0 0,.slice O 0 0],.int .i64 0,.slice O 0 0] 8 (World.laidAll_os _ _ _) (World.shaped_of_ZipB (by as_aux_lemma=>kernel_rfl) (by as_aux_lemma=>kernel_rfl)) (by as_aux_lemma=>kernel_rfl) (by as_aux_lemma=>kernel_rfl) (by as_aux_lemma=>kernel_rfl) (Qrw os _)) ?_
 intro W base args ds gs f c o r hL g;have a:∀(j:J) t v,Tryz.f3.params[j]? =T t->args[j]? =T v->Value.okWide uI W .any base t v:=c;have i:=o;obtain⟨p,q,d,hV,rfl,a3,a4⟩:=o;have s:DataW.TrodAll enc uI W 0 (λ_=>Y) Y Tryz.f3.params.toList args.toList ds p:=d;rw[params3] at s a;obtain⟨u,a5,d0,a6,p0,q0,k,rfl,rfl,x,r0⟩:=trodAll_cons s;obtain⟨y,a7,d1,a8,p1,q1,rfl,rfl,rfl,z,r1⟩:=trodAll_cons r0;obtain⟨v2,a9,d2,aa,p2,q2,rfl,rfl,rfl,h2,r2⟩:=trodAll_cons r1;obtain⟨rfl,rfl,rfl⟩:=trodAll_nil r2;obtain rfl:args= #[u,y,v2]:=by cases args;simp_all
 obtain⟨rfl,rfl⟩:=trodVars_none hV;have k0:=x;have l:=OZ k0;obtain⟨c0,a0,rfl,w0⟩:=Qj0 underlying36 Qrt (a 0 36 u rfl rfl) x;have k1:=z;have m:=OZ k1;obtain⟨a1,rfl,w1⟩:=Qv4 underlying3 (by as_aux_lemma=>kernel_rfl) (a 1 3 y rfl rfl) z;have k2:=h2;have n:=OZ k2;obtain⟨a2,w2⟩:=Qo3 underlying37 Qop (a 2 37 v2 rfl rfl) h2;clear d c;have hG:=Qvs hL g;refine(SV W c0 a0 w0 a1 w1 _ a2 w2 hG).mono λe W' ⟨he,bel⟩=>?_
 subst he;exact⟨_,rfl,_,_,_, [],_, [],i,trodAll_mk1 (shut_bool underlying4 _),(trodAll_cons_mk (Below.trod Qfi (by as_aux_lemma=>kernel_rfl) (uE (by as_aux_lemma=>kernel_rfl)) k0 bel l) (trodAll_cons_mk (Below.trod Qfi (by as_aux_lemma=>kernel_rfl) (uE (by as_aux_lemma=>kernel_rfl)) k1 bel m) (trodAll_cons_mk (Below.trod Qfi (by as_aux_lemma=>kernel_rfl) (uE (by as_aux_lemma=>kernel_rfl)) k2 bel n) trodAll_mk0))),rfl,bel.frame _,λh=>by cases h⟩
theorem Qxm{a b:uB}(c:a=Y)(d:b=Y):(a&&b)=Y:=by rw[c,d];rfl
set_option maxHeartbeats 20000000 in
theorem Qvu:joinedFacts Tryz.pinned.checked.prog 3 Tryz.f3 Rows.fnExactCommitSizeSpec Rows.fnExactCommitSizeRow=Y:=by
 unfold joinedFacts
 repeat' with_reducible apply Qxm
 all_goals (as_aux_lemma=>kernel_rfl)
set_option maxHeartbeats 1000000 in
theorem over:Rows.fnExactCommitSizeRow.holds Tryz.pinned (OpenSpec.ofChange Rows.fnExactCommitSizeSpec):=
 OpenClaim.holds_of_wide 3 Tryz.f3 rfl rfl rfl rfl rfl rfl rfl ⟨rfl,rfl,rfl,rfl,rfl⟩ rfl rfl rfl rfl rfl (by as_aux_lemma=>kernel_rfl) func3 Qvu
  (uE (by as_aux_lemma=>kernel_rfl)) (by unfold Func.isWrapper;rw[if_neg (by as_aux_lemma=>decide+kernel)];exact⟨rfl,rfl⟩)
  (λb a H enc _=>Qxl b a H enc)
end fnExactCommitSizeDone
theorem P6:Rows.FnExactCommitSizeSaid:=fnExactCommitSizeDone.over
theorem Qjp{P:Program}{c:OpenClaim}{f:FuncId}(a:P.funcNamed c.func=T f)(b:c.start= .entering)(d:((P.closure f).any λg=>(P.funcs[g]?).any Func.goes)=U)(e:P.funcs.any Func.goes=U):U=c.goesBy P:=by
 simp only[OpenClaim.goesBy,Program.goesAt,Program.goesFrom,a,b,Option.any_some,Program.goes,d,e,Bool.and_false,Bool.or_false]
theorem Qxn:((Tryz.prog.closure 3).any λg=>(Tryz.prog.funcs[g]?).any Func.goes)=U:=by kernel_rfl
theorem Qxo:Tryz.prog.funcs.any Func.goes=U:=by kernel_rfl
theorem Qvv:Rows.FnExactCommitSizeCardSaid:=
 Claim7.holds_tied_plain_at .later [] [.data, .data, .data, .data, .sentinel, .sentinel, .listed, .data, .pinned] true (true, "8d4a91bc139c0ddf180eb3421be6d714f54281de62da2aa8da8c0985d8108bec") true
  P6 (λ_ h=>by cases h) (by as_aux_lemma=>kernel_rfl) (λ_ h=>by cases h) Rv rfl ⟨rfl,rfl⟩ (by as_aux_lemma=>kernel_rfl) rfl
  (λf fn hf hfn=>by
   obtain rfl:f=3:=zJ ((show Tryz.prog.funcNamed Rows.fnExactCommitSizeRow.func=T 3 by as_aux_lemma=>kernel_rfl).symm.trans hf) |>.symm
   obtain rfl:fn=Tryz.f3:=(zJ (func3.symm.trans hfn)).symm
   exact⟨(by as_aux_lemma=>kernel_rfl),λj t ht=>by
    rw[params3] at ht;have hm:t∈ [36,3,37]:=by simpa using Array.mem_of_getElem? ht
    have hall:([36,3,37].all λu=> !Tryz.prog.wantsStandIn u)=Y:=by as_aux_lemma=>kernel_rfl
    exact(show Tryz.prog.wantsStandIn t=U by simpa using List.all_eq_true.1 hall t hm)⟩)
  (Qjp (P:=uI) (f:=3) (by as_aux_lemma=>kernel_rfl) rfl Qxn Qxo)
end
end Go.Proofs.YtlipbhahenojhaaGreatDoor
