/- Texts of this proof, put together by a program: He, Lw, Sz, Fam, To, LPt, MPt. -/
import Derived.Test.YtnnhlokdfkajnaaGreatP6
import Derived.Test.YtnnhlokdfkajnaaGreatProg
import Derived.KernelRfl
import Derived.Outline
set_option linter.unusedVariables false
set_option linter.unusedSimpArgs false
namespace Go.Proofs.YtnnhlokdfkajnaaGreat
open _root_.List renaming nil_append → zD, getElem?_eq_getElem → zE, cons_append → zF, mem_append → zG, append_nil → zH, take_length → zK, mem_append_right → zO, nodup_nil → zQ, mem_cons_of_mem → zU
open _root_.Nat renaming zero_le → zJ, mul_le_mul_right → zL, le_trans → zM, add_assoc → zN, lt_of_lt_of_le → zR, beq → zS, le_of_ble_eq_true → zT
open _root_.Option renaming map_eq_some_iff → zP
section
open Go.RowKit
open GoD (rd own)
set_option maxRecDepth 100000
set_option maxHeartbeats 1000000
theorem cBh {w v:World} {a:Addr} {x:Value} (hB:Below w.heap.size w v) (h:w.cell? a=some x):v.cell? a=some x:=(hB.cell (World.block_lt_of_cell? w _ h)).trans h
theorem zSh:(∀(w:World) o,(w.alloc o).heap.size=w.heap.size+1)/\(∀(w:World) a v,(w.setCell a v).heap.size=w.heap.size)/\∀w:World,w.drew.heap.size=w.heap.size:=⟨λ_ _=>World.size_alloc ..,λ_ _ _=>World.size_setCell ..,λ_=>rfl⟩
theorem NJ (w:World) (v:Value) (l l':List Ee) (K:Int) (k:Nat) (hK:K=k) (h1:1<=k) (hk:(Qx l k).2<=4611686018427387904) (hl':l'=(Qx l k).1) (ha:rd w [v] l'):Calls Tryz.prog 143 #[v,.int .i64 K] w (Ret w (.int .i64 ((Qx l k).2:Nat))):=by
 subst hK hl';obtain ⟨oa,cap,e1,hl,hm,hel⟩:=ha;obtain rfl:v=_:=by simpa using e1
 clear e1;have HE:=Lib.hid hel;clear hel;rw[Bg] at hl⊢;unfold maxLen at hm;have hlm:l.length<=9223372036854775807:=by omega
 generalize hfin:(Qx l k).2=fin at*;have HF:=Lib.hid hfin;clear hfin;go_enter Tryz.func143,Tryz.ntmps143
 go_wp2
 go_loopw [1,5] (λq i wr=>∃j:Nat,j<=l.length/\i= .int .i64 j/\q= .int .i64 ((Qx (l.take j) k).2:Nat)/\Below w.heap.size w wr) (λ_ i _=>l.length-(intOf i).toNat)
 case atStart=>exact ⟨0,zJ _,rfl,rfl,Below.refl _ _⟩
 case round=>
  obtain ⟨j,hj,rfl,rfl,hB⟩:=hrel;by_cases hjl:j<l.length
  . have hx:=zE hjl;have hsp:=Vy l k j _ hx;have hle:=zM (K4 l k j _ hx) (zM (Nat.le_of_eq HF.out) hk);have hkk:k<=(Qx (l.take j) k).2:=Zw _ _;obtain ⟨eb,eo,ee,rfl,hcl,hcc,hxr⟩:=HE.out j _ (P4 l k j _ hx);clear hx;generalize (Qx (l.take j) k).2=kk at*;generalize (Qx (l.take j) k).1=xs at*;generalize l[j]=x at*;obtain ⟨v0,⟨v1,v2,v3⟩⟩:=x;have HSP:Hid (_=(xs++ [(((Gc (kk),(((kk+1:Nat):Int),((kk+1+1:Nat):Int),Gc (kk+1+1+1))):Ee))],kk+1+1+1+1)):=hsp;clear hsp;have hle:kk+1+1+1+1<=4611686018427387904:=hle;have hxr:rd w ee ((Gc (kk),(((kk+1:Nat):Int),((kk+1+1:Nat):Int),Gc (kk+1+1+1))):Ee):=hxr;obtain ⟨_,_,rfl,⟨rfl,_⟩,⟨_,_,rfl,⟨rfl,_⟩,⟨_,_,rfl,⟨rfl,_⟩,⟨rfl,_⟩⟩⟩⟩:=hxr;have q0:w.cell? ⟨eb,eo+j*4,none⟩=some _:=hcc 0 _ rfl;have q1:w.cell? ⟨eb,eo+j*4+1,none⟩=some _:=hcc 1 _ rfl;have q2:w.cell? ⟨eb,eo+j*4+2,none⟩=some _:=hcc 2 _ rfl;have q3:w.cell? ⟨eb,eo+j*4+3,none⟩=some _:=hcc 3 _ rfl;have HQ:=Lib.hid (show True from trivial);have Q0:=Lib.hid q0;clear q0;have Q1:=Lib.hid q1;clear q1;have Q2:=Lib.hid q2;clear q2;have Q3:=Lib.hid q3;clear q3;have p0_0:=cBh hB Q0.out;have p0_1:=cBh hB Q1.out;have p0_2:=cBh hB Q2.out;have p0_3:=cBh hB Q3.out;have r0_0:=λd os=>cell_regrown p0_0 d os
    have r0_1:=λd os=>cell_regrown p0_1 d os
    have r0_2:=λd os=>cell_regrown p0_2 d os
    have r0_3:=λd os=>cell_regrown p0_3 d os
    clear hcc hcl;have hz0:=hB.size;have tok1:True:=trivial;have tok2:True:=trivial;go_wp2_with (first | (with_reducible refine wp_region_quiet_below (by kernel_rfl) (by kernel_rfl) ?_;have tk:=tok1;clear tok1;(repeat (quiet_step (exact Calls.regrown_of (Ug _ _ (kk) (by omega) (by omega) (by omega)))));refine wpQuiet_nil ?_;intro _ hw';obtain ⟨⟨dq,osq⟩,hw''⟩:=hw';subst hw'';have hbq:=below_regrown wr dq osq;generalize Go.Sort.grow (redrawn wr dq) osq=w1 at hbq⊢;have hB1:=Uk hB hbq;have hz1:=hB1.size;clear hbq;have p1_0:=cBh hB1 Q0.out;have p1_1:=cBh hB1 Q1.out;have p1_2:=cBh hB1 Q2.out;have p1_3:=cBh hB1 Q3.out;have r1_0:=λd os=>cell_regrown p1_0 d os;have r1_1:=λd os=>cell_regrown p1_1 d os;have r1_2:=λd os=>cell_regrown p1_2 d os;have r1_3:=λd os=>cell_regrown p1_3 d os) | (with_reducible refine wp_region_quiet_below (by kernel_rfl) (by kernel_rfl) ?_;have tk:=tok2;clear tok2;(repeat (quiet_step (exact Calls.regrown_of (Ug _ _ (kk+1+1+1) (by omega) (by omega) (by omega)))));refine wpQuiet_nil ?_;intro _ hw';obtain ⟨⟨dq,osq⟩,hw''⟩:=hw';subst hw'';have hbq:=below_regrown w1 dq osq;generalize Go.Sort.grow (redrawn w1 dq) osq=w2 at hbq⊢;have hB2:=Uk hB1 hbq;have hz2:=hB2.size;clear hbq;have p2_0:=cBh hB2 Q0.out;have p2_1:=cBh hB2 Q1.out;have p2_2:=cBh hB2 Q2.out;have p2_3:=cBh hB2 Q3.out;have r2_0:=λd os=>cell_regrown p2_0 d os;have r2_1:=λd os=>cell_regrown p2_1 d os;have r2_2:=λd os=>cell_regrown p2_2 d os;have r2_3:=λd os=>cell_regrown p2_3 d os))
    first
    | exact ⟨⟨j+1,by omega,by go_num,by (show Value.int _ _=_;rw[HSP.out];try (show Value.int .i64 _= .int .i64 ((kk+1+1+1+1:Nat):Int);first | go_num | (congr 1<;>omega))),hB2⟩,by simp[intOf];omega⟩
    | (go_roundw;(case measure=>simp[intOf];omega);(case rel=>exact ⟨j+1,by omega,by go_num,by (show Value.int _ _=_;rw[HSP.out];try (show Value.int .i64 _= .int .i64 ((kk+1+1+1+1:Nat):Int);first | go_num | (congr 1<;>omega))),hB2⟩))
  obtain rfl:j=l.length:=by omega
  have hf:=HF.out;rw[zK] at*;rw[hf] at*;have HF2:=Lib.hid hf;clear hf;go_wp2
  go_ret
  exact ⟨rfl,hB⟩
theorem NK (w:World) (v:Value) (l l':List Xx) (K:Int) (k:Nat) (hK:K=k) (h1:1<=k) (hk:(Qx l k).2<=4611686018427387904) (hl':l'=(Qx l k).1) (ha:rd w [v] l'):Calls Tryz.prog 86 #[v,.int .i64 K] w (Ret w (.int .i64 ((Qx l k).2:Nat))):=by
 subst hK hl';obtain ⟨oa,cap,e1,hl,hm,hel⟩:=ha;obtain rfl:v=_:=by simpa using e1
 clear e1;have HE:=Lib.hid hel;clear hel;rw[Bg] at hl⊢;unfold maxLen at hm;have hlm:l.length<=9223372036854775807:=by omega
 generalize hfin:(Qx l k).2=fin at*;have HF:=Lib.hid hfin;clear hfin;go_enter Tryz.func86,Tryz.ntmps86
 go_wp2
 go_loopw [1,5] (λq i wr=>∃j:Nat,j<=l.length/\i= .int .i64 j/\q= .int .i64 ((Qx (l.take j) k).2:Nat)/\Below w.heap.size w wr) (λ_ i _=>l.length-(intOf i).toNat)
 case atStart=>exact ⟨0,zJ _,rfl,rfl,Below.refl _ _⟩
 case round=>
  obtain ⟨j,hj,rfl,rfl,hB⟩:=hrel;by_cases hjl:j<l.length
  . have hx:=zE hjl;have hsp:=Vy l k j _ hx;have hle:=zM (K4 l k j _ hx) (zM (Nat.le_of_eq HF.out) hk);have hkk:k<=(Qx (l.take j) k).2:=Zw _ _;obtain ⟨eb,eo,ee,rfl,hcl,hcc,hxr⟩:=HE.out j _ (P4 l k j _ hx);clear hx;generalize (Qx (l.take j) k).2=kk at*;generalize (Qx (l.take j) k).1=xs at*;generalize l[j]=x at*;obtain ⟨v0,v1,v2,v3,v4⟩:=x;have HSP:Hid (_=(xs++ [(((((kk:Nat):Int),((kk+1:Nat):Int),((kk+1+1) % 3==0),((kk+1+1+1:Nat):Int),(Qx v4 (kk+1+1+1+1)).1):Xx))],(Qx v4 (kk+1+1+1+1)).2)):=hsp;clear hsp;have hle:(Qx v4 (kk+1+1+1+1)).2<=4611686018427387904:=hle;have hxr:rd w ee ((((kk:Nat):Int),((kk+1:Nat):Int),((kk+1+1) % 3==0),((kk+1+1+1:Nat):Int),(Qx v4 (kk+1+1+1+1)).1):Xx):=hxr;obtain ⟨_,_,rfl,⟨rfl,_⟩,⟨_,_,rfl,⟨rfl,_⟩,⟨_,_,rfl,rfl,⟨_,_,rfl,⟨rfl,_⟩,rh4⟩⟩⟩⟩:=hxr;obtain ⟨rv4,rfl⟩:=Bf (show _=1 from GoD.rd_len rh4);obtain ⟨oa4,cp4,rfl⟩:=Ll rh4;simp only[Bg] at hcc rh4;have hb2:=LY (kk+1+1) _ (show ((kk:Int)+1+1:Int)=((kk+1+1:Nat):Int) by omega);have hm4:kk+1+1+1+1<=(Qx v4 (kk+1+1+1+1)).2:=Zw _ _;have HR4:=Lib.hid rh4;clear rh4;have q0:w.cell? ⟨eb,eo+j*5,none⟩=some _:=hcc 0 _ rfl;have q1:w.cell? ⟨eb,eo+j*5+1,none⟩=some _:=hcc 1 _ rfl;have q2:w.cell? ⟨eb,eo+j*5+2,none⟩=some _:=hcc 2 _ rfl;have q3:w.cell? ⟨eb,eo+j*5+3,none⟩=some _:=hcc 3 _ rfl;have q4:w.cell? ⟨eb,eo+j*5+4,none⟩=some _:=hcc 4 _ rfl;have HQ:=Lib.hid (show True from trivial);have Q0:=Lib.hid q0;clear q0;have Q1:=Lib.hid q1;clear q1;have Q2:=Lib.hid q2;clear q2;have Q3:=Lib.hid q3;clear q3;have Q4:=Lib.hid q4;clear q4;have p0_0:=cBh hB Q0.out;have p0_1:=cBh hB Q1.out;have p0_2:=cBh hB Q2.out;have p0_3:=cBh hB Q3.out;have p0_4:=cBh hB Q4.out;clear hcc hcl;have hz0:=hB.size;have tok1:True:=trivial;go_wp2_with (first | (go_at_call 143;have tk:=tok1;clear tok1;refine Rq (w:=w) (NJ _ _ v4 _ _ (kk+1+1+1+1) (by omega) (by omega) (by omega) rfl (Xw HR4.out hB)) hB ?_;intro w1 hB1 hbq hz1 hz2;clear hbq hz2;have p1_0:=cBh hB1 Q0.out;have p1_1:=cBh hB1 Q1.out;have p1_2:=cBh hB1 Q2.out;have p1_3:=cBh hB1 Q3.out;have p1_4:=cBh hB1 Q4.out))
    first
    | exact ⟨⟨j+1,by omega,by go_num,by (show Value.int _ _=_;rw[HSP.out];try (show Value.int .i64 _= .int .i64 (((Qx v4 (kk+1+1+1+1)).2:Nat):Int);first | go_num | (congr 1<;>omega))),hB1⟩,by simp[intOf];omega⟩
    | (go_roundw;(case measure=>simp[intOf];omega);(case rel=>exact ⟨j+1,by omega,by go_num,by (show Value.int _ _=_;rw[HSP.out];try (show Value.int .i64 _= .int .i64 (((Qx v4 (kk+1+1+1+1)).2:Nat):Int);first | go_num | (congr 1<;>omega))),hB1⟩))
  obtain rfl:j=l.length:=by omega
  have hf:=HF.out;rw[zK] at*;rw[hf] at*;have HF2:=Lib.hid hf;clear hf;go_wp2
  go_ret
  exact ⟨rfl,hB⟩
theorem IP (w:World) (v:Value) (l l':List Km) (K:Int) (k:Nat) (hK:K=k) (h1:1<=k) (hk:(Qx l k).2<=4611686018427387904) (hl':l'=(Qx l k).1) (ha:rd w [v] l'):Calls Tryz.prog 85 #[v,.int .i64 K] w (Ret w (.int .i64 ((Qx l k).2:Nat))):=by
 subst hK hl';obtain ⟨oa,cap,e1,hl,hm,hel⟩:=ha;obtain rfl:v=_:=by simpa using e1
 clear e1;have HE:=Lib.hid hel;clear hel;rw[Bg] at hl⊢;unfold maxLen at hm;have hlm:l.length<=9223372036854775807:=by omega
 generalize hfin:(Qx l k).2=fin at*;have HF:=Lib.hid hfin;clear hfin;go_enter Tryz.func85,Tryz.ntmps85
 go_wp2
 go_loopw [1,5] (λq i wr=>∃j:Nat,j<=l.length/\i= .int .i64 j/\q= .int .i64 ((Qx (l.take j) k).2:Nat)/\Below w.heap.size w wr) (λ_ i _=>l.length-(intOf i).toNat)
 case atStart=>exact ⟨0,zJ _,rfl,rfl,Below.refl _ _⟩
 case round=>
  obtain ⟨j,hj,rfl,rfl,hB⟩:=hrel;by_cases hjl:j<l.length
  . have hx:=zE hjl;have hsp:=Vy l k j _ hx;have hle:=zM (K4 l k j _ hx) (zM (Nat.le_of_eq HF.out) hk);have hkk:k<=(Qx (l.take j) k).2:=Zw _ _;obtain ⟨eb,eo,ee,rfl,hcl,hcc,hxr⟩:=HE.out j _ (P4 l k j _ hx);clear hx;generalize (Qx (l.take j) k).2=kk at*;generalize (Qx (l.take j) k).1=xs at*;generalize l[j]=x at*;obtain ⟨v0,v1⟩:=x;have HSP:Hid (_=(xs++ [(((Gc (kk),((kk+1:Nat):Int)):Km))],kk+1+1)):=hsp;clear hsp;have hle:kk+1+1<=4611686018427387904:=hle;have hxr:rd w ee ((Gc (kk),((kk+1:Nat):Int)):Km):=hxr;obtain ⟨_,_,rfl,⟨rfl,_⟩,⟨rfl,_⟩⟩:=hxr;have q0:w.cell? ⟨eb,eo+j*2,none⟩=some _:=hcc 0 _ rfl;have q1:w.cell? ⟨eb,eo+j*2+1,none⟩=some _:=hcc 1 _ rfl;have HQ:=Lib.hid (show True from trivial);have Q0:=Lib.hid q0;clear q0;have Q1:=Lib.hid q1;clear q1;have p0_0:=cBh hB Q0.out;have p0_1:=cBh hB Q1.out;have r0_0:=λd os=>cell_regrown p0_0 d os
    have r0_1:=λd os=>cell_regrown p0_1 d os
    clear hcc hcl;have hz0:=hB.size;have tok1:True:=trivial;go_wp2_with (first | (with_reducible refine wp_region_quiet_below (by kernel_rfl) (by kernel_rfl) ?_;have tk:=tok1;clear tok1;(repeat (quiet_step (exact Calls.regrown_of (Ug _ _ (kk) (by omega) (by omega) (by omega)))));refine wpQuiet_nil ?_;intro _ hw';obtain ⟨⟨dq,osq⟩,hw''⟩:=hw';subst hw'';have hbq:=below_regrown wr dq osq;generalize Go.Sort.grow (redrawn wr dq) osq=w1 at hbq⊢;have hB1:=Uk hB hbq;have hz1:=hB1.size;clear hbq;have p1_0:=cBh hB1 Q0.out;have p1_1:=cBh hB1 Q1.out;have r1_0:=λd os=>cell_regrown p1_0 d os;have r1_1:=λd os=>cell_regrown p1_1 d os))
    first
    | exact ⟨⟨j+1,by omega,by go_num,by (show Value.int _ _=_;rw[HSP.out];try (show Value.int .i64 _= .int .i64 ((kk+1+1:Nat):Int);first | go_num | (congr 1<;>omega))),hB1⟩,by simp[intOf];omega⟩
    | (go_roundw;(case measure=>simp[intOf];omega);(case rel=>exact ⟨j+1,by omega,by go_num,by (show Value.int _ _=_;rw[HSP.out];try (show Value.int .i64 _= .int .i64 ((kk+1+1:Nat):Int);first | go_num | (congr 1<;>omega))),hB1⟩))
  obtain rfl:j=l.length:=by omega
  have hf:=HF.out;rw[zK] at*;rw[hf] at*;have HF2:=Lib.hid hf;clear hf;go_wp2
  go_ret
  exact ⟨rfl,hB⟩
theorem NL (w:World) (ca:List Value) (a a':Xr) (K:Int) (k:Nat) (hK:K=k) (h1:1<=k) (hk:(GoD.markT a k).2<=4611686018427387904) (ha':a'=(GoD.markT a k).1) (ha:rd w ca a'):Calls Tryz.prog 48 #[.agg ca.toArray,.int .i64 K] w (Ret w (.int .i64 ((GoD.markT a k).2:Nat))):=by
 subst hK ha';obtain ⟨b1,b2,b3⟩:=a;have hk:(Qx b2 ((Qx b1 (k)).2)).2<=4611686018427387904:=hk;have ha:rd w ca ((Qx b1 (k)).1,(Qx b2 ((Qx b1 (k)).2)).1,b3):=ha;generalize hfin:(GoD.markT ((b1,b2,b3):Xr) k).2=fin;have hfin:(Qx b2 ((Qx b1 (k)).2)).2=fin:=hfin;obtain ⟨_,_,rfl,ar1,_,_,rfl,ar2,ar3⟩:=ha;obtain ⟨ax1_0,rfl⟩:=Bf (show _=1 from GoD.rd_len ar1);have HR1:=Lib.hid ar1;clear ar1;have hm1:k<=(Qx b1 (k)).2:=Zw _ _;obtain ⟨ax2_0,rfl⟩:=Bf (show _=1 from GoD.rd_len ar2);have HR2:=Lib.hid ar2;clear ar2;have hm2:(Qx b1 (k)).2<=(Qx b2 ((Qx b1 (k)).2)).2:=Zw _ _;obtain ⟨rfl,ar3⟩:=ar3;clear ar3;dsimp only[zF,zD] at*;have tok1:True:=trivial;have tok2:True:=trivial;have HF:=Lib.hid hfin;clear hfin;go_enter Tryz.func48,Tryz.ntmps48
 go_wp2_with (first | (go_at_call 85;have tk:=tok1;clear tok1;refine Rq (w:=w) (IP _ ax1_0 b1 _ _ (k) (by omega) (by omega) (show (Qx b1 (k)).2<=4611686018427387904 by omega) rfl (Xw HR1.out (by go_grown))) (by go_grown) ?_;intro w1 hB hb hz hz2;(try simp only[zSh] at hz2);have c0:=λo=>Z0 hb (w.heap.size) o (by go_size);clear hb) | (go_at_call 86;have tk:=tok2;clear tok2;refine Rq (w:=w) (NK _ ax2_0 b2 _ _ ((Qx b1 (k)).2) (by omega) (by omega) (show (Qx b2 ((Qx b1 (k)).2)).2<=4611686018427387904 by omega) rfl (Xw HR2.out (by go_grown))) (by go_grown) ?_;intro w2 hB hb hz hz2;(try simp only[zSh] at hz2);have c0:=λo=>Z0 hb (w.heap.size) o (by go_size);clear hb))
 go_ret
 refine ⟨?_,by go_grown⟩;rw[←HF.out];rfl
theorem NM (w:World) (v:Value) (l l':List Yz) (K:Int) (k:Nat) (hK:K=k) (h1:1<=k) (hk:(Qx l k).2<=4611686018427387904) (hl':l'=(Qx l k).1) (ha:rd w [v] l'):Calls Tryz.prog 87 #[v,.int .i64 K] w (Ret w (.int .i64 ((Qx l k).2:Nat))):=by
 subst hK hl';obtain ⟨oa,cap,e1,hl,hm,hel⟩:=ha;obtain rfl:v=_:=by simpa using e1
 clear e1;have HE:=Lib.hid hel;clear hel;rw[Bg] at hl⊢;unfold maxLen at hm;have hlm:l.length<=9223372036854775807:=by omega
 generalize hfin:(Qx l k).2=fin at*;have HF:=Lib.hid hfin;clear hfin;go_enter Tryz.func87,Tryz.ntmps87
 go_wp2
 go_loopw [1,5] (λq i wr=>∃j:Nat,j<=l.length/\i= .int .i64 j/\q= .int .i64 ((Qx (l.take j) k).2:Nat)/\Below w.heap.size w wr) (λ_ i _=>l.length-(intOf i).toNat)
 case atStart=>exact ⟨0,zJ _,rfl,rfl,Below.refl _ _⟩
 case round=>
  obtain ⟨j,hj,rfl,rfl,hB⟩:=hrel;by_cases hjl:j<l.length
  . have hx:=zE hjl;have hsp:=Vy l k j _ hx;have hle:=zM (K4 l k j _ hx) (zM (Nat.le_of_eq HF.out) hk);have hkk:k<=(Qx (l.take j) k).2:=Zw _ _;obtain ⟨eb,eo,ee,rfl,hcl,hcc,hxr⟩:=HE.out j _ (P4 l k j _ hx);clear hx;generalize (Qx (l.take j) k).2=kk at*;generalize (Qx (l.take j) k).1=xs at*;generalize l[j]=x at*;obtain ⟨v0,v1,v2,v3,⟨v4,v5,v6⟩⟩:=x;have HSP:Hid (_=(xs++ [(((((kk:Nat):Int),((kk+1:Nat):Int),((kk+1+1:Nat):Int),Gc (kk+1+1+1),(((kk+1+1+1+1:Nat):Int),((kk+1+1+1+1+1:Nat):Int),Gc (kk+1+1+1+1+1+1))):Yz))],kk+1+1+1+1+1+1+1)):=hsp;clear hsp;have hle:kk+1+1+1+1+1+1+1<=4611686018427387904:=hle;have hxr:rd w ee ((((kk:Nat):Int),((kk+1:Nat):Int),((kk+1+1:Nat):Int),Gc (kk+1+1+1),(((kk+1+1+1+1:Nat):Int),((kk+1+1+1+1+1:Nat):Int),Gc (kk+1+1+1+1+1+1))):Yz):=hxr;obtain ⟨_,_,rfl,⟨rfl,_⟩,⟨_,_,rfl,⟨rfl,_⟩,⟨_,_,rfl,⟨rfl,_⟩,⟨_,_,rfl,⟨rfl,_⟩,⟨_,_,rfl,⟨rfl,_⟩,⟨_,_,rfl,⟨rfl,_⟩,⟨rfl,_⟩⟩⟩⟩⟩⟩⟩:=hxr;have q0:w.cell? ⟨eb,eo+j*7,none⟩=some _:=hcc 0 _ rfl;have q1:w.cell? ⟨eb,eo+j*7+1,none⟩=some _:=hcc 1 _ rfl;have q2:w.cell? ⟨eb,eo+j*7+2,none⟩=some _:=hcc 2 _ rfl;have q3:w.cell? ⟨eb,eo+j*7+3,none⟩=some _:=hcc 3 _ rfl;have q4:w.cell? ⟨eb,eo+j*7+4,none⟩=some _:=hcc 4 _ rfl;have q5:w.cell? ⟨eb,eo+j*7+5,none⟩=some _:=hcc 5 _ rfl;have q6:w.cell? ⟨eb,eo+j*7+6,none⟩=some _:=hcc 6 _ rfl;have HQ:=Lib.hid (show True from trivial);have Q0:=Lib.hid q0;clear q0;have Q1:=Lib.hid q1;clear q1;have Q2:=Lib.hid q2;clear q2;have Q3:=Lib.hid q3;clear q3;have Q4:=Lib.hid q4;clear q4;have Q5:=Lib.hid q5;clear q5;have Q6:=Lib.hid q6;clear q6;have p0_0:=cBh hB Q0.out;have p0_1:=cBh hB Q1.out;have p0_2:=cBh hB Q2.out;have p0_3:=cBh hB Q3.out;have p0_4:=cBh hB Q4.out;have p0_5:=cBh hB Q5.out;have p0_6:=cBh hB Q6.out;have r0_0:=λd os=>cell_regrown p0_0 d os
    have r0_1:=λd os=>cell_regrown p0_1 d os
    have r0_2:=λd os=>cell_regrown p0_2 d os
    have r0_3:=λd os=>cell_regrown p0_3 d os
    have r0_4:=λd os=>cell_regrown p0_4 d os
    have r0_5:=λd os=>cell_regrown p0_5 d os
    have r0_6:=λd os=>cell_regrown p0_6 d os
    clear hcc hcl;have hz0:=hB.size;have tok1:True:=trivial;have tok2:True:=trivial;go_wp2_with (first | (with_reducible refine wp_region_quiet_below (by kernel_rfl) (by kernel_rfl) ?_;have tk:=tok1;clear tok1;(repeat (quiet_step (exact Calls.regrown_of (Ug _ _ (kk+1+1+1) (by omega) (by omega) (by omega)))));refine wpQuiet_nil ?_;intro _ hw';obtain ⟨⟨dq,osq⟩,hw''⟩:=hw';subst hw'';have hbq:=below_regrown wr dq osq;generalize Go.Sort.grow (redrawn wr dq) osq=w1 at hbq⊢;have hB1:=Uk hB hbq;have hz1:=hB1.size;clear hbq;have p1_0:=cBh hB1 Q0.out;have p1_1:=cBh hB1 Q1.out;have p1_2:=cBh hB1 Q2.out;have p1_3:=cBh hB1 Q3.out;have p1_4:=cBh hB1 Q4.out;have p1_5:=cBh hB1 Q5.out;have p1_6:=cBh hB1 Q6.out;have r1_0:=λd os=>cell_regrown p1_0 d os;have r1_1:=λd os=>cell_regrown p1_1 d os;have r1_2:=λd os=>cell_regrown p1_2 d os;have r1_3:=λd os=>cell_regrown p1_3 d os;have r1_4:=λd os=>cell_regrown p1_4 d os;have r1_5:=λd os=>cell_regrown p1_5 d os;have r1_6:=λd os=>cell_regrown p1_6 d os) | (with_reducible refine wp_region_quiet_below (by kernel_rfl) (by kernel_rfl) ?_;have tk:=tok2;clear tok2;(repeat (quiet_step (exact Calls.regrown_of (Ug _ _ (kk+1+1+1+1+1+1) (by omega) (by omega) (by omega)))));refine wpQuiet_nil ?_;intro _ hw';obtain ⟨⟨dq,osq⟩,hw''⟩:=hw';subst hw'';have hbq:=below_regrown w1 dq osq;generalize Go.Sort.grow (redrawn w1 dq) osq=w2 at hbq⊢;have hB2:=Uk hB1 hbq;have hz2:=hB2.size;clear hbq;have p2_0:=cBh hB2 Q0.out;have p2_1:=cBh hB2 Q1.out;have p2_2:=cBh hB2 Q2.out;have p2_3:=cBh hB2 Q3.out;have p2_4:=cBh hB2 Q4.out;have p2_5:=cBh hB2 Q5.out;have p2_6:=cBh hB2 Q6.out;have r2_0:=λd os=>cell_regrown p2_0 d os;have r2_1:=λd os=>cell_regrown p2_1 d os;have r2_2:=λd os=>cell_regrown p2_2 d os;have r2_3:=λd os=>cell_regrown p2_3 d os;have r2_4:=λd os=>cell_regrown p2_4 d os;have r2_5:=λd os=>cell_regrown p2_5 d os;have r2_6:=λd os=>cell_regrown p2_6 d os))
    first
    | exact ⟨⟨j+1,by omega,by go_num,by (show Value.int _ _=_;rw[HSP.out];try (show Value.int .i64 _= .int .i64 ((kk+1+1+1+1+1+1+1:Nat):Int);first | go_num | (congr 1<;>omega))),hB2⟩,by simp[intOf];omega⟩
    | (go_roundw;(case measure=>simp[intOf];omega);(case rel=>exact ⟨j+1,by omega,by go_num,by (show Value.int _ _=_;rw[HSP.out];try (show Value.int .i64 _= .int .i64 ((kk+1+1+1+1+1+1+1:Nat):Int);first | go_num | (congr 1<;>omega))),hB2⟩))
  obtain rfl:j=l.length:=by omega
  have hf:=HF.out;rw[zK] at*;rw[hf] at*;have HF2:=Lib.hid hf;clear hf;go_wp2
  go_ret
  exact ⟨rfl,hB⟩
theorem TT (w:World) (v:Value) (l l':List Yc) (K:Int) (k:Nat) (hK:K=k) (h1:1<=k) (hk:(Qx l k).2<=4611686018427387904) (hl':l'=(Qx l k).1) (ha:rd w [v] l'):Calls Tryz.prog 49 #[v,.int .i64 K] w (Ret w (.int .i64 ((Qx l k).2:Nat))):=by
 subst hK hl';obtain ⟨oa,cap,e1,hl,hm,hel⟩:=ha;obtain rfl:v=_:=by simpa using e1
 clear e1;have HE:=Lib.hid hel;clear hel;rw[Bg] at hl⊢;unfold maxLen at hm;have hlm:l.length<=9223372036854775807:=by omega
 generalize hfin:(Qx l k).2=fin at*;have HF:=Lib.hid hfin;clear hfin;go_enter Tryz.func49,Tryz.ntmps49
 go_wp2
 go_loopw [1,5] (λq i wr=>∃j:Nat,j<=l.length/\i= .int .i64 j/\q= .int .i64 ((Qx (l.take j) k).2:Nat)/\Below w.heap.size w wr) (λ_ i _=>l.length-(intOf i).toNat)
 case atStart=>exact ⟨0,zJ _,rfl,rfl,Below.refl _ _⟩
 case round=>
  obtain ⟨j,hj,rfl,rfl,hB⟩:=hrel;by_cases hjl:j<l.length
  . have hx:=zE hjl;have hsp:=Vy l k j _ hx;have hle:=zM (K4 l k j _ hx) (zM (Nat.le_of_eq HF.out) hk);have hkk:k<=(Qx (l.take j) k).2:=Zw _ _;obtain ⟨eb,eo,ee,rfl,hcl,hcc,hxr⟩:=HE.out j _ (P4 l k j _ hx);clear hx;generalize (Qx (l.take j) k).2=kk at*;generalize (Qx (l.take j) k).1=xs at*;generalize l[j]=x at*;obtain ⟨v0,v1⟩:=x;have HSP:Hid (_=(xs++ [(((Gc (kk),(Qx v1 (kk+1)).1):Yc))],(Qx v1 (kk+1)).2)):=hsp;clear hsp;have hle:(Qx v1 (kk+1)).2<=4611686018427387904:=hle;have hxr:rd w ee ((Gc (kk),(Qx v1 (kk+1)).1):Yc):=hxr;obtain ⟨_,_,rfl,⟨rfl,_⟩,rh1⟩:=hxr;obtain ⟨rv1,rfl⟩:=Bf (show _=1 from GoD.rd_len rh1);obtain ⟨oa1,cp1,rfl⟩:=Ll rh1;simp only[Bg] at hcc rh1;have hm1:kk+1<=(Qx v1 (kk+1)).2:=Zw _ _;have HR1:=Lib.hid rh1;clear rh1;have q0:w.cell? ⟨eb,eo+j*2,none⟩=some _:=hcc 0 _ rfl;have q1:w.cell? ⟨eb,eo+j*2+1,none⟩=some _:=hcc 1 _ rfl;have HQ:=Lib.hid (show True from trivial);have Q0:=Lib.hid q0;clear q0;have Q1:=Lib.hid q1;clear q1;have p0_0:=cBh hB Q0.out;have p0_1:=cBh hB Q1.out;have r0_0:=λd os=>cell_regrown p0_0 d os
    have r0_1:=λd os=>cell_regrown p0_1 d os
    clear hcc hcl;have hz0:=hB.size;have tok1:True:=trivial;have tok2:True:=trivial;go_wp2_with (first | (with_reducible refine wp_region_quiet_below (by kernel_rfl) (by kernel_rfl) ?_;have tk:=tok1;clear tok1;(repeat (quiet_step (exact Calls.regrown_of (Ug _ _ (kk) (by omega) (by omega) (by omega)))));refine wpQuiet_nil ?_;intro _ hw';obtain ⟨⟨dq,osq⟩,hw''⟩:=hw';subst hw'';have hbq:=below_regrown wr dq osq;generalize Go.Sort.grow (redrawn wr dq) osq=w1 at hbq⊢;have hB1:=Uk hB hbq;have hz1:=hB1.size;clear hbq;have p1_0:=cBh hB1 Q0.out;have p1_1:=cBh hB1 Q1.out;have r1_0:=λd os=>cell_regrown p1_0 d os;have r1_1:=λd os=>cell_regrown p1_1 d os) | (go_at_call 87;have tk:=tok2;clear tok2;refine Rq (w:=w) (NM _ _ v1 _ _ (kk+1) (by omega) (by omega) (by omega) rfl (Xw HR1.out hB1)) hB1 ?_;intro w2 hB2 hbq hz2 hz2;clear hbq hz2;have p2_0:=cBh hB2 Q0.out;have p2_1:=cBh hB2 Q1.out;have r2_0:=λd os=>cell_regrown p2_0 d os;have r2_1:=λd os=>cell_regrown p2_1 d os))
    first
    | exact ⟨⟨j+1,by omega,by go_num,by (show Value.int _ _=_;rw[HSP.out];try (show Value.int .i64 _= .int .i64 (((Qx v1 (kk+1)).2:Nat):Int);first | go_num | (congr 1<;>omega))),hB2⟩,by simp[intOf];omega⟩
    | (go_roundw;(case measure=>simp[intOf];omega);(case rel=>exact ⟨j+1,by omega,by go_num,by (show Value.int _ _=_;rw[HSP.out];try (show Value.int .i64 _= .int .i64 (((Qx v1 (kk+1)).2:Nat):Int);first | go_num | (congr 1<;>omega))),hB2⟩))
  obtain rfl:j=l.length:=by omega
  have hf:=HF.out;rw[zK] at*;rw[hf] at*;have HF2:=Lib.hid hf;clear hf;go_wp2
  go_ret
  exact ⟨rfl,hB⟩
theorem AA (w:World) (ca:List Value) (a a':Um) (K:Int) (k:Nat) (hK:K=k) (h1:1<=k) (hk:(GoD.markT a k).2<=4611686018427387904) (ha':a'=(GoD.markT a k).1) (ha:rd w ca a'):Calls Tryz.prog 16 #[.agg ca.toArray,.int .i64 K] w (Ret w (.int .i64 ((GoD.markT a k).2:Nat))):=by
 subst hK ha';obtain ⟨b1,b2⟩:=a;have hk:(Qx b2 ((GoD.markT b1 (k)).2)).2<=4611686018427387904:=hk;have ha:rd w ca ((GoD.markT b1 (k)).1,(Qx b2 ((GoD.markT b1 (k)).2)).1):=ha;generalize hfin:(GoD.markT ((b1,b2):Um) k).2=fin;have hfin:(Qx b2 ((GoD.markT b1 (k)).2)).2=fin:=hfin;obtain ⟨_,_,rfl,ar1,ar2⟩:=ha;obtain ⟨ax1_0,ax1_1,ax1_2,rfl⟩:=SM (show _=3 from GoD.rd_len ar1);have HR1:=Lib.hid ar1;clear ar1;have hm1:k<=(GoD.markT b1 (k)).2:=GoD.mkT_le _ _;obtain ⟨ax2_0,rfl⟩:=Bf (show _=1 from GoD.rd_len ar2);have HR2:=Lib.hid ar2;clear ar2;have hm2:(GoD.markT b1 (k)).2<=(Qx b2 ((GoD.markT b1 (k)).2)).2:=Zw _ _;dsimp only[zF,zD] at*;have tok1:True:=trivial;have tok2:True:=trivial;have HF:=Lib.hid hfin;clear hfin;go_enter Tryz.func16,Tryz.ntmps16
 go_wp2_with (first | (go_at_call 48;have tk:=tok1;clear tok1;refine Rq (w:=w) (NL _ [ax1_0,ax1_1,ax1_2] b1 _ _ (k) (by omega) (by omega) (show (GoD.markT b1 (k)).2<=4611686018427387904 by omega) rfl (Xw HR1.out (by go_grown))) (by go_grown) ?_;intro w1 hB hb hz hz2;(try simp only[zSh] at hz2);have c0:=λo=>Z0 hb (w.heap.size) o (by go_size);clear hb) | (go_at_call 49;have tk:=tok2;clear tok2;refine Rq (w:=w) (TT _ ax2_0 b2 _ _ ((GoD.markT b1 (k)).2) (by omega) (by omega) (show (Qx b2 ((GoD.markT b1 (k)).2)).2<=4611686018427387904 by omega) rfl (Xw HR2.out (by go_grown))) (by go_grown) ?_;intro w2 hB hb hz hz2;(try simp only[zSh] at hz2);have c0:=λo=>Z0 hb (w.heap.size) o (by go_size);clear hb))
 go_ret
 refine ⟨?_,by go_grown⟩;rw[←HF.out];rfl
end
section
open Go.RowKit
open GoD (rd own)
open GoE (enc wide)
def szI (t:Nat) (left:Int):Int:=bif decide ((t:Int)<=left) then left-t else-1
theorem Qif {t:Nat} {left r:Int} (h:szq t left r):r=szI t left:=by
 unfold szq at h;unfold szI;by_cases hc:(t:Int)<=left
 . rw[decide_eq_true hc];simp only[cond_true];omega
 rw[decide_eq_false hc];simp only[cond_false];omega
theorem Qig (t:Nat) (left:Int):szI t left<0\/(0<=szI t left/\szI t left=left-t/\(t:Int)<=left):=by
 by_cases hc:(t:Int)<=left
 . have:szI t left=left-t:=by unfold szI;rw[decide_eq_true hc];rfl
   omega
 have:szI t left= -1:=by unfold szI;rw[decide_eq_false hc];rfl
 omega
theorem Qih (t:Nat) {left:Int} (h0:0<=left) (h1:left<=1048576):InR .i64 (szI t left):=by
 rw[Ln];unfold I64;by_cases hc:(t:Int)<=left
 . have:szI t left=left-t:=by unfold szI;rw[decide_eq_true hc];rfl
   omega
 have:szI t left= -1:=by unfold szI;rw[decide_eq_false hc];rfl
 omega
section
variable {α:Type} [GoE α] {P:Program} {f:Nat}
theorem NN {F:Nat->Prop} {w:World} {v:Value} {a:α} (h:AR (YX F) w v (Cw a)):∃cs:List Value,v= .agg cs.toArray/\rd w cs a:=by
 obtain ⟨vs,rfl,hr⟩:=h;exact ⟨vs,rfl,GoE.vc_rd (Qi9 hr λ_=>GoE.no_any)⟩
theorem Qd4 {F:Nat->Prop} {w:World} {v:Value} {a:α} (h:AR (YX F) w v (Cw a)):wide a:=by
 obtain ⟨vs,rfl,hr⟩:=h;exact GoE.vc_wide (Qi9 hr λ_=>GoE.no_any)
theorem Qkd {F:Nat->Prop} {w:World} {v:Value} {l:List α} (h:AR (YX F) w v (OT l)):rd w [v] l:=Qbq h
theorem UP {F:Nat->Prop} {w w':World} {v:Value} {r:AV} (hb:Below w.heap.size w w') (hr:∀J,AR J w' v r):Qix F w r (.returned v) w':=
 ⟨v,λ_=> [],rfl,hb,λ_=>zQ,(λ_ _ h=>by simp at h),(λ_ _ _ h=>by simp at h),hr _⟩
theorem TU (hok:It P f) {a:α} {left:Int} (h0:0<=left) (h1:left<=1048576) (h:∀w (cs:List Value),rd w cs a->Calls P f #[.agg cs.toArray,.int .i64 left] w (E5 w (GoD.size a) left)):ACalls P f [Cw a,SA left] (SA (szI (GoD.size a) left)):=by
 refine ⟨hok,λw _ F vals hF hall=> ?_⟩;cases hall with
 | cons h2 h3=>cases h3 with
   | cons h3 h4=>
     cases h4
     obtain ⟨cs,rfl,hr⟩:=NN h2;obtain ⟨rfl,_⟩:=h3;refine (h w cs hr).mono ?_
     rintro e w' ⟨r,rfl,hq,hb⟩
     exact UP hb λJ=>⟨by rw[Qif hq],Qih _ h0 h1⟩
theorem TV (hok:It P f) {l:List α} {left:Int} (h0:0<=left) (h1:left<=1048576) (h:∀w (v:Value),rd w [v] l->Calls P f #[v,.int .i64 left] w (E5 w (GoD.size l) left)):ACalls P f [OT l,SA left] (SA (szI (GoD.size l) left)):=by
 refine ⟨hok,λw _ F vals hF hall=> ?_⟩;cases hall with
 | cons h2 h3=>cases h3 with
   | cons h3 h4=>
     cases h4
     obtain ⟨rfl,_⟩:=h3;refine (h w _ (Qkd h2)).mono ?_
     rintro e w' ⟨r,rfl,hq,hb⟩
     exact UP hb λJ=>⟨by rw[Qif hq],Qih _ h0 h1⟩
theorem TW (hok:It P f) {a:α} {K R:Int} (hR:InR .i64 R) (h:∀w (cs:List Value),rd w cs a->Calls P f #[.agg cs.toArray,.int .i64 K] w (Ret w (.int .i64 R))):ACalls P f [Cw a,SA K] (SA R):=by
 refine ⟨hok,λw _ F vals hF hall=> ?_⟩;cases hall with
 | cons h2 h3=>cases h3 with
   | cons h3 h4=>
     cases h4
     obtain ⟨cs,rfl,hr⟩:=NN h2;obtain ⟨rfl,_⟩:=h3;refine (h w cs hr).mono ?_
     rintro e w' ⟨rfl,hb⟩
     exact UP hb λJ=>⟨rfl,hR⟩
end
theorem TX {w:World}:∀{ps:List PV} {vs:List Value} {L:List Nat} (k:Nat),OC w L vs ps->L.Nodup->∃Lf:Nat->List Nat,(∀J:Inj,(∀j,k<=j->J.L j=Lf j)->All2 (CR J w) vs (owC k ps))/\(∀j,(Lf j).Nodup)/\(∀j b,b∈Lf j->b∈L)/\∀i j b,b∈Lf i->b∈Lf j->i=j
 | [],vs,L,k,h,hn=>by
   cases h
   exact ⟨λ_=> [],λ_ _=> .nil,λ_=>zQ,λ_ _ h=>by simp at h,λ_ _ _ h=>by simp at h⟩
 | p :: ps,vs,L,k,h,hn=>by
   cases h with
   | @cons L1 L2 v p vs ps h1 h2=>
     obtain ⟨n1,n2,n3⟩:=List.nodup_append.1 hn;cases p with
     | int a b=>
       obtain ⟨Lf,q1,q2,q3,q4⟩:=TX k h2 n2;exact ⟨Lf,λJ hJ=> .cons (by cases h1;exact ⟨rfl,‹_›⟩) (q1 J hJ),q2,λj b hb=>zO _ (q3 j b hb),q4⟩
     | bool b=>
       obtain ⟨Lf,q1,q2,q3,q4⟩:=TX k h2 n2;exact ⟨Lf,λJ hJ=> .cons (by cases h1;rfl) (q1 J hJ),q2,λj b hb=>zO _ (q3 j b hb),q4⟩
     | str s=>
       obtain ⟨Lf,q1,q2,q3,q4⟩:=TX k h2 n2;exact ⟨Lf,λJ hJ=> .cons (by cases h1;exact ⟨rfl,‹_›⟩) (q1 J hJ),q2,λj b hb=>zO _ (q3 j b hb),q4⟩
     | any=>
       obtain ⟨Lf,q1,q2,q3,q4⟩:=TX k h2 n2;exact ⟨Lf,λJ hJ=> .cons trivial (q1 J hJ),q2,λj b hb=>zO _ (q3 j b hb),q4⟩
     | slc n l=>
       obtain ⟨Lf,q1,q2,q3,q4⟩:=TX (k+1) h2 n2;refine ⟨λj=>if j=k then L1 else if k<j then Lf j else [],λJ hJ=> .cons ?_ (q1 J λj hj=> ?_),λj=> ?_,λj b hb=> ?_,λi j b hi hj=> ?_⟩
       . show OwnDeep (J.L k) w v n l;have e:J.L k=L1:=(hJ k (Nat.le_refl _)).trans (if_pos rfl);rw[e];exact .of h1 n1
       . exact (hJ j (by omega)).trans ((if_neg (by omega)).trans (if_pos (by omega)))
       . show (if j=k then L1 else if k<j then Lf j else []).Nodup;split
         . exact n1
         split
         . exact q2 j
         exact zQ
       . have hb:b∈(if j=k then L1 else if k<j then Lf j else []):=hb;split at hb
         . exact List.mem_append_left _ hb
         split at hb
         . exact zO _ (q3 j b hb)
         simp at hb
       have hi:b∈(if i=k then L1 else if k<i then Lf i else []):=hi;have hj:b∈(if j=k then L1 else if k<j then Lf j else []):=hj;split at hi<;>split at hj
       . omega
       . split at hj
         . exact (n3 b hi b (q3 j b hj) rfl).elim
         simp at hj
       . split at hi
         . exact (n3 b hj b (q3 i b hi) rfl).elim
         simp at hi
       split at hi
       . split at hj
         . exact q4 i j b hi hj
         simp at hj
       simp at hi
section
variable {α:Type} [GoE α] {P:Program} {f:Nat}
theorem TY (hok:It P f) {a:α} (h:∀w (cs:List Value),rd w cs a->Calls P f #[.agg cs.toArray] w (RetA w a)):ACalls P f [Cw a] (Qmf a):=by
 refine ⟨hok,λw _ F vals hF hall=> ?_⟩;cases hall with
 | cons h2 h3=>
   cases h3
   have hw:=Qd4 h2;obtain ⟨cs,rfl,hr⟩:=NN h2;refine (h w cs hr).mono ?_
   rintro e w' ⟨cs',L,rfl,hb,ho,hL⟩
   have hlt:=GoD.own_lt ho;obtain ⟨Lf,q1,q2,q3,q4⟩:=TX 0 (GoE.own_oc ho hw) (GoD.own_nd ho);exact ⟨_,Lf,rfl,hb,q2,λk b hk=>⟨hL b (q3 k b hk),hlt b (q3 k b hk)⟩,q4,cs',rfl,q1 _ λ_ _=>rfl⟩
theorem TZ (hok:It P f) {l:List α} (h:∀w (v:Value),rd w [v] l->Calls P f #[v] w (RetS w l)):ACalls P f [OT l] (Qhw l):=Ge hok (λw v hr _=>h w v hr) id
end
def Qke (P:Program) (f:Nat) {α:Type} [GoE α] (a:α) (K:Int) (r:α×Nat):Prop:=It P f/\∀(w:World) (L:List Nat) (cs:List Value),own L w cs a->Calls P f #[.agg cs.toArray,.int .i64 K] w (Mf L w cs r)
def Qlk (P:Program) (f:Nat) {α:Type} [GoE α] (l:List α) (K:Int) (r:List α×Nat):Prop:=It P f/\∀(w:World) (L:List Nat) (v:Value),own L w [v] l->Calls P f #[v,.int .i64 K] w (Mf L w [v] r)
def nmC:List Nat->List PV->Option (List C)
 | [], []=>some []
 | _, []=>none
 | k::ks,.slc n l::r=>(nmC ks r).map (C.slc (.own true k) n l:: ·)
 | [],.slc _ _::_=>none
 | ks,.int a b::r=>(nmC ks r).map (C.int a b:: ·)
 | ks,.bool b::r=>(nmC ks r).map (C.bool b:: ·)
 | ks,.str s::r=>(nmC ks r).map (C.str s:: ·)
 | [],.any::_=>none
 | _::_,.any::_=>none
theorem Qd5 {J:Inj} {w:World} (hd:∀k k' b,b∈J.L k->b∈J.L k'->k=k'):∀{ps:List PV} {ks:List Nat} {cs:List C} {vs:List Value},nmC ks ps=some cs->ks.Nodup->All2 (CR J w) vs cs->∃L,OC w L vs ps/\L.Nodup/\∀b,b∈L->∃k,k∈ks/\b∈J.L k
 | [], [],cs,vs,h,_,ha=>by
   obtain rfl: []=cs:=by simpa [nmC] using h
   cases ha
   exact ⟨[],.nil,zQ,λ_ h=>by simp at h⟩
 | [],k::ks,cs,vs,h,_,ha=>by simp[nmC] at h
 | .int a b::ps,ks,cs,vs,h,hn,ha=>by
   have h:(nmC ks ps).map (C.int a b:: ·)=some cs:=by cases ks<;>exact h
   obtain ⟨cs',h',rfl⟩:=zP.1 h;cases ha with
   | cons h1 h2=>obtain ⟨rfl,h1⟩:=h1;obtain ⟨L,q1,q2,q3⟩:=Qd5 hd h' hn h2;exact ⟨L,OC.cons (L1:= []) (.int h1) q1,q2,q3⟩
 | .bool b::ps,ks,cs,vs,h,hn,ha=>by
   have h:(nmC ks ps).map (C.bool b:: ·)=some cs:=by cases ks<;>exact h
   obtain ⟨cs',h',rfl⟩:=zP.1 h;cases ha with
   | cons h1 h2=>obtain rfl:=h1;obtain ⟨L,q1,q2,q3⟩:=Qd5 hd h' hn h2;exact ⟨L,OC.cons (L1:= []) (.bool _) q1,q2,q3⟩
 | .str s::ps,ks,cs,vs,h,hn,ha=>by
   have h:(nmC ks ps).map (C.str s:: ·)=some cs:=by cases ks<;>exact h
   obtain ⟨cs',h',rfl⟩:=zP.1 h;cases ha with
   | cons h1 h2=>obtain ⟨rfl,h1⟩:=h1;obtain ⟨L,q1,q2,q3⟩:=Qd5 hd h' hn h2;exact ⟨L,OC.cons (L1:= []) (.str h1) q1,q2,q3⟩
 | .slc n l::ps, [],cs,vs,h,_,ha=>by simp[nmC] at h
 | .any::ps, [],cs,vs,h,_,ha=>by simp[nmC] at h
 | .any::ps,k::ks,cs,vs,h,_,ha=>by simp[nmC] at h
 | .slc n l::ps,k::ks,cs,vs,h,hn,ha=>by
   simp only[nmC] at h;obtain ⟨cs',h',rfl⟩:=zP.1 h;obtain ⟨hk,hn⟩:=List.nodup_cons.1 hn;cases ha with
   | cons h1 h2=>
     obtain ⟨L,q1,q2,q3⟩:=Qd5 hd h' hn h2;obtain ⟨L0,a1,a2,a3,_⟩:=h1;refine ⟨L0++L,OC.cons a1 q1,List.nodup_append.2 ⟨a2,q2,λb hb b' hb' e=> ?_⟩,λb hb=> ?_⟩
     . subst e;obtain ⟨k',hk',hm⟩:=q3 b hb';exact hk (hd _ _ b (a3 b hb) hm▸hk')
     rcases zG.1 hb with hb | hb
     . exact ⟨k,List.mem_cons_self,a3 b hb⟩
     obtain ⟨k',hk',hm⟩:=q3 b hb;exact ⟨k',zU _ hk',hm⟩
section
variable {P:Program} {N:Nat} {w0:Base} {F0:Nat->Prop} {J:Inj} {a:Act} {w w':World} {s:St}
theorem Rel.mark (h:Rel N w0 F0 J a w s) (ks:List Nat) {L:List Nat} (hL:∀b,b∈L->∃k,k∈ks/\b∈J.L k) (hc:Chg L w w') (d:Nat) (hd:d<N) (n:Int) (hn:InR .i64 n) (bx:Option (Nat×List C))
 (hb:∀k c,bx=some (k,c)->∃c0,get s.bx k=some c0/\∃arr e,w.heap[J.B k]? =some (.cells arr e (0,0))/\∀J':Inj,(∀b,J'.F b↔J.F b\/b∈L)->All2 (CR J' w') arr.toList c):
 ∃J',(∀b,J'.F b↔J.F b\/b∈L)/\(∀k,J'.B k=J.B k)/\Rel N w0 F0 J' (a.put (some d) (.int .i64 n)) w' (s.step (some d) ⟨.one (.int .i64 n),Wa ks,none,bx⟩):=by
 let J':Inj:=⟨λb=>J.F b\/b∈L,λk=>if k∈ks then [] else J.L k,J.B⟩
 have hlo:∀b,b∈L->w0.lo (b)/\b<w.heap.size/\¬J.F b:=λb hb=>by
  obtain ⟨k,_,hm⟩:=hL b hb;exact h.lo k b hm
 have hun:∀b,b<w.heap.size->b∉L->w'.heap[b]? =w.heap[b]? :=hc.block
 have hJL:∀k b,b∈J'.L k->k∉ks/\b∈J.L k:=λk b hm=>by
  have hm:b∈(if k∈ks then [] else J.L k):=hm;split at hm
  . simp at hm
  rename_i hk;exact ⟨hk,hm⟩
 have hout:∀k b,k∉ks->b∈J.L k->b∉L:=λk b hk hm hl=>by
  obtain ⟨k',hk',hm'⟩:=hL b hl;exact hk (h.dj k k' b hm hm'▸hk')
 have hboxL:∀k c,get s.bx k=some c->J.B k∉L:=λk c hk hl=>by
  obtain ⟨k',_,hm⟩:=hL _ hl;exact (h.bo k c hk).2.2.1 k' hm
 refine ⟨J',λb=>Iff.rfl,λ_=>rfl, ?_⟩;refine h.upd (w':=w') (J':=J') (some d) (λd' e=>by cases e;exact hd) _ _ (h.below.step hc.os hc.tape hc.output hc.size λb hb hnl=>hun b hb λhl=>hnl (hlo b hl).1) ?_ ?_ (λ_=>⟨rfl,hn⟩) ?_ ?_
 . constructor
   . exact λb hb=>⟨.inl hb,hun b (h.fl b hb).1 λhl=>(hlo b hl).2.2 hb⟩
   . intro k hk;rw[Bl] at hk;split at hk
     . cases hk
     rename_i hn;exact ⟨if_neg hn,λb hb=>hun b (h.lo k b hb).2.1 (hout k b hn hb)⟩
   . intro k hk;rw[Bl] at hk;split at hk<;>cases hk
   . intro k k' hk;rw[Bl] at hk;split at hk<;>cases hk
   . intro k t hk;rw[Bl] at hk;split at hk<;>cases hk
   . exact λ_ _=>rfl
   intro k d m i o cs hk;rw[Bl] at hk;split at hk<;>cases hk
 . constructor
   . intro b hb;rcases hb with hb | hb
     . exact ⟨zR (h.fl b hb).1 hc.size,(h.fl b hb).2⟩
     exact ⟨zR (hlo b hb).2.1 hc.size,.inr (hlo b hb).1⟩
   . exact λb hb=> .inl (h.f0 b hb)
   . intro k;show (if _ then _ else _:List Nat).Nodup;split
     . exact zQ
     exact h.nd k
   . intro k b hm;obtain ⟨hk,hm⟩:=hJL k b hm;obtain ⟨h1,h2,h3⟩:=h.lo k b hm;exact ⟨h1,zR h2 hc.size,λhF=>hF.elim h3 (hout k b hk hm)⟩
   intro k k' b hm hm';exact h.dj k k' b (hJL k b hm).2 (hJL k' b hm').2
 . intro k c hk _;obtain ⟨h1,h2,h3,arr,e,h4,_⟩:=h.bo k c hk;refine ⟨by simp,λhF=>hF.elim h2 (hboxL k c hk),λk' hm=>h3 k' (hJL k' _ hm).2,hun _ ?_ (hboxL k c hk)⟩;exact Q7 h4
 intro k c hk;obtain ⟨c0,hg,arr,e,hh,hall⟩:=hb k c hk;obtain ⟨h1,h2,h3,arr',e',h4,_⟩:=h.bo k c0 hg;have hlt:J.B k<w.heap.size:=Q7 h4;exact ⟨h1,λhF=>hF.elim h2 (hboxL k c0 hg),λk' hm=>h3 k' (hJL k' _ hm).2,⟨arr,e,(hun _ hlt (hboxL k c0 hg)).trans hh,hall J' λ_=>Iff.rfl⟩,λk' c' hk' hne e=>hne (h.bi k' k c' c0 hk' hg e)⟩
theorem Rel.settm (h:Rel N w0 F0 J a w s) (t:Nat) (av:AV) (hv:AR J w (a.tmps.getD t undef) av):Rel N w0 F0 J a w ⟨ins t av s.tm,s.bx⟩:=by
 refine {h with tm:=λu v hu=> ?_};simp only[Pu] at hu;split at hu
 . rename_i e;subst e;cases hu;exact hv
 exact h.tm u v hu
theorem NO {ti:TI} {t:Nat} (hti:TiOk P t ti) {vs:List Value} (hag:ti.agg=true) (hl:vs.length=ti.size) {b off:Nat} (hc:∀(j:Nat) (u:Value),vs[j]? =some u->w.cell? ⟨b,off+j,none⟩=some u):(loadVar t ⟨b,off,none⟩).run P w= .ok (.agg vs.toArray) w:=by
 obtain ⟨d,hd,hagg⟩:=hti.agg;have hld:=run_loadCells_list (P:=P) w ⟨b,off,none⟩ vs (λj u hj=>by rw[Addr.add_lit];exact hc j u hj);rw[hl] at hld;simp[loadVar,Cb hd,hagg,hag,Ae hti,hld]
theorem B8 {a:Act} {t u:Nat} {v:Value} (ht:t<a.tmps.size):(a.put (some t) v).tmps.getD u undef=if u=t then v else a.tmps.getD u undef:=by
 simp only[Act.put,Array.getD_eq_getD_getElem?,Array.getElem?_setIfInBounds];by_cases h:u=t
 . subst h;simp[ht]
 simp[h,Ne.symm h]
end
class GoM (α:Type) [GoE α]:Prop where
 mkw:∀{a:α} {k:Nat},wide a->wide (GoD.mark a k).1
 mkT:∀{a:α} {k:Nat},wide a->wide (GoD.markT a k).1
instance:GoM Int:=⟨λ_=>trivial,λ_=>trivial⟩
instance:GoM Bool:=⟨λ_=>trivial,λ_=>trivial⟩
instance:GoM ByteArray:=⟨λ_=>trivial,λ_=>trivial⟩
instance {α β:Type} [GoE α] [GoE β] [GoM α] [GoM β]:GoM (α×β):=⟨λh=>⟨GoM.mkw h.1,GoM.mkw h.2⟩,λh=>⟨GoM.mkT h.1,GoM.mkT h.2⟩⟩
theorem YV {α:Type} [GoE α] [GoM α]:∀{l:List α} {k:Nat},(∀a,a∈l->wide a)->∀a,a∈(Qx l k).1->wide a
 | [],k,_,a,ha=>by simp[Qx] at ha
 | x::l,k,h,a,ha=>by
   simp only[Qx,List.mem_cons] at ha;rcases ha with rfl | ha
   . exact GoM.mkw (h x List.mem_cons_self)
   exact YV (λa ha=>h a (zU _ ha)) a ha
instance {α:Type} [GoE α] [GoM α]:GoM (List α):=⟨λ{l k} h=>⟨by rw[show (GoD.mark l k).1=(Qx l k).1 from rfl,Oh];exact h.1,YV h.2⟩,λ{l k} h=>⟨by rw[show (GoD.markT l k).1=(Qx l k).1 from rfl,Oh];exact h.1,YV h.2⟩⟩
section
variable {P:Program} {N:Nat} {w0:Base} {F0:Nat->Prop} {s s':St} {Q:Exit->St->Prop}
theorem Ib {ops:Array Oper} {Q:Exit->Act->World->Prop} {i:Nat} {rest:List Nat} {o:Oper} {a:Act} {w:World} (hi:ops[i]? =some o) (hg:o.guard=none) (h:o.wp P a w (wpOps P ops Q rest) Q):wpOps P ops Q (i::rest) a w:=by
 rw[wpOps_cons];unfold wpOp;simp only[hi];rw[if_pos (by simp[Region.wanted,hg])];exact .inl h
theorem Ox {a:Act} {t:Nat} {v:Value}:(a.put (some t) v).tmps.size=a.tmps.size:=by simp[Act.put]
def XK (N x y d z p kv:Nat):Bool:=Nat.blt x N&&Nat.blt y N&&Nat.blt d N&&Nat.blt z N&& !zS kv x&& !zS x y&& !zS p x
theorem E4 {a b:Nat} (h:(!zS a b)=true):a≠b:=λe=>by subst e;simp at h
theorem IQ {tt:List (Nat×TI)} (htt:Gs P tt=true) {α:Type} [GoE α] [GoM α] {a:α} {K:Int} {r:α×Nat} {f:Nat} (hm:Qke P f a K r) (hr:InR .i64 (r.2:Int)) (hrw:wide a->wide r.1) (ks:List Nat) {id x y d z p q kv t:Nat} {o0 o1 o2 o3:Oper} {tys:Array TypeId} {ti:TI} {cs:List C} (ts bs:List Nat)
 (p0:o0.op= .load t (.tmp p)) (d0:o0.dst=some x) (g0:o0.guard=none) (p1:o1.op= .move (.tmp kv)) (d1:o1.dst=some y) (g1:o1.guard=none)
 (p2:o2.op= .call ⟨.value (.func f), #[.tmp x,.tmp y],tys⟩) (d2:o2.dst=some d) (g2:o2.guard=none) (p3:o3.op= .assign (.tmp d)) (d3:o3.dst=some z) (g3:o3.guard=none) (hN:XK N x y d z p kv=true)
 (ht:get tt t=some ti) (hag:ti.agg=true) (hsz:zS ti.size (enc a).length=true) (hp:get s.tm p=some (.one (.ptr q 0))) (hb:get s.bx q=some cs) (hcs:nmC ks (enc a)=some cs) (hks:G4 ks=true) (hk:get s.tm kv=some (.one (.int .i64 K)))
 (hs:((((s.step (some x) ⟨.one .dead, [],none,none⟩).step (some y) ⟨.one .dead, [],none,none⟩).step (some d) ⟨.one (.int .i64 (r.2:Int)),Wa ks,none,some (q,(enc r.1).map shC)⟩).step (some z) ⟨.one (.int .i64 (r.2:Int)), [],none,none⟩).keep ts bs=s')
 (hQ:Q .normal s'):AWP P N w0 F0 (.region id #[o0,o1,o2,o3] false) Q s:=λJ ac w hr0=>by
 simp only[XK,Bool.and_eq_true,Nat.blt_eq] at hN;obtain ⟨⟨⟨⟨⟨⟨n1,n2⟩,n3⟩,n4⟩,n5⟩,n6⟩,n7⟩:=hN;have n5:=E4 n5;have n6:=E4 n6;obtain ⟨_,_,_,arr,e,hheap,hall⟩:=hr0.bo q cs hb;have hpv:ac.tmps.getD p undef= .pointer (some ⟨J.B q,0,none⟩):=hr0.tm p _ hp;obtain ⟨hkv,hKr⟩:ac.tmps.getD kv undef= .int .i64 K/\InR .i64 K:=hr0.tm kv _ hk;obtain ⟨L,hoc,hnd,hsub⟩:=Qd5 hr0.dj hcs (Lg.1 hks) hall;have hown:own L w arr.toList a:=GoE.oc_own hoc hnd;have hwa:wide a:=GoE.vc_wide (hoc.vc (X:=λb=>b∈L) λ_ h=>h);have hlen:arr.toList.length=ti.size:=by rw[hoc.length];exact (Nat.eq_of_beq_eq_true hsz).symm
 have hld:(loadVar t ⟨J.B q,0,none⟩).run P w= .ok (.agg arr) w:=by
  have:=NO (P:=P) (w:=w) (Zp htt ht) hag hlen (b:=J.B q) (off:=0) (λj u hj=>by
   rw[Array.getElem?_toList] at hj;simp[World.cell?,hheap,hj])
  simpa using this
 have hsx:x<ac.tmps.size:=by rw[hr0.size];exact n1
 have hsy:y<(ac.put (some x) (.agg arr)).tmps.size:=by rw[Ox,hr0.size];exact n2
 have R1:=hr0.pure (some x) (λd' e=>by cases e;exact n1) (.one .dead) (.agg arr) (λ_=>trivial);have R2:=R1.pure (some y) (λd' e=>by cases e;exact n2) (.one .dead) (.int .i64 K) (λ_=>trivial);refine wp_region ?_;show wpOps P _ _ [0,1,2,3] ac w;refine Ib (o:=o0) rfl g0 (Vu (v:= .agg arr) (w':=w) ?_ ?_)
 . have e1:ac.eval (.tmp p)= .pointer (some ⟨J.B q,0,none⟩):=hpv;simp[execOp,p0,e1,Instr.loadAt,Instr.sureAddr,hld]
 rw[d0];refine Ib (o:=o1) rfl g1 (Vu (v:= .int .i64 K) (w':=w) ?_ ?_)
 . have e1:(ac.put (some x) (.agg arr)).eval (.tmp kv)= .int .i64 K:=(B8 hsx).trans ((if_neg n5).trans hkv);simp[execOp,p1,e1]
 rw[d1];refine Ib (o:=o2) rfl g2 (Iy (caps:= #[]) p2 rfl hm.1 ?_);have ex:((ac.put (some x) (.agg arr)).put (some y) (.int .i64 K)).eval (.tmp x)= .agg arr:=(B8 hsy).trans ((if_neg n6).trans ((B8 hsx).trans (if_pos rfl)));have ey:((ac.put (some x) (.agg arr)).put (some y) (.int .i64 K)).eval (.tmp y)= .int .i64 K:=(B8 hsy).trans (if_pos rfl);have hargs:(#[Operand.tmp x,Operand.tmp y].map ((ac.put (some x) (.agg arr)).put (some y) (.int .i64 K)).eval++ #[])= #[.agg arr.toList.toArray,.int .i64 K]:=by simp[ex,ey]
 rw[hargs];refine (hm.2 w L arr.toList hown).mono ?_
 rintro en w' ⟨rfl,ho,hc⟩
 have hwr:=hrw hwa
 obtain ⟨J',hF,hB,R3⟩:=R2.mark ks hsub hc d n3 (r.2:Int) hr (some (q,(enc r.1).map shC)) (λk c hk=>by
  cases hk
  refine ⟨cs,hb,arr,e,hheap,λJ' hF=> ?_⟩;exact Qbt ((GoE.own_oc ho hwr).vc λb hb=>(hF b).2 (.inr hb)))
 have R4:=R3.pure (some z) (λd' e=>by cases e;exact n4) (.one (.int .i64 (r.2:Int))) (.int .i64 (r.2:Int)) (λ_=>⟨rfl,hr⟩);rw[d2];refine Ib (o:=o3) rfl g3 (Vu (v:= .int .i64 (r.2:Int)) (w':=w') ?_ ?_)
 . have hsd:d<((ac.put (some x) (.agg arr)).put (some y) (.int .i64 K)).tmps.size:=by rw[Ox,Ox,hr0.size];exact n3
   have e1:(((ac.put (some x) (.agg arr)).put (some y) (.int .i64 K)).put (some d) (.int .i64 (r.2:Int))).eval (.tmp d)= .int .i64 (r.2:Int):=(B8 hsd).trans (if_pos rfl);simp[execOp,p3,e1]
 rw[d3];subst hs;exact ⟨J',_,R4.less (λt v hv=>Dz hv) (λk c hc=>Dz hc),hQ⟩
theorem Qd6 {α:Type} [GoE α] [GoM α] {l:List α} {K:Int} {r:List α×Nat} {f:Nat} (hm:Qlk P f l K r) (hr:InR .i64 (r.2:Int)) (hrw:wide l->wide r.1) (k0:Nat) {id x y d z p kv:Nat} {o0 o1 o2 o3:Oper} {tys:Array TypeId} (ts bs:List Nat)
 (p0:o0.op= .move (.tmp p)) (d0:o0.dst=some x) (g0:o0.guard=none) (p1:o1.op= .move (.tmp kv)) (d1:o1.dst=some y) (g1:o1.guard=none)
 (p2:o2.op= .call ⟨.value (.func f), #[.tmp x,.tmp y],tys⟩) (d2:o2.dst=some d) (g2:o2.guard=none) (p3:o3.op= .assign (.tmp d)) (d3:o3.dst=some z) (g3:o3.guard=none) (hN:XK N x y d z p kv=true) (hN2:(!zS p y&& !zS p d&& !zS p z)=true)
 (hp:get s.tm p=some (.one (.slc (.own true k0) (GoD.n α) (eL l)))) (hk:get s.tm kv=some (.one (.int .i64 K)))
 (hs:(St.mk (ins p (.one (.slc .sh (GoD.n α) (eL r.1))) ((((s.step (some x) ⟨.one .dead, [],none,none⟩).step (some y) ⟨.one .dead, [],none,none⟩).step (some d) ⟨.one (.int .i64 (r.2:Int)),Wa [k0],none,none⟩).step (some z) ⟨.one (.int .i64 (r.2:Int)), [],none,none⟩).tm) ((((s.step (some x) ⟨.one .dead, [],none,none⟩).step (some y) ⟨.one .dead, [],none,none⟩).step (some d) ⟨.one (.int .i64 (r.2:Int)),Wa [k0],none,none⟩).step (some z) ⟨.one (.int .i64 (r.2:Int)), [],none,none⟩).bx).keep ts bs=s')
 (hQ:Q .normal s'):AWP P N w0 F0 (.region id #[o0,o1,o2,o3] false) Q s:=λJ ac w hr0=>by
 simp only[XK,Bool.and_eq_true,Nat.blt_eq] at hN hN2;obtain ⟨⟨⟨⟨⟨⟨n1,n2⟩,n3⟩,n4⟩,n5⟩,n6⟩,n7⟩:=hN;have n5:=E4 n5;have n6:=E4 n6;have n7:=E4 n7;have m1:=E4 hN2.1.1;have m2:=E4 hN2.1.2;have m3:=E4 hN2.2;have hpv:CR J w (ac.tmps.getD p undef) (.slc (.own true k0) (GoD.n α) (eL l)):=hr0.tm p _ hp;generalize hv:ac.tmps.getD p undef=v at hpv;obtain ⟨hkv,hKr⟩:ac.tmps.getD kv undef= .int .i64 K/\InR .i64 K:=hr0.tm kv _ hk;obtain ⟨L,hov,hnd,hsub,_⟩:=hpv;have hown:own L w [v] l:=Qbs hov hnd;have hwl:wide l:=P0 (hov.vv (X:=λb=>b∈L) λ_ h=>h);have hsx:x<ac.tmps.size:=by rw[hr0.size];exact n1
 have hsy:y<(ac.put (some x) v).tmps.size:=by rw[Ox,hr0.size];exact n2
 have R1:=hr0.pure (some x) (λd' e=>by cases e;exact n1) (.one .dead) v (λ_=>trivial);have R2:=R1.pure (some y) (λd' e=>by cases e;exact n2) (.one .dead) (.int .i64 K) (λ_=>trivial);refine wp_region ?_;show wpOps P _ _ [0,1,2,3] ac w;refine Ib (o:=o0) rfl g0 (Vu (v:=v) (w':=w) ?_ ?_)
 . have e1:ac.eval (.tmp p)=v:=hv;simp[execOp,p0,e1]
 rw[d0];refine Ib (o:=o1) rfl g1 (Vu (v:= .int .i64 K) (w':=w) ?_ ?_)
 . have e1:(ac.put (some x) v).eval (.tmp kv)= .int .i64 K:=(B8 hsx).trans ((if_neg n5).trans hkv);simp[execOp,p1,e1]
 rw[d1];refine Ib (o:=o2) rfl g2 (Iy (caps:= #[]) p2 rfl hm.1 ?_);have ex:((ac.put (some x) v).put (some y) (.int .i64 K)).eval (.tmp x)=v:=(B8 hsy).trans ((if_neg n6).trans ((B8 hsx).trans (if_pos rfl)));have ey:((ac.put (some x) v).put (some y) (.int .i64 K)).eval (.tmp y)= .int .i64 K:=(B8 hsy).trans (if_pos rfl);have hargs:(#[Operand.tmp x,Operand.tmp y].map ((ac.put (some x) v).put (some y) (.int .i64 K)).eval++ #[])= #[v,.int .i64 K]:=by simp[ex,ey]
 rw[hargs];refine (hm.2 w L v hown).mono ?_
 rintro en w' ⟨rfl,ho,hc⟩
 have hwr:=hrw hwl;obtain ⟨J',hF,hB,R3⟩:=R2.mark [k0] (λb hb=>⟨k0,by simp,hsub b hb⟩) hc d n3 (r.2:Int) hr none (λk c hk=>by cases hk);have R4:=R3.pure (some z) (λd' e=>by cases e;exact n4) (.one (.int .i64 (r.2:Int))) (.int .i64 (r.2:Int)) (λ_=>⟨rfl,hr⟩);have hsd:d<((ac.put (some x) v).put (some y) (.int .i64 K)).tmps.size:=by rw[Ox,Ox,hr0.size];exact n3
 rw[d2];refine Ib (o:=o3) rfl g3 (Vu (v:= .int .i64 (r.2:Int)) (w':=w') ?_ ?_)
 . have e1:(((ac.put (some x) v).put (some y) (.int .i64 K)).put (some d) (.int .i64 (r.2:Int))).eval (.tmp d)= .int .i64 (r.2:Int):=(B8 hsd).trans (if_pos rfl);simp[execOp,p3,e1]
 rw[d3];have hsz':z<(((ac.put (some x) v).put (some y) (.int .i64 K)).put (some d) (.int .i64 (r.2:Int))).tmps.size:=by rw[Ox,Ox,Ox,hr0.size];exact n4
 have ep:((((ac.put (some x) v).put (some y) (.int .i64 K)).put (some d) (.int .i64 (r.2:Int))).put (some z) (.int .i64 (r.2:Int))).tmps.getD p undef=v:=by
  rw[B8 hsz',if_neg m3,B8 hsd,if_neg m2,B8 hsy,if_neg m1,B8 hsx,if_neg n7,hv]
 have hvv:VV J'.F w' v (.slc (GoD.n α) (eL r.1)):=by
  have:=(GoE.own_oc ho hwr).vc (X:=J'.F) λb hb=>(hF b).2 (.inr hb)
  exact VC.one this
 have R5:=R4.settm p (.one (.slc .sh (GoD.n α) (eL r.1))) (by rw[ep];exact hvv);subst hs;exact ⟨J',_,R5.less (λt v hv=>Dz hv) (λk c hc=>Dz hc),hQ⟩
end
end
section
open Go.RowKit
open GoD (rd own)
set_option maxRecDepth 100000
set_option maxHeartbeats 1000000
theorem cBz {w v:World} {a:Addr} {x:Value} (hB:Below w.heap.size w v) (h:w.cell? a=some x):v.cell? a=some x:=(hB.cell (World.block_lt_of_cell? w _ h)).trans h
theorem zSz:(∀(w:World) o,(w.alloc o).heap.size=w.heap.size+1)/\(∀(w:World) a v,(w.setCell a v).heap.size=w.heap.size)/\∀w:World,w.drew.heap.size=w.heap.size:=⟨λ_ _=>World.size_alloc ..,λ_ _ _=>World.size_setCell ..,λ_=>rfl⟩
abbrev zI {α:Type} [GoD α] (l:List α) (left:Int) (w:World) (q i:Value) (wr:World):Prop:=∃(k:Nat) (r:Int),k<=l.length/\i= .int .i64 k/\q= .int .i64 r/\0<=r/\r<=1048576/\Hid (r=left-l.length-((l.take k).map GoD.size).sum)/\Below w.heap.size w wr
theorem XL (w:World) (v:Value) (l:List Int) (left:Int) (ha:rd w [v] l) (h0:0<=left) (h1:left<=1048576):Calls Tryz.prog 21 #[v,.int .i64 left] w (E5 w (GoD.size l) left):=by
 obtain ⟨oa,cap,e1,hl,hm,hel⟩:=ha;obtain rfl:v=_:=by simpa using e1
 clear e1;have HE:=Lib.hid hel;clear hel;unfold maxLen at hm;have hlm:l.length<=9223372036854775807:=by omega
 have hsz:GoD.size l=l.length+(l.map GoD.size).sum:=rfl;have HSZ:=Lib.hid hsz;clear hsz;have hz0:(l.map GoD.size).sum=0:=Qe1 l (λ_=>rfl);have HZ0:=Lib.hid hz0;clear hz0;go_enter Tryz.func21,Tryz.ntmps21
 go_wp2
 all_goals
  go_ret
  refine ⟨_,rfl, ?_,by go_grown⟩;rw[HSZ.out,HZ0.out];unfold szq;go_light
  omega
theorem Qd7 (w:World) (ca:List Value) (a:Nm) (left:Int) (ha:rd w ca a) (h0:0<=left) (h1:left<=1048576):Calls Tryz.prog 145 #[.agg ca.toArray,.int .i64 left] w (E5 w (GoD.size a) left):=by
 obtain ⟨a1,a2,a3⟩:=a;obtain ⟨ac1,at1,rfl,ar1,ac2,at2,rfl,ar2,ar3⟩:=ha;obtain ⟨rfl,ar1⟩:=ar1;obtain ⟨ax2_0,rfl⟩:=Bf (show _=1 from GoD.rd_len ar2);obtain ⟨ax3_0,rfl⟩:=Bf (show _=1 from GoD.rd_len ar3);dsimp only[zF,zD] at*;clear ar1;have AR2H:=Lib.hid ar2;clear ar2;have AR3H:=Lib.hid ar3;clear ar3;have tok1:True:=trivial;have tok2:True:=trivial;have hsz:GoD.size (a1,a2,a3)=(0+(GoD.size a2+GoD.size a3)):=rfl;have HSZ:=Lib.hid hsz;clear hsz;go_enter Tryz.func145,Tryz.ntmps145
 go_wp2_with (first | (go_at_call 21;have tk:=tok1;clear tok1;refine Vd (w:=w) (XL _ ax2_0 a2 _ (Xw AR2H.out (by go_grown)) (by omega) (by omega)) (by go_grown) ?_;intro w1 r1 hB hb hz hz2 hr hs;have HR1:=Lib.hid hr;clear hr;(try simp only[zSz] at hz2);have c0:=λo=>Z0 hb (w.heap.size) o (by go_size);clear hb) | (go_at_call 21;have tk:=tok2;clear tok2;refine Vd (w:=w) (XL _ ax3_0 a3 _ (Xw AR3H.out (by go_grown)) (by omega) (by omega)) (by go_grown) ?_;intro w2 r2 hB hb hz hz2 hr hs;have HR2:=Lib.hid hr;clear hr;(try simp only[zSz] at hz2);have c0:=λo=>Z0 hb (w.heap.size) o (by go_size);clear hb))
 all_goals
  go_ret
  refine ⟨_,rfl, ?_,by go_grown⟩;rw[HSZ.out];unfold szq
  (try have u1:=HR1.out)
  (try have u2:=HR2.out)
  (try unfold szq at*)
  go_light
  omega
theorem Qd8 (w:World) (ca:List Value) (a:Km) (left:Int) (ha:rd w ca a) (h0:0<=left) (h1:left<=1048576):Calls Tryz.prog 144 #[.agg ca.toArray,.int .i64 left] w (E5 w (GoD.size a) left):=by
 obtain ⟨a1,a2⟩:=a;obtain ⟨ac1,at1,rfl,ar1,ar2⟩:=ha;obtain ⟨rfl,ar1⟩:=ar1;obtain ⟨rfl,ar2⟩:=ar2;dsimp only[zF,zD] at*;unfold maxLen at ar1;have ar1:a1.size<=9223372036854775807:=by omega
 clear ar2;have hsz:GoD.size (a1,a2)=(a1.size+0):=rfl;have HSZ:=Lib.hid hsz;clear hsz;go_enter Tryz.func144,Tryz.ntmps144
 go_wp2
 all_goals
  go_ret
  refine ⟨_,rfl, ?_,by go_grown⟩;rw[HSZ.out];unfold szq
  (try unfold szq at*)
  go_light
  omega
theorem Qaa (w:World) (v:Value) (l:List Km) (left:Int) (ha:rd w [v] l) (h0:0<=left) (h1:left<=1048576):Calls Tryz.prog 88 #[v,.int .i64 left] w (E5 w (GoD.size l) left):=by
 obtain ⟨oa,cap,e1,hl,hm,hel⟩:=ha;obtain rfl:v=_:=by simpa using e1
 clear e1;have HE:=Lib.hid hel;clear hel;unfold maxLen at hm;have hlm:l.length<=9223372036854775807:=by omega
 have hsz:GoD.size l=l.length+(l.map GoD.size).sum:=rfl;have HSZ:=Lib.hid hsz;clear hsz;by_cases hneg:left-l.length<0
 . go_enter Tryz.func88,Tryz.ntmps88
   go_wp2
   go_ret
   refine ⟨_,rfl, ?_,Below.refl _ _⟩;rw[HSZ.out];unfold szq;omega
 go_enter Tryz.func88,Tryz.ntmps88
 go_wp2
 go_loopw [1,5] (zI l left w) (λ_ i _=>l.length-(intOf i).toNat)
 case atStart=>exact ⟨0,_,zJ _,rfl,rfl,by omega,by omega,by show _=_;simp,Below.refl _ _⟩
 case round=>
  obtain ⟨k,r,hk,rfl,rfl,hr0,hr1,HR,hB⟩:=hrel;by_cases hkl:k<l.length
  . have hx:=zE hkl;obtain ⟨eb,eo,ee,rfl,hcl,hcc,hxr⟩:=HE.out k _ hx;have HT:=Lib.hid (E7 hx);have HU:=Lib.hid (Hw hx);clear hx;generalize l[k]=x at*;obtain ⟨x0,x1,rfl⟩:=YE (show _=2 from hcl);have p0:wr.cell? ⟨eb,eo+k*2,none⟩=some x0:=cBz hB (hcc 0 _ rfl);have p1:wr.cell? ⟨eb,eo+k*2+1,none⟩=some x1:=cBz hB (hcc 1 _ rfl);have HXR:=Lib.hid hxr;clear hxr hcc hcl;go_wp2_with (go_at_call 144;refine Vd (w:=w) (Qd8 _ [x0,x1] x _ (Xw HXR.out hB) (by omega) (by omega)) (by go_grown) ?_;intro w2 r2 hB2 hb hz hz2 hr2 hs;have HR2:=Lib.hid hr2;clear hr2 hb)
    . go_ret
      refine ⟨_,rfl, ?_,by go_grown⟩;have u1:=HU.out;have u2:=HR2.out;have u3:=HR.out;rw[HSZ.out];unfold szq at*;go_light
      omega
    go_roundw
    case rel=>exact ⟨k+1,_,by omega,by go_num,rfl,by omega,by omega,by
    show _=_;have u1:=HT.out;have u2:=HR2.out;have u3:=HR.out;unfold szq at*;rw[u1];omega,by go_grown⟩
    case measure=>simp[intOf];omega
  obtain rfl:k=l.length:=by omega
  go_wp2
  go_ret
  refine ⟨_,rfl, ?_,hB⟩;have u3:=HR.out;rw[zK] at u3;rw[HSZ.out];unfold szq;omega
theorem IR (w:World) (ca:List Value) (a:Dr) (left:Int) (ha:rd w ca a) (h0:0<=left) (h1:left<=1048576):Calls Tryz.prog 199 #[.agg ca.toArray,.int .i64 left] w (E5 w (GoD.size a) left):=by
 obtain ⟨a1,a2,a3⟩:=a;obtain ⟨ac1,at1,rfl,ar1,ac2,at2,rfl,ar2,ar3⟩:=ha;obtain ⟨rfl,ar1⟩:=ar1;obtain ⟨rfl,ar2⟩:=ar2;obtain ⟨rfl,ar3⟩:=ar3;dsimp only[zF,zD] at*;clear ar1;clear ar2;unfold maxLen at ar3;have ar3:a3.size<=9223372036854775807:=by omega
 have hsz:GoD.size (a1,a2,a3)=(0+(0+a3.size)):=rfl;have HSZ:=Lib.hid hsz;clear hsz;go_enter Tryz.func199,Tryz.ntmps199
 go_wp2
 all_goals
  go_ret
  refine ⟨_,rfl, ?_,by go_grown⟩;rw[HSZ.out];unfold szq
  (try unfold szq at*)
  go_light
  omega
theorem Qg6 (w:World) (ca:List Value) (a:Ee) (left:Int) (ha:rd w ca a) (h0:0<=left) (h1:left<=1048576):Calls Tryz.prog 146 #[.agg ca.toArray,.int .i64 left] w (E5 w (GoD.size a) left):=by
 obtain ⟨a1,a2⟩:=a;obtain ⟨ac1,at1,rfl,ar1,ar2⟩:=ha;obtain ⟨rfl,ar1⟩:=ar1;obtain ⟨ax2_0,ax2_1,ax2_2,rfl⟩:=SM (show _=3 from GoD.rd_len ar2);dsimp only[zF,zD] at*;unfold maxLen at ar1;have ar1:a1.size<=9223372036854775807:=by omega
 have AR2H:=Lib.hid ar2;clear ar2;have tok1:True:=trivial;have hsz:GoD.size (a1,a2)=(a1.size+GoD.size a2):=rfl;have HSZ:=Lib.hid hsz;clear hsz;go_enter Tryz.func146,Tryz.ntmps146
 go_wp2_with (first | (go_at_call 199;have tk:=tok1;clear tok1;refine Vd (w:=w) (IR _ [ax2_0,ax2_1,ax2_2] a2 _ (Xw AR2H.out (by go_grown)) (by omega) (by omega)) (by go_grown) ?_;intro w1 r1 hB hb hz hz2 hr hs;have HR1:=Lib.hid hr;clear hr;(try simp only[zSz] at hz2);have c0:=λo=>Z0 hb (w.heap.size) o (by go_size);clear hb))
 all_goals
  go_ret
  refine ⟨_,rfl, ?_,by go_grown⟩;rw[HSZ.out];unfold szq
  (try have u1:=HR1.out)
  (try unfold szq at*)
  go_light
  omega
theorem Qd9 (w:World) (v:Value) (l:List Ee) (left:Int) (ha:rd w [v] l) (h0:0<=left) (h1:left<=1048576):Calls Tryz.prog 93 #[v,.int .i64 left] w (E5 w (GoD.size l) left):=by
 obtain ⟨oa,cap,e1,hl,hm,hel⟩:=ha;obtain rfl:v=_:=by simpa using e1
 clear e1;have HE:=Lib.hid hel;clear hel;unfold maxLen at hm;have hlm:l.length<=9223372036854775807:=by omega
 have hsz:GoD.size l=l.length+(l.map GoD.size).sum:=rfl;have HSZ:=Lib.hid hsz;clear hsz;by_cases hneg:left-l.length<0
 . go_enter Tryz.func93,Tryz.ntmps93
   go_wp2
   go_ret
   refine ⟨_,rfl, ?_,Below.refl _ _⟩;rw[HSZ.out];unfold szq;omega
 go_enter Tryz.func93,Tryz.ntmps93
 go_wp2
 go_loopw [1,5] (zI l left w) (λ_ i _=>l.length-(intOf i).toNat)
 case atStart=>exact ⟨0,_,zJ _,rfl,rfl,by omega,by omega,by show _=_;simp,Below.refl _ _⟩
 case round=>
  obtain ⟨k,r,hk,rfl,rfl,hr0,hr1,HR,hB⟩:=hrel;by_cases hkl:k<l.length
  . have hx:=zE hkl;obtain ⟨eb,eo,ee,rfl,hcl,hcc,hxr⟩:=HE.out k _ hx;have HT:=Lib.hid (E7 hx);have HU:=Lib.hid (Hw hx);clear hx;generalize l[k]=x at*;obtain ⟨x0,x1,x2,x3,rfl⟩:=Qkq (show _=4 from hcl);have p0:wr.cell? ⟨eb,eo+k*4,none⟩=some x0:=cBz hB (hcc 0 _ rfl);have p1:wr.cell? ⟨eb,eo+k*4+1,none⟩=some x1:=cBz hB (hcc 1 _ rfl);have p2:wr.cell? ⟨eb,eo+k*4+2,none⟩=some x2:=cBz hB (hcc 2 _ rfl);have p3:wr.cell? ⟨eb,eo+k*4+3,none⟩=some x3:=cBz hB (hcc 3 _ rfl);have HXR:=Lib.hid hxr;clear hxr hcc hcl;go_wp2_with (go_at_call 146;refine Vd (w:=w) (Qg6 _ [x0,x1,x2,x3] x _ (Xw HXR.out hB) (by omega) (by omega)) (by go_grown) ?_;intro w2 r2 hB2 hb hz hz2 hr2 hs;have HR2:=Lib.hid hr2;clear hr2 hb)
    . go_ret
      refine ⟨_,rfl, ?_,by go_grown⟩;have u1:=HU.out;have u2:=HR2.out;have u3:=HR.out;rw[HSZ.out];unfold szq at*;go_light
      omega
    go_roundw
    case rel=>exact ⟨k+1,_,by omega,by go_num,rfl,by omega,by omega,by
    show _=_;have u1:=HT.out;have u2:=HR2.out;have u3:=HR.out;unfold szq at*;rw[u1];omega,by go_grown⟩
    case measure=>simp[intOf];omega
  obtain rfl:k=l.length:=by omega
  go_wp2
  go_ret
  refine ⟨_,rfl, ?_,hB⟩;have u3:=HR.out;rw[zK] at u3;rw[HSZ.out];unfold szq;omega
theorem RJ (w:World) (ca:List Value) (a:Xx) (left:Int) (ha:rd w ca a) (h0:0<=left) (h1:left<=1048576):Calls Tryz.prog 55 #[.agg ca.toArray,.int .i64 left] w (E5 w (GoD.size a) left):=by
 obtain ⟨a1,a2,a3,a4,a5⟩:=a;obtain ⟨ac1,at1,rfl,ar1,ac2,at2,rfl,ar2,ac3,at3,rfl,ar3,ac4,at4,rfl,ar4,ar5⟩:=ha;obtain ⟨rfl,ar1⟩:=ar1;obtain ⟨rfl,ar2⟩:=ar2;obtain rfl:=ar3;obtain ⟨rfl,ar4⟩:=ar4;obtain ⟨ax5_0,rfl⟩:=Bf (show _=1 from GoD.rd_len ar5);dsimp only[zF,zD] at*;clear ar1;clear ar2;clear ar4;have AR5H:=Lib.hid ar5;clear ar5;have tok1:True:=trivial;have hsz:GoD.size (a1,a2,a3,a4,a5)=(0+(0+(0+(0+GoD.size a5)))):=rfl;have HSZ:=Lib.hid hsz;clear hsz;go_enter Tryz.func55,Tryz.ntmps55
 go_wp2_with (first | (go_at_call 93;have tk:=tok1;clear tok1;refine Vd (w:=w) (Qd9 _ ax5_0 a5 _ (Xw AR5H.out (by go_grown)) (by omega) (by omega)) (by go_grown) ?_;intro w1 r1 hB hb hz hz2 hr hs;have HR1:=Lib.hid hr;clear hr;(try simp only[zSz] at hz2);have c0:=λo=>Z0 hb (w.heap.size) o (by go_size);clear hb))
 all_goals
  go_ret
  refine ⟨_,rfl, ?_,by go_grown⟩;rw[HSZ.out];unfold szq
  (try have u1:=HR1.out)
  (try unfold szq at*)
  go_light
  omega
theorem Qea (w:World) (v:Value) (l:List Xx) (left:Int) (ha:rd w [v] l) (h0:0<=left) (h1:left<=1048576):Calls Tryz.prog 89 #[v,.int .i64 left] w (E5 w (GoD.size l) left):=by
 obtain ⟨oa,cap,e1,hl,hm,hel⟩:=ha;obtain rfl:v=_:=by simpa using e1
 clear e1;have HE:=Lib.hid hel;clear hel;unfold maxLen at hm;have hlm:l.length<=9223372036854775807:=by omega
 have hsz:GoD.size l=l.length+(l.map GoD.size).sum:=rfl;have HSZ:=Lib.hid hsz;clear hsz;by_cases hneg:left-l.length<0
 . go_enter Tryz.func89,Tryz.ntmps89
   go_wp2
   go_ret
   refine ⟨_,rfl, ?_,Below.refl _ _⟩;rw[HSZ.out];unfold szq;omega
 go_enter Tryz.func89,Tryz.ntmps89
 go_wp2
 go_loopw [1,5] (zI l left w) (λ_ i _=>l.length-(intOf i).toNat)
 case atStart=>exact ⟨0,_,zJ _,rfl,rfl,by omega,by omega,by show _=_;simp,Below.refl _ _⟩
 case round=>
  obtain ⟨k,r,hk,rfl,rfl,hr0,hr1,HR,hB⟩:=hrel;by_cases hkl:k<l.length
  . have hx:=zE hkl;obtain ⟨eb,eo,ee,rfl,hcl,hcc,hxr⟩:=HE.out k _ hx;have HT:=Lib.hid (E7 hx);have HU:=Lib.hid (Hw hx);clear hx;generalize l[k]=x at*;obtain ⟨x0,x1,x2,x3,x4,rfl⟩:=Qjo (show _=5 from hcl);have p0:wr.cell? ⟨eb,eo+k*5,none⟩=some x0:=cBz hB (hcc 0 _ rfl);have p1:wr.cell? ⟨eb,eo+k*5+1,none⟩=some x1:=cBz hB (hcc 1 _ rfl);have p2:wr.cell? ⟨eb,eo+k*5+2,none⟩=some x2:=cBz hB (hcc 2 _ rfl);have p3:wr.cell? ⟨eb,eo+k*5+3,none⟩=some x3:=cBz hB (hcc 3 _ rfl);have p4:wr.cell? ⟨eb,eo+k*5+4,none⟩=some x4:=cBz hB (hcc 4 _ rfl);have HXR:=Lib.hid hxr;clear hxr hcc hcl;go_wp2_with (go_at_call 55;refine Vd (w:=w) (RJ _ [x0,x1,x2,x3,x4] x _ (Xw HXR.out hB) (by omega) (by omega)) (by go_grown) ?_;intro w2 r2 hB2 hb hz hz2 hr2 hs;have HR2:=Lib.hid hr2;clear hr2 hb)
    . go_ret
      refine ⟨_,rfl, ?_,by go_grown⟩;have u1:=HU.out;have u2:=HR2.out;have u3:=HR.out;rw[HSZ.out];unfold szq at*;go_light
      omega
    go_roundw
    case rel=>exact ⟨k+1,_,by omega,by go_num,rfl,by omega,by omega,by
    show _=_;have u1:=HT.out;have u2:=HR2.out;have u3:=HR.out;unfold szq at*;rw[u1];omega,by go_grown⟩
    case measure=>simp[intOf];omega
  obtain rfl:k=l.length:=by omega
  go_wp2
  go_ret
  refine ⟨_,rfl, ?_,hB⟩;have u3:=HR.out;rw[zK] at u3;rw[HSZ.out];unfold szq;omega
theorem IS (w:World) (ca:List Value) (a:Xr) (left:Int) (ha:rd w ca a) (h0:0<=left) (h1:left<=1048576):Calls Tryz.prog 50 #[.agg ca.toArray,.int .i64 left] w (E5 w (GoD.size a) left):=by
 obtain ⟨a1,a2,a3⟩:=a;obtain ⟨ac1,at1,rfl,ar1,ac2,at2,rfl,ar2,ar3⟩:=ha;obtain ⟨ax1_0,rfl⟩:=Bf (show _=1 from GoD.rd_len ar1);obtain ⟨ax2_0,rfl⟩:=Bf (show _=1 from GoD.rd_len ar2);obtain ⟨rfl,ar3⟩:=ar3;dsimp only[zF,zD] at*;have AR1H:=Lib.hid ar1;clear ar1;have AR2H:=Lib.hid ar2;clear ar2;clear ar3;have tok1:True:=trivial;have tok2:True:=trivial;have hsz:GoD.size (a1,a2,a3)=(GoD.size a1+(GoD.size a2+0)):=rfl;have HSZ:=Lib.hid hsz;clear hsz;go_enter Tryz.func50,Tryz.ntmps50
 go_wp2_with (first | (go_at_call 88;have tk:=tok1;clear tok1;refine Vd (w:=w) (Qaa _ ax1_0 a1 _ (Xw AR1H.out (by go_grown)) (by omega) (by omega)) (by go_grown) ?_;intro w1 r1 hB hb hz hz2 hr hs;have HR1:=Lib.hid hr;clear hr;(try simp only[zSz] at hz2);have c0:=λo=>Z0 hb (w.heap.size) o (by go_size);clear hb) | (go_at_call 89;have tk:=tok2;clear tok2;refine Vd (w:=w) (Qea _ ax2_0 a2 _ (Xw AR2H.out (by go_grown)) (by omega) (by omega)) (by go_grown) ?_;intro w2 r2 hB hb hz hz2 hr hs;have HR2:=Lib.hid hr;clear hr;(try simp only[zSz] at hz2);have c0:=λo=>Z0 hb (w.heap.size) o (by go_size);clear hb))
 all_goals
  go_ret
  refine ⟨_,rfl, ?_,by go_grown⟩;rw[HSZ.out];unfold szq
  (try have u1:=HR1.out)
  (try have u2:=HR2.out)
  (try unfold szq at*)
  go_light
  omega
theorem Qg7 (w:World) (ca:List Value) (a:Yz) (left:Int) (ha:rd w ca a) (h0:0<=left) (h1:left<=1048576):Calls Tryz.prog 147 #[.agg ca.toArray,.int .i64 left] w (E5 w (GoD.size a) left):=by
 obtain ⟨a1,a2,a3,a4,a5⟩:=a;obtain ⟨ac1,at1,rfl,ar1,ac2,at2,rfl,ar2,ac3,at3,rfl,ar3,ac4,at4,rfl,ar4,ar5⟩:=ha;obtain ⟨rfl,ar1⟩:=ar1;obtain ⟨rfl,ar2⟩:=ar2;obtain ⟨rfl,ar3⟩:=ar3;obtain ⟨rfl,ar4⟩:=ar4;obtain ⟨ax5_0,ax5_1,ax5_2,rfl⟩:=SM (show _=3 from GoD.rd_len ar5);dsimp only[zF,zD] at*;clear ar1;clear ar2;clear ar3;unfold maxLen at ar4;have ar4:a4.size<=9223372036854775807:=by omega
 have AR5H:=Lib.hid ar5;clear ar5;have tok1:True:=trivial;have hsz:GoD.size (a1,a2,a3,a4,a5)=(0+(0+(0+(a4.size+GoD.size a5)))):=rfl;have HSZ:=Lib.hid hsz;clear hsz;go_enter Tryz.func147,Tryz.ntmps147
 go_wp2_with (first | (go_at_call 199;have tk:=tok1;clear tok1;refine Vd (w:=w) (IR _ [ax5_0,ax5_1,ax5_2] a5 _ (Xw AR5H.out (by go_grown)) (by omega) (by omega)) (by go_grown) ?_;intro w1 r1 hB hb hz hz2 hr hs;have HR1:=Lib.hid hr;clear hr;(try simp only[zSz] at hz2);have c0:=λo=>Z0 hb (w.heap.size) o (by go_size);clear hb))
 all_goals
  go_ret
  refine ⟨_,rfl, ?_,by go_grown⟩;rw[HSZ.out];unfold szq
  (try have u1:=HR1.out)
  (try unfold szq at*)
  go_light
  omega
theorem Qeb (w:World) (v:Value) (l:List Yz) (left:Int) (ha:rd w [v] l) (h0:0<=left) (h1:left<=1048576):Calls Tryz.prog 94 #[v,.int .i64 left] w (E5 w (GoD.size l) left):=by
 obtain ⟨oa,cap,e1,hl,hm,hel⟩:=ha;obtain rfl:v=_:=by simpa using e1
 clear e1;have HE:=Lib.hid hel;clear hel;unfold maxLen at hm;have hlm:l.length<=9223372036854775807:=by omega
 have hsz:GoD.size l=l.length+(l.map GoD.size).sum:=rfl;have HSZ:=Lib.hid hsz;clear hsz;by_cases hneg:left-l.length<0
 . go_enter Tryz.func94,Tryz.ntmps94
   go_wp2
   go_ret
   refine ⟨_,rfl, ?_,Below.refl _ _⟩;rw[HSZ.out];unfold szq;omega
 go_enter Tryz.func94,Tryz.ntmps94
 go_wp2
 go_loopw [1,5] (zI l left w) (λ_ i _=>l.length-(intOf i).toNat)
 case atStart=>exact ⟨0,_,zJ _,rfl,rfl,by omega,by omega,by show _=_;simp,Below.refl _ _⟩
 case round=>
  obtain ⟨k,r,hk,rfl,rfl,hr0,hr1,HR,hB⟩:=hrel;by_cases hkl:k<l.length
  . have hx:=zE hkl;obtain ⟨eb,eo,ee,rfl,hcl,hcc,hxr⟩:=HE.out k _ hx;have HT:=Lib.hid (E7 hx);have HU:=Lib.hid (Hw hx);clear hx;generalize l[k]=x at*;obtain ⟨x0,x1,x2,x3,x4,x5,x6,rfl⟩:=Qmj (show _=7 from hcl);have p0:wr.cell? ⟨eb,eo+k*7,none⟩=some x0:=cBz hB (hcc 0 _ rfl);have p1:wr.cell? ⟨eb,eo+k*7+1,none⟩=some x1:=cBz hB (hcc 1 _ rfl);have p2:wr.cell? ⟨eb,eo+k*7+2,none⟩=some x2:=cBz hB (hcc 2 _ rfl);have p3:wr.cell? ⟨eb,eo+k*7+3,none⟩=some x3:=cBz hB (hcc 3 _ rfl);have p4:wr.cell? ⟨eb,eo+k*7+4,none⟩=some x4:=cBz hB (hcc 4 _ rfl);have p5:wr.cell? ⟨eb,eo+k*7+5,none⟩=some x5:=cBz hB (hcc 5 _ rfl);have p6:wr.cell? ⟨eb,eo+k*7+6,none⟩=some x6:=cBz hB (hcc 6 _ rfl);have HXR:=Lib.hid hxr;clear hxr hcc hcl;go_wp2_with (go_at_call 147;refine Vd (w:=w) (Qg7 _ [x0,x1,x2,x3,x4,x5,x6] x _ (Xw HXR.out hB) (by omega) (by omega)) (by go_grown) ?_;intro w2 r2 hB2 hb hz hz2 hr2 hs;have HR2:=Lib.hid hr2;clear hr2 hb)
    . go_ret
      refine ⟨_,rfl, ?_,by go_grown⟩;have u1:=HU.out;have u2:=HR2.out;have u3:=HR.out;rw[HSZ.out];unfold szq at*;go_light
      omega
    go_roundw
    case rel=>exact ⟨k+1,_,by omega,by go_num,rfl,by omega,by omega,by
    show _=_;have u1:=HT.out;have u2:=HR2.out;have u3:=HR.out;unfold szq at*;rw[u1];omega,by go_grown⟩
    case measure=>simp[intOf];omega
  obtain rfl:k=l.length:=by omega
  go_wp2
  go_ret
  refine ⟨_,rfl, ?_,hB⟩;have u3:=HR.out;rw[zK] at u3;rw[HSZ.out];unfold szq;omega
theorem Qec (w:World) (ca:List Value) (a:Yc) (left:Int) (ha:rd w ca a) (h0:0<=left) (h1:left<=1048576):Calls Tryz.prog 56 #[.agg ca.toArray,.int .i64 left] w (E5 w (GoD.size a) left):=by
 obtain ⟨a1,a2⟩:=a;obtain ⟨ac1,at1,rfl,ar1,ar2⟩:=ha;obtain ⟨rfl,ar1⟩:=ar1;obtain ⟨ax2_0,rfl⟩:=Bf (show _=1 from GoD.rd_len ar2);dsimp only[zF,zD] at*;unfold maxLen at ar1;have ar1:a1.size<=9223372036854775807:=by omega
 have AR2H:=Lib.hid ar2;clear ar2;have tok1:True:=trivial;have hsz:GoD.size (a1,a2)=(a1.size+GoD.size a2):=rfl;have HSZ:=Lib.hid hsz;clear hsz;go_enter Tryz.func56,Tryz.ntmps56
 go_wp2_with (first | (go_at_call 94;have tk:=tok1;clear tok1;refine Vd (w:=w) (Qeb _ ax2_0 a2 _ (Xw AR2H.out (by go_grown)) (by omega) (by omega)) (by go_grown) ?_;intro w1 r1 hB hb hz hz2 hr hs;have HR1:=Lib.hid hr;clear hr;(try simp only[zSz] at hz2);have c0:=λo=>Z0 hb (w.heap.size) o (by go_size);clear hb))
 all_goals
  go_ret
  refine ⟨_,rfl, ?_,by go_grown⟩;rw[HSZ.out];unfold szq
  (try have u1:=HR1.out)
  (try unfold szq at*)
  go_light
  omega
theorem RK (w:World) (v:Value) (l:List Yc) (left:Int) (ha:rd w [v] l) (h0:0<=left) (h1:left<=1048576):Calls Tryz.prog 51 #[v,.int .i64 left] w (E5 w (GoD.size l) left):=by
 obtain ⟨oa,cap,e1,hl,hm,hel⟩:=ha;obtain rfl:v=_:=by simpa using e1
 clear e1;have HE:=Lib.hid hel;clear hel;unfold maxLen at hm;have hlm:l.length<=9223372036854775807:=by omega
 have hsz:GoD.size l=l.length+(l.map GoD.size).sum:=rfl;have HSZ:=Lib.hid hsz;clear hsz;by_cases hneg:left-l.length<0
 . go_enter Tryz.func51,Tryz.ntmps51
   go_wp2
   go_ret
   refine ⟨_,rfl, ?_,Below.refl _ _⟩;rw[HSZ.out];unfold szq;omega
 go_enter Tryz.func51,Tryz.ntmps51
 go_wp2
 go_loopw [1,5] (zI l left w) (λ_ i _=>l.length-(intOf i).toNat)
 case atStart=>exact ⟨0,_,zJ _,rfl,rfl,by omega,by omega,by show _=_;simp,Below.refl _ _⟩
 case round=>
  obtain ⟨k,r,hk,rfl,rfl,hr0,hr1,HR,hB⟩:=hrel;by_cases hkl:k<l.length
  . have hx:=zE hkl;obtain ⟨eb,eo,ee,rfl,hcl,hcc,hxr⟩:=HE.out k _ hx;have HT:=Lib.hid (E7 hx);have HU:=Lib.hid (Hw hx);clear hx;generalize l[k]=x at*;obtain ⟨x0,x1,rfl⟩:=YE (show _=2 from hcl);have p0:wr.cell? ⟨eb,eo+k*2,none⟩=some x0:=cBz hB (hcc 0 _ rfl);have p1:wr.cell? ⟨eb,eo+k*2+1,none⟩=some x1:=cBz hB (hcc 1 _ rfl);have HXR:=Lib.hid hxr;clear hxr hcc hcl;go_wp2_with (go_at_call 56;refine Vd (w:=w) (Qec _ [x0,x1] x _ (Xw HXR.out hB) (by omega) (by omega)) (by go_grown) ?_;intro w2 r2 hB2 hb hz hz2 hr2 hs;have HR2:=Lib.hid hr2;clear hr2 hb)
    . go_ret
      refine ⟨_,rfl, ?_,by go_grown⟩;have u1:=HU.out;have u2:=HR2.out;have u3:=HR.out;rw[HSZ.out];unfold szq at*;go_light
      omega
    go_roundw
    case rel=>exact ⟨k+1,_,by omega,by go_num,rfl,by omega,by omega,by
    show _=_;have u1:=HT.out;have u2:=HR2.out;have u3:=HR.out;unfold szq at*;rw[u1];omega,by go_grown⟩
    case measure=>simp[intOf];omega
  obtain rfl:k=l.length:=by omega
  go_wp2
  go_ret
  refine ⟨_,rfl, ?_,hB⟩;have u3:=HR.out;rw[zK] at u3;rw[HSZ.out];unfold szq;omega
theorem IT (w:World) (ca:List Value) (a:Um) (left:Int) (ha:rd w ca a) (h0:0<=left) (h1:left<=1048576):Calls Tryz.prog 91 #[.agg ca.toArray,.int .i64 left] w (E5 w (GoD.size a) left):=by
 obtain ⟨a1,a2⟩:=a;obtain ⟨ac1,at1,rfl,ar1,ar2⟩:=ha;obtain ⟨ax1_0,ax1_1,ax1_2,rfl⟩:=SM (show _=3 from GoD.rd_len ar1);obtain ⟨ax2_0,rfl⟩:=Bf (show _=1 from GoD.rd_len ar2);dsimp only[zF,zD] at*;have AR1H:=Lib.hid ar1;clear ar1;have AR2H:=Lib.hid ar2;clear ar2;have tok1:True:=trivial;have tok2:True:=trivial;have hsz:GoD.size (a1,a2)=(GoD.size a1+GoD.size a2):=rfl;have HSZ:=Lib.hid hsz;clear hsz;go_enter Tryz.func91,Tryz.ntmps91
 go_wp2_with (first | (go_at_call 50;have tk:=tok1;clear tok1;refine Vd (w:=w) (IS _ [ax1_0,ax1_1,ax1_2] a1 _ (Xw AR1H.out (by go_grown)) (by omega) (by omega)) (by go_grown) ?_;intro w1 r1 hB hb hz hz2 hr hs;have HR1:=Lib.hid hr;clear hr;(try simp only[zSz] at hz2);have c0:=λo=>Z0 hb (w.heap.size) o (by go_size);clear hb) | (go_at_call 51;have tk:=tok2;clear tok2;refine Vd (w:=w) (RK _ ax2_0 a2 _ (Xw AR2H.out (by go_grown)) (by omega) (by omega)) (by go_grown) ?_;intro w2 r2 hB hb hz hz2 hr hs;have HR2:=Lib.hid hr;clear hr;(try simp only[zSz] at hz2);have c0:=λo=>Z0 hb (w.heap.size) o (by go_size);clear hb))
 all_goals
  go_ret
  refine ⟨_,rfl, ?_,by go_grown⟩;rw[HSZ.out];unfold szq
  (try have u1:=HR1.out)
  (try have u2:=HR2.out)
  (try unfold szq at*)
  go_light
  omega
theorem NP (w:World) (ca:List Value) (a:Cy) (left:Int) (ha:rd w ca a) (h0:0<=left) (h1:left<=1048576):Calls Tryz.prog 53 #[.agg ca.toArray,.int .i64 left] w (E5 w (GoD.size a) left):=by
 obtain ⟨a1,a2,a3⟩:=a;obtain ⟨ac1,at1,rfl,ar1,ac2,at2,rfl,ar2,ar3⟩:=ha;obtain ⟨rfl,ar1⟩:=ar1;obtain ⟨ax2_0,ax2_1,ax2_2,ax2_3,rfl⟩:=Qkq (show _=4 from GoD.rd_len ar2);obtain ⟨rfl,ar3⟩:=ar3;dsimp only[zF,zD] at*;clear ar1;have AR2H:=Lib.hid ar2;clear ar2;clear ar3;have tok1:True:=trivial;have hsz:GoD.size (a1,a2,a3)=(0+(GoD.size a2+0)):=rfl;have HSZ:=Lib.hid hsz;clear hsz;go_enter Tryz.func53,Tryz.ntmps53
 go_wp2_with (first | (go_at_call 91;have tk:=tok1;clear tok1;refine Vd (w:=w) (IT _ [ax2_0,ax2_1,ax2_2,ax2_3] a2 _ (Xw AR2H.out (by go_grown)) (by omega) (by omega)) (by go_grown) ?_;intro w1 r1 hB hb hz hz2 hr hs;have HR1:=Lib.hid hr;clear hr;(try simp only[zSz] at hz2);have c0:=λo=>Z0 hb (w.heap.size) o (by go_size);clear hb))
 all_goals
  go_ret
  refine ⟨_,rfl, ?_,by go_grown⟩;rw[HSZ.out];unfold szq
  (try have u1:=HR1.out)
  (try unfold szq at*)
  go_light
  omega
theorem Qab (w:World) (ca:List Value) (a:Qj) (left:Int) (ha:rd w ca a) (h0:0<=left) (h1:left<=1048576):Calls Tryz.prog 90 #[.agg ca.toArray,.int .i64 left] w (E5 w (GoD.size a) left):=by
 obtain ⟨a1,a2⟩:=a;obtain ⟨ac1,at1,rfl,ar1,ar2⟩:=ha;obtain ⟨rfl,ar1⟩:=ar1;obtain ⟨ax2_0,rfl⟩:=Bf (show _=1 from GoD.rd_len ar2);dsimp only[zF,zD] at*;unfold maxLen at ar1;have ar1:a1.size<=9223372036854775807:=by omega
 have AR2H:=Lib.hid ar2;clear ar2;have tok1:True:=trivial;have hsz:GoD.size (a1,a2)=(a1.size+GoD.size a2):=rfl;have HSZ:=Lib.hid hsz;clear hsz;go_enter Tryz.func90,Tryz.ntmps90
 go_wp2_with (first | (go_at_call 21;have tk:=tok1;clear tok1;refine Vd (w:=w) (XL _ ax2_0 a2 _ (Xw AR2H.out (by go_grown)) (by omega) (by omega)) (by go_grown) ?_;intro w1 r1 hB hb hz hz2 hr hs;have HR1:=Lib.hid hr;clear hr;(try simp only[zSz] at hz2);have c0:=λo=>Z0 hb (w.heap.size) o (by go_size);clear hb))
 all_goals
  go_ret
  refine ⟨_,rfl, ?_,by go_grown⟩;rw[HSZ.out];unfold szq
  (try have u1:=HR1.out)
  (try unfold szq at*)
  go_light
  omega
theorem NQ (w:World) (v:Value) (l:List Qj) (left:Int) (ha:rd w [v] l) (h0:0<=left) (h1:left<=1048576):Calls Tryz.prog 52 #[v,.int .i64 left] w (E5 w (GoD.size l) left):=by
 obtain ⟨oa,cap,e1,hl,hm,hel⟩:=ha;obtain rfl:v=_:=by simpa using e1
 clear e1;have HE:=Lib.hid hel;clear hel;unfold maxLen at hm;have hlm:l.length<=9223372036854775807:=by omega
 have hsz:GoD.size l=l.length+(l.map GoD.size).sum:=rfl;have HSZ:=Lib.hid hsz;clear hsz;by_cases hneg:left-l.length<0
 . go_enter Tryz.func52,Tryz.ntmps52
   go_wp2
   go_ret
   refine ⟨_,rfl, ?_,Below.refl _ _⟩;rw[HSZ.out];unfold szq;omega
 go_enter Tryz.func52,Tryz.ntmps52
 go_wp2
 go_loopw [1,5] (zI l left w) (λ_ i _=>l.length-(intOf i).toNat)
 case atStart=>exact ⟨0,_,zJ _,rfl,rfl,by omega,by omega,by show _=_;simp,Below.refl _ _⟩
 case round=>
  obtain ⟨k,r,hk,rfl,rfl,hr0,hr1,HR,hB⟩:=hrel;by_cases hkl:k<l.length
  . have hx:=zE hkl;obtain ⟨eb,eo,ee,rfl,hcl,hcc,hxr⟩:=HE.out k _ hx;have HT:=Lib.hid (E7 hx);have HU:=Lib.hid (Hw hx);clear hx;generalize l[k]=x at*;obtain ⟨x0,x1,rfl⟩:=YE (show _=2 from hcl);have p0:wr.cell? ⟨eb,eo+k*2,none⟩=some x0:=cBz hB (hcc 0 _ rfl);have p1:wr.cell? ⟨eb,eo+k*2+1,none⟩=some x1:=cBz hB (hcc 1 _ rfl);have HXR:=Lib.hid hxr;clear hxr hcc hcl;go_wp2_with (go_at_call 90;refine Vd (w:=w) (Qab _ [x0,x1] x _ (Xw HXR.out hB) (by omega) (by omega)) (by go_grown) ?_;intro w2 r2 hB2 hb hz hz2 hr2 hs;have HR2:=Lib.hid hr2;clear hr2 hb)
    . go_ret
      refine ⟨_,rfl, ?_,by go_grown⟩;have u1:=HU.out;have u2:=HR2.out;have u3:=HR.out;rw[HSZ.out];unfold szq at*;go_light
      omega
    go_roundw
    case rel=>exact ⟨k+1,_,by omega,by go_num,rfl,by omega,by omega,by
    show _=_;have u1:=HT.out;have u2:=HR2.out;have u3:=HR.out;unfold szq at*;rw[u1];omega,by go_grown⟩
    case measure=>simp[intOf];omega
  obtain rfl:k=l.length:=by omega
  go_wp2
  go_ret
  refine ⟨_,rfl, ?_,hB⟩;have u3:=HR.out;rw[zK] at u3;rw[HSZ.out];unfold szq;omega
theorem NR (w:World) (ca:List Value) (a:Xj) (left:Int) (ha:rd w ca a) (h0:0<=left) (h1:left<=1048576):Calls Tryz.prog 17 #[.agg ca.toArray,.int .i64 left] w (E5 w (GoD.size a) left):=by
 obtain ⟨a1,a2,a3⟩:=a;obtain ⟨ac1,at1,rfl,ar1,ac2,at2,rfl,ar2,ar3⟩:=ha;obtain ⟨ax1_0,ax1_1,ax1_2,rfl⟩:=SM (show _=3 from GoD.rd_len ar1);obtain ⟨ax2_0,rfl⟩:=Bf (show _=1 from GoD.rd_len ar2);obtain ⟨ax3_0,rfl⟩:=Bf (show _=1 from GoD.rd_len ar3);dsimp only[zF,zD] at*;have AR1H:=Lib.hid ar1;clear ar1;have AR2H:=Lib.hid ar2;clear ar2;have AR3H:=Lib.hid ar3;clear ar3;have tok1:True:=trivial;have tok2:True:=trivial;have tok3:True:=trivial;have hsz:GoD.size (a1,a2,a3)=(GoD.size a1+(GoD.size a2+GoD.size a3)):=rfl;have HSZ:=Lib.hid hsz;clear hsz;go_enter Tryz.func17,Tryz.ntmps17
 go_wp2_with (first | (go_at_call 50;have tk:=tok1;clear tok1;refine Vd (w:=w) (IS _ [ax1_0,ax1_1,ax1_2] a1 _ (Xw AR1H.out (by go_grown)) (by omega) (by omega)) (by go_grown) ?_;intro w1 r1 hB hb hz hz2 hr hs;have HR1:=Lib.hid hr;clear hr;(try simp only[zSz] at hz2);have c0:=λo=>Z0 hb (w.heap.size) o (by go_size);clear hb) | (go_at_call 51;have tk:=tok2;clear tok2;refine Vd (w:=w) (RK _ ax2_0 a2 _ (Xw AR2H.out (by go_grown)) (by omega) (by omega)) (by go_grown) ?_;intro w2 r2 hB hb hz hz2 hr hs;have HR2:=Lib.hid hr;clear hr;(try simp only[zSz] at hz2);have c0:=λo=>Z0 hb (w.heap.size) o (by go_size);clear hb) | (go_at_call 52;have tk:=tok3;clear tok3;refine Vd (w:=w) (NQ _ ax3_0 a3 _ (Xw AR3H.out (by go_grown)) (by omega) (by omega)) (by go_grown) ?_;intro w3 r3 hB hb hz hz2 hr hs;have HR3:=Lib.hid hr;clear hr;(try simp only[zSz] at hz2);have c0:=λo=>Z0 hb (w.heap.size) o (by go_size);clear hb))
 all_goals
  go_ret
  refine ⟨_,rfl, ?_,by go_grown⟩;rw[HSZ.out];unfold szq
  (try have u1:=HR1.out)
  (try have u2:=HR2.out)
  (try have u3:=HR3.out)
  (try unfold szq at*)
  go_light
  omega
theorem Qg8 (w:World) (ca:List Value) (a:SL) (left:Int) (ha:rd w ca a) (h0:0<=left) (h1:left<=1048576):Calls Tryz.prog 18 #[.agg ca.toArray,.int .i64 left] w (E5 w (GoD.size a) left):=by
 obtain ⟨a1,a2⟩:=a;obtain ⟨ac1,at1,rfl,ar1,ar2⟩:=ha;obtain ⟨rfl,ar1⟩:=ar1;obtain ⟨rfl,ar2⟩:=ar2;dsimp only[zF,zD] at*;unfold maxLen at ar1;have ar1:a1.size<=9223372036854775807:=by omega
 unfold maxLen at ar2;have ar2:a2.size<=9223372036854775807:=by omega
 have hsz:GoD.size (a1,a2)=(a1.size+a2.size):=rfl;have HSZ:=Lib.hid hsz;clear hsz;go_enter Tryz.func18,Tryz.ntmps18
 go_wp2
 all_goals
  go_ret
  refine ⟨_,rfl, ?_,by go_grown⟩;rw[HSZ.out];unfold szq
  (try unfold szq at*)
  go_light
  omega
theorem IU (w:World) (v:Value) (l:List Cy) (left:Int) (ha:rd w [v] l) (h0:0<=left) (h1:left<=1048576):Calls Tryz.prog 19 #[v,.int .i64 left] w (E5 w (GoD.size l) left):=by
 obtain ⟨oa,cap,e1,hl,hm,hel⟩:=ha;obtain rfl:v=_:=by simpa using e1
 clear e1;have HE:=Lib.hid hel;clear hel;unfold maxLen at hm;have hlm:l.length<=9223372036854775807:=by omega
 have hsz:GoD.size l=l.length+(l.map GoD.size).sum:=rfl;have HSZ:=Lib.hid hsz;clear hsz;by_cases hneg:left-l.length<0
 . go_enter Tryz.func19,Tryz.ntmps19
   go_wp2
   go_ret
   refine ⟨_,rfl, ?_,Below.refl _ _⟩;rw[HSZ.out];unfold szq;omega
 go_enter Tryz.func19,Tryz.ntmps19
 go_wp2
 go_loopw [1,5] (zI l left w) (λ_ i _=>l.length-(intOf i).toNat)
 case atStart=>exact ⟨0,_,zJ _,rfl,rfl,by omega,by omega,by show _=_;simp,Below.refl _ _⟩
 case round=>
  obtain ⟨k,r,hk,rfl,rfl,hr0,hr1,HR,hB⟩:=hrel;by_cases hkl:k<l.length
  . have hx:=zE hkl;obtain ⟨eb,eo,ee,rfl,hcl,hcc,hxr⟩:=HE.out k _ hx;have HT:=Lib.hid (E7 hx);have HU:=Lib.hid (Hw hx);clear hx;generalize l[k]=x at*;obtain ⟨x0,x1,x2,x3,x4,x5,rfl⟩:=Qmi (show _=6 from hcl);have p0:wr.cell? ⟨eb,eo+k*6,none⟩=some x0:=cBz hB (hcc 0 _ rfl);have p1:wr.cell? ⟨eb,eo+k*6+1,none⟩=some x1:=cBz hB (hcc 1 _ rfl);have p2:wr.cell? ⟨eb,eo+k*6+2,none⟩=some x2:=cBz hB (hcc 2 _ rfl);have p3:wr.cell? ⟨eb,eo+k*6+3,none⟩=some x3:=cBz hB (hcc 3 _ rfl);have p4:wr.cell? ⟨eb,eo+k*6+4,none⟩=some x4:=cBz hB (hcc 4 _ rfl);have p5:wr.cell? ⟨eb,eo+k*6+5,none⟩=some x5:=cBz hB (hcc 5 _ rfl);have HXR:=Lib.hid hxr;clear hxr hcc hcl;go_wp2_with (go_at_call 53;refine Vd (w:=w) (NP _ [x0,x1,x2,x3,x4,x5] x _ (Xw HXR.out hB) (by omega) (by omega)) (by go_grown) ?_;intro w2 r2 hB2 hb hz hz2 hr2 hs;have HR2:=Lib.hid hr2;clear hr2 hb)
    . go_ret
      refine ⟨_,rfl, ?_,by go_grown⟩;have u1:=HU.out;have u2:=HR2.out;have u3:=HR.out;rw[HSZ.out];unfold szq at*;go_light
      omega
    go_roundw
    case rel=>exact ⟨k+1,_,by omega,by go_num,rfl,by omega,by omega,by
    show _=_;have u1:=HT.out;have u2:=HR2.out;have u3:=HR.out;unfold szq at*;rw[u1];omega,by go_grown⟩
    case measure=>simp[intOf];omega
  obtain rfl:k=l.length:=by omega
  go_wp2
  go_ret
  refine ⟨_,rfl, ?_,hB⟩;have u3:=HR.out;rw[zK] at u3;rw[HSZ.out];unfold szq;omega
theorem Qac (w:World) (v:Value) (l:List Nm) (left:Int) (ha:rd w [v] l) (h0:0<=left) (h1:left<=1048576):Calls Tryz.prog 92 #[v,.int .i64 left] w (E5 w (GoD.size l) left):=by
 obtain ⟨oa,cap,e1,hl,hm,hel⟩:=ha;obtain rfl:v=_:=by simpa using e1
 clear e1;have HE:=Lib.hid hel;clear hel;unfold maxLen at hm;have hlm:l.length<=9223372036854775807:=by omega
 have hsz:GoD.size l=l.length+(l.map GoD.size).sum:=rfl;have HSZ:=Lib.hid hsz;clear hsz;by_cases hneg:left-l.length<0
 . go_enter Tryz.func92,Tryz.ntmps92
   go_wp2
   go_ret
   refine ⟨_,rfl, ?_,Below.refl _ _⟩;rw[HSZ.out];unfold szq;omega
 go_enter Tryz.func92,Tryz.ntmps92
 go_wp2
 go_loopw [1,5] (zI l left w) (λ_ i _=>l.length-(intOf i).toNat)
 case atStart=>exact ⟨0,_,zJ _,rfl,rfl,by omega,by omega,by show _=_;simp,Below.refl _ _⟩
 case round=>
  obtain ⟨k,r,hk,rfl,rfl,hr0,hr1,HR,hB⟩:=hrel;by_cases hkl:k<l.length
  . have hx:=zE hkl;obtain ⟨eb,eo,ee,rfl,hcl,hcc,hxr⟩:=HE.out k _ hx;have HT:=Lib.hid (E7 hx);have HU:=Lib.hid (Hw hx);clear hx;generalize l[k]=x at*;obtain ⟨x0,x1,x2,rfl⟩:=SM (show _=3 from hcl);have p0:wr.cell? ⟨eb,eo+k*3,none⟩=some x0:=cBz hB (hcc 0 _ rfl);have p1:wr.cell? ⟨eb,eo+k*3+1,none⟩=some x1:=cBz hB (hcc 1 _ rfl);have p2:wr.cell? ⟨eb,eo+k*3+2,none⟩=some x2:=cBz hB (hcc 2 _ rfl);have HXR:=Lib.hid hxr;clear hxr hcc hcl;go_wp2_with (go_at_call 145;refine Vd (w:=w) (Qd7 _ [x0,x1,x2] x _ (Xw HXR.out hB) (by omega) (by omega)) (by go_grown) ?_;intro w2 r2 hB2 hb hz hz2 hr2 hs;have HR2:=Lib.hid hr2;clear hr2 hb)
    . go_ret
      refine ⟨_,rfl, ?_,by go_grown⟩;have u1:=HU.out;have u2:=HR2.out;have u3:=HR.out;rw[HSZ.out];unfold szq at*;go_light
      omega
    go_roundw
    case rel=>exact ⟨k+1,_,by omega,by go_num,rfl,by omega,by omega,by
    show _=_;have u1:=HT.out;have u2:=HR2.out;have u3:=HR.out;unfold szq at*;rw[u1];omega,by go_grown⟩
    case measure=>simp[intOf];omega
  obtain rfl:k=l.length:=by omega
  go_wp2
  go_ret
  refine ⟨_,rfl, ?_,hB⟩;have u3:=HR.out;rw[zK] at u3;rw[HSZ.out];unfold szq;omega
theorem Qed (w:World) (ca:List Value) (a:Nn) (left:Int) (ha:rd w ca a) (h0:0<=left) (h1:left<=1048576):Calls Tryz.prog 54 #[.agg ca.toArray,.int .i64 left] w (E5 w (GoD.size a) left):=by
 obtain ⟨a1,a2,a3,a4⟩:=a;obtain ⟨ac1,at1,rfl,ar1,ac2,at2,rfl,ar2,ac3,at3,rfl,ar3,ar4⟩:=ha;obtain ⟨rfl,ar1⟩:=ar1;obtain ⟨rfl,ar2⟩:=ar2;obtain ⟨ax3_0,rfl⟩:=Bf (show _=1 from GoD.rd_len ar3);obtain ⟨ax4_0,rfl⟩:=Bf (show _=1 from GoD.rd_len ar4);dsimp only[zF,zD] at*;clear ar1;unfold maxLen at ar2;have ar2:a2.size<=9223372036854775807:=by omega
 have AR3H:=Lib.hid ar3;clear ar3;have AR4H:=Lib.hid ar4;clear ar4;have tok1:True:=trivial;have tok2:True:=trivial;have hsz:GoD.size (a1,a2,a3,a4)=(0+(a2.size+(GoD.size a3+GoD.size a4))):=rfl;have HSZ:=Lib.hid hsz;clear hsz;go_enter Tryz.func54,Tryz.ntmps54
 go_wp2_with (first | (go_at_call 21;have tk:=tok1;clear tok1;refine Vd (w:=w) (XL _ ax3_0 a3 _ (Xw AR3H.out (by go_grown)) (by omega) (by omega)) (by go_grown) ?_;intro w1 r1 hB hb hz hz2 hr hs;have HR1:=Lib.hid hr;clear hr;(try simp only[zSz] at hz2);have c0:=λo=>Z0 hb (w.heap.size) o (by go_size);clear hb) | (go_at_call 92;have tk:=tok2;clear tok2;refine Vd (w:=w) (Qac _ ax4_0 a4 _ (Xw AR4H.out (by go_grown)) (by omega) (by omega)) (by go_grown) ?_;intro w2 r2 hB hb hz hz2 hr hs;have HR2:=Lib.hid hr;clear hr;(try simp only[zSz] at hz2);have c0:=λo=>Z0 hb (w.heap.size) o (by go_size);clear hb))
 all_goals
  go_ret
  refine ⟨_,rfl, ?_,by go_grown⟩;rw[HSZ.out];unfold szq
  (try have u1:=HR1.out)
  (try have u2:=HR2.out)
  (try unfold szq at*)
  go_light
  omega
theorem Qad (w:World) (v:Value) (l:List Nn) (left:Int) (ha:rd w [v] l) (h0:0<=left) (h1:left<=1048576):Calls Tryz.prog 20 #[v,.int .i64 left] w (E5 w (GoD.size l) left):=by
 obtain ⟨oa,cap,e1,hl,hm,hel⟩:=ha;obtain rfl:v=_:=by simpa using e1
 clear e1;have HE:=Lib.hid hel;clear hel;unfold maxLen at hm;have hlm:l.length<=9223372036854775807:=by omega
 have hsz:GoD.size l=l.length+(l.map GoD.size).sum:=rfl;have HSZ:=Lib.hid hsz;clear hsz;by_cases hneg:left-l.length<0
 . go_enter Tryz.func20,Tryz.ntmps20
   go_wp2
   go_ret
   refine ⟨_,rfl, ?_,Below.refl _ _⟩;rw[HSZ.out];unfold szq;omega
 go_enter Tryz.func20,Tryz.ntmps20
 go_wp2
 go_loopw [1,5] (zI l left w) (λ_ i _=>l.length-(intOf i).toNat)
 case atStart=>exact ⟨0,_,zJ _,rfl,rfl,by omega,by omega,by show _=_;simp,Below.refl _ _⟩
 case round=>
  obtain ⟨k,r,hk,rfl,rfl,hr0,hr1,HR,hB⟩:=hrel;by_cases hkl:k<l.length
  . have hx:=zE hkl;obtain ⟨eb,eo,ee,rfl,hcl,hcc,hxr⟩:=HE.out k _ hx;have HT:=Lib.hid (E7 hx);have HU:=Lib.hid (Hw hx);clear hx;generalize l[k]=x at*;obtain ⟨x0,x1,x2,x3,rfl⟩:=Qkq (show _=4 from hcl);have p0:wr.cell? ⟨eb,eo+k*4,none⟩=some x0:=cBz hB (hcc 0 _ rfl);have p1:wr.cell? ⟨eb,eo+k*4+1,none⟩=some x1:=cBz hB (hcc 1 _ rfl);have p2:wr.cell? ⟨eb,eo+k*4+2,none⟩=some x2:=cBz hB (hcc 2 _ rfl);have p3:wr.cell? ⟨eb,eo+k*4+3,none⟩=some x3:=cBz hB (hcc 3 _ rfl);have HXR:=Lib.hid hxr;clear hxr hcc hcl;go_wp2_with (go_at_call 54;refine Vd (w:=w) (Qed _ [x0,x1,x2,x3] x _ (Xw HXR.out hB) (by omega) (by omega)) (by go_grown) ?_;intro w2 r2 hB2 hb hz hz2 hr2 hs;have HR2:=Lib.hid hr2;clear hr2 hb)
    . go_ret
      refine ⟨_,rfl, ?_,by go_grown⟩;have u1:=HU.out;have u2:=HR2.out;have u3:=HR.out;rw[HSZ.out];unfold szq at*;go_light
      omega
    go_roundw
    case rel=>exact ⟨k+1,_,by omega,by go_num,rfl,by omega,by omega,by
    show _=_;have u1:=HT.out;have u2:=HR2.out;have u3:=HR.out;unfold szq at*;rw[u1];omega,by go_grown⟩
    case measure=>simp[intOf];omega
  obtain rfl:k=l.length:=by omega
  go_wp2
  go_ret
  refine ⟨_,rfl, ?_,hB⟩;have u3:=HR.out;rw[zK] at u3;rw[HSZ.out];unfold szq;omega
theorem CA (w:World) (ca:List Value) (a:Ab) (left:Int) (ha:rd w ca a) (h0:0<=left) (h1:left<=1048576):Calls Tryz.prog 4 #[.agg ca.toArray,.int .i64 left] w (E5 w (GoD.size a) left):=by
 obtain ⟨a1,a2,a3,a4,a5,a6⟩:=a;obtain ⟨ac1,at1,rfl,ar1,ac2,at2,rfl,ar2,ac3,at3,rfl,ar3,ac4,at4,rfl,ar4,ac5,at5,rfl,ar5,ar6⟩:=ha;obtain ⟨ax1_0,ax1_1,ax1_2,ax1_3,ax1_4,rfl⟩:=Qjo (show _=5 from GoD.rd_len ar1);obtain ⟨ax2_0,ax2_1,rfl⟩:=YE (show _=2 from GoD.rd_len ar2);obtain ⟨rfl,ar3⟩:=ar3;obtain ⟨ax4_0,rfl⟩:=Bf (show _=1 from GoD.rd_len ar4);obtain ⟨ax5_0,rfl⟩:=Bf (show _=1 from GoD.rd_len ar5);obtain ⟨ax6_0,rfl⟩:=Bf (show _=1 from GoD.rd_len ar6);dsimp only[zF,zD] at*;have AR1H:=Lib.hid ar1;clear ar1;have AR2H:=Lib.hid ar2;clear ar2;clear ar3;have AR4H:=Lib.hid ar4;clear ar4;have AR5H:=Lib.hid ar5;clear ar5;have AR6H:=Lib.hid ar6;clear ar6;have tok1:True:=trivial;have tok2:True:=trivial;have tok3:True:=trivial;have tok4:True:=trivial;have tok5:True:=trivial;have hsz:GoD.size (a1,a2,a3,a4,a5,a6)=(GoD.size a1+(GoD.size a2+(0+(GoD.size a4+(GoD.size a5+GoD.size a6))))):=rfl;have HSZ:=Lib.hid hsz;clear hsz;go_enter Tryz.func4,Tryz.ntmps4
 go_wp2_with (first | (go_at_call 17;have tk:=tok1;clear tok1;refine Vd (w:=w) (NR _ [ax1_0,ax1_1,ax1_2,ax1_3,ax1_4] a1 _ (Xw AR1H.out (by go_grown)) (by omega) (by omega)) (by go_grown) ?_;intro w1 r1 hB hb hz hz2 hr hs;have HR1:=Lib.hid hr;clear hr;(try simp only[zSz] at hz2);have c0:=λo=>Z0 hb (w.heap.size) o (by go_size);clear hb) | (go_at_call 18;have tk:=tok2;clear tok2;refine Vd (w:=w) (Qg8 _ [ax2_0,ax2_1] a2 _ (Xw AR2H.out (by go_grown)) (by omega) (by omega)) (by go_grown) ?_;intro w2 r2 hB hb hz hz2 hr hs;have HR2:=Lib.hid hr;clear hr;(try simp only[zSz] at hz2);have c0:=λo=>Z0 hb (w.heap.size) o (by go_size);clear hb) | (go_at_call 19;have tk:=tok3;clear tok3;refine Vd (w:=w) (IU _ ax4_0 a4 _ (Xw AR4H.out (by go_grown)) (by omega) (by omega)) (by go_grown) ?_;intro w3 r3 hB hb hz hz2 hr hs;have HR3:=Lib.hid hr;clear hr;(try simp only[zSz] at hz2);have c0:=λo=>Z0 hb (w.heap.size) o (by go_size);clear hb) | (go_at_call 20;have tk:=tok4;clear tok4;refine Vd (w:=w) (Qad _ ax5_0 a5 _ (Xw AR5H.out (by go_grown)) (by omega) (by omega)) (by go_grown) ?_;intro w4 r4 hB hb hz hz2 hr hs;have HR4:=Lib.hid hr;clear hr;(try simp only[zSz] at hz2);have c0:=λo=>Z0 hb (w.heap.size) o (by go_size);clear hb) | (go_at_call 21;have tk:=tok5;clear tok5;refine Vd (w:=w) (XL _ ax6_0 a6 _ (Xw AR6H.out (by go_grown)) (by omega) (by omega)) (by go_grown) ?_;intro w5 r5 hB hb hz hz2 hr hs;have HR5:=Lib.hid hr;clear hr;(try simp only[zSz] at hz2);have c0:=λo=>Z0 hb (w.heap.size) o (by go_size);clear hb))
 all_goals
  go_ret
  refine ⟨_,rfl, ?_,by go_grown⟩;rw[HSZ.out];unfold szq
  (try have u1:=HR1.out)
  (try have u2:=HR2.out)
  (try have u3:=HR3.out)
  (try have u4:=HR4.out)
  (try have u5:=HR5.out)
  (try unfold szq at*)
  go_light
  omega
theorem Qae (w:World) (ca:List Value) (a:Kf) (left:Int) (ha:rd w ca a) (h0:0<=left) (h1:left<=1048576):Calls Tryz.prog 22 #[.agg ca.toArray,.int .i64 left] w (E5 w (GoD.size a) left):=by
 obtain ⟨a1,a2,a3,a4⟩:=a;obtain ⟨ac1,at1,rfl,ar1,ac2,at2,rfl,ar2,ac3,at3,rfl,ar3,ar4⟩:=ha;obtain ⟨rfl,ar1⟩:=ar1;obtain ⟨ax2_0,ax2_1,ax2_2,ax2_3,ax2_4,rfl⟩:=Qjo (show _=5 from GoD.rd_len ar2);obtain ⟨rfl,ar3⟩:=ar3;obtain ⟨ax4_0,ax4_1,rfl⟩:=YE (show _=2 from GoD.rd_len ar4);dsimp only[zF,zD] at*;clear ar1;have AR2H:=Lib.hid ar2;clear ar2;clear ar3;have AR4H:=Lib.hid ar4;clear ar4;have tok1:True:=trivial;have tok2:True:=trivial;have hsz:GoD.size (a1,a2,a3,a4)=(0+(GoD.size a2+(0+GoD.size a4))):=rfl;have HSZ:=Lib.hid hsz;clear hsz;go_enter Tryz.func22,Tryz.ntmps22
 go_wp2_with (first | (go_at_call 55;have tk:=tok1;clear tok1;refine Vd (w:=w) (RJ _ [ax2_0,ax2_1,ax2_2,ax2_3,ax2_4] a2 _ (Xw AR2H.out (by go_grown)) (by omega) (by omega)) (by go_grown) ?_;intro w1 r1 hB hb hz hz2 hr hs;have HR1:=Lib.hid hr;clear hr;(try simp only[zSz] at hz2);have c0:=λo=>Z0 hb (w.heap.size) o (by go_size);clear hb) | (go_at_call 56;have tk:=tok2;clear tok2;refine Vd (w:=w) (Qec _ [ax4_0,ax4_1] a4 _ (Xw AR4H.out (by go_grown)) (by omega) (by omega)) (by go_grown) ?_;intro w2 r2 hB hb hz hz2 hr hs;have HR2:=Lib.hid hr;clear hr;(try simp only[zSz] at hz2);have c0:=λo=>Z0 hb (w.heap.size) o (by go_size);clear hb))
 all_goals
  go_ret
  refine ⟨_,rfl, ?_,by go_grown⟩;rw[HSZ.out];unfold szq
  (try have u1:=HR1.out)
  (try have u2:=HR2.out)
  (try unfold szq at*)
  go_light
  omega
theorem UQ (w:World) (v:Value) (l:List Kf) (left:Int) (ha:rd w [v] l) (h0:0<=left) (h1:left<=1048576):Calls Tryz.prog 5 #[v,.int .i64 left] w (E5 w (GoD.size l) left):=by
 obtain ⟨oa,cap,e1,hl,hm,hel⟩:=ha;obtain rfl:v=_:=by simpa using e1
 clear e1;have HE:=Lib.hid hel;clear hel;unfold maxLen at hm;have hlm:l.length<=9223372036854775807:=by omega
 have hsz:GoD.size l=l.length+(l.map GoD.size).sum:=rfl;have HSZ:=Lib.hid hsz;clear hsz;by_cases hneg:left-l.length<0
 . go_enter Tryz.func5,Tryz.ntmps5
   go_wp2
   go_ret
   refine ⟨_,rfl, ?_,Below.refl _ _⟩;rw[HSZ.out];unfold szq;omega
 go_enter Tryz.func5,Tryz.ntmps5
 go_wp2
 go_loopw [1,5] (zI l left w) (λ_ i _=>l.length-(intOf i).toNat)
 case atStart=>exact ⟨0,_,zJ _,rfl,rfl,by omega,by omega,by show _=_;simp,Below.refl _ _⟩
 case round=>
  obtain ⟨k,r,hk,rfl,rfl,hr0,hr1,HR,hB⟩:=hrel;by_cases hkl:k<l.length
  . have hx:=zE hkl;obtain ⟨eb,eo,ee,rfl,hcl,hcc,hxr⟩:=HE.out k _ hx;have HT:=Lib.hid (E7 hx);have HU:=Lib.hid (Hw hx);clear hx;generalize l[k]=x at*;obtain ⟨x0,x1,x2,x3,x4,x5,x6,x7,x8,rfl⟩:=Qmk (show _=9 from hcl);have p0:wr.cell? ⟨eb,eo+k*9,none⟩=some x0:=cBz hB (hcc 0 _ rfl);have p1:wr.cell? ⟨eb,eo+k*9+1,none⟩=some x1:=cBz hB (hcc 1 _ rfl);have p2:wr.cell? ⟨eb,eo+k*9+2,none⟩=some x2:=cBz hB (hcc 2 _ rfl);have p3:wr.cell? ⟨eb,eo+k*9+3,none⟩=some x3:=cBz hB (hcc 3 _ rfl);have p4:wr.cell? ⟨eb,eo+k*9+4,none⟩=some x4:=cBz hB (hcc 4 _ rfl);have p5:wr.cell? ⟨eb,eo+k*9+5,none⟩=some x5:=cBz hB (hcc 5 _ rfl);have p6:wr.cell? ⟨eb,eo+k*9+6,none⟩=some x6:=cBz hB (hcc 6 _ rfl);have p7:wr.cell? ⟨eb,eo+k*9+7,none⟩=some x7:=cBz hB (hcc 7 _ rfl);have p8:wr.cell? ⟨eb,eo+k*9+8,none⟩=some x8:=cBz hB (hcc 8 _ rfl);have HXR:=Lib.hid hxr;clear hxr hcc hcl;go_wp2_with (go_at_call 22;refine Vd (w:=w) (Qae _ [x0,x1,x2,x3,x4,x5,x6,x7,x8] x _ (Xw HXR.out hB) (by omega) (by omega)) (by go_grown) ?_;intro w2 r2 hB2 hb hz hz2 hr2 hs;have HR2:=Lib.hid hr2;clear hr2 hb)
    . go_ret
      refine ⟨_,rfl, ?_,by go_grown⟩;have u1:=HU.out;have u2:=HR2.out;have u3:=HR.out;rw[HSZ.out];unfold szq at*;go_light
      omega
    go_roundw
    case rel=>exact ⟨k+1,_,by omega,by go_num,rfl,by omega,by omega,by
    show _=_;have u1:=HT.out;have u2:=HR2.out;have u3:=HR.out;unfold szq at*;rw[u1];omega,by go_grown⟩
    case measure=>simp[intOf];omega
  obtain rfl:k=l.length:=by omega
  go_wp2
  go_ret
  refine ⟨_,rfl, ?_,hB⟩;have u3:=HR.out;rw[zK] at u3;rw[HSZ.out];unfold szq;omega
end
section
open Go.RowKit
open GoE (enc)
section
variable {α:Type} [GoE α] {P:Program} {tt:List (Nat×TI)} {f g t6:Nat} {fn:Func} {i0 i1 i2 i3 i4 i5 i6 i7 i8 B B1:Nat} {O0 O1 O2 O3 O4 O5 O6 O7 O8:Array Oper}
theorem eqS (htt:Gs P tt=true) (hm:P.follows .mixedOrders=true) (hf:P.funcs[f]? =some fn) (b8:Bool) (o:α->Ob) (ho:∀(w0:Base) [GoodAt P w0] (a:α),(o a).holds (Zz P w0) (Ul P w0)) (l:List α)
 (hb:fn.body=some (.seq (.region i0 O0 false) (.seq (.seq (.region i1 O1 false) (.cond (.tmp 10) (.seq (.region i2 O2 false) .ret) .skip)) (.seq (.seq (.region i3 O3 false) (.block B (.loop (.seq (.seq (.region i4 O4 false) (.cond (.tmp 14) .skip (.exit B))) (.seq (.block B1 (.seq (.region i6 O6 true) (.cond (.tmp t6) (.seq (.region i7 O7 false) .ret) .skip))) (.region i5 O5 false)))))) (.seq (.region i8 O8 false) .ret)))):=by exact rfl)
 (hok:It P f:=by unfold It;kernel_rfl) (hn:2<=fn.ntmps:=by exact zT rfl)
 (h0:A9 tt fn.ntmps [] O0.toList [0,1,4] [] (CP [.h l,.h l])=some (⟨[(0,.h l),(1,.h l),(4,.b false)], []⟩, []):=by kernel_rfl)
 (h1:A9 tt fn.ntmps [(1,.val (.i (l.length:Int))),(3,.val (.i (l.length:Int))),(4,.val (.b false))] O1.toList [0,1,4,10] [] ⟨[(0,.h l),(1,.h l),(4,.b false)], []⟩=some (⟨[(0,.h l),(1,.h l),(4,.b false),(10,.b false)], []⟩, [.eq (.i ((eL l).length:Int)) (.i (l.length:Int)),.eq (.i ((eL l).length:Int)) (.i (l.length:Int)),.eq (.b ((l.length:Int) !=(l.length:Int))) (.b false)]):=by kernel_rfl)
 (h3:A9 tt fn.ntmps [] O3.toList [5,0,1,4] [] ⟨[(0,.h l),(1,.h l),(4,.b false),(10,.b false)], []⟩=some (⟨[(5,.i 0),(0,.h l),(1,.h l),(4,.b false)], []⟩, []):=by kernel_rfl)
 (h4:∀(k:Nat) (b:Bool),A9 tt fn.ntmps [(2,.val (.i (l.length:Int))),(3,.val (.b b))] O4.toList [5,0,1,4,14] [] ⟨[(5,.i (k:Int)),(0,.h l),(1,.h l),(4,.b false)], []⟩=some (⟨[(5,.i (k:Int)),(0,.h l),(1,.h l),(4,.b false),(14,.b b)], []⟩, [.eq (.i ((eL l).length:Int)) (.i (l.length:Int)),.eq (.b (decide ((k:Int)<(l.length:Int)))) (.b b)]):=by intro k b;kernel_rfl)
 (h6:∀(k:Nat) (a:α),Fd tt fn.ntmps [(2,.row (enc a)),(6,.row (enc a)),(8,.val (.b b8))] O6.toList [5,0,1,4,t6] [] ⟨[(5,.i (k:Int)),(0,.h l),(1,.h l),(4,.b false),(14,.b true)], []⟩=some (⟨[(5,.i (k:Int)),(0,.h l),(1,.h l),(4,.b false),(t6,.b false)], []⟩, [.elem (eL l) (k:Int) (enc a),.elem (eL l) (k:Int) (enc a),o a]):=by intro k a;kernel_rfl)
 (h7:∀k:Nat,get [(5,AV.i (k:Int)),(0,.h l),(1,.h l),(4,.b false),(t6,.b false)] t6=some (.b false):=by intro k;kernel_rfl)
 (h5:∀k:Nat,A9 tt fn.ntmps [(1,.val (.i ((k+1:Nat):Int)))] O5.toList [5,0,1,4] [] ⟨[(5,.i (k:Int)),(0,.h l),(1,.h l),(4,.b false),(t6,.b false)], []⟩=some (⟨[(5,.i ((k+1:Nat):Int)),(0,.h l),(1,.h l),(4,.b false)], []⟩, [.eq (.i (IntKind.i64.wrap ((k:Int)+1))) (.i ((k+1:Nat):Int))]):=by intro k;kernel_rfl)
 (h8:A9 tt fn.ntmps [] O8.toList [4] [] ⟨[(4,.b false)], []⟩=some (⟨[(4,.b true)], []⟩, []):=by kernel_rfl)
 (hr:XZ tt fn.results.toList ⟨[(4,.b true)], []⟩=some (.b true):=by kernel_rfl):ACalls P f [.h l,.h l] (.b true):=by
 refine KW htt hf hb hok hn λw0 F0 hG=> ?_
 refine Qc (Wl htt [] _ _ h0 p0 ?_);refine Qc (Qc (Wl htt _ _ _ h1 (pl 1 l (pl 3 l (pf 4 (by simp) p0))) ?_));refine ckF (Qe ?_);refine Qc (Qc (Wl htt [] _ _ h3 p0 ?_));refine wT 0 0 .sh l (λhw hl=> ?_) rfl;refine Pa (R:=Bool) (τ:=Unit) (λ_ _ (_:Unit)=> .next ()) (λ_ _=>()) l () (λk _=> [(5,.i (k:Int))]) [5] (λ_=> []) [0,1,5] (Qd rfl) (λk s hk hI=> ?_) (λk s hk hI=> ?_) (λy _=> ?_)
 . obtain ⟨a,hx⟩:=Xs (l:=l) (i:=k) hk;refine Qc (Qc (Wl htt _ _ _ (h4 k true) (pl 2 l (pt 3 (decide_eq_true (p:=(k:Int)<(l.length:Int)) (by omega)) p0)) ?_));refine ckT (Qe ?_);refine Qc (Qt (Qc (JL htt hm _ _ _ (h6 k a) (pn 2 hx (pn 6 hx (po 8 (.val (.b b8)) (px (ho w0 a) p0)))) ?_)));refine T9 (h7 k) (Qe ?_);refine Wl htt _ _ _ (h5 k) (pe 1 (J6 (Ql k (by omega))) p0) ?_;exact ⟨(),Qd rfl,Qp hx rfl hI⟩
 . refine Qc (Qc (Wl htt _ _ _ (h4 k false) (pl 2 l (pf 3 (decide_eq_false (p:=(k:Int)<(l.length:Int)) (by omega)) p0)) ?_));refine ckF (Q9 ?_);show (bif zS B B then _ else _:Prop);rw[Nat.beq_refl];exact ⟨(),Qd rfl,Xt hk rfl hI⟩
 refine Qc (Wl htt [] _ _ h8 p0 (Qh ?_));exact Mj [] hr rfl
def eqZ (a:α):St:=⟨[(2,.p 2 0),(3,.p 3 0),(4,.b false)], [(2,(enc a).map shC),(3,(enc a).map shC)]⟩
variable {N:Nat} {w0:Base} {F0:Nat->Prop} {c y:Code} {rs:List ResultVar} {t:Nat}
theorem eqA (htt:Gs P tt=true) (hf:P.funcs[f]? =some fn) (a:α) (k:∀(w0:Base) (F0:Nat->Prop) (_:GoodAt P w0),AWP P fn.ntmps w0 F0 c (Qbm tt fn.results.toList (.b true)) (eqZ a))
 (hb:fn.body=some (.seq (.region i0 O0 false) c):=by exact rfl) (hok:It P f:=by unfold It;kernel_rfl) (hn:2<=fn.ntmps:=by exact zT rfl)
 (h0:A9 tt fn.ntmps [] O0.toList [2,3,4] [2,3] (CP [Cw a,Cw a])=some (eqZ a, []):=by kernel_rfl):ACalls P f [Cw a,Cw a] (.b true):=
 KW htt hf hb hok hn λw0 F0 hG=>Qc (Wl htt [] _ _ h0 p0 (k w0 F0 hG))
def eqY (a:α) (t:Nat) (b:Bool):St:=⟨[(2,.p 2 0),(3,.p 3 0),(4,.b false),(t,.b b)], [(2,(enc a).map shC),(3,(enc a).map shC)]⟩
theorem eqF (htt:Gs P tt=true) {a:α} {b:Bool} {Q:Exit->St->Prop} (k:AWP P N w0 F0 y Q (eqZ a)) (hc:b=false:=by simp)
 (h:A9 tt N [(O1.size-1,.val (.b false))] O1.toList [2,3,4,t] [2,3] (eqZ a)=some (eqY a t false, [.eq (.b b) (.b false)]):=by kernel_rfl) (hg:get (eqY a t false).tm t=some (.b false):=by kernel_rfl) (hk:(eqY a t false).keep [2,3,4] [2,3]=eqZ a:=by kernel_rfl):AWP P N w0 F0 (.seq (.seq (.region i1 O1 false) (.cond (.tmp t) (.seq (.region i2 O2 false) .ret) .skip)) y) Q (eqZ a):=
 Qc (Qc (Wl htt _ _ _ h (pf (O1.size-1) hc p0) (T9 hg (Qe (Mi (KU _ _ hk) k)))))
theorem eqG (htt:Gs P tt=true) {a:α} {v:AV} {Q:Exit->St->Prop} [GoodAt P w0] (hv:ACalls P g [v,v] (.b true)) (k:AWP P N w0 F0 y Q (eqZ a))
 (h:A9 tt N [(O1.size-2,.val (.b true))] O1.toList [2,3,4,t] [2,3] (eqZ a)=some (eqY a t false, [.call g [v,v] (.b true)]):=by kernel_rfl) (hg:get (eqY a t false).tm t=some (.b false):=by kernel_rfl) (hk:(eqY a t false).keep [2,3,4] [2,3]=eqZ a:=by kernel_rfl):AWP P N w0 F0 (.seq (.seq (.region i1 O1 false) (.cond (.tmp t) (.seq (.region i2 O2 false) .ret) .skip)) y) Q (eqZ a):=
 Qc (Qc (Wl htt _ _ _ h (pc (O1.size-2) hv p0) (T9 hg (Qe (Mi (KU _ _ hk) k)))))
theorem eqE (htt:Gs P tt=true) {a:α} (h:A9 tt N [] O1.toList [4] [] (eqZ a)=some (⟨[(4,.b true)], []⟩, []):=by kernel_rfl) (hr:XZ tt rs ⟨[(4,.b true)], []⟩=some (.b true):=by kernel_rfl):AWP P N w0 F0 (.seq (.region i1 O1 false) .ret) (Qbm tt rs (.b true)) (eqZ a):=
 Qc (Wl htt [] _ _ h p0 (Qh (Mj [] hr rfl)))
theorem eqI (htt:Gs P tt=true) {a:α} (x:Int) {Q:Exit->St->Prop} (k:AWP P N w0 F0 y Q (eqZ a))
 (h:A9 tt N [(O1.size-1,.val (.b false))] O1.toList [2,3,4,t] [2,3] (eqZ a)=some (eqY a t false, [.eq (.b (x !=x)) (.b false)]):=by kernel_rfl) (hg:get (eqY a t false).tm t=some (.b false):=by kernel_rfl) (hk:(eqY a t false).keep [2,3,4] [2,3]=eqZ a:=by kernel_rfl):AWP P N w0 F0 (.seq (.seq (.region i1 O1 false) (.cond (.tmp t) (.seq (.region i2 O2 false) .ret) .skip)) y) Q (eqZ a):=eqF htt k (by simp) h hg hk
theorem eqB (htt:Gs P tt=true) {a:α} (x:Bool) {Q:Exit->St->Prop} (k:AWP P N w0 F0 y Q (eqZ a))
 (h:A9 tt N [(O1.size-1,.val (.b false))] O1.toList [2,3,4,t] [2,3] (eqZ a)=some (eqY a t false, [.eq (.b (!(x==x))) (.b false)]):=by kernel_rfl) (hg:get (eqY a t false).tm t=some (.b false):=by kernel_rfl) (hk:(eqY a t false).keep [2,3,4] [2,3]=eqZ a:=by kernel_rfl):AWP P N w0 F0 (.seq (.seq (.region i1 O1 false) (.cond (.tmp t) (.seq (.region i2 O2 false) .ret) .skip)) y) Q (eqZ a):=eqF htt k (by simp) h hg hk
theorem eqT (htt:Gs P tt=true) {a:α} (x:ByteArray) {Q:Exit->St->Prop} (k:AWP P N w0 F0 y Q (eqZ a))
 (h:A9 tt N [(O1.size-1,.val (.b false))] O1.toList [2,3,4,t] [2,3] (eqZ a)=some (eqY a t false, [.eq (.b (!(x.toList==x.toList))) (.b false)]):=by kernel_rfl) (hg:get (eqY a t false).tm t=some (.b false):=by kernel_rfl) (hk:(eqY a t false).keep [2,3,4] [2,3]=eqZ a:=by kernel_rfl):AWP P N w0 F0 (.seq (.seq (.region i1 O1 false) (.cond (.tmp t) (.seq (.region i2 O2 false) .ret) .skip)) y) Q (eqZ a):=eqF htt k (by simp) h hg hk
end
end
section
open Go.RowKit
open GoD (rd own)
set_option maxRecDepth 100000
set_option maxHeartbeats 1000000
theorem cBt {w v:World} {a:Addr} {x:Value} (hB:Below w.heap.size w v) (h:w.cell? a=some x):v.cell? a=some x:=(hB.cell (World.block_lt_of_cell? w _ h)).trans h
theorem zSt:(∀(w:World) o,(w.alloc o).heap.size=w.heap.size+1)/\(∀(w:World) a v,(w.setCell a v).heap.size=w.heap.size)/\∀w:World,w.drew.heap.size=w.heap.size:=⟨λ_ _=>World.size_alloc ..,λ_ _ _=>World.size_setCell ..,λ_=>rfl⟩
abbrev tI {α:Type} [GoD α] (w:World) (e:TypeId) (l:List α) (i:Value) (wr:World):Prop:=∃k:Nat,k<=l.length/\i= .int .i64 k/\Below w.heap.size w wr/\w.heap.size<wr.heap.size/\Hid (Part wr w.heap.size l.length e l k)
theorem cXt {w:World} {g:Nat} {cur:Array Value} {e:TypeId} {fr:Nat×Nat} (h:w.heap[g]? =some (.cells cur e fr)) (o:Nat) (ho:o<cur.size):∃y,w.cell? ⟨g,o,none⟩=some y:=⟨_,Ts h o ho⟩
theorem Qee (w:World) (ca:List Value) (a:Km) (ha:rd w ca a) (hsz:GoD.size a<=1048576):Calls Tryz.prog 164 #[.agg ca.toArray] w (RetA w a):=by
 obtain ⟨a1,a2⟩:=a;obtain ⟨ac1,at1,rfl,ar1,ar2⟩:=ha;obtain ⟨rfl,ar1⟩:=ar1;obtain ⟨rfl,ar2⟩:=ar2;dsimp only[zF,zD] at*
 replace hsz:(GoD.size a1+GoD.size a2)<=1048576:=hsz
 have AR1H:=Lib.hid ar1;clear ar1;have AR2H:=Lib.hid ar2;clear ar2;go_enter Tryz.func164,Tryz.ntmps164
 go_wp2_with (first | ((with_reducible show bodyPost _ _ _ _ _ _);refine bodyPost_ret (v:= .agg #[.string a1,.int .i64 a2]) (by simp[results,Tryz.results164,go_sem]) rfl ⟨[.string a1,.int .i64 a2],([]++ []),rfl,by go_grown, ?_, ?_⟩;(exact (X0 (Pj _ AR1H.out) (A5 _ AR2H.out) (by simp)));simp))
theorem Qaf (w:World) (v:Value) (l:List Km) (ha:rd w [v] l) (hsz:GoD.size l<=1048576):Calls Tryz.prog 112 #[v] w (RetS w l):=by
 obtain ⟨oa,cap,e1,hl,hm,hel⟩:=ha;obtain rfl:v=_:=by simpa using e1
 clear e1;have HE:=Lib.hid hel;clear hel;have hn:l.length<=1048576:=by have:=V4 l;omega
 have HS:=Lib.hid (λi a (h:l[i]? =some a)=>Vq h);have hlm:l.length<=maxLen:=by omega
 go_enter Tryz.func112,Tryz.ntmps112
 go_wp2_with (at_make;refine Lm w (.tmp 6) (.tmp 6) 40 208 2 l.length rfl rfl Tryz.underlying40 (by kernel_rfl) rfl rfl (by omega) (by go_grown) ?_;intro w1 cur hcur hcs hB1 hb1 hlt1)
 go_loopw [4] (tI w 208 l) (λi _=>l.length-(intOf i).toNat)
 case atStart=>exact ⟨0,zJ _,rfl,hB1,hlt1,Part.start hcur hcs l⟩
 case round=>
  obtain ⟨k,hk,rfl,hB,hlt,hP⟩:=hrel;clear hB1 hb1 hlt1 hcur hcs;by_cases hkl:k<l.length
  . have hx:=zE hkl;obtain ⟨eb,eo,ee,rfl,hcl,hcc,hxr⟩:=HE.out k _ hx;have hxs:=HS.out k _ hx;have HX:=Lib.hid hx;clear hx;generalize l[k]=x at*;obtain ⟨cur2,hg,hgs⟩:=hP.out.block;have hgs2:cur2.size=l.length*2:=hgs;have hroom:=zL 2 (show k+1<=l.length by omega);obtain ⟨x0,x1,rfl⟩:=YE (show _=2 from hcl);have p0:wr.cell? ⟨eb,eo+k*2,none⟩=some x0:=cBt hB (hcc 0 _ rfl);have p1:wr.cell? ⟨eb,eo+k*2+1,none⟩=some x1:=cBt hB (hcc 1 _ rfl);have HXR:=Lib.hid hxr;clear hxr hcc hcl;have HG:=Lib.hid hg;clear hg;go_wp2_with (go_at_call 164;refine Wj (w:=w) (Qee _ [x0,x1] x (Xw HXR.out hB) (by omega)) (by go_grown) ?_;intro w2 cs L hB2 hb2 hz2 _ ho hL;obtain rfl:=LZ (GoD.own_rd ho);have hg2:=(hb2.block _ hlt).trans HG.out;obtain ⟨z0,q0⟩:=cXt hg2 (k*2) (by omega);obtain ⟨z1,q1⟩:=cXt hg2 (k*2+1) (by omega);have fz:=Jc hg2;clear hg2;have HO:=Lib.hid ho;clear ho;have HL:=Lib.hid hL;clear hL;have HB2:=Lib.hid hb2;clear hb2)
    go_roundw
    case rel=>exact ⟨k+1,by omega,by go_num,by go_grown,by simp only[World.size_setCell];omega,by
     have h:=hP.out.step HB2.out hkl hk HX.out HO.out HL.out;rw[show GoD.n Km=2 from rfl] at h;simp only[World.setCells,zN,Nat.reduceAdd] at h;exact h⟩
    case measure=>simp[intOf];omega
  obtain rfl:k=l.length:=by omega
  go_wp2
  go_ret
  obtain ⟨L,hL,hLB⟩:=hP.out.done hlm;exact ⟨_,L,rfl,hB,hL,hLB⟩
theorem IV (w:World) (ca:List Value) (a:Dr) (ha:rd w ca a) (hsz:GoD.size a<=1048576):Calls Tryz.prog 212 #[.agg ca.toArray] w (RetA w a):=by
 obtain ⟨a1,a2,a3⟩:=a;obtain ⟨ac1,at1,rfl,ar1,ac2,at2,rfl,ar2,ar3⟩:=ha;obtain ⟨rfl,ar1⟩:=ar1;obtain ⟨rfl,ar2⟩:=ar2;obtain ⟨rfl,ar3⟩:=ar3;dsimp only[zF,zD] at*
 replace hsz:(GoD.size a1+(GoD.size a2+GoD.size a3))<=1048576:=hsz
 have AR1H:=Lib.hid ar1;clear ar1;have AR2H:=Lib.hid ar2;clear ar2;have AR3H:=Lib.hid ar3;clear ar3;go_enter Tryz.func212,Tryz.ntmps212
 go_wp2_with (first | ((with_reducible show bodyPost _ _ _ _ _ _);refine bodyPost_ret (v:= .agg #[.int .i64 a1,.int .i64 a2,.string a3]) (by simp[results,Tryz.results212,go_sem]) rfl ⟨[.int .i64 a1,.int .i64 a2,.string a3],([]++([]++ [])),rfl,by go_grown, ?_, ?_⟩;(exact (X0 (A5 _ AR1H.out) (X0 (A5 _ AR2H.out) (Pj _ AR3H.out) (by simp)) (by simp)));simp))
theorem Qg9 (w:World) (ca:List Value) (a:Ee) (ha:rd w ca a) (hsz:GoD.size a<=1048576):Calls Tryz.prog 166 #[.agg ca.toArray] w (RetA w a):=by
 obtain ⟨a1,a2⟩:=a;obtain ⟨ac1,at1,rfl,ar1,ar2⟩:=ha;obtain ⟨rfl,ar1⟩:=ar1;obtain ⟨ax2_0,ax2_1,ax2_2,rfl⟩:=SM (show _=3 from GoD.rd_len ar2);dsimp only[zF,zD] at*
 replace hsz:(GoD.size a1+GoD.size a2)<=1048576:=hsz
 have AR1H:=Lib.hid ar1;clear ar1;have AR2H:=Lib.hid ar2;clear ar2;have tok1:True:=trivial;go_enter Tryz.func166,Tryz.ntmps166
 go_wp2_with (first | (go_at_call 212;have tk:=tok1;clear tok1;refine Wj (w:=w) (IV _ [ax2_0,ax2_1,ax2_2] a2 (Xw AR2H.out (by go_grown)) (by omega)) (by go_grown) ?_;intro w1 cs1 L1 hB hb hz _ ho1 hL1;obtain rfl:=VG (GoD.own_rd ho1);have hz2:=hb.size;(try simp only[zSt] at hz2);(try simp only[zSt] at hL1);have hlt1:=GoD.own_lt ho1;have c1_0:=λo=>Z0 hb (w.heap.size) o (by go_size);have f1_0:=λo=>Kl hb (w.heap.size) o (by go_size);have c1_1:=λo=>Z0 hb (w.heap.size+1) o (by go_size);have f1_1:=λo=>Kl hb (w.heap.size+1) o (by go_size);have c1_2:=λo=>Z0 hb (w.heap.size+1+1) o (by go_size);have f1_2:=λo=>Kl hb (w.heap.size+1+1) o (by go_size);have HO1:=Lib.hid ho1;clear ho1;have HL1:=Lib.hid hL1;clear hL1;have HT1:=Lib.hid hlt1;clear hlt1;have HB1:=Lib.hid hb;clear hb) | ((with_reducible show bodyPost _ _ _ _ _ _);refine bodyPost_ret (v:= .agg #[.string a1,.int .i64 a2.1,.int .i64 a2.2.1,.string a2.2.2]) (by simp[results,Tryz.results166,go_sem,c1_1]) rfl ⟨[.string a1,.int .i64 a2.1,.int .i64 a2.2.1,.string a2.2.2],([]++L1),rfl,by go_grown, ?_, ?_⟩;(exact (X0 (Pj _ AR1H.out) (show own L1 _ [.int .i64 a2.1,.int .i64 a2.2.1,.string a2.2.2] a2 by (repeat (first | (with_reducible exact HO1.out) | ((with_reducible refine X5 ?_ ?_);rotate_left;exact (λhm=>by have:=HL1.out _ hm;omega)) | (with_reducible refine Y6 ?_) | (with_reducible refine Wh ?_)))) (by simp)));intro x hx;(try simp only[zG,List.not_mem_nil,zH,zD,false_or,or_false] at hx);rcases hx with hx<;>first | (have:=HL1.out x hx;omega)))
theorem Qef (w:World) (v:Value) (l:List Ee) (ha:rd w [v] l) (hsz:GoD.size l<=1048576):Calls Tryz.prog 117 #[v] w (RetS w l):=by
 obtain ⟨oa,cap,e1,hl,hm,hel⟩:=ha;obtain rfl:v=_:=by simpa using e1
 clear e1;have HE:=Lib.hid hel;clear hel;have hn:l.length<=1048576:=by have:=V4 l;omega
 have HS:=Lib.hid (λi a (h:l[i]? =some a)=>Vq h);have hlm:l.length<=maxLen:=by omega
 go_enter Tryz.func117,Tryz.ntmps117
 go_wp2_with (at_make;refine Lm w (.tmp 6) (.tmp 6) 89 159 4 l.length rfl rfl Tryz.underlying89 (by kernel_rfl) rfl rfl (by omega) (by go_grown) ?_;intro w1 cur hcur hcs hB1 hb1 hlt1)
 go_loopw [4] (tI w 159 l) (λi _=>l.length-(intOf i).toNat)
 case atStart=>exact ⟨0,zJ _,rfl,hB1,hlt1,Part.start hcur hcs l⟩
 case round=>
  obtain ⟨k,hk,rfl,hB,hlt,hP⟩:=hrel;clear hB1 hb1 hlt1 hcur hcs;by_cases hkl:k<l.length
  . have hx:=zE hkl;obtain ⟨eb,eo,ee,rfl,hcl,hcc,hxr⟩:=HE.out k _ hx;have hxs:=HS.out k _ hx;have HX:=Lib.hid hx;clear hx;generalize l[k]=x at*;obtain ⟨cur2,hg,hgs⟩:=hP.out.block;have hgs2:cur2.size=l.length*4:=hgs;have hroom:=zL 4 (show k+1<=l.length by omega);obtain ⟨x0,x1,x2,x3,rfl⟩:=Qkq (show _=4 from hcl);have p0:wr.cell? ⟨eb,eo+k*4,none⟩=some x0:=cBt hB (hcc 0 _ rfl);have p1:wr.cell? ⟨eb,eo+k*4+1,none⟩=some x1:=cBt hB (hcc 1 _ rfl);have p2:wr.cell? ⟨eb,eo+k*4+2,none⟩=some x2:=cBt hB (hcc 2 _ rfl);have p3:wr.cell? ⟨eb,eo+k*4+3,none⟩=some x3:=cBt hB (hcc 3 _ rfl);have HXR:=Lib.hid hxr;clear hxr hcc hcl;have HG:=Lib.hid hg;clear hg;go_wp2_with (go_at_call 166;refine Wj (w:=w) (Qg9 _ [x0,x1,x2,x3] x (Xw HXR.out hB) (by omega)) (by go_grown) ?_;intro w2 cs L hB2 hb2 hz2 _ ho hL;obtain rfl:=SN (GoD.own_rd ho);have hg2:=(hb2.block _ hlt).trans HG.out;obtain ⟨z0,q0⟩:=cXt hg2 (k*4) (by omega);obtain ⟨z1,q1⟩:=cXt hg2 (k*4+1) (by omega);obtain ⟨z2,q2⟩:=cXt hg2 (k*4+2) (by omega);obtain ⟨z3,q3⟩:=cXt hg2 (k*4+3) (by omega);have fz:=Jc hg2;clear hg2;have HO:=Lib.hid ho;clear ho;have HL:=Lib.hid hL;clear hL;have HB2:=Lib.hid hb2;clear hb2)
    go_roundw
    case rel=>exact ⟨k+1,by omega,by go_num,by go_grown,by simp only[World.size_setCell];omega,by
     have h:=hP.out.step HB2.out hkl hk HX.out HO.out HL.out;rw[show GoD.n Ee=4 from rfl] at h;simp only[World.setCells,zN,Nat.reduceAdd] at h;exact h⟩
    case measure=>simp[intOf];omega
  obtain rfl:k=l.length:=by omega
  go_wp2
  go_ret
  obtain ⟨L,hL,hLB⟩:=hP.out.done hlm;exact ⟨_,L,rfl,hB,hL,hLB⟩
theorem RL (w:World) (ca:List Value) (a:Xx) (ha:rd w ca a) (hsz:GoD.size a<=1048576):Calls Tryz.prog 67 #[.agg ca.toArray] w (RetA w a):=by
 obtain ⟨a1,a2,a3,a4,a5⟩:=a;obtain ⟨ac1,at1,rfl,ar1,ac2,at2,rfl,ar2,ac3,at3,rfl,ar3,ac4,at4,rfl,ar4,ar5⟩:=ha;obtain ⟨rfl,ar1⟩:=ar1;obtain ⟨rfl,ar2⟩:=ar2;obtain rfl:=ar3;obtain ⟨rfl,ar4⟩:=ar4;obtain ⟨ax5_0,rfl⟩:=Bf (show _=1 from GoD.rd_len ar5);dsimp only[zF,zD] at*
 replace hsz:(GoD.size a1+(GoD.size a2+(GoD.size a3+(GoD.size a4+GoD.size a5))))<=1048576:=hsz
 have AR1H:=Lib.hid ar1;clear ar1;have AR2H:=Lib.hid ar2;clear ar2;have AR4H:=Lib.hid ar4;clear ar4;have AR5H:=Lib.hid ar5;clear ar5;have tok1:True:=trivial;go_enter Tryz.func67,Tryz.ntmps67
 go_wp2_with (first | (go_at_call 117;have tk:=tok1;clear tok1;refine Hv (w:=w) (Qef _ ax5_0 a5 (Xw AR5H.out (by go_grown)) (by omega)) (by go_grown) ?_;intro w1 v1 L1 hB hb hz _ ho1 hL1;obtain ⟨oa1,cp1,rfl⟩:=Yd ho1;have hz2:=hb.size;(try simp only[zSt] at hz2);(try simp only[zSt] at hL1);have hlt1:=GoD.own_lt ho1;have c1_0:=λo=>Z0 hb (w.heap.size) o (by go_size);have f1_0:=λo=>Kl hb (w.heap.size) o (by go_size);have c1_1:=λo=>Z0 hb (w.heap.size+1) o (by go_size);have f1_1:=λo=>Kl hb (w.heap.size+1) o (by go_size);have c1_2:=λo=>Z0 hb (w.heap.size+1+1) o (by go_size);have f1_2:=λo=>Kl hb (w.heap.size+1+1) o (by go_size);have HO1:=Lib.hid ho1;clear ho1;have HL1:=Lib.hid hL1;clear hL1;have HT1:=Lib.hid hlt1;clear hlt1;have HB1:=Lib.hid hb;clear hb) | ((with_reducible show bodyPost _ _ _ _ _ _);refine bodyPost_ret (v:= .agg #[.int .i64 a1,.int .i64 a2,.bool a3,.int .i64 a4,.slice oa1 a5.length cp1]) (by simp[results,Tryz.results67,go_sem,c1_1]) rfl ⟨[.int .i64 a1,.int .i64 a2,.bool a3,.int .i64 a4,.slice oa1 a5.length cp1],([]++([]++([]++([]++L1)))),rfl,by go_grown, ?_, ?_⟩;(exact (X0 (A5 _ AR1H.out) (X0 (A5 _ AR2H.out) (X0 (Qik _ _) (X0 (A5 _ AR4H.out) (show own L1 _ [.slice oa1 a5.length cp1] a5 by (repeat (first | (with_reducible exact HO1.out) | ((with_reducible refine X5 ?_ ?_);rotate_left;exact (λhm=>by have:=HL1.out _ hm;omega)) | (with_reducible refine Y6 ?_) | (with_reducible refine Wh ?_)))) (by simp)) (by simp)) (by simp)) (by simp)));intro x hx;(try simp only[zG,List.not_mem_nil,zH,zD,false_or,or_false] at hx);rcases hx with hx<;>first | (have:=HL1.out x hx;omega)))
theorem Qeg (w:World) (v:Value) (l:List Xx) (ha:rd w [v] l) (hsz:GoD.size l<=1048576):Calls Tryz.prog 113 #[v] w (RetS w l):=by
 obtain ⟨oa,cap,e1,hl,hm,hel⟩:=ha;obtain rfl:v=_:=by simpa using e1
 clear e1;have HE:=Lib.hid hel;clear hel;have hn:l.length<=1048576:=by have:=V4 l;omega
 have HS:=Lib.hid (λi a (h:l[i]? =some a)=>Vq h);have hlm:l.length<=maxLen:=by omega
 go_enter Tryz.func113,Tryz.ntmps113
 go_wp2_with (at_make;refine Lm w (.tmp 6) (.tmp 6) 41 91 5 l.length rfl rfl Tryz.underlying41 (by kernel_rfl) rfl rfl (by omega) (by go_grown) ?_;intro w1 cur hcur hcs hB1 hb1 hlt1)
 go_loopw [4] (tI w 91 l) (λi _=>l.length-(intOf i).toNat)
 case atStart=>exact ⟨0,zJ _,rfl,hB1,hlt1,Part.start hcur hcs l⟩
 case round=>
  obtain ⟨k,hk,rfl,hB,hlt,hP⟩:=hrel;clear hB1 hb1 hlt1 hcur hcs;by_cases hkl:k<l.length
  . have hx:=zE hkl;obtain ⟨eb,eo,ee,rfl,hcl,hcc,hxr⟩:=HE.out k _ hx;have hxs:=HS.out k _ hx;have HX:=Lib.hid hx;clear hx;generalize l[k]=x at*;obtain ⟨cur2,hg,hgs⟩:=hP.out.block;have hgs2:cur2.size=l.length*5:=hgs;have hroom:=zL 5 (show k+1<=l.length by omega);obtain ⟨x0,x1,x2,x3,x4,rfl⟩:=Qjo (show _=5 from hcl);have p0:wr.cell? ⟨eb,eo+k*5,none⟩=some x0:=cBt hB (hcc 0 _ rfl);have p1:wr.cell? ⟨eb,eo+k*5+1,none⟩=some x1:=cBt hB (hcc 1 _ rfl);have p2:wr.cell? ⟨eb,eo+k*5+2,none⟩=some x2:=cBt hB (hcc 2 _ rfl);have p3:wr.cell? ⟨eb,eo+k*5+3,none⟩=some x3:=cBt hB (hcc 3 _ rfl);have p4:wr.cell? ⟨eb,eo+k*5+4,none⟩=some x4:=cBt hB (hcc 4 _ rfl);have HXR:=Lib.hid hxr;clear hxr hcc hcl;have HG:=Lib.hid hg;clear hg;go_wp2_with (go_at_call 67;refine Wj (w:=w) (RL _ [x0,x1,x2,x3,x4] x (Xw HXR.out hB) (by omega)) (by go_grown) ?_;intro w2 cs L hB2 hb2 hz2 _ ho hL;obtain ⟨eoa1,ecp1,rfl⟩:=BE (GoD.own_rd ho);have hg2:=(hb2.block _ hlt).trans HG.out;obtain ⟨z0,q0⟩:=cXt hg2 (k*5) (by omega);obtain ⟨z1,q1⟩:=cXt hg2 (k*5+1) (by omega);obtain ⟨z2,q2⟩:=cXt hg2 (k*5+2) (by omega);obtain ⟨z3,q3⟩:=cXt hg2 (k*5+3) (by omega);obtain ⟨z4,q4⟩:=cXt hg2 (k*5+4) (by omega);have fz:=Jc hg2;clear hg2;have HO:=Lib.hid ho;clear ho;have HL:=Lib.hid hL;clear hL;have HB2:=Lib.hid hb2;clear hb2)
    go_roundw
    case rel=>exact ⟨k+1,by omega,by go_num,by go_grown,by simp only[World.size_setCell];omega,by
     have h:=hP.out.step HB2.out hkl hk HX.out HO.out HL.out;rw[show GoD.n Xx=5 from rfl] at h;simp only[World.setCells,zN,Nat.reduceAdd] at h;exact h⟩
    case measure=>simp[intOf];omega
  obtain rfl:k=l.length:=by omega
  go_wp2
  go_ret
  obtain ⟨L,hL,hLB⟩:=hP.out.done hlm;exact ⟨_,L,rfl,hB,hL,hLB⟩
theorem IW (w:World) (ca:List Value) (a:Xr) (ha:rd w ca a) (hsz:GoD.size a<=1048576):Calls Tryz.prog 62 #[.agg ca.toArray] w (RetA w a):=by
 obtain ⟨a1,a2,a3⟩:=a;obtain ⟨ac1,at1,rfl,ar1,ac2,at2,rfl,ar2,ar3⟩:=ha;obtain ⟨ax1_0,rfl⟩:=Bf (show _=1 from GoD.rd_len ar1);obtain ⟨ax2_0,rfl⟩:=Bf (show _=1 from GoD.rd_len ar2);obtain ⟨rfl,ar3⟩:=ar3;dsimp only[zF,zD] at*
 replace hsz:(GoD.size a1+(GoD.size a2+GoD.size a3))<=1048576:=hsz
 have AR1H:=Lib.hid ar1;clear ar1;have AR2H:=Lib.hid ar2;clear ar2;have AR3H:=Lib.hid ar3;clear ar3;have tok1:True:=trivial;have tok2:True:=trivial;go_enter Tryz.func62,Tryz.ntmps62
 go_wp2_with (first | (go_at_call 112;have tk:=tok1;clear tok1;refine Hv (w:=w) (Qaf _ ax1_0 a1 (Xw AR1H.out (by go_grown)) (by omega)) (by go_grown) ?_;intro w1 v1 L1 hB hb hz _ ho1 hL1;obtain ⟨oa1,cp1,rfl⟩:=Yd ho1;have hz2:=hb.size;(try simp only[zSt] at hz2);(try simp only[zSt] at hL1);have hlt1:=GoD.own_lt ho1;have c1_0:=λo=>Z0 hb (w.heap.size) o (by go_size);have f1_0:=λo=>Kl hb (w.heap.size) o (by go_size);have c1_1:=λo=>Z0 hb (w.heap.size+1) o (by go_size);have f1_1:=λo=>Kl hb (w.heap.size+1) o (by go_size);have c1_2:=λo=>Z0 hb (w.heap.size+1+1) o (by go_size);have f1_2:=λo=>Kl hb (w.heap.size+1+1) o (by go_size);have HO1:=Lib.hid ho1;clear ho1;have HL1:=Lib.hid hL1;clear hL1;have HT1:=Lib.hid hlt1;clear hlt1;have HB1:=Lib.hid hb;clear hb) | (go_at_call 113;have tk:=tok2;clear tok2;refine Hv (w:=w) (Qeg _ ax2_0 a2 (Xw AR2H.out (by go_grown)) (by omega)) (by go_grown) ?_;intro w2 v2 L2 hB hb hz _ ho2 hL2;obtain ⟨oa2,cp2,rfl⟩:=Yd ho2;have hz2:=hb.size;(try simp only[zSt] at hz2);(try simp only[zSt] at hL2);have hlt2:=GoD.own_lt ho2;have c2_0:=λo=>Z0 hb (w.heap.size) o (by go_size);have f2_0:=λo=>Kl hb (w.heap.size) o (by go_size);have c2_1:=λo=>Z0 hb (w.heap.size+1) o (by go_size);have f2_1:=λo=>Kl hb (w.heap.size+1) o (by go_size);have c2_2:=λo=>Z0 hb (w.heap.size+1+1) o (by go_size);have f2_2:=λo=>Kl hb (w.heap.size+1+1) o (by go_size);have HO2:=Lib.hid ho2;clear ho2;have HL2:=Lib.hid hL2;clear hL2;have HT2:=Lib.hid hlt2;clear hlt2;have HB2:=Lib.hid hb;clear hb) | ((with_reducible show bodyPost _ _ _ _ _ _);refine bodyPost_ret (v:= .agg #[.slice oa1 a1.length cp1,.slice oa2 a2.length cp2,.int .i64 a3]) (by simp[results,Tryz.results62,go_sem,c1_1,c2_1]) rfl ⟨[.slice oa1 a1.length cp1,.slice oa2 a2.length cp2,.int .i64 a3],(L1++(L2++ [])),rfl,by go_grown, ?_, ?_⟩;(exact (X0 (show own L1 _ [.slice oa1 a1.length cp1] a1 by (repeat (first | (with_reducible exact HO1.out) | ((with_reducible refine X5 ?_ ?_);rotate_left;exact (λhm=>by have:=HL1.out _ hm;omega)) | (with_reducible refine Y6 ?_) | (with_reducible refine Wh ?_) | (with_reducible refine Ku ?_ HB2.out)))) (X0 (show own L2 _ [.slice oa2 a2.length cp2] a2 by (repeat (first | (with_reducible exact HO2.out) | ((with_reducible refine X5 ?_ ?_);rotate_left;exact (λhm=>by have:=HL2.out _ hm;omega)) | (with_reducible refine Y6 ?_) | (with_reducible refine Wh ?_)))) (A5 _ AR3H.out) (by simp)) (λx hx hy=>by (try simp only[zG,List.not_mem_nil,zH,zD,false_or,or_false] at hy);have:=HT1.out x hx;rcases hy with hy<;>(first | (have:=HL2.out x hy;omega)))));intro x hx;(try simp only[zG,List.not_mem_nil,zH,zD,false_or,or_false] at hx);rcases hx with hx | hx<;>first | (have:=HL1.out x hx;omega) | (have:=HL2.out x hx;omega)))
theorem Qha (w:World) (ca:List Value) (a:Yz) (ha:rd w ca a) (hsz:GoD.size a<=1048576):Calls Tryz.prog 167 #[.agg ca.toArray] w (RetA w a):=by
 obtain ⟨a1,a2,a3,a4,a5⟩:=a;obtain ⟨ac1,at1,rfl,ar1,ac2,at2,rfl,ar2,ac3,at3,rfl,ar3,ac4,at4,rfl,ar4,ar5⟩:=ha;obtain ⟨rfl,ar1⟩:=ar1;obtain ⟨rfl,ar2⟩:=ar2;obtain ⟨rfl,ar3⟩:=ar3;obtain ⟨rfl,ar4⟩:=ar4;obtain ⟨ax5_0,ax5_1,ax5_2,rfl⟩:=SM (show _=3 from GoD.rd_len ar5);dsimp only[zF,zD] at*
 replace hsz:(GoD.size a1+(GoD.size a2+(GoD.size a3+(GoD.size a4+GoD.size a5))))<=1048576:=hsz
 have AR1H:=Lib.hid ar1;clear ar1;have AR2H:=Lib.hid ar2;clear ar2;have AR3H:=Lib.hid ar3;clear ar3;have AR4H:=Lib.hid ar4;clear ar4;have AR5H:=Lib.hid ar5;clear ar5;have tok1:True:=trivial;go_enter Tryz.func167,Tryz.ntmps167
 go_wp2_with (first | (go_at_call 212;have tk:=tok1;clear tok1;refine Wj (w:=w) (IV _ [ax5_0,ax5_1,ax5_2] a5 (Xw AR5H.out (by go_grown)) (by omega)) (by go_grown) ?_;intro w1 cs1 L1 hB hb hz _ ho1 hL1;obtain rfl:=VG (GoD.own_rd ho1);have hz2:=hb.size;(try simp only[zSt] at hz2);(try simp only[zSt] at hL1);have hlt1:=GoD.own_lt ho1;have c1_0:=λo=>Z0 hb (w.heap.size) o (by go_size);have f1_0:=λo=>Kl hb (w.heap.size) o (by go_size);have c1_1:=λo=>Z0 hb (w.heap.size+1) o (by go_size);have f1_1:=λo=>Kl hb (w.heap.size+1) o (by go_size);have c1_2:=λo=>Z0 hb (w.heap.size+1+1) o (by go_size);have f1_2:=λo=>Kl hb (w.heap.size+1+1) o (by go_size);have HO1:=Lib.hid ho1;clear ho1;have HL1:=Lib.hid hL1;clear hL1;have HT1:=Lib.hid hlt1;clear hlt1;have HB1:=Lib.hid hb;clear hb) | ((with_reducible show bodyPost _ _ _ _ _ _);refine bodyPost_ret (v:= .agg #[.int .i64 a1,.int .i64 a2,.int .i64 a3,.string a4,.int .i64 a5.1,.int .i64 a5.2.1,.string a5.2.2]) (by simp[results,Tryz.results167,go_sem,c1_1]) rfl ⟨[.int .i64 a1,.int .i64 a2,.int .i64 a3,.string a4,.int .i64 a5.1,.int .i64 a5.2.1,.string a5.2.2],([]++([]++([]++([]++L1)))),rfl,by go_grown, ?_, ?_⟩;(exact (X0 (A5 _ AR1H.out) (X0 (A5 _ AR2H.out) (X0 (A5 _ AR3H.out) (X0 (Pj _ AR4H.out) (show own L1 _ [.int .i64 a5.1,.int .i64 a5.2.1,.string a5.2.2] a5 by (repeat (first | (with_reducible exact HO1.out) | ((with_reducible refine X5 ?_ ?_);rotate_left;exact (λhm=>by have:=HL1.out _ hm;omega)) | (with_reducible refine Y6 ?_) | (with_reducible refine Wh ?_)))) (by simp)) (by simp)) (by simp)) (by simp)));intro x hx;(try simp only[zG,List.not_mem_nil,zH,zD,false_or,or_false] at hx);rcases hx with hx<;>first | (have:=HL1.out x hx;omega)))
theorem XM (w:World) (v:Value) (l:List Int) (ha:rd w [v] l) (hsz:GoD.size l<=1048576):Calls Tryz.prog 28 #[v] w (RetS w l):=by
 obtain ⟨oa,cap,e1,hl,hm,hel⟩:=ha;obtain rfl:v=_:=by simpa using e1
 clear e1;have HE:=Lib.hid hel;clear hel;have hn:l.length<=1048576:=by have:=V4 l;omega
 have HS:=Lib.hid (λi a (h:l[i]? =some a)=>Vq h);have hlm:l.length<=maxLen:=by omega
 go_enter Tryz.func28,Tryz.ntmps28
 go_wp2_with (at_make;refine Lm w (.tmp 6) (.tmp 6) 34 3 1 l.length rfl rfl Tryz.underlying34 (by kernel_rfl) rfl rfl (by omega) (by go_grown) ?_;intro w1 cur hcur hcs hB1 hb1 hlt1)
 go_loopw [4] (tI w 3 l) (λi _=>l.length-(intOf i).toNat)
 case atStart=>exact ⟨0,zJ _,rfl,hB1,hlt1,Part.start hcur hcs l⟩
 case round=>
  obtain ⟨k,hk,rfl,hB,hlt,hP⟩:=hrel;clear hB1 hb1 hlt1 hcur hcs;by_cases hkl:k<l.length
  . have hx:=zE hkl;obtain ⟨eb,eo,ee,rfl,hcl,hcc,hxr⟩:=HE.out k _ hx;have hxs:=HS.out k _ hx;have HX:=Lib.hid hx;clear hx;generalize l[k]=x at*;obtain ⟨cur2,hg,hgs⟩:=hP.out.block;have hgs2:cur2.size=l.length*1:=hgs;have hroom:=zL 1 (show k+1<=l.length by omega);obtain ⟨e,hxi⟩:=hxr;obtain rfl:=e;have p0:wr.cell? ⟨eb,eo+k,none⟩=some (.int .i64 x):=by have h0:=hcc 0 _ rfl;simp only[GoD.n,Nat.mul_one,Nat.add_zero] at h0;exact cBt hB h0
    have HXI:=Lib.hid hxi;clear hxi;obtain ⟨y0,q0⟩:∃y,wr.cell? ⟨w.heap.size,k,none⟩=some y:=⟨_,Ts hg k (by omega)⟩;have fz:=Jc hg;clear hcc hcl hg hgs;go_wp2
    go_roundw
    case rel=>exact ⟨k+1,by omega,by go_num,by go_grown,by simpa using hlt,by
     have h:=hP.out.step (Below.refl _ _) hkl hk HX.out (A5 wr HXI.out) (by simp);simp only[GoD.n,Nat.mul_one,World.setCells] at h;exact h⟩
    case measure=>simp[intOf];omega
  obtain rfl:k=l.length:=by omega
  go_wp2
  go_ret
  obtain ⟨L,hL,hLB⟩:=hP.out.done hlm;exact ⟨_,L,rfl,hB,hL,hLB⟩
theorem Qeh (w:World) (ca:List Value) (a:Nm) (ha:rd w ca a) (hsz:GoD.size a<=1048576):Calls Tryz.prog 165 #[.agg ca.toArray] w (RetA w a):=by
 obtain ⟨a1,a2,a3⟩:=a;obtain ⟨ac1,at1,rfl,ar1,ac2,at2,rfl,ar2,ar3⟩:=ha;obtain ⟨rfl,ar1⟩:=ar1;obtain ⟨ax2_0,rfl⟩:=Bf (show _=1 from GoD.rd_len ar2);obtain ⟨ax3_0,rfl⟩:=Bf (show _=1 from GoD.rd_len ar3);dsimp only[zF,zD] at*
 replace hsz:(GoD.size a1+(GoD.size a2+GoD.size a3))<=1048576:=hsz
 have AR1H:=Lib.hid ar1;clear ar1;have AR2H:=Lib.hid ar2;clear ar2;have AR3H:=Lib.hid ar3;clear ar3;have tok1:True:=trivial;have tok2:True:=trivial;go_enter Tryz.func165,Tryz.ntmps165
 go_wp2_with (first | (go_at_call 28;have tk:=tok1;clear tok1;refine Hv (w:=w) (XM _ ax2_0 a2 (Xw AR2H.out (by go_grown)) (by omega)) (by go_grown) ?_;intro w1 v1 L1 hB hb hz _ ho1 hL1;obtain ⟨oa1,cp1,rfl⟩:=Yd ho1;have hz2:=hb.size;(try simp only[zSt] at hz2);(try simp only[zSt] at hL1);have hlt1:=GoD.own_lt ho1;have c1_0:=λo=>Z0 hb (w.heap.size) o (by go_size);have f1_0:=λo=>Kl hb (w.heap.size) o (by go_size);have c1_1:=λo=>Z0 hb (w.heap.size+1) o (by go_size);have f1_1:=λo=>Kl hb (w.heap.size+1) o (by go_size);have c1_2:=λo=>Z0 hb (w.heap.size+1+1) o (by go_size);have f1_2:=λo=>Kl hb (w.heap.size+1+1) o (by go_size);have HO1:=Lib.hid ho1;clear ho1;have HL1:=Lib.hid hL1;clear hL1;have HT1:=Lib.hid hlt1;clear hlt1;have HB1:=Lib.hid hb;clear hb) | (go_at_call 28;have tk:=tok2;clear tok2;refine Hv (w:=w) (XM _ ax3_0 a3 (Xw AR3H.out (by go_grown)) (by omega)) (by go_grown) ?_;intro w2 v2 L2 hB hb hz _ ho2 hL2;obtain ⟨oa2,cp2,rfl⟩:=Yd ho2;have hz2:=hb.size;(try simp only[zSt] at hz2);(try simp only[zSt] at hL2);have hlt2:=GoD.own_lt ho2;have c2_0:=λo=>Z0 hb (w.heap.size) o (by go_size);have f2_0:=λo=>Kl hb (w.heap.size) o (by go_size);have c2_1:=λo=>Z0 hb (w.heap.size+1) o (by go_size);have f2_1:=λo=>Kl hb (w.heap.size+1) o (by go_size);have c2_2:=λo=>Z0 hb (w.heap.size+1+1) o (by go_size);have f2_2:=λo=>Kl hb (w.heap.size+1+1) o (by go_size);have HO2:=Lib.hid ho2;clear ho2;have HL2:=Lib.hid hL2;clear hL2;have HT2:=Lib.hid hlt2;clear hlt2;have HB2:=Lib.hid hb;clear hb) | ((with_reducible show bodyPost _ _ _ _ _ _);refine bodyPost_ret (v:= .agg #[.int .i64 a1,.slice oa1 a2.length cp1,.slice oa2 a3.length cp2]) (by simp[results,Tryz.results165,go_sem,c1_1,c2_1]) rfl ⟨[.int .i64 a1,.slice oa1 a2.length cp1,.slice oa2 a3.length cp2],([]++(L1++L2)),rfl,by go_grown, ?_, ?_⟩;(exact (X0 (A5 _ AR1H.out) (X0 (show own L1 _ [.slice oa1 a2.length cp1] a2 by (repeat (first | (with_reducible exact HO1.out) | ((with_reducible refine X5 ?_ ?_);rotate_left;exact (λhm=>by have:=HL1.out _ hm;omega)) | (with_reducible refine Y6 ?_) | (with_reducible refine Wh ?_) | (with_reducible refine Ku ?_ HB2.out)))) (show own L2 _ [.slice oa2 a3.length cp2] a3 by (repeat (first | (with_reducible exact HO2.out) | ((with_reducible refine X5 ?_ ?_);rotate_left;exact (λhm=>by have:=HL2.out _ hm;omega)) | (with_reducible refine Y6 ?_) | (with_reducible refine Wh ?_)))) (λx hx hy=>by (try simp only[zG,List.not_mem_nil,zH,zD,false_or,or_false] at hy);have:=HT1.out x hx;rcases hy with hy<;>(first | (have:=HL2.out x hy;omega)))) (by simp)));intro x hx;(try simp only[zG,List.not_mem_nil,zH,zD,false_or,or_false] at hx);rcases hx with hx | hx<;>first | (have:=HL1.out x hx;omega) | (have:=HL2.out x hx;omega)))
theorem Qag (w:World) (v:Value) (l:List Nm) (ha:rd w [v] l) (hsz:GoD.size l<=1048576):Calls Tryz.prog 116 #[v] w (RetS w l):=by
 obtain ⟨oa,cap,e1,hl,hm,hel⟩:=ha;obtain rfl:v=_:=by simpa using e1
 clear e1;have HE:=Lib.hid hel;clear hel;have hn:l.length<=1048576:=by have:=V4 l;omega
 have HS:=Lib.hid (λi a (h:l[i]? =some a)=>Vq h);have hlm:l.length<=maxLen:=by omega
 go_enter Tryz.func116,Tryz.ntmps116
 go_wp2_with (at_make;refine Lm w (.tmp 6) (.tmp 6) 139 214 3 l.length rfl rfl Tryz.underlying139 (by kernel_rfl) rfl rfl (by omega) (by go_grown) ?_;intro w1 cur hcur hcs hB1 hb1 hlt1)
 go_loopw [4] (tI w 214 l) (λi _=>l.length-(intOf i).toNat)
 case atStart=>exact ⟨0,zJ _,rfl,hB1,hlt1,Part.start hcur hcs l⟩
 case round=>
  obtain ⟨k,hk,rfl,hB,hlt,hP⟩:=hrel;clear hB1 hb1 hlt1 hcur hcs;by_cases hkl:k<l.length
  . have hx:=zE hkl;obtain ⟨eb,eo,ee,rfl,hcl,hcc,hxr⟩:=HE.out k _ hx;have hxs:=HS.out k _ hx;have HX:=Lib.hid hx;clear hx;generalize l[k]=x at*;obtain ⟨cur2,hg,hgs⟩:=hP.out.block;have hgs2:cur2.size=l.length*3:=hgs;have hroom:=zL 3 (show k+1<=l.length by omega);obtain ⟨x0,x1,x2,rfl⟩:=SM (show _=3 from hcl);have p0:wr.cell? ⟨eb,eo+k*3,none⟩=some x0:=cBt hB (hcc 0 _ rfl);have p1:wr.cell? ⟨eb,eo+k*3+1,none⟩=some x1:=cBt hB (hcc 1 _ rfl);have p2:wr.cell? ⟨eb,eo+k*3+2,none⟩=some x2:=cBt hB (hcc 2 _ rfl);have HXR:=Lib.hid hxr;clear hxr hcc hcl;have HG:=Lib.hid hg;clear hg;go_wp2_with (go_at_call 165;refine Wj (w:=w) (Qeh _ [x0,x1,x2] x (Xw HXR.out hB) (by omega)) (by go_grown) ?_;intro w2 cs L hB2 hb2 hz2 _ ho hL;obtain ⟨eoa1,ecp1,eoa2,ecp2,rfl⟩:=MA (GoD.own_rd ho);have hg2:=(hb2.block _ hlt).trans HG.out;obtain ⟨z0,q0⟩:=cXt hg2 (k*3) (by omega);obtain ⟨z1,q1⟩:=cXt hg2 (k*3+1) (by omega);obtain ⟨z2,q2⟩:=cXt hg2 (k*3+2) (by omega);have fz:=Jc hg2;clear hg2;have HO:=Lib.hid ho;clear ho;have HL:=Lib.hid hL;clear hL;have HB2:=Lib.hid hb2;clear hb2)
    go_roundw
    case rel=>exact ⟨k+1,by omega,by go_num,by go_grown,by simp only[World.size_setCell];omega,by
     have h:=hP.out.step HB2.out hkl hk HX.out HO.out HL.out;rw[show GoD.n Nm=3 from rfl] at h;simp only[World.setCells,zN,Nat.reduceAdd] at h;exact h⟩
    case measure=>simp[intOf];omega
  obtain rfl:k=l.length:=by omega
  go_wp2
  go_ret
  obtain ⟨L,hL,hLB⟩:=hP.out.done hlm;exact ⟨_,L,rfl,hB,hL,hLB⟩
theorem Qei (w:World) (v:Value) (l:List Yz) (ha:rd w [v] l) (hsz:GoD.size l<=1048576):Calls Tryz.prog 118 #[v] w (RetS w l):=by
 obtain ⟨oa,cap,e1,hl,hm,hel⟩:=ha;obtain rfl:v=_:=by simpa using e1
 clear e1;have HE:=Lib.hid hel;clear hel;have hn:l.length<=1048576:=by have:=V4 l;omega
 have HS:=Lib.hid (λi a (h:l[i]? =some a)=>Vq h);have hlm:l.length<=maxLen:=by omega
 go_enter Tryz.func118,Tryz.ntmps118
 go_wp2_with (at_make;refine Lm w (.tmp 6) (.tmp 6) 92 162 7 l.length rfl rfl Tryz.underlying92 (by kernel_rfl) rfl rfl (by omega) (by go_grown) ?_;intro w1 cur hcur hcs hB1 hb1 hlt1)
 go_loopw [4] (tI w 162 l) (λi _=>l.length-(intOf i).toNat)
 case atStart=>exact ⟨0,zJ _,rfl,hB1,hlt1,Part.start hcur hcs l⟩
 case round=>
  obtain ⟨k,hk,rfl,hB,hlt,hP⟩:=hrel;clear hB1 hb1 hlt1 hcur hcs;by_cases hkl:k<l.length
  . have hx:=zE hkl;obtain ⟨eb,eo,ee,rfl,hcl,hcc,hxr⟩:=HE.out k _ hx;have hxs:=HS.out k _ hx;have HX:=Lib.hid hx;clear hx;generalize l[k]=x at*;obtain ⟨cur2,hg,hgs⟩:=hP.out.block;have hgs2:cur2.size=l.length*7:=hgs;have hroom:=zL 7 (show k+1<=l.length by omega);obtain ⟨x0,x1,x2,x3,x4,x5,x6,rfl⟩:=Qmj (show _=7 from hcl);have p0:wr.cell? ⟨eb,eo+k*7,none⟩=some x0:=cBt hB (hcc 0 _ rfl);have p1:wr.cell? ⟨eb,eo+k*7+1,none⟩=some x1:=cBt hB (hcc 1 _ rfl);have p2:wr.cell? ⟨eb,eo+k*7+2,none⟩=some x2:=cBt hB (hcc 2 _ rfl);have p3:wr.cell? ⟨eb,eo+k*7+3,none⟩=some x3:=cBt hB (hcc 3 _ rfl);have p4:wr.cell? ⟨eb,eo+k*7+4,none⟩=some x4:=cBt hB (hcc 4 _ rfl);have p5:wr.cell? ⟨eb,eo+k*7+5,none⟩=some x5:=cBt hB (hcc 5 _ rfl);have p6:wr.cell? ⟨eb,eo+k*7+6,none⟩=some x6:=cBt hB (hcc 6 _ rfl);have HXR:=Lib.hid hxr;clear hxr hcc hcl;have HG:=Lib.hid hg;clear hg;go_wp2_with (go_at_call 167;refine Wj (w:=w) (Qha _ [x0,x1,x2,x3,x4,x5,x6] x (Xw HXR.out hB) (by omega)) (by go_grown) ?_;intro w2 cs L hB2 hb2 hz2 _ ho hL;obtain rfl:=SO (GoD.own_rd ho);have hg2:=(hb2.block _ hlt).trans HG.out;obtain ⟨z0,q0⟩:=cXt hg2 (k*7) (by omega);obtain ⟨z1,q1⟩:=cXt hg2 (k*7+1) (by omega);obtain ⟨z2,q2⟩:=cXt hg2 (k*7+2) (by omega);obtain ⟨z3,q3⟩:=cXt hg2 (k*7+3) (by omega);obtain ⟨z4,q4⟩:=cXt hg2 (k*7+4) (by omega);obtain ⟨z5,q5⟩:=cXt hg2 (k*7+5) (by omega);obtain ⟨z6,q6⟩:=cXt hg2 (k*7+6) (by omega);have fz:=Jc hg2;clear hg2;have HO:=Lib.hid ho;clear ho;have HL:=Lib.hid hL;clear hL;have HB2:=Lib.hid hb2;clear hb2)
    go_roundw
    case rel=>exact ⟨k+1,by omega,by go_num,by go_grown,by simp only[World.size_setCell];omega,by
     have h:=hP.out.step HB2.out hkl hk HX.out HO.out HL.out;rw[show GoD.n Yz=7 from rfl] at h;simp only[World.setCells,zN,Nat.reduceAdd] at h;exact h⟩
    case measure=>simp[intOf];omega
  obtain rfl:k=l.length:=by omega
  go_wp2
  go_ret
  obtain ⟨L,hL,hLB⟩:=hP.out.done hlm;exact ⟨_,L,rfl,hB,hL,hLB⟩
theorem Qej (w:World) (ca:List Value) (a:Yc) (ha:rd w ca a) (hsz:GoD.size a<=1048576):Calls Tryz.prog 68 #[.agg ca.toArray] w (RetA w a):=by
 obtain ⟨a1,a2⟩:=a;obtain ⟨ac1,at1,rfl,ar1,ar2⟩:=ha;obtain ⟨rfl,ar1⟩:=ar1;obtain ⟨ax2_0,rfl⟩:=Bf (show _=1 from GoD.rd_len ar2);dsimp only[zF,zD] at*
 replace hsz:(GoD.size a1+GoD.size a2)<=1048576:=hsz
 have AR1H:=Lib.hid ar1;clear ar1;have AR2H:=Lib.hid ar2;clear ar2;have tok1:True:=trivial;go_enter Tryz.func68,Tryz.ntmps68
 go_wp2_with (first | (go_at_call 118;have tk:=tok1;clear tok1;refine Hv (w:=w) (Qei _ ax2_0 a2 (Xw AR2H.out (by go_grown)) (by omega)) (by go_grown) ?_;intro w1 v1 L1 hB hb hz _ ho1 hL1;obtain ⟨oa1,cp1,rfl⟩:=Yd ho1;have hz2:=hb.size;(try simp only[zSt] at hz2);(try simp only[zSt] at hL1);have hlt1:=GoD.own_lt ho1;have c1_0:=λo=>Z0 hb (w.heap.size) o (by go_size);have f1_0:=λo=>Kl hb (w.heap.size) o (by go_size);have c1_1:=λo=>Z0 hb (w.heap.size+1) o (by go_size);have f1_1:=λo=>Kl hb (w.heap.size+1) o (by go_size);have c1_2:=λo=>Z0 hb (w.heap.size+1+1) o (by go_size);have f1_2:=λo=>Kl hb (w.heap.size+1+1) o (by go_size);have HO1:=Lib.hid ho1;clear ho1;have HL1:=Lib.hid hL1;clear hL1;have HT1:=Lib.hid hlt1;clear hlt1;have HB1:=Lib.hid hb;clear hb) | ((with_reducible show bodyPost _ _ _ _ _ _);refine bodyPost_ret (v:= .agg #[.string a1,.slice oa1 a2.length cp1]) (by simp[results,Tryz.results68,go_sem,c1_1]) rfl ⟨[.string a1,.slice oa1 a2.length cp1],([]++L1),rfl,by go_grown, ?_, ?_⟩;(exact (X0 (Pj _ AR1H.out) (show own L1 _ [.slice oa1 a2.length cp1] a2 by (repeat (first | (with_reducible exact HO1.out) | ((with_reducible refine X5 ?_ ?_);rotate_left;exact (λhm=>by have:=HL1.out _ hm;omega)) | (with_reducible refine Y6 ?_) | (with_reducible refine Wh ?_)))) (by simp)));intro x hx;(try simp only[zG,List.not_mem_nil,zH,zD,false_or,or_false] at hx);rcases hx with hx<;>first | (have:=HL1.out x hx;omega)))
theorem RM (w:World) (v:Value) (l:List Yc) (ha:rd w [v] l) (hsz:GoD.size l<=1048576):Calls Tryz.prog 63 #[v] w (RetS w l):=by
 obtain ⟨oa,cap,e1,hl,hm,hel⟩:=ha;obtain rfl:v=_:=by simpa using e1
 clear e1;have HE:=Lib.hid hel;clear hel;have hn:l.length<=1048576:=by have:=V4 l;omega
 have HS:=Lib.hid (λi a (h:l[i]? =some a)=>Vq h);have hlm:l.length<=maxLen:=by omega
 go_enter Tryz.func63,Tryz.ntmps63
 go_wp2_with (at_make;refine Lm w (.tmp 6) (.tmp 6) 44 94 2 l.length rfl rfl Tryz.underlying44 (by kernel_rfl) rfl rfl (by omega) (by go_grown) ?_;intro w1 cur hcur hcs hB1 hb1 hlt1)
 go_loopw [4] (tI w 94 l) (λi _=>l.length-(intOf i).toNat)
 case atStart=>exact ⟨0,zJ _,rfl,hB1,hlt1,Part.start hcur hcs l⟩
 case round=>
  obtain ⟨k,hk,rfl,hB,hlt,hP⟩:=hrel;clear hB1 hb1 hlt1 hcur hcs;by_cases hkl:k<l.length
  . have hx:=zE hkl;obtain ⟨eb,eo,ee,rfl,hcl,hcc,hxr⟩:=HE.out k _ hx;have hxs:=HS.out k _ hx;have HX:=Lib.hid hx;clear hx;generalize l[k]=x at*;obtain ⟨cur2,hg,hgs⟩:=hP.out.block;have hgs2:cur2.size=l.length*2:=hgs;have hroom:=zL 2 (show k+1<=l.length by omega);obtain ⟨x0,x1,rfl⟩:=YE (show _=2 from hcl);have p0:wr.cell? ⟨eb,eo+k*2,none⟩=some x0:=cBt hB (hcc 0 _ rfl);have p1:wr.cell? ⟨eb,eo+k*2+1,none⟩=some x1:=cBt hB (hcc 1 _ rfl);have HXR:=Lib.hid hxr;clear hxr hcc hcl;have HG:=Lib.hid hg;clear hg;go_wp2_with (go_at_call 68;refine Wj (w:=w) (Qej _ [x0,x1] x (Xw HXR.out hB) (by omega)) (by go_grown) ?_;intro w2 cs L hB2 hb2 hz2 _ ho hL;obtain ⟨eoa1,ecp1,rfl⟩:=FM (GoD.own_rd ho);have hg2:=(hb2.block _ hlt).trans HG.out;obtain ⟨z0,q0⟩:=cXt hg2 (k*2) (by omega);obtain ⟨z1,q1⟩:=cXt hg2 (k*2+1) (by omega);have fz:=Jc hg2;clear hg2;have HO:=Lib.hid ho;clear ho;have HL:=Lib.hid hL;clear hL;have HB2:=Lib.hid hb2;clear hb2)
    go_roundw
    case rel=>exact ⟨k+1,by omega,by go_num,by go_grown,by simp only[World.size_setCell];omega,by
     have h:=hP.out.step HB2.out hkl hk HX.out HO.out HL.out;rw[show GoD.n Yc=2 from rfl] at h;simp only[World.setCells,zN,Nat.reduceAdd] at h;exact h⟩
    case measure=>simp[intOf];omega
  obtain rfl:k=l.length:=by omega
  go_wp2
  go_ret
  obtain ⟨L,hL,hLB⟩:=hP.out.done hlm;exact ⟨_,L,rfl,hB,hL,hLB⟩
theorem IX (w:World) (ca:List Value) (a:Um) (ha:rd w ca a) (hsz:GoD.size a<=1048576):Calls Tryz.prog 115 #[.agg ca.toArray] w (RetA w a):=by
 obtain ⟨a1,a2⟩:=a;obtain ⟨ac1,at1,rfl,ar1,ar2⟩:=ha;obtain ⟨ax1_0,ax1_1,ax1_2,rfl⟩:=SM (show _=3 from GoD.rd_len ar1);obtain ⟨ax2_0,rfl⟩:=Bf (show _=1 from GoD.rd_len ar2);dsimp only[zF,zD] at*
 replace hsz:(GoD.size a1+GoD.size a2)<=1048576:=hsz
 have AR1H:=Lib.hid ar1;clear ar1;have AR2H:=Lib.hid ar2;clear ar2;have tok1:True:=trivial;have tok2:True:=trivial;go_enter Tryz.func115,Tryz.ntmps115
 go_wp2_with (first | (go_at_call 62;have tk:=tok1;clear tok1;refine Wj (w:=w) (IW _ [ax1_0,ax1_1,ax1_2] a1 (Xw AR1H.out (by go_grown)) (by omega)) (by go_grown) ?_;intro w1 cs1 L1 hB hb hz _ ho1 hL1;obtain ⟨r1_oa1,r1_cp1,r1_oa2,r1_cp2,rfl⟩:=VH (GoD.own_rd ho1);have hz2:=hb.size;(try simp only[zSt] at hz2);(try simp only[zSt] at hL1);have hlt1:=GoD.own_lt ho1;have c1_0:=λo=>Z0 hb (w.heap.size) o (by go_size);have f1_0:=λo=>Kl hb (w.heap.size) o (by go_size);have c1_1:=λo=>Z0 hb (w.heap.size+1) o (by go_size);have f1_1:=λo=>Kl hb (w.heap.size+1) o (by go_size);have c1_2:=λo=>Z0 hb (w.heap.size+1+1) o (by go_size);have f1_2:=λo=>Kl hb (w.heap.size+1+1) o (by go_size);have HO1:=Lib.hid ho1;clear ho1;have HL1:=Lib.hid hL1;clear hL1;have HT1:=Lib.hid hlt1;clear hlt1;have HB1:=Lib.hid hb;clear hb) | (go_at_call 63;have tk:=tok2;clear tok2;refine Hv (w:=w) (RM _ ax2_0 a2 (Xw AR2H.out (by go_grown)) (by omega)) (by go_grown) ?_;intro w2 v2 L2 hB hb hz _ ho2 hL2;obtain ⟨oa2,cp2,rfl⟩:=Yd ho2;have hz2:=hb.size;(try simp only[zSt] at hz2);(try simp only[zSt] at hL2);have hlt2:=GoD.own_lt ho2;have c2_0:=λo=>Z0 hb (w.heap.size) o (by go_size);have f2_0:=λo=>Kl hb (w.heap.size) o (by go_size);have c2_1:=λo=>Z0 hb (w.heap.size+1) o (by go_size);have f2_1:=λo=>Kl hb (w.heap.size+1) o (by go_size);have c2_2:=λo=>Z0 hb (w.heap.size+1+1) o (by go_size);have f2_2:=λo=>Kl hb (w.heap.size+1+1) o (by go_size);have HO2:=Lib.hid ho2;clear ho2;have HL2:=Lib.hid hL2;clear hL2;have HT2:=Lib.hid hlt2;clear hlt2;have HB2:=Lib.hid hb;clear hb) | ((with_reducible show bodyPost _ _ _ _ _ _);refine bodyPost_ret (v:= .agg #[.slice r1_oa1 a1.1.length r1_cp1,.slice r1_oa2 a1.2.1.length r1_cp2,.int .i64 a1.2.2,.slice oa2 a2.length cp2]) (by simp[results,Tryz.results115,go_sem,c1_1,c2_1]) rfl ⟨[.slice r1_oa1 a1.1.length r1_cp1,.slice r1_oa2 a1.2.1.length r1_cp2,.int .i64 a1.2.2,.slice oa2 a2.length cp2],(L1++L2),rfl,by go_grown, ?_, ?_⟩;(exact (X0 (show own L1 _ [.slice r1_oa1 a1.1.length r1_cp1,.slice r1_oa2 a1.2.1.length r1_cp2,.int .i64 a1.2.2] a1 by (repeat (first | (with_reducible exact HO1.out) | ((with_reducible refine X5 ?_ ?_);rotate_left;exact (λhm=>by have:=HL1.out _ hm;omega)) | (with_reducible refine Y6 ?_) | (with_reducible refine Wh ?_) | (with_reducible refine Ku ?_ HB2.out)))) (show own L2 _ [.slice oa2 a2.length cp2] a2 by (repeat (first | (with_reducible exact HO2.out) | ((with_reducible refine X5 ?_ ?_);rotate_left;exact (λhm=>by have:=HL2.out _ hm;omega)) | (with_reducible refine Y6 ?_) | (with_reducible refine Wh ?_)))) (λx hx hy=>by (try simp only[zG,List.not_mem_nil,zH,zD,false_or,or_false] at hy);have:=HT1.out x hx;rcases hy with hy<;>(first | (have:=HL2.out x hy;omega)))));intro x hx;(try simp only[zG,List.not_mem_nil,zH,zD,false_or,or_false] at hx);rcases hx with hx | hx<;>first | (have:=HL1.out x hx;omega) | (have:=HL2.out x hx;omega)))
theorem Qek (w:World) (ca:List Value) (a:Nn) (ha:rd w ca a) (hsz:GoD.size a<=1048576):Calls Tryz.prog 66 #[.agg ca.toArray] w (RetA w a):=by
 obtain ⟨a1,a2,a3,a4⟩:=a;obtain ⟨ac1,at1,rfl,ar1,ac2,at2,rfl,ar2,ac3,at3,rfl,ar3,ar4⟩:=ha;obtain ⟨rfl,ar1⟩:=ar1;obtain ⟨rfl,ar2⟩:=ar2;obtain ⟨ax3_0,rfl⟩:=Bf (show _=1 from GoD.rd_len ar3);obtain ⟨ax4_0,rfl⟩:=Bf (show _=1 from GoD.rd_len ar4);dsimp only[zF,zD] at*
 replace hsz:(GoD.size a1+(GoD.size a2+(GoD.size a3+GoD.size a4)))<=1048576:=hsz
 have AR1H:=Lib.hid ar1;clear ar1;have AR2H:=Lib.hid ar2;clear ar2;have AR3H:=Lib.hid ar3;clear ar3;have AR4H:=Lib.hid ar4;clear ar4;have tok1:True:=trivial;have tok2:True:=trivial;go_enter Tryz.func66,Tryz.ntmps66
 go_wp2_with (first | (go_at_call 28;have tk:=tok1;clear tok1;refine Hv (w:=w) (XM _ ax3_0 a3 (Xw AR3H.out (by go_grown)) (by omega)) (by go_grown) ?_;intro w1 v1 L1 hB hb hz _ ho1 hL1;obtain ⟨oa1,cp1,rfl⟩:=Yd ho1;have hz2:=hb.size;(try simp only[zSt] at hz2);(try simp only[zSt] at hL1);have hlt1:=GoD.own_lt ho1;have c1_0:=λo=>Z0 hb (w.heap.size) o (by go_size);have f1_0:=λo=>Kl hb (w.heap.size) o (by go_size);have c1_1:=λo=>Z0 hb (w.heap.size+1) o (by go_size);have f1_1:=λo=>Kl hb (w.heap.size+1) o (by go_size);have c1_2:=λo=>Z0 hb (w.heap.size+1+1) o (by go_size);have f1_2:=λo=>Kl hb (w.heap.size+1+1) o (by go_size);have HO1:=Lib.hid ho1;clear ho1;have HL1:=Lib.hid hL1;clear hL1;have HT1:=Lib.hid hlt1;clear hlt1;have HB1:=Lib.hid hb;clear hb) | (go_at_call 116;have tk:=tok2;clear tok2;refine Hv (w:=w) (Qag _ ax4_0 a4 (Xw AR4H.out (by go_grown)) (by omega)) (by go_grown) ?_;intro w2 v2 L2 hB hb hz _ ho2 hL2;obtain ⟨oa2,cp2,rfl⟩:=Yd ho2;have hz2:=hb.size;(try simp only[zSt] at hz2);(try simp only[zSt] at hL2);have hlt2:=GoD.own_lt ho2;have c2_0:=λo=>Z0 hb (w.heap.size) o (by go_size);have f2_0:=λo=>Kl hb (w.heap.size) o (by go_size);have c2_1:=λo=>Z0 hb (w.heap.size+1) o (by go_size);have f2_1:=λo=>Kl hb (w.heap.size+1) o (by go_size);have c2_2:=λo=>Z0 hb (w.heap.size+1+1) o (by go_size);have f2_2:=λo=>Kl hb (w.heap.size+1+1) o (by go_size);have HO2:=Lib.hid ho2;clear ho2;have HL2:=Lib.hid hL2;clear hL2;have HT2:=Lib.hid hlt2;clear hlt2;have HB2:=Lib.hid hb;clear hb) | ((with_reducible show bodyPost _ _ _ _ _ _);refine bodyPost_ret (v:= .agg #[.int .i64 a1,.string a2,.slice oa1 a3.length cp1,.slice oa2 a4.length cp2]) (by simp[results,Tryz.results66,go_sem,c1_1,c2_1]) rfl ⟨[.int .i64 a1,.string a2,.slice oa1 a3.length cp1,.slice oa2 a4.length cp2],([]++([]++(L1++L2))),rfl,by go_grown, ?_, ?_⟩;(exact (X0 (A5 _ AR1H.out) (X0 (Pj _ AR2H.out) (X0 (show own L1 _ [.slice oa1 a3.length cp1] a3 by (repeat (first | (with_reducible exact HO1.out) | ((with_reducible refine X5 ?_ ?_);rotate_left;exact (λhm=>by have:=HL1.out _ hm;omega)) | (with_reducible refine Y6 ?_) | (with_reducible refine Wh ?_) | (with_reducible refine Ku ?_ HB2.out)))) (show own L2 _ [.slice oa2 a4.length cp2] a4 by (repeat (first | (with_reducible exact HO2.out) | ((with_reducible refine X5 ?_ ?_);rotate_left;exact (λhm=>by have:=HL2.out _ hm;omega)) | (with_reducible refine Y6 ?_) | (with_reducible refine Wh ?_)))) (λx hx hy=>by (try simp only[zG,List.not_mem_nil,zH,zD,false_or,or_false] at hy);have:=HT1.out x hx;rcases hy with hy<;>(first | (have:=HL2.out x hy;omega)))) (by simp)) (by simp)));intro x hx;(try simp only[zG,List.not_mem_nil,zH,zD,false_or,or_false] at hx);rcases hx with hx | hx<;>first | (have:=HL1.out x hx;omega) | (have:=HL2.out x hx;omega)))
theorem Qah (w:World) (v:Value) (l:List Nn) (ha:rd w [v] l) (hsz:GoD.size l<=1048576):Calls Tryz.prog 27 #[v] w (RetS w l):=by
 obtain ⟨oa,cap,e1,hl,hm,hel⟩:=ha;obtain rfl:v=_:=by simpa using e1
 clear e1;have HE:=Lib.hid hel;clear hel;have hn:l.length<=1048576:=by have:=V4 l;omega
 have HS:=Lib.hid (λi a (h:l[i]? =some a)=>Vq h);have hlm:l.length<=maxLen:=by omega
 go_enter Tryz.func27,Tryz.ntmps27
 go_wp2_with (at_make;refine Lm w (.tmp 6) (.tmp 6) 54 141 4 l.length rfl rfl Tryz.underlying54 (by kernel_rfl) rfl rfl (by omega) (by go_grown) ?_;intro w1 cur hcur hcs hB1 hb1 hlt1)
 go_loopw [4] (tI w 141 l) (λi _=>l.length-(intOf i).toNat)
 case atStart=>exact ⟨0,zJ _,rfl,hB1,hlt1,Part.start hcur hcs l⟩
 case round=>
  obtain ⟨k,hk,rfl,hB,hlt,hP⟩:=hrel;clear hB1 hb1 hlt1 hcur hcs;by_cases hkl:k<l.length
  . have hx:=zE hkl;obtain ⟨eb,eo,ee,rfl,hcl,hcc,hxr⟩:=HE.out k _ hx;have hxs:=HS.out k _ hx;have HX:=Lib.hid hx;clear hx;generalize l[k]=x at*;obtain ⟨cur2,hg,hgs⟩:=hP.out.block;have hgs2:cur2.size=l.length*4:=hgs;have hroom:=zL 4 (show k+1<=l.length by omega);obtain ⟨x0,x1,x2,x3,rfl⟩:=Qkq (show _=4 from hcl);have p0:wr.cell? ⟨eb,eo+k*4,none⟩=some x0:=cBt hB (hcc 0 _ rfl);have p1:wr.cell? ⟨eb,eo+k*4+1,none⟩=some x1:=cBt hB (hcc 1 _ rfl);have p2:wr.cell? ⟨eb,eo+k*4+2,none⟩=some x2:=cBt hB (hcc 2 _ rfl);have p3:wr.cell? ⟨eb,eo+k*4+3,none⟩=some x3:=cBt hB (hcc 3 _ rfl);have HXR:=Lib.hid hxr;clear hxr hcc hcl;have HG:=Lib.hid hg;clear hg;go_wp2_with (go_at_call 66;refine Wj (w:=w) (Qek _ [x0,x1,x2,x3] x (Xw HXR.out hB) (by omega)) (by go_grown) ?_;intro w2 cs L hB2 hb2 hz2 _ ho hL;obtain ⟨eoa1,ecp1,eoa2,ecp2,rfl⟩:=MB (GoD.own_rd ho);have hg2:=(hb2.block _ hlt).trans HG.out;obtain ⟨z0,q0⟩:=cXt hg2 (k*4) (by omega);obtain ⟨z1,q1⟩:=cXt hg2 (k*4+1) (by omega);obtain ⟨z2,q2⟩:=cXt hg2 (k*4+2) (by omega);obtain ⟨z3,q3⟩:=cXt hg2 (k*4+3) (by omega);have fz:=Jc hg2;clear hg2;have HO:=Lib.hid ho;clear ho;have HL:=Lib.hid hL;clear hL;have HB2:=Lib.hid hb2;clear hb2)
    go_roundw
    case rel=>exact ⟨k+1,by omega,by go_num,by go_grown,by simp only[World.size_setCell];omega,by
     have h:=hP.out.step HB2.out hkl hk HX.out HO.out HL.out;rw[show GoD.n Nn=4 from rfl] at h;simp only[World.setCells,zN,Nat.reduceAdd] at h;exact h⟩
    case measure=>simp[intOf];omega
  obtain rfl:k=l.length:=by omega
  go_wp2
  go_ret
  obtain ⟨L,hL,hLB⟩:=hP.out.done hlm;exact ⟨_,L,rfl,hB,hL,hLB⟩
theorem NS (w:World) (ca:List Value) (a:Cy) (ha:rd w ca a) (hsz:GoD.size a<=1048576):Calls Tryz.prog 65 #[.agg ca.toArray] w (RetA w a):=by
 obtain ⟨a1,a2,a3⟩:=a;obtain ⟨ac1,at1,rfl,ar1,ac2,at2,rfl,ar2,ar3⟩:=ha;obtain ⟨rfl,ar1⟩:=ar1;obtain ⟨ax2_0,ax2_1,ax2_2,ax2_3,rfl⟩:=Qkq (show _=4 from GoD.rd_len ar2);obtain ⟨rfl,ar3⟩:=ar3;dsimp only[zF,zD] at*
 replace hsz:(GoD.size a1+(GoD.size a2+GoD.size a3))<=1048576:=hsz
 have AR1H:=Lib.hid ar1;clear ar1;have AR2H:=Lib.hid ar2;clear ar2;have AR3H:=Lib.hid ar3;clear ar3;have tok1:True:=trivial;go_enter Tryz.func65,Tryz.ntmps65
 go_wp2_with (first | (go_at_call 115;have tk:=tok1;clear tok1;refine Wj (w:=w) (IX _ [ax2_0,ax2_1,ax2_2,ax2_3] a2 (Xw AR2H.out (by go_grown)) (by omega)) (by go_grown) ?_;intro w1 cs1 L1 hB hb hz _ ho1 hL1;obtain ⟨r1_oa1,r1_cp1,r1_oa2,r1_cp2,r1_oa3,r1_cp3,rfl⟩:=UW (GoD.own_rd ho1);have hz2:=hb.size;(try simp only[zSt] at hz2);(try simp only[zSt] at hL1);have hlt1:=GoD.own_lt ho1;have c1_0:=λo=>Z0 hb (w.heap.size) o (by go_size);have f1_0:=λo=>Kl hb (w.heap.size) o (by go_size);have c1_1:=λo=>Z0 hb (w.heap.size+1) o (by go_size);have f1_1:=λo=>Kl hb (w.heap.size+1) o (by go_size);have c1_2:=λo=>Z0 hb (w.heap.size+1+1) o (by go_size);have f1_2:=λo=>Kl hb (w.heap.size+1+1) o (by go_size);have HO1:=Lib.hid ho1;clear ho1;have HL1:=Lib.hid hL1;clear hL1;have HT1:=Lib.hid hlt1;clear hlt1;have HB1:=Lib.hid hb;clear hb) | ((with_reducible show bodyPost _ _ _ _ _ _);refine bodyPost_ret (v:= .agg #[.int .i64 a1,.slice r1_oa1 a2.1.1.length r1_cp1,.slice r1_oa2 a2.1.2.1.length r1_cp2,.int .i64 a2.1.2.2,.slice r1_oa3 a2.2.length r1_cp3,.int .i64 a3]) (by simp[results,Tryz.results65,go_sem,c1_1]) rfl ⟨[.int .i64 a1,.slice r1_oa1 a2.1.1.length r1_cp1,.slice r1_oa2 a2.1.2.1.length r1_cp2,.int .i64 a2.1.2.2,.slice r1_oa3 a2.2.length r1_cp3,.int .i64 a3],([]++(L1++ [])),rfl,by go_grown, ?_, ?_⟩;(exact (X0 (A5 _ AR1H.out) (X0 (show own L1 _ [.slice r1_oa1 a2.1.1.length r1_cp1,.slice r1_oa2 a2.1.2.1.length r1_cp2,.int .i64 a2.1.2.2,.slice r1_oa3 a2.2.length r1_cp3] a2 by (repeat (first | (with_reducible exact HO1.out) | ((with_reducible refine X5 ?_ ?_);rotate_left;exact (λhm=>by have:=HL1.out _ hm;omega)) | (with_reducible refine Y6 ?_) | (with_reducible refine Wh ?_)))) (A5 _ AR3H.out) (by simp)) (by simp)));intro x hx;(try simp only[zG,List.not_mem_nil,zH,zD,false_or,or_false] at hx);rcases hx with hx<;>first | (have:=HL1.out x hx;omega)))
theorem Qai (w:World) (ca:List Value) (a:Kf) (ha:rd w ca a) (hsz:GoD.size a<=1048576):Calls Tryz.prog 29 #[.agg ca.toArray] w (RetA w a):=by
 obtain ⟨a1,a2,a3,a4⟩:=a;obtain ⟨ac1,at1,rfl,ar1,ac2,at2,rfl,ar2,ac3,at3,rfl,ar3,ar4⟩:=ha;obtain ⟨rfl,ar1⟩:=ar1;obtain ⟨ax2_0,ax2_1,ax2_2,ax2_3,ax2_4,rfl⟩:=Qjo (show _=5 from GoD.rd_len ar2);obtain ⟨rfl,ar3⟩:=ar3;obtain ⟨ax4_0,ax4_1,rfl⟩:=YE (show _=2 from GoD.rd_len ar4);dsimp only[zF,zD] at*
 replace hsz:(GoD.size a1+(GoD.size a2+(GoD.size a3+GoD.size a4)))<=1048576:=hsz
 have AR1H:=Lib.hid ar1;clear ar1;have AR2H:=Lib.hid ar2;clear ar2;have AR3H:=Lib.hid ar3;clear ar3;have AR4H:=Lib.hid ar4;clear ar4;have tok1:True:=trivial;have tok2:True:=trivial;go_enter Tryz.func29,Tryz.ntmps29
 go_wp2_with (first | (go_at_call 67;have tk:=tok1;clear tok1;refine Wj (w:=w) (RL _ [ax2_0,ax2_1,ax2_2,ax2_3,ax2_4] a2 (Xw AR2H.out (by go_grown)) (by omega)) (by go_grown) ?_;intro w1 cs1 L1 hB hb hz _ ho1 hL1;obtain ⟨r1_oa1,r1_cp1,rfl⟩:=BE (GoD.own_rd ho1);have hz2:=hb.size;(try simp only[zSt] at hz2);(try simp only[zSt] at hL1);have hlt1:=GoD.own_lt ho1;have c1_0:=λo=>Z0 hb (w.heap.size) o (by go_size);have f1_0:=λo=>Kl hb (w.heap.size) o (by go_size);have c1_1:=λo=>Z0 hb (w.heap.size+1) o (by go_size);have f1_1:=λo=>Kl hb (w.heap.size+1) o (by go_size);have c1_2:=λo=>Z0 hb (w.heap.size+1+1) o (by go_size);have f1_2:=λo=>Kl hb (w.heap.size+1+1) o (by go_size);have HO1:=Lib.hid ho1;clear ho1;have HL1:=Lib.hid hL1;clear hL1;have HT1:=Lib.hid hlt1;clear hlt1;have HB1:=Lib.hid hb;clear hb) | (go_at_call 68;have tk:=tok2;clear tok2;refine Wj (w:=w) (Qej _ [ax4_0,ax4_1] a4 (Xw AR4H.out (by go_grown)) (by omega)) (by go_grown) ?_;intro w2 cs2 L2 hB hb hz _ ho2 hL2;obtain ⟨r2_oa1,r2_cp1,rfl⟩:=FM (GoD.own_rd ho2);have hz2:=hb.size;(try simp only[zSt] at hz2);(try simp only[zSt] at hL2);have hlt2:=GoD.own_lt ho2;have c2_0:=λo=>Z0 hb (w.heap.size) o (by go_size);have f2_0:=λo=>Kl hb (w.heap.size) o (by go_size);have c2_1:=λo=>Z0 hb (w.heap.size+1) o (by go_size);have f2_1:=λo=>Kl hb (w.heap.size+1) o (by go_size);have c2_2:=λo=>Z0 hb (w.heap.size+1+1) o (by go_size);have f2_2:=λo=>Kl hb (w.heap.size+1+1) o (by go_size);have HO2:=Lib.hid ho2;clear ho2;have HL2:=Lib.hid hL2;clear hL2;have HT2:=Lib.hid hlt2;clear hlt2;have HB2:=Lib.hid hb;clear hb) | ((with_reducible show bodyPost _ _ _ _ _ _);refine bodyPost_ret (v:= .agg #[.int .i64 a1,.int .i64 a2.1,.int .i64 a2.2.1,.bool a2.2.2.1,.int .i64 a2.2.2.2.1,.slice r1_oa1 a2.2.2.2.2.length r1_cp1,.int .i64 a3,.string a4.1,.slice r2_oa1 a4.2.length r2_cp1]) (by simp[results,Tryz.results29,go_sem,c1_1,c2_1]) rfl ⟨[.int .i64 a1,.int .i64 a2.1,.int .i64 a2.2.1,.bool a2.2.2.1,.int .i64 a2.2.2.2.1,.slice r1_oa1 a2.2.2.2.2.length r1_cp1,.int .i64 a3,.string a4.1,.slice r2_oa1 a4.2.length r2_cp1],([]++(L1++([]++L2))),rfl,by go_grown, ?_, ?_⟩;(exact (X0 (A5 _ AR1H.out) (X0 (show own L1 _ [.int .i64 a2.1,.int .i64 a2.2.1,.bool a2.2.2.1,.int .i64 a2.2.2.2.1,.slice r1_oa1 a2.2.2.2.2.length r1_cp1] a2 by (repeat (first | (with_reducible exact HO1.out) | ((with_reducible refine X5 ?_ ?_);rotate_left;exact (λhm=>by have:=HL1.out _ hm;omega)) | (with_reducible refine Y6 ?_) | (with_reducible refine Wh ?_) | (with_reducible refine Ku ?_ HB2.out)))) (X0 (A5 _ AR3H.out) (show own L2 _ [.string a4.1,.slice r2_oa1 a4.2.length r2_cp1] a4 by (repeat (first | (with_reducible exact HO2.out) | ((with_reducible refine X5 ?_ ?_);rotate_left;exact (λhm=>by have:=HL2.out _ hm;omega)) | (with_reducible refine Y6 ?_) | (with_reducible refine Wh ?_)))) (by simp)) (λx hx hy=>by (try simp only[zG,List.not_mem_nil,zH,zD,false_or,or_false] at hy);have:=HT1.out x hx;rcases hy with hy<;>(first | (have:=HL2.out x hy;omega)))) (by simp)));intro x hx;(try simp only[zG,List.not_mem_nil,zH,zD,false_or,or_false] at hx);rcases hx with hx | hx<;>first | (have:=HL1.out x hx;omega) | (have:=HL2.out x hx;omega)))
theorem NT (w:World) (v:Value) (l:List Kf) (ha:rd w [v] l) (hsz:GoD.size l<=1048576):Calls Tryz.prog 8 #[v] w (RetS w l):=by
 obtain ⟨oa,cap,e1,hl,hm,hel⟩:=ha;obtain rfl:v=_:=by simpa using e1
 clear e1;have HE:=Lib.hid hel;clear hel;have hn:l.length<=1048576:=by have:=V4 l;omega
 have HS:=Lib.hid (λi a (h:l[i]? =some a)=>Vq h);have hlm:l.length<=maxLen:=by omega
 go_enter Tryz.func8,Tryz.ntmps8
 go_wp2_with (at_make;refine Lm w (.tmp 6) (.tmp 6) 58 96 9 l.length rfl rfl Tryz.underlying58 (by kernel_rfl) rfl rfl (by omega) (by go_grown) ?_;intro w1 cur hcur hcs hB1 hb1 hlt1)
 go_loopw [4] (tI w 96 l) (λi _=>l.length-(intOf i).toNat)
 case atStart=>exact ⟨0,zJ _,rfl,hB1,hlt1,Part.start hcur hcs l⟩
 case round=>
  obtain ⟨k,hk,rfl,hB,hlt,hP⟩:=hrel;clear hB1 hb1 hlt1 hcur hcs;by_cases hkl:k<l.length
  . have hx:=zE hkl;obtain ⟨eb,eo,ee,rfl,hcl,hcc,hxr⟩:=HE.out k _ hx;have hxs:=HS.out k _ hx;have HX:=Lib.hid hx;clear hx;generalize l[k]=x at*;obtain ⟨cur2,hg,hgs⟩:=hP.out.block;have hgs2:cur2.size=l.length*9:=hgs;have hroom:=zL 9 (show k+1<=l.length by omega);obtain ⟨x0,x1,x2,x3,x4,x5,x6,x7,x8,rfl⟩:=Qmk (show _=9 from hcl);have p0:wr.cell? ⟨eb,eo+k*9,none⟩=some x0:=cBt hB (hcc 0 _ rfl);have p1:wr.cell? ⟨eb,eo+k*9+1,none⟩=some x1:=cBt hB (hcc 1 _ rfl);have p2:wr.cell? ⟨eb,eo+k*9+2,none⟩=some x2:=cBt hB (hcc 2 _ rfl);have p3:wr.cell? ⟨eb,eo+k*9+3,none⟩=some x3:=cBt hB (hcc 3 _ rfl);have p4:wr.cell? ⟨eb,eo+k*9+4,none⟩=some x4:=cBt hB (hcc 4 _ rfl);have p5:wr.cell? ⟨eb,eo+k*9+5,none⟩=some x5:=cBt hB (hcc 5 _ rfl);have p6:wr.cell? ⟨eb,eo+k*9+6,none⟩=some x6:=cBt hB (hcc 6 _ rfl);have p7:wr.cell? ⟨eb,eo+k*9+7,none⟩=some x7:=cBt hB (hcc 7 _ rfl);have p8:wr.cell? ⟨eb,eo+k*9+8,none⟩=some x8:=cBt hB (hcc 8 _ rfl);have HXR:=Lib.hid hxr;clear hxr hcc hcl;have HG:=Lib.hid hg;clear hg;go_wp2_with (go_at_call 29;refine Wj (w:=w) (Qai _ [x0,x1,x2,x3,x4,x5,x6,x7,x8] x (Xw HXR.out hB) (by omega)) (by go_grown) ?_;intro w2 cs L hB2 hb2 hz2 _ ho hL;obtain ⟨eoa1,ecp1,eoa2,ecp2,rfl⟩:=FO (GoD.own_rd ho);have hg2:=(hb2.block _ hlt).trans HG.out;obtain ⟨z0,q0⟩:=cXt hg2 (k*9) (by omega);obtain ⟨z1,q1⟩:=cXt hg2 (k*9+1) (by omega);obtain ⟨z2,q2⟩:=cXt hg2 (k*9+2) (by omega);obtain ⟨z3,q3⟩:=cXt hg2 (k*9+3) (by omega);obtain ⟨z4,q4⟩:=cXt hg2 (k*9+4) (by omega);obtain ⟨z5,q5⟩:=cXt hg2 (k*9+5) (by omega);obtain ⟨z6,q6⟩:=cXt hg2 (k*9+6) (by omega);obtain ⟨z7,q7⟩:=cXt hg2 (k*9+7) (by omega);obtain ⟨z8,q8⟩:=cXt hg2 (k*9+8) (by omega);have fz:=Jc hg2;clear hg2;have HO:=Lib.hid ho;clear ho;have HL:=Lib.hid hL;clear hL;have HB2:=Lib.hid hb2;clear hb2)
    go_roundw
    case rel=>exact ⟨k+1,by omega,by go_num,by go_grown,by simp only[World.size_setCell];omega,by
     have h:=hP.out.step HB2.out hkl hk HX.out HO.out HL.out;rw[show GoD.n Kf=9 from rfl] at h;simp only[World.setCells,zN,Nat.reduceAdd] at h;exact h⟩
    case measure=>simp[intOf];omega
  obtain rfl:k=l.length:=by omega
  go_wp2
  go_ret
  obtain ⟨L,hL,hLB⟩:=hP.out.done hlm;exact ⟨_,L,rfl,hB,hL,hLB⟩
theorem Qhb (w:World) (ca:List Value) (a:SL) (ha:rd w ca a) (hsz:GoD.size a<=1048576):Calls Tryz.prog 25 #[.agg ca.toArray] w (RetA w a):=by
 obtain ⟨a1,a2⟩:=a;obtain ⟨ac1,at1,rfl,ar1,ar2⟩:=ha;obtain ⟨rfl,ar1⟩:=ar1;obtain ⟨rfl,ar2⟩:=ar2;dsimp only[zF,zD] at*
 replace hsz:(GoD.size a1+GoD.size a2)<=1048576:=hsz
 have AR1H:=Lib.hid ar1;clear ar1;have AR2H:=Lib.hid ar2;clear ar2;go_enter Tryz.func25,Tryz.ntmps25
 go_wp2_with (first | ((with_reducible show bodyPost _ _ _ _ _ _);refine bodyPost_ret (v:= .agg #[.string a1,.string a2]) (by simp[results,Tryz.results25,go_sem]) rfl ⟨[.string a1,.string a2],([]++ []),rfl,by go_grown, ?_, ?_⟩;(exact (X0 (Pj _ AR1H.out) (Pj _ AR2H.out) (by simp)));simp))
theorem Qaj (w:World) (ca:List Value) (a:Qj) (ha:rd w ca a) (hsz:GoD.size a<=1048576):Calls Tryz.prog 114 #[.agg ca.toArray] w (RetA w a):=by
 obtain ⟨a1,a2⟩:=a;obtain ⟨ac1,at1,rfl,ar1,ar2⟩:=ha;obtain ⟨rfl,ar1⟩:=ar1;obtain ⟨ax2_0,rfl⟩:=Bf (show _=1 from GoD.rd_len ar2);dsimp only[zF,zD] at*
 replace hsz:(GoD.size a1+GoD.size a2)<=1048576:=hsz
 have AR1H:=Lib.hid ar1;clear ar1;have AR2H:=Lib.hid ar2;clear ar2;have tok1:True:=trivial;go_enter Tryz.func114,Tryz.ntmps114
 go_wp2_with (first | (go_at_call 28;have tk:=tok1;clear tok1;refine Hv (w:=w) (XM _ ax2_0 a2 (Xw AR2H.out (by go_grown)) (by omega)) (by go_grown) ?_;intro w1 v1 L1 hB hb hz _ ho1 hL1;obtain ⟨oa1,cp1,rfl⟩:=Yd ho1;have hz2:=hb.size;(try simp only[zSt] at hz2);(try simp only[zSt] at hL1);have hlt1:=GoD.own_lt ho1;have c1_0:=λo=>Z0 hb (w.heap.size) o (by go_size);have f1_0:=λo=>Kl hb (w.heap.size) o (by go_size);have c1_1:=λo=>Z0 hb (w.heap.size+1) o (by go_size);have f1_1:=λo=>Kl hb (w.heap.size+1) o (by go_size);have c1_2:=λo=>Z0 hb (w.heap.size+1+1) o (by go_size);have f1_2:=λo=>Kl hb (w.heap.size+1+1) o (by go_size);have HO1:=Lib.hid ho1;clear ho1;have HL1:=Lib.hid hL1;clear hL1;have HT1:=Lib.hid hlt1;clear hlt1;have HB1:=Lib.hid hb;clear hb) | ((with_reducible show bodyPost _ _ _ _ _ _);refine bodyPost_ret (v:= .agg #[.string a1,.slice oa1 a2.length cp1]) (by simp[results,Tryz.results114,go_sem,c1_1]) rfl ⟨[.string a1,.slice oa1 a2.length cp1],([]++L1),rfl,by go_grown, ?_, ?_⟩;(exact (X0 (Pj _ AR1H.out) (show own L1 _ [.slice oa1 a2.length cp1] a2 by (repeat (first | (with_reducible exact HO1.out) | ((with_reducible refine X5 ?_ ?_);rotate_left;exact (λhm=>by have:=HL1.out _ hm;omega)) | (with_reducible refine Y6 ?_) | (with_reducible refine Wh ?_)))) (by simp)));intro x hx;(try simp only[zG,List.not_mem_nil,zH,zD,false_or,or_false] at hx);rcases hx with hx<;>first | (have:=HL1.out x hx;omega)))
theorem NU (w:World) (v:Value) (l:List Qj) (ha:rd w [v] l) (hsz:GoD.size l<=1048576):Calls Tryz.prog 64 #[v] w (RetS w l):=by
 obtain ⟨oa,cap,e1,hl,hm,hel⟩:=ha;obtain rfl:v=_:=by simpa using e1
 clear e1;have HE:=Lib.hid hel;clear hel;have hn:l.length<=1048576:=by have:=V4 l;omega
 have HS:=Lib.hid (λi a (h:l[i]? =some a)=>Vq h);have hlm:l.length<=maxLen:=by omega
 go_enter Tryz.func64,Tryz.ntmps64
 go_wp2_with (at_make;refine Lm w (.tmp 6) (.tmp 6) 49 190 2 l.length rfl rfl Tryz.underlying49 (by kernel_rfl) rfl rfl (by omega) (by go_grown) ?_;intro w1 cur hcur hcs hB1 hb1 hlt1)
 go_loopw [4] (tI w 190 l) (λi _=>l.length-(intOf i).toNat)
 case atStart=>exact ⟨0,zJ _,rfl,hB1,hlt1,Part.start hcur hcs l⟩
 case round=>
  obtain ⟨k,hk,rfl,hB,hlt,hP⟩:=hrel;clear hB1 hb1 hlt1 hcur hcs;by_cases hkl:k<l.length
  . have hx:=zE hkl;obtain ⟨eb,eo,ee,rfl,hcl,hcc,hxr⟩:=HE.out k _ hx;have hxs:=HS.out k _ hx;have HX:=Lib.hid hx;clear hx;generalize l[k]=x at*;obtain ⟨cur2,hg,hgs⟩:=hP.out.block;have hgs2:cur2.size=l.length*2:=hgs;have hroom:=zL 2 (show k+1<=l.length by omega);obtain ⟨x0,x1,rfl⟩:=YE (show _=2 from hcl);have p0:wr.cell? ⟨eb,eo+k*2,none⟩=some x0:=cBt hB (hcc 0 _ rfl);have p1:wr.cell? ⟨eb,eo+k*2+1,none⟩=some x1:=cBt hB (hcc 1 _ rfl);have HXR:=Lib.hid hxr;clear hxr hcc hcl;have HG:=Lib.hid hg;clear hg;go_wp2_with (go_at_call 114;refine Wj (w:=w) (Qaj _ [x0,x1] x (Xw HXR.out hB) (by omega)) (by go_grown) ?_;intro w2 cs L hB2 hb2 hz2 _ ho hL;obtain ⟨eoa1,ecp1,rfl⟩:=FN (GoD.own_rd ho);have hg2:=(hb2.block _ hlt).trans HG.out;obtain ⟨z0,q0⟩:=cXt hg2 (k*2) (by omega);obtain ⟨z1,q1⟩:=cXt hg2 (k*2+1) (by omega);have fz:=Jc hg2;clear hg2;have HO:=Lib.hid ho;clear ho;have HL:=Lib.hid hL;clear hL;have HB2:=Lib.hid hb2;clear hb2)
    go_roundw
    case rel=>exact ⟨k+1,by omega,by go_num,by go_grown,by simp only[World.size_setCell];omega,by
     have h:=hP.out.step HB2.out hkl hk HX.out HO.out HL.out;rw[show GoD.n Qj=2 from rfl] at h;simp only[World.setCells,zN,Nat.reduceAdd] at h;exact h⟩
    case measure=>simp[intOf];omega
  obtain rfl:k=l.length:=by omega
  go_wp2
  go_ret
  obtain ⟨L,hL,hLB⟩:=hP.out.done hlm;exact ⟨_,L,rfl,hB,hL,hLB⟩
theorem NV (w:World) (ca:List Value) (a:Xj) (ha:rd w ca a) (hsz:GoD.size a<=1048576):Calls Tryz.prog 24 #[.agg ca.toArray] w (RetA w a):=by
 obtain ⟨a1,a2,a3⟩:=a;obtain ⟨ac1,at1,rfl,ar1,ac2,at2,rfl,ar2,ar3⟩:=ha;obtain ⟨ax1_0,ax1_1,ax1_2,rfl⟩:=SM (show _=3 from GoD.rd_len ar1);obtain ⟨ax2_0,rfl⟩:=Bf (show _=1 from GoD.rd_len ar2);obtain ⟨ax3_0,rfl⟩:=Bf (show _=1 from GoD.rd_len ar3);dsimp only[zF,zD] at*
 replace hsz:(GoD.size a1+(GoD.size a2+GoD.size a3))<=1048576:=hsz
 have AR1H:=Lib.hid ar1;clear ar1;have AR2H:=Lib.hid ar2;clear ar2;have AR3H:=Lib.hid ar3;clear ar3;have tok1:True:=trivial;have tok2:True:=trivial;have tok3:True:=trivial;go_enter Tryz.func24,Tryz.ntmps24
 go_wp2_with (first | (go_at_call 62;have tk:=tok1;clear tok1;refine Wj (w:=w) (IW _ [ax1_0,ax1_1,ax1_2] a1 (Xw AR1H.out (by go_grown)) (by omega)) (by go_grown) ?_;intro w1 cs1 L1 hB hb hz _ ho1 hL1;obtain ⟨r1_oa1,r1_cp1,r1_oa2,r1_cp2,rfl⟩:=VH (GoD.own_rd ho1);have hz2:=hb.size;(try simp only[zSt] at hz2);(try simp only[zSt] at hL1);have hlt1:=GoD.own_lt ho1;have c1_0:=λo=>Z0 hb (w.heap.size) o (by go_size);have f1_0:=λo=>Kl hb (w.heap.size) o (by go_size);have c1_1:=λo=>Z0 hb (w.heap.size+1) o (by go_size);have f1_1:=λo=>Kl hb (w.heap.size+1) o (by go_size);have c1_2:=λo=>Z0 hb (w.heap.size+1+1) o (by go_size);have f1_2:=λo=>Kl hb (w.heap.size+1+1) o (by go_size);have HO1:=Lib.hid ho1;clear ho1;have HL1:=Lib.hid hL1;clear hL1;have HT1:=Lib.hid hlt1;clear hlt1;have HB1:=Lib.hid hb;clear hb) | (go_at_call 63;have tk:=tok2;clear tok2;refine Hv (w:=w) (RM _ ax2_0 a2 (Xw AR2H.out (by go_grown)) (by omega)) (by go_grown) ?_;intro w2 v2 L2 hB hb hz _ ho2 hL2;obtain ⟨oa2,cp2,rfl⟩:=Yd ho2;have hz2:=hb.size;(try simp only[zSt] at hz2);(try simp only[zSt] at hL2);have hlt2:=GoD.own_lt ho2;have c2_0:=λo=>Z0 hb (w.heap.size) o (by go_size);have f2_0:=λo=>Kl hb (w.heap.size) o (by go_size);have c2_1:=λo=>Z0 hb (w.heap.size+1) o (by go_size);have f2_1:=λo=>Kl hb (w.heap.size+1) o (by go_size);have c2_2:=λo=>Z0 hb (w.heap.size+1+1) o (by go_size);have f2_2:=λo=>Kl hb (w.heap.size+1+1) o (by go_size);have HO2:=Lib.hid ho2;clear ho2;have HL2:=Lib.hid hL2;clear hL2;have HT2:=Lib.hid hlt2;clear hlt2;have HB2:=Lib.hid hb;clear hb) | (go_at_call 64;have tk:=tok3;clear tok3;refine Hv (w:=w) (NU _ ax3_0 a3 (Xw AR3H.out (by go_grown)) (by omega)) (by go_grown) ?_;intro w3 v3 L3 hB hb hz _ ho3 hL3;obtain ⟨oa3,cp3,rfl⟩:=Yd ho3;have hz2:=hb.size;(try simp only[zSt] at hz2);(try simp only[zSt] at hL3);have hlt3:=GoD.own_lt ho3;have c3_0:=λo=>Z0 hb (w.heap.size) o (by go_size);have f3_0:=λo=>Kl hb (w.heap.size) o (by go_size);have c3_1:=λo=>Z0 hb (w.heap.size+1) o (by go_size);have f3_1:=λo=>Kl hb (w.heap.size+1) o (by go_size);have c3_2:=λo=>Z0 hb (w.heap.size+1+1) o (by go_size);have f3_2:=λo=>Kl hb (w.heap.size+1+1) o (by go_size);have HO3:=Lib.hid ho3;clear ho3;have HL3:=Lib.hid hL3;clear hL3;have HT3:=Lib.hid hlt3;clear hlt3;have HB3:=Lib.hid hb;clear hb) | ((with_reducible show bodyPost _ _ _ _ _ _);refine bodyPost_ret (v:= .agg #[.slice r1_oa1 a1.1.length r1_cp1,.slice r1_oa2 a1.2.1.length r1_cp2,.int .i64 a1.2.2,.slice oa2 a2.length cp2,.slice oa3 a3.length cp3]) (by simp[results,Tryz.results24,go_sem,c1_1,c2_1,c3_1]) rfl ⟨[.slice r1_oa1 a1.1.length r1_cp1,.slice r1_oa2 a1.2.1.length r1_cp2,.int .i64 a1.2.2,.slice oa2 a2.length cp2,.slice oa3 a3.length cp3],(L1++(L2++L3)),rfl,by go_grown, ?_, ?_⟩;(exact (X0 (show own L1 _ [.slice r1_oa1 a1.1.length r1_cp1,.slice r1_oa2 a1.2.1.length r1_cp2,.int .i64 a1.2.2] a1 by (repeat (first | (with_reducible exact HO1.out) | ((with_reducible refine X5 ?_ ?_);rotate_left;exact (λhm=>by have:=HL1.out _ hm;omega)) | (with_reducible refine Y6 ?_) | (with_reducible refine Wh ?_) | (with_reducible refine Ku ?_ HB3.out) | (with_reducible refine Ku ?_ HB2.out)))) (X0 (show own L2 _ [.slice oa2 a2.length cp2] a2 by (repeat (first | (with_reducible exact HO2.out) | ((with_reducible refine X5 ?_ ?_);rotate_left;exact (λhm=>by have:=HL2.out _ hm;omega)) | (with_reducible refine Y6 ?_) | (with_reducible refine Wh ?_) | (with_reducible refine Ku ?_ HB3.out)))) (show own L3 _ [.slice oa3 a3.length cp3] a3 by (repeat (first | (with_reducible exact HO3.out) | ((with_reducible refine X5 ?_ ?_);rotate_left;exact (λhm=>by have:=HL3.out _ hm;omega)) | (with_reducible refine Y6 ?_) | (with_reducible refine Wh ?_)))) (λx hx hy=>by (try simp only[zG,List.not_mem_nil,zH,zD,false_or,or_false] at hy);have:=HT2.out x hx;rcases hy with hy<;>(first | (have:=HL3.out x hy;omega)))) (λx hx hy=>by (try simp only[zG,List.not_mem_nil,zH,zD,false_or,or_false] at hy);have:=HT1.out x hx;rcases hy with hy | hy<;>(first | (have:=HL2.out x hy;omega) | (have:=HL3.out x hy;omega)))));intro x hx;(try simp only[zG,List.not_mem_nil,zH,zD,false_or,or_false] at hx);rcases hx with hx | hx | hx<;>first | (have:=HL1.out x hx;omega) | (have:=HL2.out x hx;omega) | (have:=HL3.out x hx;omega)))
theorem IY (w:World) (v:Value) (l:List Cy) (ha:rd w [v] l) (hsz:GoD.size l<=1048576):Calls Tryz.prog 26 #[v] w (RetS w l):=by
 obtain ⟨oa,cap,e1,hl,hm,hel⟩:=ha;obtain rfl:v=_:=by simpa using e1
 clear e1;have HE:=Lib.hid hel;clear hel;have hn:l.length<=1048576:=by have:=V4 l;omega
 have HS:=Lib.hid (λi a (h:l[i]? =some a)=>Vq h);have hlm:l.length<=maxLen:=by omega
 go_enter Tryz.func26,Tryz.ntmps26
 go_wp2_with (at_make;refine Lm w (.tmp 6) (.tmp 6) 53 137 6 l.length rfl rfl Tryz.underlying53 (by kernel_rfl) rfl rfl (by omega) (by go_grown) ?_;intro w1 cur hcur hcs hB1 hb1 hlt1)
 go_loopw [4] (tI w 137 l) (λi _=>l.length-(intOf i).toNat)
 case atStart=>exact ⟨0,zJ _,rfl,hB1,hlt1,Part.start hcur hcs l⟩
 case round=>
  obtain ⟨k,hk,rfl,hB,hlt,hP⟩:=hrel;clear hB1 hb1 hlt1 hcur hcs;by_cases hkl:k<l.length
  . have hx:=zE hkl;obtain ⟨eb,eo,ee,rfl,hcl,hcc,hxr⟩:=HE.out k _ hx;have hxs:=HS.out k _ hx;have HX:=Lib.hid hx;clear hx;generalize l[k]=x at*;obtain ⟨cur2,hg,hgs⟩:=hP.out.block;have hgs2:cur2.size=l.length*6:=hgs;have hroom:=zL 6 (show k+1<=l.length by omega);obtain ⟨x0,x1,x2,x3,x4,x5,rfl⟩:=Qmi (show _=6 from hcl);have p0:wr.cell? ⟨eb,eo+k*6,none⟩=some x0:=cBt hB (hcc 0 _ rfl);have p1:wr.cell? ⟨eb,eo+k*6+1,none⟩=some x1:=cBt hB (hcc 1 _ rfl);have p2:wr.cell? ⟨eb,eo+k*6+2,none⟩=some x2:=cBt hB (hcc 2 _ rfl);have p3:wr.cell? ⟨eb,eo+k*6+3,none⟩=some x3:=cBt hB (hcc 3 _ rfl);have p4:wr.cell? ⟨eb,eo+k*6+4,none⟩=some x4:=cBt hB (hcc 4 _ rfl);have p5:wr.cell? ⟨eb,eo+k*6+5,none⟩=some x5:=cBt hB (hcc 5 _ rfl);have HXR:=Lib.hid hxr;clear hxr hcc hcl;have HG:=Lib.hid hg;clear hg;go_wp2_with (go_at_call 65;refine Wj (w:=w) (NS _ [x0,x1,x2,x3,x4,x5] x (Xw HXR.out hB) (by omega)) (by go_grown) ?_;intro w2 cs L hB2 hb2 hz2 _ ho hL;obtain ⟨eoa1,ecp1,eoa2,ecp2,eoa3,ecp3,rfl⟩:=DB (GoD.own_rd ho);have hg2:=(hb2.block _ hlt).trans HG.out;obtain ⟨z0,q0⟩:=cXt hg2 (k*6) (by omega);obtain ⟨z1,q1⟩:=cXt hg2 (k*6+1) (by omega);obtain ⟨z2,q2⟩:=cXt hg2 (k*6+2) (by omega);obtain ⟨z3,q3⟩:=cXt hg2 (k*6+3) (by omega);obtain ⟨z4,q4⟩:=cXt hg2 (k*6+4) (by omega);obtain ⟨z5,q5⟩:=cXt hg2 (k*6+5) (by omega);have fz:=Jc hg2;clear hg2;have HO:=Lib.hid ho;clear ho;have HL:=Lib.hid hL;clear hL;have HB2:=Lib.hid hb2;clear hb2)
    go_roundw
    case rel=>exact ⟨k+1,by omega,by go_num,by go_grown,by simp only[World.size_setCell];omega,by
     have h:=hP.out.step HB2.out hkl hk HX.out HO.out HL.out;rw[show GoD.n Cy=6 from rfl] at h;simp only[World.setCells,zN,Nat.reduceAdd] at h;exact h⟩
    case measure=>simp[intOf];omega
  obtain rfl:k=l.length:=by omega
  go_wp2
  go_ret
  obtain ⟨L,hL,hLB⟩:=hP.out.done hlm;exact ⟨_,L,rfl,hB,hL,hLB⟩
theorem Qak (w:World) (ca:List Value) (a:Ab) (ha:rd w ca a) (hsz:GoD.size a<=1048576):Calls Tryz.prog 7 #[.agg ca.toArray] w (RetA w a):=by
 obtain ⟨a1,a2,a3,a4,a5,a6⟩:=a;obtain ⟨ac1,at1,rfl,ar1,ac2,at2,rfl,ar2,ac3,at3,rfl,ar3,ac4,at4,rfl,ar4,ac5,at5,rfl,ar5,ar6⟩:=ha;obtain ⟨ax1_0,ax1_1,ax1_2,ax1_3,ax1_4,rfl⟩:=Qjo (show _=5 from GoD.rd_len ar1);obtain ⟨ax2_0,ax2_1,rfl⟩:=YE (show _=2 from GoD.rd_len ar2);obtain ⟨rfl,ar3⟩:=ar3;obtain ⟨ax4_0,rfl⟩:=Bf (show _=1 from GoD.rd_len ar4);obtain ⟨ax5_0,rfl⟩:=Bf (show _=1 from GoD.rd_len ar5);obtain ⟨ax6_0,rfl⟩:=Bf (show _=1 from GoD.rd_len ar6);dsimp only[zF,zD] at*
 replace hsz:(GoD.size a1+(GoD.size a2+(GoD.size a3+(GoD.size a4+(GoD.size a5+GoD.size a6)))))<=1048576:=hsz
 have AR1H:=Lib.hid ar1;clear ar1;have AR2H:=Lib.hid ar2;clear ar2;have AR3H:=Lib.hid ar3;clear ar3;have AR4H:=Lib.hid ar4;clear ar4;have AR5H:=Lib.hid ar5;clear ar5;have AR6H:=Lib.hid ar6;clear ar6;have tok1:True:=trivial;have tok2:True:=trivial;have tok3:True:=trivial;have tok4:True:=trivial;have tok5:True:=trivial;go_enter Tryz.func7,Tryz.ntmps7
 go_wp2_with (first | (go_at_call 24;have tk:=tok1;clear tok1;refine Wj (w:=w) (NV _ [ax1_0,ax1_1,ax1_2,ax1_3,ax1_4] a1 (Xw AR1H.out (by go_grown)) (by omega)) (by go_grown) ?_;intro w1 cs1 L1 hB hb hz _ ho1 hL1;obtain ⟨r1_oa1,r1_cp1,r1_oa2,r1_cp2,r1_oa3,r1_cp3,r1_oa4,r1_cp4,rfl⟩:=DA (GoD.own_rd ho1);have hz2:=hb.size;(try simp only[zSt] at hz2);(try simp only[zSt] at hL1);have hlt1:=GoD.own_lt ho1;have c1_0:=λo=>Z0 hb (w.heap.size) o (by go_size);have f1_0:=λo=>Kl hb (w.heap.size) o (by go_size);have c1_1:=λo=>Z0 hb (w.heap.size+1) o (by go_size);have f1_1:=λo=>Kl hb (w.heap.size+1) o (by go_size);have c1_2:=λo=>Z0 hb (w.heap.size+1+1) o (by go_size);have f1_2:=λo=>Kl hb (w.heap.size+1+1) o (by go_size);have HO1:=Lib.hid ho1;clear ho1;have HL1:=Lib.hid hL1;clear hL1;have HT1:=Lib.hid hlt1;clear hlt1;have HB1:=Lib.hid hb;clear hb) | (go_at_call 25;have tk:=tok2;clear tok2;refine Wj (w:=w) (Qhb _ [ax2_0,ax2_1] a2 (Xw AR2H.out (by go_grown)) (by omega)) (by go_grown) ?_;intro w2 cs2 L2 hB hb hz _ ho2 hL2;obtain rfl:=SP (GoD.own_rd ho2);have hz2:=hb.size;(try simp only[zSt] at hz2);(try simp only[zSt] at hL2);have hlt2:=GoD.own_lt ho2;have c2_0:=λo=>Z0 hb (w.heap.size) o (by go_size);have f2_0:=λo=>Kl hb (w.heap.size) o (by go_size);have c2_1:=λo=>Z0 hb (w.heap.size+1) o (by go_size);have f2_1:=λo=>Kl hb (w.heap.size+1) o (by go_size);have c2_2:=λo=>Z0 hb (w.heap.size+1+1) o (by go_size);have f2_2:=λo=>Kl hb (w.heap.size+1+1) o (by go_size);have HO2:=Lib.hid ho2;clear ho2;have HL2:=Lib.hid hL2;clear hL2;have HT2:=Lib.hid hlt2;clear hlt2;have HB2:=Lib.hid hb;clear hb) | (go_at_call 26;have tk:=tok3;clear tok3;refine Hv (w:=w) (IY _ ax4_0 a4 (Xw AR4H.out (by go_grown)) (by omega)) (by go_grown) ?_;intro w3 v3 L3 hB hb hz _ ho3 hL3;obtain ⟨oa3,cp3,rfl⟩:=Yd ho3;have hz2:=hb.size;(try simp only[zSt] at hz2);(try simp only[zSt] at hL3);have hlt3:=GoD.own_lt ho3;have c3_0:=λo=>Z0 hb (w.heap.size) o (by go_size);have f3_0:=λo=>Kl hb (w.heap.size) o (by go_size);have c3_1:=λo=>Z0 hb (w.heap.size+1) o (by go_size);have f3_1:=λo=>Kl hb (w.heap.size+1) o (by go_size);have c3_2:=λo=>Z0 hb (w.heap.size+1+1) o (by go_size);have f3_2:=λo=>Kl hb (w.heap.size+1+1) o (by go_size);have HO3:=Lib.hid ho3;clear ho3;have HL3:=Lib.hid hL3;clear hL3;have HT3:=Lib.hid hlt3;clear hlt3;have HB3:=Lib.hid hb;clear hb) | (go_at_call 27;have tk:=tok4;clear tok4;refine Hv (w:=w) (Qah _ ax5_0 a5 (Xw AR5H.out (by go_grown)) (by omega)) (by go_grown) ?_;intro w4 v4 L4 hB hb hz _ ho4 hL4;obtain ⟨oa4,cp4,rfl⟩:=Yd ho4;have hz2:=hb.size;(try simp only[zSt] at hz2);(try simp only[zSt] at hL4);have hlt4:=GoD.own_lt ho4;have c4_0:=λo=>Z0 hb (w.heap.size) o (by go_size);have f4_0:=λo=>Kl hb (w.heap.size) o (by go_size);have c4_1:=λo=>Z0 hb (w.heap.size+1) o (by go_size);have f4_1:=λo=>Kl hb (w.heap.size+1) o (by go_size);have c4_2:=λo=>Z0 hb (w.heap.size+1+1) o (by go_size);have f4_2:=λo=>Kl hb (w.heap.size+1+1) o (by go_size);have HO4:=Lib.hid ho4;clear ho4;have HL4:=Lib.hid hL4;clear hL4;have HT4:=Lib.hid hlt4;clear hlt4;have HB4:=Lib.hid hb;clear hb) | (go_at_call 28;have tk:=tok5;clear tok5;refine Hv (w:=w) (XM _ ax6_0 a6 (Xw AR6H.out (by go_grown)) (by omega)) (by go_grown) ?_;intro w5 v5 L5 hB hb hz _ ho5 hL5;obtain ⟨oa5,cp5,rfl⟩:=Yd ho5;have hz2:=hb.size;(try simp only[zSt] at hz2);(try simp only[zSt] at hL5);have hlt5:=GoD.own_lt ho5;have c5_0:=λo=>Z0 hb (w.heap.size) o (by go_size);have f5_0:=λo=>Kl hb (w.heap.size) o (by go_size);have c5_1:=λo=>Z0 hb (w.heap.size+1) o (by go_size);have f5_1:=λo=>Kl hb (w.heap.size+1) o (by go_size);have c5_2:=λo=>Z0 hb (w.heap.size+1+1) o (by go_size);have f5_2:=λo=>Kl hb (w.heap.size+1+1) o (by go_size);have HO5:=Lib.hid ho5;clear ho5;have HL5:=Lib.hid hL5;clear hL5;have HT5:=Lib.hid hlt5;clear hlt5;have HB5:=Lib.hid hb;clear hb) | ((with_reducible show bodyPost _ _ _ _ _ _);refine bodyPost_ret (v:= .agg #[.slice r1_oa1 a1.1.1.length r1_cp1,.slice r1_oa2 a1.1.2.1.length r1_cp2,.int .i64 a1.1.2.2,.slice r1_oa3 a1.2.1.length r1_cp3,.slice r1_oa4 a1.2.2.length r1_cp4,.string a2.1,.string a2.2,.int .i64 a3,.slice oa3 a4.length cp3,.slice oa4 a5.length cp4,.slice oa5 a6.length cp5]) (by simp[results,Tryz.results7,go_sem,c1_1,c2_1,c3_1,c4_1,c5_1]) rfl ⟨[.slice r1_oa1 a1.1.1.length r1_cp1,.slice r1_oa2 a1.1.2.1.length r1_cp2,.int .i64 a1.1.2.2,.slice r1_oa3 a1.2.1.length r1_cp3,.slice r1_oa4 a1.2.2.length r1_cp4,.string a2.1,.string a2.2,.int .i64 a3,.slice oa3 a4.length cp3,.slice oa4 a5.length cp4,.slice oa5 a6.length cp5],(L1++(L2++([]++(L3++(L4++L5))))),rfl,by go_grown, ?_, ?_⟩;(exact (X0 (show own L1 _ [.slice r1_oa1 a1.1.1.length r1_cp1,.slice r1_oa2 a1.1.2.1.length r1_cp2,.int .i64 a1.1.2.2,.slice r1_oa3 a1.2.1.length r1_cp3,.slice r1_oa4 a1.2.2.length r1_cp4] a1 by (repeat (first | (with_reducible exact HO1.out) | ((with_reducible refine X5 ?_ ?_);rotate_left;exact (λhm=>by have:=HL1.out _ hm;omega)) | (with_reducible refine Y6 ?_) | (with_reducible refine Wh ?_) | (with_reducible refine Ku ?_ HB5.out) | (with_reducible refine Ku ?_ HB4.out) | (with_reducible refine Ku ?_ HB3.out) | (with_reducible refine Ku ?_ HB2.out)))) (X0 (show own L2 _ [.string a2.1,.string a2.2] a2 by (repeat (first | (with_reducible exact HO2.out) | ((with_reducible refine X5 ?_ ?_);rotate_left;exact (λhm=>by have:=HL2.out _ hm;omega)) | (with_reducible refine Y6 ?_) | (with_reducible refine Wh ?_) | (with_reducible refine Ku ?_ HB5.out) | (with_reducible refine Ku ?_ HB4.out) | (with_reducible refine Ku ?_ HB3.out)))) (X0 (A5 _ AR3H.out) (X0 (show own L3 _ [.slice oa3 a4.length cp3] a4 by (repeat (first | (with_reducible exact HO3.out) | ((with_reducible refine X5 ?_ ?_);rotate_left;exact (λhm=>by have:=HL3.out _ hm;omega)) | (with_reducible refine Y6 ?_) | (with_reducible refine Wh ?_) | (with_reducible refine Ku ?_ HB5.out) | (with_reducible refine Ku ?_ HB4.out)))) (X0 (show own L4 _ [.slice oa4 a5.length cp4] a5 by (repeat (first | (with_reducible exact HO4.out) | ((with_reducible refine X5 ?_ ?_);rotate_left;exact (λhm=>by have:=HL4.out _ hm;omega)) | (with_reducible refine Y6 ?_) | (with_reducible refine Wh ?_) | (with_reducible refine Ku ?_ HB5.out)))) (show own L5 _ [.slice oa5 a6.length cp5] a6 by (repeat (first | (with_reducible exact HO5.out) | ((with_reducible refine X5 ?_ ?_);rotate_left;exact (λhm=>by have:=HL5.out _ hm;omega)) | (with_reducible refine Y6 ?_) | (with_reducible refine Wh ?_)))) (λx hx hy=>by (try simp only[zG,List.not_mem_nil,zH,zD,false_or,or_false] at hy);have:=HT4.out x hx;rcases hy with hy<;>(first | (have:=HL5.out x hy;omega)))) (λx hx hy=>by (try simp only[zG,List.not_mem_nil,zH,zD,false_or,or_false] at hy);have:=HT3.out x hx;rcases hy with hy | hy<;>(first | (have:=HL4.out x hy;omega) | (have:=HL5.out x hy;omega)))) (by simp)) (λx hx hy=>by (try simp only[zG,List.not_mem_nil,zH,zD,false_or,or_false] at hy);have:=HT2.out x hx;rcases hy with hy | hy | hy<;>(first | (have:=HL3.out x hy;omega) | (have:=HL4.out x hy;omega) | (have:=HL5.out x hy;omega)))) (λx hx hy=>by (try simp only[zG,List.not_mem_nil,zH,zD,false_or,or_false] at hy);have:=HT1.out x hx;rcases hy with hy | hy | hy | hy<;>(first | (have:=HL2.out x hy;omega) | (have:=HL3.out x hy;omega) | (have:=HL4.out x hy;omega) | (have:=HL5.out x hy;omega)))));intro x hx;(try simp only[zG,List.not_mem_nil,zH,zD,false_or,or_false] at hx);rcases hx with hx | hx | hx | hx | hx<;>first | (have:=HL1.out x hx;omega) | (have:=HL2.out x hx;omega) | (have:=HL3.out x hx;omega) | (have:=HL4.out x hx;omega) | (have:=HL5.out x hx;omega)))
open GoE (enc wide)
theorem Qal (a:Ab) (left:Int) (h0:0<=left) (h1:left<=1048576):ACalls Tryz.prog 4 [Cw a,SA left] (SA (szI (GoD.size a) left)):=TU (by unfold It;kernel_rfl) h0 h1 λw c hr=>CA w c a left hr h0 h1
theorem NW (a:List Kf) (left:Int) (h0:0<=left) (h1:left<=1048576):ACalls Tryz.prog 5 [OT a,SA left] (SA (szI (GoD.size a) left)):=TV (by unfold It;kernel_rfl) h0 h1 λw c hr=>UQ w c a left hr h0 h1
theorem Sb (a:Ab) (h:GoD.size a<=1048576):ACalls Tryz.prog 7 [Cw a] (Qmf a):=TY (by unfold It;kernel_rfl) λw c hr=>Qak w c a hr h
theorem Oy (a:List Kf) (h:GoD.size a<=1048576):ACalls Tryz.prog 8 [OT a] (Qhw a):=TZ (by unfold It;kernel_rfl) λw c hr=>NT w c a hr h
theorem Qel (a:Km):ACalls Tryz.prog 138 [Cw a,Cw a] (.b true):=eqA Qa Tryz.func138 a λ_ _ _=>eqT Qa a.1 <| eqI Qa a.2 <| eqE Qa
theorem Qam (l:List Km):ACalls Tryz.prog 74 [.h l,.h l] (.b true):=eqS Qa Zt Tryz.func74 true (λa=> .call 138 [Cw a,Cw a] (.b true)) (λ_ _ a=>Lr (Qel a)) l
theorem IZ (a:Dr):ACalls Tryz.prog 237 [Cw a,Cw a] (.b true):=eqA Qa Tryz.func237 a λ_ _ _=>eqI Qa a.1 <| eqI Qa a.2.1 <| eqT Qa a.2.2 <| eqE Qa
theorem Qhc (a:Ee):ACalls Tryz.prog 198 [Cw a,Cw a] (.b true):=eqA Qa Tryz.func198 a λ_ _ _=>eqT Qa a.1 <| eqG Qa (IZ a.2) <| eqE Qa
theorem Qem (l:List Ee):ACalls Tryz.prog 142 [.h l,.h l] (.b true):=eqS Qa Zt Tryz.func142 true (λa=> .call 198 [Cw a,Cw a] (.b true)) (λ_ _ a=>Lr (Qhc a)) l
theorem RN (a:Xx):ACalls Tryz.prog 80 [Cw a,Cw a] (.b true):=eqA Qa Tryz.func80 a λ_ _ _=>eqI Qa a.1 <| eqI Qa a.2.1 <| eqB Qa a.2.2.1 <| eqI Qa a.2.2.2.1 <| eqG Qa (Qem a.2.2.2.2) <| eqE Qa
theorem Qen (l:List Xx):ACalls Tryz.prog 75 [.h l,.h l] (.b true):=eqS Qa Zt Tryz.func75 true (λa=> .call 80 [Cw a,Cw a] (.b true)) (λ_ _ a=>Lr (RN a)) l
theorem LA (a:Xr):ACalls Tryz.prog 31 [Cw a,Cw a] (.b true):=eqA Qa Tryz.func31 a λ_ _ _=>eqG Qa (Qam a.1) <| eqG Qa (Qen a.2.1) <| eqI Qa a.2.2 <| eqE Qa
theorem Qhd (a:Yz):ACalls Tryz.prog 196 [Cw a,Cw a] (.b true):=eqA Qa Tryz.func196 a λ_ _ _=>eqI Qa a.1 <| eqI Qa a.2.1 <| eqI Qa a.2.2.1 <| eqT Qa a.2.2.2.1 <| eqG Qa (IZ a.2.2.2.2) <| eqE Qa
theorem Qeo (l:List Yz):ACalls Tryz.prog 139 [.h l,.h l] (.b true):=eqS Qa Zt Tryz.func139 true (λa=> .call 196 [Cw a,Cw a] (.b true)) (λ_ _ a=>Lr (Qhd a)) l
theorem Qep (a:Yc):ACalls Tryz.prog 76 [Cw a,Cw a] (.b true):=eqA Qa Tryz.func76 a λ_ _ _=>eqT Qa a.1 <| eqG Qa (Qeo a.2) <| eqE Qa
theorem RO (l:List Yc):ACalls Tryz.prog 32 [.h l,.h l] (.b true):=eqS Qa Zt Tryz.func32 true (λa=> .call 76 [Cw a,Cw a] (.b true)) (λ_ _ a=>Lr (Qep a)) l
theorem ZP (a:Um):ACalls Tryz.prog 10 [Cw a,Cw a] (.b true):=eqA Qa Tryz.func10 a λ_ _ _=>eqG Qa (LA a.1) <| eqG Qa (RO a.2) <| eqE Qa
theorem Rp {a b:Um} (h:a=b):ACalls Tryz.prog 10 [Cw a,Cw b] (Qfp true):=h▸ZP a
theorem XN (l:List Int):ACalls Tryz.prog 37 [.h l,.h l] (.b true):=eqS Qa Zt Tryz.func37 false (λa=> .eq (.b (a !=a)) (.b false)) (λ_ _ a=>Qm (by simp)) l
theorem Qan (a:Qj):ACalls Tryz.prog 140 [Cw a,Cw a] (.b true):=eqA Qa Tryz.func140 a λ_ _ _=>eqT Qa a.1 <| eqG Qa (XN a.2) <| eqE Qa
theorem NX (l:List Qj):ACalls Tryz.prog 77 [.h l,.h l] (.b true):=eqS Qa Zt Tryz.func77 true (λa=> .call 140 [Cw a,Cw a] (.b true)) (λ_ _ a=>Lr (Qan a)) l
theorem NY (a:Xj):ACalls Tryz.prog 33 [Cw a,Cw a] (.b true):=eqA Qa Tryz.func33 a λ_ _ _=>eqG Qa (LA a.1) <| eqG Qa (RO a.2.1) <| eqG Qa (NX a.2.2) <| eqE Qa
theorem Qhe (a:SL):ACalls Tryz.prog 34 [Cw a,Cw a] (.b true):=eqA Qa Tryz.func34 a λ_ _ _=>eqT Qa a.1 <| eqT Qa a.2 <| eqE Qa
theorem NZ (a:Cy):ACalls Tryz.prog 78 [Cw a,Cw a] (.b true):=eqA Qa Tryz.func78 a λ_ _ _=>eqI Qa a.1 <| eqG Qa (ZP a.2.1) <| eqI Qa a.2.2 <| eqE Qa
theorem LB (l:List Cy):ACalls Tryz.prog 35 [.h l,.h l] (.b true):=eqS Qa Zt Tryz.func35 true (λa=> .call 78 [Cw a,Cw a] (.b true)) (λ_ _ a=>Lr (NZ a)) l
theorem Qeq (a:Nm):ACalls Tryz.prog 197 [Cw a,Cw a] (.b true):=eqA Qa Tryz.func197 a λ_ _ _=>eqI Qa a.1 <| eqG Qa (XN a.2.1) <| eqG Qa (XN a.2.2) <| eqE Qa
theorem Qao (l:List Nm):ACalls Tryz.prog 141 [.h l,.h l] (.b true):=eqS Qa Zt Tryz.func141 true (λa=> .call 197 [Cw a,Cw a] (.b true)) (λ_ _ a=>Lr (Qeq a)) l
theorem Qer (a:Nn):ACalls Tryz.prog 79 [Cw a,Cw a] (.b true):=eqA Qa Tryz.func79 a λ_ _ _=>eqI Qa a.1 <| eqT Qa a.2.1 <| eqG Qa (XN a.2.2.1) <| eqG Qa (Qao a.2.2.2) <| eqE Qa
theorem Qap (l:List Nn):ACalls Tryz.prog 36 [.h l,.h l] (.b true):=eqS Qa Zt Tryz.func36 true (λa=> .call 79 [Cw a,Cw a] (.b true)) (λ_ _ a=>Lr (Qer a)) l
theorem Qaq (a:Ab):ACalls Tryz.prog 11 [Cw a,Cw a] (.b true):=eqA Qa Tryz.func11 a λ_ _ _=>eqG Qa (NY a.1) <| eqG Qa (Qhe a.2.1) <| eqI Qa a.2.2.1 <| eqG Qa (LB a.2.2.2.1) <| eqG Qa (Qap a.2.2.2.2.1) <| eqG Qa (XN a.2.2.2.2.2) <| eqE Qa
theorem Qar {a b:Ab} (h:a=b):ACalls Tryz.prog 11 [Cw a,Cw b] (Qfp true):=h▸Qaq a
theorem Qas (a:Kf):ACalls Tryz.prog 38 [Cw a,Cw a] (.b true):=eqA Qa Tryz.func38 a λ_ _ _=>eqI Qa a.1 <| eqG Qa (RN a.2.1) <| eqI Qa a.2.2.1 <| eqG Qa (Qep a.2.2.2) <| eqE Qa
theorem OA (l:List Kf):ACalls Tryz.prog 12 [.h l,.h l] (.b true):=eqS Qa Zt Tryz.func12 true (λa=> .call 38 [Cw a,Cw a] (.b true)) (λ_ _ a=>Lr (Qas a)) l
theorem OB {a b:(List Kf)} (h:a=b):ACalls Tryz.prog 12 [OT a,OT b] (Qfp true):=h▸OA a
theorem LC (a:Ab) (K:Int) (k:Nat) (hK:K=k) (h1:1<=k) (hk:k<=1152921504606846976) (hs:GoD.size a<=1073741824):Qke Tryz.prog 13 a K (GoD.markT a k):=⟨(by unfold It;kernel_rfl),λw L c ho=>IN w c a L K k hK h1 (by have:=bdT (a:=a) (k:=k) (by decide) hs;omega) ho⟩
theorem EM (a:List Kf) (K:Int) (k:Nat) (hK:K=k) (h1:1<=k) (hk:k<=1152921504606846976) (hs:GoD.size a<=1073741824):Qlk Tryz.prog 14 a K (Qx a k):=⟨(by unfold It;kernel_rfl),λw L c ho=>EL w c a L K k hK h1 (by have:=bdS (l:=a) (k:=k) (by decide) hs;omega) ho⟩
theorem AB (a:Um) (K:Int) (k:Nat) (hK:K=k) (h1:1<=k) (hk:k<=1152921504606846976) (hs:GoD.size a<=1073741824):Qke Tryz.prog 15 a K (GoD.markT a k):=⟨(by unfold It;kernel_rfl),λw L c ho=>HY w c a L K k hK h1 (by have:=bdT (a:=a) (k:=k) (by decide) hs;omega) ho⟩
theorem Sx (a:Um) (hs:GoD.size a<=1073741824):ACalls Tryz.prog 16 [Cw (GoD.markT a 1).1,SA 1] (SA ((GoD.markT a 1).2:Nat)):=TW (by unfold It;kernel_rfl) (by have:=bdT (a:=a) (k:=1) (by decide) hs;rw[Ln];unfold I64;omega) λw c hr=>AA w c a _ 1 1 rfl (by omega) (by have:=bdT (a:=a) (k:=1) (by decide) hs;omega) rfl hr
def Hj (aX:Ab) (aUser:Int) (aChanges:List Kf):Bool:=(bif decide ((szI (GoD.size aX) 1048576)<(0:Int)) then true else (bif decide ((szI (GoD.size aChanges) (szI (GoD.size aX) 1048576))<(0:Int)) then true else true))
theorem Ic (aX:Ab) (aUser:Int) (aChanges:List Kf):ACalls Tryz.prog 3 [.a [.h aX.1.1.1,.h aX.1.1.2.1,.i aX.1.1.2.2,.h aX.1.2.1,.h aX.1.2.2,.s aX.2.1.1,.s aX.2.1.2,.i aX.2.2.1,.h aX.2.2.2.1,.h aX.2.2.2.2.1,.h aX.2.2.2.2.2],.i aUser,.h aChanges] (.b (Hj aX aUser aChanges)):=by
 refine en Qa Tryz.func3 λw0 F0 hG=> ?_
 refine sn Qa [1,2,3,6] [3] p0 <| tn Qa [1,2,3,6,7] [3] p0 ?_
 have hz1:=Qig (GoD.size aX) 1048576;refine tu Qa [(3,.p 3 0),(6,.b false),(7,.i (szI (GoD.size aX) 1048576))] [0] [(3, [.h aX.1.1.1,.h aX.1.1.2.1,.i aX.1.1.2.2,.h aX.1.2.1,.h aX.1.2.2,.s aX.2.1.1,.s aX.2.1.2,.i aX.2.2.1,.h aX.2.2.2.1,.h aX.2.2.2.2.1,.h aX.2.2.2.2.2])] [] (pc 2 (Qal aX 1048576 (by omega) (by omega)) p0) <| Qc <| sn Qa [1,2,3,6,7,23] [3] p0 <| ck (decide ((szI (GoD.size aX) 1048576)<(0:Int))) (λh2=> ?_) (λh2=> ?_)
 ·exact tn Qa [1,2,3,6,7] [3] p0 <| Qh <| pb [] (Xm h2 (rfl))
 have h2d:=of_decide_eq_false h2;refine Qe ?_;have hz3:=Qig (GoD.size aChanges) (szI (GoD.size aX) 1048576);refine tn Qa [1,2,3,6,7] [3] (pc 2 (NW aChanges (szI (GoD.size aX) 1048576) (by omega) (by omega)) p0) <| Qc <| tu Qa [(28,.b (decide ((szI (GoD.size aChanges) (szI (GoD.size aX) 1048576))<(0:Int))))] [7] [] [] p0 <| ck (decide ((szI (GoD.size aChanges) (szI (GoD.size aX) 1048576))<(0:Int))) (λh4=> ?_) (λh4=> ?_)
 ·exact sn Qa [1,2,3,6] [3] p0 <| Qh <| pb [] (Qn h2 (Xm h4 (rfl)))
 have h4d:=of_decide_eq_false h4;refine Qe ?_;have hsz_aX:GoD.size aX<=1048576:=by omega
 have hsz_aChanges:GoD.size aChanges<=1048576:=by omega
 refine sn Qa [1,2,3,6,8,9] [3,8] (pc 1 (Sb aX hsz_aX) (pc 4 (Oy aChanges hsz_aChanges) (pc 5 ((Qd1 aX aUser aChanges)▸(Ov aX aUser aChanges)) p0))) <| tn Qa [1,2,3,6,8,9,10] [3,8,10] (pc 1 (Sb aX hsz_aX) p0) <| tu Qa [(8,.p 8 0),(9,.b (((Qg aX aUser aChanges)).2)),(10,.p 10 0),(11,.o 2624 aChanges)] [28] [(8, [.h ((((Qg aX aUser aChanges)).1).1.1),.h ((((Qg aX aUser aChanges)).1).1.2.1),.i ((((Qg aX aUser aChanges)).1).1.2.2),.h ((((Qg aX aUser aChanges)).1).2)]),(10, [.o 2496 aX.1.1.1,.o 2497 aX.1.1.2.1,.i aX.1.1.2.2,.o 2498 aX.1.2.1,.o 2499 aX.1.2.2,.s aX.2.1.1,.s aX.2.1.2,.i aX.2.2.1,.o 2500 aX.2.2.2.1,.o 2501 aX.2.2.2.2.1,.o 2502 aX.2.2.2.2.2])] [] (pc 1 (Oy aChanges hsz_aChanges) p0) <| sn Qa [1,2,3,6,8,9,10,11,12,13] [3,8,10,12] (pc 3 (F8 aX aUser aChanges) p0) <| Qc <| tn Qa [1,2,3,6,8,9,10,11,12,13,57] [3,8,10,12] (pc 2 (Rp (a:=((Qg aX aUser aChanges)).1) (b:=((Qg aX aUser aChanges)).1) (rfl)) (pe 3 (show .b (!true)= .b false from rfl) (pe 7 (show .b (!((((Qg aX aUser aChanges)).2)==(((Qg aX aUser aChanges)).2)))= .b false from Qm (by simp)) p0))) <| ckF <| Qe <| Qc <| tU Qa Zt [(12,.p 12 0),(13,.b (((Qg aX aUser aChanges)).2)),(62,.b false)] [] [(12, [.o 2944 ((((Qg aX aUser aChanges)).1).1.1),.o 2945 ((((Qg aX aUser aChanges)).1).1.2.1),.i ((((Qg aX aUser aChanges)).1).1.2.2),.o 2946 ((((Qg aX aUser aChanges)).1).2)])] [] (pc 2 (Sb aX hsz_aX) (pc 3 (Qar (a:=aX) (b:=aX) (rfl)) (pe 4 (show .b (!true)= .b false from rfl) p0))) <| ckF <| Qe <| Qc <| su Qa [(67,.b false)] [62] [] [] (pc 2 (Oy aChanges hsz_aChanges) (pc 3 (OB (a:=aChanges) (b:=aChanges) (rfl)) (pe 4 (show .b (!true)= .b false from rfl) p0))) <| ckF <| Qe <| su Qa [(14,.i 1)] [67] [] [] p0 <| Qc ?_
 have hm5:=bdT (a:=aX) (k:=1) (by decide) (zM hsz_aX (by decide));have hm6:=GoD.mkT_le aX 1;refine IQ Qa (LC aX 1 1 rfl (by omega) (by omega) ((zM hsz_aX (by decide)))) (by rw[Ln];unfold I64;omega) GoM.mkT [2496,2497,2498,2499,2500,2501,2502] [1,2,3,6,8,9,11,12,13,14] [3,8,12] (s':=⟨[(1,.i aUser),(2,.h aChanges),(3,.p 3 0),(6,.b false),(8,.p 8 0),(9,.b (((Qg aX aUser aChanges)).2)),(11,.o 2624 aChanges),(12,.p 12 0),(13,.b (((Qg aX aUser aChanges)).2)),(14,.i (((GoD.markT aX 1).2:Nat):Int))], [(3, [.h aX.1.1.1,.h aX.1.1.2.1,.i aX.1.1.2.2,.h aX.1.2.1,.h aX.1.2.2,.s aX.2.1.1,.s aX.2.1.2,.i aX.2.2.1,.h aX.2.2.2.1,.h aX.2.2.2.2.1,.h aX.2.2.2.2.2]),(8, [.h ((((Qg aX aUser aChanges)).1).1.1),.h ((((Qg aX aUser aChanges)).1).1.2.1),.i ((((Qg aX aUser aChanges)).1).1.2.2),.h ((((Qg aX aUser aChanges)).1).2)]),(12, [.o 2944 ((((Qg aX aUser aChanges)).1).1.1),.o 2945 ((((Qg aX aUser aChanges)).1).1.2.1),.i ((((Qg aX aUser aChanges)).1).1.2.2),.o 2946 ((((Qg aX aUser aChanges)).1).2)])]⟩) rfl rfl rfl rfl rfl rfl rfl rfl rfl rfl rfl rfl (by kernel_rfl) rfl rfl (by kernel_rfl) rfl rfl (by kernel_rfl) (by kernel_rfl) rfl (by kernel_rfl) ?_;refine Qc ?_;have hm7:=bdS (l:=aChanges) (k:=(GoD.markT aX 1).2) (by decide) (zM hsz_aChanges (by decide));have hm8:=Zw aChanges ((GoD.markT aX 1).2);refine Qd6 (EM aChanges (((GoD.markT aX 1).2:Nat):Int) ((GoD.markT aX 1).2) rfl (by omega) (by omega) ((zM hsz_aChanges (by decide)))) (by rw[Ln];unfold I64;omega) GoM.mkT 2624 [1,2,3,6,8,9,12,13,14] [3,8,12] (s':=⟨[(1,.i aUser),(2,.h aChanges),(3,.p 3 0),(6,.b false),(8,.p 8 0),(9,.b (((Qg aX aUser aChanges)).2)),(12,.p 12 0),(13,.b (((Qg aX aUser aChanges)).2)),(14,.i (((Qx aChanges ((GoD.markT aX 1).2)).2:Nat):Int))], [(3, [.h aX.1.1.1,.h aX.1.1.2.1,.i aX.1.1.2.2,.h aX.1.2.1,.h aX.1.2.2,.s aX.2.1.1,.s aX.2.1.2,.i aX.2.2.1,.h aX.2.2.2.1,.h aX.2.2.2.2.1,.h aX.2.2.2.2.2]),(8, [.h ((((Qg aX aUser aChanges)).1).1.1),.h ((((Qg aX aUser aChanges)).1).1.2.1),.i ((((Qg aX aUser aChanges)).1).1.2.2),.h ((((Qg aX aUser aChanges)).1).2)]),(12, [.o 2944 ((((Qg aX aUser aChanges)).1).1.1),.o 2945 ((((Qg aX aUser aChanges)).1).1.2.1),.i ((((Qg aX aUser aChanges)).1).1.2.2),.o 2946 ((((Qg aX aUser aChanges)).1).2)])]⟩) rfl rfl rfl rfl rfl rfl rfl rfl rfl rfl rfl rfl (by kernel_rfl) (by kernel_rfl) rfl rfl (by kernel_rfl) ?_;refine Qc <| su Qa [(86,.b false)] [13,14] [] [] (pe 1 (Qjn (p:=(((Qx aChanges ((GoD.markT aX 1).2)).2:Nat):Int)<(0:Int)) (by omega)) (pc 5 (Rp (a:=((Qg aX aUser aChanges)).1) (b:=((Qg aX aUser aChanges)).1) (rfl)) (pe 6 (show .b (!true)= .b false from rfl) (pe 11 (show .b (!((((Qg aX aUser aChanges)).2)==(((Qg aX aUser aChanges)).2)))= .b false from Qm (by simp)) p0)))) <| ckF <| Qe <| su Qa [(15,.i 1)] [86] [] [] p0 <| Qc ?_
 have hm9:=bdT (a:=(((Qg aX aUser aChanges)).1)) (k:=1) (by decide) (zM (Ow (K:=1048576) aX aUser aChanges (by omega) (by omega)) (by decide));have hm10:=GoD.mkT_le (((Qg aX aUser aChanges)).1) 1;refine IQ Qa (AB (((Qg aX aUser aChanges)).1) 1 1 rfl (by omega) (by omega) ((zM (Ow (K:=1048576) aX aUser aChanges (by omega) (by omega)) (by decide)))) (by rw[Ln];unfold I64;omega) GoM.mkT [2944,2945,2946] [1,2,3,6,8,9,12,15] [3,8,12] (s':=⟨[(1,.i aUser),(2,.h aChanges),(3,.p 3 0),(6,.b false),(8,.p 8 0),(9,.b (((Qg aX aUser aChanges)).2)),(12,.p 12 0),(15,.i (((GoD.markT (((Qg aX aUser aChanges)).1) 1).2:Nat):Int))], [(3, [.h aX.1.1.1,.h aX.1.1.2.1,.i aX.1.1.2.2,.h aX.1.2.1,.h aX.1.2.2,.s aX.2.1.1,.s aX.2.1.2,.i aX.2.2.1,.h aX.2.2.2.1,.h aX.2.2.2.2.1,.h aX.2.2.2.2.2]),(8, [.h ((((Qg aX aUser aChanges)).1).1.1),.h ((((Qg aX aUser aChanges)).1).1.2.1),.i ((((Qg aX aUser aChanges)).1).1.2.2),.h ((((Qg aX aUser aChanges)).1).2)]),(12, [.h (((GoD.markT (((Qg aX aUser aChanges)).1) 1).1).1.1),.h (((GoD.markT (((Qg aX aUser aChanges)).1) 1).1).1.2.1),.i (((GoD.markT (((Qg aX aUser aChanges)).1) 1).1).1.2.2),.h (((GoD.markT (((Qg aX aUser aChanges)).1) 1).1).2)])]⟩) rfl rfl rfl rfl rfl rfl rfl rfl rfl rfl rfl rfl (by kernel_rfl) rfl rfl (by kernel_rfl) rfl rfl (by kernel_rfl) (by kernel_rfl) rfl (by kernel_rfl) ?_;exact su Qa [(16,.i 1)] [] [] [] p0 <| sn Qa [1,2,3,6,8,9,12,15,16] [3,8,12] (pc 2 (Sx (((Qg aX aUser aChanges)).1) (zM (Ow (K:=1048576) aX aUser aChanges (by omega) (by omega)) (by decide))) p0) <| Qc <| tn Qa [1,2,3,6,8,9,12,15,16,94] [3,8,12] (pe 1 (Qjn (p:=(((GoD.markT (((Qg aX aUser aChanges)).1) 1).2:Nat):Int)<(0:Int)) (by omega)) p0) <| ckF <| Qe <| Qc <| tu Qa [(16,.i (((GoD.markT (((Qg aX aUser aChanges)).1) 1).2:Nat):Int)),(97,.b false)] [16] [] [] (pe 2 (show .b ((((GoD.markT (((Qg aX aUser aChanges)).1) 1).2:Nat):Int) !=(((GoD.markT (((Qg aX aUser aChanges)).1) 1).2:Nat):Int))= .b false from Qm (by simp)) p0) <| ckF <| Qe <| sn Qa [6,8,9,12,15,16,17,18] [8,12,17] (pc 1 (Sb aX hsz_aX) (pc 4 (Oy aChanges hsz_aChanges) (pc 5 (F8 aX aUser aChanges) p0))) <| Qc <| tn Qa [6,12,15,16,115] [12] (pc 2 (Rp (a:=((Qg aX aUser aChanges)).1) (b:=((Qg aX aUser aChanges)).1) (rfl)) (pe 3 (show .b (!true)= .b false from rfl) (pe 7 (show .b (!((((Qg aX aUser aChanges)).2)==(((Qg aX aUser aChanges)).2)))= .b false from Qm (by simp)) p0))) <| ckF <| Qe <| tu Qa [(16,.i 1)] [1,2,3,8,9,16,97] [] [3,8] p0 <| sn Qa [6,15,16] [] (pc 2 (Sx (((Qg aX aUser aChanges)).1) (zM (Ow (K:=1048576) aX aUser aChanges (by omega) (by omega)) (by decide))) p0) <| Qc <| tn Qa [6,15,16,120] [] (pe 1 (Qjn (p:=(((GoD.markT (((Qg aX aUser aChanges)).1) 1).2:Nat):Int)<(0:Int)) (by omega)) p0) <| ckF <| Qe <| Qc <| tu Qa [(123,.b false)] [12,15,16] [] [12] (pe 2 (show .b ((((GoD.markT (((Qg aX aUser aChanges)).1) 1).2:Nat):Int) !=(((GoD.markT (((Qg aX aUser aChanges)).1) 1).2:Nat):Int))= .b false from Qm (by simp)) p0) <| ckF <| Qe <| sn Qa [6] [] p0 <| Qh <| pb [] (Qn h2 (Qn h4 (rfl)))
open GoD (rd own)
set_option maxRecDepth 100000 in
set_option maxHeartbeats 1000000 in
theorem Se (w:World) (c0:List Value) (a0:Ab) (h0:rd w c0 a0) (a1:Int) (h1:I64 a1) (v2:Value) (a2:List Kf) (h2:rd w [v2] a2) (hbig:¬(GoD.size a0+GoD.size a2<=1048576)):Calls Tryz.prog 3 #[.agg c0.toArray,.int .i64 a1,v2] w (Ret w (.bool true)):=by
 obtain ⟨p0_oa1,p0_cp1,p0_oa2,p0_cp2,p0_oa3,p0_cp3,p0_oa4,p0_cp4,p0_oa5,p0_cp5,p0_oa6,p0_cp6,p0_oa7,p0_cp7,rfl⟩:=FP h0;have HA0:=Lib.hid h0;clear h0;have HA1:=Lib.hid h1;clear h1;obtain ⟨p2_oa,p2_cp,rfl⟩:=Ll h2;have hln2:=Qce h2;have HA2:=Lib.hid h2;clear h2;have tok1:True:=trivial;have tok2:True:=trivial;go_enter Tryz.func3,Tryz.ntmps3
 go_wp2_with (first | (go_at_call 4;have tk:=tok1;clear tok1;refine Vd (w:=w) (CA _ [.slice p0_oa1 a0.1.1.1.length p0_cp1,.slice p0_oa2 a0.1.1.2.1.length p0_cp2,.int .i64 a0.1.1.2.2,.slice p0_oa3 a0.1.2.1.length p0_cp3,.slice p0_oa4 a0.1.2.2.length p0_cp4,.string a0.2.1.1,.string a0.2.1.2,.int .i64 a0.2.2.1,.slice p0_oa5 a0.2.2.2.1.length p0_cp5,.slice p0_oa6 a0.2.2.2.2.1.length p0_cp6,.slice p0_oa7 a0.2.2.2.2.2.length p0_cp7] a0 _ (Xw HA0.out (by repeat (first | (with_reducible exact Below.refl _ _) | (with_reducible refine Below.alloc ?_ (by go_size) _) | (with_reducible refine Below.drew ?_)))) (by omega) (by omega)) (by repeat (first | (with_reducible exact Below.refl _ _) | (with_reducible refine Below.alloc ?_ (by go_size) _) | (with_reducible refine Below.drew ?_))) ?_;intro w1 r1 hB1 hb hz1 _ hr hs1;have HR1:=Lib.hid hr;clear hr;have hz2:=hb.size;(repeat (first | rewrite [World.size_alloc] at hz2 | rewrite [World.size_setCell] at hz2 | rewrite [World.size_drew] at hz2));have c1_0:=λo=>Z0 hb (w.heap.size) o (by go_size);have l1_0:w.heap.size<w1.heap.size:=(by go_size);have HB1:=Lib.hid hb;clear hb) | (go_at_call 5;have tk:=tok2;clear tok2;refine Vd (w:=w) (UQ _ (.slice p2_oa a2.length p2_cp) a2 _ (Xw HA2.out (by repeat (first | (with_reducible exact Below.refl _ _) | (with_reducible refine BD ?_ HB1.out (by go_size)) | (with_reducible refine Below.alloc ?_ (by go_size) _) | (with_reducible refine Below.drew ?_)))) (by omega) (by omega)) (by repeat (first | (with_reducible exact Below.refl _ _) | (with_reducible refine BD ?_ HB1.out (by go_size)) | (with_reducible refine Below.alloc ?_ (by go_size) _) | (with_reducible refine Below.drew ?_))) ?_;intro w2 r2 hB2 hb hz2 _ hr hs2;have HR2:=Lib.hid hr;clear hr;have hz2:=hb.size;(repeat (first | rewrite [World.size_alloc] at hz2 | rewrite [World.size_setCell] at hz2 | rewrite [World.size_drew] at hz2));have c2_0:=λo=>Z0 hb (w.heap.size) o (by go_size);have l2_0:w.heap.size<w2.heap.size:=(by go_size);have HB2:=Lib.hid hb;clear hb) | (exfalso;have q1:=HR1.out;have q2:=HR2.out;apply hbig;unfold szq at*;omega))
 all_goals
  go_ret
  refine ⟨rfl, ?_⟩;first | (with_reducible assumption) | go_grown
theorem F9 (a0:Ab) (a1:Int) (a2:List Kf):Hj a0 a1 a2=true:=by
 unfold Hj;simp
theorem Sf (w:World) (c0:List Value) (a0:Ab) (h0:rd w c0 a0) (a1:Int) (h1:I64 a1) (v2:Value) (a2:List Kf) (h2:rd w [v2] a2):Calls Tryz.prog 3 #[.agg c0.toArray,.int .i64 a1,v2] w (Ret w (.bool true)):=by
 by_cases hbig:GoD.size a0+GoD.size a2<=1048576
 . haveI:Good Tryz.prog w:=Good.none (by kernel_rfl) w
   have h:=(Ic a0 a1 a2).run (.cons (Qja h0 (GoE.wide_size (show GoD.size a0<=1073741824 by omega))) (.cons (Qjc h1) (.cons (Qjb h2 (GoE.wide_size (show GoD.size a2<=1073741824 by omega))) .nil)));rw[F9] at h;exact h.mono λ_ _ h=>Qfq h
 exact Se w c0 a0 h0 a1 h1 v2 a2 h2 hbig
end
end Go.Proofs.YtnnhlokdfkajnaaGreat
