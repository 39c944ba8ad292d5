/- Texts of this proof, put together by a program: Fe, Vv, Cv, Cfb, Cfc, Cfl, Cfv, Cfd, Cfe2, Ma, He, Sz, Fam. -/
import Derived.Test.YtcfmffieckchiaaGreatDoorP5
import Derived.Outline
import Derived.Laws.StructEq
import Derived.KernelRfl
import Derived.Test.YtcfmffieckchiaaGreatDoorProg
import Derived.Laws.IdiomStrings
set_option linter.unusedVariables false
set_option linter.unusedSimpArgs false
namespace Go.Proofs.YtcfmffieckchiaaGreatDoor
section
open Go.RowKit
open GoD (rd own)
theorem EV {s:ByteArray} {n:Nat} (h:G6 s=some n):n<=1000000000/\Z9 (n:Int)=s:=by
 by_cases hex:∃n:Nat,n<=1000000000/\Z9 (n:Int)=s
 . unfold G6 at h;rw[dif_pos hex] at h;have:=hex.choose_spec;rw[Option.some.inj h] at this;exact this
 unfold G6 at h;rw[dif_neg hex] at h;cases h
def UL (s:ByteArray) (k:Nat):ByteArray:=⟨s.data.mapIdx (λi x=>if i<k then x-49 else x)⟩
theorem Bk (s:ByteArray) (k:Nat):(UL s k).size=s.size:=Array.size_mapIdx
theorem YH (s:ByteArray) (k i:Nat) (h:i<(UL s k).size):(UL s k)[i]=if i<k then s[i]'(by rw[Bk] at h;exact h)-49 else s[i]'(by rw[Bk] at h;exact h):=by
 have h1:i<(s.data.mapIdx (λi x=>if i<k then x-49 else x)).size:=h;exact (Array.getElem_mapIdx h1)
theorem SX (s:ByteArray):UL s 0=s:=by
 unfold UL
 congr 1
 apply Array.ext
 . simp
 intro i h1 h2;simp
theorem BY {s t:ByteArray} (h:s.size=t.size) (h2:∀i (h1:i<s.size) (h3:i<t.size),s[i]=t[i]):s=t:=by
 apply ByteArray.ext;apply Array.ext
 . exact h
 intro i h1 h3;exact h2 i h1 h3
theorem NH (t:ByteArray):UL (shift t t.size) (shift t t.size).size=t:=by
 refine BY (by rw[Bk,Ve]) λi h1 h3=> ?_
 rw[YH,if_pos (by rw[Ve];exact h3),I2,if_pos h3,UInt8.add_sub_cancel]
theorem NI (s:ByteArray):shift (UL s s.size) (UL s s.size).size=s:=by
 refine BY (by rw[Ve,Bk]) λi h1 h3=> ?_
 rw[I2,if_pos (by rw[Bk];exact h3),YH,if_pos h3,UInt8.sub_add_cancel]
theorem Nf {n:Nat} (h:n<=999):Yt (n:Int)=shift (Z9 n) (Z9 n).size:=Su (Tz (by omega) (by omega))
theorem G7 {n:Nat} (h:n<=999) {s:ByteArray}:Yt (n:Int)=s↔Z9 (n:Int)=UL s s.size:=by
 rw[Nf h];constructor
 . intro e;rw[←e,NH]
 intro e;rw[e,NI]
theorem Mr {n:Nat} (h:n<=999) {s:ByteArray} (e:Yt (n:Int)=s) (i:Nat) (hi:i<s.size):97<=s[i].toNat/\s[i].toNat<=106:=by
 rw[Nf h] at e;subst e;have hi':i<(Z9 (n:Int)).size:=by rw[Ve] at hi;exact hi
 rw[I2,if_pos hi']
 have hd:=KB n ((Z9 (n:Int))[i]) (by
  rw[←D6];exact List.mem_iff_getElem.2 ⟨i,by rw[Array.length_toList];exact hi',rfl⟩)
 have h49:(49:UInt8).toNat=49:=rfl;rw[UInt8.toNat_add,h49];omega
theorem KD {n:Nat} (h:n<=999):(Yt (n:Int)).size<=3:=by
 rw[Nf h,Ve,I4];have:=Sv 2 n (by omega);simpa [ByteArray.size] using this
noncomputable def WU (s:ByteArray):Option Nat:= @dite _ (∃n:Nat,n<=999/\Yt (n:Int)=s) (Classical.propDecidable _) (λh=>some h.choose) (λ_=>none)
theorem LC {s:ByteArray} {n:Nat} (h:n<=999) (e:Yt (n:Int)=s):WU s=some n:=by
 have hex:∃n:Nat,n<=999/\Yt (n:Int)=s:=⟨n,h,e⟩;unfold WU;rw[dif_pos hex]
 congr 1
 have h1:=(G7 hex.choose_spec.1).1 hex.choose_spec.2;have h2:=(G7 h).1 e;exact Ox (h1.trans h2.symm)
theorem SY {s:ByteArray} (h:∀n:Nat,n<=999->Yt (n:Int)≠s):WU s=none:=by
 unfold WU;rw[dif_neg (λ⟨n,h1,h2⟩=>h n h1 h2)]
theorem Qf0 (x:UInt8):((x-49).toNat:Int)=IntKind.u8.wrap ((x.toNat:Int)-49):=by
 have h49:(49:UInt8).toNat=49:=rfl;have hx:=UInt8.toNat_lt x;rw[IntKind.wrap_u8,UInt8.toNat_sub,h49];omega
theorem EW {w:World} {g:Nat} {s:ByteArray} {k:Nat} (h:Lib.Bytes w g 0 (UL s k)) (hk:k<s.size) (v:Int) (hv:v=IntKind.u8.wrap ((s[k].toNat:Int)-49)):Lib.Bytes (w.setCell ⟨g,k,none⟩ (.int .u8 v)) g 0 (UL s (k+1)):=by
 intro i hi;rw[YH];have hi':i<s.size:=by rw[Bk] at hi;exact hi
 have h0:=h i (by rw[Bk];exact hi');rw[YH] at h0;rw[Nat.zero_add] at h0⊢;by_cases e:i=k
 . subst e;rw[World.cell?_setCell_same _ _ _ h0,if_pos (Nat.lt_succ_self _),Qf0,hv]
 rw[World.cell?_setCell_other _ _ _ _ (λh1:(⟨g,k,none⟩:Addr)=⟨g,i,none⟩=>e (by injection h1 with _ h2 _;exact h2.symm)),h0]
 congr 3
 by_cases hlt:i<k
 . rw[if_pos hlt,if_pos (by omega)]
 rw[if_neg hlt,if_neg (by omega)]
theorem BZ (w:World) (s:ByteArray):Lib.Bytes (Lib.bytesWorld w 5 s) w.heap.size 0 (UL s 0):=by
 have h:=Ov w s;rw[KA] at h;rw[SX];exact h
set_option maxRecDepth 20000 in
set_option maxHeartbeats 1000000 in
theorem Tb (w:World) (s:ByteArray) (hs:s.size<=maxLen):Calls Tryz.prog 97 #[.string s] w (Ret w (Qcl (WU s))):=by
 unfold maxLen at hs;have hY:∀n:Nat,n<=999->Yt (n:Int)=s->WU s=some n:=λn h e=>LC h e
 have hN:(∀n:Nat,n<=999->Yt (n:Int)≠s)->WU s=none:=SY;generalize WU s=r at*;have HY:=Lib.hid hY;clear hY;have HNO:=Lib.hid hN;clear hN;by_cases hl:s.size<=3
 . have hl3:(s.size:Int)<=3:=by omega
   go_enter Tryz.func97,Tryz.ntmps97
   go_wp2
   go_loopw [4] (λi wr=>∃k:Nat,k<=1000/\i= .int .i64 k/\Below w.heap.size w wr/\Hid (∀j:Nat,j<k->Yt (j:Int)≠s)) (λi _=>1000-(intOf i).toNat)
   case atStart=>exact ⟨0,by omega,rfl,Below.refl _ _,Lib.hid (λj hj=>absurd hj (Nat.not_lt_zero _))⟩
   case round=>
    obtain ⟨k,hk,rfl,hB,hno⟩:=hrel;by_cases hk9:k<=999
    . have hki:I64 (k:Int):=by unfold I64;omega
      have HK:=Lib.hid hki;clear hki;have hk9i:(k:Int)<=999:=by omega
      by_cases he:Yt (k:Int)=s
      . obtain rfl:r=some k:=HY.out k hk9 he;have HEQ:=Lib.hid he;clear he;go_wp2_with (first | (go_at_call 96;have hcon:=(λw1=>Mq w1 (k:Int) HK.out);rw[HEQ.out] at hcon;refine Xr (w:=wr) (hcon _) (by go_grown) ?_;clear hcon;intro g1 hG1 hb hz1 hz2;clear hb hz2))
        refine bodyPost_ret (v:= .tuple #[.int .i64 k,.bool true]) (by simp[results,Tryz.results97,go_sem]) rfl ⟨rfl,Vj hB hG1⟩
      generalize hu:Yt (k:Int)=u at*;have HU:=Lib.hid hu;clear hu;have hne:(u.toList==s.toList)=false:=by rw[Og];exact Qd4 he
      have HNE:=Lib.hid he;clear he;go_wp2_with (first | (go_at_call 96;have hcon:=(λw1=>Mq w1 (k:Int) HK.out);rw[HU.out] at hcon;refine Xr (w:=wr) (hcon _) (by go_grown) ?_;clear hcon;intro g1 hG1 hb hz1 hz2;clear hb hz2))
      go_roundw
      case rel=>exact ⟨k+1,by omega,by go_num,Vj hB hG1,Lib.hid (λj hj=>by
       by_cases e:j=k
       . subst e;rw[HU.out];exact HNE.out
       exact hno.out j (by omega))⟩
      case measure=>simp[intOf];omega
    obtain rfl:k=1000:=by omega
    obtain rfl:r=none:=HNO.out (λn hn=>hno.out n (by omega));go_wp2
    refine bodyPost_ret (v:= .tuple #[.int .i64 0,.bool false]) (by simp[results,Tryz.results97,go_sem]) rfl ⟨rfl,hB⟩
 obtain rfl:r=none:=HNO.out (λn hn e=>by have:=KD hn;rw[e] at this;omega);have hl3:¬((s.size:Int)<=3):=by omega
 go_enter Tryz.func97,Tryz.ntmps97
 go_wp2
 go_loopw [4] (λi wr=>i= .int .i64 0/\Below w.heap.size w wr) (λi _=>0)
 case atStart=>exact ⟨rfl,Below.refl _ _⟩
 case round=>
  obtain ⟨rfl,hB⟩:=hrel;go_wp2
  refine bodyPost_ret (v:= .tuple #[.int .i64 0,.bool false]) (by simp[results,Tryz.results97,go_sem]) rfl ⟨rfl,hB⟩
set_option maxRecDepth 20000 in
set_option maxHeartbeats 2000000 in
theorem Tc (w:World) (s:ByteArray) (hs:s.size<=maxLen) (ht:tabOk w) (he:errOk w):Calls Tryz.prog 121 #[.string s] w (Ret w (Qcl (WU s))):=by
 have HS:=Lib.hid hs;unfold maxLen at hs;have HT:=Lib.hid ht;clear ht;have HE:=Lib.hid he;clear he;have hY:∀n:Nat,n<=999->Yt (n:Int)=s->WU s=some n:=λn h e=>LC h e
 have hN:(∀n:Nat,n<=999->Yt (n:Int)≠s)->WU s=none:=SY;generalize WU s=r at*;have HY:=Lib.hid hY;clear hY;have HNO:=Lib.hid hN;clear hN;have hconv:∀w,(convert 9 123 (.string s)).run Tryz.prog w= .ok (.slice (some ⟨w.heap.size,0,none⟩) s.size (grownCap w s.size 0 5)) (Lib.bytesWorld w 5 s):=λw=>Lib.run_convert_string_bytes w 9 123 5 s Tryz.underlying9 Tryz.underlying123 Tryz.underlying5
 go_enter Tryz.func121,Tryz.ntmps121
 go_wp2
 clear hconv;have hB3:=(Lib.hid (Go.Joins.below_bytesWorld w.heap.size w 5 s (Nat.le_refl _)));have hs3:=Lib.bytesWorld_size w 5 s;have HST:=Lib.hid (BZ w s);have HFZ:=Lib.hid (Mp w 5 s);generalize hcap:grownCap w s.size 0 5=cap;clear hcap;generalize hw3:Lib.bytesWorld w 5 s=w3 at*;clear hw3;go_loopw [12] (λi wr=>∃k:Nat,k<=s.size/\i= .int .i64 k/\Below w.heap.size w wr/\w.heap.size<wr.heap.size/\Hid (Lib.Bytes wr w.heap.size 0 (UL s k))/\Hid (∀j,j<s.size->wr.frozen? ⟨w.heap.size,j,none⟩=false)) (λi _=>s.size-(intOf i).toNat)
 case atStart=>exact ⟨0,Nat.zero_le _,rfl,hB3.out,by omega,HST,HFZ⟩
 case round=>
  clear hB3 HST HFZ hs3;obtain ⟨k,hk,rfl,hB,hlt,hby,hfz⟩:=hrel;by_cases hkl:k<s.size
  . have hc:=hby.out k (by rw[Bk];exact hkl);rw[YH,if_neg (Nat.lt_irrefl _),Nat.zero_add] at hc;have hf:=hfz.out k hkl;have hx:∃x,s[k]=x:=⟨_,rfl⟩;obtain ⟨x,hx⟩:=hx;rw[hx] at hc;have HX:=Lib.hid hx;clear hx;by_cases h97:(x.toNat:Int)<97
    . obtain rfl:r=none:=HNO.out (λn hn e=>by have:=Mr hn e k hkl;rw[HX.out] at this;omega);go_wp2
      refine bodyPost_ret (v:= .tuple #[.int .i64 0,.bool false]) (by simp[results,Tryz.results121,go_sem]) rfl ⟨rfl,hB⟩
    by_cases h106:106<(x.toNat:Int)
    . obtain rfl:r=none:=HNO.out (λn hn e=>by have:=Mr hn e k hkl;rw[HX.out] at this;omega);go_wp2
      refine bodyPost_ret (v:= .tuple #[.int .i64 0,.bool false]) (by simp[results,Tryz.results121,go_sem]) rfl ⟨rfl,hB⟩
    go_wp2
    go_roundw
    case rel=>exact ⟨k+1,by omega,by go_num,Va hB (Nat.le_refl _),by rw[World.size_setCell];exact hlt,Lib.hid (EW hby.out hkl _ (by first | (rw[HX.out,IntKind.wrap_u8];done) | (rw[HX.out,IntKind.wrap_u8];omega))),Lib.hid (λj hj=>by rw[World.frozen?_setCell];exact hfz.out j hj)⟩
    case measure=>simp[intOf];omega
  obtain rfl:k=s.size:=by omega
  have hcv:=Lib.run_convert_whole (P:=Tryz.prog) wr 123 5 9 Tryz.underlying123 Tryz.underlying5 Tryz.underlying9 w.heap.size 0 (UL s s.size) hby.out;rw[Bk] at hcv;have hts:(UL s s.size).size<=maxLen:=by rw[Bk];exact HS.out
  have HTS:=Lib.hid hts;clear hts;have HU:=Lib.hid (rfl:UL s s.size=UL s s.size);generalize ht:UL s s.size=t at hcv HTS;have HTT:=Lib.hid ht;clear ht HU hby;cases hp:G6 t with
  | none=>
    obtain rfl:r=none:=HNO.out (λn hn e=>by have h1:=(G7 hn).1 e;rw[HTT.out] at h1;rw[KC (by omega) h1] at hp;cases hp);have HP:=Lib.hid hp;clear hp;have ho:Qcl none= .tuple #[.int .i64 0,.bool false]:=rfl;go_wp2_with (first | (go_at_call 160;have hcon:=(λw1 h1 h2=>Fo w1 t HTS.out h1 h2);rw[HP.out,ho] at hcon;refine Xr (w:=w) (hcon _ (HT.out.keep (by go_grown)) (HE.out.keep (by go_grown))) (by go_grown) ?_;clear hcon;intro g1 hG1 hb hz1 hz2;clear hb hz2))
    refine bodyPost_ret (v:= .tuple #[.int .i64 0,.bool false]) (by simp[results,Tryz.results121,go_sem]) rfl ⟨rfl,(by go_grown)⟩
  | some n=>
    have ho:Qcl (some n)= .tuple #[.int .i64 n,.bool true]:=rfl;have hps:=EV hp;have HP:=Lib.hid hp;clear hp;by_cases h9:n<=999
    . obtain rfl:r=some n:=HY.out n h9 ((G7 h9).2 (hps.2.trans HTT.out.symm));have h9i:¬(999<(n:Int)):=by omega
      go_wp2_with (first | (go_at_call 160;have hcon:=(λw1 h1 h2=>Fo w1 t HTS.out h1 h2);rw[HP.out,ho] at hcon;refine Xr (w:=w) (hcon _ (HT.out.keep (by go_grown)) (HE.out.keep (by go_grown))) (by go_grown) ?_;clear hcon;intro g1 hG1 hb hz1 hz2;clear hb hz2))
      refine bodyPost_ret (v:= .tuple #[.int .i64 n,.bool true]) (by simp[results,Tryz.results121,go_sem]) rfl ⟨rfl,(by go_grown)⟩
    obtain rfl:r=none:=HNO.out (λm hm e=>by have h1:=(G7 hm).1 e;rw[HTT.out,←hps.2] at h1;have:=Ox h1;omega);have h9i:999<(n:Int):=by omega
    go_wp2_with (first | (go_at_call 160;have hcon:=(λw1 h1 h2=>Fo w1 t HTS.out h1 h2);rw[HP.out,ho] at hcon;refine Xr (w:=w) (hcon _ (HT.out.keep (by go_grown)) (HE.out.keep (by go_grown))) (by go_grown) ?_;clear hcon;intro g1 hG1 hb hz1 hz2;clear hb hz2))
    refine bodyPost_ret (v:= .tuple #[.int .i64 0,.bool false]) (by simp[results,Tryz.results121,go_sem]) rfl ⟨rfl,(by go_grown)⟩
end
section
open Go.RowKit
open GoD (rd own)
def CS (b:UInt8):Bool:=decide (97<=b.toNat)&&decide (b.toNat<=122)
def Cg (s:ByteArray) (m:Int):Bool:=s.data.toList.all CS&&inR (s.size:Int) 1 m
theorem LD {s:ByteArray} {m:Int} {k:Nat} {b:UInt8} (hk:k<s.size) (hb:s[k]=b) (h:CS b=false):Cg s m=false:=by
 unfold Cg;rw[Bool.and_eq_false_iff]
 left
 rw[List.all_eq_false];exact ⟨b,List.mem_iff_getElem.2 ⟨k,by rw[Array.length_toList];exact hk,hb⟩,by rw[h];exact Bool.false_ne_true⟩
theorem CA {s:ByteArray} {m:Int} (h:∀k (hk:k<s.size),CS s[k]=true):Cg s m=inR (s.size:Int) 1 m:=by
 unfold Cg
 have:s.data.toList.all CS=true:=by
  rw[List.all_eq_true];intro b hb;obtain ⟨k,hk,e⟩:=List.mem_iff_getElem.1 hb;rw[←e];exact h k (by rw[Array.length_toList] at hk;exact hk)
 rw[this,Bool.true_and]
set_option maxRecDepth 20000 in
set_option maxHeartbeats 1000000 in
theorem SZ (w:World) (s:ByteArray) (m:Int) (hs:s.size<=maxLen):Calls Tryz.prog 174 #[.string s,.int .i64 m] w (Ret w (.bool (Cg s m))):=by
 unfold maxLen at hs;have hB:∀k b (hk:k<s.size),s[k]=b->CS b=false->Cg s m=false:=λk b hk hb h=>LD hk hb h
 have hG:(∀k (hk:k<s.size),CS s[k]=true)->Cg s m=inR (s.size:Int) 1 m:=CA;generalize Cg s m=r at*;have HB:=Lib.hid hB;clear hB;have HG:=Lib.hid hG;clear hG;go_enter Tryz.func174,Tryz.ntmps174
 go_wp2
 go_loop [5] (λi=>∃k:Nat,k<=s.size/\i= .int .i64 k/\Hid (∀j (hj:j<s.size),j<k->CS s[j]=true)) (λi=>s.size-(intOf i).toNat)
 case atStart=>exact ⟨0,Nat.zero_le _,rfl,Lib.hid (λj _ hj=>absurd hj (Nat.not_lt_zero _))⟩
 case round=>
  obtain ⟨k,hk,rfl,hlow⟩:=hrel;by_cases hkl:k<s.size
  . obtain ⟨x,hx⟩:∃x,s[k]=x:=⟨_,rfl⟩;have HX:=Lib.hid hx;by_cases h97:(x.toNat:Int)<97
    . obtain rfl:r=false:=HB.out k x hkl HX.out (by unfold CS;simp only[Bool.and_eq_false_iff,decide_eq_false_iff_not];omega);go_wp2
      go_ret
      exact ⟨rfl,Below.refl _ _⟩
    by_cases h122:122<(x.toNat:Int)
    . obtain rfl:r=false:=HB.out k x hkl HX.out (by unfold CS;simp only[Bool.and_eq_false_iff,decide_eq_false_iff_not];omega);go_wp2
      go_ret
      exact ⟨rfl,Below.refl _ _⟩
    go_wp2
    go_round
    case rel=>exact ⟨k+1,by omega,by go_num,Lib.hid (λj hj hjk=>by
     by_cases e:j=k
     . subst e;rw[HX.out];unfold CS;simp only[Bool.and_eq_true,decide_eq_true_eq];omega
     exact hlow.out j hj (by omega))⟩
    case measure=>simp[intOf];omega
  obtain rfl:k=s.size:=by omega
  have hr:=HG.out (λj hj=>hlow.out j hj hj);have HR:=Lib.hid hr.symm;clear hr;go_wp2_with (first | (go_at_call 53;refine Xr (w:=w) (Gl _ (s.size:Int) 1 m r HR.out) (by go_grown) ?_;intro g1 hG1 hb hz1 hz2;clear hb hz2))
  go_ret
  exact ⟨rfl,hG1⟩
set_option maxRecDepth 20000 in
set_option maxHeartbeats 1000000 in
theorem Oy (w:World) (s:ByteArray) (hs:s.size<=maxLen):Calls Tryz.prog 158 #[.string s] w (Ret w (.bool (Cg s 6))):=by
 unfold maxLen at hs;have hB:∀k b (hk:k<s.size),s[k]=b->CS b=false->Cg s 6=false:=λk b hk hb h=>LD hk hb h
 have hG:(∀k (hk:k<s.size),CS s[k]=true)->Cg s 6=inR (s.size:Int) 1 6:=CA;generalize Cg s 6=r at*;have HB:=Lib.hid hB;clear hB;have HG:=Lib.hid hG;clear hG;go_enter Tryz.func158,Tryz.ntmps158
 go_wp2
 go_loop [6] (λi=>∃k:Nat,k<=s.size/\i= .int .i64 k/\Hid (∀j (hj:j<s.size),j<k->CS s[j]=true)) (λi=>s.size-(intOf i).toNat)
 case atStart=>exact ⟨0,Nat.zero_le _,rfl,Lib.hid (λj _ hj=>absurd hj (Nat.not_lt_zero _))⟩
 case round=>
  obtain ⟨k,hk,rfl,hlow⟩:=hrel;by_cases hkl:k<s.size
  . obtain ⟨x,hx⟩:∃x,s[k]=x:=⟨_,rfl⟩;have HX:=Lib.hid hx;by_cases h97:(x.toNat:Int)<97
    . obtain rfl:r=false:=HB.out k x hkl HX.out (by unfold CS;simp only[Bool.and_eq_false_iff,decide_eq_false_iff_not];omega);go_wp2
      go_ret
      exact ⟨rfl,Below.refl _ _⟩
    by_cases h122:122<(x.toNat:Int)
    . obtain rfl:r=false:=HB.out k x hkl HX.out (by unfold CS;simp only[Bool.and_eq_false_iff,decide_eq_false_iff_not];omega);go_wp2
      go_ret
      exact ⟨rfl,Below.refl _ _⟩
    go_wp2
    go_round
    case rel=>exact ⟨k+1,by omega,by go_num,Lib.hid (λj hj hjk=>by
     by_cases e:j=k
     . subst e;rw[HX.out];unfold CS;simp only[Bool.and_eq_true,decide_eq_true_eq];omega
     exact hlow.out j hj (by omega))⟩
    case measure=>simp[intOf];omega
  obtain rfl:k=s.size:=by omega
  have hr:=HG.out (λj hj=>hlow.out j hj hj);have HR:=Lib.hid hr.symm;clear hr;go_wp2_with (first | (go_at_call 115;refine Xr (w:=w) (F3 _ (s.size:Int) 1 6 r HR.out) (by go_grown) ?_;intro g1 hG1 hb hz1 hz2;clear hb hz2))
  go_ret
  exact ⟨rfl,hG1⟩
theorem TA (w:World) (s:ByteArray) (m:Int) (r:Bool) (hs:s.size<=maxLen) (h:Cg s m=r):Calls Tryz.prog 174 #[.string s,.int .i64 m] w (Ret w (.bool r)):=h▸SZ w s m hs
theorem Fp (w:World) (s:ByteArray) (r:Bool) (hs:s.size<=maxLen) (h:Cg s 6=r):Calls Tryz.prog 158 #[.string s] w (Ret w (.bool r)):=h▸Oy w s hs
theorem Fq (w:World) (s:ByteArray) (r:Bool) (hs:s.size<=maxLen) (h:Cg s 6=r):Calls Tryz.prog 146 #[.string s] w (Ret w (.bool r)):=by
 have HS:=Lib.hid hs;unfold maxLen at hs;have HR:=Lib.hid h;clear h;go_enter Tryz.func146,Tryz.ntmps146
 go_wp2_with (first | (go_at_call 174;refine Xr (w:=w) (TA _ s 6 r HS.out HR.out) (by go_grown) ?_;intro g1 hG1 hb hz1 hz2;clear hb hz2))
 go_ret
 exact ⟨rfl,hG1⟩
def I5 (v:Z4):Bool:=
 if v.1=0 then v.2.1==0&&eqb v.2.2 ⟨#[]⟩ else if v.1=1 then inR v.2.1 0 999&&eqb v.2.2 ⟨#[]⟩ else if v.1=2 then Cg v.2.2 6&&v.2.1==0 else false
theorem CB (s:ByteArray):s.toList.isEmpty=eqb s ⟨#[]⟩:=by
 rw[←Og,show (⟨#[]⟩:ByteArray).toList= [] by rw[ByteArray.toList_eq]];cases s.toList<;>rfl
theorem Qd5 (i:Int) (s:ByteArray) (w:World):(binOp .eql 95 (.agg #[.int .i64 0,.int .i64 i,.string s]) (.agg #[.int .i64 0,.int .i64 0,.string ⟨#[]⟩])).run Tryz.prog w= .ok (.bool (i==0&&s.toList==(⟨#[]⟩:ByteArray).toList)) w:=by
 have u3:=Tryz.underlying3;have a3:=Tryz.isAgg3;have z3:=Tryz.sizeOf3;have u9:=Tryz.underlying9;have a9:=Tryz.isAgg9;have z9:=Tryz.sizeOf9;have hS:Tryz.prog.underlying 95=some (.struct (Tryz.prog.fieldsOf 95)):=by kernel_rfl
 have hp:Tryz.prog.stoodInHeld 95=false:=by kernel_rfl
 rw[run_eql_struct,show (10000:Nat)=9999+1 from rfl,run_equalIn_agg w 9999 95 _ _ hS hp];simp only[Program.fieldsOf,Tryz.underlying95];go_simp
 by_cases h1:i=0<;>simp[h1]
 cases s.toList<;>simp
set_option maxRecDepth 20000 in
set_option maxHeartbeats 1000000 in
theorem Rk (w:World) (a1 a2:Int) (a3:ByteArray) (h3:a3.size<=maxLen):Calls Tryz.prog 94 #[.agg #[.int .i64 a1,.int .i64 a2,.string a3]] w (Ret w (.bool (I5 (a1,a2,a3)))):=by
 have HS:=Lib.hid h3;unfold maxLen at h3;have es:=Og;by_cases h0:a1=0
 . subst h0;have hv:I5 (0,a2,a3)=(a2==0&&eqb a3 ⟨#[]⟩):=rfl;rw[hv];clear hv;have hz:=λw=>Qd5 a2 a3 w
   rw[Og] at hz;generalize (a2==0&&eqb a3 ⟨#[]⟩)=r at*;clear es;go_enter Tryz.func94,Tryz.ntmps94
   go_wp2
   go_ret
   exact ⟨rfl,by go_grown⟩
 by_cases h1:a1=1
 . subst h1;have hv:I5 (1,a2,a3)=(inR a2 0 999&&eqb a3 ⟨#[]⟩):=rfl;rw[hv];clear hv h0;cases hr:inR a2 0 999
   . have HR:=Lib.hid hr;clear hr;rw[Bool.false_and];go_enter Tryz.func94,Tryz.ntmps94
     go_wp2_with (first | (go_at_call 53;refine Xr (w:=w) (Gl _ a2 0 999 false HR.out) (by go_grown) ?_;intro g1 hG1 hb hz1 hz2;have q0:=λo=>Zl hb w.heap.size o (by first | go_size | omega);clear hb hz2))
     go_ret
     exact ⟨rfl,by go_grown⟩
   have HR:=Lib.hid hr;clear hr;rw[Bool.true_and];generalize he:eqb a3 ⟨#[]⟩=r;have he2:a3.toList.isEmpty=r:=by rw[CB];exact he
   have HEE:=Lib.hid he;clear he es;go_enter Tryz.func94,Tryz.ntmps94
   go_wp2_with (first | (go_at_call 53;refine Xr (w:=w) (Gl _ a2 0 999 true HR.out) (by go_grown) ?_;intro g1 hG1 hb hz1 hz2;have q0:=λo=>Zl hb w.heap.size o (by first | go_size | omega);clear hb hz2))
   go_ret
   exact ⟨rfl,by go_grown⟩
 by_cases h2:a1=2
 . subst h2;have hv:I5 (2,a2,a3)=(Cg a3 6&&a2==0):=rfl;rw[hv];clear hv h0 h1;cases hr:Cg a3 6
   . have HR:=Lib.hid hr;clear hr;rw[Bool.false_and];go_enter Tryz.func94,Tryz.ntmps94
     go_wp2_with (first | (go_at_call 146;refine Xr (w:=w) (Fq _ a3 false HS.out HR.out) (by go_grown) ?_;intro g1 hG1 hb hz1 hz2;have q0:=λo=>Zl hb w.heap.size o (by first | go_size | omega);clear hb hz2))
     go_ret
     exact ⟨rfl,by go_grown⟩
   have HR:=Lib.hid hr;clear hr;rw[Bool.true_and];go_enter Tryz.func94,Tryz.ntmps94
   go_wp2_with (first | (go_at_call 146;refine Xr (w:=w) (Fq _ a3 true HS.out HR.out) (by go_grown) ?_;intro g1 hG1 hb hz1 hz2;have q0:=λo=>Zl hb w.heap.size o (by first | go_size | omega);clear hb hz2))
   go_ret
   exact ⟨rfl,by go_grown⟩
 have hv:I5 (a1,a2,a3)=false:=by unfold I5;rw[if_neg h0,if_neg h1,if_neg h2]
 rw[hv];clear hv;go_enter Tryz.func94,Tryz.ntmps94
 go_wp2
 go_ret
 exact ⟨rfl,by go_grown⟩
theorem Vb (w:World) (a1 a2:Int) (a3:ByteArray) (r:Bool) (h3:a3.size<=maxLen) (h:I5 (a1,a2,a3)=r):Calls Tryz.prog 94 #[.agg #[.int .i64 a1,.int .i64 a2,.string a3]] w (Ret w (.bool r)):=h▸Rk w a1 a2 a3 h3
set_option maxRecDepth 20000 in
set_option maxHeartbeats 1000000 in
theorem Rl (w:World) (a1 a2:Int) (a3:ByteArray) (h3:a3.size<=maxLen):Calls Tryz.prog 118 #[.agg #[.int .i64 a1,.int .i64 a2,.string a3]] w (Ret w (.bool (I5 (a1,a2,a3)))):=by
 have HS:=Lib.hid h3;unfold maxLen at h3;have es:=Og;by_cases h0:a1=0
 . subst h0;have hv:I5 (0,a2,a3)=(a2==0&&eqb a3 ⟨#[]⟩):=rfl;rw[hv];clear hv;have hz:=λw=>Qd5 a2 a3 w
   rw[Og] at hz;generalize (a2==0&&eqb a3 ⟨#[]⟩)=r at*;clear es;go_enter Tryz.func118,Tryz.ntmps118
   go_wp2
   go_ret
   exact ⟨rfl,by go_grown⟩
 by_cases h1:a1=1
 . subst h1;have hv:I5 (1,a2,a3)=(inR a2 0 999&&eqb a3 ⟨#[]⟩):=rfl;rw[hv];clear hv h0;cases hr:inR a2 0 999
   . have HR:=Lib.hid hr;clear hr;rw[Bool.false_and];go_enter Tryz.func118,Tryz.ntmps118
     go_wp2_with (first | (go_at_call 115;refine Xr (w:=w) (F3 _ a2 0 999 false HR.out) (by go_grown) ?_;intro g1 hG1 hb hz1 hz2;have q0:=λo=>Zl hb w.heap.size o (by first | go_size | omega);clear hb hz2))
     go_ret
     exact ⟨rfl,by go_grown⟩
   have HR:=Lib.hid hr;clear hr;rw[Bool.true_and];generalize he:eqb a3 ⟨#[]⟩=r;have he2:a3.toList.isEmpty=r:=by rw[CB];exact he
   have HEE:=Lib.hid he;clear he es;go_enter Tryz.func118,Tryz.ntmps118
   go_wp2_with (first | (go_at_call 115;refine Xr (w:=w) (F3 _ a2 0 999 true HR.out) (by go_grown) ?_;intro g1 hG1 hb hz1 hz2;have q0:=λo=>Zl hb w.heap.size o (by first | go_size | omega);clear hb hz2))
   go_ret
   exact ⟨rfl,by go_grown⟩
 by_cases h2:a1=2
 . subst h2;have hv:I5 (2,a2,a3)=(Cg a3 6&&a2==0):=rfl;rw[hv];clear hv h0 h1;cases hr:Cg a3 6
   . have HR:=Lib.hid hr;clear hr;rw[Bool.false_and];go_enter Tryz.func118,Tryz.ntmps118
     go_wp2_with (first | (go_at_call 158;refine Xr (w:=w) (Fp _ a3 false HS.out HR.out) (by go_grown) ?_;intro g1 hG1 hb hz1 hz2;have q0:=λo=>Zl hb w.heap.size o (by first | go_size | omega);clear hb hz2))
     go_ret
     exact ⟨rfl,by go_grown⟩
   have HR:=Lib.hid hr;clear hr;rw[Bool.true_and];go_enter Tryz.func118,Tryz.ntmps118
   go_wp2_with (first | (go_at_call 158;refine Xr (w:=w) (Fp _ a3 true HS.out HR.out) (by go_grown) ?_;intro g1 hG1 hb hz1 hz2;have q0:=λo=>Zl hb w.heap.size o (by first | go_size | omega);clear hb hz2))
   go_ret
   exact ⟨rfl,by go_grown⟩
 have hv:I5 (a1,a2,a3)=false:=by unfold I5;rw[if_neg h0,if_neg h1,if_neg h2]
 rw[hv];clear hv;go_enter Tryz.func118,Tryz.ntmps118
 go_wp2
 go_ret
 exact ⟨rfl,by go_grown⟩
theorem Vc (w:World) (a1 a2:Int) (a3:ByteArray) (r:Bool) (h3:a3.size<=maxLen) (h:I5 (a1,a2,a3)=r):Calls Tryz.prog 118 #[.agg #[.int .i64 a1,.int .i64 a2,.string a3]] w (Ret w (.bool r)):=h▸Rl w a1 a2 a3 h3
end
section
open Go.RowKit
open GoD (rd own)
def EX (v:Z4):Value:= .agg #[.int .i64 v.1,.int .i64 v.2.1,.string v.2.2]
def Rm:Z4:=(0,0,⟨#[]⟩)
noncomputable def Ut (v:Z4) (k:Int):Z4×Bool:=
 if I5 v=false\/v.1=0\/inR k 1 2=false then (Rm,false)
 else if v.1=k then (v,true)
 else if k=2 then ((2,0,Yt v.2.1),true)
 else match WU v.2.2 with
  | some n=>((1,(n:Int),⟨#[]⟩),true)
  | none=>(Rm,false)
def Qii (p:Z4×Bool):Value:= .tuple #[EX p.1,.bool p.2]
theorem Sw (w:World) (s:ByteArray):Calls Tryz.prog 95 #[.string s] w (Ret w (.agg #[.int .i64 2,.int .i64 0,.string s])):=by
 go_enter Tryz.func95,Tryz.ntmps95
 go_wp2
 refine bodyPost_ret (v:= .agg #[.int .i64 2,.int .i64 0,.string s]) (by simp[results,Tryz.results95,go_sem]) rfl ⟨rfl,by go_grown⟩
theorem ZG (w:World) (n:Int):Calls Tryz.prog 98 #[.int .i64 n] w (Ret w (.agg #[.int .i64 1,.int .i64 n,.string ⟨#[]⟩])):=by
 go_enter Tryz.func98,Tryz.ntmps98
 go_wp2
 refine bodyPost_ret (v:= .agg #[.int .i64 1,.int .i64 n,.string ⟨#[]⟩]) (by simp[results,Tryz.results98,go_sem]) rfl ⟨rfl,by go_grown⟩
theorem Sx (w:World) (s:ByteArray):Calls Tryz.prog 119 #[.string s] w (Ret w (.agg #[.int .i64 2,.int .i64 0,.string s])):=by
 go_enter Tryz.func119,Tryz.ntmps119
 go_wp2
 refine bodyPost_ret (v:= .agg #[.int .i64 2,.int .i64 0,.string s]) (by simp[results,Tryz.results119,go_sem]) rfl ⟨rfl,by go_grown⟩
theorem ZH (w:World) (n:Int):Calls Tryz.prog 122 #[.int .i64 n] w (Ret w (.agg #[.int .i64 1,.int .i64 n,.string ⟨#[]⟩])):=by
 go_enter Tryz.func122,Tryz.ntmps122
 go_wp2
 refine bodyPost_ret (v:= .agg #[.int .i64 1,.int .i64 n,.string ⟨#[]⟩]) (by simp[results,Tryz.results122,go_sem]) rfl ⟨rfl,by go_grown⟩
set_option maxRecDepth 20000 in
set_option maxHeartbeats 2000000 in
theorem WV (w:World) (a1 a2:Int) (a3:ByteArray) (k:Int) (h1:I64 a1) (h2:I64 a2) (h3:a3.size<=maxLen) (hk:I64 k):Calls Tryz.prog 55 #[EX (a1,a2,a3),.int .i64 k] w (Ret w (Qii (Ut (a1,a2,a3) k))):=by
 have HS:=Lib.hid h3;unfold maxLen at h3;have H2:=Lib.hid h2;clear h2;have hv0:EX (a1,a2,a3)= .agg #[.int .i64 a1,.int .i64 a2,.string a3]:=rfl;rw[hv0];clear hv0 h1 hk;cases hv:I5 (a1,a2,a3)
 . have hcv:Ut (a1,a2,a3) k=(Rm,false):=by
    unfold Ut;rw[if_pos (Or.inl hv)]
   rw[hcv];clear hcv;have HV:=Lib.hid hv;clear hv;go_enter Tryz.func55,Tryz.ntmps55
   go_wp2_with (first | (go_at_call 94;refine Xr (w:=w) (Vb _ a1 a2 a3 false HS.out HV.out) (by go_grown) ?_;intro g1 hG1 hb hz1 hy1;(try simp only[World.size_alloc,World.size_setCell,World.size_drew] at hy1);have q1a:=λo=>Zl hb w.heap.size o (by first | go_size | omega);have q1b:=λo=>Zl hb (w.heap.size+1) o (by first | go_size | omega);have q1f:=λo=>Hk hb (w.heap.size+1) o (by first | go_size | omega);clear hb))
   refine bodyPost_ret (v:= .tuple #[.agg #[.int .i64 0,.int .i64 0,.string ⟨#[]⟩],.bool false]) (by simp[results,Tryz.results55,go_sem,q1b]) rfl ⟨rfl,by repeat (first | (with_reducible assumption) | (refine Va ?_ (by omega)))⟩
 by_cases h0:a1=0
 . subst h0
   have hcv:Ut (0,a2,a3) k=(Rm,false):=by
    unfold Ut;rw[if_pos (Or.inr (Or.inl rfl))]
   rw[hcv];clear hcv;have HV:=Lib.hid hv;clear hv;go_enter Tryz.func55,Tryz.ntmps55
   go_wp2_with (first | (go_at_call 94;refine Xr (w:=w) (Vb _ 0 a2 a3 true HS.out HV.out) (by go_grown) ?_;intro g1 hG1 hb hz1 hy1;(try simp only[World.size_alloc,World.size_setCell,World.size_drew] at hy1);have q1a:=λo=>Zl hb w.heap.size o (by first | go_size | omega);have q1b:=λo=>Zl hb (w.heap.size+1) o (by first | go_size | omega);have q1f:=λo=>Hk hb (w.heap.size+1) o (by first | go_size | omega);clear hb))
   refine bodyPost_ret (v:= .tuple #[.agg #[.int .i64 0,.int .i64 0,.string ⟨#[]⟩],.bool false]) (by simp[results,Tryz.results55,go_sem,q1b]) rfl ⟨rfl,by repeat (first | (with_reducible assumption) | (refine Va ?_ (by omega)))⟩
 cases hk:inR k 1 2
 . have hcv:Ut (a1,a2,a3) k=(Rm,false):=by
    unfold Ut;rw[if_pos (Or.inr (Or.inr hk))]
   rw[hcv];clear hcv;have HV:=Lib.hid hv;clear hv;have HK:=Lib.hid hk;clear hk;go_enter Tryz.func55,Tryz.ntmps55
   go_wp2_with (first | (go_at_call 94;refine Xr (w:=w) (Vb _ a1 a2 a3 true HS.out HV.out) (by go_grown) ?_;intro g1 hG1 hb hz1 hy1;(try simp only[World.size_alloc,World.size_setCell,World.size_drew] at hy1);have q1a:=λo=>Zl hb w.heap.size o (by first | go_size | omega);have q1b:=λo=>Zl hb (w.heap.size+1) o (by first | go_size | omega);have q1f:=λo=>Hk hb (w.heap.size+1) o (by first | go_size | omega);clear hb) | (go_at_call 53;refine Xr (w:=w) (Gl _ k 1 2 false HK.out) (by go_grown) ?_;intro g2 hG2 hb hz2 hy2;(try simp only[World.size_alloc,World.size_setCell,World.size_drew] at hy2);have q2a:=λo=>Zl hb w.heap.size o (by first | go_size | omega);have q2b:=λo=>Zl hb (w.heap.size+1) o (by first | go_size | omega);have q2f:=λo=>Hk hb (w.heap.size+1) o (by first | go_size | omega);clear hb))
   refine bodyPost_ret (v:= .tuple #[.agg #[.int .i64 0,.int .i64 0,.string ⟨#[]⟩],.bool false]) (by simp[results,Tryz.results55,go_sem,q1b,q2b]) rfl ⟨rfl,by repeat (first | (with_reducible assumption) | (refine Va ?_ (by omega)))⟩
 have hnot:¬(I5 (a1,a2,a3)=false\/a1=0\/inR k 1 2=false):=by rw[hv,hk];simp[h0]
 have hk12:k=1\/k=2:=by unfold inR at hk;simp only[Bool.and_eq_true,decide_eq_true_eq] at hk;omega
 have HV:=Lib.hid hv;clear hv;have HK:=Lib.hid hk;clear hk;have HN:=Lib.hid hnot;clear hnot;by_cases he1:a1=k
 . subst he1
   have hcv:Ut (a1,a2,a3) a1=((a1,a2,a3),true):=by
    unfold Ut;rw[if_neg HN.out,if_pos rfl]
   rw[hcv];clear hcv;rcases hk12 with rfl | rfl
   all_goals (go_enter Tryz.func55,Tryz.ntmps55)
   all_goals go_wp2_with (first | (go_at_call 94;refine Xr (w:=w) (Vb _ _ a2 a3 true HS.out HV.out) (by go_grown) ?_;intro g1 hG1 hb hz1 hy1;(try simp only[World.size_alloc,World.size_setCell,World.size_drew] at hy1);have q1a:=λo=>Zl hb w.heap.size o (by first | go_size | omega);have q1b:=λo=>Zl hb (w.heap.size+1) o (by first | go_size | omega);have q1f:=λo=>Hk hb (w.heap.size+1) o (by first | go_size | omega);clear hb) | (go_at_call 53;refine Xr (w:=w) (Gl _ _ 1 2 true HK.out) (by go_grown) ?_;intro g2 hG2 hb hz2 hy2;(try simp only[World.size_alloc,World.size_setCell,World.size_drew] at hy2);have q2a:=λo=>Zl hb w.heap.size o (by first | go_size | omega);have q2b:=λo=>Zl hb (w.heap.size+1) o (by first | go_size | omega);have q2f:=λo=>Hk hb (w.heap.size+1) o (by first | go_size | omega);clear hb))
   . refine bodyPost_ret (v:= .tuple #[.agg #[.int .i64 1,.int .i64 a2,.string a3],.bool true]) (by simp[results,Tryz.results55,go_sem,q1b,q2b]) rfl ⟨rfl,by repeat (first | (with_reducible assumption) | (refine Va ?_ (by omega)))⟩
   refine bodyPost_ret (v:= .tuple #[.agg #[.int .i64 2,.int .i64 a2,.string a3],.bool true]) (by simp[results,Tryz.results55,go_sem,q1b,q2b]) rfl ⟨rfl,by repeat (first | (with_reducible assumption) | (refine Va ?_ (by omega)))⟩
 by_cases hk2:k=2
 . subst hk2
   have hcv:Ut (a1,a2,a3) 2=((2,0,Yt a2),true):=by
    unfold Ut;rw[if_neg HN.out,if_neg he1,if_pos rfl]
   rw[hcv];clear hcv hk12;generalize hu:Yt a2=u;have HE2:=Lib.hid hu;clear hu;go_enter Tryz.func55,Tryz.ntmps55
   go_wp2_with (first | (go_at_call 94;refine Xr (w:=w) (Vb _ a1 a2 a3 true HS.out HV.out) (by go_grown) ?_;intro g1 hG1 hb hz1 hy1;(try simp only[World.size_alloc,World.size_setCell,World.size_drew] at hy1);have q1a:=λo=>Zl hb w.heap.size o (by first | go_size | omega);have q1b:=λo=>Zl hb (w.heap.size+1) o (by first | go_size | omega);have q1f:=λo=>Hk hb (w.heap.size+1) o (by first | go_size | omega);clear hb) | (go_at_call 53;refine Xr (w:=w) (Gl _ 2 1 2 true HK.out) (by go_grown) ?_;intro g2 hG2 hb hz2 hy2;(try simp only[World.size_alloc,World.size_setCell,World.size_drew] at hy2);have q2a:=λo=>Zl hb w.heap.size o (by first | go_size | omega);have q2b:=λo=>Zl hb (w.heap.size+1) o (by first | go_size | omega);have q2f:=λo=>Hk hb (w.heap.size+1) o (by first | go_size | omega);clear hb) | (go_at_call 96;have hcon:=(λw1=>Mq w1 a2 H2.out);rw[HE2.out] at hcon;refine Xr (w:=w) (hcon _) (by go_grown) ?_;clear hcon;intro g3 hG3 hb hz3 hy3;(try simp only[World.size_alloc,World.size_setCell,World.size_drew] at hy3);have q3a:=λo=>Zl hb w.heap.size o (by first | go_size | omega);have q3b:=λo=>Zl hb (w.heap.size+1) o (by first | go_size | omega);have q3f:=λo=>Hk hb (w.heap.size+1) o (by first | go_size | omega);clear hb) | (go_at_call 95;refine Xr (w:=w) (Sw _ u) (by go_grown) ?_;intro g4 hG4 hb hz4 hy4;(try simp only[World.size_alloc,World.size_setCell,World.size_drew] at hy4);have q4a:=λo=>Zl hb w.heap.size o (by first | go_size | omega);have q4b:=λo=>Zl hb (w.heap.size+1) o (by first | go_size | omega);have q4f:=λo=>Hk hb (w.heap.size+1) o (by first | go_size | omega);clear hb))
   refine bodyPost_ret (v:= .tuple #[.agg #[.int .i64 2,.int .i64 0,.string u],.bool true]) (by simp[results,Tryz.results55,go_sem,q1b,q2b,q3b,q4b]) rfl ⟨rfl,by repeat (first | (with_reducible assumption) | (refine Va ?_ (by omega)))⟩
 obtain rfl:k=1:=by omega
 clear hk12;cases hd:WU a3 with
 | none=>
   have hcv:Ut (a1,a2,a3) 1=(Rm,false):=by
    unfold Ut;rw[if_neg HN.out,if_neg he1,if_neg (by decide),hd]
   rw[hcv];clear hcv;have ho:Qcl none= .tuple #[.int .i64 0,.bool false]:=rfl;have HD:=Lib.hid hd;clear hd;go_enter Tryz.func55,Tryz.ntmps55
   go_wp2_with (first | (go_at_call 94;refine Xr (w:=w) (Vb _ a1 a2 a3 true HS.out HV.out) (by go_grown) ?_;intro g1 hG1 hb hz1 hy1;(try simp only[World.size_alloc,World.size_setCell,World.size_drew] at hy1);have q1a:=λo=>Zl hb w.heap.size o (by first | go_size | omega);have q1b:=λo=>Zl hb (w.heap.size+1) o (by first | go_size | omega);have q1f:=λo=>Hk hb (w.heap.size+1) o (by first | go_size | omega);clear hb) | (go_at_call 53;refine Xr (w:=w) (Gl _ 1 1 2 true HK.out) (by go_grown) ?_;intro g2 hG2 hb hz2 hy2;(try simp only[World.size_alloc,World.size_setCell,World.size_drew] at hy2);have q2a:=λo=>Zl hb w.heap.size o (by first | go_size | omega);have q2b:=λo=>Zl hb (w.heap.size+1) o (by first | go_size | omega);have q2f:=λo=>Hk hb (w.heap.size+1) o (by first | go_size | omega);clear hb) | (go_at_call 97;have hcon:=(λw1=>Tb w1 a3 HS.out);rw[HD.out,ho] at hcon;refine Xr (w:=w) (hcon _) (by go_grown) ?_;clear hcon;intro g5 hG5 hb hz5 hy5;(try simp only[World.size_alloc,World.size_setCell,World.size_drew] at hy5);have q5a:=λo=>Zl hb w.heap.size o (by first | go_size | omega);have q5b:=λo=>Zl hb (w.heap.size+1) o (by first | go_size | omega);have q5f:=λo=>Hk hb (w.heap.size+1) o (by first | go_size | omega);clear hb))
   refine bodyPost_ret (v:= .tuple #[.agg #[.int .i64 0,.int .i64 0,.string ⟨#[]⟩],.bool false]) (by simp[results,Tryz.results55,go_sem,q1b,q2b,q5b]) rfl ⟨rfl,by repeat (first | (with_reducible assumption) | (refine Va ?_ (by omega)))⟩
 | some n=>
   have hcv:Ut (a1,a2,a3) 1=((1,(n:Int),⟨#[]⟩),true):=by
    unfold Ut;rw[if_neg HN.out,if_neg he1,if_neg (by decide),hd]
   rw[hcv];clear hcv;have ho:Qcl (some n)= .tuple #[.int .i64 n,.bool true]:=rfl;have HD:=Lib.hid hd;clear hd;go_enter Tryz.func55,Tryz.ntmps55
   go_wp2_with (first | (go_at_call 94;refine Xr (w:=w) (Vb _ a1 a2 a3 true HS.out HV.out) (by go_grown) ?_;intro g1 hG1 hb hz1 hy1;(try simp only[World.size_alloc,World.size_setCell,World.size_drew] at hy1);have q1a:=λo=>Zl hb w.heap.size o (by first | go_size | omega);have q1b:=λo=>Zl hb (w.heap.size+1) o (by first | go_size | omega);have q1f:=λo=>Hk hb (w.heap.size+1) o (by first | go_size | omega);clear hb) | (go_at_call 53;refine Xr (w:=w) (Gl _ 1 1 2 true HK.out) (by go_grown) ?_;intro g2 hG2 hb hz2 hy2;(try simp only[World.size_alloc,World.size_setCell,World.size_drew] at hy2);have q2a:=λo=>Zl hb w.heap.size o (by first | go_size | omega);have q2b:=λo=>Zl hb (w.heap.size+1) o (by first | go_size | omega);have q2f:=λo=>Hk hb (w.heap.size+1) o (by first | go_size | omega);clear hb) | (go_at_call 97;have hcon:=(λw1=>Tb w1 a3 HS.out);rw[HD.out,ho] at hcon;refine Xr (w:=w) (hcon _) (by go_grown) ?_;clear hcon;intro g5 hG5 hb hz5 hy5;(try simp only[World.size_alloc,World.size_setCell,World.size_drew] at hy5);have q5a:=λo=>Zl hb w.heap.size o (by first | go_size | omega);have q5b:=λo=>Zl hb (w.heap.size+1) o (by first | go_size | omega);have q5f:=λo=>Hk hb (w.heap.size+1) o (by first | go_size | omega);clear hb) | (go_at_call 98;refine Xr (w:=w) (ZG _ (n:Int)) (by go_grown) ?_;intro g6 hG6 hb hz6 hy6;(try simp only[World.size_alloc,World.size_setCell,World.size_drew] at hy6);have q6a:=λo=>Zl hb w.heap.size o (by first | go_size | omega);have q6b:=λo=>Zl hb (w.heap.size+1) o (by first | go_size | omega);have q6f:=λo=>Hk hb (w.heap.size+1) o (by first | go_size | omega);clear hb))
   refine bodyPost_ret (v:= .tuple #[.agg #[.int .i64 1,.int .i64 n,.string ⟨#[]⟩],.bool true]) (by simp[results,Tryz.results55,go_sem,q1b,q2b,q5b,q6b]) rfl ⟨rfl,by repeat (first | (with_reducible assumption) | (refine Va ?_ (by omega)))⟩
set_option maxRecDepth 20000 in
set_option maxHeartbeats 2000000 in
theorem WW (w:World) (a1 a2:Int) (a3:ByteArray) (k:Int) (h1:I64 a1) (h2:I64 a2) (h3:a3.size<=maxLen) (hk:I64 k) (ht:tabOk w) (he:errOk w):Calls Tryz.prog 69 #[EX (a1,a2,a3),.int .i64 k] w (Ret w (Qii (Ut (a1,a2,a3) k))):=by
 have HS:=Lib.hid h3;unfold maxLen at h3;have H2:=Lib.hid h2;clear h2;have hv0:EX (a1,a2,a3)= .agg #[.int .i64 a1,.int .i64 a2,.string a3]:=rfl;rw[hv0];clear hv0 h1 hk;have HT:=Lib.hid ht;clear ht;have HER:=Lib.hid he;clear he;cases hv:I5 (a1,a2,a3)
 . have hcv:Ut (a1,a2,a3) k=(Rm,false):=by
    unfold Ut;rw[if_pos (Or.inl hv)]
   rw[hcv];clear hcv;have HV:=Lib.hid hv;clear hv;go_enter Tryz.func69,Tryz.ntmps69
   go_wp2_with (first | (go_at_call 118;refine Xr (w:=w) (Vc _ a1 a2 a3 false HS.out HV.out) (by go_grown) ?_;intro g1 hG1 hb hz1 hy1;(try simp only[World.size_alloc,World.size_setCell,World.size_drew] at hy1);have q1a:=λo=>Zl hb w.heap.size o (by first | go_size | omega);have q1b:=λo=>Zl hb (w.heap.size+1) o (by first | go_size | omega);have q1f:=λo=>Hk hb (w.heap.size+1) o (by first | go_size | omega);clear hb))
   refine bodyPost_ret (v:= .tuple #[.agg #[.int .i64 0,.int .i64 0,.string ⟨#[]⟩],.bool false]) (by simp[results,Tryz.results69,go_sem,q1b]) rfl ⟨rfl,by repeat (first | (with_reducible assumption) | (refine Va ?_ (by omega)))⟩
 by_cases h0:a1=0
 . subst h0
   have hcv:Ut (0,a2,a3) k=(Rm,false):=by
    unfold Ut;rw[if_pos (Or.inr (Or.inl rfl))]
   rw[hcv];clear hcv;have HV:=Lib.hid hv;clear hv;go_enter Tryz.func69,Tryz.ntmps69
   go_wp2_with (first | (go_at_call 118;refine Xr (w:=w) (Vc _ 0 a2 a3 true HS.out HV.out) (by go_grown) ?_;intro g1 hG1 hb hz1 hy1;(try simp only[World.size_alloc,World.size_setCell,World.size_drew] at hy1);have q1a:=λo=>Zl hb w.heap.size o (by first | go_size | omega);have q1b:=λo=>Zl hb (w.heap.size+1) o (by first | go_size | omega);have q1f:=λo=>Hk hb (w.heap.size+1) o (by first | go_size | omega);clear hb))
   refine bodyPost_ret (v:= .tuple #[.agg #[.int .i64 0,.int .i64 0,.string ⟨#[]⟩],.bool false]) (by simp[results,Tryz.results69,go_sem,q1b]) rfl ⟨rfl,by repeat (first | (with_reducible assumption) | (refine Va ?_ (by omega)))⟩
 cases hk:inR k 1 2
 . have hcv:Ut (a1,a2,a3) k=(Rm,false):=by
    unfold Ut;rw[if_pos (Or.inr (Or.inr hk))]
   rw[hcv];clear hcv;have hk1:(k !=(1:Int))=true:=by rw[bne_iff_ne];intro e;rw[e] at hk;cases hk
   have hk2:(k !=(2:Int))=true:=by rw[bne_iff_ne];intro e;rw[e] at hk;cases hk
   have h0b:(a1==(0:Int))=false:=beq_eq_false_iff_ne.2 h0;have HV:=Lib.hid hv;clear hv;have HK:=Lib.hid hk;clear hk;go_enter Tryz.func69,Tryz.ntmps69
   go_wp2_with (first | (go_at_call 118;refine Xr (w:=w) (Vc _ a1 a2 a3 true HS.out HV.out) (by go_grown) ?_;intro g1 hG1 hb hz1 hy1;(try simp only[World.size_alloc,World.size_setCell,World.size_drew] at hy1);have q1a:=λo=>Zl hb w.heap.size o (by first | go_size | omega);have q1b:=λo=>Zl hb (w.heap.size+1) o (by first | go_size | omega);have q1f:=λo=>Hk hb (w.heap.size+1) o (by first | go_size | omega);clear hb))
   refine bodyPost_ret (v:= .tuple #[.agg #[.int .i64 0,.int .i64 0,.string ⟨#[]⟩],.bool false]) (by simp[results,Tryz.results69,go_sem,q1b]) rfl ⟨rfl,by repeat (first | (with_reducible assumption) | (refine Va ?_ (by omega)))⟩
 have hnot:¬(I5 (a1,a2,a3)=false\/a1=0\/inR k 1 2=false):=by rw[hv,hk];simp[h0]
 have hk12:k=1\/k=2:=by unfold inR at hk;simp only[Bool.and_eq_true,decide_eq_true_eq] at hk;omega
 have HV:=Lib.hid hv;clear hv;have HK:=Lib.hid hk;clear hk;have HN:=Lib.hid hnot;clear hnot;by_cases he1:a1=k
 . subst he1
   have hcv:Ut (a1,a2,a3) a1=((a1,a2,a3),true):=by
    unfold Ut;rw[if_neg HN.out,if_pos rfl]
   rw[hcv];clear hcv;rcases hk12 with rfl | rfl
   all_goals (go_enter Tryz.func69,Tryz.ntmps69)
   all_goals go_wp2_with (first | (go_at_call 118;refine Xr (w:=w) (Vc _ _ a2 a3 true HS.out HV.out) (by go_grown) ?_;intro g1 hG1 hb hz1 hy1;(try simp only[World.size_alloc,World.size_setCell,World.size_drew] at hy1);have q1a:=λo=>Zl hb w.heap.size o (by first | go_size | omega);have q1b:=λo=>Zl hb (w.heap.size+1) o (by first | go_size | omega);have q1f:=λo=>Hk hb (w.heap.size+1) o (by first | go_size | omega);clear hb))
   . refine bodyPost_ret (v:= .tuple #[.agg #[.int .i64 1,.int .i64 a2,.string a3],.bool true]) (by simp[results,Tryz.results69,go_sem,q1b]) rfl ⟨rfl,by repeat (first | (with_reducible assumption) | (refine Va ?_ (by omega)))⟩
   refine bodyPost_ret (v:= .tuple #[.agg #[.int .i64 2,.int .i64 a2,.string a3],.bool true]) (by simp[results,Tryz.results69,go_sem,q1b]) rfl ⟨rfl,by repeat (first | (with_reducible assumption) | (refine Va ?_ (by omega)))⟩
 by_cases hk2:k=2
 . subst hk2
   have hcv:Ut (a1,a2,a3) 2=((2,0,Yt a2),true):=by
    unfold Ut;rw[if_neg HN.out,if_neg he1,if_pos rfl]
   rw[hcv];clear hcv hk12;generalize hu:Yt a2=u;have HE2:=Lib.hid hu;clear hu;go_enter Tryz.func69,Tryz.ntmps69
   go_wp2_with (first | (go_at_call 118;refine Xr (w:=w) (Vc _ a1 a2 a3 true HS.out HV.out) (by go_grown) ?_;intro g1 hG1 hb hz1 hy1;(try simp only[World.size_alloc,World.size_setCell,World.size_drew] at hy1);have q1a:=λo=>Zl hb w.heap.size o (by first | go_size | omega);have q1b:=λo=>Zl hb (w.heap.size+1) o (by first | go_size | omega);have q1f:=λo=>Hk hb (w.heap.size+1) o (by first | go_size | omega);clear hb) | (go_at_call 120;have hcon:=(λw1 h=>BX w1 a2 H2.out h);rw[HE2.out] at hcon;refine Xr (w:=w) (hcon _ (HT.out.keep (by go_grown))) (by go_grown) ?_;clear hcon;intro g3 hG3 hb hz3 hy3;(try simp only[World.size_alloc,World.size_setCell,World.size_drew] at hy3);have q3a:=λo=>Zl hb w.heap.size o (by first | go_size | omega);have q3b:=λo=>Zl hb (w.heap.size+1) o (by first | go_size | omega);have q3f:=λo=>Hk hb (w.heap.size+1) o (by first | go_size | omega);clear hb) | (go_at_call 119;refine Xr (w:=w) (Sx _ u) (by go_grown) ?_;intro g4 hG4 hb hz4 hy4;(try simp only[World.size_alloc,World.size_setCell,World.size_drew] at hy4);have q4a:=λo=>Zl hb w.heap.size o (by first | go_size | omega);have q4b:=λo=>Zl hb (w.heap.size+1) o (by first | go_size | omega);have q4f:=λo=>Hk hb (w.heap.size+1) o (by first | go_size | omega);clear hb))
   refine bodyPost_ret (v:= .tuple #[.agg #[.int .i64 2,.int .i64 0,.string u],.bool true]) (by simp[results,Tryz.results69,go_sem,q1b,q3b,q4b]) rfl ⟨rfl,by repeat (first | (with_reducible assumption) | (refine Va ?_ (by omega)))⟩
 obtain rfl:k=1:=by omega
 clear hk12;cases hd:WU a3 with
 | none=>
   have hcv:Ut (a1,a2,a3) 1=(Rm,false):=by
    unfold Ut;rw[if_neg HN.out,if_neg he1,if_neg (by decide),hd]
   rw[hcv];clear hcv;have ho:Qcl none= .tuple #[.int .i64 0,.bool false]:=rfl;have HD:=Lib.hid hd;clear hd;go_enter Tryz.func69,Tryz.ntmps69
   go_wp2_with (first | (go_at_call 118;refine Xr (w:=w) (Vc _ a1 a2 a3 true HS.out HV.out) (by go_grown) ?_;intro g1 hG1 hb hz1 hy1;(try simp only[World.size_alloc,World.size_setCell,World.size_drew] at hy1);have q1a:=λo=>Zl hb w.heap.size o (by first | go_size | omega);have q1b:=λo=>Zl hb (w.heap.size+1) o (by first | go_size | omega);have q1f:=λo=>Hk hb (w.heap.size+1) o (by first | go_size | omega);clear hb) | (go_at_call 121;have hcon:=(λw1 h h2=>Tc w1 a3 HS.out h h2);rw[HD.out,ho] at hcon;refine Xr (w:=w) (hcon _ (HT.out.keep (by go_grown)) (HER.out.keep (by go_grown))) (by go_grown) ?_;clear hcon;intro g5 hG5 hb hz5 hy5;(try simp only[World.size_alloc,World.size_setCell,World.size_drew] at hy5);have q5a:=λo=>Zl hb w.heap.size o (by first | go_size | omega);have q5b:=λo=>Zl hb (w.heap.size+1) o (by first | go_size | omega);have q5f:=λo=>Hk hb (w.heap.size+1) o (by first | go_size | omega);clear hb))
   refine bodyPost_ret (v:= .tuple #[.agg #[.int .i64 0,.int .i64 0,.string ⟨#[]⟩],.bool false]) (by simp[results,Tryz.results69,go_sem,q1b,q5b]) rfl ⟨rfl,by repeat (first | (with_reducible assumption) | (refine Va ?_ (by omega)))⟩
 | some n=>
   have hcv:Ut (a1,a2,a3) 1=((1,(n:Int),⟨#[]⟩),true):=by
    unfold Ut;rw[if_neg HN.out,if_neg he1,if_neg (by decide),hd]
   rw[hcv];clear hcv;have ho:Qcl (some n)= .tuple #[.int .i64 n,.bool true]:=rfl;have HD:=Lib.hid hd;clear hd;go_enter Tryz.func69,Tryz.ntmps69
   go_wp2_with (first | (go_at_call 118;refine Xr (w:=w) (Vc _ a1 a2 a3 true HS.out HV.out) (by go_grown) ?_;intro g1 hG1 hb hz1 hy1;(try simp only[World.size_alloc,World.size_setCell,World.size_drew] at hy1);have q1a:=λo=>Zl hb w.heap.size o (by first | go_size | omega);have q1b:=λo=>Zl hb (w.heap.size+1) o (by first | go_size | omega);have q1f:=λo=>Hk hb (w.heap.size+1) o (by first | go_size | omega);clear hb) | (go_at_call 121;have hcon:=(λw1 h h2=>Tc w1 a3 HS.out h h2);rw[HD.out,ho] at hcon;refine Xr (w:=w) (hcon _ (HT.out.keep (by go_grown)) (HER.out.keep (by go_grown))) (by go_grown) ?_;clear hcon;intro g5 hG5 hb hz5 hy5;(try simp only[World.size_alloc,World.size_setCell,World.size_drew] at hy5);have q5a:=λo=>Zl hb w.heap.size o (by first | go_size | omega);have q5b:=λo=>Zl hb (w.heap.size+1) o (by first | go_size | omega);have q5f:=λo=>Hk hb (w.heap.size+1) o (by first | go_size | omega);clear hb) | (go_at_call 122;refine Xr (w:=w) (ZH _ (n:Int)) (by go_grown) ?_;intro g6 hG6 hb hz6 hy6;(try simp only[World.size_alloc,World.size_setCell,World.size_drew] at hy6);have q6a:=λo=>Zl hb w.heap.size o (by first | go_size | omega);have q6b:=λo=>Zl hb (w.heap.size+1) o (by first | go_size | omega);have q6f:=λo=>Hk hb (w.heap.size+1) o (by first | go_size | omega);clear hb))
   refine bodyPost_ret (v:= .tuple #[.agg #[.int .i64 1,.int .i64 n,.string ⟨#[]⟩],.bool true]) (by simp[results,Tryz.results69,go_sem,q1b,q5b,q6b]) rfl ⟨rfl,by repeat (first | (with_reducible assumption) | (refine Va ?_ (by omega)))⟩
end
section
open Go.RowKit
open GoD (rd own)
section
variable {P : Program}
theorem YI {f : Nat} (hok : Ee P f) {v : Z4} {k : Int} {p : Z4 × Bool} (hp : I64 v.1 → I64 v.2.1 → v.2.2.size ≤ maxLen → I64 p.1.1 ∧ I64 p.1.2.1 ∧ p.1.2.2.size ≤ maxLen)
    (h : ∀ w, Good P w → I64 v.1 → I64 v.2.1 → v.2.2.size ≤ maxLen → I64 k → Calls P f #[EX v,.int .i64 k] w (Ret w (Qii p))) : ACalls P f [.a [.i v.1,.i v.2.1,.s v.2.2],.i k] (.tup [(true, [.i p.1.1,.i p.1.2.1,.s p.1.2.2]), (false, [.b p.2])]) := by
  refine ⟨hok, λw hg F vals hF hall => ?_⟩
  cases hall with
  | cons h1 h2 =>
    cases h2 with
    | cons h2 h3 =>
      cases h3
      obtain ⟨vs, rfl, hv⟩ := h1
      cases hv with
      | cons a1 hv => cases hv with
        | cons a2 hv => cases hv with
          | cons a3 hv =>
            cases hv
            obtain ⟨rfl, i1⟩ := a1
            obtain ⟨rfl, i2⟩ := a2
            obtain ⟨rfl, i3⟩ := a3
            obtain ⟨rfl, i4⟩ := h2
            have j1 := (U2 _).1 i1
            have j2 := (U2 _).1 i2
            obtain ⟨q1, q2, q3⟩ := hp j1 j2 i3
            refine (h w hg j1 j2 i3 ((U2 _).1 i4)).mono ?_
            rintro e w' ⟨rfl, hb⟩
            exact Rg hb λJ => ⟨[EX p.1,.bool p.2], rfl,.cons ⟨[.int .i64 p.1.1,.int .i64 p.1.2.1,.string p.1.2.2], rfl,.cons ⟨rfl, (U2 _).2 q1⟩ (.cons ⟨rfl, (U2 _).2 q2⟩ (.cons ⟨rfl, q3⟩ .nil))⟩ (.cons ⟨_, rfl, rfl⟩ .nil)⟩
end
theorem TB {s : ByteArray} {n : Nat} (h : WU s = some n) : n ≤ 999 := by
  by_cases hex : ∃ n : Nat, n ≤ 999 ∧ Yt (n : Int) = s
  · unfold WU at h
    rw [dif_pos hex] at h
    have := hex.choose_spec
    rw [Option.some.inj h] at this
    exact this.1
  unfold WU at h
  rw [dif_neg hex] at h
  cases h
theorem TC {v : Z4} {k : Int} (h1 : I64 v.1) (h2 : I64 v.2.1) (h3 : v.2.2.size ≤ maxLen) : I64 (Ut v k).1.1 ∧ I64 (Ut v k).1.2.1 ∧ (Ut v k).1.2.2.size ≤ maxLen := by
  have hz : I64 Rm.1 ∧ I64 Rm.2.1 ∧ Rm.2.2.size ≤ maxLen := ⟨⟨by decide, by decide⟩, ⟨by decide, by decide⟩, Nat.zero_le _⟩
  unfold Ut
  split
  · exact hz
  split
  · exact ⟨h1, h2, h3⟩
  split
  · refine ⟨⟨show (-9223372036854775808 : Int) ≤ 2 by decide, show (2 : Int) ≤ 9223372036854775807 by decide⟩, ⟨show (-9223372036854775808 : Int) ≤ 0 by decide, show (0 : Int) ≤ 9223372036854775807 by decide⟩, ?_⟩
    show (Yt v.2.1).size ≤ maxLen
    unfold Yt maxLen
    split
    · rename_i h
      have := F4 h
      rw [Ve]
      omega
    exact Nat.zero_le _
  split
  · rename_i n hn
    have hle : n ≤ 999 := TB hn
    exact ⟨⟨show (-9223372036854775808 : Int) ≤ 1 by decide, show (1 : Int) ≤ 9223372036854775807 by decide⟩, ⟨by show (-9223372036854775808 : Int) ≤ (n : Int); omega, by show (n : Int) ≤ 9223372036854775807; omega⟩, Nat.zero_le _⟩
  exact hz
noncomputable def Qd (v : Z4) (k : Int) : Z4 × Bool := Ut v k
noncomputable def Qj (v : Z4) (k : Int) : Z4 × Bool := Ut v k
theorem Rn (v : Z4) (k : Int) : ACalls Tryz.prog 69 [.a [.i v.1,.i v.2.1,.s v.2.2],.i k] (.tup [(true, [.i (Qd v k).1.1,.i (Qd v k).1.2.1,.s (Qd v k).1.2.2]), (false, [.b (Qd v k).2])]) :=
  YI (by unfold Ee; kernel_rfl) TC λw hg h1 h2 h3 hk => WW w v.1 v.2.1 v.2.2 k h1 h2 h3 hk (hg.tab _ gTab) (hg.err _ Qih)
theorem Ro (v : Z4) (k : Int) : ACalls Tryz.prog 55 [.a [.i v.1,.i v.2.1,.s v.2.2],.i k] (.tup [(true, [.i (Qj v k).1.1,.i (Qj v k).1.2.1,.s (Qj v k).1.2.2]), (false, [.b (Qj v k).2])]) :=
  YI (by unfold Ee; kernel_rfl) TC λw _ h1 h2 h3 hk => WV w v.1 v.2.1 v.2.2 k h1 h2 h3 hk
open GoE (enc wide)
noncomputable def Jn (name:ByteArray) (kind:Int) (k0:Nat) (_:Yd) (s0:List Yd):Rd (X1×(List Int)×Bool) (List Yd) (List Yd):=(bif (((nth s0 k0).1).toList==name.toList) then (.next (List.set s0 k0 ((nth s0 k0).1,kind))) else (.next s0))
noncomputable def W2 (_:Nat) (s0:List Yd):(List Yd):=s0
noncomputable def Zw (name:ByteArray) (kind:Int) (k1:Nat) (_:Yh) (s1:(List Int)×(List Yh)):Rd (X1×(List Int)×Bool) ((List Int)×(List Yh)) ((List Int)×(List Yh)):=(bif ((Qf (nth s1.2 k1) name).1==(0:Int)) then (.next (s1.1,s1.2)) else (bif (!((Qd (Qf (nth s1.2 k1) name) kind).2)) then (.next (s1.1++ [(nth s1.2 k1).1],List.set s1.2 k1 (Xl (nth s1.2 k1) name ((Qd (Qf (nth s1.2 k1) name) kind).1.1,(Qd (Qf (nth s1.2 k1) name) kind).1.2.1,(Qd (Qf (nth s1.2 k1) name) kind).1.2.2)))) else (.next (s1.1,List.set s1.2 k1 (Xl (nth s1.2 k1) name ((Qd (Qf (nth s1.2 k1) name) kind).1.1,(Qd (Qf (nth s1.2 k1) name) kind).1.2.1,(Qd (Qf (nth s1.2 k1) name) kind).1.2.2))))))
noncomputable def W3 (_:Nat) (s1:(List Int)×(List Yh)):(List Int)×(List Yh):=(s1.1,s1.2)
noncomputable def Qm (s_:X1) (name:ByteArray) (kind:Int):X1×(List Int)×Bool:=(bif ((!(Q7 s_))|| ((!(Z5 s_.1 name))|| ((kind !=(1:Int))&&(kind !=(2:Int))))) then ((Qz s_), [],false) else (Out.on (Xp (Jn name kind) W2 ((Qz s_).1) 0 ((Qz s_).1)) (λy0=>(Out.on (Xp (Zw name kind) W3 ((Qz s_).2.1) 0 ([],(Qz s_).2.1)) (λy1=>((y0,y1.2,(Qz s_).2.2),y1.1,true))))))
theorem Ms (s_:X1) (name:ByteArray) (kind:Int):ACalls Tryz.prog 28 [.a [.h s_.1,.h s_.2.1,.i s_.2.2],.s name,.i kind] (.tup [(true, [.o 0 ((((Qm s_ name kind)).1).1),.o 1 ((((Qm s_ name kind)).1).2.1),.i ((((Qm s_ name kind)).1).2.2)]),(false, [.o 2 (((Qm s_ name kind)).2.1)]),(false, [.b (((Qm s_ name kind)).2.2)])]):=by
 refine en Qb Tryz.func28 λw0 F0 hG=> ?_
 refine sn Qb [1,2,3,6,7,8] [3,6] p0 <| tn Qb [1,2,3,6,7,8,9] [3,6,9] (pc 1 (Fk s_) p0) <| Qc <| Qc <| mz [(3,.p 3 0),(6,.p 6 0),(7,.e 0),(8,.b false),(9,.p 9 0)] [0] [(3, [.h s_.1,.h s_.2.1,.i s_.2.2]),(6, [.e 2,.e 5,.i 0]),(9, [.o 1216 ((Qz s_).1),.o 1217 ((Qz s_).2.1),.i ((Qz s_).2.2)])] [] <| jn [(37,.b ((!(Q7 s_))|| ((!(Z5 s_.1 name))|| ((kind !=(1:Int))&&(kind !=(2:Int))))))] [3] [] [3] (!(Q7 s_)) (λh1=> ?_) (λh1=> ?_) ?_
 ·have h1n:(Q7 s_)=false:=Ht h1;refine ru Qb [(37,.b true)] [3] [] [3] (pc 1 (cb h1n (Ue s_)) (pe 2 (show .b (!false)= .b true from rfl) p0)) ?_;exact zA (by rw[h1]<;>kernel_rfl)
 ·have h1n:(Q7 s_)=true:=Ka h1;have hva:=LB h1n;refine Ya (!(Z5 s_.1 name)) (λh2=> ?_) (λh2=> ?_)
  ·have h2n:(Z5 s_.1 name)=false:=Ht h2;refine ru Qb [(37,.b true)] [3] [] [3] (pc 1 (cb h1n (Ue s_)) (pe 2 (show .b (!true)= .b false from rfl) (pc 7 (cb h2n (Gk s_.1 name)) (pe 8 (show .b (!false)= .b true from rfl) p0)))) ?_;exact zA (by rw[h1,h2]<;>kernel_rfl)
  have h2n:(Z5 s_.1 name)=true:=Ka h2;refine Ya (kind !=(1:Int)) (λh3=> ?_) (λh3=> ?_)
  ·refine rn Qb [1,2,6,7,8,9,37] [6,9] (pc 1 (cb h1n (Ue s_)) (pe 2 (show .b (!true)= .b false from rfl) (pc 7 (cb h2n (Gk s_.1 name)) (pe 8 (show .b (!true)= .b false from rfl) (pt 12 h3 p0))))) ?_;exact zA (by rw[h1,h2,h3]<;>kernel_rfl)
  refine ru Qb [(37,.b false)] [3] [] [3] (pc 1 (cb h1n (Ue s_)) (pe 2 (show .b (!true)= .b false from rfl) (pc 7 (cb h2n (Gk s_.1 name)) (pe 8 (show .b (!true)= .b false from rfl) (pf 12 h3 p0))))) ?_;exact zA (by rw[h1,h2,h3]<;>kernel_rfl)
 refine ck ((!(Q7 s_))|| ((!(Z5 s_.1 name))|| ((kind !=(1:Int))&&(kind !=(2:Int))))) (λh4=> ?_) (λh4=> ?_)
 ·refine sn Qb [1,2,6,7,8,9] [6,9] p0 <| opn [(false,7,0,true,384000,1)] ?_
  exact Qk <| pz [] (show Qm s_ name kind=_ from X6 h4 (rfl)) (λz=> .tup [(true, [.o 0 z.1.1,.o 1 z.1.2.1,.i z.1.2.2]),(false, [.o 2 z.2.1]),(false, [.b z.2.2])])
 have h4l:((!(Q7 s_)))=false:=VL h4;have h4ln:(Q7 s_)=true:=Ka h4l;have hva:=LB h4ln;refine Qi <| Qc <| sn Qb [1,2,6,7,8,9,40,41,42] [6,9] (pl 2 ((Qz s_).1) p0) <| mz [(40,.o 1216 ((Qz s_).1)),(41,.i (((Qz s_).1).length:Int)),(42,.i 0)] [37] [] [] <| wT 40 0 (.own true 1216) ((Qz s_).1) (λhw5 hl6=> ?_)
 refine Qbn (Jn name kind) W2 ((Qz s_).1) ((Qz s_).1) (λk0 s0=> [(40,.o 1216 s0),(42,.i (k0:Int))]) [40,42] (λ_ s0=> [(9, [.o 1216 s0,.o 1217 ((Qz s_).2.1),.i ((Qz s_).2.2)])]) [9] (λ_=> []) [40,41,42] (λy0=> [(9, [.o 1216 y0,.o 1217 ((Qz s_).2.1),.i ((Qz s_).2.2)])]) [9] (λ_ s0=>List.length s0=List.length ((Qz s_).1)) wf0 (by simp) (λk0 s0 hk0 U=> ?_) (λk0 s0 hk0 U=> ?_) (λy0 hD0=> ?_)
 ·have hA0_0:=U.2;obtain ⟨a0,V⟩:=Xs (l:=(Qz s_).1) (i:=k0) hk0;refine su Qb [(43,.b true)] [] [] [] (pe 0 (zB ((k0:Int)<(((Qz s_).1).length:Int))) p0) <| Qc <| ckT <| Qi <| Qc <| Qx <| wT 40 0 (.own true 1216) s0 (λhw8 hl9=> ?_)
  have hx7:=ng s0 k0;refine sn Qb [1,2,6,7,8,9,10,11,40,41,42] [6,9,11] (pN 1 hx7 p0) <| tn Qb [1,2,6,7,8,9,10,40,41,42,50] [6,9] p0 <| ck (((nth s0 k0).1).toList==name.toList) (λh10=> ?_) (λh10=> ?_)
  ·refine qu Qb [(40,.one (.slc (.own true 1216) 2 (setRow (eL s0) k0 1 [.i kind])))] [40,43] [(9, [.slc (.own true 1216) 2 (setRow (eL s0) k0 1 [.i kind]),.o 1217 ((Qz s_).2.1),.i ((Qz s_).2.2)])] [9] (pN 4 hx7 p0) ?_;refine eqn [(40,.o 1216 (List.set s0 k0 ((nth s0 k0).1,kind)))] [40] [(9, [.o 1216 (List.set s0 k0 ((nth s0 k0).1,kind)),.o 1217 ((Qz s_).2.1),.i ((Qz s_).2.2)])] [9] (by rw[Zv (y:=((nth s0 k0).1,kind)) hx7 rfl]<;>kernel_rfl) ?_;refine rn Qb [1,2,6,7,8,9,40,41,42] [6,9] (pe 0 (Js (Qq k0 (by omega))) p0) ?_;exact xw (List.set s0 k0 ((nth s0 k0).1,kind)) ⟨Qw V (X6 h10 (rfl)) U.1,(by first|omega|(simp only[List.length_set];omega))⟩
  refine Qi <| qu Qb [(42,.i ((k0+1:Nat):Int))] [42,43] [] [] (pe 0 (Js (Qq k0 (by omega))) p0) ?_
  exact xw s0 ⟨Qw V (Qy h10 (rfl)) U.1,(by first|omega|(simp only[List.length_set];omega))⟩
 ·have hA0_0:=U.2;exact su Qb [(43,.b false)] [] [] [] (pe 0 (zC ((k0:Int)<(((Qz s_).1).length:Int))) p0) <| Qc <| ckF <| Xe <| xw _ (Xy hk0 (rfl) U.1)
 refine sn Qb [1,2,6,7,8,9,12] [6,9] p0 <| Qc <| tn Qb [1,2,6,7,8,9,12,60,61,62] [6,9] (pl 2 ((Qz s_).2.1) p0) <| mz [(12,.one (.slc (.own true 3712) 1 [])),(60,.o 1217 ((Qz s_).2.1)),(61,.i (((Qz s_).2.1).length:Int)),(62,.i 0)] [] [] [] <| wT 60 0 (.own true 1217) ((Qz s_).2.1) (λhw11 hl12=> ?_)
 refine Qbn (Zw name kind) W3 ((Qz s_).2.1) ([],(Qz s_).2.1) (λk1 s1=> [(12,.o 147206 s1.1),(60,.o 1217 s1.2),(62,.i (k1:Int))]) [12,60,62] (λ_ s1=> [(9, [.o 1216 y0,.o 1217 s1.2,.i ((Qz s_).2.2)])]) [9] (λy1=> [(12,.o 147356 y1.1)]) [1,2,12,60,61,62] (λy1=> [(9, [.o 1216 y0,.o 1217 y1.2,.i ((Qz s_).2.2)])]) [9] (λk1 s1=>List.length s1.1<=k1/\List.length s1.2=List.length ((Qz s_).2.1)/\∀j,k1<=j->s1.2[j]? =(Qz s_).2.1[j]?) (Yg [(3712,147206)] (by kernel_rfl)) ⟨(by simp),(by simp),(by exact λ_ _=>rfl)⟩ (λk1 s1 hk1 hI1=> ?_) (λk1 s1 hk1 hI1=> ?_) (λy1 hD1=> ?_)
 ·have hA1_0:=hI1.2.1;have hA1_1:=hI1.2.2.1;have hA1_2:=hI1.2.2.2;obtain ⟨a1,hx1⟩:=Xs (l:=(Qz s_).2.1) (i:=k1) hk1;refine su Qb [(63,.b true)] [] [] [] (pe 0 (zB ((k1:Int)<(((Qz s_).2.1).length:Int))) p0) <| Qc <| ckT <| Qi <| Qc <| Qx <| wT 60 0 (.own true 1217) s1.2 (λhw14 hl15=> ?_)
  have hx13:=ng s1.2 k1;refine sn Qb [1,2,6,7,8,9,12,13,14,60,61,62] [6,9,14] (pN 1 hx13 p0) <| tn Qb [1,2,6,7,8,9,12,13,14,15,60,61,62] [6,9,14,15] (pc 2 (Eo (nth s1.2 k1) name) p0) <| Qc <| tu Qb [(13,.i (k1:Int)),(14,.p 14 0),(15,.p 15 0),(72,.b ((Qf (nth s1.2 k1) name).1==(0:Int)))] [63] [(14, [.i ((nth s1.2 k1).1),.i ((nth s1.2 k1).2.1),.b ((nth s1.2 k1).2.2.1),.i ((nth s1.2 k1).2.2.2.1),.v 1217 ((nth s1.2 k1).2.2.2.2)]),(15, [.i ((Qf (nth s1.2 k1) name).1),.i ((Qf (nth s1.2 k1) name).2.1),.s ((Qf (nth s1.2 k1) name).2.2)])] [] p0 <| ck ((Qf (nth s1.2 k1) name).1==(0:Int)) (λh16=> ?_) (λh16=> ?_)
  ·have h16d:=eq_of_beq h16;refine Xe <| rn Qb [1,2,6,7,8,9,12,60,61,62] [6,9] (pe 0 (Js (Qq k1 (by omega))) p0) ?_
   exact xw (s1.1,s1.2) ⟨Qw hx1 (X6 h16 (rfl)) hI1.1,by first|omega|(simp;omega) | simp,(by first|omega|(simp only[List.length_set];omega)),(by first | exact λj hj=>hA1_2 j (by omega) | exact λj hj=>(List.getElem?_set_ne (by omega)).trans (hA1_2 j (by omega)))⟩
  have h16d:=Zq h16;refine Qi <| sn Qb [1,2,6,7,8,9,12,13,14,16,17,60,61,62] [6,9,14,16] (pc 2 (Rn (Qf (nth s1.2 k1) name) kind) p0) <| Qc <| tn Qb [1,2,6,7,8,9,12,13,14,16,60,61,62,80] [6,9,14,16] p0 <| ck (!((Qd (Qf (nth s1.2 k1) name) kind).2)) (λh17=> ?_) (λh17=> ?_)
  ·refine wT 12 0 (.own true 147206) s1.1 (λhw18 hl19=> ?_);refine qu Qb [(12,.one (.slc (.own true 5440) 1 ((eL s1.1)++ [[.i ((nth s1.2 k1).1)]]))),(16,.p 16 0)] [12,15,72] [(16, [.i ((Qd (Qf (nth s1.2 k1) name) kind).1.1),.i ((Qd (Qf (nth s1.2 k1) name) kind).1.2.1),.s ((Qd (Qf (nth s1.2 k1) name) kind).1.2.2)])] [15] (pa s1.1 [(nth s1.2 k1).1] p0) ?_;refine eqn [(12,.o 5440 (s1.1++ [(nth s1.2 k1).1]))] [12] [] [] (by rw[show ((eL s1.1)++ [[.i ((nth s1.2 k1).1)]])=(eL (s1.1++ [(nth s1.2 k1).1])) from Uw (rfl) (rfl)];first | done | kernel_rfl) ?_;refine rU Qb Zf [(60,.one (.slc (.own true 1217) 5 (setRow (eL s1.2) k1 0 [.i ((Xl (nth s1.2 k1) name ((Qd (Qf (nth s1.2 k1) name) kind).1.1,(Qd (Qf (nth s1.2 k1) name) kind).1.2.1,(Qd (Qf (nth s1.2 k1) name) kind).1.2.2)).1),.i ((Xl (nth s1.2 k1) name ((Qd (Qf (nth s1.2 k1) name) kind).1.1,(Qd (Qf (nth s1.2 k1) name) kind).1.2.1,(Qd (Qf (nth s1.2 k1) name) kind).1.2.2)).2.1),.b ((Xl (nth s1.2 k1) name ((Qd (Qf (nth s1.2 k1) name) kind).1.1,(Qd (Qf (nth s1.2 k1) name) kind).1.2.1,(Qd (Qf (nth s1.2 k1) name) kind).1.2.2)).2.2.1),.i ((Xl (nth s1.2 k1) name ((Qd (Qf (nth s1.2 k1) name) kind).1.1,(Qd (Qf (nth s1.2 k1) name) kind).1.2.1,(Qd (Qf (nth s1.2 k1) name) kind).1.2.2)).2.2.2.1),.h ((Xl (nth s1.2 k1) name ((Qd (Qf (nth s1.2 k1) name) kind).1.1,(Qd (Qf (nth s1.2 k1) name) kind).1.2.1,(Qd (Qf (nth s1.2 k1) name) kind).1.2.2)).2.2.2.2)])))] [13,14,16,60] [(9, [.o 1216 y0,.slc (.own true 1217) 5 (setRow (eL s1.2) k1 0 [.i ((Xl (nth s1.2 k1) name ((Qd (Qf (nth s1.2 k1) name) kind).1.1,(Qd (Qf (nth s1.2 k1) name) kind).1.2.1,(Qd (Qf (nth s1.2 k1) name) kind).1.2.2)).1),.i ((Xl (nth s1.2 k1) name ((Qd (Qf (nth s1.2 k1) name) kind).1.1,(Qd (Qf (nth s1.2 k1) name) kind).1.2.1,(Qd (Qf (nth s1.2 k1) name) kind).1.2.2)).2.1),.b ((Xl (nth s1.2 k1) name ((Qd (Qf (nth s1.2 k1) name) kind).1.1,(Qd (Qf (nth s1.2 k1) name) kind).1.2.1,(Qd (Qf (nth s1.2 k1) name) kind).1.2.2)).2.2.1),.i ((Xl (nth s1.2 k1) name ((Qd (Qf (nth s1.2 k1) name) kind).1.1,(Qd (Qf (nth s1.2 k1) name) kind).1.2.1,(Qd (Qf (nth s1.2 k1) name) kind).1.2.2)).2.2.2.1),.h ((Xl (nth s1.2 k1) name ((Qd (Qf (nth s1.2 k1) name) kind).1.1,(Qd (Qf (nth s1.2 k1) name) kind).1.2.1,(Qd (Qf (nth s1.2 k1) name) kind).1.2.2)).2.2.2.2)]),.i ((Qz s_).2.2)])] [9,14,16] (pc 6 (Re (nth s1.2 k1) name ((Qd (Qf (nth s1.2 k1) name) kind).1.1,(Qd (Qf (nth s1.2 k1) name) kind).1.2.1,(Qd (Qf (nth s1.2 k1) name) kind).1.2.2) (WT hva hA1_2 hk1)) (pN 7 hx13 p0)) ?_;refine eqn [(60,.o 1217 (List.set s1.2 k1 (Xl (nth s1.2 k1) name ((Qd (Qf (nth s1.2 k1) name) kind).1.1,(Qd (Qf (nth s1.2 k1) name) kind).1.2.1,(Qd (Qf (nth s1.2 k1) name) kind).1.2.2))))] [60] [(9, [.o 1216 y0,.o 1217 (List.set s1.2 k1 (Xl (nth s1.2 k1) name ((Qd (Qf (nth s1.2 k1) name) kind).1.1,(Qd (Qf (nth s1.2 k1) name) kind).1.2.1,(Qd (Qf (nth s1.2 k1) name) kind).1.2.2))),.i ((Qz s_).2.2)])] [9] (by rw[Zv (y:=(Xl (nth s1.2 k1) name ((Qd (Qf (nth s1.2 k1) name) kind).1.1,(Qd (Qf (nth s1.2 k1) name) kind).1.2.1,(Qd (Qf (nth s1.2 k1) name) kind).1.2.2))) hx13 rfl]<;>kernel_rfl) ?_;refine rn Qb [1,2,6,7,8,9,12,60,61,62] [6,9] (pe 0 (Js (Qq k1 (by omega))) p0) ?_;exact Exists.intro (s1.1++ [(nth s1.2 k1).1],List.set s1.2 k1 (Xl (nth s1.2 k1) name ((Qd (Qf (nth s1.2 k1) name) kind).1.1,(Qd (Qf (nth s1.2 k1) name) kind).1.2.1,(Qd (Qf (nth s1.2 k1) name) kind).1.2.2))) (And.intro (Yg [(5440,147206)] (by kernel_rfl)) ⟨Qw hx1 (Qy h16 (X6 h17 (rfl))) hI1.1,by first|omega|(simp;omega) | simp,(by first|omega|(simp only[List.length_set];omega)),(by first | exact λj hj=>hA1_2 j (by omega) | exact λj hj=>(List.getElem?_set_ne (by omega)).trans (hA1_2 j (by omega)))⟩)
  refine Qi <| qU Qb Zf [(60,.one (.slc (.own true 1217) 5 (setRow (eL s1.2) k1 0 [.i ((Xl (nth s1.2 k1) name ((Qd (Qf (nth s1.2 k1) name) kind).1.1,(Qd (Qf (nth s1.2 k1) name) kind).1.2.1,(Qd (Qf (nth s1.2 k1) name) kind).1.2.2)).1),.i ((Xl (nth s1.2 k1) name ((Qd (Qf (nth s1.2 k1) name) kind).1.1,(Qd (Qf (nth s1.2 k1) name) kind).1.2.1,(Qd (Qf (nth s1.2 k1) name) kind).1.2.2)).2.1),.b ((Xl (nth s1.2 k1) name ((Qd (Qf (nth s1.2 k1) name) kind).1.1,(Qd (Qf (nth s1.2 k1) name) kind).1.2.1,(Qd (Qf (nth s1.2 k1) name) kind).1.2.2)).2.2.1),.i ((Xl (nth s1.2 k1) name ((Qd (Qf (nth s1.2 k1) name) kind).1.1,(Qd (Qf (nth s1.2 k1) name) kind).1.2.1,(Qd (Qf (nth s1.2 k1) name) kind).1.2.2)).2.2.2.1),.h ((Xl (nth s1.2 k1) name ((Qd (Qf (nth s1.2 k1) name) kind).1.1,(Qd (Qf (nth s1.2 k1) name) kind).1.2.1,(Qd (Qf (nth s1.2 k1) name) kind).1.2.2)).2.2.2.2)])))] [13,14,15,60,72] [(9, [.o 1216 y0,.slc (.own true 1217) 5 (setRow (eL s1.2) k1 0 [.i ((Xl (nth s1.2 k1) name ((Qd (Qf (nth s1.2 k1) name) kind).1.1,(Qd (Qf (nth s1.2 k1) name) kind).1.2.1,(Qd (Qf (nth s1.2 k1) name) kind).1.2.2)).1),.i ((Xl (nth s1.2 k1) name ((Qd (Qf (nth s1.2 k1) name) kind).1.1,(Qd (Qf (nth s1.2 k1) name) kind).1.2.1,(Qd (Qf (nth s1.2 k1) name) kind).1.2.2)).2.1),.b ((Xl (nth s1.2 k1) name ((Qd (Qf (nth s1.2 k1) name) kind).1.1,(Qd (Qf (nth s1.2 k1) name) kind).1.2.1,(Qd (Qf (nth s1.2 k1) name) kind).1.2.2)).2.2.1),.i ((Xl (nth s1.2 k1) name ((Qd (Qf (nth s1.2 k1) name) kind).1.1,(Qd (Qf (nth s1.2 k1) name) kind).1.2.1,(Qd (Qf (nth s1.2 k1) name) kind).1.2.2)).2.2.2.1),.h ((Xl (nth s1.2 k1) name ((Qd (Qf (nth s1.2 k1) name) kind).1.1,(Qd (Qf (nth s1.2 k1) name) kind).1.2.1,(Qd (Qf (nth s1.2 k1) name) kind).1.2.2)).2.2.2.2)]),.i ((Qz s_).2.2)])] [9,14,15] (pc 6 (Re (nth s1.2 k1) name ((Qd (Qf (nth s1.2 k1) name) kind).1.1,(Qd (Qf (nth s1.2 k1) name) kind).1.2.1,(Qd (Qf (nth s1.2 k1) name) kind).1.2.2) (WT hva hA1_2 hk1)) (pN 7 hx13 p0)) ?_
  refine eqn [(60,.o 1217 (List.set s1.2 k1 (Xl (nth s1.2 k1) name ((Qd (Qf (nth s1.2 k1) name) kind).1.1,(Qd (Qf (nth s1.2 k1) name) kind).1.2.1,(Qd (Qf (nth s1.2 k1) name) kind).1.2.2))))] [60] [(9, [.o 1216 y0,.o 1217 (List.set s1.2 k1 (Xl (nth s1.2 k1) name ((Qd (Qf (nth s1.2 k1) name) kind).1.1,(Qd (Qf (nth s1.2 k1) name) kind).1.2.1,(Qd (Qf (nth s1.2 k1) name) kind).1.2.2))),.i ((Qz s_).2.2)])] [9] (by rw[Zv (y:=(Xl (nth s1.2 k1) name ((Qd (Qf (nth s1.2 k1) name) kind).1.1,(Qd (Qf (nth s1.2 k1) name) kind).1.2.1,(Qd (Qf (nth s1.2 k1) name) kind).1.2.2))) hx13 rfl]<;>kernel_rfl) ?_;refine rn Qb [1,2,6,7,8,9,12,60,61,62] [6,9] (pe 0 (Js (Qq k1 (by omega))) p0) ?_;exact xw (s1.1,List.set s1.2 k1 (Xl (nth s1.2 k1) name ((Qd (Qf (nth s1.2 k1) name) kind).1.1,(Qd (Qf (nth s1.2 k1) name) kind).1.2.1,(Qd (Qf (nth s1.2 k1) name) kind).1.2.2))) ⟨Qw hx1 (Qy h16 (Qy h17 (rfl))) hI1.1,by first|omega|(simp;omega) | simp,(by first|omega|(simp only[List.length_set];omega)),(by first | exact λj hj=>hA1_2 j (by omega) | exact λj hj=>(List.getElem?_set_ne (by omega)).trans (hA1_2 j (by omega)))⟩
 ·have hA1_0:=hI1.2.1;have hA1_1:=hI1.2.2.1;have hA1_2:=hI1.2.2.2;exact su Qb [(63,.b false)] [] [] [] (pe 0 (zC ((k1:Int)<(((Qz s_).2.1).length:Int))) p0) <| Qc <| ckF <| Xe <| Exists.intro _ (And.intro (Yg [(147206,147356)] (by kernel_rfl)) (Xy hk1 (rfl) hI1.1))
 exact sn Qb [6,7,8] [6] p0 <| Qk <| pz [] (show Qm s_ name kind=_ from Qy h4 (Ur hD0 (Ur hD1 (rfl)))) (λz=> .tup [(true, [.o 0 z.1.1,.o 1 z.1.2.1,.i z.1.2.2]),(false, [.o 2 z.2.1]),(false, [.b z.2.2])])
noncomputable def Ho (name:ByteArray) (kind:Int) (k0:Nat) (s0:List Yd):Rd (X1×(List Int)×Bool) (List Yd) (List Yd):=(bif (((nth s0 k0).1).toList==name.toList) then (.next (List.set s0 k0 ((nth s0 k0).1,kind))) else (.next s0))
noncomputable def Hp (_:Nat) (s0:List Yd):(List Yd):=s0
noncomputable def Vk (name:ByteArray) (kind:Int) (k1:Nat) (s1:(List Int)×(List Yh)):Rd (X1×(List Int)×Bool) ((List Int)×(List Yh)) ((List Int)×(List Yh)):=(bif ((Qn (nth s1.2 k1) name).1==(0:Int)) then (.next (s1.1,s1.2)) else (bif (!((Qj (Qn (nth s1.2 k1) name) kind).2)) then (.next (s1.1++ [(nth s1.2 k1).1],List.set s1.2 k1 (Y0 (nth s1.2 k1) name ((Qj (Qn (nth s1.2 k1) name) kind).1.1,(Qj (Qn (nth s1.2 k1) name) kind).1.2.1,(Qj (Qn (nth s1.2 k1) name) kind).1.2.2)))) else (.next (s1.1,List.set s1.2 k1 (Y0 (nth s1.2 k1) name ((Qj (Qn (nth s1.2 k1) name) kind).1.1,(Qj (Qn (nth s1.2 k1) name) kind).1.2.1,(Qj (Qn (nth s1.2 k1) name) kind).1.2.2))))))
noncomputable def Hq (_:Nat) (s1:(List Int)×(List Yh)):(List Int)×(List Yh):=(s1.1,s1.2)
noncomputable def Xm (s_:X1) (name:ByteArray) (kind:Int):X1×(List Int)×Bool:=(bif ((!(Xj (Xc s_)))|| (((J5 ((Xc s_).1) name)==(0:Int))|| (!(Xi kind 1 2)))) then ((Xc s_), [],false) else (Out.on (Wb (Ho name kind) Hp (List.length ((Xc s_).1)) 0 ((Xc s_).1)) (λy0=>(Out.on (Wb (Vk name kind) Hq (List.length ((Xc s_).2.1)) 0 ([],(Xc s_).2.1)) (λy1=>((y0,y1.2,(Xc s_).2.2),y1.1,true))))))
theorem Mt (s_:X1) (name:ByteArray) (kind:Int):ACalls Tryz.prog 21 [.a [.h s_.1,.h s_.2.1,.i s_.2.2],.s name,.i kind] (.tup [(true, [.o 0 ((((Xm s_ name kind)).1).1),.o 1 ((((Xm s_ name kind)).1).2.1),.i ((((Xm s_ name kind)).1).2.2)]),(false, [.o 2 (((Xm s_ name kind)).2.1)]),(false, [.b (((Xm s_ name kind)).2.2)])]):=by
 refine en Qb Tryz.func21 λw0 F0 hG=> ?_
 refine sn Qb [1,2,3,6,7,8] [3,6] p0 <| tn Qb [1,2,3,6,7,8] [3,6] (pc 1 (Rc s_) p0) <| Qc <| Qc <| mz [(3,.p 3 0),(6,.p 6 0),(7,.e 0),(8,.b false)] [0] [(3, [.o 1024 ((Xc s_).1),.o 1025 ((Xc s_).2.1),.i ((Xc s_).2.2)]),(6, [.e 2,.e 5,.i 0])] [] <| jn [(31,.b ((!(Xj (Xc s_)))|| (((J5 ((Xc s_).1) name)==(0:Int))|| (!(Xi kind 1 2)))))] [] [] [] (!(Xj (Xc s_))) (λh1=> ?_) (λh1=> ?_) ?_
 ·have h1n:(Xj (Xc s_))=false:=Ht h1;refine ru Qb [(31,.b true)] [] [] [] (pc 1 (cb h1n (Ug (Xc s_))) (pe 2 (show .b (!false)= .b true from rfl) p0)) ?_;exact zA (by rw[h1]<;>kernel_rfl)
 ·have h1n:(Xj (Xc s_))=true:=Ka h1;have hva:=BU h1n;refine Ya ((J5 ((Xc s_).1) name)==(0:Int)) (λh2=> ?_) (λh2=> ?_)
  ·refine ru Qb [(31,.b true)] [] [] [] (pc 1 (cb h1n (Ug (Xc s_))) (pe 2 (show .b (!true)= .b false from rfl) (pc 7 (Fe ((Xc s_).1) name) (pt 8 h2 p0)))) ?_;exact zA (by rw[h1,h2]<;>kernel_rfl)
  refine rn Qb [1,2,3,6,7,8,31] [3,6] (pc 1 (cb h1n (Ug (Xc s_))) (pe 2 (show .b (!true)= .b false from rfl) (pc 7 (Fe ((Xc s_).1) name) (pf 8 h2 (pc 12 (Zz kind 1 2) p0))))) ?_;exact zA (by rw[h1,h2]<;>kernel_rfl)
 refine ck ((!(Xj (Xc s_)))|| (((J5 ((Xc s_).1) name)==(0:Int))|| (!(Xi kind 1 2)))) (λh3=> ?_) (λh3=> ?_)
 ·exact sn Qb [1,2,3,6,7,8] [3,6] p0 <| Qk <| pz [] (show Xm s_ name kind=_ from X6 h3 (rfl)) (λz=> .tup [(true, [.o 0 z.1.1,.o 1 z.1.2.1,.i z.1.2.2]),(false, [.o 2 z.2.1]),(false, [.b z.2.2])])
 have h3l:((!(Xj (Xc s_))))=false:=VL h3;have h3ln:(Xj (Xc s_))=true:=Ka h3l;have hva:=BU h3ln;have h3r:((((J5 ((Xc s_).1) name)==(0:Int))|| (!(Xi kind 1 2))))=false:=UJ h3;have h3rl:(((J5 ((Xc s_).1) name)==(0:Int)))=false:=VL h3r;have h3rld:=Zq h3rl;have h3rr:((!(Xi kind 1 2)))=false:=UJ h3r;have h3rrn:(Xi kind 1 2)=true:=Ka h3rr;have h3rrnw:=L8.1 h3rrn;refine Qi <| sn Qb [1,2,3,6,7,8,9] [3,6] p0 <| Qc <| tn Qb [1,2,3,6,7,8,9,10] [3,6] p0 <| mz [(9,.one (.slc (.own true 2176) 1 [])),(10,.i 0)] [31] [] [] <| Qg1 (Ho name kind) Hp (List.length ((Xc s_).1)) ((Xc s_).1) (λk0 _=> [(10,.i (k0:Int))]) [10] (λ_ s0=> [(3, [.o 1024 s0,.o 1025 ((Xc s_).2.1),.i ((Xc s_).2.2)])]) [3] (λ_=> []) [10] (λy0=> [(3, [.o 1024 y0,.o 1025 ((Xc s_).2.1),.i ((Xc s_).2.2)])]) [3] (λ_ s0=>List.length s0=List.length ((Xc s_).1)) (λy0=>List.length y0=List.length ((Xc s_).1)) wf0 (by simp) (λk0 s0 hk0 U=> ?_) (λk0 s0 hk0 U=> ?_) (λy0 hD0=> ?_)
 ·have hA0_0:=U.2;refine Qc <| su Qb [(39,.b true)] [] [] [] (pl 3 s0 (pe 4 (zB ((k0:Int)<(s0.length:Int))) p0)) <| ckT <| Qi <| Qc <| Qx <| wB 3 0 (.own true 1024) s0 (λhw5 hl6=> ?_)
  have hx4:=ng s0 k0;refine sn Qb [1,2,3,6,7,8,9,10,49] [3,6] (pN 3 hx4 p0) <| ck (((nth s0 k0).1).toList==name.toList) (λh7=> ?_) (λh7=> ?_)
  ·refine qu Qb [] [39] [(3, [.slc (.own true 1024) 2 (setRow (eL s0) k0 1 [.i kind]),.o 1025 ((Xc s_).2.1),.i ((Xc s_).2.2)])] [3] (pN 4 hx4 p0) ?_;refine eqn [] [] [(3, [.o 1024 (List.set s0 k0 ((nth s0 k0).1,kind)),.o 1025 ((Xc s_).2.1),.i ((Xc s_).2.2)])] [3] (by rw[Zv (y:=((nth s0 k0).1,kind)) hx4 rfl]<;>kernel_rfl) ?_;refine rn Qb [1,2,3,6,7,8,9,10] [3,6] (pe 1 (Js (Qq k0 (by omega))) p0) ?_;exact xw (List.set s0 k0 ((nth s0 k0).1,kind)) ⟨K1 hk0 (X6 h7 (rfl)) U.1,(by first|omega|(simp only[List.length_set];omega))⟩
  refine Qi <| qn Qb [1,2,3,6,7,8,9,10] [3,6] (pe 1 (Js (Qq k0 (by omega))) p0) ?_
  exact xw s0 ⟨K1 hk0 (Qy h7 (rfl)) U.1,(by first|omega|(simp only[List.length_set];omega))⟩
 ·have hA0_0:=U.2;exact Qc <| su Qb [(39,.b false)] [] [] [] (pl 3 s0 (pe 4 (zC ((k0:Int)<(s0.length:Int))) p0)) <| ckF <| Xe <| xw s0 ⟨Cq hk0 (rfl) U.1,by first|omega|(simp only[List.length_set];omega)⟩
 have hD0_0:=hD0.2;refine Qc <| su Qb [(11,.i 0)] [] [] [] p0 <| Qg1 (Vk name kind) Hq (List.length ((Xc s_).2.1)) ([],(Xc s_).2.1) (λk1 s1=> [(9,.o 147206 s1.1),(11,.i (k1:Int))]) [9,11] (λ_ s1=> [(3, [.o 1024 y0,.o 1025 s1.2,.i ((Xc s_).2.2)])]) [3] (λy1=> [(9,.o 147356 y1.1)]) [1,2,9,11] (λy1=> [(3, [.o 1024 y0,.o 1025 y1.2,.i ((Xc s_).2.2)])]) [3] (λk1 s1=>List.length s1.1<=k1/\List.length s1.2=List.length ((Xc s_).2.1)/\∀j,k1<=j->s1.2[j]? =(Xc s_).2.1[j]?) (λy1=>List.length y1.2=List.length ((Xc s_).2.1)) (Yg [(2176,147206)] (by kernel_rfl)) ⟨(by simp),(by simp),(by exact λ_ _=>rfl)⟩ (λk1 s1 hk1 hI1=> ?_) (λk1 s1 hk1 hI1=> ?_) (λy1 hD1=> ?_)
 ·have hA1_0:=hI1.2.1;have hA1_1:=hI1.2.2.1;have hA1_2:=hI1.2.2.2;refine Qc <| su Qb [(60,.b true)] [] [] [] (pl 3 s1.2 (pe 4 (zB ((k1:Int)<(s1.2.length:Int))) p0)) <| ckT <| Qi <| Qc <| Qx <| wB 3 1 (.own true 1025) s1.2 (λhw9 hl10=> ?_)
  have hx8:=ng s1.2 k1;refine sn Qb [1,2,3,6,7,8,9,11,12] [3,6,12] (pN 3 hx8 (pc 6 (P4 (nth s1.2 k1) name) p0)) <| Qc <| tn Qb [1,2,3,6,7,8,9,11,12,72] [3,6,12] p0 <| ck ((Qn (nth s1.2 k1) name).1==(0:Int)) (λh11=> ?_) (λh11=> ?_)
  ·have h11d:=eq_of_beq h11;refine Xe <| qu Qb [(11,.i ((k1+1:Nat):Int))] [11,60] [] [] (pe 1 (Js (Qq k1 (by omega))) p0) ?_
   exact xw (s1.1,s1.2) ⟨K1 hk1 (X6 h11 (rfl)) hI1.1,by first|omega|(simp;omega) | simp,(by first|omega|(simp only[List.length_set];omega)),(by first | exact λj hj=>hA1_2 j (by omega) | exact λj hj=>(List.getElem?_set_ne (by omega)).trans (hA1_2 j (by omega)))⟩
  have h11d:=Zq h11;refine Qi <| tu Qb [(13,.p 13 0),(14,.b ((Qj (Qn (nth s1.2 k1) name) kind).2))] [60] [(13, [.i ((Qj (Qn (nth s1.2 k1) name) kind).1.1),.i ((Qj (Qn (nth s1.2 k1) name) kind).1.2.1),.s ((Qj (Qn (nth s1.2 k1) name) kind).1.2.2)])] [] (pc 2 (Ro (Qn (nth s1.2 k1) name) kind) p0) <| Qc <| sn Qb [1,2,3,6,7,8,9,11,13,80] [3,6,13] p0 <| ck (!((Qj (Qn (nth s1.2 k1) name) kind).2)) (λh12=> ?_) (λh12=> ?_)
  ·refine wT 9 0 (.own true 147206) s1.1 (λhw13 hl14=> ?_);refine qu Qb [(9,.one (.slc (.own true 5696) 1 ((eL s1.1)++ [[.i ((nth s1.2 k1).1)]])))] [9,14] [] [] (pN 4 hx8 (pa s1.1 [(nth s1.2 k1).1] p0)) ?_;refine eqn [(9,.o 5696 (s1.1++ [(nth s1.2 k1).1]))] [9] [] [] (by rw[show ((eL s1.1)++ [[.i ((nth s1.2 k1).1)]])=(eL (s1.1++ [(nth s1.2 k1).1])) from Uw (rfl) (rfl)];first | done | kernel_rfl) ?_;refine rU Qb Zf [] [13] [(3, [.o 1024 y0,.slc (.own true 1025) 5 (setRow (eL s1.2) k1 0 [.i ((Y0 (nth s1.2 k1) name ((Qj (Qn (nth s1.2 k1) name) kind).1.1,(Qj (Qn (nth s1.2 k1) name) kind).1.2.1,(Qj (Qn (nth s1.2 k1) name) kind).1.2.2)).1),.i ((Y0 (nth s1.2 k1) name ((Qj (Qn (nth s1.2 k1) name) kind).1.1,(Qj (Qn (nth s1.2 k1) name) kind).1.2.1,(Qj (Qn (nth s1.2 k1) name) kind).1.2.2)).2.1),.b ((Y0 (nth s1.2 k1) name ((Qj (Qn (nth s1.2 k1) name) kind).1.1,(Qj (Qn (nth s1.2 k1) name) kind).1.2.1,(Qj (Qn (nth s1.2 k1) name) kind).1.2.2)).2.2.1),.i ((Y0 (nth s1.2 k1) name ((Qj (Qn (nth s1.2 k1) name) kind).1.1,(Qj (Qn (nth s1.2 k1) name) kind).1.2.1,(Qj (Qn (nth s1.2 k1) name) kind).1.2.2)).2.2.2.1),.h ((Y0 (nth s1.2 k1) name ((Qj (Qn (nth s1.2 k1) name) kind).1.1,(Qj (Qn (nth s1.2 k1) name) kind).1.2.1,(Qj (Qn (nth s1.2 k1) name) kind).1.2.2)).2.2.2.2)]),.i ((Xc s_).2.2)])] [3,13] (pN 6 hx8 (pc 10 (Rf (nth s1.2 k1) name ((Qj (Qn (nth s1.2 k1) name) kind).1.1,(Qj (Qn (nth s1.2 k1) name) kind).1.2.1,(Qj (Qn (nth s1.2 k1) name) kind).1.2.2) (WT hva hA1_2 hk1)) (pN 11 hx8 p0))) ?_;refine eqn [] [] [(3, [.o 1024 y0,.o 1025 (List.set s1.2 k1 (Y0 (nth s1.2 k1) name ((Qj (Qn (nth s1.2 k1) name) kind).1.1,(Qj (Qn (nth s1.2 k1) name) kind).1.2.1,(Qj (Qn (nth s1.2 k1) name) kind).1.2.2))),.i ((Xc s_).2.2)])] [3] (by rw[Zv (y:=(Y0 (nth s1.2 k1) name ((Qj (Qn (nth s1.2 k1) name) kind).1.1,(Qj (Qn (nth s1.2 k1) name) kind).1.2.1,(Qj (Qn (nth s1.2 k1) name) kind).1.2.2))) hx8 rfl]<;>kernel_rfl) ?_;refine rn Qb [1,2,3,6,7,8,9,11] [3,6] (pe 1 (Js (Qq k1 (by omega))) p0) ?_;exact Exists.intro (s1.1++ [(nth s1.2 k1).1],List.set s1.2 k1 (Y0 (nth s1.2 k1) name ((Qj (Qn (nth s1.2 k1) name) kind).1.1,(Qj (Qn (nth s1.2 k1) name) kind).1.2.1,(Qj (Qn (nth s1.2 k1) name) kind).1.2.2))) (And.intro (Yg [(5696,147206)] (by kernel_rfl)) ⟨K1 hk1 (Qy h11 (X6 h12 (rfl))) hI1.1,by first|omega|(simp;omega) | simp,(by first|omega|(simp only[List.length_set];omega)),(by first | exact λj hj=>hA1_2 j (by omega) | exact λj hj=>(List.getElem?_set_ne (by omega)).trans (hA1_2 j (by omega)))⟩)
  refine Qi <| qU Qb Zf [] [13,14] [(3, [.o 1024 y0,.slc (.own true 1025) 5 (setRow (eL s1.2) k1 0 [.i ((Y0 (nth s1.2 k1) name ((Qj (Qn (nth s1.2 k1) name) kind).1.1,(Qj (Qn (nth s1.2 k1) name) kind).1.2.1,(Qj (Qn (nth s1.2 k1) name) kind).1.2.2)).1),.i ((Y0 (nth s1.2 k1) name ((Qj (Qn (nth s1.2 k1) name) kind).1.1,(Qj (Qn (nth s1.2 k1) name) kind).1.2.1,(Qj (Qn (nth s1.2 k1) name) kind).1.2.2)).2.1),.b ((Y0 (nth s1.2 k1) name ((Qj (Qn (nth s1.2 k1) name) kind).1.1,(Qj (Qn (nth s1.2 k1) name) kind).1.2.1,(Qj (Qn (nth s1.2 k1) name) kind).1.2.2)).2.2.1),.i ((Y0 (nth s1.2 k1) name ((Qj (Qn (nth s1.2 k1) name) kind).1.1,(Qj (Qn (nth s1.2 k1) name) kind).1.2.1,(Qj (Qn (nth s1.2 k1) name) kind).1.2.2)).2.2.2.1),.h ((Y0 (nth s1.2 k1) name ((Qj (Qn (nth s1.2 k1) name) kind).1.1,(Qj (Qn (nth s1.2 k1) name) kind).1.2.1,(Qj (Qn (nth s1.2 k1) name) kind).1.2.2)).2.2.2.2)]),.i ((Xc s_).2.2)])] [3,13] (pN 6 hx8 (pc 10 (Rf (nth s1.2 k1) name ((Qj (Qn (nth s1.2 k1) name) kind).1.1,(Qj (Qn (nth s1.2 k1) name) kind).1.2.1,(Qj (Qn (nth s1.2 k1) name) kind).1.2.2) (WT hva hA1_2 hk1)) (pN 11 hx8 p0))) ?_
  refine eqn [] [] [(3, [.o 1024 y0,.o 1025 (List.set s1.2 k1 (Y0 (nth s1.2 k1) name ((Qj (Qn (nth s1.2 k1) name) kind).1.1,(Qj (Qn (nth s1.2 k1) name) kind).1.2.1,(Qj (Qn (nth s1.2 k1) name) kind).1.2.2))),.i ((Xc s_).2.2)])] [3] (by rw[Zv (y:=(Y0 (nth s1.2 k1) name ((Qj (Qn (nth s1.2 k1) name) kind).1.1,(Qj (Qn (nth s1.2 k1) name) kind).1.2.1,(Qj (Qn (nth s1.2 k1) name) kind).1.2.2))) hx8 rfl]<;>kernel_rfl) ?_;refine rn Qb [1,2,3,6,7,8,9,11] [3,6] (pe 1 (Js (Qq k1 (by omega))) p0) ?_;exact xw (s1.1,List.set s1.2 k1 (Y0 (nth s1.2 k1) name ((Qj (Qn (nth s1.2 k1) name) kind).1.1,(Qj (Qn (nth s1.2 k1) name) kind).1.2.1,(Qj (Qn (nth s1.2 k1) name) kind).1.2.2))) ⟨K1 hk1 (Qy h11 (Qy h12 (rfl))) hI1.1,by first|omega|(simp;omega) | simp,(by first|omega|(simp only[List.length_set];omega)),(by first | exact λj hj=>hA1_2 j (by omega) | exact λj hj=>(List.getElem?_set_ne (by omega)).trans (hA1_2 j (by omega)))⟩
 ·have hA1_0:=hI1.2.1;have hA1_1:=hI1.2.2.1;have hA1_2:=hI1.2.2.2;exact Qc <| su Qb [(60,.b false)] [] [] [] (pl 3 s1.2 (pe 4 (zC ((k1:Int)<(s1.2.length:Int))) p0)) <| ckF <| Xe <| Exists.intro (s1.1,s1.2) (And.intro (Yg [(147206,147356)] (by kernel_rfl)) ⟨Cq hk1 (rfl) hI1.1,by first|omega|(simp only[List.length_set];omega)⟩)
 have hD1_0:=hD1.2;exact sn Qb [6,7,8] [6] p0 <| Qk <| pz [] (show Xm s_ name kind=_ from Qy h3 (Ur hD0.1 (Ur hD1.1 (rfl)))) (λz=> .tup [(true, [.o 0 z.1.1,.o 1 z.1.2.1,.i z.1.2.2]),(false, [.o 2 z.2.1]),(false, [.b z.2.2])])
section
variable {α R S T:Type} {f:Nat->α->S->Rd R S T} {g:Nat->S->Rd R S T} {e e':Nat->S->T}
theorem YJ (I:Nat->S->Prop) (n:Nat) (he:∀k s,e k s=e' k s) (hf:∀k a s,k<n->I k s->f k a s=g k s) (hn:∀k a s,k<n->I k s->∃s',f k a s= .next s'/\I (k+1) s'):∀(l:List α) (k:Nat) (s:S),k+l.length=n->I k s->Xp f e l k s=Wb g e' l.length k s/\∃s',Xp f e l k s= .brk (e n s')/\I n s'
 | [],k,s,hk,hI=>by
   obtain rfl:k=n:=hk;exact ⟨by simp only[Xp,Wb,List.length_nil,he],s,rfl,hI⟩
 | a::l,k,s,hk,hI=>by
   have hlt:k<n:=by simp only[List.length_cons] at hk;omega
   obtain ⟨s',h1,h2⟩:=hn k a s hlt hI;have h3:=YJ I n he hf hn l (k+1) s' (by simp only[List.length_cons] at hk;omega) h2;have h4:=(hf k a s hlt hI).symm.trans h1;simp only[Xp,List.length_cons,Wb,h1,h4];exact h3
end
theorem Qf1 (s:X1):Xc s=s:=by
 unfold Xc;rw[Cr (f:=Dv) (e:=Dw) (g:=id) (λ_ _ _=>rfl),List.map_id];rfl
theorem YK {s:List Yd} (h:X7 s=true):∀f,f∈s->f.2≠0:=by
 intro f hf;obtain ⟨i,hi⟩:=List.getElem?_of_mem hf;unfold X7 at h;cases hl:Xp (Xz s) Zj s 0 () with
 | brk t=>
   have:=Ej (λk a t=>by unfold Xz;generalize (_|| _:Bool)=c;cases c<;>simp) hl i f hi;unfold Xz at this;intro e;rw[e] at this;simp at this
 | ret r=>
   rw[hl] at h;obtain rfl:r=true:=h;exfalso
   have key:∀(l:List Yd) k,Xp (Xz s) Zj l k ()≠ .ret true:=by
    intro l
    induction l with
    | nil=>intro k h;simp[Xp] at h
    | cons a l ih=>
      intro k h;simp only[Xp] at h;unfold Xz at h;split at h
      . rename_i hf;exact ih _ h
      . cases h
      rename_i r hf;cases h;revert hf;generalize (_|| _:Bool)=c;cases c<;>simp
   exact key _ _ hl
theorem WX (n:ByteArray):∀(l:List Yd) (k:Nat),(∀f,f∈l->f.2≠0)->(Out.on (Xp (Kt n) Hb l k ()) (λ_=>0)==0)= !(decide (ixF (λa=>Y9 a n) l>=0))
 | [],k,_=>rfl
 | a ::l,k,h=>by
   have hb:=G4 (λa=>Y9 a n) l;have ih:=WX n l (k+1) λf hf=>h f (List.mem_cons_of_mem _ hf)
   have ha:=h a (List.mem_cons_self ..);by_cases hc:(a.1.toList==n.toList)=true
   . have e1:Kt n k a ()= .ret a.2:=by unfold Kt;rw[hc];rfl
     have e2:ixF (λa=>Y9 a n) (a::l)=0:=by unfold ixF;rw[show Y9 a n=true from hc];rfl
     rw[e2];simp only[Xp,e1,Out.on];rw[beq_false_of_ne ha];rfl
   have hc:=Bool.eq_false_iff.2 hc;have e1:Kt n k a ()= .next ():=by unfold Kt;rw[hc];rfl
   have e2:ixF (λa=>Y9 a n) (a::l)=bif ixF (λa=>Y9 a n) l== -1 then-1 else ixF (λa=>Y9 a n) l+1:=by
    show (bif Y9 a n then (0:Int) else _)=_;rw[show Y9 a n=false from hc];rfl
   rw[e2];simp only[Xp,e1];rw[ih];generalize ixF (λa=>Y9 a n) l=z at hb;cases hx:(z== -1) with
   | true=>rw[(by simpa using hx:z= -1)];rfl
   | false=>
     have hne:z≠-1:=by simpa using hx
     rw[cond_false,decide_eq_true (show z>=0 by omega),decide_eq_true (show z+1>=0 by omega)]
theorem Mu {s:X1} (h:Q7 s=true):X7 s.1=true:=by
 unfold Q7 at h;cases hl:Xp (Yj s) Zt s.2.1 0 () with
 | brk t=>
   rw[hl] at h;simp only[Out.on,Bool.and_eq_true] at h;exact h.1
 | ret r=>
   rw[hl] at h;obtain rfl:r=true:=h;exfalso
   have key:∀(l:List Yh) k,Xp (Yj s) Zt l k ()≠ .ret true:=by
    intro l
    induction l with
    | nil=>intro k h;simp[Xp] at h
    | cons a l ih=>
      intro k h;simp only[Xp] at h;unfold Yj at h;split at h
      . rename_i hf;exact ih _ h
      . cases h
      rename_i r hf;cases h;revert hf;generalize (_|| _:Bool)=c;cases c<;>simp
   exact key _ _ hl
theorem TD {s:X1} (n:ByteArray) (k:Int):((!(Xj s))|| (((J5 s.1 n)==(0:Int))|| (!(Xi k 1 2))))=((!(Q7 s))|| ((!(Z5 s.1 n))|| ((k !=(1:Int))&&(k !=(2:Int))))):=by
 rw[Ix];cases hv:Q7 s with
 | false=>rfl
 | true=>
   have h1:=WX n s.1 0 (YK (Mu hv))
   have h2:Z5 s.1 n=decide (ixF (λa=>Y9 a n) s.1>=0):=by
    unfold Z5 Ys;rw[Vx]
   have h3:(!(Xi k 1 2))=((k !=1)&&(k !=2)):=by
    unfold Xi;rw[Bool.eq_iff_iff];simp;omega
   rw[h2,h3];unfold J5;rw[h1]
def cfI (K:Nat) (l:List Yh) (k:Nat) (s:List Int×List Yh):Prop:=s.1.length<=k/\(∀j,k<=j->s.2[j]? =l[j]?)/\s.2.length=l.length/\∀f,f∈s.2->GoD.size f<=K
theorem Qcm {α:Type} [GoD α] {l l':List α} (h:l'.Sublist l):GoD.size l'<=GoD.size l:=by
 induction h with
 | slnil=>exact Nat.le_refl _
 | cons a _ ih=>exact Nat.le_trans ih (by show _<=_+1+_;simp only[List.map_cons,List.sum_cons];show _+_<=_;omega)
 | cons_cons a _ ih=>
   have ih':_+_<=_+_:=ih;show _+_<=_+_;simp only[List.length_cons,List.map_cons,List.sum_cons];omega
theorem NJ {α:Type} [GoD α] (l:List α) (j:Nat) (y:α):GoD.size (I0 l j y)=GoD.size l+1+GoD.size y:=by
 have h1:l.length=(l.take j).length+(l.drop j).length:=by rw[←List.length_append,List.take_append_drop]
 have h2:(l.map GoD.size).sum=((l.take j).map GoD.size).sum+((l.drop j).map GoD.size).sum:=by rw[←List.sum_append,←List.map_append,List.take_append_drop]
 show _+_=(_+_)+1+_;unfold I0;simp only[List.length_append,List.map_append,List.sum_append,List.map_cons,List.map_nil,List.sum_cons,List.sum_nil,List.length_cons,List.length_nil];rw[h1,h2];simp only[List.length_take,List.length_drop];omega
theorem CC (f:Yh) (n:ByteArray) (v:Z4) (hp:List.length f.2.2.2.2<=1073741000):GoD.size (Xl f n v)<=GoD.size f+1+n.size+v.2.2.size:=by
 rw[Mo f n v hp];have h1:=Qcm (List.filter_sublist (p:=λa:Jl=> !(a.1.toList==n.toList)) (l:=f.2.2.2.2));have e:GoD.size f=0+(0+(0+(0+GoD.size f.2.2.2.2))):=rfl;have ey:GoD.size ((n,v):Jl)=n.size+(0+(0+v.2.2.size)):=rfl;generalize List.filter (λa:Jl=> !(a.1.toList==n.toList)) f.2.2.2.2=l at h1;show 0+(0+(0+(0+GoD.size (bif (v.1==(0:Int)) then l else I0 l _ (n,v)))))<=_;cases (v.1==(0:Int)) with
 | true=>rw[cond_true];omega
 | false=>rw[cond_false,NJ];omega
theorem TE (v:Z4) (k:Int):(Ut v k).1.2.2.size<=v.2.2.size+20:=by
 have hz:Rm.2.2.size<=v.2.2.size+20:=Nat.zero_le _;unfold Ut;split
 . exact hz
 split
 . exact Nat.le_add_right _ _
 split
 . show (Yt v.2.1).size<=_;unfold Yt;split
   . rename_i h;have:=F4 h;rw[Ve];omega
   exact Nat.zero_le _
 split
 . exact Nat.zero_le _
 exact hz
theorem Mv {α:Type} [GoD α] {K:Nat}:∀l:List α,(∀a,a∈l->GoD.size a<=K)->GoD.size l<=l.length*(K+1)
 | [],_=>Nat.zero_le _
 | a::l,h=>by
   have h1:l.length+(l.map GoD.size).sum<=l.length*(K+1):=Mv l λb hb=>h b (List.mem_cons_of_mem _ hb)
   have h2:=h a (List.mem_cons_self ..);show (a::l).length+((a::l).map GoD.size).sum<=_;rw[List.map_cons,List.sum_cons,List.length_cons,Nat.add_mul,Nat.one_mul];omega
theorem G8 {α:Type} [GoD α]:∀{l:List α} {a:α},a∈l->GoD.size a<=GoD.size l
 | b::l,a,h=>by
   show _<=(b::l).length+((b::l).map GoD.size).sum;rw[List.map_cons,List.sum_cons];rcases List.mem_cons.1 h with rfl | h
   . omega
   have:GoD.size a<=l.length+(l.map GoD.size).sum:=G8 h;rw[List.length_cons];omega
theorem CE (f:Yh) (n:ByteArray):(Qf f n).2.2.size<=GoD.size f:=by
 have key:∀(l:List Jl) (k:Nat),(Out.on (Xp (Wl n) Hi l k ()) (λ_=>((0,0,⟨#[]⟩):Z4))).2.2.size<=GoD.size l:=by
  intro l
  induction l with
  | nil=>intro k;exact Nat.zero_le _
  | cons a l ih=>
    intro k;simp only[Xp,Wl];have e:GoD.size (a::l)=(l.length+1)+((a.1.size+(0+(0+a.2.2.2.size)))+(l.map GoD.size).sum):=rfl;cases (a.1.toList==n.toList) with
    | true=>show a.2.2.2.size<=_;omega
    | false=>have h1:_<=l.length+(l.map GoD.size).sum:=ih (k+1);exact Nat.le_trans h1 (by omega)
 have e:GoD.size f=0+(0+(0+(0+GoD.size f.2.2.2.2))):=rfl;rw[e];simp only[Nat.zero_add];exact key f.2.2.2.2 0
theorem TF {K0:Nat} {l:List Yh} {n:ByteArray} (ha:∀f,f∈l->List.length f.2.2.2.2<=5) (hK:∀f,f∈l->GoD.size f<=K0) (k0:Int) {k:Nat} {a:Yh} {s:List Int×List Yh} (hk:k<l.length) (hI:cfI (2*K0+n.size+21) l k s):
 Zw n k0 k a s=Vk n k0 k s/\∃s',Zw n k0 k a s= .next s'/\cfI (2*K0+n.size+21) l (k+1) s':=by
 obtain ⟨h1,h2,h3,h4⟩:=hI;have hg:=Wr hk;have e:nth s.2 k=nth l k:=Gw ((h2 k (Nat.le_refl _)).trans hg);have hm:=List.mem_of_getElem? hg;have h5:List.length (nth s.2 k).2.2.2.2<=1073741000:=by rw[e];exact Nat.le_trans (ha _ hm) (by decide)
 have h6:GoD.size (nth s.2 k)<=K0:=by rw[e];exact hK _ hm
 have h7:=CC (nth s.2 k) n (Qd (Qf (nth s.2 k) n) k0).1 h5;have h8:(Qd (Qf (nth s.2 k) n) k0).1.2.2.size<=_:=TE (Qf (nth s.2 k) n) k0;have h9:=CE (nth s.2 k) n
 have hset:∀y,y∈List.set s.2 k (Xl (nth s.2 k) n (Qd (Qf (nth s.2 k) n) k0).1)->GoD.size y<=2*K0+n.size+21:=λy hy=>by
  rcases List.mem_or_eq_of_mem_set hy with hy | rfl
  . exact h4 y hy
  omega
 have hs:∀w,Y0 (nth s.2 k) n w=Xl (nth s.2 k) n w:=λw=>NG _ n w h5
 have eg:Qn (nth s.2 k) n=Qf (nth s.2 k) n:=rfl;have ec:∀x,Qj x k0=Qd x k0:=λ_=>rfl
 unfold Zw Vk;rw[eg,ec,hs];refine ⟨rfl, ?_⟩;cases ((Qf (nth s.2 k) n).1==(0:Int)) with
 | true=>exact ⟨_,rfl,Nat.le_succ_of_le h1,λj hj=>h2 j (by omega),h3,h4⟩
 | false=>
   rw[cond_false];cases (Qd (Qf (nth s.2 k) n) k0).2 with
   | true=>exact ⟨_,rfl,Nat.le_succ_of_le h1,λj hj=>(List.getElem?_set_ne (by omega)).trans (h2 j (by omega)),(List.length_set ..).trans h3,hset⟩
   | false=>exact ⟨_,rfl,by simp only[List.length_append,List.length_cons,List.length_nil];omega,λj hj=>(List.getElem?_set_ne (by omega)).trans (h2 j (by omega)),(List.length_set ..).trans h3,hset⟩
theorem EY (n:ByteArray) (k0:Int) {l:List Yd} {K:Nat} {k:Nat} {a:Yd} {s:List Yd} (hk:k<l.length) (hI:s.length=l.length/\∀f,f∈s->GoD.size f<=K):
 ∃s',Jn n k0 k a s= .next s'/\s'.length=l.length/\∀f,f∈s'->GoD.size f<=K:=by
 obtain ⟨h1,h2⟩:=hI;unfold Jn;cases (((nth s k).1).toList==n.toList) with
 | false=>exact ⟨_,rfl,h1,h2⟩
 | true=>
   refine ⟨_,rfl,(List.length_set ..).trans h1,λy hy=> ?_⟩;rcases List.mem_or_eq_of_mem_set hy with hy | rfl
   . exact h2 y hy
   exact h2 (nth s k) (List.mem_of_getElem? (Wr (by omega)))
theorem Oz (s:X1) (n:ByteArray) (k:Int):Xm s n k=Qm s n k/\(Qm s n k=(s, [],false)\/(Qm s n k).1.1.length<=5/\(∀f,f∈(Qm s n k).1.1->GoD.size f<=GoD.size s.1)/\(Qm s n k).1.2.1.length<=12/\(∀f,f∈(Qm s n k).1.2.1->GoD.size f<=2*GoD.size s.2.1+n.size+21)/\(Qm s n k).2.1.length<=12):=by
 unfold Xm Qm;rw[Qf1,D4,TD];cases hc:((!(Q7 s))|| ((!(Z5 s.1 n))|| ((k !=(1:Int))&&(k !=(2:Int))))) with
 | true=>exact ⟨rfl,.inl rfl⟩
 | false=>
   have hv:Q7 s=true:=by
    cases hv:Q7 s with
    | true=>rfl
    | false=>rw[hv] at hc;cases hc
   have h5:=EP (Mu hv);have h12:=EO hv
   obtain ⟨e1,y0,f1,g1,g2⟩:=YJ (f:=Jn n k) (g:=Ho n k) (e:=W2) (e':=Hp) (λ_ t=>t.length=s.1.length/\∀f,f∈t->GoD.size f<=GoD.size s.1) s.1.length (λ_ _=>rfl) (λ_ _ _ _ _=>rfl)
    (λj a t hj hI=>EY n k hj hI) s.1 0 s.1 (Nat.zero_add _) ⟨rfl,λf hf=>G8 hf⟩
   obtain ⟨e2,y1,f2,g3⟩:=YJ (f:=Zw n k) (g:=Vk n k) (e:=W3) (e':=Hq) (cfI (2*GoD.size s.2.1+n.size+21) s.2.1) s.2.1.length (λ_ _=>rfl)
    (λj a t hj hI=>(TF (λf hf=>F2 hv hf) (λf hf=>G8 hf) k hj hI).1)
    (λj a t hj hI=>(TF (λf hf=>F2 hv hf) (λf hf=>G8 hf) k hj hI).2) s.2.1 0 ([],s.2.1) (Nat.zero_add _)
    ⟨Nat.le_refl _,λ_ _=>rfl,rfl,λf hf=>Nat.le_trans (G8 (l:=s.2.1) hf) (by omega)⟩
   obtain ⟨g3,-,g4,g5⟩:=g3;simp only[cond_false];rw[←e1,←e2,f1,f2];exact ⟨rfl,.inr ⟨Nat.le_trans (Nat.le_of_eq g1) h5,g2,Nat.le_trans (Nat.le_of_eq g4) h12,g5,Nat.le_trans g3 h12⟩⟩
theorem WY (s:X1) (n:ByteArray) (k:Int):Xm s n k=Qm s n k:=(Oz s n k).1
theorem Qcn (s:X1) (n:ByteArray) (k:Int):GoD.size (Qm s n k).2.1<=1073741824:=by
 have:(Qm s n k).2.1.length<=12:=by
  rcases (Oz s n k).2 with e | ⟨-,-,-,-,h⟩
  . rw[e];exact Nat.zero_le _
  exact h
 rw[JK (λ_=>rfl)];omega
end
section
open Go.RowKit
theorem YL {α R S T:Type} {f:Nat->α->S->Rd R S T} {e:Nat->S->T} (I:Nat->S->Prop):∀(l:List α) (k:Nat) (s:S),(∀i a s,l[i]? =some a->I (k+i) s->∃s',f (k+i) a s= .next s'/\I (k+i+1) s')->I k s->∃s',Xp f e l k s= .brk (e (k+l.length) s')/\I (k+l.length) s'
 | [],k,s,_,hI=>⟨s,rfl,hI⟩
 | a ::l,k,s,h,hI=>by
   obtain ⟨s',h1,h2⟩:=h 0 a s rfl hI
   obtain ⟨s2,h3,h4⟩:=YL I l (k+1) s' (λi b t hb ht=>by
    have:=h (i+1) b t (by simpa using hb) (by rwa [show k+(i+1)=k+1+i by omega])
    rwa [show k+(i+1)=k+1+i by omega] at this) h2
   refine ⟨s2, ?_, ?_⟩
   . simp only[Xp];rw[show f k a s= .next s' from h1];rw[show k+(a::l).length=k+1+l.length by rw[List.length_cons];omega];exact h3
   rwa [show k+(a::l).length=k+1+l.length by rw[List.length_cons];omega]
def Qco {α:Type} (l:List α) (h:α->α) (k:Nat) (t:List α):Prop:=t.length=l.length/\∀j,t[j]? =if j<k then (l[j]?).map h else l[j]?
section
variable {α:Type} {l t:List α} {h:α->α} {k:Nat} {a:α}
theorem LE [Inhabited α] (ha:l[k]? =some a) (hI:Qco l h k t):nth t k=a:=Gw (by rw[hI.2 k,if_neg (Nat.lt_irrefl k),ha])
theorem LF (ha:l[k]? =some a) (hI:Qco l h k t):Qco l h (k+1) (t.set k (h a)):=by
 have hk:=(List.getElem?_eq_some_iff.1 ha).1;refine ⟨by rw[List.length_set];exact hI.1,λj=> ?_⟩;by_cases e:k=j
 . subst e;rw[List.getElem?_set_self (by rw[hI.1];exact hk),if_pos (Nat.lt_succ_self k),ha];rfl
 rw[List.getElem?_set_ne e,hI.2 j];by_cases h1:j<k
 . rw[if_pos h1,if_pos (by omega)]
 rw[if_neg h1,if_neg (by omega)]
theorem TG (ha:l[k]? =some a) (he:h a=a) (hI:Qco l h k t):Qco l h (k+1) t:=by
 refine ⟨hI.1,λj=> ?_⟩;rw[hI.2 j];by_cases h1:j<k
 . rw[if_pos h1,if_pos (by omega)]
 rw[if_neg h1];by_cases h2:j=k
 . subst h2;rw[if_pos (Nat.lt_succ_self j),ha,Option.map_some,he]
 rw[if_neg (by omega)]
theorem LG (hI:Qco l h l.length t):t=l.map h:=by
 apply List.ext_getElem?;intro j;rw[hI.2 j,List.getElem?_map];split
 . rfl
 rw[List.getElem?_eq_none (by omega)];rfl
theorem KE:Qco l h 0 l:=⟨rfl,λj=>by rw[if_neg (Nat.not_lt_zero j)]⟩
end
noncomputable def cfV (n:ByteArray) (k:Int) (a:Yh):Z4:=(Qd (Qf a n) k).1
noncomputable def cfF (n:ByteArray) (k:Int) (a:Yh):Yh:=bif (Qf a n).1==(0:Int) then a else Xl a n (cfV n k a)
def cfS (n:ByteArray) (k:Int) (f:Yd):Yd:=bif f.1.toList==n.toList then (f.1,k) else f
theorem TH {s:X1} {n:ByteArray} {k:Int} (h:(Qm s n k).2.2=true):Q7 s=true/\Z5 s.1 n=true/\(k=1\/k=2)/\(Qm s n k).1=(s.1.map (cfS n k),s.2.1.map (cfF n k),s.2.2):=by
 unfold Qm at h⊢;rw[D4] at h⊢;cases hc:((!(Q7 s))|| ((!(Z5 s.1 n))|| ((k !=(1:Int))&&(k !=(2:Int))))) with
 | true=>rw[hc] at h;cases h
 | false=>
   simp only[Bool.or_eq_false_iff,Bool.not_eq_false',Bool.and_eq_false_iff,bne_eq_false_iff_eq] at hc;refine ⟨hc.1,hc.2.1,hc.2.2, ?_⟩
   obtain ⟨t,h1,h2⟩:=YL (f:=Jn n k) (e:=W2) (Qco s.1 (cfS n k)) s.1 0 s.1 (λi a t hi hI=>by
    rw[Nat.zero_add] at hI⊢;unfold Jn;rw[LE hi hI];cases hb:(a.1.toList==n.toList) with
    | true=>
      have:=LF hi hI;unfold cfS at this;rw[hb] at this;exact ⟨_,rfl,this⟩
    | false=>exact ⟨_,rfl,TG hi (by unfold cfS;rw[hb];rfl) hI⟩) KE
   obtain ⟨u,h3,h4⟩:=YL (f:=Zw n k) (e:=W3) (λi (t:List Int×List Yh)=>Qco s.2.1 (cfF n k) i t.2) s.2.1 0 ([],s.2.1) (λi a t hi hI=>by
    rw[Nat.zero_add] at hI⊢;unfold Zw;rw[LE hi hI];have h5:=LF hi hI;unfold cfF cfV at h5;cases hb:((Qf a n).1==(0:Int)) with
    | true=>exact ⟨_,rfl,TG hi (by unfold cfF;rw[hb];rfl) hI⟩
    | false=>
      rw[hb] at h5;rw[cond_false];cases (Qd (Qf a n) k).2 with
      | true=>exact ⟨_,rfl,h5⟩
      | false=>exact ⟨_,rfl,h5⟩) KE
   rw[Nat.zero_add] at h1 h2 h3 h4;rw[cond_false,h1];simp only[Out.on];rw[h3];show (_,u.2,_)=_;rw[LG h4];show (t,_,_)=_;rw[LG h2]
structure VF (s:List Yd) (l:List Jl):Prop where
 asc:UK (l.map (·.1))
 mt:∀a,a∈l->Xx s a.1 a.2=true
theorem Qcp {s:List Yd} {f:Yh} (h:Yq s f=true):VF s f.2.2.2.2/\X9 f.1 1 60=true/\Ca f.2.1=true/\X9 f.2.2.2.1 0 60=true:=by
 obtain ⟨⟨t,hl⟩,hs⟩:=BM h
 have hat:∀i a,f.2.2.2.2[i]? =some a->(0<i->bl (nth f.2.2.2.2 (i-1)).1 a.1=true)/\Xx s a.1 a.2=true:=λi a hi=>by
  have:=Ej (λk a t=>by unfold Y2;generalize (bif decide (((k:Nat):Int)>(0:Int)) then _ else _:Bool)=c;cases c<;>simp) hl i a hi;rw[Nat.zero_add] at this;unfold Y2 at this;cases hm:Xx s a.1 a.2 with
  | false=>rw[hm] at this;simp at this
  | true=>
    refine ⟨λh0=> ?_,rfl⟩;rw[hm,decide_eq_true (show ((i:Nat):Int)>0 by omega)] at this;simp only[cond_true,Bool.not_true,Bool.or_false] at this;rw[show Int.toNat (((i:Nat):Int)-1)=i-1 by omega] at this;cases hb:bl (nth f.2.2.2.2 (i-1)).1 a.1 with
    | true=>rfl
    | false=>
      unfold bl at hb;rw[hb] at this;simp at this
 have hasc:UK (f.2.2.2.2.map (·.1)):=IZ λi hi=>by
  rw[List.length_map] at hi;have:=(hat (i+1) _ (Wr hi)).1 (by omega);have e:∀j,j<f.2.2.2.2.length->nth (f.2.2.2.2.map (·.1)) j=(nth f.2.2.2.2 j).1:=λj hj=>by simp[nth,List.getD,hj]
  rw[e i (by omega),e (i+1) hi];exact this
 have h':=h;unfold Yq at h';rw[hl] at h';simp only[Out.on,Bool.and_eq_true] at h'
 exact ⟨⟨hasc,λa ha=>by
  obtain ⟨i,hi⟩:=List.getElem?_of_mem ha;exact (hat i a hi).2⟩,h'.1,h'.2.1,h'.2.2.1⟩
theorem LH {s:List Yd} {f:Yh} (h:VF s f.2.2.2.2) (h1:X9 f.1 1 60=true) (h2:Ca f.2.1=true) (h3:X9 f.2.2.2.1 0 60=true) (h4:X7 s=true):Yq s f=true:=by
 unfold Yq;rw[Ir (l:=f.2.2.2.2) (k:=0) (λi a hi=> ?_)]
 . simp only[Out.on,h1,h2,h3,h4,Bool.and_self]
 have hm:=h.mt a (List.mem_of_getElem? hi);unfold Y2;rw[hm,Nat.zero_add];by_cases hp:0<i
 . rw[decide_eq_true (show ((i:Nat):Int)>0 by omega),show Int.toNat (((i:Nat):Int)-1)=i-1 by omega];have hk:=(List.getElem?_eq_some_iff.1 hi).1
   have hb:bl (nth f.2.2.2.2 (i-1)).1 a.1=true:=by
    have hpw:=List.pairwise_iff_getElem.1 h.asc (i-1) i (by rw[List.length_map];omega) (by rw[List.length_map];omega) (by omega);have e1:nth f.2.2.2.2 (i-1)=f.2.2.2.2[i-1]:=Gw (List.getElem?_eq_getElem (by omega));have e2:a=f.2.2.2.2[i]:=(Option.some.inj ((List.getElem?_eq_getElem hk).symm.trans hi)).symm;rw[e1,e2];simpa using hpw
   unfold bl at hb;rw[hb];rfl
 rw[decide_eq_false (show¬((i:Nat):Int)>0 by omega)];rfl
theorem TJ (n:ByteArray):∀(l:List Jl) (k:Nat),(∀a,a∈l->a.2.1≠0)->((Out.on (Xp (Wl n) Hi l k ()) (λ_=>((0,0,⟨#[]⟩):Z4))).1=0/\∀a,a∈l->a.1≠n)\/(n,Out.on (Xp (Wl n) Hi l k ()) (λ_=>((0,0,⟨#[]⟩):Z4)))∈l
 | [],_,_=> .inl ⟨rfl,λa ha=>by simp at ha⟩
 | a :: l,k,h=>by
   simp only[Xp,Wl];cases hc:(a.1.toList==n.toList) with
   | true=>
     rw[toList_inj] at hc;have e:a.1=n:=of_decide_eq_true hc;exact .inr (List.mem_cons.2 (.inl (by rw[←e];rfl)))
   | false=>
     simp only[cond_false];rcases TJ n l (k+1) λb hb=>h b (List.mem_cons_of_mem _ hb) with ⟨h1,h2⟩ | h1
     . refine .inl ⟨h1,λb hb=> ?_⟩;rcases List.mem_cons.1 hb with rfl | hb
       . intro e;rw[toList_inj,decide_eq_true e] at hc;cases hc
       exact h2 b hb
     exact .inr (List.mem_cons_of_mem _ h1)
theorem Qd6 (n m:ByteArray) (kd:Int):∀(l:List Yd) (k:Nat),Out.on (Xp (Vh m) W5 (l.map (cfS n kd)) k ()) (λ_=>0)=if m=n/\n∈l.map (·.1) then kd else Out.on (Xp (Vh m) W5 l k ()) (λ_=>0)
 | [],k=>by rw[if_neg (by simp)];rfl
 | a :: l,k=>by
   have ih:=Qd6 n m kd l (k+1);have e1:(cfS n kd a).1=a.1:=by unfold cfS;cases (a.1.toList==n.toList)<;>rfl
   simp only[List.map_cons,Xp,Vh,e1];cases hm:(a.1.toList==m.toList) with
   | true=>
     rw[toList_inj] at hm;have em:a.1=m:=of_decide_eq_true hm;simp only[cond_true,Out.on];by_cases hn:m=n
     . rw[if_pos ⟨hn,by rw[em,hn];exact List.mem_cons_self ..⟩];unfold cfS;rw[toList_inj,decide_eq_true (em.trans hn)];rfl
     rw[if_neg (λh=>hn h.1)];unfold cfS;rw[toList_inj,decide_eq_false (λh=>hn (em.symm.trans h))];rfl
   | false=>
     simp only[cond_false];rw[ih];have hne:a.1≠m:=λe=>by rw[toList_inj,decide_eq_true e] at hm;cases hm
     by_cases hn:m=n
     . have:n∈a.1::l.map (·.1)↔n∈l.map (·.1):=by
        rw[List.mem_cons];exact ⟨λh=>h.resolve_left λe=>hne (e.symm.trans hn.symm),.inr⟩
       by_cases hmem:n∈l.map (·.1)
       . rw[if_pos ⟨hn,hmem⟩,if_pos ⟨hn,this.2 hmem⟩]
       rw[if_neg (λh=>hmem h.2),if_neg (λh=>hmem (this.1 h.2))]
     rw[if_neg (λh=>hn h.1),if_neg (λh=>hn h.1)]
theorem Qcq {s:List Yd} {n:ByteArray} (hs:X7 s=true) (h:Z5 s n=true):n∈s.map (·.1):=by
 have h1:=WX n s 0 (YK hs)
 have h2:Z5 s n=decide (ixF (λa=>Y9 a n) s>=0):=by
  unfold Z5 Ys;rw[Vx]
 rw[←h2,h] at h1
 exact SO n s 0 λe=>by
  have e':Out.on (Xp (Kt n) Hb s 0 ()) (λ_=>(0:Int))=0:=e;rw[e'] at h1;cases h1
theorem LI {s:List Yd} {n:ByteArray} {k:Int} (hn:n∈s.map (·.1)) (m:ByteArray) (v:Z4):Xx (s.map (cfS n k)) m v=if m=n then (Za v&&((v.1 !=(0:Int))&&(v.1==k))) else Xx s m v:=by
 unfold Xx Ak;rw[Qd6];by_cases e:m=n
 . rw[if_pos ⟨e,hn⟩,if_pos e]
 rw[if_neg (λh=>e h.1),if_neg e]
theorem Qf2 {s:ByteArray} {n:Nat} (h:WU s=some n):n<=999:=TB h
theorem EZ (n:Nat):0<(Z9 (n:Int)).size:=by
 rw[I4];show 0<(Lib.decDigits n).toArray.size;rw[List.size_toArray,Lib.decDigits];split<;>simp
theorem WZ {n:Nat} (h:n<=999):Yo (Yt (n:Int))=true:=by
 have h1:=KD h;have h2:0<(Yt (n:Int)).size:=by rw[Nf h,Ve];exact EZ n
 have h3:=Mr h rfl;generalize Yt (n:Int)=s at h1 h2 h3
 have hall:∀(j k:Nat),k+j=s.size->Wb (Wc s) Uu j k ()= .brk ():=by
  intro j
  induction j with
  | zero=>intro k _;rfl
  | succ j ih=>
    intro k hk;have hlt:k<s.size:=by omega
    have e:H3 s ((k:Nat):Int)=(s[k].toNat:Int):=by
     unfold H3;rw[Int.toNat_natCast]
     have:s.data.toList[k]? =some s[k]:=by
      rw[Array.getElem?_toList];exact Array.getElem?_eq_getElem hlt
     rw[List.getD_eq_getElem?_getD,this];rfl
    have h4:=h3 k hlt;simp only[Wb];unfold Wc;rw[e,decide_eq_false (show¬((s[k].toNat:Int)<97) by omega),decide_eq_false (show¬((s[k].toNat:Int)>122) by omega)];exact ih (k+1) (by omega)
 unfold Yo;rw[show Int.toNat (s.size:Int)=s.size from rfl,hall s.size 0 (by omega)];show X9 (s.size:Int) 1 6=true;unfold X9;rw[decide_eq_true (show (1:Int)<=s.size by omega),decide_eq_true (show (s.size:Int)<=6 by omega)];rfl
theorem NK {v:Z4} {k:Int} (hv:Za v=true):(Ut v k).1.1=0\/(Za (Ut v k).1=true/\(Ut v k).1.1=k):=by
 unfold Ut;split
 . exact .inl rfl
 rename_i h0;simp only[not_or] at h0;split
 . rename_i h;exact .inr ⟨hv,h⟩
 rename_i h1;split
 . rename_i h2
   have hk:v.1=1/\0<=v.2.1/\v.2.1<=999:=by
    unfold Za at hv;have e0:(v.1==(0:Int))=false:=beq_eq_false_iff_ne.2 h0.2.1;have e2:(v.1==(2:Int))=false:=beq_eq_false_iff_ne.2 (λe=>h1 (e.trans h2.symm));rw[e0,e2] at hv;cases e1:(v.1==(1:Int)) with
    | false=>rw[e1] at hv;cases hv
    | true=>
      rw[e1] at hv;simp only[cond_false,cond_true,Bool.and_eq_true] at hv;have:=hv.1;unfold X9 at this;simp only[Bool.and_eq_true,decide_eq_true_eq] at this;exact ⟨by simpa using e1,this⟩
   refine .inr ⟨?_,h2.symm⟩;obtain ⟨m,hm⟩:∃m:Nat,v.2.1=(m:Int):=⟨v.2.1.toNat,by omega⟩;have:=WZ (n:=m) (by omega);rw[←hm] at this;show (bif ((2:Int)==0) then _ else bif ((2:Int)==1) then _ else bif ((2:Int)==2) then (Yo (Yt v.2.1)&&((0:Int)==0)) else false)=true;rw[this];rfl
 rename_i h2;split
 . rename_i n hn;have hle:=Qf2 hn
   have hk:k=1:=by
    have:=h0.2.2;unfold inR at this;simp at this;omega
   refine .inr ⟨?_,hk.symm⟩;show (bif ((1:Int)==0) then _ else bif ((1:Int)==1) then (X9 (n:Int) 0 999&&((⟨#[]⟩:ByteArray).toList==(⟨#[]⟩:ByteArray).toList)) else _)=true;unfold X9;rw[decide_eq_true (show (0:Int)<=n by omega),decide_eq_true (show (n:Int)<=999 by omega)];simp
 exact .inl rfl
def YM (n:ByteArray) (l:List Jl):Nat:=bif (ixF (λa=>Xk a n) l== -1) then l.length else Int.toNat (ixF (λa=>Xk a n) l)
theorem NL (n:ByteArray):YM n []=0:=rfl
theorem FA (n:ByteArray) (a:Jl) (l:List Jl):YM n (a::l)=bif Xk a n then 0 else YM n l+1:=by
 unfold YM;have hb:=G4 (λa=>Xk a n) l;simp only[ixF];cases Xk a n with
 | true=>rfl
 | false=>
   simp only[cond_false];cases hx:(ixF (λa=>Xk a n) l== -1) with
   | true=>rfl
   | false=>
     have hne:ixF (λa=>Xk a n) l≠-1:=by simpa using hx
     simp only[cond_false];rw[show (ixF (λa=>Xk a n) l+1== -1)=false by simp;omega,cond_false];omega
theorem Qi3 {a:Jl} {n:ByteArray} (h:a.1≠n):Xk a n=bl n a.1:=by
 unfold Xk;rw[toList_inj,decide_eq_false h,Bool.or_false];show (!(bl a.1 n))=_;cases hb:bl a.1 n with
 | true=>
   cases hc:bl n a.1 with
   | true=>have:=Pw hb hc;rw[RK] at this;cases this
   | false=>rfl
 | false=>rw[RL hb h.symm];rfl
theorem TL (n:ByteArray) (v:Z4):∀l:List Jl,UK (l.map (·.1))->(∀a,a∈l->a.1≠n)->UK ((I0 l (YM n l) (n,v)).map (·.1))/\∀x,x∈I0 l (YM n l) (n,v)->x=(n,v)\/x∈l
 | [],_,_=>⟨List.pairwise_singleton _ _,λx hx=> .inl (by simpa [I0,NL] using hx)⟩
 | a :: l,h,hn=>by
   rw[FA,Qi3 (hn a (List.mem_cons_self ..))];have h':(∀x,x∈l.map (·.1)->bl a.1 x=true)/\UK (l.map (·.1)):=List.pairwise_cons.1 h;cases hb:bl n a.1 with
   | true=>
     refine ⟨List.pairwise_cons.2 ⟨λx hx=> ?_,h⟩,λx hx=>List.mem_cons.1 hx⟩;have hx:x∈(a::l).map (·.1):=hx;rcases List.mem_cons.1 hx with rfl | hx
     . exact hb
     exact Pw hb (h'.1 x hx)
   | false=>
     obtain ⟨h1,h2⟩:=TL n v l h'.2 λb hm=>hn b (List.mem_cons_of_mem _ hm)
     have han:bl a.1 n=true:=RL hb (hn a (List.mem_cons_self ..));refine ⟨List.pairwise_cons.2 ⟨λx hx=> ?_,h1⟩,λx hx=> ?_⟩
     . obtain ⟨y,hy,rfl⟩:=List.mem_map.1 hx;rcases h2 y hy with rfl | hy
       . exact han
       exact h'.1 _ (List.mem_map_of_mem hy)
     rcases List.mem_cons.1 hx with rfl | hx
     . exact .inr (List.mem_cons_self ..)
     exact (h2 x hx).imp id λh=>List.mem_cons_of_mem _ h
theorem FB {s:List Yd} {n:ByteArray} {k:Int} (hn:n∈s.map (·.1)) {f:Yh} (h:Yq s f=true) (hs:X7 (s.map (cfS n k))=true):Yq (s.map (cfS n k)) (cfF n k f)=true/\(cfF n k f).1=f.1:=by
 obtain ⟨hv,w1,w2,w3⟩:=Qcp h;have hlen:=XX h
 have hkind:∀a,a∈f.2.2.2.2->a.2.1≠0:=λa ha=>by
  have:=hv.mt a ha;unfold Xx at this;simp only[Bool.and_eq_true,bne_iff_ne] at this;exact this.2.1
 have hsub:∀{l:List Jl},(∀a,a∈l->a∈f.2.2.2.2/\a.1≠n)->∀a,a∈l->Xx (s.map (cfS n k)) a.1 a.2=true:=λhl a ha=>by
  rw[LI hn,if_neg (hl a ha).2];exact hv.mt a (hl a ha).1
 unfold cfF;cases hz:((Qf f n).1==(0:Int)) with
 | true=>
   refine ⟨LH ⟨hv.asc,hsub λa ha=>⟨ha, ?_⟩⟩ w1 w2 w3 hs,rfl⟩;rcases TJ n f.2.2.2.2 0 hkind with ⟨_,h2⟩ | h1
   . exact h2 a ha
   have hz:(Qf f n).1=0:=by simpa using hz
   exact absurd hz (hkind _ h1)
 | false=>
   have hz:(Qf f n).1≠0:=by simpa using hz
   have hmem:(n,Qf f n)∈f.2.2.2.2:=(TJ n f.2.2.2.2 0 hkind).resolve_left λh=>hz h.1
   have hval:Za (Qf f n)=true:=by
    have:=hv.mt _ hmem;unfold Xx at this;simp only[Bool.and_eq_true] at this;exact this.1
   have hc:(cfV n k f).1=0\/(Za (cfV n k f)=true/\(cfV n k f).1=k):=NK hval;simp only[cond_false];rw[Mo f n (cfV n k f) (Nat.le_trans hlen (by decide))];refine ⟨LH ?_ w1 w2 w3 hs,rfl⟩
   have hfm:∀a,a∈f.2.2.2.2.filter (λa=> !(a.1.toList==n.toList))->a∈f.2.2.2.2/\a.1≠n:=λa ha=>by
    obtain ⟨h1,h2⟩:=List.mem_filter.1 ha;refine ⟨h1,λe=> ?_⟩;rw[toList_inj,decide_eq_true e] at h2;cases h2
   have hfa:UK ((f.2.2.2.2.filter (λa=> !(a.1.toList==n.toList))).map (·.1)):=List.Pairwise.sublist (List.filter_sublist.map _) hv.asc;generalize f.2.2.2.2.filter (λa=> !(a.1.toList==n.toList))=l at hfm hfa;show VF _ (bif ((cfV n k f).1==(0:Int)) then l else I0 l (YM n l) (n,cfV n k f));cases hb:((cfV n k f).1==(0:Int)) with
   | true=>exact ⟨hfa,hsub hfm⟩
   | false=>
     have hb:(cfV n k f).1≠0:=by simpa using hb
     obtain ⟨c1,c2⟩:=hc.resolve_left hb;obtain ⟨p1,p2⟩:=TL n (cfV n k f) l hfa λa ha=>(hfm a ha).2
     refine ⟨p1,λa ha=> ?_⟩;rcases p2 a ha with rfl | ha
     . rw[LI hn,if_pos rfl,c1,c2];simp only[Bool.true_and,Bool.and_eq_true,bne_iff_ne,beq_self_eq_true,and_true];exact λe=>hb (c2.trans e)
     exact hsub hfm a ha
theorem TM {s:List Yd} {n:ByteArray} {k:Int} (hk:k=1\/k=2) (h:X7 s=true):X7 (s.map (cfS n k))=true:=by
 have e1:∀a:Yd,(cfS n k a).1=a.1:=λa=>by unfold cfS;cases (a.1.toList==n.toList)<;>rfl
 have e2:∀a:Yd,(cfS n k a).2=k\/(cfS n k a).2=a.2:=λa=>by unfold cfS;cases (a.1.toList==n.toList)<;>first | exact .inl rfl | exact .inr rfl
 have h5:=EP h;unfold X7 at h⊢;cases hl:Xp (Xz s) Zj s 0 () with
 | brk t =>
   rw[Ir (l:=s.map (cfS n k)) (k:=0) (λi a hi=> ?_)]
   . simp only[Out.on,List.length_map];exact decide_eq_true (by omega)
   rw[List.getElem?_map] at hi;obtain ⟨b,hb,rfl⟩:=Option.map_eq_some_iff.1 hi;have hk':=(List.getElem?_eq_some_iff.1 hb).1;have:=Ej (λk a t=>by unfold Xz;generalize (_|| _:Bool)=c;cases c<;>simp) hl i b hb;rw[Nat.zero_add] at this⊢;unfold Xz at this⊢
   have hn:0<i->(nth (s.map (cfS n k)) (Int.toNat (((i:Nat):Int)-1))).1=(nth s (Int.toNat (((i:Nat):Int)-1))).1:=λh0=>by
    rw[show Int.toNat (((i:Nat):Int)-1)=i-1 by omega];have hi1:i-1<s.length:=by omega
    have:nth (s.map (cfS n k)) (i-1)=cfS n k (nth s (i-1)):=Gw (by rw[List.getElem?_map,Wr hi1];rfl);rw[this,e1]
   have hpre:(decide (((i:Nat):Int)>(0:Int))&&(!(Op.bytesLess ((nth (s.map (cfS n k)) (Int.toNat (((i:Nat):Int)-1))).1).toList (cfS n k b).1.toList)))=(decide (((i:Nat):Int)>(0:Int))&&(!(Op.bytesLess ((nth s (Int.toNat (((i:Nat):Int)-1))).1).toList b.1.toList))):=by
    rw[e1];by_cases h0:0<i
    . rw[hn h0]
    rw[decide_eq_false (show¬((i:Nat):Int)>0 by omega)];rfl
   rw[hpre,e1];generalize (decide (((i:Nat):Int)>(0:Int))&&(!(Op.bytesLess ((nth s (Int.toNat (((i:Nat):Int)-1))).1).toList b.1.toList)))=c at this⊢;cases hnm:Yi b.1 with
   | false=>rw[hnm] at this;simp at this
   | true=>
     rw[hnm] at this
     have key:c=false/\(b.2=1\/b.2=2):=by
      by_cases h1:b.2=1
      . rw[h1] at this;cases c with
        | true=>simp at this
        | false=>exact ⟨rfl,.inl h1⟩
      by_cases h2:b.2=2
      . rw[h2] at this;cases c with
        | true=>simp at this
        | false=>exact ⟨rfl,.inr h2⟩
      have a1:(b.2 !=(1:Int))=true:=bne_iff_ne.2 h1;have a2:(b.2 !=(2:Int))=true:=bne_iff_ne.2 h2;rw[a1,a2] at this;simp at this
     have hkk:(cfS n k b).2=1\/(cfS n k b).2=2:=by
      rcases e2 b with e | e<;>rw[e]
      . exact hk
      exact key.2
     rw[key.1];rcases hkk with e | e<;>rw[e]<;>rfl
 | ret r=>
   rw[hl] at h;obtain rfl:r=true:=h;exfalso
   have key:∀(l:List Yd) k,Xp (Xz s) Zj l k ()≠ .ret true:=by
    intro l
    induction l with
    | nil=>intro k h;simp[Xp] at h
    | cons a l ih=>
      intro k h;simp only[Xp] at h;unfold Xz at h;split at h
      . rename_i hf;exact ih _ h
      . cases h
      rename_i r hf;cases h;revert hf;generalize (_|| _:Bool)=c;cases c<;>simp
   exact key _ _ hl
theorem UA {s:X1} {n:ByteArray} {k:Int} (h:(Qm s n k).2.2=true):Q7 (Qm s n k).1=true:=by
 obtain ⟨hv,hf,hk,e⟩:=TH h;rw[e];have hsch:=Mu hv;have hn:=Qcq hsch hf;have hsch':=TM (n:=n) hk hsch;have hvs:=Qig ((Ix s).trans hv);rw[←Ix];refine Qcf ⟨(XN _).trans hsch',by show (s.2.1.map (cfF n k)).length<=12;rw[List.length_map];exact hvs.len,hvs.nx1,hvs.nx2,λi a hi=> ?_,λi a b ha hb=> ?_⟩
 . have hi:(s.2.1.map (cfF n k))[i]? =some a:=hi;rw[List.getElem?_map] at hi;obtain ⟨b,hb,rfl⟩:=Option.map_eq_some_iff.1 hi;obtain ⟨h1,h2⟩:=hvs.file i b hb;obtain ⟨g1,g2⟩:=FB (k:=k) hn ((XO _ _).symm.trans h1) hsch';exact ⟨(XO _ _).trans g1,by show (cfF n k b).1<s.2.2;rw[g2];exact h2⟩
 have ha:(s.2.1.map (cfF n k))[i]? =some a:=ha;have hb:(s.2.1.map (cfF n k))[i+1]? =some b:=hb;rw[List.getElem?_map] at ha hb;obtain ⟨a',ha',rfl⟩:=Option.map_eq_some_iff.1 ha;obtain ⟨b',hb',rfl⟩:=Option.map_eq_some_iff.1 hb;have g1:=(FB (k:=k) hn ((XO _ _).symm.trans (hvs.file i a' ha').1) hsch').2;have g2:=(FB (k:=k) hn ((XO _ _).symm.trans (hvs.file (i+1) b' hb').1) hsch').2;rw[g1,g2];exact hvs.asc i a' b' ha' hb'
open GoE (enc wide)
noncomputable def Qa (c : Yb) (name : ByteArray) (kind : Int) : Yb × (List Cs) × (List Int) × Bool := (bif ((!(((Qm c.1 name kind)).2.2)) || (!(Zi c))) then ((Kp c), [], [], false) else ((((Jq c (((Qm c.1 name kind)).1) c.2.1 (Yn c.2.1))).1), ((Jq c (((Qm c.1 name kind)).1) c.2.1 (Yn c.2.1))).2.1, ((Qm c.1 name kind)).2.1, ((Jq c (((Qm c.1 name kind)).1) c.2.1 (Yn c.2.1))).2.2))
theorem H1 (c : Yb) (name : ByteArray) (kind : Int) : ACalls Tryz.prog 7 [.a [.h c.1.1,.h c.1.2.1,.i c.1.2.2,.h c.2.1,.h c.2.2],.s name,.i kind] (.tup [(true, [.o 0 ((((Qa c name kind)).1).1.1),.o 1 ((((Qa c name kind)).1).1.2.1),.i ((((Qa c name kind)).1).1.2.2),.o 2 ((((Qa c name kind)).1).2.1),.o 3 ((((Qa c name kind)).1).2.2)]), (false, [.o 4 (((Qa c name kind)).2.1)]), (false, [.o 5 (((Qa c name kind)).2.2.1)]), (false, [.b (((Qa c name kind)).2.2.2)])]) := by
 refine en Qb Tryz.func7 λw0 F0 hG => ?_
 refine sn Qb [1, 2, 3, 6, 7, 8, 9] [3, 6] p0 ?_
 refine tn Qb [3, 6, 7, 8, 9, 10, 11, 12] [3, 6, 10] (pc 4 (Ms c.1 name kind) p0) ?_
 refine Qc ?_
 refine Qc ?_
 refine mz [(3,.p 3 0), (6,.p 6 0), (7,.e 0), (8,.e 0), (9,.b false), (10,.p 10 0), (11,.o 1282 (((Qm c.1 name kind)).2.1)), (12,.b (((Qm c.1 name kind)).2.2))] [0, 1, 2] [(3, [.h c.1.1,.h c.1.2.1,.i c.1.2.2,.h c.2.1,.h c.2.2]), (6, [.e 2,.e 5,.i 0,.e 2,.e 2]), (10, [.o 1280 ((((Qm c.1 name kind)).1).1),.o 1281 ((((Qm c.1 name kind)).1).2.1),.i ((((Qm c.1 name kind)).1).2.2)])] [] ?_
 refine jn [(30,.b ((!(((Qm c.1 name kind)).2.2)) || (!(Zi c))))] [] [] [] (!(((Qm c.1 name kind)).2.2)) (λh1 => ?_) (λh1 => ?_) ?_
 ·have h1n : (((Qm c.1 name kind)).2.2) = false := Ht h1
  refine ru Qb [(30,.b true)] [] [] [] (pf 0 h1n (pe 1 (show .b (!false) = .b true from rfl) p0)) ?_
  exact ⟨rfl, Qh (by rw [h1] <;> kernel_rfl)⟩
 ·have h1n : (((Qm c.1 name kind)).2.2) = true := Ka h1
  refine ru Qb [(30,.b (!(Zi c)))] [] [] [] (pt 0 h1n (pe 1 (show .b (!true) = .b false from rfl) (pc 4 (XY c) p0))) ?_
  exact ⟨rfl, Qh (by rw [h1] <;> kernel_rfl)⟩
 refine ck ((!(((Qm c.1 name kind)).2.2)) || (!(Zi c))) (λh2 => ?_) (λh2 => ?_)
 ·refine sn Qb [3, 6, 7, 8, 9, 10, 11, 12] [3, 6, 10] (pc 1 (G5 c) p0) ?_
  refine opn [(false, 7, 0, true, 384000, 3), (false, 8, 0, true, 384001, 1)] ?_
  refine Qk ?_
  exact pz [] (show Qa c name kind = _ from X6 h2 (rfl)) (λz => .tup [(true, [.o 0 z.1.1.1,.o 1 z.1.1.2.1,.i z.1.1.2.2,.o 2 z.1.2.1,.o 3 z.1.2.2]), (false, [.o 4 z.2.1]), (false, [.o 5 z.2.2.1]), (false, [.b z.2.2.2])])
 have h2r : ((!(Zi c))) = false := UJ h2
 have h2rn : (Zi c) = true := Ka h2r
 have h2rnc := JY h2rn
 refine Qi ?_
 refine sN Qb Zf [6, 7, 8, 9, 11, 12, 13, 14] [6, 13] (pc 6 (Nx c.2.1) (pc 7 (YC c (((Qm c.1 name kind)).1) c.2.1 (Yn c.2.1)) p0)) ?_
 refine tn Qb [6, 7, 8, 9] [6] p0 ?_
 refine Qk ?_
 exact pz [] (show Qa c name kind = _ from Qy h2 (rfl)) (λz => .tup [(true, [.o 0 z.1.1.1,.o 1 z.1.1.2.1,.i z.1.1.2.2,.o 2 z.1.2.1,.o 3 z.1.2.2]), (false, [.o 4 z.2.1]), (false, [.o 5 z.2.2.1]), (false, [.b z.2.2.2])])
noncomputable def X0 (l : Yb) (name : ByteArray) (kind : Int) : Yb × (List Cs) × (List Int) × Bool := (bif ((!(Jp (Qv l))) || (!(((Xm ((Qv l).1.1, (Qv l).1.2.1, (Qv l).1.2.2) name kind)).2.2))) then ((Qv l), [], [], false) else ((((Wy (Qv l) (((Xm ((Qv l).1.1, (Qv l).1.2.1, (Qv l).1.2.2) name kind)).1) ((Qv l).2.1) (Cd ((Qv l).2.1)))).1), ((Wy (Qv l) (((Xm ((Qv l).1.1, (Qv l).1.2.1, (Qv l).1.2.2) name kind)).1) ((Qv l).2.1) (Cd ((Qv l).2.1)))).2, ((Xm ((Qv l).1.1, (Qv l).1.2.1, (Qv l).1.2.2) name kind)).2.1, true))
theorem Ev (l : Yb) (name : ByteArray) (kind : Int) : ACalls Tryz.prog 5 [.a [.h l.1.1,.h l.1.2.1,.i l.1.2.2,.h l.2.1,.h l.2.2],.s name,.i kind] (.tup [(true, [.h ((((X0 l name kind)).1).1.1),.h ((((X0 l name kind)).1).1.2.1),.i ((((X0 l name kind)).1).1.2.2),.h ((((X0 l name kind)).1).2.1),.h ((((X0 l name kind)).1).2.2)]), (false, [.h (((X0 l name kind)).2.1)]), (false, [.h (((X0 l name kind)).2.2.1)]), (false, [.b (((X0 l name kind)).2.2.2)])]) := by
 refine en Qb Tryz.func5 λw0 F0 hG => ?_
 refine sn Qb [1, 2, 3, 6, 7, 8, 9] [3, 6] p0 ?_
 refine tn Qb [1, 2, 3, 6, 7, 8, 9] [3, 6] (pc 1 (WP l) p0) ?_
 refine tu Qb [(3,.p 3 0), (6,.p 6 0), (7,.e 0), (8,.e 0), (9,.b false), (10,.p 10 0), (11,.o 1410 (((Xm ((Qv l).1.1, (Qv l).1.2.1, (Qv l).1.2.2) name kind)).2.1)), (12,.b (((Xm ((Qv l).1.1, (Qv l).1.2.1, (Qv l).1.2.2) name kind)).2.2))] [0, 1, 2] [(3, [.o 1024 ((Qv l).1.1),.o 1025 ((Qv l).1.2.1),.i ((Qv l).1.2.2),.o 1026 ((Qv l).2.1),.o 1027 ((Qv l).2.2)]), (6, [.e 2,.e 5,.i 0,.e 2,.e 2]), (10, [.o 1408 ((((Xm ((Qv l).1.1, (Qv l).1.2.1, (Qv l).1.2.2) name kind)).1).1),.o 1409 ((((Xm ((Qv l).1.1, (Qv l).1.2.1, (Qv l).1.2.2) name kind)).1).2.1),.i ((((Xm ((Qv l).1.1, (Qv l).1.2.1, (Qv l).1.2.2) name kind)).1).2.2)])] [] (pc 4 (Mt ((Qv l).1.1, (Qv l).1.2.1, (Qv l).1.2.2) name kind) p0) ?_
 refine Qc ?_
 refine Qc ?_
 refine jn [(32,.b ((!(Jp (Qv l))) || (!(((Xm ((Qv l).1.1, (Qv l).1.2.1, (Qv l).1.2.2) name kind)).2.2))))] [12] [] [] (!(Jp (Qv l))) (λh1 => ?_) (λh1 => ?_) ?_
 ·have h1n : (Jp (Qv l)) = false := Ht h1
  refine ru Qb [(32,.b true)] [12] [] [] (pc 1 (cb h1n (Ml (Qv l))) (pe 2 (show .b (!false) = .b true from rfl) p0)) ?_
  exact ⟨rfl, Qh (by rw [h1] <;> kernel_rfl)⟩
 ·have h1n : (Jp (Qv l)) = true := Ka h1
  have h1nc := XZ h1n
  refine rn Qb [3, 6, 7, 8, 9, 10, 11, 32] [3, 6, 10] (pc 1 (cb h1n (Ml (Qv l))) (pe 2 (show .b (!true) = .b false from rfl) p0)) ?_
  exact ⟨rfl, Qh (by rw [h1] <;> kernel_rfl)⟩
 refine ck ((!(Jp (Qv l))) || (!(((Xm ((Qv l).1.1, (Qv l).1.2.1, (Qv l).1.2.2) name kind)).2.2))) (λh2 => ?_) (λh2 => ?_)
 ·refine sn Qb [3, 6, 7, 8, 9, 10, 11] [3, 6, 10] p0 ?_
  refine Qk ?_
  exact pz [1024, 1025, 1026, 1027, 2176, 2240] (show X0 l name kind = _ from X6 h2 (rfl)) (λz => .tup [(true, [.h z.1.1.1,.h z.1.1.2.1,.i z.1.1.2.2,.h z.1.2.1,.h z.1.2.2]), (false, [.h z.2.1]), (false, [.h z.2.2.1]), (false, [.b z.2.2.2])])
 have h2l : ((!(Jp (Qv l)))) = false := VL h2
 have h2ln : (Jp (Qv l)) = true := Ka h2l
 have h2lnc := XZ h2ln
 refine Qi ?_
 refine sN Qb Zf [6, 7, 8, 9, 11, 13, 14] [6, 13] (pc 6 (ZC ((Qv l).2.1)) (pc 7 (WQ (Qv l) (((Xm ((Qv l).1.1, (Qv l).1.2.1, (Qv l).1.2.2) name kind)).1) ((Qv l).2.1) (Cd ((Qv l).2.1))) p0)) ?_
 refine tn Qb [6, 7, 8, 9] [6] p0 ?_
 refine Qk ?_
 exact pz [1410] (show X0 l name kind = _ from Qy h2 (rfl)) (λz => .tup [(true, [.h z.1.1.1,.h z.1.1.2.1,.i z.1.1.2.2,.h z.1.2.1,.h z.1.2.2]), (false, [.h z.2.1]), (false, [.h z.2.2.1]), (false, [.b z.2.2.2])])
theorem Qf3 {s:X1} {d:List Y8} {r:List Qg} {names:List ByteArray} (hs:(Qo d).2=true) (hv:Q7 s=true):∃o p K,X2 s d r names=(o,p,true)/\Z2 s d r names=(o,true)/\EvS d ((Qo d)).1 (onD d names) s.2.1 K o:=by
 obtain ⟨h1,h2⟩:=Iy (L:=((Qo d)).1) (on:=onD d names) (fs:=s.2.1) (g:=Cb r names) (f:=Zp r names) (e:=Jd) (d:=d) (λk a s=>by
  unfold Zp Cb;cases Xd names a.1<;>rfl) (λj _ hj=>by unfold onD at hj;unfold Cb;rw[hj];rfl)
 have key:∀(n k:Nat) (o:List Qg) (p:Int),EvS d ((Qo d)).1 (onD d names) s.2.1 (((k:Nat)):Int) o->∃o' p',Wb (J3 s d names) Hd n k (o,p)= .brk (o',p')/\EvS d ((Qo d)).1 (onD d names) s.2.1 ((k+n:Nat):Int) o':=by
  intro n
  induction n with
  | zero=>intro k o p ho;exact ⟨o,p,rfl,ho⟩
  | succ n ih=>
    intro k o p ho;obtain ⟨o1,p1,g1,g2⟩:=Ao (p:=p) hs ho;obtain ⟨o2,p2,g3,g4⟩:=ih (k+1) o1 p1 (by rw[Int.natCast_add];exact g2);refine ⟨o2,p2, ?_,by rwa [show k+1+n=k+(n+1) by omega] at g4⟩;simp only[Wb];unfold J3 Lh;rw[g1];exact g3
 obtain ⟨o,p,e1,e2⟩:=Qcg (r:=r) (names:=names) hs hv;obtain ⟨o',p',g1,g2⟩:=key (Int.toNat (Jh d+1)) 0 _ 0 h2;refine ⟨o,p,((0+Int.toNat (Jh d+1):Nat):Int),e1,e2, ?_⟩
 have e3:X2 s d r names=(o',p',true):=by
  unfold X2;rw[hs,hv,h1];simp only[Bool.not_true,Bool.or_self,cond_false,Out.on,Jd];rw[g1]
 rw[e1] at e3;obtain rfl:o=o':=congrArg Prod.fst e3;exact g2
theorem Qhm (d:List Y8) {j:Nat} (hj:j<d.length):onD d (Yn d) j=true:=by
 unfold onD;rw[Mi,Ot];exact List.mem_map_of_mem (List.mem_of_getElem? (Wr hj))
def RS (d:List Y8) (o:List Qg):Prop:=o.map (·.1)=d.map (·.1)/\∀x,x∈o->x.2.length<=12
theorem Qij {s:X1} {d:List Y8} {L:List Int} {K:Int} {o:List Qg} (hv:Q7 s=true) (h:EvS d L (onD d (Yn d)) s.2.1 K o):RS d o:=by
 refine ⟨h.names,λx hx=> ?_⟩;obtain ⟨j,hj⟩:=List.getElem?_of_mem hx;have hlt:=(List.getElem?_eq_some_iff.1 hj).1;rw[U8 h] at hlt;obtain ⟨p,hp⟩:=h.some_ j hlt (Qhm d hlt);rw[Gw hj] at hp;rw[hp];exact Nat.le_trans (EI _ _ _) (EO hv)
theorem Qd7 {α : Type} [Inhabited α] {p:α->α->Bool} {f:Nat->α->Unit->Rd Bool Unit Unit} {e:Nat->Unit->Unit} {b:List α} (hf:∀k a,f k a ()=(bif !(p a (nth b k)) then .ret false else .next ())):
 ∀(l:List α) (k:Nat),Out.on (Xp f e l k ()) (λ_=>true)=true->∀(i:Nat) (a:α),l[i]? =some a->p a (nth b (k+i))=true
 | [],k,_,i,a,h=>by simp at h
 | x :: l, k, h, i,a,hi=>by
   simp only[Xp,hf] at h;cases hp:p x (nth b k) with
   | false=>rw[hp] at h;cases h
   | true=>
     rw[hp] at h;simp only[Bool.not_true,cond_false] at h;cases i with
     | zero => have hi:x=a:=by simpa using hi
               subst hi;exact hp
     | succ i => have:=Qd7 hf l (k+1) h i a (by simpa using hi)
                 rw[show k+(i+1)=k+1+i by omega];exact this
theorem Qhn {a b:List Qg} (h:Kw a b=true):a=b:=by
 unfold Kw Y1 at h;by_cases hl:a.length=b.length
 . have hn:((a.length:Int) !=(b.length:Int))=false:=by simp[hl]
   rw[hn,cond_false] at h;have:=Qd7 (p:=Kk) (λ_ _=>rfl) a 0 h;refine List.ext_getElem? λi=> ?_
   by_cases hi:i<a.length
   . rw[Wr hi,Wr (by omega:i<b.length)];have h2:=this i _ (Wr hi);rw[Nat.zero_add] at h2;unfold Kk at h2;rw[WJ,toList_inj] at h2;simp only[Bool.and_eq_true,decide_eq_true_eq] at h2;exact congrArg some (Prod.ext h2.1 h2.2)
   rw[List.getElem?_eq_none (by omega),List.getElem?_eq_none (by omega)]
 have hn:((a.length:Int) !=(b.length:Int))=true:=by simpa using λe:(a.length:Int)=(b.length:Int)=>hl (by omega)
 rw[hn] at h;cases h
theorem KF {c:Yb} (h:Zi c=true):RS c.2.1 c.2.2:=by
 unfold Zi at h;simp only[Bool.and_eq_true] at h;have e:=Qhn h.2;obtain ⟨_,h2,h3,h4⟩:=Ou h.1;rw[←e];refine ⟨h3,λx hx=> ?_⟩;obtain ⟨p,hp⟩:=h4 x hx;rw[hp];exact Nat.le_trans (EI _ _ _) (EO h2)
theorem KG (a b:List Int) (h:a.length<=1073741824):Ae a b=a.filter (λx=> !(Z1 b x)):=by
 unfold Ae;rw[Wg a b h]
 congr 1
 funext x
 show (!(K5 b x))=_;rw[Qdu]
theorem LJ {R:Type} {f:Nat->Int->List Int->Rd R (List Int) (List Int)} {e:Nat->List Int->List Int} {b:List Int} (hf:∀k a s,f k a s=bif (!(Z1 b a)) then .next (s++ [a]) else .next s) (he:∀k s,e k s=s) (l:List Int):Xp f e l 0 []= .brk (l.filter (λx=> !(Z1 b x))):=by
 rw[E6 (p:=λx=> !(Z1 b x)) (g:=λx=>x) hf,he,List.nil_append,List.map_id']
theorem Qcr (a b:List Int) (ha:a.length<=12) (hb:b.length<=12):Yl a b=Yp a b/\(Yp a b).1.length<=12/\(Yp a b).2.length<=12:=by
 unfold Yl Yp;rw[LJ (f:=Gc a) (e:=Gd) (b:=a) (λ_ _ _=>rfl) (λ_ _=>rfl),LJ (f:=Ge b) (e:=Gf) (b:=b) (λ_ _ _=>rfl) (λ_ _=>rfl),KG _ _ (by omega),KG _ _ (by omega)];exact ⟨rfl,Nat.le_trans (List.length_filter_le ..) hb,Nat.le_trans (List.length_filter_le ..) ha⟩
theorem Qf4 {r:List Qg} (h:∀x,x∈r->x.2.length<=12) (nm:ByteArray):(Xa r nm).length<=12:=by
 unfold Xa;rcases IX nm r 0 with h1 | ⟨x,hx,h1⟩
 . rw[h1];exact Nat.zero_le _
 rw[h1];exact h x hx
theorem Sy {a b:List Qg} (ha:∀x,x∈a->x.2.length<=12):∀(l:List Qg) (k:Nat) (s:List Cs),(∀x,x∈l->x.2.length<=12)->
 Xp (Um a) C8 l k s=Xp (V2 a) Ul l k s/\∃t,Xp (V2 a) Ul l k s= .brk (s++t)/\t.length<=l.length/\∀y,y∈t->y.2.1.length<=12/\y.2.2.length<=12/\y.1∈l.map (·.1)
 | [],k,s,_=>⟨rfl, [],by simp[Xp,Ul],Nat.le_refl _,λy hy=>by simp at hy⟩
 | x ::l,k,s,h=>by
   have hx:=h x (List.mem_cons_self ..);obtain ⟨d1,d2,d3⟩:=Qcr (Xa a x.1) x.2 (Qf4 ha x.1) hx;have e:Xf a x.1=Xa a x.1:=rfl
   have hst:∃(c:Bool) (q:List Int×List Int),q.1.length<=12/\q.2.length<=12/\Um a k x s=(bif c then .next (s++ [(x.1,q.1,q.2)]) else .next s)/\V2 a k x s=(bif c then .next (s++ [(x.1,q.1,q.2)]) else .next s):=by
    unfold Um V2;rw[e,d1];generalize Yp (Xa a x.1) x.2=q at d2 d3⊢;have hw:IntKind.i64.wrap ((q.1.length:Int)+(q.2.length:Int))=(q.1.length:Int)+(q.2.length:Int):=IntWalk.i64_in _ (by omega);rw[hw]
    have hc:(decide ((q.1.length:Int)>(0:Int))|| decide ((q.2.length:Int)>(0:Int)))=decide ((q.1.length:Int)+(q.2.length:Int)>(0:Int)):=by
     rw[Bool.eq_iff_iff];simp only[Bool.or_eq_true,decide_eq_true_eq];omega
    rw[hc];exact ⟨_,q,d2,d3,rfl,rfl⟩
   obtain ⟨c,q,d2,d3,e1,e2⟩:=hst;simp only[Xp,e1,e2];cases c with
   | true=>
     obtain ⟨h1,t,h2,h3,h4⟩:=Sy (b:=b) ha l (k+1) (s++ [(x.1,q.1,q.2)]) λz hz=>h z (List.mem_cons_of_mem _ hz)
     refine ⟨h1,(x.1,q.1,q.2)::t,by rw[cond_true];simp only[];rw[h2,List.append_assoc];rfl,Nat.succ_le_succ h3,λy hy=> ?_⟩;rcases List.mem_cons.1 hy with rfl | hy
     . exact ⟨d2,d3,List.mem_cons_self ..⟩
     obtain ⟨g1,g2,g3⟩:=h4 y hy;exact ⟨g1,g2,List.mem_cons_of_mem _ g3⟩
   | false=>
     obtain ⟨h1,t,h2,h3,h4⟩:=Sy (b:=b) ha l (k+1) s λz hz=>h z (List.mem_cons_of_mem _ hz)
     refine ⟨h1,t,h2,Nat.le_succ_of_le h3,λy hy=> ?_⟩;obtain ⟨g1,g2,g3⟩:=h4 y hy;exact ⟨g1,g2,List.mem_cons_of_mem _ g3⟩
theorem LL {a b:List Qg} (ha:∀x,x∈a->x.2.length<=12) (hb:∀x,x∈b->x.2.length<=12):Uz a b=Jy a b/\(Jy a b).length<=b.length/\∀y,y∈Jy a b->y.2.1.length<=12/\y.2.2.length<=12/\y.1∈b.map (·.1):=by
 obtain ⟨h1,t,h2,h3,h4⟩:=Sy (b:=b) ha b 0 [] hb;unfold Uz Jy;rw[h1,h2,List.nil_append];exact ⟨rfl,h3,λy hy=>h4 y hy⟩
theorem TN {c:Yb} {s:X1} (hc:Zi c=true) (hv:Q7 s=true):∃o,RS c.2.1 o/\Jq c s c.2.1 (Yn c.2.1)=((s,c.2.1,o),Jy c.2.2 o,true)/\Wy c s c.2.1 (Yn c.2.1)=((s,c.2.1,o),Jy c.2.2 o):=by
 obtain ⟨o,p,K,h1,h2,h3⟩:=Qf3 (s:=s) (d:=c.2.1) (r:=c.2.2) (names:=Yn c.2.1) (ZE hc) hv;have hr:=Qij hv h3;refine ⟨o,hr, ?_, ?_⟩
 . unfold Jq Kq;rw[h1,D4,YB];rfl
 unfold Wy;rw[h2,(LL (KF hc).2 hr.2).1]
theorem CF (c:Yb) (n:ByteArray) (k:Int):X0 c n k=Qa c n k/\(Qa c n k=(c, [], [],false)\/∃o,List.length c.2.1<=5/\RS c.2.1 o/\(∀x,x∈c.2.2->x.2.length<=12)/\Qa c n k=(((Qm c.1 n k).1,c.2.1,o),Jy c.2.2 o,(Qm c.1 n k).2.1,true)):=by
 unfold X0 Qa;rw[ES,NC,ND,WY,BQ];have e:((c.1.1,c.1.2.1,c.1.2.2):X1)=c.1:=rfl;rw[e];cases hc:Zi c with
 | false=>cases (Qm c.1 n k).2.2<;>exact ⟨rfl,.inl rfl⟩
 | true=>
   cases hk:(Qm c.1 n k).2.2 with
   | false=>exact ⟨rfl,.inl rfl⟩
   | true=>
     obtain ⟨o,h1,h2,h3⟩:=TN hc (UA hk);rw[h2,h3];exact ⟨rfl,.inr ⟨o,(JY hc).1,h1,(KF hc).2,rfl⟩⟩
theorem Qf5 (c:Yb) (n:ByteArray) (k:Int):X0 c n k=Qa c n k:=(CF c n k).1
theorem FC (l:List Int):GoD.size l=l.length:=JK (λ_=>rfl)
theorem TO {d:List Y8} {x:ByteArray} (h:x∈d.map (·.1)):x.size<=GoD.size d:=by
 obtain ⟨a,ha,rfl⟩:=List.mem_map.1 h;refine Nat.le_trans ?_ (G8 ha);show a.1.size<=a.1.size+GoD.size a.2;exact Nat.le_add_right _ _
theorem Y6 (c:Yb) (n:ByteArray) (k:Int) (h:GoD.size c<=1048576/\n.size<=1048576):GoD.size (Qa c n k).1<=1073741824/\GoD.size (Qa c n k).2.1<=1073741824/\GoD.size (Qa c n k).2.2.1<=1073741824:=by
 have e0:GoD.size c=GoD.size c.1+(GoD.size c.2.1+GoD.size c.2.2):=rfl;rcases (CF c n k).2 with e | ⟨o,h5,hr,hc,e⟩
 . rw[e];exact ⟨Nat.le_trans h.1 (by decide),Nat.zero_le _,Nat.zero_le _⟩
 rw[e]
 have hs:GoD.size (Qm c.1 n k).1<=536870912:=by
  have e1:GoD.size c.1=GoD.size c.1.1+(GoD.size c.1.2.1+0):=rfl;rcases (Oz c.1 n k).2 with e | ⟨h1,h2,h3,h4,-⟩
  . rw[e];show GoD.size c.1<=_;omega
  have g5:=Nat.le_trans (Mv _ h2) (Nat.mul_le_mul_right _ h1);have g6:=Nat.le_trans (Mv _ h4) (Nat.mul_le_mul_right _ h3);show GoD.size _+(GoD.size _+0)<=_;omega
 have hol:o.length<=5:=by
  have:=congrArg List.length hr.1;rw[List.length_map,List.length_map] at this;omega
 have ho:∀x,x∈o->GoD.size x<=1048600:=λx hx=>by
  have h1:=TO (d:=c.2.1) (x:=x.1) (by rw[←hr.1];exact List.mem_map_of_mem hx);have h2:=hr.2 x hx;show x.1.size+GoD.size x.2<=_;rw[FC];omega
 obtain ⟨_,d1,d2⟩:=LL hc hr.2
 have hd:∀y,y∈Jy c.2.2 o->GoD.size y<=1048700:=λy hy=>by
  obtain ⟨g1,g2,g3⟩:=d2 y hy;have h1:=TO (d:=c.2.1) (x:=y.1) (by rw[←hr.1];exact g3);show y.1.size+(GoD.size y.2.1+GoD.size y.2.2)<=_;rw[FC,FC];omega
 have g1:=Nat.le_trans (Mv _ ho) (Nat.mul_le_mul_right _ hol);have g2:=Nat.le_trans (Mv _ hd) (Nat.mul_le_mul_right _ (Nat.le_trans d1 hol));refine ⟨?_,by show GoD.size (Jy c.2.2 o)<=_;omega,Qcn c.1 n k⟩;show GoD.size (Qm c.1 n k).1+(GoD.size c.2.1+GoD.size o)<=1073741824;omega
open GoD (rd own)
set_option maxRecDepth 100000
set_option maxHeartbeats 1000000
theorem zSm:(∀(w:World) o,(w.alloc o).heap.size=w.heap.size+1)/\(∀(w:World) a v,(w.setCell a v).heap.size=w.heap.size)/\∀w:World,w.drew.heap.size=w.heap.size:=⟨λ_ _=>World.size_alloc ..,λ_ _ _=>World.size_setCell ..,λ_=>rfl⟩
theorem Qd8 {α:Type} [GoD α] {l:List α} {j:Nat} (h:j<l.length) (k:Nat):(Qu (l.take j) k).1.length=j:=by rw[K3,List.length_take];omega
abbrev mI {α:Type} [GoD α] (L:List Nat) (w:World) (oa:Option Addr) (cap:Nat) (l:List α) (k:Nat) (q i:Value) (wr:World):Prop:=∃j:Nat,j<=l.length/\i= .int .i64 j/\q= .int .i64 ((Qu (l.take j) k).2:Nat)/\Hid (own L wr [.slice oa l.length cap] ((Qu (l.take j) k).1++l.drop j))/\Hid (Chg L w wr)
theorem Fr (f:Nat):LO f 0= []:=by cases f<;>rfl
theorem CG:∀(f f' k:Nat),k<=f->k<=f'->LO f k=LO f' k
 | 0,f',k,h,_=>by
   obtain rfl:k=0:=by omega
   rw[Fr,Fr]
 | f+1,0,k,_,h=>by
   obtain rfl:k=0:=by omega
   rw[Fr,Fr]
 | f+1,f'+1,k,h,h'=>by
   unfold LO;by_cases hk:k=0
   . rw[if_pos hk,if_pos hk]
   rw[if_neg hk,if_neg hk,CG f f' (k / 10) (by omega) (by omega)]
theorem LM {k:Nat} (h:0<k):LO k k=LO (k / 10) (k / 10)++ [UInt8.ofNat (48+k % 10)]:=by
 obtain ⟨f,rfl⟩:∃f,k=f+1:=⟨k-1,by omega⟩;rw[LO,if_neg (by omega),CG f ((f+1) / 10) _ (by omega) (Nat.le_refl _)]
theorem LN:∀(n k:Nat),k<10^n->(LO k k).length<=n
 | 0,k,h=>by
   obtain rfl:k=0:=by simpa using h
   simp[Fr]
 | n+1,k,h=>by
   by_cases hk:k=0
   . subst hk;simp[Fr]
   rw[LM (by omega)];have:=LN n (k / 10) (by rw[Nat.pow_succ] at h;omega);simp;omega
theorem KH {k:Nat} (h:k<=4611686018427387904):(LO k k).length<=20:=LN 20 k (by omega)
theorem Ch {k:Nat} (h:k<=4611686018427387904):(Cj k).size<=maxLen:=by
 have h1:=KH h;unfold Cj maxLen;show (List.toArray _).size<=_;rw[List.size_toArray];split
 . simp
 simp;omega
theorem Vf (w:World) (K:Int) (k:Nat) (hK:K=k) (h1:1<=k) (hk:k<=4611686018427387904):Calls Tryz.prog 40 #[.int .i64 K] w (Ret w (.string (Cj k))):=by
 subst hK;have hk0:¬(k:Int)<=0:=by omega
 have HL:=Lib.hid (KH hk);go_enter Tryz.func40,Tryz.ntmps40
 go_wp2
 go_loopw [0,3] (λq s wr=>∃(j:Nat) (out:ByteArray),q= .int .i64 j/\s= .string out/\j<=4611686018427387904/\Hid (LO j j++out.data.toList=LO k k)/\Below w.heap.size w wr) (λq _ _=>(intOf q).toNat)
 case atStart=>exact ⟨k,_,rfl,rfl,hk,by show _=_;simp,Below.refl _ _⟩
 case round=>
  obtain ⟨j,out,rfl,rfl,hj,HD,hB⟩:=hrel
  have hos:out.size<=20:=by
   have h:=HL.out;rw[←HD.out] at h;simp at h;have:out.size=out.data.size:=rfl;omega
  have hBs:=hB.size;by_cases hz:0<j
  . have hcv:∀w0:World,Sem.run Tryz.prog (convert 123 9 (.slice (some ⟨w0.heap.size,0,none⟩) 1 1)) (w0.alloc (.cells #[.int .u8 (48+(j:Int) % 10)] 5))= .ok (.string ⟨#[UInt8.ofNat (48+j % 10)]⟩) (w0.alloc (.cells #[.int .u8 (48+(j:Int) % 10)] 5)):=by
     intro w0;refine run_convert_bytes_back (P:=Tryz.prog) _ 123 9 5 _ 1 [UInt8.ofNat (48+j % 10)] Tryz.underlying123 Tryz.underlying5 Tryz.underlying9 ?_;intro i hi;obtain rfl:i=0:=by simp at hi;omega
     simp[Addr.add];omega
    have hos2:1+out.size<=30:=by omega
    go_wp2
    go_roundw
    case rel=>exact ⟨j / 10,_,by go_num,rfl,by omega,by
     show _=_;rw[←HD.out,LM hz];simp,by go_grown⟩
    case measure=>simp[intOf];omega
  obtain rfl:j=0:=by omega
  go_wp2
  go_ret
  refine ⟨?_,hB⟩;have h:=HD.out;rw[Fr] at h;simp only[List.nil_append] at h
  have e:Cj k=⟨#[109]⟩++out:=by
   unfold Cj;rw[if_neg (by omega),←h];apply ByteArray.ext;simp
  rw[e];rfl
theorem Ng (w:World) (v:Value) (l:List Int) (L:List Nat) (K:Int) (k:Nat) (hK:K=k) (h1:1<=k) (hk:(Qu l k).2<=4611686018427387904) (ho:own L w [v] l):Calls Tryz.prog 13 #[v,.int .i64 K] w (Oe L w [v] (Qu l k)):=by
 subst hK;obtain ⟨oa,cap,rfl⟩:=Kg ho;have hlm:l.length<=9223372036854775807:=B9 ho;have HO:=Lib.hid ho;clear ho;go_enter Tryz.func13,Tryz.ntmps13
 go_wp2
 go_loopw [1,5] (mI L w oa cap l k) (λ_ i _=>l.length-(intOf i).toNat)
 case atStart=>exact ⟨0,Nat.zero_le _,rfl,rfl,HO.out,Chg.refl _ _⟩
 case round=>
  obtain ⟨j,hj,rfl,rfl,HW,HC⟩:=hrel;by_cases hjl:j<l.length
  . have hx:=List.getElem?_eq_getElem hjl;have hsp:=Kl l k j _ hx;have hle:=Nat.le_trans (Jj l k j _ hx) hk;have hdr:=List.drop_eq_getElem_cons hjl;have hxl:=Qd8 hjl k;have hkk:k<=(Qu (l.take j) k).2:=Zd _ _;have how:=HW.out;rw[hdr] at how;clear hx hdr HW;generalize (Qu (l.take j) k).2=kk at*;generalize (Qu (l.take j) k).1=xs at*;generalize l[j]=x at*;obtain ⟨g,cap',cur,e,Li,hv,hg,hroom,hgLi,hgL,hsub,hoe,hshut⟩:=Fx how;simp only[Value.slice.injEq] at hv;obtain ⟨rfl,hq0,rfl⟩:=hv;clear hq0;rw[hxl] at hroom hoe hshut;clear hxl;rw[show GoD.n Int=1 from rfl] at hroom hoe hshut;rw[Nat.mul_one] at hoe hshut;generalize hce:(cur.toList.drop j).take 1=ce at*;obtain ⟨rfl,rfl,hh⟩:=hoe;have p0:wr.cell? ⟨g,j,none⟩=some _:=Kh hg hce 0 _ rfl;have fz:=U0 hg;have hglt:=Q8 hg;clear hce hg how;have HSH:=Lib.hid hshut;clear hshut;have HSP:=Lib.hid hsp;clear hsp;have hle:kk+1<=4611686018427387904:=hle;have HU0:Hid (Upd g j 1 [] wr wr):=Upd.refl _ _ _ _ _;go_wp2
    go_roundw
    case measure=>simp[intOf];omega
    case rel=>
     refine ⟨j+1,by omega,by go_num, ?_, ?_, ?_⟩
     . show Value.int _ _=_;rw[HSP.out];show Value.int .i64 _= .int .i64 ((kk+1:Nat):Int);first | go_num | (congr 1<;>omega)
     . show own _ _ _ _;rw[HSP.out];simp only[List.append_assoc,List.singleton_append];refine HSH.out _ [.int .i64 ((kk:Nat):Int)] _ (by repeat (first | (with_reducible exact HU0.out) | (with_reducible refine Upd.setCell ?_ _ (by omega) _))) (Rs _ (Lc (kk) (by omega))) ?_;intro q u hq
       match q,hq with
       | 0,hq=>obtain rfl:=(Option.some.inj hq);simp[go_sem, *]
       | q+1,hq=>simp at hq
     exact HC.out.trans (((by repeat (first | (with_reducible exact HU0.out) | (with_reducible refine Upd.setCell ?_ _ (by omega) _))):Upd g j 1 [] wr _).chg.mono (λb hb=>(List.mem_cons.1 hb).elim (λe=>e▸hgL) (hsub b)))
  obtain rfl:j=l.length:=by omega
  have how:=HW.out;have hch:=HC.out;rw[List.take_length,List.drop_length,List.append_nil] at how;rw[List.take_length] at*;have HW2:=Lib.hid how;have HC2:=Lib.hid hch;clear how hch;go_wp2
  go_ret
  exact ⟨rfl,HW2.out,HC2.out⟩
theorem FD (w:World) (v:Value) (l:List Yy) (L:List Nat) (K:Int) (k:Nat) (hK:K=k) (h1:1<=k) (hk:(Qu l k).2<=4611686018427387904) (ho:own L w [v] l):Calls Tryz.prog 83 #[v,.int .i64 K] w (Oe L w [v] (Qu l k)):=by
 subst hK;obtain ⟨oa,cap,rfl⟩:=Kg ho;have hlm:l.length<=9223372036854775807:=B9 ho;have HO:=Lib.hid ho;clear ho;go_enter Tryz.func83,Tryz.ntmps83
 go_wp2
 go_loopw [1,5] (mI L w oa cap l k) (λ_ i _=>l.length-(intOf i).toNat)
 case atStart=>exact ⟨0,Nat.zero_le _,rfl,rfl,HO.out,Chg.refl _ _⟩
 case round=>
  obtain ⟨j,hj,rfl,rfl,HW,HC⟩:=hrel;by_cases hjl:j<l.length
  . have hx:=List.getElem?_eq_getElem hjl;have hsp:=Kl l k j _ hx;have hle:=Nat.le_trans (Jj l k j _ hx) hk;have hdr:=List.drop_eq_getElem_cons hjl;have hxl:=Qd8 hjl k;have hkk:k<=(Qu (l.take j) k).2:=Zd _ _;have how:=HW.out;rw[hdr] at how;clear hx hdr HW;generalize (Qu (l.take j) k).2=kk at*;generalize (Qu (l.take j) k).1=xs at*;generalize l[j]=x at*;obtain ⟨g,cap',cur,e,Li,hv,hg,hroom,hgLi,hgL,hsub,hoe,hshut⟩:=Fx how;simp only[Value.slice.injEq] at hv;obtain ⟨rfl,hq0,rfl⟩:=hv;clear hq0;rw[hxl] at hroom hoe hshut;clear hxl;rw[show GoD.n Yy=7 from rfl] at hroom hoe hshut;generalize hce:(cur.toList.drop (j*7)).take 7=ce at*;obtain ⟨v0,v1,v2,v3,⟨v4,v5,v6⟩⟩:=x;obtain ⟨nd6,_,_,_,_,rfl,rfl,⟨rfl,rfl,h0⟩,⟨nd5,_,_,_,_,rfl,rfl,⟨rfl,rfl,h1⟩,⟨nd4,_,_,_,_,rfl,rfl,⟨rfl,rfl,h2⟩,⟨nd3,_,_,_,_,rfl,rfl,⟨rfl,rfl,h3⟩,⟨nd2,_,_,_,_,rfl,rfl,⟨rfl,rfl,h4⟩,⟨nd1,_,_,_,_,rfl,rfl,⟨rfl,rfl,h5⟩,⟨rfl,rfl,h6⟩⟩⟩⟩⟩⟩⟩:=hoe;have p0:wr.cell? ⟨g,j*7,none⟩=some _:=Kh hg hce 0 _ rfl;have p1:wr.cell? ⟨g,j*7+1,none⟩=some _:=Kh hg hce 1 _ rfl;have p2:wr.cell? ⟨g,j*7+2,none⟩=some _:=Kh hg hce 2 _ rfl;have p3:wr.cell? ⟨g,j*7+3,none⟩=some _:=Kh hg hce 3 _ rfl;have p4:wr.cell? ⟨g,j*7+4,none⟩=some _:=Kh hg hce 4 _ rfl;have p5:wr.cell? ⟨g,j*7+5,none⟩=some _:=Kh hg hce 5 _ rfl;have p6:wr.cell? ⟨g,j*7+6,none⟩=some _:=Kh hg hce 6 _ rfl;have fz:=U0 hg;have hglt:=Q8 hg;clear hce hg how;have HSH:=Lib.hid hshut;clear hshut;have HSP:=Lib.hid hsp;clear hsp;have hle:kk+1+1+1+1+1+1+1<=4611686018427387904:=hle;have HSUB:=Lib.hid hsub;clear hsub;have HU0:Hid (Upd g (j*7) 7 ([]++([]++([]++([]++([]++([]++ [])))))) wr wr):=Upd.refl _ _ _ _ _;have tok1:True:=trivial;have tok2:True:=trivial;go_wp2_with (first | (go_at_call 40;have tk:=tok1;clear tok1;refine (Vf _ _ (kk+1+1+1) (by omega) (by omega) (by omega)).mono ?_;rintro e w1 ⟨rfl,hb⟩;have hz:=hb.size;have c1:=λo=>Zl hb g o (by go_size);have f1:=λo=>Hk hb g o (by go_size);have HU1:Hid (Upd g (j*7) 7 ([]++([]++([]++([]++([]++([]++ [])))))) wr w1):=Upd.below (by repeat (first | (with_reducible exact HU0.out) | (with_reducible refine Upd.setCell ?_ _ (by omega) _))) hb (by go_size);(try simp only[zSm] at hz);have HB1:=Lib.hid hb;clear hb) | (go_at_call 40;have tk:=tok2;clear tok2;refine (Vf _ _ (kk+1+1+1+1+1+1) (by omega) (by omega) (by omega)).mono ?_;rintro e w2 ⟨rfl,hb⟩;have hz:=hb.size;have c2:=λo=>Zl hb g o (by go_size);have f2:=λo=>Hk hb g o (by go_size);have HU2:Hid (Upd g (j*7) 7 ([]++([]++([]++([]++([]++([]++ [])))))) wr w2):=Upd.below (by repeat (first | (with_reducible exact HU1.out) | (with_reducible refine Upd.setCell ?_ _ (by omega) _))) hb (by go_size);(try simp only[zSm] at hz);have HB2:=Lib.hid hb;clear hb))
    go_roundw
    case measure=>simp[intOf];omega
    case rel=>
     refine ⟨j+1,by omega,by go_num, ?_, ?_, ?_⟩
     . show Value.int _ _=_;rw[HSP.out];show Value.int .i64 _= .int .i64 ((kk+1+1+1+1+1+1+1:Nat):Int);first | go_num | (congr 1<;>omega)
     . show own _ _ _ _;rw[HSP.out];simp only[List.append_assoc,List.singleton_append];refine HSH.out _ [.int .i64 ((kk:Nat):Int),.int .i64 ((kk+1:Nat):Int),.int .i64 ((kk+1+1:Nat):Int),.string (Cj (kk+1+1+1)),.int .i64 ((kk+1+1+1+1:Nat):Int),.int .i64 ((kk+1+1+1+1+1:Nat):Int),.string (Cj (kk+1+1+1+1+1+1))] _ (by repeat (first | (with_reducible exact HU2.out) | (with_reducible refine Upd.setCell ?_ _ (by omega) _))) (K6 (Rs _ (Lc (kk) (by omega))) (K6 (Rs _ (Lc (kk+1) (by omega))) (K6 (Rs _ (Lc (kk+1+1) (by omega))) (K6 (UN _ (Ch (by omega))) (K6 (Rs _ (Lc (kk+1+1+1+1) (by omega))) (K6 (Rs _ (Lc (kk+1+1+1+1+1) (by omega))) (UN _ (Ch (by omega))) (λx hx hy=>(List.nodup_append.1 nd1).2.2 x hx x hy rfl)) (λx hx hy=>(List.nodup_append.1 nd2).2.2 x hx x hy rfl)) (λx hx hy=>(List.nodup_append.1 nd3).2.2 x hx x hy rfl)) (λx hx hy=>(List.nodup_append.1 nd4).2.2 x hx x hy rfl)) (λx hx hy=>(List.nodup_append.1 nd5).2.2 x hx x hy rfl)) (λx hx hy=>(List.nodup_append.1 nd6).2.2 x hx x hy rfl)) ?_;intro q u hq
       match q,hq with
       | 0,hq=>obtain rfl:=(Option.some.inj hq);simp[go_sem, *]
       | 1,hq=>obtain rfl:=(Option.some.inj hq);simp[go_sem, *]
       | 2,hq=>obtain rfl:=(Option.some.inj hq);simp[go_sem, *]
       | 3,hq=>obtain rfl:=(Option.some.inj hq);simp[go_sem, *]
       | 4,hq=>obtain rfl:=(Option.some.inj hq);simp[go_sem, *]
       | 5,hq=>obtain rfl:=(Option.some.inj hq);simp[go_sem, *]
       | 6,hq=>obtain rfl:=(Option.some.inj hq);simp[go_sem, *]
       | q+7,hq=>simp at hq
     exact HC.out.trans (((by repeat (first | (with_reducible exact HU2.out) | (with_reducible refine Upd.setCell ?_ _ (by omega) _))):Upd g (j*7) 7 ([]++([]++([]++([]++([]++([]++ [])))))) wr _).chg.mono (λb hb=>(List.mem_cons.1 hb).elim (λe=>e▸hgL) (HSUB.out b)))
  obtain rfl:j=l.length:=by omega
  have how:=HW.out;have hch:=HC.out;rw[List.take_length,List.drop_length,List.append_nil] at how;rw[List.take_length] at*;have HW2:=Lib.hid how;have HC2:=Lib.hid hch;clear how hch;go_wp2
  go_ret
  exact ⟨rfl,HW2.out,HC2.out⟩
theorem NM (w:World) (v:Value) (l:List Y8) (L:List Nat) (K:Int) (k:Nat) (hK:K=k) (h1:1<=k) (hk:(Qu l k).2<=4611686018427387904) (ho:own L w [v] l):Calls Tryz.prog 38 #[v,.int .i64 K] w (Oe L w [v] (Qu l k)):=by
 subst hK;obtain ⟨oa,cap,rfl⟩:=Kg ho;have hlm:l.length<=9223372036854775807:=B9 ho;have HO:=Lib.hid ho;clear ho;go_enter Tryz.func38,Tryz.ntmps38
 go_wp2
 go_loopw [1,5] (mI L w oa cap l k) (λ_ i _=>l.length-(intOf i).toNat)
 case atStart=>exact ⟨0,Nat.zero_le _,rfl,rfl,HO.out,Chg.refl _ _⟩
 case round=>
  obtain ⟨j,hj,rfl,rfl,HW,HC⟩:=hrel;by_cases hjl:j<l.length
  . have hx:=List.getElem?_eq_getElem hjl;have hsp:=Kl l k j _ hx;have hle:=Nat.le_trans (Jj l k j _ hx) hk;have hdr:=List.drop_eq_getElem_cons hjl;have hxl:=Qd8 hjl k;have hkk:k<=(Qu (l.take j) k).2:=Zd _ _;have how:=HW.out;rw[hdr] at how;clear hx hdr HW;generalize (Qu (l.take j) k).2=kk at*;generalize (Qu (l.take j) k).1=xs at*;generalize l[j]=x at*;obtain ⟨g,cap',cur,e,Li,hv,hg,hroom,hgLi,hgL,hsub,hoe,hshut⟩:=Fx how;simp only[Value.slice.injEq] at hv;obtain ⟨rfl,hq0,rfl⟩:=hv;clear hq0;rw[hxl] at hroom hoe hshut;clear hxl;rw[show GoD.n Y8=2 from rfl] at hroom hoe hshut;generalize hce:(cur.toList.drop (j*2)).take 2=ce at*;obtain ⟨v0,v1⟩:=x;obtain ⟨nd1,_,_,_,SL1,rfl,rfl,⟨rfl,rfl,h0⟩,so1⟩:=hoe;obtain ⟨sv1,rfl⟩:=D9 (show _=1 from GoD.rd_len (GoD.own_rd so1));obtain ⟨oa1,cp1,rfl⟩:=Kg so1;have p0:wr.cell? ⟨g,j*2,none⟩=some _:=Kh hg hce 0 _ rfl;have p1:wr.cell? ⟨g,j*2+1,none⟩=some _:=Kh hg hce 1 _ rfl;have fz:=U0 hg;have hglt:=Q8 hg;clear hce hg how;have HSH:=Lib.hid hshut;clear hshut;have HSP:=Lib.hid hsp;clear hsp;have hle:(Qu v1 (kk+1)).2<=4611686018427387904:=hle;have hm1:kk+1<=(Qu v1 (kk+1)).2:=Zd _ _;have HSO1:=Lib.hid so1;clear so1;have HSUB:=Lib.hid hsub;clear hsub;have HU0:Hid (Upd g (j*2) 2 ([]++SL1) wr wr):=Upd.refl _ _ _ _ _;have tok1:True:=trivial;have tok2:True:=trivial;go_wp2_with (first | (go_at_call 40;have tk:=tok1;clear tok1;refine (Vf _ _ (kk) (by omega) (by omega) (by omega)).mono ?_;rintro e w1 ⟨rfl,hb⟩;have hz:=hb.size;have c1:=λo=>Zl hb g o (by go_size);have f1:=λo=>Hk hb g o (by go_size);have HU1:Hid (Upd g (j*2) 2 ([]++SL1) wr w1):=Upd.below (by repeat (first | (with_reducible exact HU0.out) | (with_reducible refine Upd.setCell ?_ _ (by omega) _))) hb (by go_size);(try simp only[zSm] at hz);have HB1:=Lib.hid hb;clear hb) | (go_at_call 83;have tk:=tok2;clear tok2;refine Bb (FD _ _ v1 SL1 _ (kk+1) (by omega) (by omega) (by omega) (by repeat (first | (with_reducible exact HSO1.out) | (refine Un ?_ (λhm=>hgLi (List.mem_append.2 (.inr hm)))) | (with_reducible refine Ll ?_ HB1.out)))) ?_;intro w2 ho2 hch hz;have c2:=λo=>hch.cell (b:=g) (by go_size) (λhm=>hgLi (List.mem_append.2 (.inr hm))) o;have f2:=λo=>hch.frozen (b:=g) (by go_size) (λhm=>hgLi (List.mem_append.2 (.inr hm))) o;have HU2:Hid (Upd g (j*2) 2 ([]++SL1) wr w2):=Upd.mark (by repeat (first | (with_reducible exact HU1.out) | (with_reducible refine Upd.setCell ?_ _ (by omega) _))) hch (λb hm=>(List.mem_append.2 (.inr hm))) (λhm=>hgLi (List.mem_append.2 (.inr hm))) (by go_size);(try simp only[zSm] at hz);have HB2:=Lib.hid hch;clear hch;have HM2:=Lib.hid ho2;clear ho2))
    go_roundw
    case measure=>simp[intOf];omega
    case rel=>
     refine ⟨j+1,by omega,by go_num, ?_, ?_, ?_⟩
     . show Value.int _ _=_;rw[HSP.out];show Value.int .i64 _= .int .i64 (((Qu v1 (kk+1)).2:Nat):Int);first | go_num | (congr 1<;>omega)
     . show own _ _ _ _;rw[HSP.out];simp only[List.append_assoc,List.singleton_append];refine HSH.out _ [.string (Cj (kk)),.slice oa1 v1.length cp1] _ (by repeat (first | (with_reducible exact HU2.out) | (with_reducible refine Upd.setCell ?_ _ (by omega) _))) (K6 (UN _ (Ch (by omega))) (show own SL1 _ [.slice oa1 v1.length cp1] (Qu v1 (kk+1)).1 by repeat (first | (with_reducible exact HM2.out) | (refine Un ?_ (λhm=>hgLi (List.mem_append.2 (.inr hm)))))) (λx hx hy=>(List.nodup_append.1 nd1).2.2 x hx x hy rfl)) ?_;intro q u hq
       match q,hq with
       | 0,hq=>obtain rfl:=(Option.some.inj hq);simp[go_sem, *]
       | 1,hq=>obtain rfl:=(Option.some.inj hq);simp[go_sem, *]
       | q+2,hq=>simp at hq
     exact HC.out.trans (((by repeat (first | (with_reducible exact HU2.out) | (with_reducible refine Upd.setCell ?_ _ (by omega) _))):Upd g (j*2) 2 ([]++SL1) wr _).chg.mono (λb hb=>(List.mem_cons.1 hb).elim (λe=>e▸hgL) (HSUB.out b)))
  obtain rfl:j=l.length:=by omega
  have how:=HW.out;have hch:=HC.out;rw[List.take_length,List.drop_length,List.append_nil] at how;rw[List.take_length] at*;have HW2:=Lib.hid how;have HC2:=Lib.hid hch;clear how hch;go_wp2
  go_ret
  exact ⟨rfl,HW2.out,HC2.out⟩
theorem CH (w:World) (v:Value) (l:List Yd) (L:List Nat) (K:Int) (k:Nat) (hK:K=k) (h1:1<=k) (hk:(Qu l k).2<=4611686018427387904) (ho:own L w [v] l):Calls Tryz.prog 81 #[v,.int .i64 K] w (Oe L w [v] (Qu l k)):=by
 subst hK;obtain ⟨oa,cap,rfl⟩:=Kg ho;have hlm:l.length<=9223372036854775807:=B9 ho;have HO:=Lib.hid ho;clear ho;go_enter Tryz.func81,Tryz.ntmps81
 go_wp2
 go_loopw [1,5] (mI L w oa cap l k) (λ_ i _=>l.length-(intOf i).toNat)
 case atStart=>exact ⟨0,Nat.zero_le _,rfl,rfl,HO.out,Chg.refl _ _⟩
 case round=>
  obtain ⟨j,hj,rfl,rfl,HW,HC⟩:=hrel;by_cases hjl:j<l.length
  . have hx:=List.getElem?_eq_getElem hjl;have hsp:=Kl l k j _ hx;have hle:=Nat.le_trans (Jj l k j _ hx) hk;have hdr:=List.drop_eq_getElem_cons hjl;have hxl:=Qd8 hjl k;have hkk:k<=(Qu (l.take j) k).2:=Zd _ _;have how:=HW.out;rw[hdr] at how;clear hx hdr HW;generalize (Qu (l.take j) k).2=kk at*;generalize (Qu (l.take j) k).1=xs at*;generalize l[j]=x at*;obtain ⟨g,cap',cur,e,Li,hv,hg,hroom,hgLi,hgL,hsub,hoe,hshut⟩:=Fx how;simp only[Value.slice.injEq] at hv;obtain ⟨rfl,hq0,rfl⟩:=hv;clear hq0;rw[hxl] at hroom hoe hshut;clear hxl;rw[show GoD.n Yd=2 from rfl] at hroom hoe hshut;generalize hce:(cur.toList.drop (j*2)).take 2=ce at*;obtain ⟨v0,v1⟩:=x;obtain ⟨nd1,_,_,_,_,rfl,rfl,⟨rfl,rfl,h0⟩,⟨rfl,rfl,h1⟩⟩:=hoe;have p0:wr.cell? ⟨g,j*2,none⟩=some _:=Kh hg hce 0 _ rfl;have p1:wr.cell? ⟨g,j*2+1,none⟩=some _:=Kh hg hce 1 _ rfl;have fz:=U0 hg;have hglt:=Q8 hg;clear hce hg how;have HSH:=Lib.hid hshut;clear hshut;have HSP:=Lib.hid hsp;clear hsp;have hle:kk+1+1<=4611686018427387904:=hle;have HSUB:=Lib.hid hsub;clear hsub;have HU0:Hid (Upd g (j*2) 2 ([]++ []) wr wr):=Upd.refl _ _ _ _ _;have tok1:True:=trivial;go_wp2_with (first | (go_at_call 40;have tk:=tok1;clear tok1;refine (Vf _ _ (kk) (by omega) (by omega) (by omega)).mono ?_;rintro e w1 ⟨rfl,hb⟩;have hz:=hb.size;have c1:=λo=>Zl hb g o (by go_size);have f1:=λo=>Hk hb g o (by go_size);have HU1:Hid (Upd g (j*2) 2 ([]++ []) wr w1):=Upd.below (by repeat (first | (with_reducible exact HU0.out) | (with_reducible refine Upd.setCell ?_ _ (by omega) _))) hb (by go_size);(try simp only[zSm] at hz);have HB1:=Lib.hid hb;clear hb))
    go_roundw
    case measure=>simp[intOf];omega
    case rel=>
     refine ⟨j+1,by omega,by go_num, ?_, ?_, ?_⟩
     . show Value.int _ _=_;rw[HSP.out];show Value.int .i64 _= .int .i64 ((kk+1+1:Nat):Int);first | go_num | (congr 1<;>omega)
     . show own _ _ _ _;rw[HSP.out];simp only[List.append_assoc,List.singleton_append];refine HSH.out _ [.string (Cj (kk)),.int .i64 ((kk+1:Nat):Int)] _ (by repeat (first | (with_reducible exact HU1.out) | (with_reducible refine Upd.setCell ?_ _ (by omega) _))) (K6 (UN _ (Ch (by omega))) (Rs _ (Lc (kk+1) (by omega))) (λx hx hy=>(List.nodup_append.1 nd1).2.2 x hx x hy rfl)) ?_;intro q u hq
       match q,hq with
       | 0,hq=>obtain rfl:=(Option.some.inj hq);simp[go_sem, *]
       | 1,hq=>obtain rfl:=(Option.some.inj hq);simp[go_sem, *]
       | q+2,hq=>simp at hq
     exact HC.out.trans (((by repeat (first | (with_reducible exact HU1.out) | (with_reducible refine Upd.setCell ?_ _ (by omega) _))):Upd g (j*2) 2 ([]++ []) wr _).chg.mono (λb hb=>(List.mem_cons.1 hb).elim (λe=>e▸hgL) (HSUB.out b)))
  obtain rfl:j=l.length:=by omega
  have how:=HW.out;have hch:=HC.out;rw[List.take_length,List.drop_length,List.append_nil] at how;rw[List.take_length] at*;have HW2:=Lib.hid how;have HC2:=Lib.hid hch;clear how hch;go_wp2
  go_ret
  exact ⟨rfl,HW2.out,HC2.out⟩
theorem FE (w:World) (v:Value) (l:List Jl) (L:List Nat) (K:Int) (k:Nat) (hK:K=k) (h1:1<=k) (hk:(Qu l k).2<=4611686018427387904) (ho:own L w [v] l):Calls Tryz.prog 140 #[v,.int .i64 K] w (Oe L w [v] (Qu l k)):=by
 subst hK;obtain ⟨oa,cap,rfl⟩:=Kg ho;have hlm:l.length<=9223372036854775807:=B9 ho;have HO:=Lib.hid ho;clear ho;go_enter Tryz.func140,Tryz.ntmps140
 go_wp2
 go_loopw [1,5] (mI L w oa cap l k) (λ_ i _=>l.length-(intOf i).toNat)
 case atStart=>exact ⟨0,Nat.zero_le _,rfl,rfl,HO.out,Chg.refl _ _⟩
 case round=>
  obtain ⟨j,hj,rfl,rfl,HW,HC⟩:=hrel;by_cases hjl:j<l.length
  . have hx:=List.getElem?_eq_getElem hjl;have hsp:=Kl l k j _ hx;have hle:=Nat.le_trans (Jj l k j _ hx) hk;have hdr:=List.drop_eq_getElem_cons hjl;have hxl:=Qd8 hjl k;have hkk:k<=(Qu (l.take j) k).2:=Zd _ _;have how:=HW.out;rw[hdr] at how;clear hx hdr HW;generalize (Qu (l.take j) k).2=kk at*;generalize (Qu (l.take j) k).1=xs at*;generalize l[j]=x at*;obtain ⟨g,cap',cur,e,Li,hv,hg,hroom,hgLi,hgL,hsub,hoe,hshut⟩:=Fx how;simp only[Value.slice.injEq] at hv;obtain ⟨rfl,hq0,rfl⟩:=hv;clear hq0;rw[hxl] at hroom hoe hshut;clear hxl;rw[show GoD.n Jl=4 from rfl] at hroom hoe hshut;generalize hce:(cur.toList.drop (j*4)).take 4=ce at*;obtain ⟨v0,⟨v1,v2,v3⟩⟩:=x;obtain ⟨nd3,_,_,_,_,rfl,rfl,⟨rfl,rfl,h0⟩,⟨nd2,_,_,_,_,rfl,rfl,⟨rfl,rfl,h1⟩,⟨nd1,_,_,_,_,rfl,rfl,⟨rfl,rfl,h2⟩,⟨rfl,rfl,h3⟩⟩⟩⟩:=hoe;have p0:wr.cell? ⟨g,j*4,none⟩=some _:=Kh hg hce 0 _ rfl;have p1:wr.cell? ⟨g,j*4+1,none⟩=some _:=Kh hg hce 1 _ rfl;have p2:wr.cell? ⟨g,j*4+2,none⟩=some _:=Kh hg hce 2 _ rfl;have p3:wr.cell? ⟨g,j*4+3,none⟩=some _:=Kh hg hce 3 _ rfl;have fz:=U0 hg;have hglt:=Q8 hg;clear hce hg how;have HSH:=Lib.hid hshut;clear hshut;have HSP:=Lib.hid hsp;clear hsp;have hle:kk+1+1+1+1<=4611686018427387904:=hle;have HSUB:=Lib.hid hsub;clear hsub;have HU0:Hid (Upd g (j*4) 4 ([]++([]++([]++ []))) wr wr):=Upd.refl _ _ _ _ _;have tok1:True:=trivial;have tok2:True:=trivial;go_wp2_with (first | (go_at_call 40;have tk:=tok1;clear tok1;refine (Vf _ _ (kk) (by omega) (by omega) (by omega)).mono ?_;rintro e w1 ⟨rfl,hb⟩;have hz:=hb.size;have c1:=λo=>Zl hb g o (by go_size);have f1:=λo=>Hk hb g o (by go_size);have HU1:Hid (Upd g (j*4) 4 ([]++([]++([]++ []))) wr w1):=Upd.below (by repeat (first | (with_reducible exact HU0.out) | (with_reducible refine Upd.setCell ?_ _ (by omega) _))) hb (by go_size);(try simp only[zSm] at hz);have HB1:=Lib.hid hb;clear hb) | (go_at_call 40;have tk:=tok2;clear tok2;refine (Vf _ _ (kk+1+1+1) (by omega) (by omega) (by omega)).mono ?_;rintro e w2 ⟨rfl,hb⟩;have hz:=hb.size;have c2:=λo=>Zl hb g o (by go_size);have f2:=λo=>Hk hb g o (by go_size);have HU2:Hid (Upd g (j*4) 4 ([]++([]++([]++ []))) wr w2):=Upd.below (by repeat (first | (with_reducible exact HU1.out) | (with_reducible refine Upd.setCell ?_ _ (by omega) _))) hb (by go_size);(try simp only[zSm] at hz);have HB2:=Lib.hid hb;clear hb))
    go_roundw
    case measure=>simp[intOf];omega
    case rel=>
     refine ⟨j+1,by omega,by go_num, ?_, ?_, ?_⟩
     . show Value.int _ _=_;rw[HSP.out];show Value.int .i64 _= .int .i64 ((kk+1+1+1+1:Nat):Int);first | go_num | (congr 1<;>omega)
     . show own _ _ _ _;rw[HSP.out];simp only[List.append_assoc,List.singleton_append];refine HSH.out _ [.string (Cj (kk)),.int .i64 ((kk+1:Nat):Int),.int .i64 ((kk+1+1:Nat):Int),.string (Cj (kk+1+1+1))] _ (by repeat (first | (with_reducible exact HU2.out) | (with_reducible refine Upd.setCell ?_ _ (by omega) _))) (K6 (UN _ (Ch (by omega))) (K6 (Rs _ (Lc (kk+1) (by omega))) (K6 (Rs _ (Lc (kk+1+1) (by omega))) (UN _ (Ch (by omega))) (λx hx hy=>(List.nodup_append.1 nd1).2.2 x hx x hy rfl)) (λx hx hy=>(List.nodup_append.1 nd2).2.2 x hx x hy rfl)) (λx hx hy=>(List.nodup_append.1 nd3).2.2 x hx x hy rfl)) ?_;intro q u hq
       match q,hq with
       | 0,hq=>obtain rfl:=(Option.some.inj hq);simp[go_sem, *]
       | 1,hq=>obtain rfl:=(Option.some.inj hq);simp[go_sem, *]
       | 2,hq=>obtain rfl:=(Option.some.inj hq);simp[go_sem, *]
       | 3,hq=>obtain rfl:=(Option.some.inj hq);simp[go_sem, *]
       | q+4,hq=>simp at hq
     exact HC.out.trans (((by repeat (first | (with_reducible exact HU2.out) | (with_reducible refine Upd.setCell ?_ _ (by omega) _))):Upd g (j*4) 4 ([]++([]++([]++ []))) wr _).chg.mono (λb hb=>(List.mem_cons.1 hb).elim (λe=>e▸hgL) (HSUB.out b)))
  obtain rfl:j=l.length:=by omega
  have how:=HW.out;have hch:=HC.out;rw[List.take_length,List.drop_length,List.append_nil] at how;rw[List.take_length] at*;have HW2:=Lib.hid how;have HC2:=Lib.hid hch;clear how hch;go_wp2
  go_ret
  exact ⟨rfl,HW2.out,HC2.out⟩
theorem FF (w:World) (v:Value) (l:List Yh) (L:List Nat) (K:Int) (k:Nat) (hK:K=k) (h1:1<=k) (hk:(Qu l k).2<=4611686018427387904) (ho:own L w [v] l):Calls Tryz.prog 82 #[v,.int .i64 K] w (Oe L w [v] (Qu l k)):=by
 subst hK;obtain ⟨oa,cap,rfl⟩:=Kg ho;have hlm:l.length<=9223372036854775807:=B9 ho;have HO:=Lib.hid ho;clear ho;go_enter Tryz.func82,Tryz.ntmps82
 go_wp2
 go_loopw [1,5] (mI L w oa cap l k) (λ_ i _=>l.length-(intOf i).toNat)
 case atStart=>exact ⟨0,Nat.zero_le _,rfl,rfl,HO.out,Chg.refl _ _⟩
 case round=>
  obtain ⟨j,hj,rfl,rfl,HW,HC⟩:=hrel;by_cases hjl:j<l.length
  . have hx:=List.getElem?_eq_getElem hjl;have hsp:=Kl l k j _ hx;have hle:=Nat.le_trans (Jj l k j _ hx) hk;have hdr:=List.drop_eq_getElem_cons hjl;have hxl:=Qd8 hjl k;have hkk:k<=(Qu (l.take j) k).2:=Zd _ _;have how:=HW.out;rw[hdr] at how;clear hx hdr HW;generalize (Qu (l.take j) k).2=kk at*;generalize (Qu (l.take j) k).1=xs at*;generalize l[j]=x at*;obtain ⟨g,cap',cur,e,Li,hv,hg,hroom,hgLi,hgL,hsub,hoe,hshut⟩:=Fx how;simp only[Value.slice.injEq] at hv;obtain ⟨rfl,hq0,rfl⟩:=hv;clear hq0;rw[hxl] at hroom hoe hshut;clear hxl;rw[show GoD.n Yh=5 from rfl] at hroom hoe hshut;generalize hce:(cur.toList.drop (j*5)).take 5=ce at*;obtain ⟨v0,v1,v2,v3,v4⟩:=x;obtain ⟨nd4,_,_,_,_,rfl,rfl,⟨rfl,rfl,h0⟩,⟨nd3,_,_,_,_,rfl,rfl,⟨rfl,rfl,h1⟩,⟨nd2,_,_,_,_,rfl,rfl,⟨rfl,rfl⟩,⟨nd1,_,_,_,SL4,rfl,rfl,⟨rfl,rfl,h3⟩,so4⟩⟩⟩⟩:=hoe;obtain ⟨sv4,rfl⟩:=D9 (show _=1 from GoD.rd_len (GoD.own_rd so4));obtain ⟨oa4,cp4,rfl⟩:=Kg so4;have p0:wr.cell? ⟨g,j*5,none⟩=some _:=Kh hg hce 0 _ rfl;have p1:wr.cell? ⟨g,j*5+1,none⟩=some _:=Kh hg hce 1 _ rfl;have p2:wr.cell? ⟨g,j*5+2,none⟩=some _:=Kh hg hce 2 _ rfl;have p3:wr.cell? ⟨g,j*5+3,none⟩=some _:=Kh hg hce 3 _ rfl;have p4:wr.cell? ⟨g,j*5+4,none⟩=some _:=Kh hg hce 4 _ rfl;have fz:=U0 hg;have hglt:=Q8 hg;clear hce hg how;have HSH:=Lib.hid hshut;clear hshut;have HSP:=Lib.hid hsp;clear hsp;have hle:(Qu v4 (kk+1+1+1+1)).2<=4611686018427387904:=hle;have hb2:=RA (kk+1+1) _ (show ((kk:Int)+1+1:Int)=((kk+1+1:Nat):Int) by omega);have hm4:kk+1+1+1+1<=(Qu v4 (kk+1+1+1+1)).2:=Zd _ _;have HSO4:=Lib.hid so4;clear so4;have HSUB:=Lib.hid hsub;clear hsub;have HU0:Hid (Upd g (j*5) 5 ([]++([]++([]++([]++SL4)))) wr wr):=Upd.refl _ _ _ _ _;have tok1:True:=trivial;go_wp2_with (first | (go_at_call 140;have tk:=tok1;clear tok1;refine Bb (FE _ _ v4 SL4 _ (kk+1+1+1+1) (by omega) (by omega) (by omega) (by repeat (first | (with_reducible exact HSO4.out) | (refine Un ?_ (λhm=>hgLi (List.mem_append.2 (.inr (List.mem_append.2 (.inr (List.mem_append.2 (.inr (List.mem_append.2 (.inr hm))))))))))))) ?_;intro w1 ho1 hch hz;have c1:=λo=>hch.cell (b:=g) (by go_size) (λhm=>hgLi (List.mem_append.2 (.inr (List.mem_append.2 (.inr (List.mem_append.2 (.inr (List.mem_append.2 (.inr hm))))))))) o;have f1:=λo=>hch.frozen (b:=g) (by go_size) (λhm=>hgLi (List.mem_append.2 (.inr (List.mem_append.2 (.inr (List.mem_append.2 (.inr (List.mem_append.2 (.inr hm))))))))) o;have HU1:Hid (Upd g (j*5) 5 ([]++([]++([]++([]++SL4)))) wr w1):=Upd.mark (by repeat (first | (with_reducible exact HU0.out) | (with_reducible refine Upd.setCell ?_ _ (by omega) _))) hch (λb hm=>(List.mem_append.2 (.inr (List.mem_append.2 (.inr (List.mem_append.2 (.inr (List.mem_append.2 (.inr hm))))))))) (λhm=>hgLi (List.mem_append.2 (.inr (List.mem_append.2 (.inr (List.mem_append.2 (.inr (List.mem_append.2 (.inr hm))))))))) (by go_size);(try simp only[zSm] at hz);have HB1:=Lib.hid hch;clear hch;have HM1:=Lib.hid ho1;clear ho1))
    go_roundw
    case measure=>simp[intOf];omega
    case rel=>
     refine ⟨j+1,by omega,by go_num, ?_, ?_, ?_⟩
     . show Value.int _ _=_;rw[HSP.out];show Value.int .i64 _= .int .i64 (((Qu v4 (kk+1+1+1+1)).2:Nat):Int);first | go_num | (congr 1<;>omega)
     . show own _ _ _ _;rw[HSP.out];simp only[List.append_assoc,List.singleton_append];refine HSH.out _ [.int .i64 ((kk:Nat):Int),.int .i64 ((kk+1:Nat):Int),.bool ((kk+1+1) % 3==0),.int .i64 ((kk+1+1+1:Nat):Int),.slice oa4 v4.length cp4] _ (by repeat (first | (with_reducible exact HU1.out) | (with_reducible refine Upd.setCell ?_ _ (by omega) _))) (K6 (Rs _ (Lc (kk) (by omega))) (K6 (Rs _ (Lc (kk+1) (by omega))) (K6 (Qh1 _ _) (K6 (Rs _ (Lc (kk+1+1+1) (by omega))) (show own SL4 _ [.slice oa4 v4.length cp4] (Qu v4 (kk+1+1+1+1)).1 by repeat (first | (with_reducible exact HM1.out) | (refine Un ?_ (λhm=>hgLi (List.mem_append.2 (.inr (List.mem_append.2 (.inr (List.mem_append.2 (.inr (List.mem_append.2 (.inr hm)))))))))))) (λx hx hy=>(List.nodup_append.1 nd1).2.2 x hx x hy rfl)) (λx hx hy=>(List.nodup_append.1 nd2).2.2 x hx x hy rfl)) (λx hx hy=>(List.nodup_append.1 nd3).2.2 x hx x hy rfl)) (λx hx hy=>(List.nodup_append.1 nd4).2.2 x hx x hy rfl)) ?_;intro q u hq
       match q,hq with
       | 0,hq=>obtain rfl:=(Option.some.inj hq);simp[go_sem, *]
       | 1,hq=>obtain rfl:=(Option.some.inj hq);simp[go_sem, *]
       | 2,hq=>obtain rfl:=(Option.some.inj hq);simp[go_sem, *]
       | 3,hq=>obtain rfl:=(Option.some.inj hq);simp[go_sem, *]
       | 4,hq=>obtain rfl:=(Option.some.inj hq);simp[go_sem, *]
       | q+5,hq=>simp at hq
     exact HC.out.trans (((by repeat (first | (with_reducible exact HU1.out) | (with_reducible refine Upd.setCell ?_ _ (by omega) _))):Upd g (j*5) 5 ([]++([]++([]++([]++SL4)))) wr _).chg.mono (λb hb=>(List.mem_cons.1 hb).elim (λe=>e▸hgL) (HSUB.out b)))
  obtain rfl:j=l.length:=by omega
  have how:=HW.out;have hch:=HC.out;rw[List.take_length,List.drop_length,List.append_nil] at how;rw[List.take_length] at*;have HW2:=Lib.hid how;have HC2:=Lib.hid hch;clear how hch;go_wp2
  go_ret
  exact ⟨rfl,HW2.out,HC2.out⟩
theorem FG (w:World) (ca:List Value) (a:X1) (L:List Nat) (K:Int) (k:Nat) (hK:K=k) (h1:1<=k) (hk:(GoD.markT a k).2<=4611686018427387904) (ho:own L w ca a):Calls Tryz.prog 37 #[.agg ca.toArray,.int .i64 K] w (Oe L w ca (GoD.markT a k)):=by
 subst hK;obtain ⟨b1,b2,b3⟩:=a;have hk:(Qu b2 ((Qu b1 (k)).2)).2<=4611686018427387904:=hk;have hlt:=GoD.own_lt ho;obtain ⟨nd0,_,_,SL0,_,rfl,rfl,so0,⟨nd1,_,_,SL1,_,rfl,rfl,so1,⟨rfl,rfl,h2⟩⟩⟩:=ho;obtain ⟨ax0_0,rfl⟩:=D9 (show _=1 from GoD.rd_len (GoD.own_rd so0));have HSO0:=Lib.hid so0;clear so0;have hm0:k<=(Qu b1 (k)).2:=Zd _ _;obtain ⟨ax1_0,rfl⟩:=D9 (show _=1 from GoD.rd_len (GoD.own_rd so1));have HSO1:=Lib.hid so1;clear so1;have hm1:(Qu b1 (k)).2<=(Qu b2 ((Qu b1 (k)).2)).2:=Zd _ _;show Calls Tryz.prog 37 #[.agg #[ax0_0,ax1_0,.int .i64 b3],.int .i64 (k:Int)] w (Oe (SL0++(SL1++ [])) w [ax0_0,ax1_0,.int .i64 b3] (GoD.markT ((b1,b2,b3):X1) k));have HLT:=Lib.hid hlt;clear hlt;have tok1:True:=trivial;have tok2:True:=trivial;go_enter Tryz.func37,Tryz.ntmps37
 go_wp2_with (first | (go_at_call 81;have tk:=tok1;clear tok1;refine Bb (CH _ ax0_0 b1 SL0 _ (k) (by omega) (by omega) (show (Qu b1 (k)).2<=4611686018427387904 by omega) (by repeat (first | (with_reducible exact HSO0.out) | (refine Ba ?_)))) ?_;intro w1 ho1 hch hz;have c1:=λo=>hch.cell (b:=w.heap.size) (by go_size) (λhm=>by have:=HLT.out _ (List.mem_append.2 (.inl hm));omega) o;(try simp only[zSm] at hz);have HB1:=Lib.hid hch;clear hch;have HM1:=Lib.hid ho1;clear ho1) | (go_at_call 82;have tk:=tok2;clear tok2;refine Bb (FF _ ax1_0 b2 SL1 _ ((Qu b1 (k)).2) (by omega) (by omega) (show (Qu b2 ((Qu b1 (k)).2)).2<=4611686018427387904 by omega) (by repeat (first | (with_reducible exact HSO1.out) | (refine Ba ?_) | (refine F8 ?_ HB1.out (λb hb1 hb2=>(List.nodup_append.1 nd0).2.2 _ hb2 _ (List.mem_append.2 (.inl hb1)) rfl))))) ?_;intro w2 ho2 hch hz;have c2:=λo=>hch.cell (b:=w.heap.size) (by go_size) (λhm=>by have:=HLT.out _ (List.mem_append.2 (.inr (List.mem_append.2 (.inl hm))));omega) o;(try simp only[zSm] at hz);have HB2:=Lib.hid hch;clear hch;have HM2:=Lib.hid ho2;clear ho2))
 go_ret
 refine ⟨rfl, ?_, ?_⟩
 . show own (SL0++(SL1++ [])) _ [ax0_0,ax1_0,.int .i64 b3] _;exact (K6 (show own SL0 _ [ax0_0] (Qu b1 (k)).1 by repeat (first | (with_reducible exact HM1.out) | (refine Ba ?_) | (refine F8 ?_ HB2.out (λb hb1 hb2=>(List.nodup_append.1 nd0).2.2 _ hb1 _ (List.mem_append.2 (.inl hb2)) rfl)))) (K6 (show own SL1 _ [ax1_0] (Qu b2 ((Qu b1 (k)).2)).1 by repeat (first | (with_reducible exact HM2.out) | (refine Ba ?_))) (Rs _ h2) (λx hx hy=>(List.nodup_append.1 nd1).2.2 x hx x hy rfl)) (λx hx hy=>(List.nodup_append.1 nd0).2.2 x hx x hy rfl))
 show Chg (SL0++(SL1++ [])) w _;exact ((Chg.of_below (show Below w.heap.size w _ by go_grown)).trans (HB1.out.mono (λb hm=>(List.mem_append.2 (.inl hm))))).trans (HB2.out.mono (λb hm=>(List.mem_append.2 (.inr (List.mem_append.2 (.inl hm))))))
theorem UB (w:World) (v:Value) (l:List Qg) (L:List Nat) (K:Int) (k:Nat) (hK:K=k) (h1:1<=k) (hk:(Qu l k).2<=4611686018427387904) (ho:own L w [v] l):Calls Tryz.prog 39 #[v,.int .i64 K] w (Oe L w [v] (Qu l k)):=by
 subst hK;obtain ⟨oa,cap,rfl⟩:=Kg ho;have hlm:l.length<=9223372036854775807:=B9 ho;have HO:=Lib.hid ho;clear ho;go_enter Tryz.func39,Tryz.ntmps39
 go_wp2
 go_loopw [1,5] (mI L w oa cap l k) (λ_ i _=>l.length-(intOf i).toNat)
 case atStart=>exact ⟨0,Nat.zero_le _,rfl,rfl,HO.out,Chg.refl _ _⟩
 case round=>
  obtain ⟨j,hj,rfl,rfl,HW,HC⟩:=hrel;by_cases hjl:j<l.length
  . have hx:=List.getElem?_eq_getElem hjl;have hsp:=Kl l k j _ hx;have hle:=Nat.le_trans (Jj l k j _ hx) hk;have hdr:=List.drop_eq_getElem_cons hjl;have hxl:=Qd8 hjl k;have hkk:k<=(Qu (l.take j) k).2:=Zd _ _;have how:=HW.out;rw[hdr] at how;clear hx hdr HW;generalize (Qu (l.take j) k).2=kk at*;generalize (Qu (l.take j) k).1=xs at*;generalize l[j]=x at*;obtain ⟨g,cap',cur,e,Li,hv,hg,hroom,hgLi,hgL,hsub,hoe,hshut⟩:=Fx how;simp only[Value.slice.injEq] at hv;obtain ⟨rfl,hq0,rfl⟩:=hv;clear hq0;rw[hxl] at hroom hoe hshut;clear hxl;rw[show GoD.n Qg=2 from rfl] at hroom hoe hshut;generalize hce:(cur.toList.drop (j*2)).take 2=ce at*;obtain ⟨v0,v1⟩:=x;obtain ⟨nd1,_,_,_,SL1,rfl,rfl,⟨rfl,rfl,h0⟩,so1⟩:=hoe;obtain ⟨sv1,rfl⟩:=D9 (show _=1 from GoD.rd_len (GoD.own_rd so1));obtain ⟨oa1,cp1,rfl⟩:=Kg so1;have p0:wr.cell? ⟨g,j*2,none⟩=some _:=Kh hg hce 0 _ rfl;have p1:wr.cell? ⟨g,j*2+1,none⟩=some _:=Kh hg hce 1 _ rfl;have fz:=U0 hg;have hglt:=Q8 hg;clear hce hg how;have HSH:=Lib.hid hshut;clear hshut;have HSP:=Lib.hid hsp;clear hsp;have hle:(Qu v1 (kk+1)).2<=4611686018427387904:=hle;have hm1:kk+1<=(Qu v1 (kk+1)).2:=Zd _ _;have HSO1:=Lib.hid so1;clear so1;have HSUB:=Lib.hid hsub;clear hsub;have HU0:Hid (Upd g (j*2) 2 ([]++SL1) wr wr):=Upd.refl _ _ _ _ _;have tok1:True:=trivial;have tok2:True:=trivial;go_wp2_with (first | (go_at_call 40;have tk:=tok1;clear tok1;refine (Vf _ _ (kk) (by omega) (by omega) (by omega)).mono ?_;rintro e w1 ⟨rfl,hb⟩;have hz:=hb.size;have c1:=λo=>Zl hb g o (by go_size);have f1:=λo=>Hk hb g o (by go_size);have HU1:Hid (Upd g (j*2) 2 ([]++SL1) wr w1):=Upd.below (by repeat (first | (with_reducible exact HU0.out) | (with_reducible refine Upd.setCell ?_ _ (by omega) _))) hb (by go_size);(try simp only[zSm] at hz);have HB1:=Lib.hid hb;clear hb) | (go_at_call 13;have tk:=tok2;clear tok2;refine Bb (Ng _ _ v1 SL1 _ (kk+1) (by omega) (by omega) (by omega) (by repeat (first | (with_reducible exact HSO1.out) | (refine Un ?_ (λhm=>hgLi (List.mem_append.2 (.inr hm)))) | (with_reducible refine Ll ?_ HB1.out)))) ?_;intro w2 ho2 hch hz;have c2:=λo=>hch.cell (b:=g) (by go_size) (λhm=>hgLi (List.mem_append.2 (.inr hm))) o;have f2:=λo=>hch.frozen (b:=g) (by go_size) (λhm=>hgLi (List.mem_append.2 (.inr hm))) o;have HU2:Hid (Upd g (j*2) 2 ([]++SL1) wr w2):=Upd.mark (by repeat (first | (with_reducible exact HU1.out) | (with_reducible refine Upd.setCell ?_ _ (by omega) _))) hch (λb hm=>(List.mem_append.2 (.inr hm))) (λhm=>hgLi (List.mem_append.2 (.inr hm))) (by go_size);(try simp only[zSm] at hz);have HB2:=Lib.hid hch;clear hch;have HM2:=Lib.hid ho2;clear ho2))
    go_roundw
    case measure=>simp[intOf];omega
    case rel=>
     refine ⟨j+1,by omega,by go_num, ?_, ?_, ?_⟩
     . show Value.int _ _=_;rw[HSP.out];show Value.int .i64 _= .int .i64 (((Qu v1 (kk+1)).2:Nat):Int);first | go_num | (congr 1<;>omega)
     . show own _ _ _ _;rw[HSP.out];simp only[List.append_assoc,List.singleton_append];refine HSH.out _ [.string (Cj (kk)),.slice oa1 v1.length cp1] _ (by repeat (first | (with_reducible exact HU2.out) | (with_reducible refine Upd.setCell ?_ _ (by omega) _))) (K6 (UN _ (Ch (by omega))) (show own SL1 _ [.slice oa1 v1.length cp1] (Qu v1 (kk+1)).1 by repeat (first | (with_reducible exact HM2.out) | (refine Un ?_ (λhm=>hgLi (List.mem_append.2 (.inr hm)))))) (λx hx hy=>(List.nodup_append.1 nd1).2.2 x hx x hy rfl)) ?_;intro q u hq
       match q,hq with
       | 0,hq=>obtain rfl:=(Option.some.inj hq);simp[go_sem, *]
       | 1,hq=>obtain rfl:=(Option.some.inj hq);simp[go_sem, *]
       | q+2,hq=>simp at hq
     exact HC.out.trans (((by repeat (first | (with_reducible exact HU2.out) | (with_reducible refine Upd.setCell ?_ _ (by omega) _))):Upd g (j*2) 2 ([]++SL1) wr _).chg.mono (λb hb=>(List.mem_cons.1 hb).elim (λe=>e▸hgL) (HSUB.out b)))
  obtain rfl:j=l.length:=by omega
  have how:=HW.out;have hch:=HC.out;rw[List.take_length,List.drop_length,List.append_nil] at how;rw[List.take_length] at*;have HW2:=Lib.hid how;have HC2:=Lib.hid hch;clear how hch;go_wp2
  go_ret
  exact ⟨rfl,HW2.out,HC2.out⟩
theorem UC (w:World) (ca:List Value) (a:Yb) (L:List Nat) (K:Int) (k:Nat) (hK:K=k) (h1:1<=k) (hk:(GoD.markT a k).2<=4611686018427387904) (ho:own L w ca a):Calls Tryz.prog 11 #[.agg ca.toArray,.int .i64 K] w (Oe L w ca (GoD.markT a k)):=by
 subst hK;obtain ⟨b1,b2,b3⟩:=a;have hk:(Qu b3 ((Qu b2 ((GoD.markT b1 (k)).2)).2)).2<=4611686018427387904:=hk;have hlt:=GoD.own_lt ho;obtain ⟨nd0,_,_,SL0,_,rfl,rfl,so0,⟨nd1,_,_,SL1,SL2,rfl,rfl,so1,so2⟩⟩:=ho;obtain ⟨ax0_0,ax0_1,ax0_2,rfl⟩:=Qg2 (show _=3 from GoD.rd_len (GoD.own_rd so0));have HSO0:=Lib.hid so0;clear so0;have hm0:k<=(GoD.markT b1 (k)).2:=GoD.mkT_le _ _;obtain ⟨ax1_0,rfl⟩:=D9 (show _=1 from GoD.rd_len (GoD.own_rd so1));have HSO1:=Lib.hid so1;clear so1;have hm1:(GoD.markT b1 (k)).2<=(Qu b2 ((GoD.markT b1 (k)).2)).2:=Zd _ _;obtain ⟨ax2_0,rfl⟩:=D9 (show _=1 from GoD.rd_len (GoD.own_rd so2));have HSO2:=Lib.hid so2;clear so2;have hm2:(Qu b2 ((GoD.markT b1 (k)).2)).2<=(Qu b3 ((Qu b2 ((GoD.markT b1 (k)).2)).2)).2:=Zd _ _;show Calls Tryz.prog 11 #[.agg #[ax0_0,ax0_1,ax0_2,ax1_0,ax2_0],.int .i64 (k:Int)] w (Oe (SL0++(SL1++SL2)) w [ax0_0,ax0_1,ax0_2,ax1_0,ax2_0] (GoD.markT ((b1,b2,b3):Yb) k));have HLT:=Lib.hid hlt;clear hlt;have tok1:True:=trivial;have tok2:True:=trivial;have tok3:True:=trivial;go_enter Tryz.func11,Tryz.ntmps11
 go_wp2_with (first | (go_at_call 37;have tk:=tok1;clear tok1;refine Bb (FG _ [ax0_0,ax0_1,ax0_2] b1 SL0 _ (k) (by omega) (by omega) (show (GoD.markT b1 (k)).2<=4611686018427387904 by omega) (by repeat (first | (with_reducible exact HSO0.out) | (refine Ba ?_)))) ?_;intro w1 ho1 hch hz;have c1:=λo=>hch.cell (b:=w.heap.size) (by go_size) (λhm=>by have:=HLT.out _ (List.mem_append.2 (.inl hm));omega) o;(try simp only[zSm] at hz);have HB1:=Lib.hid hch;clear hch;have HM1:=Lib.hid ho1;clear ho1) | (go_at_call 38;have tk:=tok2;clear tok2;refine Bb (NM _ ax1_0 b2 SL1 _ ((GoD.markT b1 (k)).2) (by omega) (by omega) (show (Qu b2 ((GoD.markT b1 (k)).2)).2<=4611686018427387904 by omega) (by repeat (first | (with_reducible exact HSO1.out) | (refine Ba ?_) | (refine F8 ?_ HB1.out (λb hb1 hb2=>(List.nodup_append.1 nd0).2.2 _ hb2 _ (List.mem_append.2 (.inl hb1)) rfl))))) ?_;intro w2 ho2 hch hz;have c2:=λo=>hch.cell (b:=w.heap.size) (by go_size) (λhm=>by have:=HLT.out _ (List.mem_append.2 (.inr (List.mem_append.2 (.inl hm))));omega) o;(try simp only[zSm] at hz);have HB2:=Lib.hid hch;clear hch;have HM2:=Lib.hid ho2;clear ho2) | (go_at_call 39;have tk:=tok3;clear tok3;refine Bb (UB _ ax2_0 b3 SL2 _ ((Qu b2 ((GoD.markT b1 (k)).2)).2) (by omega) (by omega) (show (Qu b3 ((Qu b2 ((GoD.markT b1 (k)).2)).2)).2<=4611686018427387904 by omega) (by repeat (first | (with_reducible exact HSO2.out) | (refine Ba ?_) | (refine F8 ?_ HB2.out (λb hb1 hb2=>(List.nodup_append.1 nd1).2.2 _ hb2 _ hb1 rfl)) | (refine F8 ?_ HB1.out (λb hb1 hb2=>(List.nodup_append.1 nd0).2.2 _ hb2 _ (List.mem_append.2 (.inr hb1)) rfl))))) ?_;intro w3 ho3 hch hz;have c3:=λo=>hch.cell (b:=w.heap.size) (by go_size) (λhm=>by have:=HLT.out _ (List.mem_append.2 (.inr (List.mem_append.2 (.inr hm))));omega) o;(try simp only[zSm] at hz);have HB3:=Lib.hid hch;clear hch;have HM3:=Lib.hid ho3;clear ho3))
 go_ret
 refine ⟨rfl, ?_, ?_⟩
 . show own (SL0++(SL1++SL2)) _ [ax0_0,ax0_1,ax0_2,ax1_0,ax2_0] _;exact (K6 (show own SL0 _ [ax0_0,ax0_1,ax0_2] (GoD.markT b1 (k)).1 by repeat (first | (with_reducible exact HM1.out) | (refine Ba ?_) | (refine F8 ?_ HB3.out (λb hb1 hb2=>(List.nodup_append.1 nd0).2.2 _ hb1 _ (List.mem_append.2 (.inr hb2)) rfl)) | (refine F8 ?_ HB2.out (λb hb1 hb2=>(List.nodup_append.1 nd0).2.2 _ hb1 _ (List.mem_append.2 (.inl hb2)) rfl)))) (K6 (show own SL1 _ [ax1_0] (Qu b2 ((GoD.markT b1 (k)).2)).1 by repeat (first | (with_reducible exact HM2.out) | (refine Ba ?_) | (refine F8 ?_ HB3.out (λb hb1 hb2=>(List.nodup_append.1 nd1).2.2 _ hb1 _ hb2 rfl)))) (show own SL2 _ [ax2_0] (Qu b3 ((Qu b2 ((GoD.markT b1 (k)).2)).2)).1 by repeat (first | (with_reducible exact HM3.out) | (refine Ba ?_))) (λx hx hy=>(List.nodup_append.1 nd1).2.2 x hx x hy rfl)) (λx hx hy=>(List.nodup_append.1 nd0).2.2 x hx x hy rfl))
 show Chg (SL0++(SL1++SL2)) w _;exact (((Chg.of_below (show Below w.heap.size w _ by go_grown)).trans (HB1.out.mono (λb hm=>(List.mem_append.2 (.inl hm))))).trans (HB2.out.mono (λb hm=>(List.mem_append.2 (.inr (List.mem_append.2 (.inl hm))))))).trans (HB3.out.mono (λb hm=>(List.mem_append.2 (.inr (List.mem_append.2 (.inr hm))))))
theorem FH (w:World) (v:Value) (l:List Cs) (L:List Nat) (K:Int) (k:Nat) (hK:K=k) (h1:1<=k) (hk:(Qu l k).2<=4611686018427387904) (ho:own L w [v] l):Calls Tryz.prog 12 #[v,.int .i64 K] w (Oe L w [v] (Qu l k)):=by
 subst hK;obtain ⟨oa,cap,rfl⟩:=Kg ho;have hlm:l.length<=9223372036854775807:=B9 ho;have HO:=Lib.hid ho;clear ho;go_enter Tryz.func12,Tryz.ntmps12
 go_wp2
 go_loopw [1,5] (mI L w oa cap l k) (λ_ i _=>l.length-(intOf i).toNat)
 case atStart=>exact ⟨0,Nat.zero_le _,rfl,rfl,HO.out,Chg.refl _ _⟩
 case round=>
  obtain ⟨j,hj,rfl,rfl,HW,HC⟩:=hrel;by_cases hjl:j<l.length
  . have hx:=List.getElem?_eq_getElem hjl;have hsp:=Kl l k j _ hx;have hle:=Nat.le_trans (Jj l k j _ hx) hk;have hdr:=List.drop_eq_getElem_cons hjl;have hxl:=Qd8 hjl k;have hkk:k<=(Qu (l.take j) k).2:=Zd _ _;have how:=HW.out;rw[hdr] at how;clear hx hdr HW;generalize (Qu (l.take j) k).2=kk at*;generalize (Qu (l.take j) k).1=xs at*;generalize l[j]=x at*;obtain ⟨g,cap',cur,e,Li,hv,hg,hroom,hgLi,hgL,hsub,hoe,hshut⟩:=Fx how;simp only[Value.slice.injEq] at hv;obtain ⟨rfl,hq0,rfl⟩:=hv;clear hq0;rw[hxl] at hroom hoe hshut;clear hxl;rw[show GoD.n Cs=3 from rfl] at hroom hoe hshut;generalize hce:(cur.toList.drop (j*3)).take 3=ce at*;obtain ⟨v0,v1,v2⟩:=x;obtain ⟨nd2,_,_,_,_,rfl,rfl,⟨rfl,rfl,h0⟩,⟨nd1,_,_,SL1,SL2,rfl,rfl,so1,so2⟩⟩:=hoe;obtain ⟨sv1,rfl⟩:=D9 (show _=1 from GoD.rd_len (GoD.own_rd so1));obtain ⟨oa1,cp1,rfl⟩:=Kg so1;obtain ⟨sv2,rfl⟩:=D9 (show _=1 from GoD.rd_len (GoD.own_rd so2));obtain ⟨oa2,cp2,rfl⟩:=Kg so2;have p0:wr.cell? ⟨g,j*3,none⟩=some _:=Kh hg hce 0 _ rfl;have p1:wr.cell? ⟨g,j*3+1,none⟩=some _:=Kh hg hce 1 _ rfl;have p2:wr.cell? ⟨g,j*3+2,none⟩=some _:=Kh hg hce 2 _ rfl;have fz:=U0 hg;have hglt:=Q8 hg;clear hce hg how;have HSH:=Lib.hid hshut;clear hshut;have HSP:=Lib.hid hsp;clear hsp;have hle:(Qu v2 ((Qu v1 (kk+1)).2)).2<=4611686018427387904:=hle;have hm1:kk+1<=(Qu v1 (kk+1)).2:=Zd _ _;have hm2:(Qu v1 (kk+1)).2<=(Qu v2 ((Qu v1 (kk+1)).2)).2:=Zd _ _;have HSO1:=Lib.hid so1;clear so1;have HSO2:=Lib.hid so2;clear so2;have HSUB:=Lib.hid hsub;clear hsub;have HU0:Hid (Upd g (j*3) 3 ([]++(SL1++SL2)) wr wr):=Upd.refl _ _ _ _ _;have tok1:True:=trivial;have tok2:True:=trivial;have tok3:True:=trivial;go_wp2_with (first | (go_at_call 40;have tk:=tok1;clear tok1;refine (Vf _ _ (kk) (by omega) (by omega) (by omega)).mono ?_;rintro e w1 ⟨rfl,hb⟩;have hz:=hb.size;have c1:=λo=>Zl hb g o (by go_size);have f1:=λo=>Hk hb g o (by go_size);have HU1:Hid (Upd g (j*3) 3 ([]++(SL1++SL2)) wr w1):=Upd.below (by repeat (first | (with_reducible exact HU0.out) | (with_reducible refine Upd.setCell ?_ _ (by omega) _))) hb (by go_size);(try simp only[zSm] at hz);have HB1:=Lib.hid hb;clear hb) | (go_at_call 13;have tk:=tok2;clear tok2;refine Bb (Ng _ _ v1 SL1 _ (kk+1) (by omega) (by omega) (by omega) (by repeat (first | (with_reducible exact HSO1.out) | (refine Un ?_ (λhm=>hgLi (List.mem_append.2 (.inr (List.mem_append.2 (.inl hm)))))) | (with_reducible refine Ll ?_ HB1.out)))) ?_;intro w2 ho2 hch hz;have c2:=λo=>hch.cell (b:=g) (by go_size) (λhm=>hgLi (List.mem_append.2 (.inr (List.mem_append.2 (.inl hm))))) o;have f2:=λo=>hch.frozen (b:=g) (by go_size) (λhm=>hgLi (List.mem_append.2 (.inr (List.mem_append.2 (.inl hm))))) o;have HU2:Hid (Upd g (j*3) 3 ([]++(SL1++SL2)) wr w2):=Upd.mark (by repeat (first | (with_reducible exact HU1.out) | (with_reducible refine Upd.setCell ?_ _ (by omega) _))) hch (λb hm=>(List.mem_append.2 (.inr (List.mem_append.2 (.inl hm))))) (λhm=>hgLi (List.mem_append.2 (.inr (List.mem_append.2 (.inl hm))))) (by go_size);(try simp only[zSm] at hz);have HB2:=Lib.hid hch;clear hch;have HM2:=Lib.hid ho2;clear ho2) | (go_at_call 13;have tk:=tok3;clear tok3;refine Bb (Ng _ _ v2 SL2 _ ((Qu v1 (kk+1)).2) (by omega) (by omega) (by omega) (by repeat (first | (with_reducible exact HSO2.out) | (refine Un ?_ (λhm=>hgLi (List.mem_append.2 (.inr (List.mem_append.2 (.inr hm)))))) | (refine F8 ?_ HB2.out (λb hb1 hb2=>(List.nodup_append.1 nd1).2.2 _ hb2 _ hb1 rfl)) | (with_reducible refine Ll ?_ HB1.out)))) ?_;intro w3 ho3 hch hz;have c3:=λo=>hch.cell (b:=g) (by go_size) (λhm=>hgLi (List.mem_append.2 (.inr (List.mem_append.2 (.inr hm))))) o;have f3:=λo=>hch.frozen (b:=g) (by go_size) (λhm=>hgLi (List.mem_append.2 (.inr (List.mem_append.2 (.inr hm))))) o;have HU3:Hid (Upd g (j*3) 3 ([]++(SL1++SL2)) wr w3):=Upd.mark (by repeat (first | (with_reducible exact HU2.out) | (with_reducible refine Upd.setCell ?_ _ (by omega) _))) hch (λb hm=>(List.mem_append.2 (.inr (List.mem_append.2 (.inr hm))))) (λhm=>hgLi (List.mem_append.2 (.inr (List.mem_append.2 (.inr hm))))) (by go_size);(try simp only[zSm] at hz);have HB3:=Lib.hid hch;clear hch;have HM3:=Lib.hid ho3;clear ho3))
    go_roundw
    case measure=>simp[intOf];omega
    case rel=>
     refine ⟨j+1,by omega,by go_num, ?_, ?_, ?_⟩
     . show Value.int _ _=_;rw[HSP.out];show Value.int .i64 _= .int .i64 (((Qu v2 ((Qu v1 (kk+1)).2)).2:Nat):Int);first | go_num | (congr 1<;>omega)
     . show own _ _ _ _;rw[HSP.out];simp only[List.append_assoc,List.singleton_append];refine HSH.out _ [.string (Cj (kk)),.slice oa1 v1.length cp1,.slice oa2 v2.length cp2] _ (by repeat (first | (with_reducible exact HU3.out) | (with_reducible refine Upd.setCell ?_ _ (by omega) _))) (K6 (UN _ (Ch (by omega))) (K6 (show own SL1 _ [.slice oa1 v1.length cp1] (Qu v1 (kk+1)).1 by repeat (first | (with_reducible exact HM2.out) | (refine Un ?_ (λhm=>hgLi (List.mem_append.2 (.inr (List.mem_append.2 (.inl hm)))))) | (refine F8 ?_ HB3.out (λb hb1 hb2=>(List.nodup_append.1 nd1).2.2 _ hb1 _ hb2 rfl)))) (show own SL2 _ [.slice oa2 v2.length cp2] (Qu v2 ((Qu v1 (kk+1)).2)).1 by repeat (first | (with_reducible exact HM3.out) | (refine Un ?_ (λhm=>hgLi (List.mem_append.2 (.inr (List.mem_append.2 (.inr hm)))))))) (λx hx hy=>(List.nodup_append.1 nd1).2.2 x hx x hy rfl)) (λx hx hy=>(List.nodup_append.1 nd2).2.2 x hx x hy rfl)) ?_;intro q u hq
       match q,hq with
       | 0,hq=>obtain rfl:=(Option.some.inj hq);simp[go_sem, *]
       | 1,hq=>obtain rfl:=(Option.some.inj hq);simp[go_sem, *]
       | 2,hq=>obtain rfl:=(Option.some.inj hq);simp[go_sem, *]
       | q+3,hq=>simp at hq
     exact HC.out.trans (((by repeat (first | (with_reducible exact HU3.out) | (with_reducible refine Upd.setCell ?_ _ (by omega) _))):Upd g (j*3) 3 ([]++(SL1++SL2)) wr _).chg.mono (λb hb=>(List.mem_cons.1 hb).elim (λe=>e▸hgL) (HSUB.out b)))
  obtain rfl:j=l.length:=by omega
  have how:=HW.out;have hch:=HC.out;rw[List.take_length,List.drop_length,List.append_nil] at how;rw[List.take_length] at*;have HW2:=Lib.hid how;have HC2:=Lib.hid hch;clear how hch;go_wp2
  go_ret
  exact ⟨rfl,HW2.out,HC2.out⟩
end
section
open Go.RowKit
open GoD (rd own)
set_option maxRecDepth 100000
set_option maxHeartbeats 1000000
theorem cBh {w v:World} {a:Addr} {x:Value} (hB:Below w.heap.size w v) (h:w.cell? a=some x):v.cell? a=some x:=(hB.cell (World.block_lt_of_cell? w _ h)).trans h
theorem zSh:(∀(w:World) o,(w.alloc o).heap.size=w.heap.size+1)/\(∀(w:World) a v,(w.setCell a v).heap.size=w.heap.size)/\∀w:World,w.drew.heap.size=w.heap.size:=⟨λ_ _=>World.size_alloc ..,λ_ _ _=>World.size_setCell ..,λ_=>rfl⟩
theorem FI (w:World) (v:Value) (l l':List Jl) (K:Int) (k:Nat) (hK:K=k) (h1:1<=k) (hk:(Qu l k).2<=4611686018427387904) (hl':l'=(Qu l k).1) (ha:rd w [v] l'):Calls Tryz.prog 141 #[v,.int .i64 K] w (Ret w (.int .i64 ((Qu l k).2:Nat))):=by
 subst hK hl';obtain ⟨oa,cap,e1,hl,hm,hel⟩:=ha;obtain rfl:v=_:=by simpa using e1
 clear e1;have HE:=Lib.hid hel;clear hel;rw[K3] at hl⊢;unfold maxLen at hm;have hlm:l.length<=9223372036854775807:=by omega
 generalize hfin:(Qu l k).2=fin at*;have HF:=Lib.hid hfin;clear hfin;go_enter Tryz.func141,Tryz.ntmps141
 go_wp2
 go_loopw [1,5] (λq i wr=>∃j:Nat,j<=l.length/\i= .int .i64 j/\q= .int .i64 ((Qu (l.take j) k).2:Nat)/\Below w.heap.size w wr) (λ_ i _=>l.length-(intOf i).toNat)
 case atStart=>exact ⟨0,Nat.zero_le _,rfl,rfl,Below.refl _ _⟩
 case round=>
  obtain ⟨j,hj,rfl,rfl,hB⟩:=hrel;by_cases hjl:j<l.length
  . have hx:=List.getElem?_eq_getElem hjl;have hsp:=Kl l k j _ hx;have hle:=Nat.le_trans (Jj l k j _ hx) (Nat.le_trans (Nat.le_of_eq HF.out) hk);have hkk:k<=(Qu (l.take j) k).2:=Zd _ _;obtain ⟨eb,eo,ee,rfl,hcl,hcc,hxr⟩:=HE.out j _ (D0 l k j _ hx);clear hx;generalize (Qu (l.take j) k).2=kk at*;generalize (Qu (l.take j) k).1=xs at*;generalize l[j]=x at*;obtain ⟨v0,⟨v1,v2,v3⟩⟩:=x;have HSP:Hid (_=(xs++ [(((Cj (kk),(((kk+1:Nat):Int),((kk+1+1:Nat):Int),Cj (kk+1+1+1))):Jl))],kk+1+1+1+1)):=hsp;clear hsp;have hle:kk+1+1+1+1<=4611686018427387904:=hle;have hxr:rd w ee ((Cj (kk),(((kk+1:Nat):Int),((kk+1+1:Nat):Int),Cj (kk+1+1+1))):Jl):=hxr;obtain ⟨_,_,rfl,⟨rfl,_⟩,⟨_,_,rfl,⟨rfl,_⟩,⟨_,_,rfl,⟨rfl,_⟩,⟨rfl,_⟩⟩⟩⟩:=hxr;have q0:w.cell? ⟨eb,eo+j*4,none⟩=some _:=hcc 0 _ rfl;have q1:w.cell? ⟨eb,eo+j*4+1,none⟩=some _:=hcc 1 _ rfl;have q2:w.cell? ⟨eb,eo+j*4+2,none⟩=some _:=hcc 2 _ rfl;have q3:w.cell? ⟨eb,eo+j*4+3,none⟩=some _:=hcc 3 _ rfl;have HQ:=Lib.hid (show True from trivial);have Q0:=Lib.hid q0;clear q0;have Q1:=Lib.hid q1;clear q1;have Q2:=Lib.hid q2;clear q2;have Q3:=Lib.hid q3;clear q3;have p0_0:=cBh hB Q0.out;have p0_1:=cBh hB Q1.out;have p0_2:=cBh hB Q2.out;have p0_3:=cBh hB Q3.out;have r0_0:=λd os=>cell_regrown p0_0 d os
    have r0_1:=λd os=>cell_regrown p0_1 d os
    have r0_2:=λd os=>cell_regrown p0_2 d os
    have r0_3:=λd os=>cell_regrown p0_3 d os
    clear hcc hcl;have hz0:=hB.size;have tok1:True:=trivial;have tok2:True:=trivial;go_wp2_with (first | (with_reducible refine wp_region_quiet_below (by kernel_rfl) (by kernel_rfl) ?_;have tk:=tok1;clear tok1;(repeat (quiet_step (exact Calls.regrown_of (Vf _ _ (kk) (by omega) (by omega) (by omega)))));refine wpQuiet_nil ?_;intro _ hw';obtain ⟨⟨dq,osq⟩,hw''⟩:=hw';subst hw'';have hbq:=below_regrown wr dq osq;generalize Go.Sort.grow (redrawn wr dq) osq=w1 at hbq⊢;have hB1:=Vj hB hbq;have hz1:=hB1.size;clear hbq;have p1_0:=cBh hB1 Q0.out;have p1_1:=cBh hB1 Q1.out;have p1_2:=cBh hB1 Q2.out;have p1_3:=cBh hB1 Q3.out;have r1_0:=λd os=>cell_regrown p1_0 d os;have r1_1:=λd os=>cell_regrown p1_1 d os;have r1_2:=λd os=>cell_regrown p1_2 d os;have r1_3:=λd os=>cell_regrown p1_3 d os) | (with_reducible refine wp_region_quiet_below (by kernel_rfl) (by kernel_rfl) ?_;have tk:=tok2;clear tok2;(repeat (quiet_step (exact Calls.regrown_of (Vf _ _ (kk+1+1+1) (by omega) (by omega) (by omega)))));refine wpQuiet_nil ?_;intro _ hw';obtain ⟨⟨dq,osq⟩,hw''⟩:=hw';subst hw'';have hbq:=below_regrown w1 dq osq;generalize Go.Sort.grow (redrawn w1 dq) osq=w2 at hbq⊢;have hB2:=Vj hB1 hbq;have hz2:=hB2.size;clear hbq;have p2_0:=cBh hB2 Q0.out;have p2_1:=cBh hB2 Q1.out;have p2_2:=cBh hB2 Q2.out;have p2_3:=cBh hB2 Q3.out;have r2_0:=λd os=>cell_regrown p2_0 d os;have r2_1:=λd os=>cell_regrown p2_1 d os;have r2_2:=λd os=>cell_regrown p2_2 d os;have r2_3:=λd os=>cell_regrown p2_3 d os))
    first
    | exact ⟨⟨j+1,by omega,by go_num,by (show Value.int _ _=_;rw[HSP.out];try (show Value.int .i64 _= .int .i64 ((kk+1+1+1+1:Nat):Int);first | go_num | (congr 1<;>omega))),hB2⟩,by simp[intOf];omega⟩
    | (go_roundw;(case measure=>simp[intOf];omega);(case rel=>exact ⟨j+1,by omega,by go_num,by (show Value.int _ _=_;rw[HSP.out];try (show Value.int .i64 _= .int .i64 ((kk+1+1+1+1:Nat):Int);first | go_num | (congr 1<;>omega))),hB2⟩))
  obtain rfl:j=l.length:=by omega
  have hf:=HF.out;rw[List.take_length] at*;rw[hf] at*;have HF2:=Lib.hid hf;clear hf;go_wp2
  go_ret
  exact ⟨rfl,hB⟩
theorem CI (w:World) (v:Value) (l l':List Yd) (K:Int) (k:Nat) (hK:K=k) (h1:1<=k) (hk:(Qu l k).2<=4611686018427387904) (hl':l'=(Qu l k).1) (ha:rd w [v] l'):Calls Tryz.prog 84 #[v,.int .i64 K] w (Ret w (.int .i64 ((Qu l k).2:Nat))):=by
 subst hK hl';obtain ⟨oa,cap,e1,hl,hm,hel⟩:=ha;obtain rfl:v=_:=by simpa using e1
 clear e1;have HE:=Lib.hid hel;clear hel;rw[K3] at hl⊢;unfold maxLen at hm;have hlm:l.length<=9223372036854775807:=by omega
 generalize hfin:(Qu l k).2=fin at*;have HF:=Lib.hid hfin;clear hfin;go_enter Tryz.func84,Tryz.ntmps84
 go_wp2
 go_loopw [1,5] (λq i wr=>∃j:Nat,j<=l.length/\i= .int .i64 j/\q= .int .i64 ((Qu (l.take j) k).2:Nat)/\Below w.heap.size w wr) (λ_ i _=>l.length-(intOf i).toNat)
 case atStart=>exact ⟨0,Nat.zero_le _,rfl,rfl,Below.refl _ _⟩
 case round=>
  obtain ⟨j,hj,rfl,rfl,hB⟩:=hrel;by_cases hjl:j<l.length
  . have hx:=List.getElem?_eq_getElem hjl;have hsp:=Kl l k j _ hx;have hle:=Nat.le_trans (Jj l k j _ hx) (Nat.le_trans (Nat.le_of_eq HF.out) hk);have hkk:k<=(Qu (l.take j) k).2:=Zd _ _;obtain ⟨eb,eo,ee,rfl,hcl,hcc,hxr⟩:=HE.out j _ (D0 l k j _ hx);clear hx;generalize (Qu (l.take j) k).2=kk at*;generalize (Qu (l.take j) k).1=xs at*;generalize l[j]=x at*;obtain ⟨v0,v1⟩:=x;have HSP:Hid (_=(xs++ [(((Cj (kk),((kk+1:Nat):Int)):Yd))],kk+1+1)):=hsp;clear hsp;have hle:kk+1+1<=4611686018427387904:=hle;have hxr:rd w ee ((Cj (kk),((kk+1:Nat):Int)):Yd):=hxr;obtain ⟨_,_,rfl,⟨rfl,_⟩,⟨rfl,_⟩⟩:=hxr;have q0:w.cell? ⟨eb,eo+j*2,none⟩=some _:=hcc 0 _ rfl;have q1:w.cell? ⟨eb,eo+j*2+1,none⟩=some _:=hcc 1 _ rfl;have HQ:=Lib.hid (show True from trivial);have Q0:=Lib.hid q0;clear q0;have Q1:=Lib.hid q1;clear q1;have p0_0:=cBh hB Q0.out;have p0_1:=cBh hB Q1.out;have r0_0:=λd os=>cell_regrown p0_0 d os
    have r0_1:=λd os=>cell_regrown p0_1 d os
    clear hcc hcl;have hz0:=hB.size;have tok1:True:=trivial;go_wp2_with (first | (with_reducible refine wp_region_quiet_below (by kernel_rfl) (by kernel_rfl) ?_;have tk:=tok1;clear tok1;(repeat (quiet_step (exact Calls.regrown_of (Vf _ _ (kk) (by omega) (by omega) (by omega)))));refine wpQuiet_nil ?_;intro _ hw';obtain ⟨⟨dq,osq⟩,hw''⟩:=hw';subst hw'';have hbq:=below_regrown wr dq osq;generalize Go.Sort.grow (redrawn wr dq) osq=w1 at hbq⊢;have hB1:=Vj hB hbq;have hz1:=hB1.size;clear hbq;have p1_0:=cBh hB1 Q0.out;have p1_1:=cBh hB1 Q1.out;have r1_0:=λd os=>cell_regrown p1_0 d os;have r1_1:=λd os=>cell_regrown p1_1 d os))
    first
    | exact ⟨⟨j+1,by omega,by go_num,by (show Value.int _ _=_;rw[HSP.out];try (show Value.int .i64 _= .int .i64 ((kk+1+1:Nat):Int);first | go_num | (congr 1<;>omega))),hB1⟩,by simp[intOf];omega⟩
    | (go_roundw;(case measure=>simp[intOf];omega);(case rel=>exact ⟨j+1,by omega,by go_num,by (show Value.int _ _=_;rw[HSP.out];try (show Value.int .i64 _= .int .i64 ((kk+1+1:Nat):Int);first | go_num | (congr 1<;>omega))),hB1⟩))
  obtain rfl:j=l.length:=by omega
  have hf:=HF.out;rw[List.take_length] at*;rw[hf] at*;have HF2:=Lib.hid hf;clear hf;go_wp2
  go_ret
  exact ⟨rfl,hB⟩
theorem FJ (w:World) (v:Value) (l l':List Yy) (K:Int) (k:Nat) (hK:K=k) (h1:1<=k) (hk:(Qu l k).2<=4611686018427387904) (hl':l'=(Qu l k).1) (ha:rd w [v] l'):Calls Tryz.prog 86 #[v,.int .i64 K] w (Ret w (.int .i64 ((Qu l k).2:Nat))):=by
 subst hK hl';obtain ⟨oa,cap,e1,hl,hm,hel⟩:=ha;obtain rfl:v=_:=by simpa using e1
 clear e1;have HE:=Lib.hid hel;clear hel;rw[K3] at hl⊢;unfold maxLen at hm;have hlm:l.length<=9223372036854775807:=by omega
 generalize hfin:(Qu l k).2=fin at*;have HF:=Lib.hid hfin;clear hfin;go_enter Tryz.func86,Tryz.ntmps86
 go_wp2
 go_loopw [1,5] (λq i wr=>∃j:Nat,j<=l.length/\i= .int .i64 j/\q= .int .i64 ((Qu (l.take j) k).2:Nat)/\Below w.heap.size w wr) (λ_ i _=>l.length-(intOf i).toNat)
 case atStart=>exact ⟨0,Nat.zero_le _,rfl,rfl,Below.refl _ _⟩
 case round=>
  obtain ⟨j,hj,rfl,rfl,hB⟩:=hrel;by_cases hjl:j<l.length
  . have hx:=List.getElem?_eq_getElem hjl;have hsp:=Kl l k j _ hx;have hle:=Nat.le_trans (Jj l k j _ hx) (Nat.le_trans (Nat.le_of_eq HF.out) hk);have hkk:k<=(Qu (l.take j) k).2:=Zd _ _;obtain ⟨eb,eo,ee,rfl,hcl,hcc,hxr⟩:=HE.out j _ (D0 l k j _ hx);clear hx;generalize (Qu (l.take j) k).2=kk at*;generalize (Qu (l.take j) k).1=xs at*;generalize l[j]=x at*;obtain ⟨v0,v1,v2,v3,⟨v4,v5,v6⟩⟩:=x;have HSP:Hid (_=(xs++ [(((((kk:Nat):Int),((kk+1:Nat):Int),((kk+1+1:Nat):Int),Cj (kk+1+1+1),(((kk+1+1+1+1:Nat):Int),((kk+1+1+1+1+1:Nat):Int),Cj (kk+1+1+1+1+1+1))):Yy))],kk+1+1+1+1+1+1+1)):=hsp;clear hsp;have hle:kk+1+1+1+1+1+1+1<=4611686018427387904:=hle;have hxr:rd w ee ((((kk:Nat):Int),((kk+1:Nat):Int),((kk+1+1:Nat):Int),Cj (kk+1+1+1),(((kk+1+1+1+1:Nat):Int),((kk+1+1+1+1+1:Nat):Int),Cj (kk+1+1+1+1+1+1))):Yy):=hxr;obtain ⟨_,_,rfl,⟨rfl,_⟩,⟨_,_,rfl,⟨rfl,_⟩,⟨_,_,rfl,⟨rfl,_⟩,⟨_,_,rfl,⟨rfl,_⟩,⟨_,_,rfl,⟨rfl,_⟩,⟨_,_,rfl,⟨rfl,_⟩,⟨rfl,_⟩⟩⟩⟩⟩⟩⟩:=hxr;have q0:w.cell? ⟨eb,eo+j*7,none⟩=some _:=hcc 0 _ rfl;have q1:w.cell? ⟨eb,eo+j*7+1,none⟩=some _:=hcc 1 _ rfl;have q2:w.cell? ⟨eb,eo+j*7+2,none⟩=some _:=hcc 2 _ rfl;have q3:w.cell? ⟨eb,eo+j*7+3,none⟩=some _:=hcc 3 _ rfl;have q4:w.cell? ⟨eb,eo+j*7+4,none⟩=some _:=hcc 4 _ rfl;have q5:w.cell? ⟨eb,eo+j*7+5,none⟩=some _:=hcc 5 _ rfl;have q6:w.cell? ⟨eb,eo+j*7+6,none⟩=some _:=hcc 6 _ rfl;have HQ:=Lib.hid (show True from trivial);have Q0:=Lib.hid q0;clear q0;have Q1:=Lib.hid q1;clear q1;have Q2:=Lib.hid q2;clear q2;have Q3:=Lib.hid q3;clear q3;have Q4:=Lib.hid q4;clear q4;have Q5:=Lib.hid q5;clear q5;have Q6:=Lib.hid q6;clear q6;have p0_0:=cBh hB Q0.out;have p0_1:=cBh hB Q1.out;have p0_2:=cBh hB Q2.out;have p0_3:=cBh hB Q3.out;have p0_4:=cBh hB Q4.out;have p0_5:=cBh hB Q5.out;have p0_6:=cBh hB Q6.out;have r0_0:=λd os=>cell_regrown p0_0 d os
    have r0_1:=λd os=>cell_regrown p0_1 d os
    have r0_2:=λd os=>cell_regrown p0_2 d os
    have r0_3:=λd os=>cell_regrown p0_3 d os
    have r0_4:=λd os=>cell_regrown p0_4 d os
    have r0_5:=λd os=>cell_regrown p0_5 d os
    have r0_6:=λd os=>cell_regrown p0_6 d os
    clear hcc hcl;have hz0:=hB.size;have tok1:True:=trivial;have tok2:True:=trivial;go_wp2_with (first | (with_reducible refine wp_region_quiet_below (by kernel_rfl) (by kernel_rfl) ?_;have tk:=tok1;clear tok1;(repeat (quiet_step (exact Calls.regrown_of (Vf _ _ (kk+1+1+1) (by omega) (by omega) (by omega)))));refine wpQuiet_nil ?_;intro _ hw';obtain ⟨⟨dq,osq⟩,hw''⟩:=hw';subst hw'';have hbq:=below_regrown wr dq osq;generalize Go.Sort.grow (redrawn wr dq) osq=w1 at hbq⊢;have hB1:=Vj hB hbq;have hz1:=hB1.size;clear hbq;have p1_0:=cBh hB1 Q0.out;have p1_1:=cBh hB1 Q1.out;have p1_2:=cBh hB1 Q2.out;have p1_3:=cBh hB1 Q3.out;have p1_4:=cBh hB1 Q4.out;have p1_5:=cBh hB1 Q5.out;have p1_6:=cBh hB1 Q6.out;have r1_0:=λd os=>cell_regrown p1_0 d os;have r1_1:=λd os=>cell_regrown p1_1 d os;have r1_2:=λd os=>cell_regrown p1_2 d os;have r1_3:=λd os=>cell_regrown p1_3 d os;have r1_4:=λd os=>cell_regrown p1_4 d os;have r1_5:=λd os=>cell_regrown p1_5 d os;have r1_6:=λd os=>cell_regrown p1_6 d os) | (with_reducible refine wp_region_quiet_below (by kernel_rfl) (by kernel_rfl) ?_;have tk:=tok2;clear tok2;(repeat (quiet_step (exact Calls.regrown_of (Vf _ _ (kk+1+1+1+1+1+1) (by omega) (by omega) (by omega)))));refine wpQuiet_nil ?_;intro _ hw';obtain ⟨⟨dq,osq⟩,hw''⟩:=hw';subst hw'';have hbq:=below_regrown w1 dq osq;generalize Go.Sort.grow (redrawn w1 dq) osq=w2 at hbq⊢;have hB2:=Vj hB1 hbq;have hz2:=hB2.size;clear hbq;have p2_0:=cBh hB2 Q0.out;have p2_1:=cBh hB2 Q1.out;have p2_2:=cBh hB2 Q2.out;have p2_3:=cBh hB2 Q3.out;have p2_4:=cBh hB2 Q4.out;have p2_5:=cBh hB2 Q5.out;have p2_6:=cBh hB2 Q6.out;have r2_0:=λd os=>cell_regrown p2_0 d os;have r2_1:=λd os=>cell_regrown p2_1 d os;have r2_2:=λd os=>cell_regrown p2_2 d os;have r2_3:=λd os=>cell_regrown p2_3 d os;have r2_4:=λd os=>cell_regrown p2_4 d os;have r2_5:=λd os=>cell_regrown p2_5 d os;have r2_6:=λd os=>cell_regrown p2_6 d os))
    first
    | exact ⟨⟨j+1,by omega,by go_num,by (show Value.int _ _=_;rw[HSP.out];try (show Value.int .i64 _= .int .i64 ((kk+1+1+1+1+1+1+1:Nat):Int);first | go_num | (congr 1<;>omega))),hB2⟩,by simp[intOf];omega⟩
    | (go_roundw;(case measure=>simp[intOf];omega);(case rel=>exact ⟨j+1,by omega,by go_num,by (show Value.int _ _=_;rw[HSP.out];try (show Value.int .i64 _= .int .i64 ((kk+1+1+1+1+1+1+1:Nat):Int);first | go_num | (congr 1<;>omega))),hB2⟩))
  obtain rfl:j=l.length:=by omega
  have hf:=HF.out;rw[List.take_length] at*;rw[hf] at*;have HF2:=Lib.hid hf;clear hf;go_wp2
  go_ret
  exact ⟨rfl,hB⟩
theorem NN (w:World) (v:Value) (l l':List Y8) (K:Int) (k:Nat) (hK:K=k) (h1:1<=k) (hk:(Qu l k).2<=4611686018427387904) (hl':l'=(Qu l k).1) (ha:rd w [v] l'):Calls Tryz.prog 42 #[v,.int .i64 K] w (Ret w (.int .i64 ((Qu l k).2:Nat))):=by
 subst hK hl';obtain ⟨oa,cap,e1,hl,hm,hel⟩:=ha;obtain rfl:v=_:=by simpa using e1
 clear e1;have HE:=Lib.hid hel;clear hel;rw[K3] at hl⊢;unfold maxLen at hm;have hlm:l.length<=9223372036854775807:=by omega
 generalize hfin:(Qu l k).2=fin at*;have HF:=Lib.hid hfin;clear hfin;go_enter Tryz.func42,Tryz.ntmps42
 go_wp2
 go_loopw [1,5] (λq i wr=>∃j:Nat,j<=l.length/\i= .int .i64 j/\q= .int .i64 ((Qu (l.take j) k).2:Nat)/\Below w.heap.size w wr) (λ_ i _=>l.length-(intOf i).toNat)
 case atStart=>exact ⟨0,Nat.zero_le _,rfl,rfl,Below.refl _ _⟩
 case round=>
  obtain ⟨j,hj,rfl,rfl,hB⟩:=hrel;by_cases hjl:j<l.length
  . have hx:=List.getElem?_eq_getElem hjl;have hsp:=Kl l k j _ hx;have hle:=Nat.le_trans (Jj l k j _ hx) (Nat.le_trans (Nat.le_of_eq HF.out) hk);have hkk:k<=(Qu (l.take j) k).2:=Zd _ _;obtain ⟨eb,eo,ee,rfl,hcl,hcc,hxr⟩:=HE.out j _ (D0 l k j _ hx);clear hx;generalize (Qu (l.take j) k).2=kk at*;generalize (Qu (l.take j) k).1=xs at*;generalize l[j]=x at*;obtain ⟨v0,v1⟩:=x;have HSP:Hid (_=(xs++ [(((Cj (kk),(Qu v1 (kk+1)).1):Y8))],(Qu v1 (kk+1)).2)):=hsp;clear hsp;have hle:(Qu v1 (kk+1)).2<=4611686018427387904:=hle;have hxr:rd w ee ((Cj (kk),(Qu v1 (kk+1)).1):Y8):=hxr;obtain ⟨_,_,rfl,⟨rfl,_⟩,rh1⟩:=hxr;obtain ⟨rv1,rfl⟩:=D9 (show _=1 from GoD.rd_len rh1);obtain ⟨oa1,cp1,rfl⟩:=Bt rh1;simp only[K3] at hcc rh1;have hm1:kk+1<=(Qu v1 (kk+1)).2:=Zd _ _;have HR1:=Lib.hid rh1;clear rh1;have q0:w.cell? ⟨eb,eo+j*2,none⟩=some _:=hcc 0 _ rfl;have q1:w.cell? ⟨eb,eo+j*2+1,none⟩=some _:=hcc 1 _ rfl;have HQ:=Lib.hid (show True from trivial);have Q0:=Lib.hid q0;clear q0;have Q1:=Lib.hid q1;clear q1;have p0_0:=cBh hB Q0.out;have p0_1:=cBh hB Q1.out;have r0_0:=λd os=>cell_regrown p0_0 d os
    have r0_1:=λd os=>cell_regrown p0_1 d os
    clear hcc hcl;have hz0:=hB.size;have tok1:True:=trivial;have tok2:True:=trivial;go_wp2_with (first | (with_reducible refine wp_region_quiet_below (by kernel_rfl) (by kernel_rfl) ?_;have tk:=tok1;clear tok1;(repeat (quiet_step (exact Calls.regrown_of (Vf _ _ (kk) (by omega) (by omega) (by omega)))));refine wpQuiet_nil ?_;intro _ hw';obtain ⟨⟨dq,osq⟩,hw''⟩:=hw';subst hw'';have hbq:=below_regrown wr dq osq;generalize Go.Sort.grow (redrawn wr dq) osq=w1 at hbq⊢;have hB1:=Vj hB hbq;have hz1:=hB1.size;clear hbq;have p1_0:=cBh hB1 Q0.out;have p1_1:=cBh hB1 Q1.out;have r1_0:=λd os=>cell_regrown p1_0 d os;have r1_1:=λd os=>cell_regrown p1_1 d os) | (go_at_call 86;have tk:=tok2;clear tok2;refine Xr (w:=w) (FJ _ _ v1 _ _ (kk+1) (by omega) (by omega) (by omega) rfl (Zx HR1.out hB1)) hB1 ?_;intro w2 hB2 hbq hz2 hz2;clear hbq hz2;have p2_0:=cBh hB2 Q0.out;have p2_1:=cBh hB2 Q1.out;have r2_0:=λd os=>cell_regrown p2_0 d os;have r2_1:=λd os=>cell_regrown p2_1 d os))
    first
    | exact ⟨⟨j+1,by omega,by go_num,by (show Value.int _ _=_;rw[HSP.out];try (show Value.int .i64 _= .int .i64 (((Qu v1 (kk+1)).2:Nat):Int);first | go_num | (congr 1<;>omega))),hB2⟩,by simp[intOf];omega⟩
    | (go_roundw;(case measure=>simp[intOf];omega);(case rel=>exact ⟨j+1,by omega,by go_num,by (show Value.int _ _=_;rw[HSP.out];try (show Value.int .i64 _= .int .i64 (((Qu v1 (kk+1)).2:Nat):Int);first | go_num | (congr 1<;>omega))),hB2⟩))
  obtain rfl:j=l.length:=by omega
  have hf:=HF.out;rw[List.take_length] at*;rw[hf] at*;have HF2:=Lib.hid hf;clear hf;go_wp2
  go_ret
  exact ⟨rfl,hB⟩
theorem Nh (w:World) (v:Value) (l l':List Int) (K:Int) (k:Nat) (hK:K=k) (h1:1<=k) (hk:(Qu l k).2<=4611686018427387904) (hl':l'=(Qu l k).1) (ha:rd w [v] l'):Calls Tryz.prog 16 #[v,.int .i64 K] w (Ret w (.int .i64 ((Qu l k).2:Nat))):=by
 subst hK hl';obtain ⟨oa,cap,e1,hl,hm,hel⟩:=ha;obtain rfl:v=_:=by simpa using e1
 clear e1;have HE:=Lib.hid hel;clear hel;rw[K3] at hl⊢;unfold maxLen at hm;have hlm:l.length<=9223372036854775807:=by omega
 generalize hfin:(Qu l k).2=fin at*;have HF:=Lib.hid hfin;clear hfin;go_enter Tryz.func16,Tryz.ntmps16
 go_wp2
 go_loopw [1,5] (λq i wr=>∃j:Nat,j<=l.length/\i= .int .i64 j/\q= .int .i64 ((Qu (l.take j) k).2:Nat)/\Below w.heap.size w wr) (λ_ i _=>l.length-(intOf i).toNat)
 case atStart=>exact ⟨0,Nat.zero_le _,rfl,rfl,Below.refl _ _⟩
 case round=>
  obtain ⟨j,hj,rfl,rfl,hB⟩:=hrel;by_cases hjl:j<l.length
  . have hx:=List.getElem?_eq_getElem hjl;have hsp:=Kl l k j _ hx;have hle:=Nat.le_trans (Jj l k j _ hx) (Nat.le_trans (Nat.le_of_eq HF.out) hk);have hkk:k<=(Qu (l.take j) k).2:=Zd _ _;obtain ⟨eb,eo,ee,rfl,hcl,hcc,hxr⟩:=HE.out j _ (D0 l k j _ hx);clear hx;generalize (Qu (l.take j) k).2=kk at*;generalize (Qu (l.take j) k).1=xs at*;generalize l[j]=x at*;have HSP:Hid (_=(xs++ [((((kk:Nat):Int):Int))],kk+1)):=hsp;clear hsp;have hle:kk+1<=4611686018427387904:=hle;have hxr:rd w ee (((kk:Nat):Int):Int):=hxr;obtain ⟨rfl,_⟩:=hxr;have q0:w.cell? ⟨eb,eo+j,none⟩=some (.int .i64 ((kk:Nat):Int)):=by have h0:=hcc 0 _ rfl;simp only[GoD.n,Nat.mul_one,Nat.add_zero] at h0;exact h0
    have HQ:=Lib.hid (show True from trivial);have Q0:=Lib.hid q0;clear q0;have p0_0:=cBh hB Q0.out;clear hcc hcl;have hz0:=hB.size;go_wp2
    first
    | exact ⟨⟨j+1,by omega,by go_num,by (show Value.int _ _=_;rw[HSP.out];try (show Value.int .i64 _= .int .i64 ((kk+1:Nat):Int);first | go_num | (congr 1<;>omega))),hB⟩,by simp[intOf];omega⟩
    | (go_roundw;(case measure=>simp[intOf];omega);(case rel=>exact ⟨j+1,by omega,by go_num,by (show Value.int _ _=_;rw[HSP.out];try (show Value.int .i64 _= .int .i64 ((kk+1:Nat):Int);first | go_num | (congr 1<;>omega))),hB⟩))
  obtain rfl:j=l.length:=by omega
  have hf:=HF.out;rw[List.take_length] at*;rw[hf] at*;have HF2:=Lib.hid hf;clear hf;go_wp2
  go_ret
  exact ⟨rfl,hB⟩
theorem UD (w:World) (v:Value) (l l':List Qg) (K:Int) (k:Nat) (hK:K=k) (h1:1<=k) (hk:(Qu l k).2<=4611686018427387904) (hl':l'=(Qu l k).1) (ha:rd w [v] l'):Calls Tryz.prog 43 #[v,.int .i64 K] w (Ret w (.int .i64 ((Qu l k).2:Nat))):=by
 subst hK hl';obtain ⟨oa,cap,e1,hl,hm,hel⟩:=ha;obtain rfl:v=_:=by simpa using e1
 clear e1;have HE:=Lib.hid hel;clear hel;rw[K3] at hl⊢;unfold maxLen at hm;have hlm:l.length<=9223372036854775807:=by omega
 generalize hfin:(Qu l k).2=fin at*;have HF:=Lib.hid hfin;clear hfin;go_enter Tryz.func43,Tryz.ntmps43
 go_wp2
 go_loopw [1,5] (λq i wr=>∃j:Nat,j<=l.length/\i= .int .i64 j/\q= .int .i64 ((Qu (l.take j) k).2:Nat)/\Below w.heap.size w wr) (λ_ i _=>l.length-(intOf i).toNat)
 case atStart=>exact ⟨0,Nat.zero_le _,rfl,rfl,Below.refl _ _⟩
 case round=>
  obtain ⟨j,hj,rfl,rfl,hB⟩:=hrel;by_cases hjl:j<l.length
  . have hx:=List.getElem?_eq_getElem hjl;have hsp:=Kl l k j _ hx;have hle:=Nat.le_trans (Jj l k j _ hx) (Nat.le_trans (Nat.le_of_eq HF.out) hk);have hkk:k<=(Qu (l.take j) k).2:=Zd _ _;obtain ⟨eb,eo,ee,rfl,hcl,hcc,hxr⟩:=HE.out j _ (D0 l k j _ hx);clear hx;generalize (Qu (l.take j) k).2=kk at*;generalize (Qu (l.take j) k).1=xs at*;generalize l[j]=x at*;obtain ⟨v0,v1⟩:=x;have HSP:Hid (_=(xs++ [(((Cj (kk),(Qu v1 (kk+1)).1):Qg))],(Qu v1 (kk+1)).2)):=hsp;clear hsp;have hle:(Qu v1 (kk+1)).2<=4611686018427387904:=hle;have hxr:rd w ee ((Cj (kk),(Qu v1 (kk+1)).1):Qg):=hxr;obtain ⟨_,_,rfl,⟨rfl,_⟩,rh1⟩:=hxr;obtain ⟨rv1,rfl⟩:=D9 (show _=1 from GoD.rd_len rh1);obtain ⟨oa1,cp1,rfl⟩:=Bt rh1;simp only[K3] at hcc rh1;have hm1:kk+1<=(Qu v1 (kk+1)).2:=Zd _ _;have HR1:=Lib.hid rh1;clear rh1;have q0:w.cell? ⟨eb,eo+j*2,none⟩=some _:=hcc 0 _ rfl;have q1:w.cell? ⟨eb,eo+j*2+1,none⟩=some _:=hcc 1 _ rfl;have HQ:=Lib.hid (show True from trivial);have Q0:=Lib.hid q0;clear q0;have Q1:=Lib.hid q1;clear q1;have p0_0:=cBh hB Q0.out;have p0_1:=cBh hB Q1.out;have r0_0:=λd os=>cell_regrown p0_0 d os
    have r0_1:=λd os=>cell_regrown p0_1 d os
    clear hcc hcl;have hz0:=hB.size;have tok1:True:=trivial;have tok2:True:=trivial;go_wp2_with (first | (with_reducible refine wp_region_quiet_below (by kernel_rfl) (by kernel_rfl) ?_;have tk:=tok1;clear tok1;(repeat (quiet_step (exact Calls.regrown_of (Vf _ _ (kk) (by omega) (by omega) (by omega)))));refine wpQuiet_nil ?_;intro _ hw';obtain ⟨⟨dq,osq⟩,hw''⟩:=hw';subst hw'';have hbq:=below_regrown wr dq osq;generalize Go.Sort.grow (redrawn wr dq) osq=w1 at hbq⊢;have hB1:=Vj hB hbq;have hz1:=hB1.size;clear hbq;have p1_0:=cBh hB1 Q0.out;have p1_1:=cBh hB1 Q1.out;have r1_0:=λd os=>cell_regrown p1_0 d os;have r1_1:=λd os=>cell_regrown p1_1 d os) | (go_at_call 16;have tk:=tok2;clear tok2;refine Xr (w:=w) (Nh _ _ v1 _ _ (kk+1) (by omega) (by omega) (by omega) rfl (Zx HR1.out hB1)) hB1 ?_;intro w2 hB2 hbq hz2 hz2;clear hbq hz2;have p2_0:=cBh hB2 Q0.out;have p2_1:=cBh hB2 Q1.out;have r2_0:=λd os=>cell_regrown p2_0 d os;have r2_1:=λd os=>cell_regrown p2_1 d os))
    first
    | exact ⟨⟨j+1,by omega,by go_num,by (show Value.int _ _=_;rw[HSP.out];try (show Value.int .i64 _= .int .i64 (((Qu v1 (kk+1)).2:Nat):Int);first | go_num | (congr 1<;>omega))),hB2⟩,by simp[intOf];omega⟩
    | (go_roundw;(case measure=>simp[intOf];omega);(case rel=>exact ⟨j+1,by omega,by go_num,by (show Value.int _ _=_;rw[HSP.out];try (show Value.int .i64 _= .int .i64 (((Qu v1 (kk+1)).2:Nat):Int);first | go_num | (congr 1<;>omega))),hB2⟩))
  obtain rfl:j=l.length:=by omega
  have hf:=HF.out;rw[List.take_length] at*;rw[hf] at*;have HF2:=Lib.hid hf;clear hf;go_wp2
  go_ret
  exact ⟨rfl,hB⟩
theorem FK (w:World) (v:Value) (l l':List Yh) (K:Int) (k:Nat) (hK:K=k) (h1:1<=k) (hk:(Qu l k).2<=4611686018427387904) (hl':l'=(Qu l k).1) (ha:rd w [v] l'):Calls Tryz.prog 85 #[v,.int .i64 K] w (Ret w (.int .i64 ((Qu l k).2:Nat))):=by
 subst hK hl';obtain ⟨oa,cap,e1,hl,hm,hel⟩:=ha;obtain rfl:v=_:=by simpa using e1
 clear e1;have HE:=Lib.hid hel;clear hel;rw[K3] at hl⊢;unfold maxLen at hm;have hlm:l.length<=9223372036854775807:=by omega
 generalize hfin:(Qu l k).2=fin at*;have HF:=Lib.hid hfin;clear hfin;go_enter Tryz.func85,Tryz.ntmps85
 go_wp2
 go_loopw [1,5] (λq i wr=>∃j:Nat,j<=l.length/\i= .int .i64 j/\q= .int .i64 ((Qu (l.take j) k).2:Nat)/\Below w.heap.size w wr) (λ_ i _=>l.length-(intOf i).toNat)
 case atStart=>exact ⟨0,Nat.zero_le _,rfl,rfl,Below.refl _ _⟩
 case round=>
  obtain ⟨j,hj,rfl,rfl,hB⟩:=hrel;by_cases hjl:j<l.length
  . have hx:=List.getElem?_eq_getElem hjl;have hsp:=Kl l k j _ hx;have hle:=Nat.le_trans (Jj l k j _ hx) (Nat.le_trans (Nat.le_of_eq HF.out) hk);have hkk:k<=(Qu (l.take j) k).2:=Zd _ _;obtain ⟨eb,eo,ee,rfl,hcl,hcc,hxr⟩:=HE.out j _ (D0 l k j _ hx);clear hx;generalize (Qu (l.take j) k).2=kk at*;generalize (Qu (l.take j) k).1=xs at*;generalize l[j]=x at*;obtain ⟨v0,v1,v2,v3,v4⟩:=x;have HSP:Hid (_=(xs++ [(((((kk:Nat):Int),((kk+1:Nat):Int),((kk+1+1) % 3==0),((kk+1+1+1:Nat):Int),(Qu v4 (kk+1+1+1+1)).1):Yh))],(Qu v4 (kk+1+1+1+1)).2)):=hsp;clear hsp;have hle:(Qu v4 (kk+1+1+1+1)).2<=4611686018427387904:=hle;have hxr:rd w ee ((((kk:Nat):Int),((kk+1:Nat):Int),((kk+1+1) % 3==0),((kk+1+1+1:Nat):Int),(Qu v4 (kk+1+1+1+1)).1):Yh):=hxr;obtain ⟨_,_,rfl,⟨rfl,_⟩,⟨_,_,rfl,⟨rfl,_⟩,⟨_,_,rfl,rfl,⟨_,_,rfl,⟨rfl,_⟩,rh4⟩⟩⟩⟩:=hxr;obtain ⟨rv4,rfl⟩:=D9 (show _=1 from GoD.rd_len rh4);obtain ⟨oa4,cp4,rfl⟩:=Bt rh4;simp only[K3] at hcc rh4;have hb2:=RA (kk+1+1) _ (show ((kk:Int)+1+1:Int)=((kk+1+1:Nat):Int) by omega);have hm4:kk+1+1+1+1<=(Qu v4 (kk+1+1+1+1)).2:=Zd _ _;have HR4:=Lib.hid rh4;clear rh4;have q0:w.cell? ⟨eb,eo+j*5,none⟩=some _:=hcc 0 _ rfl;have q1:w.cell? ⟨eb,eo+j*5+1,none⟩=some _:=hcc 1 _ rfl;have q2:w.cell? ⟨eb,eo+j*5+2,none⟩=some _:=hcc 2 _ rfl;have q3:w.cell? ⟨eb,eo+j*5+3,none⟩=some _:=hcc 3 _ rfl;have q4:w.cell? ⟨eb,eo+j*5+4,none⟩=some _:=hcc 4 _ rfl;have HQ:=Lib.hid (show True from trivial);have Q0:=Lib.hid q0;clear q0;have Q1:=Lib.hid q1;clear q1;have Q2:=Lib.hid q2;clear q2;have Q3:=Lib.hid q3;clear q3;have Q4:=Lib.hid q4;clear q4;have p0_0:=cBh hB Q0.out;have p0_1:=cBh hB Q1.out;have p0_2:=cBh hB Q2.out;have p0_3:=cBh hB Q3.out;have p0_4:=cBh hB Q4.out;clear hcc hcl;have hz0:=hB.size;have tok1:True:=trivial;go_wp2_with (first | (go_at_call 141;have tk:=tok1;clear tok1;refine Xr (w:=w) (FI _ _ v4 _ _ (kk+1+1+1+1) (by omega) (by omega) (by omega) rfl (Zx HR4.out hB)) hB ?_;intro w1 hB1 hbq hz1 hz2;clear hbq hz2;have p1_0:=cBh hB1 Q0.out;have p1_1:=cBh hB1 Q1.out;have p1_2:=cBh hB1 Q2.out;have p1_3:=cBh hB1 Q3.out;have p1_4:=cBh hB1 Q4.out))
    first
    | exact ⟨⟨j+1,by omega,by go_num,by (show Value.int _ _=_;rw[HSP.out];try (show Value.int .i64 _= .int .i64 (((Qu v4 (kk+1+1+1+1)).2:Nat):Int);first | go_num | (congr 1<;>omega))),hB1⟩,by simp[intOf];omega⟩
    | (go_roundw;(case measure=>simp[intOf];omega);(case rel=>exact ⟨j+1,by omega,by go_num,by (show Value.int _ _=_;rw[HSP.out];try (show Value.int .i64 _= .int .i64 (((Qu v4 (kk+1+1+1+1)).2:Nat):Int);first | go_num | (congr 1<;>omega))),hB1⟩))
  obtain rfl:j=l.length:=by omega
  have hf:=HF.out;rw[List.take_length] at*;rw[hf] at*;have HF2:=Lib.hid hf;clear hf;go_wp2
  go_ret
  exact ⟨rfl,hB⟩
theorem FL (w:World) (v:Value) (l l':List Cs) (K:Int) (k:Nat) (hK:K=k) (h1:1<=k) (hk:(Qu l k).2<=4611686018427387904) (hl':l'=(Qu l k).1) (ha:rd w [v] l'):Calls Tryz.prog 15 #[v,.int .i64 K] w (Ret w (.int .i64 ((Qu l k).2:Nat))):=by
 subst hK hl';obtain ⟨oa,cap,e1,hl,hm,hel⟩:=ha;obtain rfl:v=_:=by simpa using e1
 clear e1;have HE:=Lib.hid hel;clear hel;rw[K3] at hl⊢;unfold maxLen at hm;have hlm:l.length<=9223372036854775807:=by omega
 generalize hfin:(Qu l k).2=fin at*;have HF:=Lib.hid hfin;clear hfin;go_enter Tryz.func15,Tryz.ntmps15
 go_wp2
 go_loopw [1,5] (λq i wr=>∃j:Nat,j<=l.length/\i= .int .i64 j/\q= .int .i64 ((Qu (l.take j) k).2:Nat)/\Below w.heap.size w wr) (λ_ i _=>l.length-(intOf i).toNat)
 case atStart=>exact ⟨0,Nat.zero_le _,rfl,rfl,Below.refl _ _⟩
 case round=>
  obtain ⟨j,hj,rfl,rfl,hB⟩:=hrel;by_cases hjl:j<l.length
  . have hx:=List.getElem?_eq_getElem hjl;have hsp:=Kl l k j _ hx;have hle:=Nat.le_trans (Jj l k j _ hx) (Nat.le_trans (Nat.le_of_eq HF.out) hk);have hkk:k<=(Qu (l.take j) k).2:=Zd _ _;obtain ⟨eb,eo,ee,rfl,hcl,hcc,hxr⟩:=HE.out j _ (D0 l k j _ hx);clear hx;generalize (Qu (l.take j) k).2=kk at*;generalize (Qu (l.take j) k).1=xs at*;generalize l[j]=x at*;obtain ⟨v0,v1,v2⟩:=x;have HSP:Hid (_=(xs++ [(((Cj (kk),(Qu v1 (kk+1)).1,(Qu v2 ((Qu v1 (kk+1)).2)).1):Cs))],(Qu v2 ((Qu v1 (kk+1)).2)).2)):=hsp;clear hsp;have hle:(Qu v2 ((Qu v1 (kk+1)).2)).2<=4611686018427387904:=hle;have hxr:rd w ee ((Cj (kk),(Qu v1 (kk+1)).1,(Qu v2 ((Qu v1 (kk+1)).2)).1):Cs):=hxr;obtain ⟨_,_,rfl,⟨rfl,_⟩,⟨_,_,rfl,rh1,rh2⟩⟩:=hxr;obtain ⟨rv1,rfl⟩:=D9 (show _=1 from GoD.rd_len rh1);obtain ⟨oa1,cp1,rfl⟩:=Bt rh1;obtain ⟨rv2,rfl⟩:=D9 (show _=1 from GoD.rd_len rh2);obtain ⟨oa2,cp2,rfl⟩:=Bt rh2;simp only[K3] at hcc rh1 rh2;have hm1:kk+1<=(Qu v1 (kk+1)).2:=Zd _ _;have HR1:=Lib.hid rh1;clear rh1;have hm2:(Qu v1 (kk+1)).2<=(Qu v2 ((Qu v1 (kk+1)).2)).2:=Zd _ _;have HR2:=Lib.hid rh2;clear rh2;have q0:w.cell? ⟨eb,eo+j*3,none⟩=some _:=hcc 0 _ rfl;have q1:w.cell? ⟨eb,eo+j*3+1,none⟩=some _:=hcc 1 _ rfl;have q2:w.cell? ⟨eb,eo+j*3+2,none⟩=some _:=hcc 2 _ rfl;have HQ:=Lib.hid (show True from trivial);have Q0:=Lib.hid q0;clear q0;have Q1:=Lib.hid q1;clear q1;have Q2:=Lib.hid q2;clear q2;have p0_0:=cBh hB Q0.out;have p0_1:=cBh hB Q1.out;have p0_2:=cBh hB Q2.out;have r0_0:=λd os=>cell_regrown p0_0 d os
    have r0_1:=λd os=>cell_regrown p0_1 d os
    have r0_2:=λd os=>cell_regrown p0_2 d os
    clear hcc hcl;have hz0:=hB.size;have tok1:True:=trivial;have tok2:True:=trivial;have tok3:True:=trivial;go_wp2_with (first | (with_reducible refine wp_region_quiet_below (by kernel_rfl) (by kernel_rfl) ?_;have tk:=tok1;clear tok1;(repeat (quiet_step (exact Calls.regrown_of (Vf _ _ (kk) (by omega) (by omega) (by omega)))));refine wpQuiet_nil ?_;intro _ hw';obtain ⟨⟨dq,osq⟩,hw''⟩:=hw';subst hw'';have hbq:=below_regrown wr dq osq;generalize Go.Sort.grow (redrawn wr dq) osq=w1 at hbq⊢;have hB1:=Vj hB hbq;have hz1:=hB1.size;clear hbq;have p1_0:=cBh hB1 Q0.out;have p1_1:=cBh hB1 Q1.out;have p1_2:=cBh hB1 Q2.out;have r1_0:=λd os=>cell_regrown p1_0 d os;have r1_1:=λd os=>cell_regrown p1_1 d os;have r1_2:=λd os=>cell_regrown p1_2 d os) | (go_at_call 16;have tk:=tok2;clear tok2;refine Xr (w:=w) (Nh _ _ v1 _ _ (kk+1) (by omega) (by omega) (by omega) rfl (Zx HR1.out hB1)) hB1 ?_;intro w2 hB2 hbq hz2 hz2;clear hbq hz2;have p2_0:=cBh hB2 Q0.out;have p2_1:=cBh hB2 Q1.out;have p2_2:=cBh hB2 Q2.out;have r2_0:=λd os=>cell_regrown p2_0 d os;have r2_1:=λd os=>cell_regrown p2_1 d os;have r2_2:=λd os=>cell_regrown p2_2 d os) | (go_at_call 16;have tk:=tok3;clear tok3;refine Xr (w:=w) (Nh _ _ v2 _ _ ((Qu v1 (kk+1)).2) (by omega) (by omega) (by omega) rfl (Zx HR2.out hB2)) hB2 ?_;intro w3 hB3 hbq hz3 hz2;clear hbq hz2;have p3_0:=cBh hB3 Q0.out;have p3_1:=cBh hB3 Q1.out;have p3_2:=cBh hB3 Q2.out;have r3_0:=λd os=>cell_regrown p3_0 d os;have r3_1:=λd os=>cell_regrown p3_1 d os;have r3_2:=λd os=>cell_regrown p3_2 d os))
    first
    | exact ⟨⟨j+1,by omega,by go_num,by (show Value.int _ _=_;rw[HSP.out];try (show Value.int .i64 _= .int .i64 (((Qu v2 ((Qu v1 (kk+1)).2)).2:Nat):Int);first | go_num | (congr 1<;>omega))),hB3⟩,by simp[intOf];omega⟩
    | (go_roundw;(case measure=>simp[intOf];omega);(case rel=>exact ⟨j+1,by omega,by go_num,by (show Value.int _ _=_;rw[HSP.out];try (show Value.int .i64 _= .int .i64 (((Qu v2 ((Qu v1 (kk+1)).2)).2:Nat):Int);first | go_num | (congr 1<;>omega))),hB3⟩))
  obtain rfl:j=l.length:=by omega
  have hf:=HF.out;rw[List.take_length] at*;rw[hf] at*;have HF2:=Lib.hid hf;clear hf;go_wp2
  go_ret
  exact ⟨rfl,hB⟩
theorem FM (w:World) (ca:List Value) (a a':X1) (K:Int) (k:Nat) (hK:K=k) (h1:1<=k) (hk:(GoD.markT a k).2<=4611686018427387904) (ha':a'=(GoD.markT a k).1) (ha:rd w ca a'):Calls Tryz.prog 41 #[.agg ca.toArray,.int .i64 K] w (Ret w (.int .i64 ((GoD.markT a k).2:Nat))):=by
 subst hK ha';obtain ⟨b1,b2,b3⟩:=a;have hk:(Qu b2 ((Qu b1 (k)).2)).2<=4611686018427387904:=hk;have ha:rd w ca ((Qu b1 (k)).1,(Qu b2 ((Qu b1 (k)).2)).1,b3):=ha;generalize hfin:(GoD.markT ((b1,b2,b3):X1) k).2=fin;have hfin:(Qu b2 ((Qu b1 (k)).2)).2=fin:=hfin;obtain ⟨_,_,rfl,ar1,_,_,rfl,ar2,ar3⟩:=ha;obtain ⟨ax1_0,rfl⟩:=D9 (show _=1 from GoD.rd_len ar1);have HR1:=Lib.hid ar1;clear ar1;have hm1:k<=(Qu b1 (k)).2:=Zd _ _;obtain ⟨ax2_0,rfl⟩:=D9 (show _=1 from GoD.rd_len ar2);have HR2:=Lib.hid ar2;clear ar2;have hm2:(Qu b1 (k)).2<=(Qu b2 ((Qu b1 (k)).2)).2:=Zd _ _;obtain ⟨rfl,ar3⟩:=ar3;clear ar3;dsimp only[List.cons_append,List.nil_append] at*;have tok1:True:=trivial;have tok2:True:=trivial;have HF:=Lib.hid hfin;clear hfin;go_enter Tryz.func41,Tryz.ntmps41
 go_wp2_with (first | (go_at_call 84;have tk:=tok1;clear tok1;refine Xr (w:=w) (CI _ ax1_0 b1 _ _ (k) (by omega) (by omega) (show (Qu b1 (k)).2<=4611686018427387904 by omega) rfl (Zx HR1.out (by go_grown))) (by go_grown) ?_;intro w1 hB hb hz hz2;(try simp only[zSh] at hz2);have c0:=λo=>Zl hb (w.heap.size) o (by go_size);clear hb) | (go_at_call 85;have tk:=tok2;clear tok2;refine Xr (w:=w) (FK _ ax2_0 b2 _ _ ((Qu b1 (k)).2) (by omega) (by omega) (show (Qu b2 ((Qu b1 (k)).2)).2<=4611686018427387904 by omega) rfl (Zx HR2.out (by go_grown))) (by go_grown) ?_;intro w2 hB hb hz hz2;(try simp only[zSh] at hz2);have c0:=λo=>Zl hb (w.heap.size) o (by go_size);clear hb))
 go_ret
 refine ⟨?_,by go_grown⟩;rw[←HF.out];rfl
theorem UE (w:World) (ca:List Value) (a a':Yb) (K:Int) (k:Nat) (hK:K=k) (h1:1<=k) (hk:(GoD.markT a k).2<=4611686018427387904) (ha':a'=(GoD.markT a k).1) (ha:rd w ca a'):Calls Tryz.prog 14 #[.agg ca.toArray,.int .i64 K] w (Ret w (.int .i64 ((GoD.markT a k).2:Nat))):=by
 subst hK ha';obtain ⟨b1,b2,b3⟩:=a;have hk:(Qu b3 ((Qu b2 ((GoD.markT b1 (k)).2)).2)).2<=4611686018427387904:=hk;have ha:rd w ca ((GoD.markT b1 (k)).1,(Qu b2 ((GoD.markT b1 (k)).2)).1,(Qu b3 ((Qu b2 ((GoD.markT b1 (k)).2)).2)).1):=ha;generalize hfin:(GoD.markT ((b1,b2,b3):Yb) k).2=fin;have hfin:(Qu b3 ((Qu b2 ((GoD.markT b1 (k)).2)).2)).2=fin:=hfin;obtain ⟨_,_,rfl,ar1,_,_,rfl,ar2,ar3⟩:=ha;obtain ⟨ax1_0,ax1_1,ax1_2,rfl⟩:=Qg2 (show _=3 from GoD.rd_len ar1);have HR1:=Lib.hid ar1;clear ar1;have hm1:k<=(GoD.markT b1 (k)).2:=GoD.mkT_le _ _;obtain ⟨ax2_0,rfl⟩:=D9 (show _=1 from GoD.rd_len ar2);have HR2:=Lib.hid ar2;clear ar2;have hm2:(GoD.markT b1 (k)).2<=(Qu b2 ((GoD.markT b1 (k)).2)).2:=Zd _ _;obtain ⟨ax3_0,rfl⟩:=D9 (show _=1 from GoD.rd_len ar3);have HR3:=Lib.hid ar3;clear ar3;have hm3:(Qu b2 ((GoD.markT b1 (k)).2)).2<=(Qu b3 ((Qu b2 ((GoD.markT b1 (k)).2)).2)).2:=Zd _ _;dsimp only[List.cons_append,List.nil_append] at*;have tok1:True:=trivial;have tok2:True:=trivial;have tok3:True:=trivial;have HF:=Lib.hid hfin;clear hfin;go_enter Tryz.func14,Tryz.ntmps14
 go_wp2_with (first | (go_at_call 41;have tk:=tok1;clear tok1;refine Xr (w:=w) (FM _ [ax1_0,ax1_1,ax1_2] b1 _ _ (k) (by omega) (by omega) (show (GoD.markT b1 (k)).2<=4611686018427387904 by omega) rfl (Zx HR1.out (by go_grown))) (by go_grown) ?_;intro w1 hB hb hz hz2;(try simp only[zSh] at hz2);have c0:=λo=>Zl hb (w.heap.size) o (by go_size);clear hb) | (go_at_call 42;have tk:=tok2;clear tok2;refine Xr (w:=w) (NN _ ax2_0 b2 _ _ ((GoD.markT b1 (k)).2) (by omega) (by omega) (show (Qu b2 ((GoD.markT b1 (k)).2)).2<=4611686018427387904 by omega) rfl (Zx HR2.out (by go_grown))) (by go_grown) ?_;intro w2 hB hb hz hz2;(try simp only[zSh] at hz2);have c0:=λo=>Zl hb (w.heap.size) o (by go_size);clear hb) | (go_at_call 43;have tk:=tok3;clear tok3;refine Xr (w:=w) (UD _ ax3_0 b3 _ _ ((Qu b2 ((GoD.markT b1 (k)).2)).2) (by omega) (by omega) (show (Qu b3 ((Qu b2 ((GoD.markT b1 (k)).2)).2)).2<=4611686018427387904 by omega) rfl (Zx HR3.out (by go_grown))) (by go_grown) ?_;intro w3 hB hb hz hz2;(try simp only[zSh] at hz2);have c0:=λo=>Zl hb (w.heap.size) o (by go_size);clear hb))
 go_ret
 refine ⟨?_,by go_grown⟩;rw[←HF.out];rfl
end
section
open Go.RowKit
open GoD (rd own)
set_option maxRecDepth 100000
set_option maxHeartbeats 1000000
theorem cBz {w v:World} {a:Addr} {x:Value} (hB:Below w.heap.size w v) (h:w.cell? a=some x):v.cell? a=some x:=(hB.cell (World.block_lt_of_cell? w _ h)).trans h
theorem zSz:(∀(w:World) o,(w.alloc o).heap.size=w.heap.size+1)/\(∀(w:World) a v,(w.setCell a v).heap.size=w.heap.size)/\∀w:World,w.drew.heap.size=w.heap.size:=⟨λ_ _=>World.size_alloc ..,λ_ _ _=>World.size_setCell ..,λ_=>rfl⟩
abbrev zI {α:Type} [GoD α] (l:List α) (left:Int) (w:World) (q i:Value) (wr:World):Prop:=∃(k:Nat) (r:Int),k<=l.length/\i= .int .i64 k/\q= .int .i64 r/\0<=r/\r<=1048576/\Hid (r=left-l.length-((l.take k).map GoD.size).sum)/\Below w.heap.size w wr
theorem TP (w:World) (ca:List Value) (a:Yd) (left:Int) (ha:rd w ca a) (h0:0<=left) (h1:left<=1048576):Calls Tryz.prog 87 #[.agg ca.toArray,.int .i64 left] w (Lf w (GoD.size a) left):=by
 obtain ⟨a1,a2⟩:=a;obtain ⟨ac1,at1,rfl,ar1,ar2⟩:=ha;obtain ⟨rfl,ar1⟩:=ar1;obtain ⟨rfl,ar2⟩:=ar2;dsimp only[List.cons_append,List.nil_append] at*;unfold maxLen at ar1;have ar1:a1.size<=9223372036854775807:=by omega
 clear ar2;have hsz:GoD.size (a1,a2)=(a1.size+0):=rfl;have HSZ:=Lib.hid hsz;clear hsz;go_enter Tryz.func87,Tryz.ntmps87
 go_wp2
 all_goals
  go_ret
  refine ⟨_,rfl, ?_,by go_grown⟩;rw[HSZ.out];unfold szq
  (try unfold szq at*)
  go_light
  omega
theorem NO (w:World) (v:Value) (l:List Yd) (left:Int) (ha:rd w [v] l) (h0:0<=left) (h1:left<=1048576):Calls Tryz.prog 44 #[v,.int .i64 left] w (Lf w (GoD.size l) left):=by
 obtain ⟨oa,cap,e1,hl,hm,hel⟩:=ha;obtain rfl:v=_:=by simpa using e1
 clear e1;have HE:=Lib.hid hel;clear hel;unfold maxLen at hm;have hlm:l.length<=9223372036854775807:=by omega
 have hsz:GoD.size l=l.length+(l.map GoD.size).sum:=rfl;have HSZ:=Lib.hid hsz;clear hsz;by_cases hneg:left-l.length<0
 . go_enter Tryz.func44,Tryz.ntmps44
   go_wp2
   go_ret
   refine ⟨_,rfl, ?_,Below.refl _ _⟩;rw[HSZ.out];unfold szq;omega
 go_enter Tryz.func44,Tryz.ntmps44
 go_wp2
 go_loopw [1,5] (zI l left w) (λ_ i _=>l.length-(intOf i).toNat)
 case atStart=>exact ⟨0,_,Nat.zero_le _,rfl,rfl,by omega,by omega,by show _=_;simp,Below.refl _ _⟩
 case round=>
  obtain ⟨k,r,hk,rfl,rfl,hr0,hr1,HR,hB⟩:=hrel;by_cases hkl:k<l.length
  . have hx:=List.getElem?_eq_getElem hkl;obtain ⟨eb,eo,ee,rfl,hcl,hcc,hxr⟩:=HE.out k _ hx;have HT:=Lib.hid (Ia hx);have HU:=Lib.hid (Bu hx);clear hx;generalize l[k]=x at*;obtain ⟨x0,x1,rfl⟩:=VN (show _=2 from hcl);have p0:wr.cell? ⟨eb,eo+k*2,none⟩=some x0:=cBz hB (hcc 0 _ rfl);have p1:wr.cell? ⟨eb,eo+k*2+1,none⟩=some x1:=cBz hB (hcc 1 _ rfl);have HXR:=Lib.hid hxr;clear hxr hcc hcl;go_wp2_with (go_at_call 87;refine H5 (w:=w) (TP _ [x0,x1] x _ (Zx HXR.out hB) (by omega) (by omega)) (by go_grown) ?_;intro w2 r2 hB2 hb hz hz2 hr2 hs;have HR2:=Lib.hid hr2;clear hr2 hb)
    . go_ret
      refine ⟨_,rfl, ?_,by go_grown⟩;have u1:=HU.out;have u2:=HR2.out;have u3:=HR.out;rw[HSZ.out];unfold szq at*;go_light
      omega
    go_roundw
    case rel=>exact ⟨k+1,_,by omega,by go_num,rfl,by omega,by omega,by
    show _=_;have u1:=HT.out;have u2:=HR2.out;have u3:=HR.out;unfold szq at*;rw[u1];omega,by go_grown⟩
    case measure=>simp[intOf];omega
  obtain rfl:k=l.length:=by omega
  go_wp2
  go_ret
  refine ⟨_,rfl, ?_,hB⟩;have u3:=HR.out;rw[List.take_length] at u3;rw[HSZ.out];unfold szq;omega
theorem CJ (w:World) (ca:List Value) (a:Z4) (left:Int) (ha:rd w ca a) (h0:0<=left) (h1:left<=1048576):Calls Tryz.prog 173 #[.agg ca.toArray,.int .i64 left] w (Lf w (GoD.size a) left):=by
 obtain ⟨a1,a2,a3⟩:=a;obtain ⟨ac1,at1,rfl,ar1,ac2,at2,rfl,ar2,ar3⟩:=ha;obtain ⟨rfl,ar1⟩:=ar1;obtain ⟨rfl,ar2⟩:=ar2;obtain ⟨rfl,ar3⟩:=ar3;dsimp only[List.cons_append,List.nil_append] at*;clear ar1;clear ar2;unfold maxLen at ar3;have ar3:a3.size<=9223372036854775807:=by omega
 have hsz:GoD.size (a1,a2,a3)=(0+(0+a3.size)):=rfl;have HSZ:=Lib.hid hsz;clear hsz;go_enter Tryz.func173,Tryz.ntmps173
 go_wp2
 all_goals
  go_ret
  refine ⟨_,rfl, ?_,by go_grown⟩;rw[HSZ.out];unfold szq
  (try unfold szq at*)
  go_light
  omega
theorem Qcs (w:World) (ca:List Value) (a:Jl) (left:Int) (ha:rd w ca a) (h0:0<=left) (h1:left<=1048576):Calls Tryz.prog 172 #[.agg ca.toArray,.int .i64 left] w (Lf w (GoD.size a) left):=by
 obtain ⟨a1,a2⟩:=a;obtain ⟨ac1,at1,rfl,ar1,ar2⟩:=ha;obtain ⟨rfl,ar1⟩:=ar1;obtain ⟨ax2_0,ax2_1,ax2_2,rfl⟩:=Qg2 (show _=3 from GoD.rd_len ar2);dsimp only[List.cons_append,List.nil_append] at*;unfold maxLen at ar1;have ar1:a1.size<=9223372036854775807:=by omega
 have AR2H:=Lib.hid ar2;clear ar2;have tok1:True:=trivial;have hsz:GoD.size (a1,a2)=(a1.size+GoD.size a2):=rfl;have HSZ:=Lib.hid hsz;clear hsz;go_enter Tryz.func172,Tryz.ntmps172
 go_wp2_with (first | (go_at_call 173;have tk:=tok1;clear tok1;refine H5 (w:=w) (CJ _ [ax2_0,ax2_1,ax2_2] a2 _ (Zx AR2H.out (by go_grown)) (by omega) (by omega)) (by go_grown) ?_;intro w1 r1 hB hb hz hz2 hr hs;have HR1:=Lib.hid hr;clear hr;(try simp only[zSz] at hz2);have c0:=λo=>Zl hb (w.heap.size) o (by go_size);clear hb))
 all_goals
  go_ret
  refine ⟨_,rfl, ?_,by go_grown⟩;rw[HSZ.out];unfold szq
  (try have u1:=HR1.out)
  (try unfold szq at*)
  go_light
  omega
theorem TQ (w:World) (v:Value) (l:List Jl) (left:Int) (ha:rd w [v] l) (h0:0<=left) (h1:left<=1048576):Calls Tryz.prog 142 #[v,.int .i64 left] w (Lf w (GoD.size l) left):=by
 obtain ⟨oa,cap,e1,hl,hm,hel⟩:=ha;obtain rfl:v=_:=by simpa using e1
 clear e1;have HE:=Lib.hid hel;clear hel;unfold maxLen at hm;have hlm:l.length<=9223372036854775807:=by omega
 have hsz:GoD.size l=l.length+(l.map GoD.size).sum:=rfl;have HSZ:=Lib.hid hsz;clear hsz;by_cases hneg:left-l.length<0
 . go_enter Tryz.func142,Tryz.ntmps142
   go_wp2
   go_ret
   refine ⟨_,rfl, ?_,Below.refl _ _⟩;rw[HSZ.out];unfold szq;omega
 go_enter Tryz.func142,Tryz.ntmps142
 go_wp2
 go_loopw [1,5] (zI l left w) (λ_ i _=>l.length-(intOf i).toNat)
 case atStart=>exact ⟨0,_,Nat.zero_le _,rfl,rfl,by omega,by omega,by show _=_;simp,Below.refl _ _⟩
 case round=>
  obtain ⟨k,r,hk,rfl,rfl,hr0,hr1,HR,hB⟩:=hrel;by_cases hkl:k<l.length
  . have hx:=List.getElem?_eq_getElem hkl;obtain ⟨eb,eo,ee,rfl,hcl,hcc,hxr⟩:=HE.out k _ hx;have HT:=Lib.hid (Ia hx);have HU:=Lib.hid (Bu hx);clear hx;generalize l[k]=x at*;obtain ⟨x0,x1,x2,x3,rfl⟩:=Qiz (show _=4 from hcl);have p0:wr.cell? ⟨eb,eo+k*4,none⟩=some x0:=cBz hB (hcc 0 _ rfl);have p1:wr.cell? ⟨eb,eo+k*4+1,none⟩=some x1:=cBz hB (hcc 1 _ rfl);have p2:wr.cell? ⟨eb,eo+k*4+2,none⟩=some x2:=cBz hB (hcc 2 _ rfl);have p3:wr.cell? ⟨eb,eo+k*4+3,none⟩=some x3:=cBz hB (hcc 3 _ rfl);have HXR:=Lib.hid hxr;clear hxr hcc hcl;go_wp2_with (go_at_call 172;refine H5 (w:=w) (Qcs _ [x0,x1,x2,x3] x _ (Zx HXR.out hB) (by omega) (by omega)) (by go_grown) ?_;intro w2 r2 hB2 hb hz hz2 hr2 hs;have HR2:=Lib.hid hr2;clear hr2 hb)
    . go_ret
      refine ⟨_,rfl, ?_,by go_grown⟩;have u1:=HU.out;have u2:=HR2.out;have u3:=HR.out;rw[HSZ.out];unfold szq at*;go_light
      omega
    go_roundw
    case rel=>exact ⟨k+1,_,by omega,by go_num,rfl,by omega,by omega,by
    show _=_;have u1:=HT.out;have u2:=HR2.out;have u3:=HR.out;unfold szq at*;rw[u1];omega,by go_grown⟩
    case measure=>simp[intOf];omega
  obtain rfl:k=l.length:=by omega
  go_wp2
  go_ret
  refine ⟨_,rfl, ?_,hB⟩;have u3:=HR.out;rw[List.take_length] at u3;rw[HSZ.out];unfold szq;omega
theorem Qct (w:World) (ca:List Value) (a:Yh) (left:Int) (ha:rd w ca a) (h0:0<=left) (h1:left<=1048576):Calls Tryz.prog 88 #[.agg ca.toArray,.int .i64 left] w (Lf w (GoD.size a) left):=by
 obtain ⟨a1,a2,a3,a4,a5⟩:=a;obtain ⟨ac1,at1,rfl,ar1,ac2,at2,rfl,ar2,ac3,at3,rfl,ar3,ac4,at4,rfl,ar4,ar5⟩:=ha;obtain ⟨rfl,ar1⟩:=ar1;obtain ⟨rfl,ar2⟩:=ar2;obtain rfl:=ar3;obtain ⟨rfl,ar4⟩:=ar4;obtain ⟨ax5_0,rfl⟩:=D9 (show _=1 from GoD.rd_len ar5);dsimp only[List.cons_append,List.nil_append] at*;clear ar1;clear ar2;clear ar4;have AR5H:=Lib.hid ar5;clear ar5;have tok1:True:=trivial;have hsz:GoD.size (a1,a2,a3,a4,a5)=(0+(0+(0+(0+GoD.size a5)))):=rfl;have HSZ:=Lib.hid hsz;clear hsz;go_enter Tryz.func88,Tryz.ntmps88
 go_wp2_with (first | (go_at_call 142;have tk:=tok1;clear tok1;refine H5 (w:=w) (TQ _ ax5_0 a5 _ (Zx AR5H.out (by go_grown)) (by omega) (by omega)) (by go_grown) ?_;intro w1 r1 hB hb hz hz2 hr hs;have HR1:=Lib.hid hr;clear hr;(try simp only[zSz] at hz2);have c0:=λo=>Zl hb (w.heap.size) o (by go_size);clear hb))
 all_goals
  go_ret
  refine ⟨_,rfl, ?_,by go_grown⟩;rw[HSZ.out];unfold szq
  (try have u1:=HR1.out)
  (try unfold szq at*)
  go_light
  omega
theorem TR (w:World) (v:Value) (l:List Yh) (left:Int) (ha:rd w [v] l) (h0:0<=left) (h1:left<=1048576):Calls Tryz.prog 45 #[v,.int .i64 left] w (Lf w (GoD.size l) left):=by
 obtain ⟨oa,cap,e1,hl,hm,hel⟩:=ha;obtain rfl:v=_:=by simpa using e1
 clear e1;have HE:=Lib.hid hel;clear hel;unfold maxLen at hm;have hlm:l.length<=9223372036854775807:=by omega
 have hsz:GoD.size l=l.length+(l.map GoD.size).sum:=rfl;have HSZ:=Lib.hid hsz;clear hsz;by_cases hneg:left-l.length<0
 . go_enter Tryz.func45,Tryz.ntmps45
   go_wp2
   go_ret
   refine ⟨_,rfl, ?_,Below.refl _ _⟩;rw[HSZ.out];unfold szq;omega
 go_enter Tryz.func45,Tryz.ntmps45
 go_wp2
 go_loopw [1,5] (zI l left w) (λ_ i _=>l.length-(intOf i).toNat)
 case atStart=>exact ⟨0,_,Nat.zero_le _,rfl,rfl,by omega,by omega,by show _=_;simp,Below.refl _ _⟩
 case round=>
  obtain ⟨k,r,hk,rfl,rfl,hr0,hr1,HR,hB⟩:=hrel;by_cases hkl:k<l.length
  . have hx:=List.getElem?_eq_getElem hkl;obtain ⟨eb,eo,ee,rfl,hcl,hcc,hxr⟩:=HE.out k _ hx;have HT:=Lib.hid (Ia hx);have HU:=Lib.hid (Bu hx);clear hx;generalize l[k]=x at*;obtain ⟨x0,x1,x2,x3,x4,rfl⟩:=Qi0 (show _=5 from hcl);have p0:wr.cell? ⟨eb,eo+k*5,none⟩=some x0:=cBz hB (hcc 0 _ rfl);have p1:wr.cell? ⟨eb,eo+k*5+1,none⟩=some x1:=cBz hB (hcc 1 _ rfl);have p2:wr.cell? ⟨eb,eo+k*5+2,none⟩=some x2:=cBz hB (hcc 2 _ rfl);have p3:wr.cell? ⟨eb,eo+k*5+3,none⟩=some x3:=cBz hB (hcc 3 _ rfl);have p4:wr.cell? ⟨eb,eo+k*5+4,none⟩=some x4:=cBz hB (hcc 4 _ rfl);have HXR:=Lib.hid hxr;clear hxr hcc hcl;go_wp2_with (go_at_call 88;refine H5 (w:=w) (Qct _ [x0,x1,x2,x3,x4] x _ (Zx HXR.out hB) (by omega) (by omega)) (by go_grown) ?_;intro w2 r2 hB2 hb hz hz2 hr2 hs;have HR2:=Lib.hid hr2;clear hr2 hb)
    . go_ret
      refine ⟨_,rfl, ?_,by go_grown⟩;have u1:=HU.out;have u2:=HR2.out;have u3:=HR.out;rw[HSZ.out];unfold szq at*;go_light
      omega
    go_roundw
    case rel=>exact ⟨k+1,_,by omega,by go_num,rfl,by omega,by omega,by
    show _=_;have u1:=HT.out;have u2:=HR2.out;have u3:=HR.out;unfold szq at*;rw[u1];omega,by go_grown⟩
    case measure=>simp[intOf];omega
  obtain rfl:k=l.length:=by omega
  go_wp2
  go_ret
  refine ⟨_,rfl, ?_,hB⟩;have u3:=HR.out;rw[List.take_length] at u3;rw[HSZ.out];unfold szq;omega
theorem TS (w:World) (ca:List Value) (a:X1) (left:Int) (ha:rd w ca a) (h0:0<=left) (h1:left<=1048576):Calls Tryz.prog 17 #[.agg ca.toArray,.int .i64 left] w (Lf w (GoD.size a) left):=by
 obtain ⟨a1,a2,a3⟩:=a;obtain ⟨ac1,at1,rfl,ar1,ac2,at2,rfl,ar2,ar3⟩:=ha;obtain ⟨ax1_0,rfl⟩:=D9 (show _=1 from GoD.rd_len ar1);obtain ⟨ax2_0,rfl⟩:=D9 (show _=1 from GoD.rd_len ar2);obtain ⟨rfl,ar3⟩:=ar3;dsimp only[List.cons_append,List.nil_append] at*;have AR1H:=Lib.hid ar1;clear ar1;have AR2H:=Lib.hid ar2;clear ar2;clear ar3;have tok1:True:=trivial;have tok2:True:=trivial;have hsz:GoD.size (a1,a2,a3)=(GoD.size a1+(GoD.size a2+0)):=rfl;have HSZ:=Lib.hid hsz;clear hsz;go_enter Tryz.func17,Tryz.ntmps17
 go_wp2_with (first | (go_at_call 44;have tk:=tok1;clear tok1;refine H5 (w:=w) (NO _ ax1_0 a1 _ (Zx AR1H.out (by go_grown)) (by omega) (by omega)) (by go_grown) ?_;intro w1 r1 hB hb hz hz2 hr hs;have HR1:=Lib.hid hr;clear hr;(try simp only[zSz] at hz2);have c0:=λo=>Zl hb (w.heap.size) o (by go_size);clear hb) | (go_at_call 45;have tk:=tok2;clear tok2;refine H5 (w:=w) (TR _ ax2_0 a2 _ (Zx AR2H.out (by go_grown)) (by omega) (by omega)) (by go_grown) ?_;intro w2 r2 hB hb hz hz2 hr hs;have HR2:=Lib.hid hr;clear hr;(try simp only[zSz] at hz2);have c0:=λo=>Zl hb (w.heap.size) o (by go_size);clear hb))
 all_goals
  go_ret
  refine ⟨_,rfl, ?_,by go_grown⟩;rw[HSZ.out];unfold szq
  (try have u1:=HR1.out)
  (try have u2:=HR2.out)
  (try unfold szq at*)
  go_light
  omega
theorem Qcu (w:World) (ca:List Value) (a:Yy) (left:Int) (ha:rd w ca a) (h0:0<=left) (h1:left<=1048576):Calls Tryz.prog 143 #[.agg ca.toArray,.int .i64 left] w (Lf w (GoD.size a) left):=by
 obtain ⟨a1,a2,a3,a4,a5⟩:=a;obtain ⟨ac1,at1,rfl,ar1,ac2,at2,rfl,ar2,ac3,at3,rfl,ar3,ac4,at4,rfl,ar4,ar5⟩:=ha;obtain ⟨rfl,ar1⟩:=ar1;obtain ⟨rfl,ar2⟩:=ar2;obtain ⟨rfl,ar3⟩:=ar3;obtain ⟨rfl,ar4⟩:=ar4;obtain ⟨ax5_0,ax5_1,ax5_2,rfl⟩:=Qg2 (show _=3 from GoD.rd_len ar5);dsimp only[List.cons_append,List.nil_append] at*;clear ar1;clear ar2;clear ar3;unfold maxLen at ar4;have ar4:a4.size<=9223372036854775807:=by omega
 have AR5H:=Lib.hid ar5;clear ar5;have tok1:True:=trivial;have hsz:GoD.size (a1,a2,a3,a4,a5)=(0+(0+(0+(a4.size+GoD.size a5)))):=rfl;have HSZ:=Lib.hid hsz;clear hsz;go_enter Tryz.func143,Tryz.ntmps143
 go_wp2_with (first | (go_at_call 173;have tk:=tok1;clear tok1;refine H5 (w:=w) (CJ _ [ax5_0,ax5_1,ax5_2] a5 _ (Zx AR5H.out (by go_grown)) (by omega) (by omega)) (by go_grown) ?_;intro w1 r1 hB hb hz hz2 hr hs;have HR1:=Lib.hid hr;clear hr;(try simp only[zSz] at hz2);have c0:=λo=>Zl hb (w.heap.size) o (by go_size);clear hb))
 all_goals
  go_ret
  refine ⟨_,rfl, ?_,by go_grown⟩;rw[HSZ.out];unfold szq
  (try have u1:=HR1.out)
  (try unfold szq at*)
  go_light
  omega
theorem TT (w:World) (v:Value) (l:List Yy) (left:Int) (ha:rd w [v] l) (h0:0<=left) (h1:left<=1048576):Calls Tryz.prog 89 #[v,.int .i64 left] w (Lf w (GoD.size l) left):=by
 obtain ⟨oa,cap,e1,hl,hm,hel⟩:=ha;obtain rfl:v=_:=by simpa using e1
 clear e1;have HE:=Lib.hid hel;clear hel;unfold maxLen at hm;have hlm:l.length<=9223372036854775807:=by omega
 have hsz:GoD.size l=l.length+(l.map GoD.size).sum:=rfl;have HSZ:=Lib.hid hsz;clear hsz;by_cases hneg:left-l.length<0
 . go_enter Tryz.func89,Tryz.ntmps89
   go_wp2
   go_ret
   refine ⟨_,rfl, ?_,Below.refl _ _⟩;rw[HSZ.out];unfold szq;omega
 go_enter Tryz.func89,Tryz.ntmps89
 go_wp2
 go_loopw [1,5] (zI l left w) (λ_ i _=>l.length-(intOf i).toNat)
 case atStart=>exact ⟨0,_,Nat.zero_le _,rfl,rfl,by omega,by omega,by show _=_;simp,Below.refl _ _⟩
 case round=>
  obtain ⟨k,r,hk,rfl,rfl,hr0,hr1,HR,hB⟩:=hrel;by_cases hkl:k<l.length
  . have hx:=List.getElem?_eq_getElem hkl;obtain ⟨eb,eo,ee,rfl,hcl,hcc,hxr⟩:=HE.out k _ hx;have HT:=Lib.hid (Ia hx);have HU:=Lib.hid (Bu hx);clear hx;generalize l[k]=x at*;obtain ⟨x0,x1,x2,x3,x4,x5,x6,rfl⟩:=Qi1 (show _=7 from hcl);have p0:wr.cell? ⟨eb,eo+k*7,none⟩=some x0:=cBz hB (hcc 0 _ rfl);have p1:wr.cell? ⟨eb,eo+k*7+1,none⟩=some x1:=cBz hB (hcc 1 _ rfl);have p2:wr.cell? ⟨eb,eo+k*7+2,none⟩=some x2:=cBz hB (hcc 2 _ rfl);have p3:wr.cell? ⟨eb,eo+k*7+3,none⟩=some x3:=cBz hB (hcc 3 _ rfl);have p4:wr.cell? ⟨eb,eo+k*7+4,none⟩=some x4:=cBz hB (hcc 4 _ rfl);have p5:wr.cell? ⟨eb,eo+k*7+5,none⟩=some x5:=cBz hB (hcc 5 _ rfl);have p6:wr.cell? ⟨eb,eo+k*7+6,none⟩=some x6:=cBz hB (hcc 6 _ rfl);have HXR:=Lib.hid hxr;clear hxr hcc hcl;go_wp2_with (go_at_call 143;refine H5 (w:=w) (Qcu _ [x0,x1,x2,x3,x4,x5,x6] x _ (Zx HXR.out hB) (by omega) (by omega)) (by go_grown) ?_;intro w2 r2 hB2 hb hz hz2 hr2 hs;have HR2:=Lib.hid hr2;clear hr2 hb)
    . go_ret
      refine ⟨_,rfl, ?_,by go_grown⟩;have u1:=HU.out;have u2:=HR2.out;have u3:=HR.out;rw[HSZ.out];unfold szq at*;go_light
      omega
    go_roundw
    case rel=>exact ⟨k+1,_,by omega,by go_num,rfl,by omega,by omega,by
    show _=_;have u1:=HT.out;have u2:=HR2.out;have u3:=HR.out;unfold szq at*;rw[u1];omega,by go_grown⟩
    case measure=>simp[intOf];omega
  obtain rfl:k=l.length:=by omega
  go_wp2
  go_ret
  refine ⟨_,rfl, ?_,hB⟩;have u3:=HR.out;rw[List.take_length] at u3;rw[HSZ.out];unfold szq;omega
theorem Qf6 (w:World) (ca:List Value) (a:Y8) (left:Int) (ha:rd w ca a) (h0:0<=left) (h1:left<=1048576):Calls Tryz.prog 46 #[.agg ca.toArray,.int .i64 left] w (Lf w (GoD.size a) left):=by
 obtain ⟨a1,a2⟩:=a;obtain ⟨ac1,at1,rfl,ar1,ar2⟩:=ha;obtain ⟨rfl,ar1⟩:=ar1;obtain ⟨ax2_0,rfl⟩:=D9 (show _=1 from GoD.rd_len ar2);dsimp only[List.cons_append,List.nil_append] at*;unfold maxLen at ar1;have ar1:a1.size<=9223372036854775807:=by omega
 have AR2H:=Lib.hid ar2;clear ar2;have tok1:True:=trivial;have hsz:GoD.size (a1,a2)=(a1.size+GoD.size a2):=rfl;have HSZ:=Lib.hid hsz;clear hsz;go_enter Tryz.func46,Tryz.ntmps46
 go_wp2_with (first | (go_at_call 89;have tk:=tok1;clear tok1;refine H5 (w:=w) (TT _ ax2_0 a2 _ (Zx AR2H.out (by go_grown)) (by omega) (by omega)) (by go_grown) ?_;intro w1 r1 hB hb hz hz2 hr hs;have HR1:=Lib.hid hr;clear hr;(try simp only[zSz] at hz2);have c0:=λo=>Zl hb (w.heap.size) o (by go_size);clear hb))
 all_goals
  go_ret
  refine ⟨_,rfl, ?_,by go_grown⟩;rw[HSZ.out];unfold szq
  (try have u1:=HR1.out)
  (try unfold szq at*)
  go_light
  omega
theorem Qcv (w:World) (v:Value) (l:List Y8) (left:Int) (ha:rd w [v] l) (h0:0<=left) (h1:left<=1048576):Calls Tryz.prog 18 #[v,.int .i64 left] w (Lf w (GoD.size l) left):=by
 obtain ⟨oa,cap,e1,hl,hm,hel⟩:=ha;obtain rfl:v=_:=by simpa using e1
 clear e1;have HE:=Lib.hid hel;clear hel;unfold maxLen at hm;have hlm:l.length<=9223372036854775807:=by omega
 have hsz:GoD.size l=l.length+(l.map GoD.size).sum:=rfl;have HSZ:=Lib.hid hsz;clear hsz;by_cases hneg:left-l.length<0
 . go_enter Tryz.func18,Tryz.ntmps18
   go_wp2
   go_ret
   refine ⟨_,rfl, ?_,Below.refl _ _⟩;rw[HSZ.out];unfold szq;omega
 go_enter Tryz.func18,Tryz.ntmps18
 go_wp2
 go_loopw [1,5] (zI l left w) (λ_ i _=>l.length-(intOf i).toNat)
 case atStart=>exact ⟨0,_,Nat.zero_le _,rfl,rfl,by omega,by omega,by show _=_;simp,Below.refl _ _⟩
 case round=>
  obtain ⟨k,r,hk,rfl,rfl,hr0,hr1,HR,hB⟩:=hrel;by_cases hkl:k<l.length
  . have hx:=List.getElem?_eq_getElem hkl;obtain ⟨eb,eo,ee,rfl,hcl,hcc,hxr⟩:=HE.out k _ hx;have HT:=Lib.hid (Ia hx);have HU:=Lib.hid (Bu hx);clear hx;generalize l[k]=x at*;obtain ⟨x0,x1,rfl⟩:=VN (show _=2 from hcl);have p0:wr.cell? ⟨eb,eo+k*2,none⟩=some x0:=cBz hB (hcc 0 _ rfl);have p1:wr.cell? ⟨eb,eo+k*2+1,none⟩=some x1:=cBz hB (hcc 1 _ rfl);have HXR:=Lib.hid hxr;clear hxr hcc hcl;go_wp2_with (go_at_call 46;refine H5 (w:=w) (Qf6 _ [x0,x1] x _ (Zx HXR.out hB) (by omega) (by omega)) (by go_grown) ?_;intro w2 r2 hB2 hb hz hz2 hr2 hs;have HR2:=Lib.hid hr2;clear hr2 hb)
    . go_ret
      refine ⟨_,rfl, ?_,by go_grown⟩;have u1:=HU.out;have u2:=HR2.out;have u3:=HR.out;rw[HSZ.out];unfold szq at*;go_light
      omega
    go_roundw
    case rel=>exact ⟨k+1,_,by omega,by go_num,rfl,by omega,by omega,by
    show _=_;have u1:=HT.out;have u2:=HR2.out;have u3:=HR.out;unfold szq at*;rw[u1];omega,by go_grown⟩
    case measure=>simp[intOf];omega
  obtain rfl:k=l.length:=by omega
  go_wp2
  go_ret
  refine ⟨_,rfl, ?_,hB⟩;have u3:=HR.out;rw[List.take_length] at u3;rw[HSZ.out];unfold szq;omega
theorem Qcw (w:World) (v:Value) (l:List Int) (left:Int) (ha:rd w [v] l) (h0:0<=left) (h1:left<=1048576):Calls Tryz.prog 90 #[v,.int .i64 left] w (Lf w (GoD.size l) left):=by
 obtain ⟨oa,cap,e1,hl,hm,hel⟩:=ha;obtain rfl:v=_:=by simpa using e1
 clear e1;have HE:=Lib.hid hel;clear hel;unfold maxLen at hm;have hlm:l.length<=9223372036854775807:=by omega
 have hsz:GoD.size l=l.length+(l.map GoD.size).sum:=rfl;have HSZ:=Lib.hid hsz;clear hsz;have hz0:(l.map GoD.size).sum=0:=FY l (λ_=>rfl);have HZ0:=Lib.hid hz0;clear hz0;go_enter Tryz.func90,Tryz.ntmps90
 go_wp2
 all_goals
  go_ret
  refine ⟨_,rfl, ?_,by go_grown⟩;rw[HSZ.out,HZ0.out];unfold szq;go_light
  omega
theorem NP (w:World) (ca:List Value) (a:Qg) (left:Int) (ha:rd w ca a) (h0:0<=left) (h1:left<=1048576):Calls Tryz.prog 47 #[.agg ca.toArray,.int .i64 left] w (Lf w (GoD.size a) left):=by
 obtain ⟨a1,a2⟩:=a;obtain ⟨ac1,at1,rfl,ar1,ar2⟩:=ha;obtain ⟨rfl,ar1⟩:=ar1;obtain ⟨ax2_0,rfl⟩:=D9 (show _=1 from GoD.rd_len ar2);dsimp only[List.cons_append,List.nil_append] at*;unfold maxLen at ar1;have ar1:a1.size<=9223372036854775807:=by omega
 have AR2H:=Lib.hid ar2;clear ar2;have tok1:True:=trivial;have hsz:GoD.size (a1,a2)=(a1.size+GoD.size a2):=rfl;have HSZ:=Lib.hid hsz;clear hsz;go_enter Tryz.func47,Tryz.ntmps47
 go_wp2_with (first | (go_at_call 90;have tk:=tok1;clear tok1;refine H5 (w:=w) (Qcw _ ax2_0 a2 _ (Zx AR2H.out (by go_grown)) (by omega) (by omega)) (by go_grown) ?_;intro w1 r1 hB hb hz hz2 hr hs;have HR1:=Lib.hid hr;clear hr;(try simp only[zSz] at hz2);have c0:=λo=>Zl hb (w.heap.size) o (by go_size);clear hb))
 all_goals
  go_ret
  refine ⟨_,rfl, ?_,by go_grown⟩;rw[HSZ.out];unfold szq
  (try have u1:=HR1.out)
  (try unfold szq at*)
  go_light
  omega
theorem FN (w:World) (v:Value) (l:List Qg) (left:Int) (ha:rd w [v] l) (h0:0<=left) (h1:left<=1048576):Calls Tryz.prog 19 #[v,.int .i64 left] w (Lf w (GoD.size l) left):=by
 obtain ⟨oa,cap,e1,hl,hm,hel⟩:=ha;obtain rfl:v=_:=by simpa using e1
 clear e1;have HE:=Lib.hid hel;clear hel;unfold maxLen at hm;have hlm:l.length<=9223372036854775807:=by omega
 have hsz:GoD.size l=l.length+(l.map GoD.size).sum:=rfl;have HSZ:=Lib.hid hsz;clear hsz;by_cases hneg:left-l.length<0
 . go_enter Tryz.func19,Tryz.ntmps19
   go_wp2
   go_ret
   refine ⟨_,rfl, ?_,Below.refl _ _⟩;rw[HSZ.out];unfold szq;omega
 go_enter Tryz.func19,Tryz.ntmps19
 go_wp2
 go_loopw [1,5] (zI l left w) (λ_ i _=>l.length-(intOf i).toNat)
 case atStart=>exact ⟨0,_,Nat.zero_le _,rfl,rfl,by omega,by omega,by show _=_;simp,Below.refl _ _⟩
 case round=>
  obtain ⟨k,r,hk,rfl,rfl,hr0,hr1,HR,hB⟩:=hrel;by_cases hkl:k<l.length
  . have hx:=List.getElem?_eq_getElem hkl;obtain ⟨eb,eo,ee,rfl,hcl,hcc,hxr⟩:=HE.out k _ hx;have HT:=Lib.hid (Ia hx);have HU:=Lib.hid (Bu hx);clear hx;generalize l[k]=x at*;obtain ⟨x0,x1,rfl⟩:=VN (show _=2 from hcl);have p0:wr.cell? ⟨eb,eo+k*2,none⟩=some x0:=cBz hB (hcc 0 _ rfl);have p1:wr.cell? ⟨eb,eo+k*2+1,none⟩=some x1:=cBz hB (hcc 1 _ rfl);have HXR:=Lib.hid hxr;clear hxr hcc hcl;go_wp2_with (go_at_call 47;refine H5 (w:=w) (NP _ [x0,x1] x _ (Zx HXR.out hB) (by omega) (by omega)) (by go_grown) ?_;intro w2 r2 hB2 hb hz hz2 hr2 hs;have HR2:=Lib.hid hr2;clear hr2 hb)
    . go_ret
      refine ⟨_,rfl, ?_,by go_grown⟩;have u1:=HU.out;have u2:=HR2.out;have u3:=HR.out;rw[HSZ.out];unfold szq at*;go_light
      omega
    go_roundw
    case rel=>exact ⟨k+1,_,by omega,by go_num,rfl,by omega,by omega,by
    show _=_;have u1:=HT.out;have u2:=HR2.out;have u3:=HR.out;unfold szq at*;rw[u1];omega,by go_grown⟩
    case measure=>simp[intOf];omega
  obtain rfl:k=l.length:=by omega
  go_wp2
  go_ret
  refine ⟨_,rfl, ?_,hB⟩;have u3:=HR.out;rw[List.take_length] at u3;rw[HSZ.out];unfold szq;omega
theorem YN (w:World) (ca:List Value) (a:Yb) (left:Int) (ha:rd w ca a) (h0:0<=left) (h1:left<=1048576):Calls Tryz.prog 4 #[.agg ca.toArray,.int .i64 left] w (Lf w (GoD.size a) left):=by
 obtain ⟨a1,a2,a3⟩:=a;obtain ⟨ac1,at1,rfl,ar1,ac2,at2,rfl,ar2,ar3⟩:=ha;obtain ⟨ax1_0,ax1_1,ax1_2,rfl⟩:=Qg2 (show _=3 from GoD.rd_len ar1);obtain ⟨ax2_0,rfl⟩:=D9 (show _=1 from GoD.rd_len ar2);obtain ⟨ax3_0,rfl⟩:=D9 (show _=1 from GoD.rd_len ar3);dsimp only[List.cons_append,List.nil_append] at*;have AR1H:=Lib.hid ar1;clear ar1;have AR2H:=Lib.hid ar2;clear ar2;have AR3H:=Lib.hid ar3;clear ar3;have tok1:True:=trivial;have tok2:True:=trivial;have tok3:True:=trivial;have hsz:GoD.size (a1,a2,a3)=(GoD.size a1+(GoD.size a2+GoD.size a3)):=rfl;have HSZ:=Lib.hid hsz;clear hsz;go_enter Tryz.func4,Tryz.ntmps4
 go_wp2_with (first | (go_at_call 17;have tk:=tok1;clear tok1;refine H5 (w:=w) (TS _ [ax1_0,ax1_1,ax1_2] a1 _ (Zx AR1H.out (by go_grown)) (by omega) (by omega)) (by go_grown) ?_;intro w1 r1 hB hb hz hz2 hr hs;have HR1:=Lib.hid hr;clear hr;(try simp only[zSz] at hz2);have c0:=λo=>Zl hb (w.heap.size) o (by go_size);clear hb) | (go_at_call 18;have tk:=tok2;clear tok2;refine H5 (w:=w) (Qcv _ ax2_0 a2 _ (Zx AR2H.out (by go_grown)) (by omega) (by omega)) (by go_grown) ?_;intro w2 r2 hB hb hz hz2 hr hs;have HR2:=Lib.hid hr;clear hr;(try simp only[zSz] at hz2);have c0:=λo=>Zl hb (w.heap.size) o (by go_size);clear hb) | (go_at_call 19;have tk:=tok3;clear tok3;refine H5 (w:=w) (FN _ ax3_0 a3 _ (Zx AR3H.out (by go_grown)) (by omega) (by omega)) (by go_grown) ?_;intro w3 r3 hB hb hz hz2 hr hs;have HR3:=Lib.hid hr;clear hr;(try simp only[zSz] at hz2);have c0:=λo=>Zl hb (w.heap.size) o (by go_size);clear hb))
 all_goals
  go_ret
  refine ⟨_,rfl, ?_,by go_grown⟩;rw[HSZ.out];unfold szq
  (try have u1:=HR1.out)
  (try have u2:=HR2.out)
  (try have u3:=HR3.out)
  (try unfold szq at*)
  go_light
  omega
end
section
open Go.RowKit
open GoE (enc)
section
variable {α:Type} [GoE α] {P:Program} {tt:List (Nat×TI)} {f g t6:Nat} {fn:Func} {i0 i1 i2 i3 i4 i5 i6 i7 i8 B B1:Nat} {O0 O1 O2 O3 O4 O5 O6 O7 O8:Array Oper}
theorem eqS (htt:De P tt=true) (hm:P.follows .mixedOrders=true) (hf:P.funcs[f]? =some fn) (b8:Bool) (o:α->Ob) (ho:∀(w0:Base) [GoodAt P w0] (a:α),(o a).holds (Yu P w0) (K4 P w0)) (l:List α)
 (hb:fn.body=some (.seq (.region i0 O0 false) (.seq (.seq (.region i1 O1 false) (.cond (.tmp 10) (.seq (.region i2 O2 false) .ret) .skip)) (.seq (.seq (.region i3 O3 false) (.block B (.loop (.seq (.seq (.region i4 O4 false) (.cond (.tmp 14) .skip (.exit B))) (.seq (.block B1 (.seq (.region i6 O6 true) (.cond (.tmp t6) (.seq (.region i7 O7 false) .ret) .skip))) (.region i5 O5 false)))))) (.seq (.region i8 O8 false) .ret)))):=by exact rfl)
 (hok:Ee P f:=by unfold Ee;kernel_rfl) (hn:2<=fn.ntmps:=by exact Nat.le_of_ble_eq_true rfl)
 (h0:Vl tt fn.ntmps [] O0.toList [0,1,4] [] (YY [.h l,.h l])=some (⟨[(0,.h l),(1,.h l),(4,.b false)], []⟩, []):=by kernel_rfl)
 (h1:Vl tt fn.ntmps [(1,.val (.i (l.length:Int))),(3,.val (.i (l.length:Int))),(4,.val (.b false))] O1.toList [0,1,4,10] [] ⟨[(0,.h l),(1,.h l),(4,.b false)], []⟩=some (⟨[(0,.h l),(1,.h l),(4,.b false),(10,.b false)], []⟩, [.eq (.i ((eL l).length:Int)) (.i (l.length:Int)),.eq (.i ((eL l).length:Int)) (.i (l.length:Int)),.eq (.b ((l.length:Int) !=(l.length:Int))) (.b false)]):=by kernel_rfl)
 (h3:Vl tt fn.ntmps [] O3.toList [5,0,1,4] [] ⟨[(0,.h l),(1,.h l),(4,.b false),(10,.b false)], []⟩=some (⟨[(5,.i 0),(0,.h l),(1,.h l),(4,.b false)], []⟩, []):=by kernel_rfl)
 (h4:∀(k:Nat) (b:Bool),Vl tt fn.ntmps [(2,.val (.i (l.length:Int))),(3,.val (.b b))] O4.toList [5,0,1,4,14] [] ⟨[(5,.i (k:Int)),(0,.h l),(1,.h l),(4,.b false)], []⟩=some (⟨[(5,.i (k:Int)),(0,.h l),(1,.h l),(4,.b false),(14,.b b)], []⟩, [.eq (.i ((eL l).length:Int)) (.i (l.length:Int)),.eq (.b (decide ((k:Int)<(l.length:Int)))) (.b b)]):=by intro k b;kernel_rfl)
 (h6:∀(k:Nat) (a:α),Cp tt fn.ntmps [(2,.row (enc a)),(6,.row (enc a)),(8,.val (.b b8))] O6.toList [5,0,1,4,t6] [] ⟨[(5,.i (k:Int)),(0,.h l),(1,.h l),(4,.b false),(14,.b true)], []⟩=some (⟨[(5,.i (k:Int)),(0,.h l),(1,.h l),(4,.b false),(t6,.b false)], []⟩, [.elem (eL l) (k:Int) (enc a),.elem (eL l) (k:Int) (enc a),o a]):=by intro k a;kernel_rfl)
 (h7:∀k:Nat,get [(5,AV.i (k:Int)),(0,.h l),(1,.h l),(4,.b false),(t6,.b false)] t6=some (.b false):=by intro k;kernel_rfl)
 (h5:∀k:Nat,Vl tt fn.ntmps [(1,.val (.i ((k+1:Nat):Int)))] O5.toList [5,0,1,4] [] ⟨[(5,.i (k:Int)),(0,.h l),(1,.h l),(4,.b false),(t6,.b false)], []⟩=some (⟨[(5,.i ((k+1:Nat):Int)),(0,.h l),(1,.h l),(4,.b false)], []⟩, [.eq (.i (IntKind.i64.wrap ((k:Int)+1))) (.i ((k+1:Nat):Int))]):=by intro k;kernel_rfl)
 (h8:Vl tt fn.ntmps [] O8.toList [4] [] ⟨[(4,.b false)], []⟩=some (⟨[(4,.b true)], []⟩, []):=by kernel_rfl)
 (hr:Pk tt fn.results.toList ⟨[(4,.b true)], []⟩=some (.b true):=by kernel_rfl):ACalls P f [.h l,.h l] (.b true):=by
 refine Pm htt hf hb hok hn λw0 F0 hG=> ?_
 refine Qc (Zk htt [] _ _ h0 p0 ?_);refine Qc (Qc (Zk htt _ _ _ h1 (pl 1 l (pl 3 l (pf 4 (by simp) p0))) ?_));refine ckF (Qi ?_);refine Qc (Qc (Zk htt [] _ _ h3 p0 ?_));refine wT 0 0 .sh l (λhw hl=> ?_) rfl;refine M8 (R:=Bool) (τ:=Unit) (λ_ _ (_:Unit)=> .next ()) (λ_ _=>()) l () (λk _=> [(5,.i (k:Int))]) [5] (λ_=> []) [0,1,5] (Qh rfl) (λk s hk hI=> ?_) (λk s hk hI=> ?_) (λy _=> ?_)
 . obtain ⟨a,hx⟩:=Xs (l:=l) (i:=k) hk;refine Qc (Qc (Zk htt _ _ _ (h4 k true) (pl 2 l (pt 3 (decide_eq_true (p:=(k:Int)<(l.length:Int)) (by omega)) p0)) ?_));refine ckT (Qi ?_);refine Qc (Qx (Qc (Tp htt hm _ _ _ (h6 k a) (pn 2 hx (pn 6 hx (po 8 (.val (.b b8)) (px (ho w0 a) p0)))) ?_)));refine Ps (h7 k) (Qi ?_);refine Zk htt _ _ _ (h5 k) (pe 1 (Js (Qq k (by omega))) p0) ?_;exact ⟨(),Qh rfl,Qw hx rfl hI⟩
 . refine Qc (Qc (Zk htt _ _ _ (h4 k false) (pl 2 l (pf 3 (decide_eq_false (p:=(k:Int)<(l.length:Int)) (by omega)) p0)) ?_));refine ckF (Xe ?_);show (bif Nat.beq B B then _ else _:Prop);rw[Nat.beq_refl];exact ⟨(),Qh rfl,Xy hk rfl hI⟩
 refine Qc (Zk htt [] _ _ h8 p0 (Qk ?_));exact Eh [] hr rfl
def eqZ (a:α):St:=⟨[(2,.p 2 0),(3,.p 3 0),(4,.b false)], [(2,(enc a).map shC),(3,(enc a).map shC)]⟩
variable {N:Nat} {w0:Base} {F0:Nat->Prop} {c y:Code} {rs:List ResultVar} {t:Nat}
theorem eqA (htt:De P tt=true) (hf:P.funcs[f]? =some fn) (a:α) (k:∀(w0:Base) (F0:Nat->Prop) (_:GoodAt P w0),AWP P fn.ntmps w0 F0 c (OY tt fn.results.toList (.b true)) (eqZ a))
 (hb:fn.body=some (.seq (.region i0 O0 false) c):=by exact rfl) (hok:Ee P f:=by unfold Ee;kernel_rfl) (hn:2<=fn.ntmps:=by exact Nat.le_of_ble_eq_true rfl)
 (h0:Vl tt fn.ntmps [] O0.toList [2,3,4] [2,3] (YY [B7 a,B7 a])=some (eqZ a, []):=by kernel_rfl):ACalls P f [B7 a,B7 a] (.b true):=
 Pm htt hf hb hok hn λw0 F0 hG=>Qc (Zk htt [] _ _ h0 p0 (k w0 F0 hG))
def eqY (a:α) (t:Nat) (b:Bool):St:=⟨[(2,.p 2 0),(3,.p 3 0),(4,.b false),(t,.b b)], [(2,(enc a).map shC),(3,(enc a).map shC)]⟩
theorem eqF (htt:De P tt=true) {a:α} {b:Bool} {Q:Exit->St->Prop} (k:AWP P N w0 F0 y Q (eqZ a)) (hc:b=false:=by simp)
 (h:Vl tt N [(O1.size-1,.val (.b false))] O1.toList [2,3,4,t] [2,3] (eqZ a)=some (eqY a t false, [.eq (.b b) (.b false)]):=by kernel_rfl) (hg:get (eqY a t false).tm t=some (.b false):=by kernel_rfl) (hk:(eqY a t false).keep [2,3,4] [2,3]=eqZ a:=by kernel_rfl):AWP P N w0 F0 (.seq (.seq (.region i1 O1 false) (.cond (.tmp t) (.seq (.region i2 O2 false) .ret) .skip)) y) Q (eqZ a):=
 Qc (Qc (Zk htt _ _ _ h (pf (O1.size-1) hc p0) (Ps hg (Qi (Ik (QR _ _ hk) k)))))
theorem eqG (htt:De P tt=true) {a:α} {v:AV} {Q:Exit->St->Prop} [GoodAt P w0] (hv:ACalls P g [v,v] (.b true)) (k:AWP P N w0 F0 y Q (eqZ a))
 (h:Vl tt N [(O1.size-2,.val (.b true))] O1.toList [2,3,4,t] [2,3] (eqZ a)=some (eqY a t false, [.call g [v,v] (.b true)]):=by kernel_rfl) (hg:get (eqY a t false).tm t=some (.b false):=by kernel_rfl) (hk:(eqY a t false).keep [2,3,4] [2,3]=eqZ a:=by kernel_rfl):AWP P N w0 F0 (.seq (.seq (.region i1 O1 false) (.cond (.tmp t) (.seq (.region i2 O2 false) .ret) .skip)) y) Q (eqZ a):=
 Qc (Qc (Zk htt _ _ _ h (pc (O1.size-2) hv p0) (Ps hg (Qi (Ik (QR _ _ hk) k)))))
theorem eqE (htt:De P tt=true) {a:α} (h:Vl tt N [] O1.toList [4] [] (eqZ a)=some (⟨[(4,.b true)], []⟩, []):=by kernel_rfl) (hr:Pk tt rs ⟨[(4,.b true)], []⟩=some (.b true):=by kernel_rfl):AWP P N w0 F0 (.seq (.region i1 O1 false) .ret) (OY tt rs (.b true)) (eqZ a):=
 Qc (Zk htt [] _ _ h p0 (Qk (Eh [] hr rfl)))
theorem eqI (htt:De P tt=true) {a:α} (x:Int) {Q:Exit->St->Prop} (k:AWP P N w0 F0 y Q (eqZ a))
 (h:Vl tt N [(O1.size-1,.val (.b false))] O1.toList [2,3,4,t] [2,3] (eqZ a)=some (eqY a t false, [.eq (.b (x !=x)) (.b false)]):=by kernel_rfl) (hg:get (eqY a t false).tm t=some (.b false):=by kernel_rfl) (hk:(eqY a t false).keep [2,3,4] [2,3]=eqZ a:=by kernel_rfl):AWP P N w0 F0 (.seq (.seq (.region i1 O1 false) (.cond (.tmp t) (.seq (.region i2 O2 false) .ret) .skip)) y) Q (eqZ a):=eqF htt k (by simp) h hg hk
theorem eqB (htt:De P tt=true) {a:α} (x:Bool) {Q:Exit->St->Prop} (k:AWP P N w0 F0 y Q (eqZ a))
 (h:Vl tt N [(O1.size-1,.val (.b false))] O1.toList [2,3,4,t] [2,3] (eqZ a)=some (eqY a t false, [.eq (.b (!(x==x))) (.b false)]):=by kernel_rfl) (hg:get (eqY a t false).tm t=some (.b false):=by kernel_rfl) (hk:(eqY a t false).keep [2,3,4] [2,3]=eqZ a:=by kernel_rfl):AWP P N w0 F0 (.seq (.seq (.region i1 O1 false) (.cond (.tmp t) (.seq (.region i2 O2 false) .ret) .skip)) y) Q (eqZ a):=eqF htt k (by simp) h hg hk
theorem eqT (htt:De P tt=true) {a:α} (x:ByteArray) {Q:Exit->St->Prop} (k:AWP P N w0 F0 y Q (eqZ a))
 (h:Vl tt N [(O1.size-1,.val (.b false))] O1.toList [2,3,4,t] [2,3] (eqZ a)=some (eqY a t false, [.eq (.b (!(x.toList==x.toList))) (.b false)]):=by kernel_rfl) (hg:get (eqY a t false).tm t=some (.b false):=by kernel_rfl) (hk:(eqY a t false).keep [2,3,4] [2,3]=eqZ a:=by kernel_rfl):AWP P N w0 F0 (.seq (.seq (.region i1 O1 false) (.cond (.tmp t) (.seq (.region i2 O2 false) .ret) .skip)) y) Q (eqZ a):=eqF htt k (by simp) h hg hk
def toM {β:Type} (l:List β) (d:β) (k:Nat):List β:=l.take k++List.replicate (l.length-k) d
theorem Qd9 {β:Type} (l:List β) (d:β) {k:Nat} (h:k<l.length):(toM l d k)[k]? =some d:=by
 unfold toM;rw[List.getElem?_append_right (by simp;omega),List.getElem?_replicate];simp;omega
theorem Qf7 {β:Type} {l:List β} (d:β) {k:Nat} {a:β} (h:l[k]? =some a):(toM l d k).set k a=toM l d (k+1):=by
 have hk:k<l.length:=(List.getElem?_eq_some_iff.1 h).1;obtain ⟨m,hm⟩:∃m,l.length-k=m+1:=⟨l.length-k-1,by omega⟩;unfold toM;rw[hm,show l.length-(k+1)=m by omega,List.replicate_succ,List.set_append_right _ _ (by simp;omega),List.take_add_one,h];simp[Nat.min_eq_left (Nat.le_of_lt hk)]
theorem toS (d:α) (htt:De P tt=true) (hf:P.funcs[f]? =some fn) (j:Nat) (mid:α->List (Nat×Orc)) (mo:α->List Ob) (hg:∀(w0:Base) [GoodAt P w0] (a:α) (orcs:List (Nat×Orc)) (obs:List Ob),PL (Yu P w0) (K4 P w0) orcs obs->PL (Yu P w0) (K4 P w0) (mid a++orcs) (mo a++obs)) (l:List α)
 (hb:fn.body=some (.seq (.region i0 O0 false) (.seq (.region i1 O1 false) (.seq (.seq (.region i2 O2 false) (.block B (.loop (.seq (.seq (.region i3 O3 false) (.cond (.tmp 11) .skip (.exit B))) (.seq (.block B1 (.region i5 O5 false)) (.region i4 O4 false)))))) (.seq (.region i6 O6 false) .ret)))):=by exact rfl)
 (hok:Ee P f:=by unfold Ee;kernel_rfl) (hn:1<=fn.ntmps:=by exact Nat.le_of_ble_eq_true rfl)
 (h0:Vl tt fn.ntmps [] O0.toList [0] [] (YY [.h l])=some (⟨[(0,.h l)], []⟩, []):=by kernel_rfl)
 (h1:Vl tt fn.ntmps [(1,.val (.i (l.length:Int)))] O1.toList [3,0] [] ⟨[(0,.h l)], []⟩=some (⟨[(3,.one (.slc (.own true 448) (GoD.n α) (List.replicate l.length (enc d)))),(0,.h l)], []⟩, [.eq (.i ((eL l).length:Int)) (.i (l.length:Int)),.rng 0 (l.length:Int) 1073741824]):=by kernel_rfl)
 (h2:∀m:List α,Vl tt fn.ntmps [] O2.toList [4,3,0] [] ⟨[(3,.one (.slc (.own true 448) (GoD.n α) (eL m))),(0,.h l)], []⟩=some (⟨[(4,.i 0),(3,.one (.slc (.own true 448) (GoD.n α) (eL m))),(0,.h l)], []⟩, []):=by intro m;kernel_rfl)
 (h3:∀(k:Nat) (m:List α) (b:Bool),Vl tt fn.ntmps [(2,.val (.i (l.length:Int))),(3,.val (.b b))] O3.toList [4,3,0,11] [] ⟨[(4,.i (k:Int)),(3,.one (.slc (.own true 448) (GoD.n α) (eL m))),(0,.h l)], []⟩=some (⟨[(4,.i (k:Int)),(3,.one (.slc (.own true 448) (GoD.n α) (eL m))),(0,.h l),(11,.b b)], []⟩, [.eq (.i ((eL l).length:Int)) (.i (l.length:Int)),.eq (.b (decide ((k:Int)<(l.length:Int)))) (.b b)]):=by intro k m b;kernel_rfl)
 (h5:∀(k:Nat) (m:List α) (a x:α),Vl tt fn.ntmps ((4,.row (enc a))::(mid a++ [(j,.rowE (enc x))])) O5.toList [4,3,0] [] ⟨[(4,.i (k:Int)),(3,.one (.slc (.own true 448) (GoD.n α) (eL m))),(0,.h l),(11,.b true)], []⟩=some (⟨[(4,.i (k:Int)),(3,.one (.slc (.own true 448) (GoD.n α) (setRow (eL m) k 0 (enc a)))),(0,.h l)], []⟩,(.elem (eL l) (k:Int) (enc a)::(mo a++ [.elem (eL m) (k:Int) (enc x)]))):=by intro k m a x;kernel_rfl)
 (h4:∀(k:Nat) (m:List α),Vl tt fn.ntmps [(1,.val (.i ((k+1:Nat):Int)))] O4.toList [4,3,0] [] ⟨[(4,.i (k:Int)),(3,.one (.slc (.own true 448) (GoD.n α) (eL m))),(0,.h l)], []⟩=some (⟨[(4,.i ((k+1:Nat):Int)),(3,.one (.slc (.own true 448) (GoD.n α) (eL m))),(0,.h l)], []⟩, [.eq (.i (IntKind.i64.wrap ((k:Int)+1))) (.i ((k+1:Nat):Int))]):=by intro k m;kernel_rfl)
 (h6:∀m:List α,Vl tt fn.ntmps [] O6.toList [2] [] ⟨[(3,.one (.slc (.own true 448) (GoD.n α) (eL m)))], []⟩=some (⟨[(2,.one (.slc (.own true 448) (GoD.n α) (eL m)))], []⟩, []):=by intro m;kernel_rfl)
 (hr:∀m:List α,Pk tt fn.results.toList ⟨[(2,.one (.slc (.own true 448) (GoD.n α) (eL m)))], []⟩=some (DM m):=by intro m;kernel_rfl)
 (hlen:∀a b:α,(enc a).length=(enc b).length:=by intro a b;rfl):ACalls P f [.h l] (DM l):=by
 refine Pm htt hf hb hok hn λw0 F0 hG=> ?_
 refine Qc (Zk htt [] _ _ h0 p0 ?_);refine wT 0 0 .sh l (λhw hl=> ?_) rfl;refine Qc (Zk htt _ _ _ h1 (pl 1 l (px (show (0:Int)<=0/\(0:Int)<=(l.length:Int)/\(l.length:Int)<=((1073741824:Nat):Int) by omega) p0)) ?_);have e0:List.replicate l.length (enc d)=eL (toM l d 0):=by simp[toM,eL]
 rw[e0];refine Qc (Qc (Zk htt [] _ _ (h2 _) p0 ?_));refine Wm (σ:=Unit) (τ:=Unit) (λk _=>⟨[(4,.i (k:Int)),(3,.one (.slc (.own true 448) (GoD.n α) (eL (toM l d k)))),(0,.h l)], []⟩) (λ_=>⟨[(3,.one (.slc (.own true 448) (GoD.n α) (eL l)))], []⟩) (λ_ _=>True) (λ_=>True) l.length () (PU rfl) trivial (λk _ hk _=> ?_) (λk _ hk _=> ?_) (λ_ _=> ?_)
 . obtain ⟨a,hx⟩:=Xs (l:=l) (i:=k) hk;refine Qc (Qc (Zk htt _ _ _ (h3 k _ true) (pl 2 l (pt 3 (decide_eq_true (p:=(k:Int)<(l.length:Int)) (by omega)) p0)) ?_));refine ckT (Qi ?_);refine Qc (Qx (Zk htt _ _ _ (h5 k _ a d) (pn 4 hx (hg w0 a _ _ (pN j (Qd9 l d hk) p0))) ?_));rw[Zv (y:=a) (Qd9 l d hk) (by rw[Nat.zero_add,List.take_zero,List.nil_append,List.drop_eq_nil_of_le (Nat.le_of_eq (hlen d a)),List.append_nil]),Qf7 d hx];exact Zk htt _ _ _ (h4 k _) (pe 1 (Js (Qq k (by omega))) p0) ⟨(),PU rfl,trivial⟩
 . subst hk;refine Qc (Qc (Zk htt _ _ _ (h3 _ _ false) (pl 2 l (pf 3 (decide_eq_false (p:=(l.length:Int)<(l.length:Int)) (by omega)) p0)) ?_));refine ckF (Xe ?_);show (bif Nat.beq B B then _ else _:Prop);rw[Nat.beq_refl];refine ⟨(), ?_,trivial⟩;rw[show toM l d l.length=l by simp[toM]];exact Qh rfl
 exact Qc (Zk htt [] _ _ (h6 _) p0 (Qk (Eh [] (hr _) rfl)))
end
end
end Go.Proofs.YtcfmffieckchiaaGreatDoor
