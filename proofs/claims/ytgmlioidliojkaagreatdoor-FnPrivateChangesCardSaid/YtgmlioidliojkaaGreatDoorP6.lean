/- Texts of this proof, put together by a program: Vs, Ew, Cza, Su, Drl, Td, Cta, Ctb, Ctc, In, Fj, Ena, Enb, Isn, Isv, Ent, Tx, Enc, End, Enu, Vla, Vlb, Gb, Cua, Cub, Cuc, Cud. -/
import Derived.Test.YtgmlioidliojkaaGreatDoorP5
import Derived.KernelRfl
import Derived.Test.YtgmlioidliojkaaGreatDoorProg
import Derived.Outline
import Derived.Laws.IdiomStrings
import Derived.Lib.ItoaNum
import Derived.Lib.ConvBytes
import Derived.Lib.SlBytesRow
import Derived.Lib.SmallJoins
set_option linter.unusedVariables false
set_option linter.unusedSimpArgs false
namespace Go.Proofs.YtgmlioidliojkaaGreatDoor
open _root_.And renaming intro → zL
open _root_.BitVec renaming ofInt → xH
open _root_.Bool renaming not_true → zN, not_false → zQ, and_eq_true → zU, false_and → yD, false_eq_true → yG, true_and → yJ, and_false → yP, or_false → yS, eq_iff_iff → yU, false_or → xT, and_self → xU, and_true → xV, true_or → xW, or_self → xX
open _root_.ByteArray renaming size → zE, size_append → zI
open _root_.Classical renaming byContradiction → yK
open _root_.Exists renaming intro → zG
open _root_.Int renaming toNat → zJ, toNat_natCast → zO, natCast_add → xJ, tmod → xQ, le_refl → wA
open _root_.List renaming length → zD, mem_of_getElem? → zF, getElem?_eq_some_iff → zH, length_cons → zK, mem_cons_of_mem → zM, mem_cons_self → zP, length_set → zR, mem_cons → zS, length_nil → zT, mem_map_of_mem → zV, getElem?_of_mem → zW, filter_cons → zY, mem_append → yA, mem_append_left → yB, getElem?_eq_getElem → yC, length_append → yH, mem_singleton → yI, nil_append → yL, pairwise_cons → yM, map_id → yN, map → yQ, mem_append_right → yR, getElem?_append → yT, length_map → yV, pairwise_iff_getElem → yW, append_assoc → yY, map_cons → xA, set → xB, any_eq_true → xC, filter_cons_of_pos → xD, filter_cons_of_neg → xE, drop_eq_nil_of_le → xF, nodup_cons → xK, foldl_cons → xL, mem_filter → xM, length_filter_le → xN, take_append_drop → xO, length_singleton → xP, drop → xR, any_cons → xS, take → xY, getD → xZ
open _root_.List.Pairwise renaming nil → yX
open _root_.Nat renaming le_of_ble_eq_true → zZ, le_refl → yE, zero_add → yF, zero_le → yO, le_trans → xG
open _root_.Option.some renaming inj → xI
open _root_.UInt8 renaming ofNat → zX, toNat → yZ
section
open Go.RowKit
structure VS (s:Qz):Prop where
 sch:K1 s.1=true
 len:s.2.1.length<=12
 nx1:1<=s.2.2
 nx2:s.2.2<=61
 file:∀(i:Nat) (a:Xe),s.2.1[i]? =some a->Yd s.1 a=true/\a.1<s.2.2
 asc:∀(i:Nat) (a b:Xe),s.2.1[i]? =some a->s.2.1[i+1]? =some b->a.1<b.1
theorem Ot {s:Qz} (h:VS s):Xc s=true:=by
 unfold Xc;rw[Rg (l:=s.2.1) (k:=0) (λi a hi=> ?_)]
 . have h1:=h.len;have h2:=h.nx1;have h3:=h.nx2;simp only[Out.on,Xf,h.sch,yJ];rw[decide_eq_true (show (s.2.1.length:Int)<=12 by omega),decide_eq_true (show s.2.2>=1 from h2),decide_eq_true (show s.2.2<=61 from h3)];rfl
 obtain ⟨h1,h2⟩:=h.file i a hi;unfold J0;rw[h1,decide_eq_false (show¬a.1>=s.2.2 by omega)]
 have e2:(decide (((0+i:Nat):Int)>0)&&decide ((nth s.2.1 (zJ (((0+i:Nat):Int)-1))).1>=a.1))=false:=by
  by_cases hp:0<i
  . have hlt:i-1<s.2.1.length:=by have:=(zH.1 hi).1;omega
    have h3:=h.asc (i-1) _ a (Wg hlt) (by rw[show i-1+1=i by omega];exact hi);rw[show zJ (((0+i:Nat):Int)-1)=i-1 by omega,decide_eq_false (show¬(nth s.2.1 (i-1)).1>=a.1 by omega),yP]
  obtain rfl:i=0:=by omega
  rfl
 rw[e2];rfl
theorem Qhd {s:Qz} (h:Xc s=true):VS s:=by
 unfold Xc at h;cases hl:Xz (J0 s) U4 s.2.1 0 () with
 | brk t =>
   rw[hl] at h;simp only[Out.on,zU,Xf,decide_eq_true_eq] at h;obtain ⟨h1,h2,h3,h4⟩:=h
   have key:∀(i:Nat) (a:Xe),s.2.1[i]? =some a->Yd s.1 a=true/\a.1<s.2.2/\(decide (((i:Nat):Int)>0)&&decide ((nth s.2.1 (zJ (((i:Nat):Int)-1))).1>=a.1))=false:=λi a hi=>by
    have h5:=Mz (λk a t=>by unfold J0;generalize (_|| _:Bool)=c;cases c<;>simp) hl i a hi;unfold J0 at h5;rw[yF] at h5;cases hv:Yd s.1 a with
    | false=>rw[hv] at h5;simp at h5
    | true=>
      rw[hv] at h5;cases hd:decide (a.1>=s.2.2) with
      | true=>rw[hd] at h5;simp at h5
      | false=>
        rw[hd] at h5;refine ⟨rfl,by have:=of_decide_eq_false hd;omega, ?_⟩;generalize (decide (((i:Nat):Int)>0)&&decide ((nth s.2.1 (zJ (((i:Nat):Int)-1))).1>=a.1))=c at h5;cases c with
        | true=>simp at h5
        | false=>rfl
   refine ⟨h1,by omega,h3,h4,λi a hi=>⟨(key i a hi).1,(key i a hi).2.1⟩,λi a b ha hb=> ?_⟩;have h5:=(key (i+1) b hb).2.2;rw[decide_eq_true (show ((i+1:Nat):Int)>0 by omega),yJ,show zJ (((i+1:Nat):Int)-1)=i by omega,Od ha] at h5;have:=of_decide_eq_false h5;omega
 | ret r=>
   rw[hl] at h;obtain rfl:r=true:=h;exfalso
   have key:∀(l:List Xe) k,Xz (J0 s) U4 l k ()≠ .ret true:=by
    intro l
    induction l with
    | nil=>intro k h;simp[Xz] at h
    | cons a l ih=>
      intro k h;simp only[Xz] at h;unfold J0 at h;split at h
      . exact ih _ h
      . cases h
      rename_i r hf;cases h;revert hf;generalize (_|| _:Bool)=c;cases c<;>simp
   exact key _ _ hl
theorem Qbc (l:List Xe):∀(k:Nat) (s:List Xe),Xz Fh Fi l k s= .brk (s++l):=λk s=>by
 rw[Bk (f:=Fh) (e:=Fi) (g:=id) (λ_ _ _=>rfl),yN];rfl
theorem Qhe (s:Qz):Qh s=s:=by
 unfold Qh;rw[Qbc];rfl
theorem Qeh {s:Qz} {f:Xe} (h:VS s) (hl:s.2.1.length<12) (hn:s.2.2<=60) (hf:Yd s.1 (s.2.2,f.2)=true):VS (s.1,s.2.1++ [(s.2.2,f.2)],s.2.2+1):=by
 have hcase:∀(i:Nat) (a:Xe),(s.2.1++ [((s.2.2,f.2):Xe)])[i]? =some a->s.2.1[i]? =some a\/(i=s.2.1.length/\a=(s.2.2,f.2)):=λi a hi=>by
  rw[yT] at hi;split at hi
  . exact .inl hi
  right
  rename_i hge
  have:i-s.2.1.length=0:=by
   have:=(zH.1 hi).1;simp at this;omega
  rw[this] at hi;exact ⟨by omega,(xI hi).symm⟩
 refine ⟨h.sch,by simp;omega,by have:=h.nx1;show 1<=s.2.2+1;omega,by show s.2.2+1<=61;omega,λi a hi=> ?_,λi a b ha hb=> ?_⟩
 . show Yd s.1 a=true/\a.1<s.2.2+1;rcases hcase i a hi with hi | ⟨_,rfl⟩
   . obtain ⟨h1,h2⟩:=h.file i a hi;exact ⟨h1,by omega⟩
   exact ⟨hf,by show s.2.2<s.2.2+1;omega⟩
 rcases hcase i a ha with ha | ⟨h1,rfl⟩
 . rcases hcase (i+1) b hb with hb | ⟨_,rfl⟩
   . exact h.asc i a b ha hb
   exact (h.file i a ha).2
 rcases hcase (i+1) b hb with hb | ⟨h2,_⟩
 . have:=(zH.1 hb).1;omega
 omega
theorem Qei {s:Qz} {f:Xe} (h:VS s) (hl:s.2.1.length<12) (hn:s.2.2<=60) (hf:Yd s.1 (s.2.2,f.2)=true):Xx s f=((s.1,s.2.1++ [(s.2.2,f.2)],s.2.2+1),s.2.2,true):=by
 unfold Xx;rw[Qhe,Ot h,decide_eq_false (show¬(s.2.1.length:Int)>=12 by omega)];have hf':Yd s.1 (s.2.2,(Qu f).2.1,(Qu f).2.2.1,(Qu f).2.2.2.1,(Qu f).2.2.2.2)=true:=hf;have h1:=h.nx1;rw[hf',IntWalk.i64_in _ (show _/\_ by omega)];rfl
theorem Qmt {s:List Jf} {f:Xe} (h:Yd s f=true):1<=f.1/\f.1<=60:=by
 unfold Yd at h;cases hl:Xz (Jo s f) V4 f.2.2.2.2 0 () with
 | brk t=>
   rw[hl] at h;simp only[Out.on,zU,Xf,decide_eq_true_eq] at h;exact h.2.1
 | ret r=>
   rw[hl] at h;obtain rfl:r=true:=h;exfalso
   have key:∀(l:List Bl) k,Xz (Jo s f) V4 l k ()≠ .ret true:=by
    intro l
    induction l with
    | nil=>intro k h;simp[Xz] at h
    | cons a l ih=>
      intro k h;simp only[Xz] at h;unfold Jo at h;split at h
      . exact ih _ h
      . cases h
      rename_i r hf;cases h;revert hf;generalize (_|| _:Bool)=c;cases c<;>simp
   exact key _ _ hl
theorem LX {s:Qz} (f:Xe) (h:VS s):VS (Xx s f).1/\(Xx s f).1.1=s.1/\(Xx s f).1.2.1.length<=s.2.1.length+1/\s.2.1.length<=(Xx s f).1.2.1.length/\(Xx s f).1.2.2<=s.2.2+1:=by
 by_cases hc:s.2.1.length<12/\Yd s.1 (s.2.2,f.2)=true
 . have hn:s.2.2<=60:=(Qmt hc.2).2;rw[Qei h hc.1 hn hc.2];exact ⟨Qeh h hc.1 hn hc.2,rfl,by simp,by simp,wA _⟩
 have e:(Xx s f).1=s:=by
  unfold Xx;rw[Qhe,Ot h];by_cases h1:s.2.1.length<12
  . have h2:Yd s.1 (s.2.2,f.2)≠true:=λh2=>hc ⟨h1,h2⟩
    have h3:Yd s.1 (s.2.2,(Qu f).2.1,(Qu f).2.2.1,(Qu f).2.2.2.1,(Qu f).2.2.2.2)=false:=Bool.eq_false_iff.2 h2;rw[h3];simp
  rw[decide_eq_true (show (s.2.1.length:Int)>=12 by omega)];simp
 rw[e];exact ⟨h,rfl,by omega,by omega,by omega⟩
theorem LY {s:Qz} (id:Int) (h:VS s):VS (Yz s id).1/\(Yz s id).1.1=s.1/\(Yz s id).1.2.1.length<=s.2.1.length/\(Yz s id).1.2.2=s.2.2:=by
 unfold Yz;rw[Qhe,Ot h];by_cases hc:Xd s id<0
 . rw[decide_eq_true hc];exact ⟨h,rfl,yE _,rfl⟩
 rw[decide_eq_false hc];simp only[zN,yS,cond_false];have hb:=KM s id;generalize Xd s id=p at hc hb;obtain ⟨k,rfl⟩:∃k:Nat,p=(k:Int):=⟨p.toNat,by omega⟩;have e2:zJ ((k:Int)+1)=k+1:=by omega
 rw[e2,zO];have hk:k<s.2.1.length:=by omega
 have hget:∀(i:Nat) (a:Xe),(xY k s.2.1++xR (k+1) s.2.1)[i]? =some a->s.2.1[if i<k then i else i+1]? =some a:=λi a hi=>by
  rw[yT,List.length_take,Nat.min_eq_left (by omega)] at hi;split at hi
  . rename_i hlt;rw[if_pos hlt]
    rwa [List.getElem?_take_of_lt hlt] at hi
  rename_i hge;rw[if_neg hge];rw[List.getElem?_drop] at hi
  rwa [show k+1+(i-k)=i+1 by omega] at hi
 refine ⟨⟨h.sch, ?_,h.nx1,h.nx2,λi a hi=>h.file _ a (hget i a hi),λi a b ha hb=> ?_⟩,trivial, ?_,trivial⟩
 . have:=h.len;show (xY k s.2.1++xR (k+1) s.2.1).length<=12;simp;omega
 . have ha:=hget i a ha;have hb:=hget (i+1) b hb;by_cases h1:i+1<k
   . rw[if_pos (by omega)] at ha;rw[if_pos h1] at hb;exact h.asc i a b ha hb
   rw[if_neg h1] at hb;by_cases h2:i<k
   . rw[if_pos h2] at ha;have hm:k<s.2.1.length:=hk;have h3:=h.asc i a _ ha (by rw[show i+1=k by omega];exact Wg hm);have h4:=h.asc k _ b (Wg hm) (by rw[show k+1=i+1+1 by omega];exact hb);omega
   rw[if_neg h2] at ha;exact h.asc (i+1) a b ha hb
 show (xY k s.2.1++xR (k+1) s.2.1).length<=s.2.1.length;simp;omega
end
section
def Qm0 {R R2 O:Type}:Rd R (O×Int×Bool) (O×Int)->Rd R2 (O×Bool) O->Prop
 | .next s,.next t=>t=(s.1,s.2.2)
 | .brk s,.brk t=>t=s.1
 | _,_=>False
theorem FW {R R2 O:Type} {F:O×Int×Bool->Rd R (O×Int×Bool) (O×Int)} {G:O×Bool->Rd R2 (O×Bool) O} (h:∀o p c,Qm0 (F (o,p,c)) (G (o,c))):∀(n:Nat) (o:O) (p:Int) (c:Bool) (y:O×Int),whl F n (o,p,c)=some (.brk y)->whl G n (o,c)=some (.brk y.1)
 | 0,_,_,_,_,hy=>by cases hy
 | n + 1,o,p,c,y,hy=>by
   have hb:=h o p c;simp only[whl] at hy⊢;cases hF:F (o,p,c) with
   | next s=>
     rw[hF] at hy hb;cases hG:G (o,c) with
     | next t=>
       rw[hG] at hb;obtain rfl:t=(s.1,s.2.2):=hb;exact FW h n s.1 s.2.1 s.2.2 y hy
     | brk t=>rw[hG] at hb;exact hb.elim
     | ret r=>rw[hG] at hb;exact hb.elim
   | brk s=>
     rw[hF] at hy hb;cases hG:G (o,c) with
     | next t=>rw[hG] at hb;exact hb.elim
     | brk t=>
       rw[hG] at hb;obtain rfl:t=s.1:=hb;obtain rfl:s=y:=by simpa using hy
       rfl
     | ret r=>rw[hG] at hb;exact hb.elim
   | ret r=>rw[hF] at hb;exact hb.elim
open GoE (enc wide)
def Ft (_:Nat) (a0:Yw) (s0:Z):Rd Z Z Z:=(bif (Xf a0.1 8 9) then (.next (K0 s0 a0.2.2.2.1)) else (.next s0))
def Mq (_:Nat) (s0:Z):Z:=s0
def Wz (q:List Yw):Z:=(Out.on (Xz Ft Mq q 0 []) (λy0=>y0))
theorem AS (q:List Yw):ACalls Tryz.prog 130 [.h q] (.o 0 (Wz q)):=by
 refine en Qb Tryz.func130 λw0 F0 hG=> ?_
 refine sn Qb [0,2] [] p0 <| tn Qb [0,2,3] [] p0 <| Qc <| tu Qb [(2,.e 0),(3,.one (.slc (.own true 320) 1 [])),(4,.i 0)] [] [] [] p0 <| wT 0 0 .sh q (λhw1 hl2=> ?_)
 refine KD Ft Mq q [] (λk0 s0=> [(3,.h s0),(4,.i (k0:Int))]) [3,4] (λy0=> [(3,.h y0)]) [0,3,4] (λk0 s0=>zD s0<=k0) (Ao [] [320] [] [] (by kernel_rfl)) (by simp) (λk0 s0 hk0 U=> ?_) (λk0 s0 hk0 U=> ?_) (λy0 hD0=> ?_)
 ·have hA0_0:=U.2;obtain ⟨a0,hx0⟩:=Xm (l:=q) (i:=k0) hk0;refine Qc <| sn Qb [0,2,3,4,9] [] (pl 2 q (pe 3 (zB ((k0:Int)<(q.length:Int))) p0)) <| ckT <| Qg <| Qc <| Qv <| tn Qb [0,2,3,4,17] [] (pn 2 hx0 (pc 5 (Z8 a0.1 8 9) p0)) <| ck (Xf a0.1 8 9) (λh3=> ?_) (λh3=> ?_)
  ·have h3w:=Dr.1 h3;refine qu Qb [(3,.h (K0 s0 a0.2.2.2.1))] [3] [] [] (pn 3 hx0 (pc 6 (Gk s0 a0.2.2.2.1 (by omega)) p0)) ?_;refine rn Qb [0,2,3,4] [] (pe 1 (Jl (Qo k0 (by omega))) p0) ?_;exact xw (K0 s0 a0.2.2.2.1) ⟨Qt hx0 (Q4 h3 (rfl)) U.1,(by first|omega|(have hz:=Sx s0 a0.2.2.2.1;omega))⟩
  refine Qg <| qu Qb [(4,.i ((k0+1:Nat):Int))] [4] [] [] (pe 1 (Jl (Qo k0 (by omega))) p0) ?_
  exact xw s0 ⟨Qt hx0 (Qi h3 (rfl)) U.1,(by first|omega|(have hz:=Sx s0 a0.2.2.2.1;omega))⟩
 ·have hA0_0:=U.2;exact Qc <| sn Qb [0,2,3,4,9] [] (pl 2 q (pe 3 (zC ((k0:Int)<(q.length:Int))) p0)) <| ckF <| Q3 <| xw _ (Xn hk0 (rfl) U.1)
 refine wT 3 0 .sh y0 (λhw4 hl5=> ?_);exact sn Qb [2] [] (po 2 (.flat) (px (Ey (n:=(([]:List (List PV)).length+((eL y0):List (List PV)).length)) (G0 (rfl) (Zu y0) (by first|omega|(simp only[zK,zT];omega) | (simp;omega) | simp))) (px (Cp (B8 y0)) p0))) <| Qe <| po0 [] (Wk hD0 (rfl))
def Ek (_:Nat) (a0:Yw) (s0:Z):Rd Z Z Z:=(bif (Xf a0.1 2 4) then (.next (K0 s0 a0.2.2.2.1)) else (.next s0))
def Ld (_:Nat) (s0:Z):Z:=s0
def Vr (q:List Yw):Z:=(Out.on (Xz Ek Ld q 0 []) (λy0=>y0))
theorem WM (q:List Yw):ACalls Tryz.prog 181 [.h q] (.o 0 (Vr q)):=by
 refine en Qb Tryz.func181 λw0 F0 hG=> ?_
 refine sn Qb [0,2] [] p0 <| tn Qb [0,2,3] [] p0 <| Qc <| tu Qb [(2,.e 0),(3,.one (.slc (.own true 320) 1 [])),(4,.i 0)] [] [] [] p0 <| wT 0 0 .sh q (λhw1 hl2=> ?_)
 refine KD Ek Ld q [] (λk0 s0=> [(3,.h s0),(4,.i (k0:Int))]) [3,4] (λy0=> [(3,.h y0)]) [0,3,4] (λk0 s0=>zD s0<=k0) (Ao [] [320] [] [] (by kernel_rfl)) (by simp) (λk0 s0 hk0 U=> ?_) (λk0 s0 hk0 U=> ?_) (λy0 hD0=> ?_)
 ·have hA0_0:=U.2;obtain ⟨a0,hx0⟩:=Xm (l:=q) (i:=k0) hk0;refine Qc <| sn Qb [0,2,3,4,9] [] (pl 2 q (pe 3 (zB ((k0:Int)<(q.length:Int))) p0)) <| ckT <| Qg <| Qc <| Qv <| tn Qb [0,2,3,4,17] [] (pn 2 hx0 (pc 5 (Z8 a0.1 2 4) p0)) <| ck (Xf a0.1 2 4) (λh3=> ?_) (λh3=> ?_)
  ·have h3w:=Dr.1 h3;refine qu Qb [(3,.h (K0 s0 a0.2.2.2.1))] [3] [] [] (pn 3 hx0 (pc 6 (Gk s0 a0.2.2.2.1 (by omega)) p0)) ?_;refine rn Qb [0,2,3,4] [] (pe 1 (Jl (Qo k0 (by omega))) p0) ?_;exact xw (K0 s0 a0.2.2.2.1) ⟨Qt hx0 (Q4 h3 (rfl)) U.1,(by first|omega|(have hz:=Sx s0 a0.2.2.2.1;omega))⟩
  refine Qg <| qu Qb [(4,.i ((k0+1:Nat):Int))] [4] [] [] (pe 1 (Jl (Qo k0 (by omega))) p0) ?_
  exact xw s0 ⟨Qt hx0 (Qi h3 (rfl)) U.1,(by first|omega|(have hz:=Sx s0 a0.2.2.2.1;omega))⟩
 ·have hA0_0:=U.2;exact Qc <| sn Qb [0,2,3,4,9] [] (pl 2 q (pe 3 (zC ((k0:Int)<(q.length:Int))) p0)) <| ckF <| Q3 <| xw _ (Xn hk0 (rfl) U.1)
 refine wT 3 0 .sh y0 (λhw4 hl5=> ?_);exact sn Qb [2] [] (po 2 (.flat) (px (Ey (n:=(([]:List (List PV)).length+((eL y0):List (List PV)).length)) (G0 (rfl) (Zu y0) (by first|omega|(simp only[zK,zT];omega) | (simp;omega) | simp))) (px (Cp (B8 y0)) p0))) <| Qe <| po0 [] (Wk hD0 (rfl))
def Fu (_:Nat) (a0:Bl) (s0:Z):Rd Z Z Z:=(.next (s0++ [a0.1]))
def Mr (_:Nat) (s0:Z):Z:=s0
def Yy (f:Xe):Z:=(Out.on (Xz Fu Mr f.2.2.2.2 0 []) (λy0=>y0))
theorem T6 (f:Xe):(Yy f).length=f.2.2.2.2.length:=by
 unfold Yy;rw[Bk (f:=Fu) (g:=λa:Bl=>a.1) (λ_ _ _=>rfl)];simp[Out.on,Mr]
theorem S9 (f:Xe):ACalls Tryz.prog 219 [.a [.i f.1,.i f.2.1,.b f.2.2.1,.i f.2.2.2.1,.h f.2.2.2.2]] (.o 0 (Yy f)):=by
 refine en Qb Tryz.func219 λw0 F0 hG=> ?_
 refine sn Qb [1,2] [1] p0 <| tn Qb [1,2,3] [1] p0 <| Qc <| tu Qb [(1,.p 1 0),(2,.e 0),(3,.one (.slc (.own true 320) 1 [])),(4,.i 0)] [0] [(1, [.i f.1,.i f.2.1,.b f.2.2.1,.i f.2.2.2.1,.h f.2.2.2.2])] [] p0 <| wB 1 4 .sh f.2.2.2.2 (λhw1 hl2=> ?_)
 refine YP Fu Mr f.2.2.2.2 [] (λk0 s0=> [(3,.o 147202 s0),(4,.i (k0:Int))]) [3,4] (λ_ _=> []) [] (λy0=> [(3,.o 147352 y0)]) [1,3,4] (λ_=> []) [1] (λk0 s0=>zD s0<=k0) (Xg [(320,147202)] (by kernel_rfl)) (by simp) (λk0 s0 hk0 U=> ?_) (λk0 s0 hk0 U=> ?_) (λy0 hD0=> ?_)
 ·have hA0_0:=U.2;obtain ⟨a0,hx0⟩:=Xm (l:=f.2.2.2.2) (i:=k0) hk0;refine Qc <| sn Qb [1,2,3,4,10] [1] (pl 3 f.2.2.2.2 (pe 4 (zB ((k0:Int)<(f.2.2.2.2.length:Int))) p0)) <| ckT <| Qg <| Qc <| Qv <| wT 3 0 (.own true 147202) s0 (λhw3 hl4=> ?_)
  refine qu Qb [(3,.one (.slc (.own true 1344) 1 ((eL s0)++ [[.s a0.1]])))] [3] [] [] (pn 4 hx0 (pa s0 [a0.1] p0)) ?_;refine eqn [(3,.o 1344 (s0++ [a0.1]))] [3] [] [] (by rw[show ((eL s0)++ [[.s a0.1]])=(eL (s0++ [a0.1])) from Ju (rfl) (rfl)];first | done | kernel_rfl) ?_;refine rn Qb [1,2,3,4] [1] (pe 1 (Jl (Qo k0 (by omega))) p0) ?_;exact zG (s0++ [a0.1]) (zL (Xg [(1344,147202)] (by kernel_rfl)) ⟨Qt hx0 (rfl) U.1,by first|omega|(simp;omega) | simp⟩)
 ·have hA0_0:=U.2;exact Qc <| sn Qb [1,2,3,4,10] [1] (pl 3 f.2.2.2.2 (pe 4 (zC ((k0:Int)<(f.2.2.2.2.length:Int))) p0)) <| ckF <| Q3 <| zG _ (zL (Xg [(147202,147352)] (by kernel_rfl)) (Xn hk0 (rfl) U.1))
 exact sn Qb [2] [] p0 <| Qe <| po0 [] (Wk hD0 (rfl))
def Ge (a_:Xe) (b:Xe) (_:Nat) (a0:ByteArray) (s0:Z):Rd Z Z Z:=(bif (!(((X1 a_ a0).1==(X1 b a0).1)&&(((X1 a_ a0).2.1==(X1 b a0).2.1)&&((((X1 a_ a0).2.2).toList==((X1 b a0).2.2).toList)&&true)))) then (.next (K0 s0 a0)) else (.next s0))
def Gf (_:Nat) (s0:Z):Z:=s0
def Uw (a_:Xe) (b:Xe):Z:=(Out.on (Xz (Ge a_ b) Gf (Yy a_++(Yy b)) 0 []) (λy0=>y0))
theorem ZQ (a_:Xe) (b:Xe) (hp:(zD a_.2.2.2.2:Int)+zD b.2.2.2.2<=1073741000):ACalls Tryz.prog 179 [.a [.i a_.1,.i a_.2.1,.b a_.2.2.1,.i a_.2.2.2.1,.h a_.2.2.2.2],.a [.i b.1,.i b.2.1,.b b.2.2.1,.i b.2.2.2.1,.h b.2.2.2.2]] (.o 0 (Uw a_ b)):=by
 refine en Qb Tryz.func179 λw0 F0 hG=> ?_
 have hn1:=T6 a_;have hn2:=T6 b;refine sn Qb [2,3,4] [2,3] p0 <| tn Qb [2,3,4,5] [2,3] p0 <| tU Qb Zg [(2,.p 2 0),(3,.p 3 0),(4,.e 0),(5,.one (.slc (.own true 512) 1 [])),(6,.one (.slc (.own true 832) 1 ((eL (Yy a_))++(eL (Yy b)))))] [0,1] [(2, [.i a_.1,.i a_.2.1,.b a_.2.2.1,.i a_.2.2.2.1,.h a_.2.2.2.2]),(3, [.i b.1,.i b.2.1,.b b.2.2.1,.i b.2.2.2.1,.h b.2.2.2.2])] [] (pc 1 (S9 a_) (pc 3 (S9 b) (pa (Yy a_) (Yy b) p0))) <| eqn [(6,.o 832 (Yy a_++(Yy b)))] [6] [] [] (by rw[show ((eL (Yy a_))++(eL (Yy b)))=(eL (Yy a_++(Yy b))) from Ju (rfl) (rfl)]<;>kernel_rfl) ?_
 refine Qc <| su Qb [(7,.i 0)] [] [] [] p0 <| wT 6 0 (.own true 832) (Yy a_++(Yy b)) (λhw1 hl2=> ?_)
 refine YP (Ge a_ b) Gf (Yy a_++(Yy b)) [] (λk0 s0=> [(5,.h s0),(7,.i (k0:Int))]) [5,7] (λ_ _=> []) [] (λy0=> [(5,.h y0)]) [2,3,5,6,7] (λ_=> []) [2,3] (λk0 s0=>zD s0<=k0) (Ao [] [512] [] [] (by kernel_rfl)) (by simp) (λk0 s0 hk0 U=> ?_) (λk0 s0 hk0 U=> ?_) (λy0 hD0=> ?_)
 ·have hA0_0:=U.2;obtain ⟨a0,hx0⟩:=Xm (l:=Yy a_++(Yy b)) (i:=k0) hk0;refine Qc <| su Qb [(17,.b true)] [] [] [] (pl 2 (Yy a_++(Yy b)) (pe 3 (zB ((k0:Int)<((Yy a_++(Yy b)).length:Int))) p0)) <| ckT <| Qg <| Qc <| Qv <| sN Qb Zg [2,3,4,5,6,7,32] [2,3] (pN 3 hx0 (pc 5 (M4 a_ a0) (pN 9 hx0 (pc 11 (M4 b a0) p0)))) <| ck (!(((X1 a_ a0).1==(X1 b a0).1)&&(((X1 a_ a0).2.1==(X1 b a0).2.1)&&((((X1 a_ a0).2.2).toList==((X1 b a0).2.2).toList)&&true)))) (λh3=> ?_) (λh3=> ?_)
  ·refine qn Qb [2,3,4,5,6,7] [2,3] (pN 3 hx0 (pc 5 (Gk s0 a0 (by omega)) p0)) ?_;refine qu Qb [(5,.h (K0 s0 a0)),(7,.i ((k0+1:Nat):Int))] [5,7,17] [] [] (pe 1 (Jl (Qo k0 (by omega))) p0) ?_;exact xw (K0 s0 a0) ⟨Qt hx0 (Q4 h3 (rfl)) U.1,(by first|omega|(have hz:=Sx s0 a0;omega))⟩
  have h3n:(((X1 a_ a0).1==(X1 b a0).1)&&(((X1 a_ a0).2.1==(X1 b a0).2.1)&&((((X1 a_ a0).2.2).toList==((X1 b a0).2.2).toList)&&true)))=true:=Za h3;have h3nl:(((X1 a_ a0).1==(X1 b a0).1))=true:=XA h3n;have h3nld:=eq_of_beq h3nl;have h3nr:((((X1 a_ a0).2.1==(X1 b a0).2.1)&&((((X1 a_ a0).2.2).toList==((X1 b a0).2.2).toList)&&true)))=true:=KC h3n;have h3nrl:(((X1 a_ a0).2.1==(X1 b a0).2.1))=true:=XA h3nr;have h3nrld:=eq_of_beq h3nrl;refine Qg <| qn Qb [2,3,4,5,6,7] [2,3] (pe 1 (Jl (Qo k0 (by omega))) p0) ?_
  exact xw s0 ⟨Qt hx0 (Qi h3 (rfl)) U.1,(by first|omega|(have hz:=Sx s0 a0;omega))⟩
 ·have hA0_0:=U.2;exact Qc <| su Qb [(17,.b false)] [] [] [] (pl 2 (Yy a_++(Yy b)) (pe 3 (zC ((k0:Int)<((Yy a_++(Yy b)).length:Int))) p0)) <| ckF <| Q3 <| xw _ (Xn hk0 (rfl) U.1)
 refine wT 5 0 .sh y0 (λhw4 hl5=> ?_);exact sn Qb [4] [] (po 2 (.flat) (px (Ey (n:=(([]:List (List PV)).length+((eL y0):List (List PV)).length)) (G0 (rfl) (Zu y0) (by first|omega|(simp only[zK,zT];omega) | (simp;omega) | simp))) (px (Cp (B8 y0)) p0))) <| Qe <| po0 [] (Wk hD0 (rfl))
def Cz (_:Nat) (a0:Yw) (_:Unit):Rd (Bool) (Unit) (Unit):=(bif (a0.1==(9:Int)) then (.ret true) else (.next ()))
def Fv (_:Nat) (_:Unit):Unit:=()
def El (q:List Yw):Bool:=(Out.on (Xz Cz Fv q 0 ()) (λ_=>false))
theorem AT (q:List Yw):ACalls Tryz.prog 180 [.h q] (.b (El q)):=by
 refine en Qb Tryz.func180 λw0 F0 hG=> ?_
 refine sn Qb [0,2] [] p0 <| Qc <| tn Qb [0,2,3] [] p0 <| mz [(2,.b false),(3,.i 0)] [] [] [] <| wT 0 0 .sh q (λhw1 hl2=> ?_)
 refine P0 Cz Fv q () (λk0 _=> [(3,.i (k0:Int))]) [3] (λ_=> []) [0,3] wf0 (λk0 s0 hk0 U=> ?_) (λk0 s0 hk0 U=> ?_) (λy0 hD0=> ?_)
 ·obtain ⟨a0,hx0⟩:=Xm (l:=q) (i:=k0) hk0;refine Qc <| sn Qb [0,2,3,7] [] (pl 2 q (pe 3 (zB ((k0:Int)<(q.length:Int))) p0)) <| ckT <| Qg <| Qc <| Qv <| tn Qb [0,2,3,15] [] (pn 2 hx0 p0) <| ck (a0.1==(9:Int)) (λh3=> ?_) (λh3=> ?_)
  ·refine tu Qb [(2,.b true)] [2] [] [] p0 <| Qe ?_
   have hr4:(Xz Cz Fv q 0 ())= .ret true:=Jv hx0 (Q4 h3 (rfl)) U;exact pb [] (Pd hr4)
  have h3d:=Y4 h3;refine Qg <| qu Qb [(3,.i ((k0+1:Nat):Int))] [3] [] [] (pe 1 (Jl (Qo k0 (by omega))) p0) ?_
  exact xw _ (Qt hx0 (Qi h3 (rfl)) U)
 ·exact Qc <| sn Qb [0,2,3,7] [] (pl 2 q (pe 3 (zC ((k0:Int)<(q.length:Int))) p0)) <| ckF <| Q3 <| xw _ (Xn hk0 (rfl) U)
 exact sn Qb [2] [] p0 <| Qe <| pb [] (Wk hD0 (rfl))
def Ip (_:Nat) (a0:X0) (s0:Z):Rd Z Z Z:=(.next (s0++ [a0.1]))
def Iq (_:Nat) (s0:Z):Z:=s0
def Ux (d:List X0):Z:=(Out.on (Xz Ip Iq d 0 []) (λy0=>y0))
theorem O8 (d:List X0):ACalls Tryz.prog 68 [.h d] (.o 0 (Ux d)):=by
 refine en Qb Tryz.func68 λw0 F0 hG=> ?_
 refine sn Qb [0,2] [] p0 <| tn Qb [0,2,3] [] p0 <| Qc <| tu Qb [(2,.e 0),(3,.one (.slc (.own true 320) 1 [])),(4,.i 0)] [] [] [] p0 <| wT 0 0 .sh d (λhw1 hl2=> ?_)
 refine KD Ip Iq d [] (λk0 s0=> [(3,.o 147202 s0),(4,.i (k0:Int))]) [3,4] (λy0=> [(3,.o 147352 y0)]) [0,3,4] (λk0 s0=>zD s0<=k0) (Xg [(320,147202)] (by kernel_rfl)) (by simp) (λk0 s0 hk0 U=> ?_) (λk0 s0 hk0 U=> ?_) (λy0 hD0=> ?_)
 ·have hA0_0:=U.2;obtain ⟨a0,hx0⟩:=Xm (l:=d) (i:=k0) hk0;refine Qc <| sn Qb [0,2,3,4,9] [] (pl 2 d (pe 3 (zB ((k0:Int)<(d.length:Int))) p0)) <| ckT <| Qg <| Qc <| Qv <| wT 3 0 (.own true 147202) s0 (λhw3 hl4=> ?_)
  refine qu Qb [(3,.one (.slc (.own true 1216) 1 ((eL s0)++ [[.s a0.1]])))] [3] [] [] (pn 3 hx0 (pa s0 [a0.1] p0)) ?_;refine eqn [(3,.o 1216 (s0++ [a0.1]))] [3] [] [] (by rw[show ((eL s0)++ [[.s a0.1]])=(eL (s0++ [a0.1])) from Ju (rfl) (rfl)];first | done | kernel_rfl) ?_;refine rn Qb [0,2,3,4] [] (pe 1 (Jl (Qo k0 (by omega))) p0) ?_;exact zG (s0++ [a0.1]) (zL (Xg [(1216,147202)] (by kernel_rfl)) ⟨Qt hx0 (rfl) U.1,by first|omega|(simp;omega) | simp⟩)
 ·have hA0_0:=U.2;exact Qc <| sn Qb [0,2,3,4,9] [] (pl 2 d (pe 3 (zC ((k0:Int)<(d.length:Int))) p0)) <| ckF <| Q3 <| zG _ (zL (Xg [(147202,147352)] (by kernel_rfl)) (Xn hk0 (rfl) U.1))
 exact sn Qb [2] [] p0 <| Qe <| po0 [] (Wk hD0 (rfl))
def Ir (s_:ByteArray) (_:Nat) (a0:ByteArray) (_:Unit):Rd (Bool) (Unit) (Unit):=(bif (a0.toList==s_.toList) then (.ret true) else (.next ()))
def Na (_:Nat) (_:Unit):Unit:=()
def Ua (list:Z) (s_:ByteArray):Bool:=(Out.on (Xz (Ir s_) Na list 0 ()) (λ_=>false))
theorem Qej (s:ByteArray):∀(l:Z) (k:Nat),(Out.on (Xz (Ir s) Na l k ()) (λ_=>false))=true↔s∈l
 | [],k=>by simp[Xz,Out.on]
 | a::l,k=>by
   simp only[Xz,Ir,toList_inj];by_cases h:a=s
   . subst h;simp[Out.on]
   rw[decide_eq_false h];simp only[cond_false];refine (Qej s l (k+1)).trans ?_;simp[Ne.symm h]
theorem AU (l:Z) (s:ByteArray):Ua l s=true↔s∈l:=Qej s l 0
theorem Ou (list:Z) (s_:ByteArray):ACalls Tryz.prog 131 [.h list,.s s_] (.b (Ua list s_)):=by
 refine en Qb Tryz.func131 λw0 F0 hG=> ?_
 refine sn Qb [0,1,4] [] p0 <| Qc <| tn Qb [0,1,4,5] [] p0 <| mz [(4,.b false),(5,.i 0)] [] [] [] <| wT 0 0 .sh list (λhw1 hl2=> ?_)
 refine P0 (Ir s_) Na list () (λk0 _=> [(5,.i (k0:Int))]) [5] (λ_=> []) [0,1,5] wf0 (λk0 s0 hk0 U=> ?_) (λk0 s0 hk0 U=> ?_) (λy0 hD0=> ?_)
 ·obtain ⟨a0,hx0⟩:=Xm (l:=list) (i:=k0) hk0;refine Qc <| sn Qb [0,1,4,5,9] [] (pl 2 list (pe 3 (zB ((k0:Int)<(list.length:Int))) p0)) <| ckT <| Qg <| Qc <| Qv <| tn Qb [0,1,4,5,17] [] (pn 2 hx0 p0) <| ck (a0.toList==s_.toList) (λh3=> ?_) (λh3=> ?_)
  ·refine tu Qb [(4,.b true)] [4] [] [] p0 <| Qe ?_
   have hr4:(Xz (Ir s_) Na list 0 ())= .ret true:=Jv hx0 (Q4 h3 (rfl)) U;exact pb [] (Pd hr4)
  refine Qg <| qu Qb [(5,.i ((k0+1:Nat):Int))] [5] [] [] (pe 1 (Jl (Qo k0 (by omega))) p0) ?_
  exact xw _ (Qt hx0 (Qi h3 (rfl)) U)
 ·exact Qc <| sn Qb [0,1,4,5,9] [] (pl 2 list (pe 3 (zC ((k0:Int)<(list.length:Int))) p0)) <| ckF <| Q3 <| xw _ (Xn hk0 (rfl) U)
 exact sn Qb [4] [] p0 <| Qe <| pb [] (Wk hD0 (rfl))
def H8 (a_:Xe) (b:Xe) (_:Nat) (a1:ByteArray) (s1:Bool):Rd (Rd Z Z Z) (Bool) (Bool):=(.next (s1|| (Ua (Uw a_ b) a1)))
def H9 (_:Nat) (s1:Bool):Bool:=s1
def Ve (a_:Xe) (b:Xe) (_:Nat) (a0:X0) (s0:Z):Rd Z Z Z:=(Out.on (Xz (H8 a_ b) H9 (Vr a0.2) 0 ((a_.2.2.2.1 !=b.2.2.2.1)&&(El a0.2))) (λy1=>(bif y1 then (.next (s0++ [a0.1])) else (.next s0))))
def Um (_:Nat) (s0:Z):Z:=s0
def Vx (d:List X0) (a_:Xe) (b:Xe):Z:=(bif (a_.1 !=b.1) then (Ux d) else (Out.on (Xz (Ve a_ b) Um d 0 []) (λy0=>y0)))
theorem Ta (a b:Xe):∀(l:List X0) (k:Nat) (s:Z),(∃s',Xz (Ve a b) Um l k s= .brk s'/\s'.length<=s.length+l.length)\/∃r,Xz (Ve a b) Um l k s= .ret r/\r= []
 | [],k,s=> .inl ⟨s,rfl,by simp⟩
 | x ::l,k,s=>by
   have hin:∀(l:Z) (k:Nat) (s:Bool),∃y,Xz (H8 a b) H9 l k s= .brk y:=by
    intro l
    induction l with
    | nil=>exact λk s=>⟨s,rfl⟩
    | cons c l ih=>exact λk s=>ih (k+1) _
   obtain ⟨y,hy⟩:=hin (Vr x.2) 0 ((a.2.2.2.1 !=b.2.2.2.1)&&(El x.2));simp only[Xz,Ve,hy,Out.on];cases y with
   | true=>
     rcases Ta a b l (k+1) (s++ [x.1]) with ⟨s',h1,h2⟩ | h
     . exact .inl ⟨s',h1,by simp at h2⊢;omega⟩
     exact .inr h
   | false=>
     rcases Ta a b l (k+1) s with ⟨s',h1,h2⟩ | h
     . exact .inl ⟨s',h1,by simp at h2⊢;omega⟩
     exact .inr h
theorem FX (d:List X0) (a b:Xe):(Vx d a b).length<=d.length:=by
 unfold Vx;generalize (a.1 !=b.1)=c;cases c with
 | true=>
   simp only[cond_true];unfold Ux;rw[Bk (f:=Ip) (g:=λa:X0=>a.1) (λ_ _ _=>rfl)];simp[Out.on,Iq]
 | false=>
   simp only[cond_false];rcases Ta a b d 0 [] with ⟨s',h1,h2⟩ | ⟨r,h1,rfl⟩
   . rw[h1];exact (by simpa using h2:s'.length<=d.length)
   rw[h1];exact yO _
theorem Sa (d:List X0) (a_:Xe) (b:Xe) (hp:(zD a_.2.2.2.2:Int)+zD b.2.2.2.2<=1073741000):ACalls Tryz.prog 126 [.h d,.a [.i a_.1,.i a_.2.1,.b a_.2.2.1,.i a_.2.2.2.1,.h a_.2.2.2.2],.a [.i b.1,.i b.2.1,.b b.2.2.1,.i b.2.2.2.1,.h b.2.2.2.2]] (.o 0 (Vx d a_ b)):=by
 refine en Qb Tryz.func126 λw0 F0 hG=> ?_
 refine sn Qb [0,4,5,6] [4,5] p0 <| Qc <| tn Qb [0,4,5,6,17] [4,5] p0 <| ck (a_.1 !=b.1) (λh1=> ?_) (λh1=> ?_)
 ·exact tu Qb [(4,.p 4 0),(5,.p 5 0),(6,.o 1216 (Ux d))] [1,2] [(4, [.i a_.1,.i a_.2.1,.b a_.2.2.1,.i a_.2.2.2.1,.h a_.2.2.2.2]),(5, [.i b.1,.i b.2.1,.b b.2.2.1,.i b.2.2.2.1,.h b.2.2.2.2])] [] (pc 1 (O8 d) p0) <| Qe <| po0 [] (Q4 h1 (rfl))
 have h1d:=Vi h1;refine Qg <| tu Qb [(4,.p 4 0),(5,.p 5 0),(6,.e 0),(7,.one (.slc (.own true 1280) 1 []))] [1,2] [(4, [.i a_.1,.i a_.2.1,.b a_.2.2.1,.i a_.2.2.2.1,.h a_.2.2.2.2]),(5, [.i b.1,.i b.2.1,.b b.2.2.1,.i b.2.2.2.1,.h b.2.2.2.2])] [] p0 <| sn Qb [0,4,5,6,7,8] [4,5] (pc 2 (ZQ a_ b (by first|omega|(simp;omega))) p0) <| Qc <| tn Qb [0,4,5,6,7,8,9] [4,5] p0 <| mz [(8,.o 1472 (Uw a_ b)),(9,.i 0)] [] [] [] <| wT 0 0 .sh d (λhw2 hl3=> ?_)
 refine YP (Ve a_ b) Um d [] (λk0 s0=> [(7,.o 147204 s0),(9,.i (k0:Int))]) [7,9] (λ_ _=> []) [] (λy0=> [(7,.o 147354 y0)]) [0,4,5,7,8,9] (λ_=> []) [4,5] (λk0 s0=>zD s0<=k0) (Xg [(1280,147204)] (by kernel_rfl)) (by simp) (λk0 s0 hk0 U=> ?_) (λk0 s0 hk0 U=> ?_) (λy0 hD0=> ?_)
 ·have hA0_0:=U.2;obtain ⟨a0,hx0⟩:=Xm (l:=d) (i:=k0) hk0;refine Qc <| su Qb [(27,.b true)] [] [] [] (pl 2 d (pe 3 (zB ((k0:Int)<(d.length:Int))) p0)) <| ckT <| Qg <| Qc <| Qv <| Qc <| jn [(10,.b ((a_.2.2.2.1 !=b.2.2.2.1)&&(El a0.2)))] [27] [] [] (a_.2.2.2.1 !=b.2.2.2.1) (λh4=> ?_) (λh4=> ?_) ?_
  ·refine rn Qb [0,4,5,6,7,8,9,10] [4,5] (pt 4 h4 (pn 8 hx0 (pc 11 (AT a0.2) p0))) ?_;exact zA (by rw[h4]<;>kernel_rfl)
  ·refine ru Qb [(10,.b false)] [27] [] [] (pf 4 h4 p0) ?_;exact zA (by rw[h4]<;>kernel_rfl)
  refine sn Qb [0,4,5,6,7,8,9,10,11] [4,5] (pn 2 hx0 (pc 5 (WM a0.2) p0)) <| Qc <| tn Qb [0,4,5,6,7,8,9,10,11,12] [4,5] p0 <| mz [(11,.o 3072 (Vr a0.2)),(12,.i 0)] [] [] [] <| wT 11 0 (.own true 3072) (Vr a0.2) (λhw5 hl6=> ?_)
  refine P0 (H8 a_ b) H9 (Vr a0.2) ((a_.2.2.2.1 !=b.2.2.2.1)&&(El a0.2)) (λk1 s1=> [(10,.b s1),(12,.i (k1:Int))]) [10,12] (λy1=> [(10,.b y1)]) [10,11,12] wf0 (λk1 s1 hk1 hI1=> ?_) (λk1 s1 hk1 hI1=> ?_) (λy1 hD1=> ?_)
  ·obtain ⟨a1,hx1⟩:=Xm (l:=Vr a0.2) (i:=k1) hk1;refine Qc <| su Qb [(52,.b true)] [] [] [] (pl 2 (Vr a0.2) (pe 3 (zB ((k1:Int)<((Vr a0.2).length:Int))) p0)) <| ckT <| Qg <| Qc <| Qv <| jn [(10,.b (s1|| (Ua (Uw a_ b) a1)))] [10,52] [] [] s1 (λh7=> ?_) (λh7=> ?_) ?_
   ·refine ru Qb [(10,.b true)] [10,52] [] [] (pt 0 h7 p0) ?_;exact zA (by rw[h7]<;>kernel_rfl)
   ·refine rn Qb [0,4,5,6,7,8,9,10,11,12] [4,5] (pf 0 h7 (pN 5 hx1 (pc 7 (Ou (Uw a_ b) a1) p0))) ?_;exact zA (by rw[h7]<;>kernel_rfl)
   refine rn Qb [0,4,5,6,7,8,9,10,11,12] [4,5] (pe 1 (Jl (Qo k1 (by omega))) p0) ?_;exact xw _ (Qt hx1 (rfl) hI1)
  ·exact Qc <| su Qb [(52,.b false)] [] [] [] (pl 2 (Vr a0.2) (pe 3 (zC ((k1:Int)<((Vr a0.2).length:Int))) p0)) <| ckF <| Q3 <| xw _ (Xn hk1 (rfl) hI1)
  refine su Qb [(64,.b y1)] [10] [] [] p0 <| ck y1 (λh8=> ?_) (λh8=> ?_)
  ·refine wT 7 0 (.own true 147204) s0 (λhw9 hl10=> ?_);refine ru Qb [(7,.one (.slc (.own true 4608) 1 ((eL s0)++ [[.s a0.1]])))] [7,64] [] [] (pn 3 hx0 (pa s0 [a0.1] p0)) ?_;refine eqn [(7,.o 4608 (s0++ [a0.1]))] [7] [] [] (by rw[show ((eL s0)++ [[.s a0.1]])=(eL (s0++ [a0.1])) from Ju (rfl) (rfl)];first | done | kernel_rfl) ?_;refine rn Qb [0,4,5,6,7,8,9] [4,5] (pe 1 (Jl (Qo k0 (by omega))) p0) ?_;exact zG (s0++ [a0.1]) (zL (Xg [(4608,147204)] (by kernel_rfl)) ⟨Qt hx0 (Wk hD1 (Q4 h8 (rfl))) U.1,by first|omega|(simp;omega) | simp⟩)
  refine Qg <| rn Qb [0,4,5,6,7,8,9] [4,5] (pe 1 (Jl (Qo k0 (by omega))) p0) ?_
  exact xw s0 ⟨Qt hx0 (Wk hD1 (Qi h8 (rfl))) U.1,by first|omega|(simp;omega) | simp⟩
 ·have hA0_0:=U.2;exact Qc <| su Qb [(27,.b false)] [] [] [] (pl 2 d (pe 3 (zC ((k0:Int)<(d.length:Int))) p0)) <| ckF <| Q3 <| zG _ (zL (Xg [(147204,147354)] (by kernel_rfl)) (Xn hk0 (rfl) U.1))
 exact sn Qb [6] [] p0 <| Qe <| po0 [] (Qi h1 (Wk hD0 (rfl)))
def Av (_:Nat) (a0:ByteArray) (s0:Z):Rd Z Z Z:=(.next (K0 s0 a0))
def Aw (_:Nat) (s0:Z):Z:=s0
def Un (a2:X0) (_:Nat) (a3:ByteArray) (s3:Z):Rd (Rd (Rd Z Z Z) Z Z) Z Z:=(bif (Ua s3 a3) then (.next (K0 s3 a2.1)) else (.next s3))
def Ax (_:Nat) (s3:Z):Z:=s3
def Uo (_:Nat) (a2:X0) (s2:Z):Rd (Rd Z Z Z) Z Z:=(Out.on (Xz (Un a2) Ax (Wz a2.2) 0 s2) (λy3=>(.next y3)))
def Ay (_:Nat) (s2:Z):Z:=s2
def Up (d:List X0) (_:Nat) (s1:Z):Rd Z Z Z:=(Out.on (Xz Uo Ay d 0 s1) (λy2=>(.next y2)))
def Az (_:Nat) (s1:Z):Z:=s1
def Ze (d:List X0) (names:Z):Z:=(Out.on (Xz Av Aw names 0 []) (λy0=>(Out.on (Uy (Up d) Az ((d.length:Int)+1).toNat 0 y0) (λy1=>y1))))
def AW (N s:Z):Prop:=KF s/\∀x,x∈s->x∈N
theorem AX {N s:Z} {x:ByteArray} (h:AW N s) (hx:x∈N):AW N (K0 s x):=by
 rw[Sw];exact ⟨YU _ _ h.1,λy hy=>((Oe _ _ _).1 hy).elim (λe=>e▸hx) (h.2 y)⟩
theorem LZ {names:Z} {d:List X0} {s:Z} (h:AW (names++yQ (·.1) d) s):zD s<=zD names+zD d:=by
 have:=UH (AL h.1) h.2;simpa using this
theorem Ba (d:List X0) (names:Z) (hp:(zD names:Int)+zD d<=1000000):ACalls Tryz.prog 74 [.h d,.h names] (.o 0 (Ze d names)):=by
 refine en Qb Tryz.func74 λw0 F0 hG=> ?_
 refine sn Qb [0,1,4] [] p0 <| tn Qb [0,1,4,5] [] p0 <| Qc <| tu Qb [(4,.e 0),(5,.one (.slc (.own true 704) 1 [])),(6,.i 0)] [] [] [] p0 <| wT 1 0 .sh names (λhw1 hl2=> ?_)
 refine Qbq Av Aw names [] (λk0 s0=> [(5,.h s0),(6,.i (k0:Int))]) [5,6] (λy0=> [(5,.h y0)]) [1,5,6] (λ_ s0=>AW (names++yQ (·.1) d) s0) (λy0=>AW (names++yQ (·.1) d) y0) (Ao [] [704] [] [] (by kernel_rfl)) (by exact ⟨yX,λx hx=>by cases hx⟩) (λk0 s0 hk0 U=> ?_) (λk0 s0 hk0 U=> ?_) (λy0 hD0=> ?_)
 ·have hA0_0:=U.2;obtain ⟨a0,hx0⟩:=Xm (l:=names) (i:=k0) hk0;have hpl0:=LZ hA0_0;refine Qc <| sn Qb [0,1,4,5,6,15] [] (pl 2 names (pe 3 (zB ((k0:Int)<(names.length:Int))) p0)) <| ckT <| Qg <| Qc <| Qv <| qn Qb [0,1,4,5,6] [] (pn 3 hx0 (pc 5 (Gk s0 a0 (by omega)) p0)) ?_
  refine qu Qb [(5,.h (K0 s0 a0)),(6,.i ((k0+1:Nat):Int))] [5,6] [] [] (pe 1 (Jl (Qo k0 (by omega))) p0) ?_;exact xw (K0 s0 a0) ⟨Qt hx0 (rfl) U.1,(by exact AX (by assumption) (yB _ (zF hx0)))⟩
 ·have hA0_0:=U.2;exact Qc <| sn Qb [0,1,4,5,6,15] [] (pl 2 names (pe 3 (zC ((k0:Int)<(names.length:Int))) p0)) <| ckF <| Q3 <| xw s0 ⟨Xn hk0 (rfl) U.1,by first|omega|(simp only[zR];omega)⟩
 have hD0_0:=hD0.2;refine Qc <| sn Qb [0,4,5,7] [] p0 <| mz [(7,.i 0)] [] [] [] <| wT 0 0 .sh d (λhw3 hl4=> ?_)
 refine Qma (Up d) Az ((d.length:Int)+1).toNat y0 (λk1 s1=> [(5,.h s1),(7,.i (k1:Int))]) [5,7] (λy1=> [(5,.h y1)]) [0,5,7] (λ_ s1=>AW (names++yQ (·.1) d) s1) (λy1=>AW (names++yQ (·.1) d) y1) wf0 (by assumption) (λk1 s1 hk1 hI1=> ?_) (λk1 s1 hk1 hI1=> ?_) (λy1 hD1=> ?_)
 ·have hA1_0:=hI1.2;refine Qc <| sn Qb [0,4,5,7,27] [] (pl 2 d (pe 3 (zB ((k1:Int)<=(d.length:Int))) p0)) <| ckT <| Qg <| Qc <| Qv <| tn Qb [0,4,5,7,8] [] p0 <| mz [(8,.i 0)] [] [] [] <| Qbq Uo Ay d s1 (λk2 s2=> [(5,.h s2),(8,.i (k2:Int))]) [5,8] (λy2=> [(5,.h y2)]) [5,8] (λ_ s2=>AW (names++yQ (·.1) d) s2) (λy2=>AW (names++yQ (·.1) d) y2) wf0 (by assumption) (λk2 s2 hk2 hI2=> ?_) (λk2 s2 hk2 hI2=> ?_) (λy2 hD2=> ?_)
  ·have hA2_0:=hI2.2;obtain ⟨a2,hx2⟩:=Xm (l:=d) (i:=k2) hk2;refine Qc <| sn Qb [0,4,5,7,8,33] [] (pl 2 d (pe 3 (zB ((k2:Int)<(d.length:Int))) p0)) <| ckT <| Qg <| Qc <| Qv <| tn Qb [0,4,5,7,8,9] [] (pn 2 hx2 (pc 5 (AS a2.2) p0)) <| tu Qb [(9,.o 2624 (Wz a2.2)),(10,.i 0)] [] [] [] p0 <| wT 9 0 (.own true 2624) (Wz a2.2) (λhw5 hl6=> ?_)
   refine Qbq (Un a2) Ax (Wz a2.2) s2 (λk3 s3=> [(5,.h s3),(10,.i (k3:Int))]) [5,10] (λy3=> [(5,.h y3)]) [5,9,10] (λ_ s3=>AW (names++yQ (·.1) d) s3) (λy3=>AW (names++yQ (·.1) d) y3) wf0 (by assumption) (λk3 s3 hk3 hI3=> ?_) (λk3 s3 hk3 hI3=> ?_) (λy3 hD3=> ?_)
   ·have hA3_0:=hI3.2;obtain ⟨a3,hx3⟩:=Xm (l:=Wz a2.2) (i:=k3) hk3;have hpl3:=LZ hA3_0;refine Qc <| su Qb [(45,.b true)] [] [] [] (pl 2 (Wz a2.2) (pe 3 (zB ((k3:Int)<((Wz a2.2).length:Int))) p0)) <| ckT <| Qg <| Qc <| Qv <| sn Qb [0,4,5,7,8,9,10,53] [] (pN 3 hx3 (pc 5 (Ou s3 a3) p0)) <| ck (Ua s3 a3) (λh7=> ?_) (λh7=> ?_)
    ·refine qn Qb [0,4,5,7,8,9,10] [] (pn 3 hx2 (pc 6 (Gk s3 a2.1 (by omega)) p0)) ?_;refine qu Qb [(5,.h (K0 s3 a2.1)),(10,.i ((k3+1:Nat):Int))] [5,10,45] [] [] (pe 1 (Jl (Qo k3 (by omega))) p0) ?_;exact xw (K0 s3 a2.1) ⟨Qt hx3 (Q4 h7 (rfl)) hI3.1,(by first | exact AX (by assumption) (yR _ (zV (zF hx2))) | assumption)⟩
    refine Qg <| qn Qb [0,4,5,7,8,9,10] [] (pe 1 (Jl (Qo k3 (by omega))) p0) ?_
    exact xw s3 ⟨Qt hx3 (Qi h7 (rfl)) hI3.1,(by first | exact AX (by assumption) (yR _ (zV (zF hx2))) | assumption)⟩
   ·have hA3_0:=hI3.2;exact Qc <| su Qb [(45,.b false)] [] [] [] (pl 2 (Wz a2.2) (pe 3 (zC ((k3:Int)<((Wz a2.2).length:Int))) p0)) <| ckF <| Q3 <| xw s3 ⟨Xn hk3 (rfl) hI3.1,by first|omega|(simp only[zR];omega)⟩
   have hD3_0:=hD3.2;refine rn Qb [0,4,5,7,8] [] (pe 1 (Jl (Qo k2 (by omega))) p0) ?_;exact xw y3 ⟨Qt hx2 (Wk hD3.1 (rfl)) hI2.1,(by assumption)⟩
  ·have hA2_0:=hI2.2;exact Qc <| sn Qb [0,4,5,7,8,33] [] (pl 2 d (pe 3 (zC ((k2:Int)<(d.length:Int))) p0)) <| ckF <| Q3 <| xw s2 ⟨Xn hk2 (rfl) hI2.1,by first|omega|(simp only[zR];omega)⟩
  have hD2_0:=hD2.2;refine rn Qb [0,4,5,7] [] (pe 1 (Jl (Qo k1 (by omega))) p0) ?_;exact xw y2 ⟨V2 hk1 (Wk hD2.1 (rfl)) hI1.1,(by assumption)⟩
 ·have hA1_0:=hI1.2;exact Qc <| sn Qb [0,4,5,7,27] [] (pl 2 d (pe 3 (zC ((k1:Int)<=(d.length:Int))) p0)) <| ckF <| Q3 <| xw s1 ⟨Dc hk1 (rfl) hI1.1,by first|omega|(simp only[zR];omega)⟩
 have hD1_0:=hD1.2;refine wT 5 0 .sh y1 (λhw8 hl9=> ?_);exact sn Qb [4] [] (po 2 (.flat) (px (Ey (n:=(([]:List (List PV)).length+((eL y1):List (List PV)).length)) (G0 (rfl) (Zu y1) (by first|omega|(simp only[zK,zT];omega) | (simp;omega) | simp))) (px (Cp (B8 y1)) p0))) <| Qe <| po0 [] (Wk hD0.1 (Wk hD1.1 (rfl)))
def Hw (d:List X0) (a_:Xe) (b:Xe):Z:=(Ze d (Vx d a_ b))
theorem ZR (d:List X0) (a_:Xe) (b:Xe) (hp:(zD a_.2.2.2.2:Int)+zD b.2.2.2.2<=1073741000) (hd:zD d<=1000):ACalls Tryz.prog 70 [.h d,.a [.i a_.1,.i a_.2.1,.b a_.2.2.1,.i a_.2.2.2.1,.h a_.2.2.2.2],.a [.i b.1,.i b.2.1,.b b.2.2.1,.i b.2.2.2.1,.h b.2.2.2.2]] (.o 0 (Hw d a_ b)):=by
 refine en Qb Tryz.func70 λw0 F0 hG=> ?_
 have hdl:=FX d a_ b;exact sn Qb [0,4,5,6] [4,5] p0 <| tn Qb [6] [] (pc 4 (Sa d a_ b (by first|omega|(simp;omega))) (pc 5 (Ba d (Vx d a_ b) (by first|omega|(simp;omega))) p0)) <| Qe <| po0 [] (show Hw d a_ b=(Ze d (Vx d a_ b)) from rfl)
def U6 (a_:List Qm) (names:Z) (_:Nat) (a0:X0) (s0:List Qm):Rd ((List Qm)×Bool) (List Qm) (List Qm):=(bif (Ua names a0.1) then (.next (s0++ [((a0.1, []):Qm)])) else (.next (s0++ [(a0.1,(Xp a_ a0.1))])))
def Ak (_:Nat) (s0:List Qm):(List Qm):=s0
def Em (s_:Qz) (d:List X0) (names:Z) (k1:Nat) (k3:Nat) (a3:X0) (s3:(List Qm)×Bool):Rd (Rd (Rd ((List Qm)×Bool) (List Qm) (List Qm)) ((List Qm)×Bool) (List Qm)) ((List Qm)×Bool) ((List Qm)×Bool):=(bif (((nth (((Xi d)).1) k3) !=(k1:Int))|| (!(Ua names a3.1))) then (.next (s3.1,s3.2)) else (bif (!(Vb (Y0 s_ a3.2 s3.1) ((nth s3.1 k3).2))) then (.next (xB s3.1 k3 ((nth s3.1 k3).1,(Y0 s_ a3.2 s3.1)),true)) else (.next (s3.1,s3.2))))
def Le (_:Nat) (s3:(List Qm)×Bool):(List Qm)×Bool:=(s3.1,s3.2)
def Wj (s_:Qz) (d:List X0) (names:Z) (k1:Nat) (s2:(List Qm)×Bool):Rd (Rd ((List Qm)×Bool) (List Qm) (List Qm)) ((List Qm)×Bool) (List Qm):=(bif s2.2 then (Out.on (Xz (Em s_ d names k1) Le d 0 (s2.1,false)) (λy3=>(.next (y3.1,y3.2)))) else (.brk s2.1))
def En (s_:Qz) (d:List X0) (names:Z) (k1:Nat) (s1:List Qm):Rd ((List Qm)×Bool) (List Qm) (List Qm):=(Out.on (I0 (Wj s_ d names k1) (zD d*zD s_.2.1+2) (s1,true)) (λy2=>(.next y2)))
def Lf (_:Nat) (s1:List Qm):(List Qm):=s1
def Vs (s_:Qz) (d:List X0) (a_:List Qm) (names:Z):(List Qm)×Bool:=(bif ((!(((Xi d)).2))|| (!(Xc s_))) then ([],false) else (Out.on (Xz (U6 a_ names) Ak d 0 []) (λy0=>(Out.on (Uy (En s_ d names) Lf ((Vq d)+1).toNat 0 y0) (λy1=>(y1,true))))))
theorem Qis (l:Z) (s:ByteArray):Ua l s=Qr l s:=by rw[yU,AU,Bt]
section
variable {s_:Qz} {d:List X0} {a_:List Qm} {names:Z} {k1:Nat} {o:List Qm}
theorem Qek (s_:Qz) (d:List X0) (names:Z) (k1:Nat):Qd6 s_ d (Qx d).1 (onD d names) (k1:Int) (Em s_ d names k1):=by
 intro k a o c hk;have ha:nth d k=a:=Od hk;unfold Em LM onD;rw[ha,UF,W8,←AD,Qis];simp only[bne];cases (nth (Qx d).1 k==(k1:Int))<;>cases Qr names a.1<;>rfl
theorem MA (s_:Qz) (d:List X0) (names:Z) (k1:Nat) (o:List Qm) (p:Int) (c:Bool):Qm0 (Jy s_ d names k1 (o,p,c)) (Wj s_ d names k1 (o,c)):=by
 unfold Jy Wj;cases c with
 | false=>rfl
 | true=>
  simp only[cond_true];rw[KL (e:=Cy) (T2 s_ d names k1) (λ_ _=>rfl) d 0 o false rfl,KL (e:=Le) (Qek s_ d names k1) (λ_ _=>rfl) d 0 o false rfl];rfl
theorem TQ (hS:((Xi d)).2=true) (h:EvS d ((Xi d)).1 (onD d names) s_.2.1 (k1:Int) o):∃o',whl (Wj s_ d names k1) (zD d*zD s_.2.1+2) (o,true)=some (.brk o')/\EvS d ((Xi d)).1 (onD d names) s_.2.1 ((k1:Int)+1) o':=by
 rw[W8] at hS h⊢;obtain ⟨o',p',h1,h2⟩:=Cs (p:=0) hS h;exact ⟨o',FW (MA s_ d names k1) _ o 0 true (o',p') h1,h2⟩
theorem Qlx (hS:((Xi d)).2=true) (h:EvS d ((Xi d)).1 (onD d names) s_.2.1 (((k1:Nat)):Int) o):(whl (Wj s_ d names k1) (zD d*zD s_.2.1+2) (o,true)).isSome=true:=by
 obtain ⟨o',h1,_⟩:=TQ hS h;rw[h1];rfl
theorem ZS {y:List Qm} (hS:((Xi d)).2=true) (h:EvS d ((Xi d)).1 (onD d names) s_.2.1 (((k1:Nat)):Int) o) (hy:I0 (Wj s_ d names k1) (zD d*zD s_.2.1+2) (o,true)= .brk y):EvS d ((Xi d)).1 (onD d names) s_.2.1 ((((k1+1):Nat)):Int) y:=by
 obtain ⟨o',h1,h2⟩:=TQ hS h;unfold I0 at hy;rw[h1] at hy;have e:o'=y:=by simpa using hy
 rw[←e,xJ];exact h2
theorem Qel:(∀k (a:X0) s,U6 a_ names k a s= .next (s++ [(a.1,D1 a_ names a)])):=λk a s=>by
 unfold U6 D1;rw[Qis,←Qdv];cases Qr names a.1<;>rfl
theorem Gn (hy:Xz (U6 a_ names) Ak d 0 []= .brk o):EvS d ((Xi d)).1 (onD d names) s_.2.1 (((0:Nat)):Int) o:=by
 obtain ⟨h1,h2⟩:=Oi (L:=((Xi d)).1) (on:=onD d names) (fs:=s_.2.1) (g:=D1 a_ names) (f:=U6 a_ names) (e:=Ak) (d:=d) Qel (λj _ hj=>by unfold onD at hj;unfold D1;rw[hj];rfl);rw[h1] at hy;have e:(d.map λa=>((a.1,D1 a_ names a):Qm))=o:=Out.brk.inj hy;rw[←e];exact h2
end
theorem WN (s_:Qz) (d:List X0) (a_:List Qm) (names:Z):ACalls Tryz.prog 124 [.a [.h s_.1,.h s_.2.1,.i s_.2.2],.h d,.h a_,.h names] (.tup [(false, [.o 0 (((Vs s_ d a_ names)).1)]),(false, [.b (((Vs s_ d a_ names)).2)])]):=by
 refine en Qb Tryz.func124 λw0 F0 hG=> ?_
 refine sn Qb [1,2,3,4,8,9] [4] p0 <| tn Qb [1,2,3,4,8,9,10,11] [4] (pc 1 (Oh d) p0) <| Qc <| Qc <| mz [(4,.p 4 0),(8,.e 0),(9,.b false),(10,.o 1344 (((Xi d)).1)),(11,.b (((Xi d)).2))] [0] [(4, [.h s_.1,.h s_.2.1,.i s_.2.2])] [] <| jn [(30,.b ((!(((Xi d)).2))|| (!(Xc s_))))] [11] [] [] (!(((Xi d)).2)) (λh1=> ?_) (λh1=> ?_) ?_
 ·have h1n:(((Xi d)).2)=false:=Vj h1;refine ru Qb [(30,.b true)] [11] [] [] (pf 0 h1n (pe 1 (show .b (!false)= .b true from rfl) p0)) ?_;exact zA (by rw[h1]<;>kernel_rfl)
 ·have h1n:(((Xi d)).2)=true:=Za h1;have h1nsf:=M8 h1n;refine rn Qb [1,2,3,4,8,9,10,30] [4] (pt 0 h1n (pe 1 (show .b (!true)= .b false from rfl) (pc 4 (Kl s_) p0))) ?_;exact zA (by rw[h1]<;>kernel_rfl)
 refine ck ((!(((Xi d)).2))|| (!(Xc s_))) (λh2=> ?_) (λh2=> ?_)
 ·exact sn Qb [1,2,3,4,8,9,10] [4] p0 <| Qe <| pz [] (show Vs s_ d a_ names=_ from Q4 h2 (rfl)) (λz=> .tup [(false, [.o 0 z.1]),(false, [.b z.2])])
 have h2l:((!(((Xi d)).2)))=false:=Re h2;have h2ln:(((Xi d)).2)=true:=Za h2l;have h2lnsf:=M8 h2ln;have h2r:((!(Xc s_)))=false:=Pz h2;have h2rn:(Xc s_)=true:=Za h2r;refine Qg <| sn Qb [1,2,3,4,8,9,10,12] [4] p0 <| Qc <| tn Qb [1,2,3,4,8,9,10,12,13] [4] p0 <| mz [(12,.one (.slc (.own true 2048) 2 [])),(13,.i 0)] [30] [] [] <| wT 1 0 .sh d (λhw3 hl4=> ?_)
 refine KD (U6 a_ names) Ak d [] (λk0 s0=> [(12,.o 147207 s0),(13,.i (k0:Int))]) [12,13] (λy0=> [(12,.o 147357 y0)]) [2,12,13] (λk0 s0=>zD s0<=k0) (Xg [(2048,147207)] (by kernel_rfl)) (by simp) (λk0 s0 hk0 U=> ?_) (λk0 s0 hk0 U=> ?_) (λy0 hD0=> ?_)
 ·have hA0_0:=U.2;obtain ⟨a0,hx0⟩:=Xm (l:=d) (i:=k0) hk0;refine Qc <| su Qb [(36,.b true)] [] [] [] (pl 2 d (pe 3 (zB ((k0:Int)<(d.length:Int))) p0)) <| ckT <| Qg <| Qc <| Qv <| sN Qb Zg [1,2,3,4,8,9,10,12,13,14] [4,14] (pn 2 hx0 (pn 8 hx0 (pc 11 (D0 a_ a0.1) p0))) <| Qc <| tn Qb [1,2,3,4,8,9,10,12,13,14,55] [4,14] (pc 3 (Ou names a0.1) p0) <| ck (Ua names a0.1) (λh5=> ?_) (λh5=> ?_)
  ·refine qu Qb [(14,.p 14 0)] [36] [(14, [.s a0.1,.slc (.own true 3584) 1 []])] [] p0 ?_;refine wT 12 0 (.own true 147207) s0 (λhw6 hl7=> ?_);refine ru Qb [(12,.one (.slc (.own true 3904) 2 ((eL s0)++ [[.s a0.1,.slc 1 []]])))] [12,14] [] [14] (pa s0 [((a0.1, []):Qm)] p0) ?_;refine eqn [(12,.o 3904 (s0++ [((a0.1, []):Qm)]))] [12] [] [] (by rw[show ((eL s0)++ [[.s a0.1,.slc 1 []]])=(eL (s0++ [((a0.1, []):Qm)])) from Ju (rfl) (rfl)];first | done | kernel_rfl) ?_;refine rn Qb [1,2,3,4,8,9,10,12,13] [4] (pe 1 (Jl (Qo k0 (by omega))) p0) ?_;exact zG (s0++ [((a0.1, []):Qm)]) (zL (Xg [(3904,147207)] (by kernel_rfl)) ⟨Qt hx0 (Q4 h5 (rfl)) U.1,by first|omega|(simp;omega) | simp⟩)
  refine Qg <| wT 12 0 (.own true 147207) s0 (λhw8 hl9=> ?_)
  refine qu Qb [(12,.one (.slc (.own true 3904) 2 ((eL s0)++ [[.s a0.1,.h (Xp a_ a0.1)]])))] [12,36] [] [] (pa s0 [(a0.1,(Xp a_ a0.1))] p0) ?_;refine eqn [(12,.o 3904 (s0++ [(a0.1,(Xp a_ a0.1))]))] [12] [] [] (by rw[show ((eL s0)++ [[.s a0.1,.h (Xp a_ a0.1)]])=(eL (s0++ [(a0.1,(Xp a_ a0.1))])) from Ju (rfl) (rfl)];first | done | kernel_rfl) ?_;refine rn Qb [1,2,3,4,8,9,10,12,13] [4] (pe 1 (Jl (Qo k0 (by omega))) p0) ?_;exact zG (s0++ [(a0.1,(Xp a_ a0.1))]) (zL (Xg [(3904,147207)] (by kernel_rfl)) ⟨Qt hx0 (Qi h5 (rfl)) U.1,by first|omega|(simp;omega) | simp⟩)
 ·have hA0_0:=U.2;exact Qc <| su Qb [(36,.b false)] [] [] [] (pl 2 d (pe 3 (zC ((k0:Int)<(d.length:Int))) p0)) <| ckF <| Q3 <| zG _ (zL (Xg [(147207,147357)] (by kernel_rfl)) (Xn hk0 (rfl) U.1))
 refine Qc <| su Qb [(15,.i 0)] [] [] [] p0 <| Qc5 (En s_ d names) Lf ((Vq d)+1).toNat y0 (λk1 s1=> [(12,.o 147357 s1),(15,.i (k1:Int))]) [12,15] (λ_ _=> []) [] (λy1=> [(12,.o 147357 y1)]) [1,3,4,10,12,15] (λ_=> []) [4] (λk1 s1=>EvS d ((Xi d)).1 (onD d names) s_.2.1 (((k1:Nat)):Int) s1/\zD s1=zD d) wf0 ⟨(by first | exact Gn hD0 | exact Gn hD0.1 | exact Da (fs:=s_.2.1) (Gn hD0) | exact Da (fs:=s_.2.1) (Gn hD0.1)),(by first | exact Gn hD0 | exact Gn hD0.1 | exact Da (fs:=s_.2.1) (Gn hD0) | exact Da (fs:=s_.2.1) (Gn hD0.1))⟩ (λk1 s1 hk1 hI1=> ?_) (λk1 s1 hk1 hI1=> ?_) (λy1 hD1=> ?_)
 ·have hA1_0:=hI1.2.1;have hA1_1:=hI1.2.2;refine Qc <| su Qb [(65,.b true)] [] [] [] (pc 2 (Fq d) (pe 3 (zB ((k1:Int)<=(Vq d))) p0)) <| ckT <| Qg <| Qc <| Qv <| su Qb [(16,.b true)] [65] [] [] p0 <| blw (λ(s2:(List Qm)×Bool)=> [(12,.o 147357 s2.1),(16,.b s2.2)]) [12,16] (λs2=> []) [] (λ(y2:List Qm)=> [(12,.o 147357 y2)]) [12,16] (λy2=> []) [] (λ(k2:Nat) (s2:(List Qm)×Bool)=>whl (Wj s_ d names k1) k2 s2=some (I0 (Wj s_ d names k1) (zD d*zD s_.2.1+2) (s1,true))/\zD s2.1=zD d) (λ(y2:List Qm)=>(I0 (Wj s_ d names k1) (zD d*zD s_.2.1+2) (s1,true))= .brk y2) (zD d*zD s_.2.1+2) (s1,true) wf0 ⟨Fl (Qlx (by assumption) (by assumption)),(by assumption)⟩ (λ_ h=>G1 h.1) (λk2 s2 hI2=> ?_) (λy2 hD2=> ?_)
  ·have hA2_0:=hI2.2;refine Qc <| su Qb [(68,.b s2.2)] [] [] [] p0 <| ck s2.2 (λh10=> ?_) (λh10=> ?_)
   ·refine Qg <| Qv <| su Qb [(16,.b false)] [16,68] [] [] p0 <| su Qb [(17,.i 0)] [] [] [] p0 <| Qbq (Em s_ d names k1) Le d (s2.1,false) (λk3 s3=> [(12,.o 147357 s3.1),(16,.b s3.2),(17,.i (k3:Int))]) [12,16,17] (λy3=> [(12,.o 147357 y3.1),(16,.b y3.2)]) [12,16,17] (λ_ s3=>zD s3.1=zD s2.1) (λy3=>zD y3.1=zD s2.1) wf0 (by simp) (λk3 s3 hk3 hI3=> ?_) (λk3 s3 hk3 hI3=> ?_) (λy3 hD3=> ?_)
    ·have hA3_0:=hI3.2;obtain ⟨a3,hx3⟩:=Xm (l:=d) (i:=k3) hk3;refine Qc <| su Qb [(72,.b true)] [] [] [] (pl 2 d (pe 3 (zB ((k3:Int)<(d.length:Int))) p0)) <| ckT <| Qg <| Qc <| Qv <| Qc <| Qc <| jn [(90,.b (((nth (((Xi d)).1) k3) !=(k1:Int))|| (!(Ua names a3.1))))] [72] [] [] ((nth (((Xi d)).1) k3) !=(k1:Int)) (λh11=> ?_) (λh11=> ?_) ?_
     ·have h11d:=Sq h11;refine wT 10 0 (.own true 1344) (((Xi d)).1) (λhw13 hl14=> ?_);have hx12:=ng (((Xi d)).1) k3;refine ru Qb [(90,.b true)] [72] [] [] (pN 2 hx12 (pt 5 h11 p0)) ?_;exact zA (by rw[h11]<;>kernel_rfl)
     ·have h11d:=Vi h11;refine wT 10 0 (.own true 1344) (((Xi d)).1) (λhw16 hl17=> ?_);have hx15:=ng (((Xi d)).1) k3;refine rn Qb [1,3,4,8,9,10,12,15,16,17,90] [4] (pN 2 hx15 (pf 5 h11 (pn 10 hx3 (pc 13 (Ou names a3.1) p0)))) ?_;exact zA (by rw[h11]<;>kernel_rfl)
     refine ck (((nth (((Xi d)).1) k3) !=(k1:Int))|| (!(Ua names a3.1))) (λh18=> ?_) (λh18=> ?_)
     ·refine Q3 <| rn Qb [1,3,4,8,9,10,12,15,16,17] [4] (pe 1 (Jl (Qo k3 (by omega))) p0) ?_
      exact xw (s3.1,s3.2) ⟨Qt hx3 (Q4 h18 (rfl)) hI3.1,(by first|omega|(simp only[zR];omega))⟩
     have h18l:(((nth (((Xi d)).1) k3) !=(k1:Int)))=false:=Re h18;have h18ld:=Vi h18l;have h18r:((!(Ua names a3.1)))=false:=Pz h18;have h18rn:(Ua names a3.1)=true:=Za h18r;refine Qg <| sN Qb Zg [1,3,4,8,9,10,12,15,16,17,18] [4] (pn 3 hx3 (pc 7 (Pq s_ a3.2 s3.1) p0)) <| wT 12 0 (.own true 147357) s3.1 (λhw20 hl21=> ?_)
     have hx19:=ng s3.1 k3;refine tn Qb [1,3,4,8,9,10,12,15,16,17,18,106] [4] (pN 3 hx19 (pc 6 (M2 (Y0 s_ a3.2 s3.1) ((nth s3.1 k3).2)) p0)) <| ck (!(Vb (Y0 s_ a3.2 s3.1) ((nth s3.1 k3).2))) (λh22=> ?_) (λh22=> ?_)
     ·have h22n:(Vb (Y0 s_ a3.2 s3.1) ((nth s3.1 k3).2))=false:=Vj h22;refine tu Qb [(12,.one (.slc (.own true 147357) 2 (setRow (eL s3.1) k3 1 [.h (Y0 s_ a3.2 s3.1)])))] [12,90] [] [] (pN 3 hx19 p0) <| eqn [(12,.o 147357 (xB s3.1 k3 ((nth s3.1 k3).1,(Y0 s_ a3.2 s3.1))))] [12] [] [] (by rw[Jm (y:=((nth s3.1 k3).1,(Y0 s_ a3.2 s3.1))) hx19 rfl]<;>kernel_rfl) ?_
      refine ru Qb [(16,.b true)] [16] [] [] p0 ?_;refine rn Qb [1,3,4,8,9,10,12,15,16,17] [4] (pe 1 (Jl (Qo k3 (by omega))) p0) ?_;exact xw (xB s3.1 k3 ((nth s3.1 k3).1,(Y0 s_ a3.2 s3.1)),true) ⟨Qt hx3 (Qi h18 (Q4 h22 (rfl))) hI3.1,(by first|omega|(simp only[zR];omega))⟩
     have h22n:(Vb (Y0 s_ a3.2 s3.1) ((nth s3.1 k3).2))=true:=Za h22;refine Qg <| qu Qb [(17,.i ((k3+1:Nat):Int))] [17,90] [] [] (pe 1 (Jl (Qo k3 (by omega))) p0) ?_
     exact xw (s3.1,s3.2) ⟨Qt hx3 (Qi h18 (Qi h22 (rfl))) hI3.1,(by first|omega|(simp only[zR];omega))⟩
    ·have hA3_0:=hI3.2;exact Qc <| su Qb [(72,.b false)] [] [] [] (pl 2 d (pe 3 (zC ((k3:Int)<(d.length:Int))) p0)) <| ckF <| Q3 <| xw (s3.1,s3.2) ⟨Xn hk3 (rfl) hI3.1,by first|omega|(simp only[zR];omega)⟩
    have hD3_0:=hD3.2;exact xw (y3.1,y3.2) ⟨wn hI2.1 (Q4 h10 (Wk hD3.1 (rfl))),(by first|omega|(simp only[zR];omega))⟩
   exact Q3 <| xw _ (wb hI2.1 (Qi h10 (rfl)))
  refine rn Qb [1,3,4,8,9,10,12,15] [4] (pe 1 (Jl (Qo k1 (by omega))) p0) ?_;exact xw y2 ⟨V2 hk1 (Wk hD2 (rfl)) hI1.1,(by first | exact ZS (by assumption) (by assumption) (by assumption) | exact Da (fs:=s_.2.1) (ZS (by assumption) (by assumption) (by assumption))),(by first | exact ZS (by assumption) (by assumption) (by assumption) | exact Da (fs:=s_.2.1) (ZS (by assumption) (by assumption) (by assumption)))⟩
 ·have hA1_0:=hI1.2.1;have hA1_1:=hI1.2.2;exact Qc <| su Qb [(65,.b false)] [] [] [] (pc 2 (Fq d) (pe 3 (zC ((k1:Int)<=(Vq d))) p0)) <| ckF <| Q3 <| xw _ (Dc hk1 (rfl) hI1.1)
 exact sn Qb [8,9] [] p0 <| Qe <| pz [] (show Vs s_ d a_ names=_ from Qi h2 (Wk hD0 (Wk hD1 (rfl)))) (λz=> .tup [(false, [.o 0 z.1]),(false, [.b z.2])])
def Zn (s_:Qz) (f:Xe):Qz×Bool:=(bif ((!(Xc (Qh s_)))|| (decide ((Xd (Qh s_) f.1)<(0:Int))|| (!(Yd ((Qh s_).1) f)))) then ((Qh s_),false) else (((Qh s_).1,xB ((Qh s_).2.1) (Xd (Qh s_) f.1).toNat (Qu f),(Qh s_).2.2),true))
theorem PQ {s:Qz} {f:Xe} (h:(Zn s f).2=true):Xc s=true/\zD f.2.2.2.2<=5:=by
 unfold Zn at h;rw[Qhe] at h;cases hv:Xc s with
 | false=>rw[hv] at h;simp at h
 | true=>
  refine ⟨rfl, ?_⟩;cases hf:Yd s.1 f with
  | true=>exact XO ((KI s.1 f).symm.trans hf)
  | false=>
   rw[hv,hf] at h;simp at h
theorem PR {s:Qz} (h:Xc s=true) (id:Int):zD (Xa s id).1.2.2.2.2<=5:=by
 unfold Xa;by_cases hc:Xd s id<(0:Int)
 . rw[decide_eq_true hc,cond_true];exact yO _
 rw[decide_eq_false hc,cond_false];have hl:=KM s id;exact VW ((Bo s).symm.trans h) (zF (Wg (l:=s.2.1) (i:=zJ (Xd s id)) (by omega)))
theorem KT (s_:Qz) (f:Xe):ACalls Tryz.prog 69 [.a [.h s_.1,.h s_.2.1,.i s_.2.2],.a [.i f.1,.i f.2.1,.b f.2.2.1,.i f.2.2.2.1,.h f.2.2.2.2]] (.tup [(true, [.o 0 ((((Zn s_ f)).1).1),.o 1 ((((Zn s_ f)).1).2.1),.i ((((Zn s_ f)).1).2.2)]),(false, [.b (((Zn s_ f)).2)])]):=by
 refine en Qb Tryz.func69 λw0 F0 hG=> ?_
 refine sn Qb [2,3,4,5] [2,3,4] p0 <| tn Qb [2,3,4,5] [2,3,4] (pc 1 (Io s_) p0) <| tu Qb [(2,.p 2 0),(3,.p 3 0),(4,.p 4 0),(5,.b false),(6,.i (Xd (Qh s_) f.1))] [0,1] [(2, [.o 512 ((Qh s_).1),.o 513 ((Qh s_).2.1),.i ((Qh s_).2.2)]),(3, [.i f.1,.i f.2.1,.b f.2.2.1,.i f.2.2.2.1,.h f.2.2.2.2]),(4, [.e 2,.e 5,.i 0])] [] (pc 3 (Lx (Qh s_) f.1) p0) <| Qc <| Qc <| jn [(26,.b ((!(Xc (Qh s_)))|| (decide ((Xd (Qh s_) f.1)<(0:Int))|| (!(Yd ((Qh s_).1) f)))))] [] [] [] (!(Xc (Qh s_))) (λh1=> ?_) (λh1=> ?_) ?_
 ·have h1n:(Xc (Qh s_))=false:=Vj h1;refine ru Qb [(26,.b true)] [] [] [] (pc 1 (cb h1n (Kl (Qh s_))) (pe 2 (show .b (!false)= .b true from rfl) p0)) ?_;exact zA (by rw[h1]<;>kernel_rfl)
 ·have h1n:(Xc (Qh s_))=true:=Za h1;refine Xu (decide ((Xd (Qh s_) f.1)<(0:Int))) (λh2=> ?_) (λh2=> ?_)
  ·refine ru Qb [(26,.b true)] [] [] [] (pc 1 (cb h1n (Kl (Qh s_))) (pe 2 (show .b (!true)= .b false from rfl) (pt 5 h2 p0))) ?_;exact zA (by rw[h1,h2]<;>kernel_rfl)
  have h2p:=KM (Qh s_) f.1;refine rn Qb [2,3,4,5,6,26] [2,3,4] (pc 1 (cb h1n (Kl (Qh s_))) (pe 2 (show .b (!true)= .b false from rfl) (pf 5 h2 (pc 11 (Ag ((Qh s_).1) f) p0)))) ?_;exact zA (by rw[h1,h2]<;>kernel_rfl)
 refine ck ((!(Xc (Qh s_)))|| (decide ((Xd (Qh s_) f.1)<(0:Int))|| (!(Yd ((Qh s_).1) f)))) (λh3=> ?_) (λh3=> ?_)
 ·exact sn Qb [2,3,4,5,6] [2,3,4] p0 <| Qe <| pz [] (show Zn s_ f=_ from Q4 h3 (rfl)) (λz=> .tup [(true, [.o 0 z.1.1,.o 1 z.1.2.1,.i z.1.2.2]),(false, [.b z.2])])
 have h3r:((decide ((Xd (Qh s_) f.1)<(0:Int))|| (!(Yd ((Qh s_).1) f))))=false:=Pz h3;have h3rl:(decide ((Xd (Qh s_) f.1)<(0:Int)))=false:=Re h3r;have h3rlp:=KM (Qh s_) f.1;have h3rld:=of_decide_eq_false h3rl;refine Qg <| wB 2 1 (.own true 513) ((Qh s_).2.1) (λhw5 hl6=> ?_)
 have hx4:=ng ((Qh s_).2.1) (Xd (Qh s_) f.1).toNat;refine sU Qb Zg [] [3,6,26] [(2, [.o 512 ((Qh s_).1),.slc (.own true 513) 5 (setRow (eL ((Qh s_).2.1)) (Xd (Qh s_) f.1).toNat 0 [.i ((Qu f).1),.i ((Qu f).2.1),.b ((Qu f).2.2.1),.i ((Qu f).2.2.2.1),.h ((Qu f).2.2.2.2)]),.i ((Qh s_).2.2)])] [2,3] (pc 4 (Ih f) (pG 5 (Xd (Qh s_) f.1) hx4 p0)) <| eqn [] [] [(2, [.o 512 ((Qh s_).1),.o 513 (xB ((Qh s_).2.1) (Xd (Qh s_) f.1).toNat (Qu f)),.i ((Qh s_).2.2)])] [2] (by rw[Jm (y:=(Qu f)) hx4 rfl]<;>kernel_rfl) ?_
 exact sn Qb [4,5] [4] p0 <| Qe <| pz [] (show Zn s_ f=_ from Qi h3 (rfl)) (λz=> .tup [(true, [.o 0 z.1.1,.o 1 z.1.2.1,.i z.1.2.2]),(false, [.b z.2])])
def Lz (_:Nat) (a0:X0) (s0:List X0):Rd (List X0) (List X0) (List X0):=(.next (s0++ [a0]))
def L3 (_:Nat) (s0:List X0):(List X0):=s0
def V1 (d:List X0):(List X0):=(Out.on (Xz Lz L3 d 0 []) (λy0=>y0))
theorem Aa (d:List X0):ACalls Tryz.prog 62 [.h d] (.o 0 (V1 d)):=by
 refine en Qb Tryz.func62 λw0 F0 hG=> ?_
 refine sn Qb [0,2] [] p0 <| tn Qb [0,2,3] [] p0 <| Qc <| tu Qb [(2,.e 0),(3,.one (.slc (.own true 320) 2 [])),(4,.i 0)] [] [] [] p0 <| wT 0 0 .sh d (λhw1 hl2=> ?_)
 refine KD Lz L3 d [] (λk0 s0=> [(3,.o 147202 s0),(4,.i (k0:Int))]) [3,4] (λy0=> [(3,.o 147352 y0)]) [0,3,4] (λk0 s0=>zD s0<=k0) (Xg [(320,147202)] (by kernel_rfl)) (by simp) (λk0 s0 hk0 U=> ?_) (λk0 s0 hk0 U=> ?_) (λy0 hD0=> ?_)
 ·have hA0_0:=U.2;obtain ⟨a0,hx0⟩:=Xm (l:=d) (i:=k0) hk0;refine Qc <| sn Qb [0,2,3,4,9] [] (pl 2 d (pe 3 (zB ((k0:Int)<(d.length:Int))) p0)) <| ckT <| Qg <| Qc <| Qv ?_
  have hl3:zD a0.2<=1073741824:=Gz (EX (EW hx0 (hw1)));refine wT 3 0 (.own true 147202) s0 (λhw4 hl5=> ?_);refine qU Qb Zg [(3,.one (.slc (.own true 1728) 2 ((eL s0)++ [[.s a0.1,.slc 7 ([]++(eL a0.2))]])))] [3] [] [] (pn 3 hx0 (pn 9 hx0 (po 12 (.flat) (px (Ey (n:=(([]:List (List PV)).length+((eL a0.2):List (List PV)).length)) (G0 (rfl) (Zu a0.2) (by first|omega|(simp only[zK,zT];omega) | (simp;omega) | simp))) (px (Cp (B8 a0.2)) (px (Ey (n:=(((eL s0):List (List PV)).length+([[.s a0.1,.slc 7 ([]++(eL a0.2))]]:List (List PV)).length)) (G0 (Zu s0) (rfl) (by first|omega|(simp only[zK,zT];omega) | (simp;omega) | simp))) p0)))))) ?_;refine eqn [(3,.o 1728 (s0++ [a0]))] [3] [] [] (by rw[show ((eL s0)++ [[.s a0.1,.slc 7 ([]++(eL a0.2))]])=(eL (s0++ [a0])) from Ju (rfl) (rfl)];first | done | kernel_rfl) ?_;refine rn Qb [0,2,3,4] [] (pe 1 (Jl (Qo k0 (by omega))) p0) ?_;exact zG (s0++ [a0]) (zL (Xg [(1728,147202)] (by kernel_rfl)) ⟨Qt hx0 (rfl) U.1,by first|omega|(simp;omega) | simp⟩)
 ·have hA0_0:=U.2;exact Qc <| sn Qb [0,2,3,4,9] [] (pl 2 d (pe 3 (zC ((k0:Int)<(d.length:Int))) p0)) <| ckF <| Q3 <| zG _ (zL (Xg [(147202,147352)] (by kernel_rfl)) (Xn hk0 (rfl) U.1))
 exact sn Qb [2] [] p0 <| Qe <| po0 [] (Wk hD0 (rfl))
def Eo (x:X0) (_:Nat) (a0:X0) (s0:(List X0)×Bool):Rd ((List X0)×Bool) ((List X0)×Bool) ((List X0)×Bool):=(bif ((!s0.2)&&(!(Op.bytesLess a0.1.toList x.1.toList))) then (bif (!(a0.1.toList==x.1.toList)) then (.next (s0.1++ [x]++ [a0],true)) else (.next (s0.1++ [x],true))) else (bif (!(a0.1.toList==x.1.toList)) then (.next (s0.1++ [a0],s0.2)) else (.next (s0.1,s0.2))))
def Is (_:Nat) (s0:(List X0)×Bool):(List X0)×Bool:=(s0.1,s0.2)
def Jb (d:List X0) (x:X0):(List X0)×Bool:=(bif (!(Ys d)) then ((V1 d),false) else (Out.on (Xz (Eo x) Is d 0 ([],false)) (λy0=>(bif (!y0.2) then (bif (!(Ys (y0.1++ [x]))) then ((V1 d),false) else ((V1 (y0.1++ [x])),true)) else (bif (!(Ys y0.1)) then ((V1 d),false) else ((V1 y0.1),true))))))
theorem MB (d:List X0) (x:X0):ACalls Tryz.prog 72 [.h d,.a [.s x.1,.h x.2]] (.tup [(false, [.o 0 (((Jb d x)).1)]),(false, [.b (((Jb d x)).2)])]):=by
 refine en Qb Tryz.func72 λw0 F0 hG=> ?_
 refine sn Qb [0,3,4,5] [3] p0 <| Qc <| tn Qb [0,3,4,5,11] [3] (pc 1 (Ae d) p0) <| ck (!(Ys d)) (λh1=> ?_) (λh1=> ?_)
 ·exact tu Qb [(3,.p 3 0),(4,.o 832 (V1 d)),(5,.b false)] [1] [(3, [.s x.1,.h x.2])] [] (pc 1 (Aa d) p0) <| Qe <| pz [] (show Jb d x=_ from Q4 h1 (rfl)) (λz=> .tup [(false, [.o 0 z.1]),(false, [.b z.2])])
 have h1n:(Ys d)=true:=Za h1;have h1nv:=Qdp h1n;have h1nl:=Hg ((De _).trans h1n);refine Qg <| tu Qb [(3,.p 3 0),(4,.e 0),(5,.b false),(6,.one (.slc (.own true 896) 2 []))] [1] [(3, [.s x.1,.h x.2])] [] p0 <| sn Qb [0,3,4,5,6,7] [3] p0 <| Qc <| tn Qb [0,3,4,5,6,7,8] [3] p0 <| mz [(7,.b false),(8,.i 0)] [] [] [] <| wT 0 0 .sh d (λhw2 hl3=> ?_)
 refine Qbq (Eo x) Is d ([],false) (λk0 s0=> [(6,.q 147204 s0.1),(7,.b s0.2),(8,.i (k0:Int))]) [6,7,8] (λy0=> [(6,.q 147354 y0.1),(7,.b y0.2)]) [6,7,8] (λk0 s0=>zD s0.1<=2*k0) (λy0=>zD y0.1<=10) (Ao [] [] [896] [(896,147204)] (by kernel_rfl)) (by simp) (λk0 s0 hk0 U=> ?_) (λk0 s0 hk0 U=> ?_) (λy0 hD0=> ?_)
 ·have hA0_0:=U.2;obtain ⟨a0,hx0⟩:=Xm (l:=d) (i:=k0) hk0;refine Qc <| su Qb [(18,.b true)] [] [] [] (pl 2 d (pe 3 (zB ((k0:Int)<(d.length:Int))) p0)) <| ckT <| Qg <| Qc <| Qv <| Qc <| Qc <| jn [(32,.b ((!s0.2)&&(!(Op.bytesLess a0.1.toList x.1.toList))))] [18] [] [] (!s0.2) (λh4=> ?_) (λh4=> ?_) ?_
  ·have h4n:(s0.2)=false:=Vj h4;refine rN Qb Zg [0,3,4,5,6,7,8,32] [3] (pf 0 h4n (pe 1 (show .b (!false)= .b true from rfl) (pn 5 hx0 p0))) ?_;exact zA (by rw[h4]<;>kernel_rfl)
  ·have h4n:(s0.2)=true:=Za h4;refine rU Qb Zg [(32,.b false)] [18] [] [] (pt 0 h4n (pe 1 (show .b (!true)= .b false from rfl) p0)) ?_;exact zA (by rw[h4]<;>kernel_rfl)
  refine ck ((!s0.2)&&(!(Op.bytesLess a0.1.toList x.1.toList))) (λh5=> ?_) (λh5=> ?_)
  ·refine wT 6 0 (.own false 147204) s0.1 (λhw6 hl7=> ?_);refine su Qb [(6,.one (.slc (.own false 2304) 2 ((eL s0.1)++ [[.s x.1,.h x.2]])))] [6,32] [] [] (pa s0.1 [x] p0) <| eqn [(6,.q 2304 (s0.1++ [x]))] [6] [] [] (by rw[show ((eL s0.1)++ [[.s x.1,.h x.2]])=(eL (s0.1++ [x])) from Ju (rfl) (rfl)];first | done | kernel_rfl) ?_
   refine ru Qb [(7,.b true)] [7] [] [] p0 ?_;refine sN Qb Zg [0,3,4,5,6,7,8,44] [3] (pn 2 hx0 p0) <| ck (!(a0.1.toList==x.1.toList)) (λh8=> ?_) (λh8=> ?_)
   ·refine wT 6 0 (.own false 2304) (s0.1++ [x]) (λhw9 hl10=> ?_);refine qu Qb [(6,.one (.slc (.own false 3264) 2 ((eL (s0.1++ [x]))++ [[.s a0.1,.h a0.2]])))] [6] [] [] (pn 3 hx0 (pa (s0.1++ [x]) [a0] p0)) ?_;refine eqn [(6,.q 3264 (s0.1++ [x]++ [a0]))] [6] [] [] (by rw[show ((eL (s0.1++ [x]))++ [[.s a0.1,.h a0.2]])=(eL (s0.1++ [x]++ [a0])) from Ju (rfl) (rfl)];first | done | kernel_rfl) ?_;refine rn Qb [0,3,4,5,6,7,8] [3] (pe 1 (Jl (Qo k0 (by omega))) p0) ?_;exact zG (s0.1++ [x]++ [a0],true) (zL (Xg [(3264,147204)] (by kernel_rfl)) ⟨Qt hx0 (Q4 h5 (Q4 h8 (rfl))) U.1,(by first|omega|(simp;omega))⟩)
   refine Qg <| qn Qb [0,3,4,5,6,7,8] [3] (pe 1 (Jl (Qo k0 (by omega))) p0) ?_
   exact zG (s0.1++ [x],true) (zL (Xg [(2304,147204)] (by kernel_rfl)) ⟨Qt hx0 (Q4 h5 (Qi h8 (rfl))) U.1,(by first|omega|(simp;omega))⟩)
  refine Qg <| sN Qb Zg [0,3,4,5,6,7,8,44] [3] (pn 2 hx0 p0) <| ck (!(a0.1.toList==x.1.toList)) (λh11=> ?_) (λh11=> ?_)
  ·refine wT 6 0 (.own false 147204) s0.1 (λhw12 hl13=> ?_);refine qu Qb [(6,.one (.slc (.own false 3264) 2 ((eL s0.1)++ [[.s a0.1,.h a0.2]])))] [6,32] [] [] (pn 3 hx0 (pa s0.1 [a0] p0)) ?_;refine eqn [(6,.q 3264 (s0.1++ [a0]))] [6] [] [] (by rw[show ((eL s0.1)++ [[.s a0.1,.h a0.2]])=(eL (s0.1++ [a0])) from Ju (rfl) (rfl)];first | done | kernel_rfl) ?_;refine rn Qb [0,3,4,5,6,7,8] [3] (pe 1 (Jl (Qo k0 (by omega))) p0) ?_;exact zG (s0.1++ [a0],s0.2) (zL (Xg [(3264,147204)] (by kernel_rfl)) ⟨Qt hx0 (Qi h5 (Q4 h11 (rfl))) U.1,(by first|omega|(simp;omega))⟩)
  refine Qg <| qn Qb [0,3,4,5,6,7,8] [3] (pe 1 (Jl (Qo k0 (by omega))) p0) ?_
  exact xw (s0.1,s0.2) ⟨Qt hx0 (Qi h5 (Qi h11 (rfl))) U.1,(by first|omega|(simp;omega))⟩
 ·have hA0_0:=U.2;exact Qc <| su Qb [(18,.b false)] [] [] [] (pl 2 d (pe 3 (zC ((k0:Int)<(d.length:Int))) p0)) <| ckF <| Q3 <| zG (s0.1,s0.2) (zL (Xg [(147204,147354)] (by kernel_rfl)) ⟨Xn hk0 (rfl) U.1,by first|omega|(simp only[zR];omega)⟩)
 have hD0_0:=hD0.2;refine Qc <| sn Qb [0,3,4,5,6,53] [3] p0 <| ck (!y0.2) (λh14=> ?_) (λh14=> ?_)
 ·refine wT 6 0 (.own false 147354) y0.1 (λhw15 hl16=> ?_);refine qu Qb [(6,.one (.slc (.own false 3648) 2 ((eL y0.1)++ [[.s x.1,.h x.2]])))] [3,6,7] [] [3] (pa y0.1 [x] p0) ?_;refine eqn [(6,.q 3648 (y0.1++ [x]))] [6] [] [] (by rw[show ((eL y0.1)++ [[.s x.1,.h x.2]])=(eL (y0.1++ [x])) from Ju (rfl) (rfl)];first | done | kernel_rfl) ?_;refine Qc <| sn Qb [0,4,5,6,60] [] (pc 1 (Ae (y0.1++ [x])) p0) <| ck (!(Ys (y0.1++ [x]))) (λh17=> ?_) (λh17=> ?_)
  ·exact tn Qb [4,5,6] [] (pc 1 (Aa d) p0) <| Qe <| pz [] (show Jb d x=_ from Qi h1 (Wk hD0.1 (Q4 h14 (Q4 h17 (rfl))))) (λz=> .tup [(false, [.o 0 z.1]),(false, [.b z.2])])
  have h17n:(Ys (y0.1++ [x]))=true:=Za h17;have h17nl:=Hg ((De _).trans h17n);exact Qg <| tn Qb [4,5] [] (pc 1 (Aa (y0.1++ [x])) p0) <| Qe <| pz [] (show Jb d x=_ from Qi h1 (Wk hD0.1 (Q4 h14 (Qi h17 (rfl))))) (λz=> .tup [(false, [.o 0 z.1]),(false, [.b z.2])])
 refine Qg <| Qc <| tn Qb [0,4,5,6,60] [] (pc 1 (Ae y0.1) p0) <| ck (!(Ys y0.1)) (λh18=> ?_) (λh18=> ?_)
 ·exact tu Qb [(4,.o 3968 (V1 d))] [0,3,4,7] [] [3] (pc 1 (Aa d) p0) <| Qe <| pz [] (show Jb d x=_ from Qi h1 (Wk hD0.1 (Qi h14 (Q4 h18 (rfl))))) (λz=> .tup [(false, [.o 0 z.1]),(false, [.b z.2])])
 have h18n:(Ys y0.1)=true:=Za h18;have h18nl:=Hg ((De _).trans h18n);exact Qg <| tu Qb [(4,.o 4096 (V1 y0.1)),(5,.b true)] [0,3,4,5,6,7] [] [3] (pc 1 (Aa y0.1) p0) <| Qe <| pz [] (show Jb d x=_ from Qi h1 (Wk hD0.1 (Qi h14 (Qi h18 (rfl))))) (λz=> .tup [(false, [.o 0 z.1]),(false, [.b z.2])])
def Ms (name:ByteArray) (_:Nat) (a0:X0) (s0:List X0):Rd ((List X0)×Bool) (List X0) (List X0):=(bif (!(a0.1.toList==name.toList)) then (.next (s0++ [a0])) else (.next s0))
def Mt (_:Nat) (s0:List X0):(List X0):=s0
def Kw (d:List X0) (name:ByteArray):(List X0)×Bool:=(bif ((!(Ys d))|| decide ((Xs d name)<(0:Int))) then ((V1 d),false) else (Out.on (Xz (Ms name) Mt d 0 []) (λy0=>((V1 y0),true))))
theorem Qhf {d:List X0} {nm:ByteArray} (h:(Kw d nm).2=true):zD d<=5:=by
 unfold Kw at h;cases hv:Ys d with
 | false=>rw[hv] at h;simp at h
 | true=>exact Hg ((De d).trans hv)
theorem AY (d:List X0) (name:ByteArray):ACalls Tryz.prog 75 [.h d,.s name] (.tup [(false, [.o 0 (((Kw d name)).1)]),(false, [.b (((Kw d name)).2)])]):=by
 refine en Qb Tryz.func75 λw0 F0 hG=> ?_
 refine sn Qb [0,1,4,5] [] p0 <| Qc <| Qc <| mz [(4,.e 0),(5,.b false)] [] [] [] <| jn [(16,.b ((!(Ys d))|| decide ((Xs d name)<(0:Int))))] [] [] [] (!(Ys d)) (λh1=> ?_) (λh1=> ?_) ?_
 ·have h1n:(Ys d)=false:=Vj h1;refine rn Qb [0,1,4,5,16] [] (pc 1 (cb h1n (Ae d)) (pe 2 (show .b (!false)= .b true from rfl) p0)) ?_;exact zA (by rw[h1]<;>kernel_rfl)
 ·have h1n:(Ys d)=true:=Za h1;have h1nv:=Qdp h1n;have h1nl:=Hg ((De _).trans h1n);refine rn Qb [0,1,4,5,16] [] (pc 1 (cb h1n (Ae d)) (pe 2 (show .b (!true)= .b false from rfl) (pc 6 (O3 d name) p0))) ?_;exact zA (by rw[h1]<;>kernel_rfl)
 refine ck ((!(Ys d))|| decide ((Xs d name)<(0:Int))) (λh2=> ?_) (λh2=> ?_)
 ·exact sn Qb [0,1,4,5] [] (pc 1 (Aa d) p0) <| Qe <| pz [] (show Kw d name=_ from Q4 h2 (rfl)) (λz=> .tup [(false, [.o 0 z.1]),(false, [.b z.2])])
 have h2l:((!(Ys d)))=false:=Re h2;have h2ln:(Ys d)=true:=Za h2l;have h2lnv:=Qdp h2ln;have h2lnl:=Hg ((De _).trans h2ln);have h2r:(decide ((Xs d name)<(0:Int)))=false:=Pz h2;have h2rd:=of_decide_eq_false h2r;refine Qg <| sn Qb [0,1,4,5,6] [] p0 <| Qc <| tn Qb [0,1,4,5,6,7] [] p0 <| mz [(6,.one (.slc (.own true 1216) 2 [])),(7,.i 0)] [16] [] [] <| wT 0 0 .sh d (λhw3 hl4=> ?_)
 refine KD (Ms name) Mt d [] (λk0 s0=> [(6,.q 147204 s0),(7,.i (k0:Int))]) [6,7] (λy0=> [(6,.q 147354 y0)]) [0,1,6,7] (λk0 s0=>zD s0<=k0) (Ao [] [] [1216] [(1216,147204)] (by kernel_rfl)) (by simp) (λk0 s0 hk0 U=> ?_) (λk0 s0 hk0 U=> ?_) (λy0 hD0=> ?_)
 ·have hA0_0:=U.2;obtain ⟨a0,hx0⟩:=Xm (l:=d) (i:=k0) hk0;refine Qc <| su Qb [(23,.b true)] [] [] [] (pl 2 d (pe 3 (zB ((k0:Int)<(d.length:Int))) p0)) <| ckT <| Qg <| Qc <| Qv <| sn Qb [0,1,4,5,6,7,32] [] (pn 2 hx0 p0) <| ck (!(a0.1.toList==name.toList)) (λh5=> ?_) (λh5=> ?_)
  ·refine wT 6 0 (.own false 147204) s0 (λhw6 hl7=> ?_);refine qu Qb [(6,.one (.slc (.own false 2496) 2 ((eL s0)++ [[.s a0.1,.h a0.2]])))] [6,23] [] [] (pn 3 hx0 (pa s0 [a0] p0)) ?_;refine eqn [(6,.q 2496 (s0++ [a0]))] [6] [] [] (by rw[show ((eL s0)++ [[.s a0.1,.h a0.2]])=(eL (s0++ [a0])) from Ju (rfl) (rfl)];first | done | kernel_rfl) ?_;refine rn Qb [0,1,4,5,6,7] [] (pe 1 (Jl (Qo k0 (by omega))) p0) ?_;exact zG (s0++ [a0]) (zL (Xg [(2496,147204)] (by kernel_rfl)) ⟨Qt hx0 (Q4 h5 (rfl)) U.1,by first|omega|(simp;omega) | simp⟩)
  refine Qg <| qn Qb [0,1,4,5,6,7] [] (pe 1 (Jl (Qo k0 (by omega))) p0) ?_
  exact xw s0 ⟨Qt hx0 (Qi h5 (rfl)) U.1,by first|omega|(simp;omega) | simp⟩
 ·have hA0_0:=U.2;exact Qc <| su Qb [(23,.b false)] [] [] [] (pl 2 d (pe 3 (zC ((k0:Int)<(d.length:Int))) p0)) <| ckF <| Q3 <| zG _ (zL (Xg [(147204,147354)] (by kernel_rfl)) (Xn hk0 (rfl) U.1))
 exact sn Qb [4,5] [] (pc 1 (Aa y0) p0) <| Qe <| pz [] (show Kw d name=_ from Qi h2 (Wk hD0 (rfl))) (λz=> .tup [(false, [.o 0 z.1]),(false, [.b z.2])])
def T7 (a_:List Int) (_:Nat) (a0:Int) (s0:List Int):Rd ((List Int)×(List Int)) (List Int) (List Int):=(bif (!(Ue a_ a0)) then (.next (s0++ [a0])) else (.next s0))
def T8 (_:Nat) (s0:List Int):(List Int):=s0
def T9 (b:List Int) (_:Nat) (a1:Int) (s1:List Int):Rd ((List Int)×(List Int)) (List Int) (List Int):=(bif (!(Ue b a1)) then (.next (s1++ [a1])) else (.next s1))
def QA (_:Nat) (s1:List Int):(List Int):=s1
def Zz (a_:List Int) (b:List Int):(List Int)×(List Int):=(Out.on (Xz (T7 a_) T8 b 0 []) (λy0=>(Out.on (Xz (T9 b) QA a_ 0 []) (λy1=>(y0,y1)))))
theorem FY (a_:List Int) (b:List Int):ACalls Tryz.prog 178 [.h a_,.h b] (.tup [(false, [.o 0 (((Zz a_ b)).1)]),(false, [.o 1 (((Zz a_ b)).2)])]):=by
 refine en Qb Tryz.func178 λw0 F0 hG=> ?_
 refine sn Qb [0,1,4,5] [] p0 <| tn Qb [0,1,4,5,6] [] p0 <| tu Qb [(4,.e 0),(5,.e 0),(6,.one (.slc (.own true 640) 1 [])),(7,.one (.slc (.own true 704) 1 []))] [] [] [] p0 <| Qc <| su Qb [(8,.i 0)] [] [] [] p0 <| wT 1 0 .sh b (λhw1 hl2=> ?_)
 refine KD (T7 a_) T8 b [] (λk0 s0=> [(6,.o 147204 s0),(8,.i (k0:Int))]) [6,8] (λy0=> [(6,.o 147354 y0)]) [6,8] (λk0 s0=>zD s0<=k0) (Xg [(640,147204)] (by kernel_rfl)) (by simp) (λk0 s0 hk0 U=> ?_) (λk0 s0 hk0 U=> ?_) (λy0 hD0=> ?_)
 ·have hA0_0:=U.2;obtain ⟨a0,hx0⟩:=Xm (l:=b) (i:=k0) hk0;refine Qc <| su Qb [(15,.b true)] [] [] [] (pl 2 b (pe 3 (zB ((k0:Int)<(b.length:Int))) p0)) <| ckT <| Qg <| Qc <| Qv <| sn Qb [0,1,4,5,6,7,8,24] [] (pn 3 hx0 (pc 5 (Fo a_ a0) p0)) <| ck (!(Ue a_ a0)) (λh3=> ?_) (λh3=> ?_)
  ·refine wT 6 0 (.own true 147204) s0 (λhw4 hl5=> ?_);refine qu Qb [(6,.one (.slc (.own true 1984) 1 ((eL s0)++ [[.i a0]])))] [6,15] [] [] (pn 3 hx0 (pa s0 [a0] p0)) ?_;refine eqn [(6,.o 1984 (s0++ [a0]))] [6] [] [] (by rw[show ((eL s0)++ [[.i a0]])=(eL (s0++ [a0])) from Ju (rfl) (rfl)];first | done | kernel_rfl) ?_;refine rn Qb [0,1,4,5,6,7,8] [] (pe 1 (Jl (Qo k0 (by omega))) p0) ?_;exact zG (s0++ [a0]) (zL (Xg [(1984,147204)] (by kernel_rfl)) ⟨Qt hx0 (Q4 h3 (rfl)) U.1,by first|omega|(simp;omega) | simp⟩)
  refine Qg <| qn Qb [0,1,4,5,6,7,8] [] (pe 1 (Jl (Qo k0 (by omega))) p0) ?_
  exact xw s0 ⟨Qt hx0 (Qi h3 (rfl)) U.1,by first|omega|(simp;omega) | simp⟩
 ·have hA0_0:=U.2;exact Qc <| su Qb [(15,.b false)] [] [] [] (pl 2 b (pe 3 (zC ((k0:Int)<(b.length:Int))) p0)) <| ckF <| Q3 <| zG _ (zL (Xg [(147204,147354)] (by kernel_rfl)) (Xn hk0 (rfl) U.1))
 refine Qc <| su Qb [(9,.i 0)] [] [] [] p0 <| wT 0 0 .sh a_ (λhw6 hl7=> ?_)
 refine KD (T9 b) QA a_ [] (λk1 s1=> [(7,.o 147205 s1),(9,.i (k1:Int))]) [7,9] (λy1=> [(7,.o 147355 y1)]) [0,1,7,9] (λk1 s1=>zD s1<=k1) (Xg [(704,147205)] (by kernel_rfl)) (by simp) (λk1 s1 hk1 hI1=> ?_) (λk1 s1 hk1 hI1=> ?_) (λy1 hD1=> ?_)
 ·have hA1_0:=hI1.2;obtain ⟨a1,hx1⟩:=Xm (l:=a_) (i:=k1) hk1;refine Qc <| su Qb [(35,.b true)] [] [] [] (pl 2 a_ (pe 3 (zB ((k1:Int)<(a_.length:Int))) p0)) <| ckT <| Qg <| Qc <| Qv <| sn Qb [0,1,4,5,6,7,9,44] [] (pn 3 hx1 (pc 5 (Fo b a1) p0)) <| ck (!(Ue b a1)) (λh8=> ?_) (λh8=> ?_)
  ·refine wT 7 0 (.own true 147205) s1 (λhw9 hl10=> ?_);refine qu Qb [(7,.one (.slc (.own true 3264) 1 ((eL s1)++ [[.i a1]])))] [7,35] [] [] (pn 3 hx1 (pa s1 [a1] p0)) ?_;refine eqn [(7,.o 3264 (s1++ [a1]))] [7] [] [] (by rw[show ((eL s1)++ [[.i a1]])=(eL (s1++ [a1])) from Ju (rfl) (rfl)];first | done | kernel_rfl) ?_;refine rn Qb [0,1,4,5,6,7,9] [] (pe 1 (Jl (Qo k1 (by omega))) p0) ?_;exact zG (s1++ [a1]) (zL (Xg [(3264,147205)] (by kernel_rfl)) ⟨Qt hx1 (Q4 h8 (rfl)) hI1.1,by first|omega|(simp;omega) | simp⟩)
  refine Qg <| qn Qb [0,1,4,5,6,7,9] [] (pe 1 (Jl (Qo k1 (by omega))) p0) ?_
  exact xw s1 ⟨Qt hx1 (Qi h8 (rfl)) hI1.1,by first|omega|(simp;omega) | simp⟩
 ·have hA1_0:=hI1.2;exact Qc <| su Qb [(35,.b false)] [] [] [] (pl 2 a_ (pe 3 (zC ((k1:Int)<(a_.length:Int))) p0)) <| ckF <| Q3 <| zG _ (zL (Xg [(147205,147355)] (by kernel_rfl)) (Xn hk1 (rfl) hI1.1))
 exact sn Qb [4,5] [] p0 <| Qe <| pz [] (show Zz a_ b=_ from Wk hD0 (Wk hD1 (rfl))) (λz=> .tup [(false, [.o 0 z.1]),(false, [.o 1 z.2])])
def Ov (a_:List Qm) (_:Nat) (a0:Qm) (s0:List I5):Rd (List I5) (List I5) (List I5):=(bif (decide (((((Zz (Xp a_ a0.1) a0.2)).1).length:Int)>(0:Int))|| decide (((((Zz (Xp a_ a0.1) a0.2)).2).length:Int)>(0:Int))) then (.next (s0++ [(a0.1,((Zz (Xp a_ a0.1) a0.2)).1,((Zz (Xp a_ a0.1) a0.2)).2)])) else (.next s0))
def Ow (_:Nat) (s0:List I5):(List I5):=s0
def It (a_:List Qm) (b:List Qm):(List I5):=(Out.on (Xz (Ov a_) Ow b 0 []) (λy0=>y0))
theorem KU (a_:List Qm) (b:List Qm):ACalls Tryz.prog 125 [.h a_,.h b] (.o 0 (It a_ b)):=by
 refine en Qb Tryz.func125 λw0 F0 hG=> ?_
 refine sn Qb [0,1,4] [] p0 <| tn Qb [0,1,4,5] [] p0 <| Qc <| tu Qb [(4,.e 0),(5,.one (.slc (.own true 576) 3 [])),(6,.i 0)] [] [] [] p0 <| wT 1 0 .sh b (λhw1 hl2=> ?_)
 refine KD (Ov a_) Ow b [] (λk0 s0=> [(5,.o 147203 s0),(6,.i (k0:Int))]) [5,6] (λy0=> [(5,.o 147353 y0)]) [0,1,5,6] (λk0 s0=>zD s0<=k0) (Xg [(576,147203)] (by kernel_rfl)) (by simp) (λk0 s0 hk0 U=> ?_) (λk0 s0 hk0 U=> ?_) (λy0 hD0=> ?_)
 ·have hA0_0:=U.2;obtain ⟨a0,hx0⟩:=Xm (l:=b) (i:=k0) hk0;refine Qc <| sn Qb [0,1,4,5,6,13] [] (pl 2 b (pe 3 (zB ((k0:Int)<(b.length:Int))) p0)) <| ckT <| Qg <| Qc <| Qv <| tN Qb Zg [0,1,4,5,6,7,8] [] (pn 3 hx0 (pc 6 (D0 a_ a0.1) (pn 9 hx0 (pc 12 (FY (Xp a_ a0.1) a0.2) p0)))) <| Qc <| mz [(7,.o 1856 (((Zz (Xp a_ a0.1) a0.2)).1)),(8,.o 1857 (((Zz (Xp a_ a0.1) a0.2)).2))] [] [] [] <| jn [(39,.b (decide (((((Zz (Xp a_ a0.1) a0.2)).1).length:Int)>(0:Int))|| decide (((((Zz (Xp a_ a0.1) a0.2)).2).length:Int)>(0:Int))))] [] [] [] (decide (((((Zz (Xp a_ a0.1) a0.2)).1).length:Int)>(0:Int))) (λh3=> ?_) (λh3=> ?_) ?_
  ·refine ru Qb [(39,.b true)] [] [] [] (pl 1 (((Zz (Xp a_ a0.1) a0.2)).1) (pt 2 h3 p0)) ?_;exact zA (by rw[h3]<;>kernel_rfl)
  ·refine rn Qb [0,1,4,5,6,7,8,39] [] (pl 1 (((Zz (Xp a_ a0.1) a0.2)).1) (pf 2 h3 (pl 5 (((Zz (Xp a_ a0.1) a0.2)).2) p0))) ?_;exact zA (by rw[h3]<;>kernel_rfl)
  refine ck (decide (((((Zz (Xp a_ a0.1) a0.2)).1).length:Int)>(0:Int))|| decide (((((Zz (Xp a_ a0.1) a0.2)).2).length:Int)>(0:Int))) (λh4=> ?_) (λh4=> ?_)
  ·refine wT 5 0 (.own true 147203) s0 (λhw5 hl6=> ?_);refine ru Qb [(5,.one (.slc (.own true 3200) 3 ((eL s0)++ [[.s a0.1,.h (((Zz (Xp a_ a0.1) a0.2)).1),.h (((Zz (Xp a_ a0.1) a0.2)).2)]])))] [5,7,8,39] [] [] (pn 3 hx0 (pa s0 [(a0.1,((Zz (Xp a_ a0.1) a0.2)).1,((Zz (Xp a_ a0.1) a0.2)).2)] p0)) ?_;refine eqn [(5,.o 3200 (s0++ [(a0.1,((Zz (Xp a_ a0.1) a0.2)).1,((Zz (Xp a_ a0.1) a0.2)).2)]))] [5] [] [] (by rw[show ((eL s0)++ [[.s a0.1,.h (((Zz (Xp a_ a0.1) a0.2)).1),.h (((Zz (Xp a_ a0.1) a0.2)).2)]])=(eL (s0++ [(a0.1,((Zz (Xp a_ a0.1) a0.2)).1,((Zz (Xp a_ a0.1) a0.2)).2)])) from Ju (rfl) (rfl)];first | done | kernel_rfl) ?_;refine rn Qb [0,1,4,5,6] [] (pe 1 (Jl (Qo k0 (by omega))) p0) ?_;exact zG (s0++ [(a0.1,((Zz (Xp a_ a0.1) a0.2)).1,((Zz (Xp a_ a0.1) a0.2)).2)]) (zL (Xg [(3200,147203)] (by kernel_rfl)) ⟨Qt hx0 (Q4 h4 (rfl)) U.1,by first|omega|(simp;omega) | simp⟩)
  have h4l:(decide (((((Zz (Xp a_ a0.1) a0.2)).1).length:Int)>(0:Int)))=false:=Re h4;have h4ld:=of_decide_eq_false h4l;have h4r:(decide (((((Zz (Xp a_ a0.1) a0.2)).2).length:Int)>(0:Int)))=false:=Pz h4;have h4rd:=of_decide_eq_false h4r;refine Qg <| rn Qb [0,1,4,5,6] [] (pe 1 (Jl (Qo k0 (by omega))) p0) ?_
  exact xw s0 ⟨Qt hx0 (Qi h4 (rfl)) U.1,by first|omega|(simp;omega) | simp⟩
 ·have hA0_0:=U.2;exact Qc <| sn Qb [0,1,4,5,6,13] [] (pl 2 b (pe 3 (zC ((k0:Int)<(b.length:Int))) p0)) <| ckF <| Q3 <| zG _ (zL (Xg [(147203,147353)] (by kernel_rfl)) (Xn hk0 (rfl) U.1))
 exact sn Qb [4] [] p0 <| Qe <| po0 [] (Wk hD0 (rfl))
def A0 (b:List Qm) (k0:Nat) (a0:Qm) (_:Unit):Rd (Bool) (Unit) (Unit):=(bif ((!(a0.1.toList==((nth b k0).1).toList))|| (!(Vb a0.2 ((nth b k0).2)))) then (.ret false) else (.next ()))
def Cu (_:Nat) (_:Unit):Unit:=()
def Bg (a_:List Qm) (b:List Qm):Bool:=(bif ((a_.length:Int) !=(b.length:Int)) then false else (Out.on (Xz (A0 b) Cu a_ 0 ()) (λ_=>true)))
theorem ZT (a_:List Qm) (b:List Qm):ACalls Tryz.prog 65 [.h a_,.h b] (.b (Bg a_ b)):=by
 refine en Qb Tryz.func65 λw0 F0 hG=> ?_
 refine sn Qb [0,1,4] [] p0 <| Qc <| tn Qb [0,1,4,10] [] (pl 1 a_ (pl 3 b p0)) <| ck ((a_.length:Int) !=(b.length:Int)) (λh1=> ?_) (λh1=> ?_)
 ·exact tu Qb [(4,.b false)] [] [] [] p0 <| Qe <| pb [] (Q4 h1 (rfl))
 have h1d:=Vi h1;refine Qg <| Qc <| tu Qb [(4,.b false),(5,.i 0)] [] [] [] p0 <| wT 0 0 .sh a_ (λhw2 hl3=> ?_)
 refine P0 (A0 b) Cu a_ () (λk0 _=> [(5,.i (k0:Int))]) [5] (λ_=> []) [0,1,5] wf0 (λk0 s0 hk0 U=> ?_) (λk0 s0 hk0 U=> ?_) (λy0 hD0=> ?_)
 ·obtain ⟨a0,hx0⟩:=Xm (l:=a_) (i:=k0) hk0;refine Qc <| sn Qb [0,1,4,5,14] [] (pl 2 a_ (pe 3 (zB ((k0:Int)<(a_.length:Int))) p0)) <| ckT <| Qg <| Qc <| Qv <| Qc <| mz [(14,.b true)] [] [] [] <| jn [(41,.b ((!(a0.1.toList==((nth b k0).1).toList))|| (!(Vb a0.2 ((nth b k0).2)))))] [14] [] [] (!(a0.1.toList==((nth b k0).1).toList)) (λh4=> ?_) (λh4=> ?_) ?_
  ·refine wT 1 0 .sh b (λhw6 hl7=> ?_);have hx5:=ng b k0;refine rN Qb Zg [0,1,4,5,41] [] (pn 2 hx0 (pn 7 hx5 (pt 10 h4 p0))) ?_;exact zA (by rw[h4]<;>kernel_rfl)
  ·refine wT 1 0 .sh b (λhw9 hl10=> ?_);have hx8:=ng b k0;refine rN Qb Zg [0,1,4,5,41] [] (pn 2 hx0 (pn 7 hx8 (pf 10 h4 (pn 14 hx0 (pn 19 hx8 (pc 22 (M2 a0.2 ((nth b k0).2)) p0)))))) ?_;exact zA (by rw[h4]<;>kernel_rfl)
  refine ck ((!(a0.1.toList==((nth b k0).1).toList))|| (!(Vb a0.2 ((nth b k0).2)))) (λh11=> ?_) (λh11=> ?_)
  ·refine su Qb [] [41] [] [] p0 <| Qe ?_
   have hr12:(Xz (A0 b) Cu a_ 0 ())= .ret false:=Jv hx0 (Q4 h11 (rfl)) U;exact pb [] (Qi h1 (Pd hr12))
  refine Qg <| rn Qb [0,1,4,5] [] (pe 1 (Jl (Qo k0 (by omega))) p0) ?_
  exact xw _ (Qt hx0 (Qi h11 (rfl)) U)
 ·exact Qc <| sn Qb [0,1,4,5,14] [] (pl 2 a_ (pe 3 (zC ((k0:Int)<(a_.length:Int))) p0)) <| ckF <| Q3 <| xw _ (Xn hk0 (rfl) U)
 exact sn Qb [4] [] p0 <| Qe <| pb [] (Qi h1 (Wk hD0 (rfl)))
def Xq (l:X4):Bool:=(((Js l.1 l.2.1)).2&&(Bg (((Js l.1 l.2.1)).1) l.2.2))
theorem B1 {c:X4} (h:Xq c=true):zD c.2.1<=5/\Xc c.1=true:=by
 unfold Xq at h;rw[Rn] at h;cases he:(Yu c.1 c.2.1).2 with
 | false=>rw[he] at h;simp at h
 | true=>obtain ⟨h1,h2,_⟩:=Ro he;exact ⟨h1,(Bo _).trans h2⟩
theorem Wb (l:X4):ACalls Tryz.prog 22 [.a [.h l.1.1,.h l.1.2.1,.i l.1.2.2,.h l.2.1,.h l.2.2]] (.b (Xq l)):=by
 refine en Qb Tryz.func22 λw0 F0 hG=> ?_
 refine sn Qb [1,2] [1] p0 <| tn Qb [1,2,3,4] [1] (pc 4 (O6 l.1 l.2.1) p0) <| Qc <| mz [(1,.p 1 0),(2,.b false),(3,.o 640 (((Js l.1 l.2.1)).1)),(4,.b (((Js l.1 l.2.1)).2))] [0] [(1, [.h l.1.1,.h l.1.2.1,.i l.1.2.2,.h l.2.1,.h l.2.2])] [] <| jn [(2,.b (((Js l.1 l.2.1)).2&&(Bg (((Js l.1 l.2.1)).1) l.2.2)))] [1,2,3,4] [] [1] (((Js l.1 l.2.1)).2) (λh1=> ?_) (λh1=> ?_) ?_
 ·refine rn Qb [2] [] (pt 0 h1 (pc 5 (ZT (((Js l.1 l.2.1)).1) l.2.2) p0)) ?_;exact zA (by rw[h1]<;>kernel_rfl)
 ·refine rn Qb [2] [] (pf 0 h1 p0) ?_;exact zA (by rw[h1]<;>kernel_rfl)
 exact Qe <| pb [] (show Xq l=(((Js l.1 l.2.1)).2&&(Bg (((Js l.1 l.2.1)).1) l.2.2)) from rfl)
def Lg (_:Nat) (a0:Qm) (s0:List Qm):Rd (List Qm) (List Qm) (List Qm):=(.next (s0++ [a0]))
def Lh (_:Nat) (s0:List Qm):(List Qm):=s0
def Fk (a_:List Qm):(List Qm):=(Out.on (Xz Lg Lh a_ 0 []) (λy0=>y0))
theorem WO (a_:List Qm):ACalls Tryz.prog 63 [.h a_] (.o 0 (Fk a_)):=by
 refine en Qb Tryz.func63 λw0 F0 hG=> ?_
 refine sn Qb [0,2] [] p0 <| tn Qb [0,2,3] [] p0 <| Qc <| tu Qb [(2,.e 0),(3,.one (.slc (.own true 320) 2 [])),(4,.i 0)] [] [] [] p0 <| wT 0 0 .sh a_ (λhw1 hl2=> ?_)
 refine KD Lg Lh a_ [] (λk0 s0=> [(3,.o 147202 s0),(4,.i (k0:Int))]) [3,4] (λy0=> [(3,.o 147352 y0)]) [0,3,4] (λk0 s0=>zD s0<=k0) (Xg [(320,147202)] (by kernel_rfl)) (by simp) (λk0 s0 hk0 U=> ?_) (λk0 s0 hk0 U=> ?_) (λy0 hD0=> ?_)
 ·have hA0_0:=U.2;obtain ⟨a0,hx0⟩:=Xm (l:=a_) (i:=k0) hk0;refine Qc <| sn Qb [0,2,3,4,9] [] (pl 2 a_ (pe 3 (zB ((k0:Int)<(a_.length:Int))) p0)) <| ckT <| Qg <| Qc <| Qv ?_
  have hl3:zD a0.2<=1073741824:=Gz (EX (EW hx0 (hw1)));refine wT 3 0 (.own true 147202) s0 (λhw4 hl5=> ?_);refine qU Qb Zg [(3,.one (.slc (.own true 1728) 2 ((eL s0)++ [[.s a0.1,.slc 1 ([]++(eL a0.2))]])))] [3] [] [] (pn 3 hx0 (pn 9 hx0 (po 12 (.flat) (px (Ey (n:=(([]:List (List PV)).length+((eL a0.2):List (List PV)).length)) (G0 (rfl) (Zu a0.2) (by first|omega|(simp only[zK,zT];omega) | (simp;omega) | simp))) (px (Cp (B8 a0.2)) (px (Ey (n:=(((eL s0):List (List PV)).length+([[.s a0.1,.slc 1 ([]++(eL a0.2))]]:List (List PV)).length)) (G0 (Zu s0) (rfl) (by first|omega|(simp only[zK,zT];omega) | (simp;omega) | simp))) p0)))))) ?_;refine eqn [(3,.o 1728 (s0++ [a0]))] [3] [] [] (by rw[show ((eL s0)++ [[.s a0.1,.slc 1 ([]++(eL a0.2))]])=(eL (s0++ [a0])) from Ju (rfl) (rfl)];first | done | kernel_rfl) ?_;refine rn Qb [0,2,3,4] [] (pe 1 (Jl (Qo k0 (by omega))) p0) ?_;exact zG (s0++ [a0]) (zL (Xg [(1728,147202)] (by kernel_rfl)) ⟨Qt hx0 (rfl) U.1,by first|omega|(simp;omega) | simp⟩)
 ·have hA0_0:=U.2;exact Qc <| sn Qb [0,2,3,4,9] [] (pl 2 a_ (pe 3 (zC ((k0:Int)<(a_.length:Int))) p0)) <| ckF <| Q3 <| zG _ (zL (Xg [(147202,147352)] (by kernel_rfl)) (Xn hk0 (rfl) U.1))
 exact sn Qb [2] [] p0 <| Qe <| po0 [] (Wk hD0 (rfl))
def Qd (l:X4):X4:=((Qh l.1),(V1 l.2.1),(Fk l.2.2))
theorem W0 (l:X4):ACalls Tryz.prog 21 [.a [.h l.1.1,.h l.1.2.1,.i l.1.2.2,.h l.2.1,.h l.2.2]] (.a [.o 0 ((Qd l).1.1),.o 1 ((Qd l).1.2.1),.i ((Qd l).1.2.2),.o 2 ((Qd l).2.1),.o 3 ((Qd l).2.2)]):=by
 refine en Qb Tryz.func21 λw0 F0 hG=> ?_
 exact sn Qb [1,2] [1,2] p0 <| tN Qb Zg [2] [2] (pc 2 (Io l.1) (pc 5 (Aa l.2.1) (pc 8 (WO l.2.2) p0))) <| Qe <| pz [] (show Qd l=((Qh l.1),(V1 l.2.1),(Fk l.2.2)) from rfl) (λz=> .a [.o 0 z.1.1,.o 1 z.1.2.1,.i z.1.2.2,.o 2 z.2.1,.o 3 z.2.2])
def Vf (l:X4) (s_:Qz) (d:List X0) (names:Z):X4×(List I5):=((s_,d,((Vs s_ d l.2.2 names)).1),(It l.2.2 (((Vs s_ d l.2.2 names)).1)))
theorem Iu (l:X4) (s_:Qz) (d:List X0) (names:Z):ACalls Tryz.prog 67 [.a [.h l.1.1,.h l.1.2.1,.i l.1.2.2,.h l.2.1,.h l.2.2],.a [.h s_.1,.h s_.2.1,.i s_.2.2],.h d,.h names] (.tup [(true, [.h ((((Vf l s_ d names)).1).1.1),.h ((((Vf l s_ d names)).1).1.2.1),.i ((((Vf l s_ d names)).1).1.2.2),.h ((((Vf l s_ d names)).1).2.1),.o 0 ((((Vf l s_ d names)).1).2.2)]),(false, [.o 1 (((Vf l s_ d names)).2)])]):=by
 refine en Qb Tryz.func67 λw0 F0 hG=> ?_
 exact sn Qb [2,3,4,5,8,9] [4,5,8] p0 <| tn Qb [2,4,5,8,9,10] [4,5,8] (pc 5 (WN s_ d l.2.2 names) p0) <| tU Qb Zg [(8,.p 8 0),(9,.o 1792 (It l.2.2 (((Vs s_ d l.2.2 names)).1)))] [0,1,2,3] [(8, [.h s_.1,.h s_.2.1,.i s_.2.2,.h d,.o 1152 (((Vs s_ d l.2.2 names)).1)])] [] (pc 7 (KU l.2.2 (((Vs s_ d l.2.2 names)).1)) p0) <| Qe <| pz [] (show Vf l s_ d names=((s_,d,((Vs s_ d l.2.2 names)).1),(It l.2.2 (((Vs s_ d l.2.2 names)).1))) from rfl) (λz=> .tup [(true, [.h z.1.1.1,.h z.1.1.2.1,.i z.1.1.2.2,.h z.1.2.1,.o 0 z.1.2.2]),(false, [.o 1 z.2])])
def Ja (l:X4) (f:Xe):X4×Int×(List I5)×Bool:=(bif ((!(Xq (Qd l)))|| (!(((Xx ((Qd l).1.1,(Qd l).1.2.1,(Qd l).1.2.2) f)).2.2))) then ((Qd l),0, [],false) else ((((Vf (Qd l) (((Xx ((Qd l).1.1,(Qd l).1.2.1,(Qd l).1.2.2) f)).1) ((Qd l).2.1) (Ux ((Qd l).2.1)))).1),((Xx ((Qd l).1.1,(Qd l).1.2.1,(Qd l).1.2.2) f)).2.1,((Vf (Qd l) (((Xx ((Qd l).1.1,(Qd l).1.2.1,(Qd l).1.2.2) f)).1) ((Qd l).2.1) (Ux ((Qd l).2.1)))).2,true))
theorem FZ (l:X4) (f:Xe):ACalls Tryz.prog 24 [.a [.h l.1.1,.h l.1.2.1,.i l.1.2.2,.h l.2.1,.h l.2.2],.a [.i f.1,.i f.2.1,.b f.2.2.1,.i f.2.2.2.1,.h f.2.2.2.2]] (.tup [(true, [.h ((((Ja l f)).1).1.1),.h ((((Ja l f)).1).1.2.1),.i ((((Ja l f)).1).1.2.2),.h ((((Ja l f)).1).2.1),.o 0 ((((Ja l f)).1).2.2)]),(false, [.i (((Ja l f)).2.1)]),(false, [.o 1 (((Ja l f)).2.2.1)]),(false, [.b (((Ja l f)).2.2.2)])]):=by
 refine en Qb Tryz.func24 λw0 F0 hG=> ?_
 refine sn Qb [2,3,4,5,6,7] [2,3,4] p0 <| tn Qb [2,3,4,5,6,7] [2,3,4] (pc 1 (W0 l) p0) <| tu Qb [(2,.p 2 0),(4,.p 4 0),(5,.i 0),(6,.e 0),(7,.b false),(8,.p 8 0),(9,.i (((Xx ((Qd l).1.1,(Qd l).1.2.1,(Qd l).1.2.2) f)).2.1)),(10,.b (((Xx ((Qd l).1.1,(Qd l).1.2.1,(Qd l).1.2.2) f)).2.2))] [0,1] [(2, [.o 896 ((Qd l).1.1),.o 897 ((Qd l).1.2.1),.i ((Qd l).1.2.2),.o 898 ((Qd l).2.1),.o 899 ((Qd l).2.2)]),(4, [.e 2,.e 5,.i 0,.e 2,.e 2]),(8, [.o 1216 ((((Xx ((Qd l).1.1,(Qd l).1.2.1,(Qd l).1.2.2) f)).1).1),.o 1217 ((((Xx ((Qd l).1.1,(Qd l).1.2.1,(Qd l).1.2.2) f)).1).2.1),.i ((((Xx ((Qd l).1.1,(Qd l).1.2.1,(Qd l).1.2.2) f)).1).2.2)])] [] (pc 3 (Mp ((Qd l).1.1,(Qd l).1.2.1,(Qd l).1.2.2) f) p0) <| Qc <| Qc <| jn [(29,.b ((!(Xq (Qd l)))|| (!(((Xx ((Qd l).1.1,(Qd l).1.2.1,(Qd l).1.2.2) f)).2.2))))] [10] [] [] (!(Xq (Qd l))) (λh1=> ?_) (λh1=> ?_) ?_
 ·have h1n:(Xq (Qd l))=false:=Vj h1;refine ru Qb [(29,.b true)] [10] [] [] (pc 1 (cb h1n (Wb (Qd l))) (pe 2 (show .b (!false)= .b true from rfl) p0)) ?_;exact zA (by rw[h1]<;>kernel_rfl)
 ·have h1n:(Xq (Qd l))=true:=Za h1;have h1nc:=B1 h1n;refine rn Qb [2,4,5,6,7,8,9,29] [2,4,8] (pc 1 (cb h1n (Wb (Qd l))) (pe 2 (show .b (!true)= .b false from rfl) p0)) ?_;exact zA (by rw[h1]<;>kernel_rfl)
 refine ck ((!(Xq (Qd l)))|| (!(((Xx ((Qd l).1.1,(Qd l).1.2.1,(Qd l).1.2.2) f)).2.2))) (λh2=> ?_) (λh2=> ?_)
 ·exact sn Qb [2,4,5,6,7,8,9] [2,4,8] p0 <| Qe <| pz [896,897,898] (show Ja l f=_ from Q4 h2 (rfl)) (λz=> .tup [(true, [.h z.1.1.1,.h z.1.1.2.1,.i z.1.1.2.2,.h z.1.2.1,.o 0 z.1.2.2]),(false, [.i z.2.1]),(false, [.o 1 z.2.2.1]),(false, [.b z.2.2.2])])
 have h2l:((!(Xq (Qd l))))=false:=Re h2;have h2ln:(Xq (Qd l))=true:=Za h2l;have h2lnc:=B1 h2ln;exact Qg <| sN Qb Zg [4,5,6,7,9,11,12] [4,11] (pc 6 (O8 ((Qd l).2.1)) (pc 7 (Iu (Qd l) (((Xx ((Qd l).1.1,(Qd l).1.2.1,(Qd l).1.2.2) f)).1) ((Qd l).2.1) (Ux ((Qd l).2.1))) p0)) <| tn Qb [4,5,6,7] [4] p0 <| Qe <| pz [] (show Ja l f=_ from Qi h2 (rfl)) (λz=> .tup [(true, [.h z.1.1.1,.h z.1.1.2.1,.i z.1.1.2.2,.h z.1.2.1,.o 0 z.1.2.2]),(false, [.i z.2.1]),(false, [.o 1 z.2.2.1]),(false, [.b z.2.2.2])])
def Zj (l:X4) (f:Xe):X4×(List I5)×Bool:=(bif ((!(Xq (Qd l)))|| (!(((Zn ((Qd l).1.1,(Qd l).1.2.1,(Qd l).1.2.2) f)).2))) then ((Qd l), [],false) else ((((Vf (Qd l) (((Zn ((Qd l).1.1,(Qd l).1.2.1,(Qd l).1.2.2) f)).1) ((Qd l).2.1) (Hw ((Qd l).2.1) (((Xa ((Qd l).1.1,(Qd l).1.2.1,(Qd l).1.2.2) f.1)).1) f))).1),((Vf (Qd l) (((Zn ((Qd l).1.1,(Qd l).1.2.1,(Qd l).1.2.2) f)).1) ((Qd l).2.1) (Hw ((Qd l).2.1) (((Xa ((Qd l).1.1,(Qd l).1.2.1,(Qd l).1.2.2) f.1)).1) f))).2,true))
theorem WP (l:X4) (f:Xe):ACalls Tryz.prog 25 [.a [.h l.1.1,.h l.1.2.1,.i l.1.2.2,.h l.2.1,.h l.2.2],.a [.i f.1,.i f.2.1,.b f.2.2.1,.i f.2.2.2.1,.h f.2.2.2.2]] (.tup [(true, [.h ((((Zj l f)).1).1.1),.h ((((Zj l f)).1).1.2.1),.i ((((Zj l f)).1).1.2.2),.h ((((Zj l f)).1).2.1),.o 0 ((((Zj l f)).1).2.2)]),(false, [.o 1 (((Zj l f)).2.1)]),(false, [.b (((Zj l f)).2.2)])]):=by
 refine en Qb Tryz.func25 λw0 F0 hG=> ?_
 refine sn Qb [2,3,4,5,6] [2,3,4] p0 <| tn Qb [2,3,4,5,6] [2,3,4] (pc 1 (W0 l) p0) <| tu Qb [(2,.p 2 0),(3,.p 3 0),(4,.p 4 0),(5,.e 0),(6,.b false),(7,.p 7 0)] [0,1] [(2, [.o 896 ((Qd l).1.1),.o 897 ((Qd l).1.2.1),.i ((Qd l).1.2.2),.o 898 ((Qd l).2.1),.o 899 ((Qd l).2.2)]),(3, [.i f.1,.i f.2.1,.b f.2.2.1,.i f.2.2.2.1,.h f.2.2.2.2]),(4, [.e 2,.e 5,.i 0,.e 2,.e 2]),(7, [.i ((((Xa ((Qd l).1.1,(Qd l).1.2.1,(Qd l).1.2.2) f.1)).1).1),.i ((((Xa ((Qd l).1.1,(Qd l).1.2.1,(Qd l).1.2.2) f.1)).1).2.1),.b ((((Xa ((Qd l).1.1,(Qd l).1.2.1,(Qd l).1.2.2) f.1)).1).2.2.1),.i ((((Xa ((Qd l).1.1,(Qd l).1.2.1,(Qd l).1.2.2) f.1)).1).2.2.2.1),.o 1280 ((((Xa ((Qd l).1.1,(Qd l).1.2.1,(Qd l).1.2.2) f.1)).1).2.2.2.2)])] [] (pc 4 (Fj ((Qd l).1.1,(Qd l).1.2.1,(Qd l).1.2.2) f.1) p0) <| sn Qb [2,3,4,5,6,7,9,10] [2,3,4,7,9] (pc 3 (KT ((Qd l).1.1,(Qd l).1.2.1,(Qd l).1.2.2) f) p0) <| Qc <| Qc <| mz [(9,.p 9 0),(10,.b (((Zn ((Qd l).1.1,(Qd l).1.2.1,(Qd l).1.2.2) f)).2))] [] [(9, [.o 1728 ((((Zn ((Qd l).1.1,(Qd l).1.2.1,(Qd l).1.2.2) f)).1).1),.o 1729 ((((Zn ((Qd l).1.1,(Qd l).1.2.1,(Qd l).1.2.2) f)).1).2.1),.i ((((Zn ((Qd l).1.1,(Qd l).1.2.1,(Qd l).1.2.2) f)).1).2.2)])] [] <| jn [(36,.b ((!(Xq (Qd l)))|| (!(((Zn ((Qd l).1.1,(Qd l).1.2.1,(Qd l).1.2.2) f)).2))))] [10] [] [] (!(Xq (Qd l))) (λh1=> ?_) (λh1=> ?_) ?_
 ·have h1n:(Xq (Qd l))=false:=Vj h1;refine ru Qb [(36,.b true)] [10] [] [] (pc 1 (cb h1n (Wb (Qd l))) (pe 2 (show .b (!false)= .b true from rfl) p0)) ?_;exact zA (by rw[h1]<;>kernel_rfl)
 ·have h1n:(Xq (Qd l))=true:=Za h1;have h1nc:=B1 h1n;refine rn Qb [2,3,4,5,6,7,9,36] [2,3,4,7,9] (pc 1 (cb h1n (Wb (Qd l))) (pe 2 (show .b (!true)= .b false from rfl) p0)) ?_;exact zA (by rw[h1]<;>kernel_rfl)
 refine ck ((!(Xq (Qd l)))|| (!(((Zn ((Qd l).1.1,(Qd l).1.2.1,(Qd l).1.2.2) f)).2))) (λh2=> ?_) (λh2=> ?_)
 ·exact sn Qb [2,3,4,5,6,7,9] [2,3,4,7,9] p0 <| Qe <| pz [896,897,898] (show Zj l f=_ from Q4 h2 (rfl)) (λz=> .tup [(true, [.h z.1.1.1,.h z.1.1.2.1,.i z.1.1.2.2,.h z.1.2.1,.o 0 z.1.2.2]),(false, [.o 1 z.2.1]),(false, [.b z.2.2])])
 have h2l:((!(Xq (Qd l))))=false:=Re h2;have h2ln:(Xq (Qd l))=true:=Za h2l;have h2lnc:=B1 h2ln;have h2r:((!(((Zn ((Qd l).1.1,(Qd l).1.2.1,(Qd l).1.2.2) f)).2)))=false:=Pz h2;have h2rn:(((Zn ((Qd l).1.1,(Qd l).1.2.1,(Qd l).1.2.2) f)).2)=true:=Za h2r;have h2rnr:=PQ h2rn;have h2rnf:=PR h2rnr.1 f.1;exact Qg <| sN Qb Zg [4,5,6,11,12] [4,11] (pc 8 (ZR ((Qd l).2.1) (((Xa ((Qd l).1.1,(Qd l).1.2.1,(Qd l).1.2.2) f.1)).1) f (by omega) (by omega)) (pc 9 (Iu (Qd l) (((Zn ((Qd l).1.1,(Qd l).1.2.1,(Qd l).1.2.2) f)).1) ((Qd l).2.1) (Hw ((Qd l).2.1) (((Xa ((Qd l).1.1,(Qd l).1.2.1,(Qd l).1.2.2) f.1)).1) f)) p0)) <| tn Qb [4,5,6] [4] p0 <| Qe <| pz [] (show Zj l f=_ from Qi h2 (rfl)) (λz=> .tup [(true, [.h z.1.1.1,.h z.1.1.2.1,.i z.1.1.2.2,.h z.1.2.1,.o 0 z.1.2.2]),(false, [.o 1 z.2.1]),(false, [.b z.2.2])])
def Zk (l:X4) (id:Int):X4×(List I5)×Bool:=(bif ((!(Xq (Qd l)))|| (!(((Yz ((Qd l).1.1,(Qd l).1.2.1,(Qd l).1.2.2) id)).2))) then ((Qd l), [],false) else ((((Vf (Qd l) (((Yz ((Qd l).1.1,(Qd l).1.2.1,(Qd l).1.2.2) id)).1) ((Qd l).2.1) (Ux ((Qd l).2.1)))).1),((Vf (Qd l) (((Yz ((Qd l).1.1,(Qd l).1.2.1,(Qd l).1.2.2) id)).1) ((Qd l).2.1) (Ux ((Qd l).2.1)))).2,true))
theorem WQ (l:X4) (id:Int):ACalls Tryz.prog 27 [.a [.h l.1.1,.h l.1.2.1,.i l.1.2.2,.h l.2.1,.h l.2.2],.i id] (.tup [(true, [.h ((((Zk l id)).1).1.1),.h ((((Zk l id)).1).1.2.1),.i ((((Zk l id)).1).1.2.2),.h ((((Zk l id)).1).2.1),.o 0 ((((Zk l id)).1).2.2)]),(false, [.o 1 (((Zk l id)).2.1)]),(false, [.b (((Zk l id)).2.2)])]):=by
 refine en Qb Tryz.func27 λw0 F0 hG=> ?_
 refine sn Qb [1,2,4,5,6] [2,4] p0 <| tn Qb [1,2,4,5,6] [2,4] (pc 1 (W0 l) p0) <| tu Qb [(2,.p 2 0),(4,.p 4 0),(5,.e 0),(6,.b false),(7,.p 7 0),(8,.b (((Yz ((Qd l).1.1,(Qd l).1.2.1,(Qd l).1.2.2) id)).2))] [0,1] [(2, [.h ((Qd l).1.1),.h ((Qd l).1.2.1),.i ((Qd l).1.2.2),.o 770 ((Qd l).2.1),.o 771 ((Qd l).2.2)]),(4, [.e 2,.e 5,.i 0,.e 2,.e 2]),(7, [.o 1088 ((((Yz ((Qd l).1.1,(Qd l).1.2.1,(Qd l).1.2.2) id)).1).1),.q 1089 ((((Yz ((Qd l).1.1,(Qd l).1.2.1,(Qd l).1.2.2) id)).1).2.1),.i ((((Yz ((Qd l).1.1,(Qd l).1.2.1,(Qd l).1.2.2) id)).1).2.2)])] [] (pc 3 (R4 ((Qd l).1.1,(Qd l).1.2.1,(Qd l).1.2.2) id) p0) <| Qc <| Qc <| jn [(26,.b ((!(Xq (Qd l)))|| (!(((Yz ((Qd l).1.1,(Qd l).1.2.1,(Qd l).1.2.2) id)).2))))] [8] [] [] (!(Xq (Qd l))) (λh1=> ?_) (λh1=> ?_) ?_
 ·have h1n:(Xq (Qd l))=false:=Vj h1;refine ru Qb [(26,.b true)] [8] [] [] (pc 1 (cb h1n (Wb (Qd l))) (pe 2 (show .b (!false)= .b true from rfl) p0)) ?_;exact zA (by rw[h1]<;>kernel_rfl)
 ·have h1n:(Xq (Qd l))=true:=Za h1;have h1nc:=B1 h1n;refine rn Qb [2,4,5,6,7,26] [2,4,7] (pc 1 (cb h1n (Wb (Qd l))) (pe 2 (show .b (!true)= .b false from rfl) p0)) ?_;exact zA (by rw[h1]<;>kernel_rfl)
 refine ck ((!(Xq (Qd l)))|| (!(((Yz ((Qd l).1.1,(Qd l).1.2.1,(Qd l).1.2.2) id)).2))) (λh2=> ?_) (λh2=> ?_)
 ·exact sn Qb [2,4,5,6,7] [2,4,7] p0 <| Qe <| pz [770] (show Zk l id=_ from Q4 h2 (rfl)) (λz=> .tup [(true, [.h z.1.1.1,.h z.1.1.2.1,.i z.1.1.2.2,.h z.1.2.1,.o 0 z.1.2.2]),(false, [.o 1 z.2.1]),(false, [.b z.2.2])])
 have h2l:((!(Xq (Qd l))))=false:=Re h2;have h2ln:(Xq (Qd l))=true:=Za h2l;have h2lnc:=B1 h2ln;exact Qg <| sN Qb Zg [4,5,6,9,10] [4,9] (pc 6 (O8 ((Qd l).2.1)) (pc 7 (Iu (Qd l) (((Yz ((Qd l).1.1,(Qd l).1.2.1,(Qd l).1.2.2) id)).1) ((Qd l).2.1) (Ux ((Qd l).2.1))) p0)) <| tn Qb [4,5,6] [4] p0 <| Qe <| pz [] (show Zk l id=_ from Qi h2 (rfl)) (λz=> .tup [(true, [.h z.1.1.1,.h z.1.1.2.1,.i z.1.1.2.2,.h z.1.2.1,.o 0 z.1.2.2]),(false, [.o 1 z.2.1]),(false, [.b z.2.2])])
def Ym (d:List X0):Bool:=((Xi d)).2
theorem Qbd {d:List X0} (h:Ym d=true):zD d<=5:=by
 unfold Ym at h;rw[W8] at h;exact (Gm h).2.1
theorem Ox (d:List X0):ACalls Tryz.prog 73 [.h d] (.b (Ym d)):=by
 refine en Qb Tryz.func73 λw0 F0 hG=> ?_
 exact sn Qb [0,2] [] p0 <| tn Qb [2,4] [] (pc 1 (Oh d) p0) <| tu Qb [(2,.b (((Xi d)).2))] [0] [] [] p0 <| Qe <| pb [] (show Ym d=((Xi d)).2 from rfl)
def Zf (l:X4) (x:X0):X4×(List I5)×Bool:=(bif ((!(Xq (Qd l)))|| ((!(((Jb ((Qd l).2.1) x)).2))|| (!(Ym (((Jb ((Qd l).2.1) x)).1))))) then ((Qd l), [],false) else ((((Vf (Qd l) ((Qd l).1.1,(Qd l).1.2.1,(Qd l).1.2.2) (((Jb ((Qd l).2.1) x)).1) (Ze (((Jb ((Qd l).2.1) x)).1) [x.1]))).1),((Vf (Qd l) ((Qd l).1.1,(Qd l).1.2.1,(Qd l).1.2.2) (((Jb ((Qd l).2.1) x)).1) (Ze (((Jb ((Qd l).2.1) x)).1) [x.1]))).2,true))
theorem AZ (l:X4) (x:X0):ACalls Tryz.prog 28 [.a [.h l.1.1,.h l.1.2.1,.i l.1.2.2,.h l.2.1,.h l.2.2],.a [.s x.1,.h x.2]] (.tup [(true, [.h ((((Zf l x)).1).1.1),.h ((((Zf l x)).1).1.2.1),.i ((((Zf l x)).1).1.2.2),.h ((((Zf l x)).1).2.1),.o 0 ((((Zf l x)).1).2.2)]),(false, [.o 1 (((Zf l x)).2.1)]),(false, [.b (((Zf l x)).2.2)])]):=by
 refine en Qb Tryz.func28 λw0 F0 hG=> ?_
 refine sn Qb [2,3,4,5,6] [2,3,4] p0 <| tn Qb [2,3,4,5,6] [2,3,4] (pc 1 (W0 l) p0) <| tu Qb [(2,.p 2 0),(3,.p 3 0),(4,.p 4 0),(5,.e 0),(6,.b false),(7,.o 1088 (((Jb ((Qd l).2.1) x)).1)),(8,.b (((Jb ((Qd l).2.1) x)).2))] [0,1] [(2, [.o 768 ((Qd l).1.1),.o 769 ((Qd l).1.2.1),.i ((Qd l).1.2.2),.o 770 ((Qd l).2.1),.o 771 ((Qd l).2.2)]),(3, [.s x.1,.h x.2]),(4, [.e 2,.e 5,.i 0,.e 2,.e 2])] [] (pc 3 (MB ((Qd l).2.1) x) p0) <| Qc <| Qc <| jn [(31,.b ((!(Xq (Qd l)))|| ((!(((Jb ((Qd l).2.1) x)).2))|| (!(Ym (((Jb ((Qd l).2.1) x)).1))))))] [8] [] [] (!(Xq (Qd l))) (λh1=> ?_) (λh1=> ?_) ?_
 ·have h1n:(Xq (Qd l))=false:=Vj h1;refine ru Qb [(31,.b true)] [8] [] [] (pc 1 (cb h1n (Wb (Qd l))) (pe 2 (show .b (!false)= .b true from rfl) p0)) ?_;exact zA (by rw[h1]<;>kernel_rfl)
 ·have h1n:(Xq (Qd l))=true:=Za h1;have h1nc:=B1 h1n;refine Xu (!(((Jb ((Qd l).2.1) x)).2)) (λh2=> ?_) (λh2=> ?_)
  ·have h2n:(((Jb ((Qd l).2.1) x)).2)=false:=Vj h2;refine ru Qb [(31,.b true)] [8] [] [] (pc 1 (cb h1n (Wb (Qd l))) (pe 2 (show .b (!true)= .b false from rfl) (pf 4 h2n (pe 5 (show .b (!false)= .b true from rfl) p0)))) ?_;exact zA (by rw[h1,h2]<;>kernel_rfl)
  have h2n:(((Jb ((Qd l).2.1) x)).2)=true:=Za h2;refine rn Qb [2,3,4,5,6,7,31] [2,3,4] (pc 1 (cb h1n (Wb (Qd l))) (pe 2 (show .b (!true)= .b false from rfl) (pt 4 h2n (pe 5 (show .b (!true)= .b false from rfl) (pc 9 (Ox (((Jb ((Qd l).2.1) x)).1)) p0))))) ?_;exact zA (by rw[h1,h2]<;>kernel_rfl)
 refine ck ((!(Xq (Qd l)))|| ((!(((Jb ((Qd l).2.1) x)).2))|| (!(Ym (((Jb ((Qd l).2.1) x)).1))))) (λh3=> ?_) (λh3=> ?_)
 ·exact sn Qb [2,3,4,5,6,7] [2,3,4] p0 <| Qe <| pz [768,769,770] (show Zf l x=_ from Q4 h3 (rfl)) (λz=> .tup [(true, [.h z.1.1.1,.h z.1.1.2.1,.i z.1.1.2.2,.h z.1.2.1,.o 0 z.1.2.2]),(false, [.o 1 z.2.1]),(false, [.b z.2.2])])
 have h3l:((!(Xq (Qd l))))=false:=Re h3;have h3ln:(Xq (Qd l))=true:=Za h3l;have h3lnc:=B1 h3ln;have h3r:(((!(((Jb ((Qd l).2.1) x)).2))|| (!(Ym (((Jb ((Qd l).2.1) x)).1)))))=false:=Pz h3;have h3rr:((!(Ym (((Jb ((Qd l).2.1) x)).1))))=false:=Pz h3r;have h3rrn:(Ym (((Jb ((Qd l).2.1) x)).1))=true:=Za h3rr;have h3rrnc:=Qbd h3rrn;exact Qg <| sN Qb Zg [4,5,6,9,10] [4,9] (pc 8 (Ba (((Jb ((Qd l).2.1) x)).1) [x.1] (by first|omega|(simp;omega))) (pc 9 (Iu (Qd l) ((Qd l).1.1,(Qd l).1.2.1,(Qd l).1.2.2) (((Jb ((Qd l).2.1) x)).1) (Ze (((Jb ((Qd l).2.1) x)).1) [x.1])) p0)) <| tn Qb [4,5,6] [4] p0 <| Qe <| pz [] (show Zf l x=_ from Qi h3 (rfl)) (λz=> .tup [(true, [.h z.1.1.1,.h z.1.1.2.1,.i z.1.1.2.2,.h z.1.2.1,.o 0 z.1.2.2]),(false, [.o 1 z.2.1]),(false, [.b z.2.2])])
def Zs (l:X4) (name:ByteArray):X4×(List I5)×Bool:=(bif (!(((Kw l.2.1 name)).2)) then (l, [],false) else ((((Vf l l.1 (((Kw l.2.1 name)).1) (Ze l.2.1 [name]))).1),((Vf l l.1 (((Kw l.2.1 name)).1) (Ze l.2.1 [name]))).2,true))
theorem BA (l:X4) (name:ByteArray):ACalls Tryz.prog 29 [.a [.h l.1.1,.h l.1.2.1,.i l.1.2.2,.h l.2.1,.h l.2.2],.s name] (.tup [(true, [.h ((((Zs l name)).1).1.1),.h ((((Zs l name)).1).1.2.1),.i ((((Zs l name)).1).1.2.2),.h ((((Zs l name)).1).2.1),.h ((((Zs l name)).1).2.2)]),(false, [.o 0 (((Zs l name)).2.1)]),(false, [.b (((Zs l name)).2.2)])]):=by
 refine en Qb Tryz.func29 λw0 F0 hG=> ?_
 refine sn Qb [1,2,4,5,6] [2,4] p0 <| tn Qb [1,2,4,5,6,7,8] [2,4] (pc 3 (AY l.2.1 name) p0) <| Qc <| tu Qb [(2,.p 2 0),(4,.p 4 0),(5,.e 0),(6,.b false),(7,.o 960 (((Kw l.2.1 name)).1)),(19,.b (!(((Kw l.2.1 name)).2)))] [0] [(2, [.h l.1.1,.h l.1.2.1,.i l.1.2.2,.h l.2.1,.h l.2.2]),(4, [.e 2,.e 5,.i 0,.e 2,.e 2])] [] p0 <| ck (!(((Kw l.2.1 name)).2)) (λh1=> ?_) (λh1=> ?_)
 ·exact sn Qb [1,2,4,5,6,7] [2,4] p0 <| Qe <| pz [] (show Zs l name=_ from Q4 h1 (rfl)) (λz=> .tup [(true, [.h z.1.1.1,.h z.1.1.2.1,.i z.1.1.2.2,.h z.1.2.1,.h z.1.2.2]),(false, [.o 0 z.2.1]),(false, [.b z.2.2])])
 have h1n:(((Kw l.2.1 name)).2)=true:=Za h1;have h1nc:=Qhf h1n;exact Qg <| sN Qb Zg [4,5,6,9,10] [4,9] (pc 8 (Ba l.2.1 [name] (by first|omega|(simp;omega))) (pc 9 (Iu l l.1 (((Kw l.2.1 name)).1) (Ze l.2.1 [name])) p0)) <| tn Qb [4,5,6] [4] p0 <| Qe <| pz [2048] (show Zs l name=_ from Qi h1 (rfl)) (λz=> .tup [(true, [.h z.1.1.1,.h z.1.1.2.1,.i z.1.1.2.2,.h z.1.2.1,.h z.1.2.2]),(false, [.o 0 z.2.1]),(false, [.b z.2.2])])
def Bv (f:Xe) (u:Int):Bool:=((Xf u 0 2)&&(f.2.1==u))
theorem QB (f:Xe) (u:Int):ACalls Tryz.prog 26 [.a [.i f.1,.i f.2.1,.b f.2.2.1,.i f.2.2.2.1,.h f.2.2.2.2],.i u] (.b (Bv f u)):=by
 refine en Qb Tryz.func26 λw0 F0 hG=> ?_
 refine sn Qb [1,2,4] [2] p0 <| Qc <| mz [(2,.p 2 0),(4,.b false)] [0] [(2, [.i f.1,.i f.2.1,.b f.2.2.1,.i f.2.2.2.1,.h f.2.2.2.2])] [] <| jn [(4,.b ((Xf u 0 2)&&(f.2.1==u)))] [1,2,4] [] [2] (Xf u 0 2) (λh1=> ?_) (λh1=> ?_) ?_
 ·have h1w:=Dr.1 h1;refine rn Qb [4] [] (pc 1 (cb h1 (Z8 u 0 2)) p0) ?_;exact zA (by rw[h1]<;>kernel_rfl)
 ·refine rn Qb [4] [] (pc 1 (cb h1 (Z8 u 0 2)) p0) ?_;exact zA (by rw[h1]<;>kernel_rfl)
 exact Qe <| pb [] (show Bv f u=((Xf u 0 2)&&(f.2.1==u)) from rfl)
def Qs (l:X4) (u:Int) (o:E3):X4×(List I5)×Bool:=(bif (!((Xq l)&&(Xf u 0 2))) then ((Qd l), [],false) else (bif ((o.1==(1:Int))&&(o.2.1.2.1==u)) then (bif (!(((Ja l o.2.1)).2.2.2)) then ((Qd l), [],false) else ((((Ja l o.2.1)).1),((Ja l o.2.1)).2.2.1,true)) else (bif ((o.1==(2:Int))&&(o.2.1.2.1==u)) then (bif (!(((Zj l o.2.1)).2.2&&(((Xa l.1 o.2.1.1)).2&&(Bv (((Xa l.1 o.2.1.1)).1) u)))) then ((Qd l), [],false) else ((((Zj l o.2.1)).1),((Zj l o.2.1)).2.1,true)) else (bif (o.1==(3:Int)) then (bif (!(((Zk l o.2.2.1)).2.2&&(((Xa l.1 o.2.2.1)).2&&(Bv (((Xa l.1 o.2.2.1)).1) u)))) then ((Qd l), [],false) else ((((Zk l o.2.2.1)).1),((Zk l o.2.2.1)).2.1,true)) else (bif (o.1==(4:Int)) then (bif (!(((Zf l o.2.2.2)).2.2)) then ((Qd l), [],false) else ((((Zf l o.2.2.2)).1),((Zf l o.2.2.2)).2.1,true)) else (bif (o.1==(5:Int)) then (bif (!(((Zs (Qd l) o.2.2.2.1)).2.2)) then ((Qd l), [],false) else ((((Zs (Qd l) o.2.2.2.1)).1),((Zs (Qd l) o.2.2.2.1)).2.1,true)) else ((Qd l), [],false)))))))
theorem Pv (l:X4) (u:Int) (o:E3):ACalls Tryz.prog 9 [.a [.h l.1.1,.h l.1.2.1,.i l.1.2.2,.h l.2.1,.h l.2.2],.i u,.a [.i o.1,.i o.2.1.1,.i o.2.1.2.1,.b o.2.1.2.2.1,.i o.2.1.2.2.2.1,.h o.2.1.2.2.2.2,.i o.2.2.1,.s o.2.2.2.1,.h o.2.2.2.2]] (.tup [(true, [.h ((((Qs l u o)).1).1.1),.h ((((Qs l u o)).1).1.2.1),.i ((((Qs l u o)).1).1.2.2),.h ((((Qs l u o)).1).2.1),.h ((((Qs l u o)).1).2.2)]),(false, [.o 0 (((Qs l u o)).2.1)]),(false, [.b (((Qs l u o)).2.2)])]):=by
 refine en Qb Tryz.func9 λw0 F0 hG=> ?_
 refine sn Qb [1,3,5,6,7,8] [3,5,6] p0 <| tn Qb [1,3,5,6,7,8,9] [3,5,6,9] (pc 1 (W0 l) p0) <| tu Qb [(3,.p 3 0),(5,.p 5 0),(6,.p 6 0),(7,.e 0),(8,.b false),(9,.p 9 0),(10,.p 10 0)] [0,2] [(3, [.h l.1.1,.h l.1.2.1,.i l.1.2.2,.h l.2.1,.h l.2.2]),(5, [.i o.1,.i o.2.1.1,.i o.2.1.2.1,.b o.2.1.2.2.1,.i o.2.1.2.2.2.1,.h o.2.1.2.2.2.2,.i o.2.2.1,.s o.2.2.2.1,.h o.2.2.2.2]),(6, [.e 2,.e 5,.i 0,.e 2,.e 2]),(9, [.o 1152 ((Qd l).1.1),.o 1153 ((Qd l).1.2.1),.i ((Qd l).1.2.2),.o 1154 ((Qd l).2.1),.o 1155 ((Qd l).2.2)]),(10, [.o 1152 ((Qd l).1.1),.o 1153 ((Qd l).1.2.1),.i ((Qd l).1.2.2),.o 1154 ((Qd l).2.1),.o 1155 ((Qd l).2.2)])] [] p0 <| sn Qb [1,3,5,6,7,8,9,10,11] [3,5,6,9,10] p0 <| Qc <| mz [(11,.one (.slc (.own true 1280) 3 []))] [] [] [] <| jn [(12,.b ((Xq l)&&(Xf u 0 2)))] [] [] [] (Xq l) (λh1=> ?_) (λh1=> ?_) ?_
 ·have h1c:=B1 h1;refine ru Qb [(12,.b (Xf u 0 2))] [] [] [] (pc 1 (cb h1 (Wb l)) (pc 4 (Z8 u 0 2) p0)) ?_;exact zA (by rw[h1]<;>kernel_rfl)
 ·refine ru Qb [(12,.b false)] [] [] [] (pc 1 (cb h1 (Wb l)) p0) ?_;exact zA (by rw[h1]<;>kernel_rfl)
 refine Qc <| Qv <| sn Qb [1,3,5,6,7,8,9,10,11,12,27] [3,5,6,9,10] p0 <| ck (!((Xq l)&&(Xf u 0 2))) (λh2=> ?_) (λh2=> ?_)
 ·have h2n:((Xq l)&&(Xf u 0 2))=false:=Vj h2;exact Qg <| Qc <| tn Qb [3,6,7,8,10,11,142] [3,6,10] (pf 0 h2n (pe 1 (show .b (!false)= .b true from rfl) p0)) <| ckT <| tu Qb [(7,.one (.slc (.own true 9280) 3 []))] [1,3,5,7,9,12] [(6, [.o 9216 ((Qd l).1.1),.o 9217 ((Qd l).1.2.1),.i ((Qd l).1.2.2),.o 9218 ((Qd l).2.1),.o 9219 ((Qd l).2.2)])] [3,5,6,9] (pc 1 (W0 l) p0) <| Qe <| pz [9216,9217,9218,9219] (show Qs l u o=_ from Q4 h2 (rfl)) (λz=> .tup [(true, [.h z.1.1.1,.h z.1.1.2.1,.i z.1.1.2.2,.h z.1.2.1,.h z.1.2.2]),(false, [.o 0 z.2.1]),(false, [.b z.2.2])])
 have h2n:((Xq l)&&(Xf u 0 2))=true:=Za h2;have h2nl:((Xq l))=true:=XA h2n;have h2nlc:=B1 h2nl;have h2nr:((Xf u 0 2))=true:=KC h2n;have h2nrw:=Dr.1 h2nr;refine Qc <| mz [(27,.b (!((Xq l)&&(Xf u 0 2))))] [] [] [] <| jn [(30,.b ((o.1==(1:Int))&&(o.2.1.2.1==u)))] [27] [] [] (o.1==(1:Int)) (λh3=> ?_) (λh3=> ?_) ?_
 ·refine ru Qb [(30,.b (o.2.1.2.1==u))] [27] [] [] (pt 2 h3 p0) ?_;exact zA (by rw[h3]<;>kernel_rfl)
 ·refine ru Qb [(30,.b false)] [27] [] [] (pf 2 h3 p0) ?_;exact zA (by rw[h3]<;>kernel_rfl)
 refine ck ((o.1==(1:Int))&&(o.2.1.2.1==u)) (λh4=> ?_) (λh4=> ?_)
 ·refine rn Qb [3,6,7,8,10,11,12] [3,6,10] (pc 3 (FZ l o.2.1) p0) ?_;refine Qc <| tn Qb [3,6,7,8,10,11,142] [3,6,10] p0 <| ck (!(((Ja l o.2.1)).2.2.2)) (λh5=> ?_) (λh5=> ?_)
  ·exact tu Qb [(7,.one (.slc (.own true 9280) 3 [])),(11,.o 2881 (((Ja l o.2.1)).2.2.1))] [1,3,5,7,9,11,12,30] [(6, [.o 9216 ((Qd l).1.1),.o 9217 ((Qd l).1.2.1),.i ((Qd l).1.2.2),.o 9218 ((Qd l).2.1),.o 9219 ((Qd l).2.2)]),(10, [.h ((((Ja l o.2.1)).1).1.1),.h ((((Ja l o.2.1)).1).1.2.1),.i ((((Ja l o.2.1)).1).1.2.2),.h ((((Ja l o.2.1)).1).2.1),.o 2880 ((((Ja l o.2.1)).1).2.2)])] [3,5,6,9,10] (pc 1 (W0 l) p0) <| Qe <| pz [9216,9217,9218,9219] (show Qs l u o=_ from Qi h2 (Q4 h4 (Q4 h5 (rfl)))) (λz=> .tup [(true, [.h z.1.1.1,.h z.1.1.2.1,.i z.1.1.2.2,.h z.1.2.1,.h z.1.2.2]),(false, [.o 0 z.2.1]),(false, [.b z.2.2])])
  exact Qg <| tu Qb [(7,.o 2881 (((Ja l o.2.1)).2.2.1)),(8,.b true)] [1,3,5,7,8,9,10,11,12,30] [(6, [.h ((((Ja l o.2.1)).1).1.1),.h ((((Ja l o.2.1)).1).1.2.1),.i ((((Ja l o.2.1)).1).1.2.2),.h ((((Ja l o.2.1)).1).2.1),.o 2880 ((((Ja l o.2.1)).1).2.2)])] [3,5,6,9,10] p0 <| Qe <| pz [2880] (show Qs l u o=_ from Qi h2 (Q4 h4 (Qi h5 (rfl)))) (λz=> .tup [(true, [.h z.1.1.1,.h z.1.1.2.1,.i z.1.1.2.2,.h z.1.2.1,.h z.1.2.2]),(false, [.o 0 z.2.1]),(false, [.b z.2.2])])
 refine Qc <| jn [(50,.b ((o.1==(2:Int))&&(o.2.1.2.1==u)))] [30] [] [] (o.1==(2:Int)) (λh6=> ?_) (λh6=> ?_) ?_
 ·refine ru Qb [(50,.b (o.2.1.2.1==u))] [30] [] [] (pt 2 h6 p0) ?_;exact zA (by rw[h6]<;>kernel_rfl)
 ·refine ru Qb [(50,.b false)] [30] [] [] (pf 2 h6 p0) ?_;exact zA (by rw[h6]<;>kernel_rfl)
 refine ck ((o.1==(2:Int))&&(o.2.1.2.1==u)) (λh7=> ?_) (λh7=> ?_)
 ·refine sn Qb [1,3,5,6,7,8,10,11,12,13,14] [3,5,6,10,13] (pc 5 (Fj l.1 o.2.1.1) p0) <| tn Qb [1,3,6,7,8,10,11,12,13,14] [3,6,10,13] (pc 3 (WP l o.2.1) p0) <| mz [(11,.o 4737 (((Zj l o.2.1)).2.1)),(12,.b (((Zj l o.2.1)).2.2)),(13,.p 13 0),(14,.b (((Xa l.1 o.2.1.1)).2))] [5,9,11,12,50] [(10, [.h ((((Zj l o.2.1)).1).1.1),.h ((((Zj l o.2.1)).1).1.2.1),.i ((((Zj l o.2.1)).1).1.2.2),.h ((((Zj l o.2.1)).1).2.1),.o 4736 ((((Zj l o.2.1)).1).2.2)]),(13, [.i ((((Xa l.1 o.2.1.1)).1).1),.i ((((Xa l.1 o.2.1.1)).1).2.1),.b ((((Xa l.1 o.2.1.1)).1).2.2.1),.i ((((Xa l.1 o.2.1.1)).1).2.2.2.1),.o 4288 ((((Xa l.1 o.2.1.1)).1).2.2.2.2)])] [5,9,10] <| jn [(12,.b (((Zj l o.2.1)).2.2&&(((Xa l.1 o.2.1.1)).2&&(Bv (((Xa l.1 o.2.1.1)).1) u))))] [1,12,13,14] [] [13] (((Zj l o.2.1)).2.2) (λh8=> ?_) (λh8=> ?_) ?_
  ·refine Xu (((Xa l.1 o.2.1.1)).2) (λh9=> ?_) (λh9=> ?_)
   ·refine rn Qb [3,6,7,8,10,11,12] [3,6,10] (pt 0 h8 (pt 2 h9 (pc 7 (QB (((Xa l.1 o.2.1.1)).1) u) p0))) ?_;exact zA (by rw[h8,h9]<;>kernel_rfl)
   refine rn Qb [3,6,7,8,10,11,12] [3,6,10] (pt 0 h8 (pf 2 h9 p0)) ?_;exact zA (by rw[h8,h9]<;>kernel_rfl)
  ·refine rn Qb [3,6,7,8,10,11,12] [3,6,10] (pf 0 h8 p0) ?_;exact zA (by rw[h8]<;>kernel_rfl)
  refine Qc <| sn Qb [3,6,7,8,10,11,142] [3,6,10] p0 <| ck (!(((Zj l o.2.1)).2.2&&(((Xa l.1 o.2.1.1)).2&&(Bv (((Xa l.1 o.2.1.1)).1) u)))) (λh10=> ?_) (λh10=> ?_)
  ·exact tn Qb [6,7,8,10,11] [6,10] (pc 1 (W0 l) p0) <| Qe <| pz [9216,9217,9218,9219] (show Qs l u o=_ from Qi h2 (Qi h4 (Q4 h7 (Q4 h10 (rfl))))) (λz=> .tup [(true, [.h z.1.1.1,.h z.1.1.2.1,.i z.1.1.2.2,.h z.1.2.1,.h z.1.2.2]),(false, [.o 0 z.2.1]),(false, [.b z.2.2])])
  exact Qg <| tn Qb [6,7,8] [6] p0 <| Qe <| pz [4736] (show Qs l u o=_ from Qi h2 (Qi h4 (Q4 h7 (Qi h10 (rfl))))) (λz=> .tup [(true, [.h z.1.1.1,.h z.1.1.2.1,.i z.1.1.2.2,.h z.1.2.1,.h z.1.2.2]),(false, [.o 0 z.2.1]),(false, [.b z.2.2])])
 refine su Qb [(87,.b (o.1==(3:Int)))] [50] [] [] p0 <| ck (o.1==(3:Int)) (λh11=> ?_) (λh11=> ?_)
 ·refine sn Qb [1,3,5,6,7,8,10,11,12,15,16] [3,5,6,10,15] (pc 4 (Fj l.1 o.2.2.1) p0) <| tn Qb [1,3,6,7,8,10,11,12,15,16] [3,6,10,15] (pc 3 (WQ l o.2.2.1) p0) <| mz [(11,.o 6593 (((Zk l o.2.2.1)).2.1)),(12,.b (((Zk l o.2.2.1)).2.2)),(15,.p 15 0),(16,.b (((Xa l.1 o.2.2.1)).2))] [5,9,11,12,87] [(10, [.h ((((Zk l o.2.2.1)).1).1.1),.h ((((Zk l o.2.2.1)).1).1.2.1),.i ((((Zk l o.2.2.1)).1).1.2.2),.h ((((Zk l o.2.2.1)).1).2.1),.o 6592 ((((Zk l o.2.2.1)).1).2.2)]),(15, [.i ((((Xa l.1 o.2.2.1)).1).1),.i ((((Xa l.1 o.2.2.1)).1).2.1),.b ((((Xa l.1 o.2.2.1)).1).2.2.1),.i ((((Xa l.1 o.2.2.1)).1).2.2.2.1),.o 6144 ((((Xa l.1 o.2.2.1)).1).2.2.2.2)])] [5,9,10] <| jn [(12,.b (((Zk l o.2.2.1)).2.2&&(((Xa l.1 o.2.2.1)).2&&(Bv (((Xa l.1 o.2.2.1)).1) u))))] [1,12,15,16] [] [15] (((Zk l o.2.2.1)).2.2) (λh12=> ?_) (λh12=> ?_) ?_
  ·refine Xu (((Xa l.1 o.2.2.1)).2) (λh13=> ?_) (λh13=> ?_)
   ·refine rn Qb [3,6,7,8,10,11,12] [3,6,10] (pt 0 h12 (pt 2 h13 (pc 7 (QB (((Xa l.1 o.2.2.1)).1) u) p0))) ?_;exact zA (by rw[h12,h13]<;>kernel_rfl)
   refine rn Qb [3,6,7,8,10,11,12] [3,6,10] (pt 0 h12 (pf 2 h13 p0)) ?_;exact zA (by rw[h12,h13]<;>kernel_rfl)
  ·refine rn Qb [3,6,7,8,10,11,12] [3,6,10] (pf 0 h12 p0) ?_;exact zA (by rw[h12]<;>kernel_rfl)
  refine Qc <| sn Qb [3,6,7,8,10,11,142] [3,6,10] p0 <| ck (!(((Zk l o.2.2.1)).2.2&&(((Xa l.1 o.2.2.1)).2&&(Bv (((Xa l.1 o.2.2.1)).1) u)))) (λh14=> ?_) (λh14=> ?_)
  ·exact tn Qb [6,7,8,10,11] [6,10] (pc 1 (W0 l) p0) <| Qe <| pz [9216,9217,9218,9219] (show Qs l u o=_ from Qi h2 (Qi h4 (Qi h7 (Q4 h11 (Q4 h14 (rfl)))))) (λz=> .tup [(true, [.h z.1.1.1,.h z.1.1.2.1,.i z.1.1.2.2,.h z.1.2.1,.h z.1.2.2]),(false, [.o 0 z.2.1]),(false, [.b z.2.2])])
  exact Qg <| tn Qb [6,7,8] [6] p0 <| Qe <| pz [6592] (show Qs l u o=_ from Qi h2 (Qi h4 (Qi h7 (Q4 h11 (Qi h14 (rfl)))))) (λz=> .tup [(true, [.h z.1.1.1,.h z.1.1.2.1,.i z.1.1.2.2,.h z.1.2.1,.h z.1.2.2]),(false, [.o 0 z.2.1]),(false, [.b z.2.2])])
 refine su Qb [(116,.b (o.1==(4:Int)))] [1,87] [] [] p0 <| ck (o.1==(4:Int)) (λh15=> ?_) (λh15=> ?_)
 ·refine rn Qb [3,6,7,8,10,11,12] [3,6,10] (pc 3 (AZ l o.2.2.2) p0) ?_;refine Qc <| tn Qb [3,6,7,8,10,11,142] [3,6,10] p0 <| ck (!(((Zf l o.2.2.2)).2.2)) (λh16=> ?_) (λh16=> ?_)
  ·exact tu Qb [(7,.one (.slc (.own true 9280) 3 [])),(11,.o 7937 (((Zf l o.2.2.2)).2.1))] [3,5,7,9,11,12,116] [(6, [.o 9216 ((Qd l).1.1),.o 9217 ((Qd l).1.2.1),.i ((Qd l).1.2.2),.o 9218 ((Qd l).2.1),.o 9219 ((Qd l).2.2)]),(10, [.h ((((Zf l o.2.2.2)).1).1.1),.h ((((Zf l o.2.2.2)).1).1.2.1),.i ((((Zf l o.2.2.2)).1).1.2.2),.h ((((Zf l o.2.2.2)).1).2.1),.o 7936 ((((Zf l o.2.2.2)).1).2.2)])] [3,5,6,9,10] (pc 1 (W0 l) p0) <| Qe <| pz [9216,9217,9218,9219] (show Qs l u o=_ from Qi h2 (Qi h4 (Qi h7 (Qi h11 (Q4 h15 (Q4 h16 (rfl))))))) (λz=> .tup [(true, [.h z.1.1.1,.h z.1.1.2.1,.i z.1.1.2.2,.h z.1.2.1,.h z.1.2.2]),(false, [.o 0 z.2.1]),(false, [.b z.2.2])])
  exact Qg <| tu Qb [(7,.o 7937 (((Zf l o.2.2.2)).2.1)),(8,.b true)] [3,5,7,8,9,10,11,12,116] [(6, [.h ((((Zf l o.2.2.2)).1).1.1),.h ((((Zf l o.2.2.2)).1).1.2.1),.i ((((Zf l o.2.2.2)).1).1.2.2),.h ((((Zf l o.2.2.2)).1).2.1),.o 7936 ((((Zf l o.2.2.2)).1).2.2)])] [3,5,6,9,10] p0 <| Qe <| pz [7936] (show Qs l u o=_ from Qi h2 (Qi h4 (Qi h7 (Qi h11 (Q4 h15 (Qi h16 (rfl))))))) (λz=> .tup [(true, [.h z.1.1.1,.h z.1.1.2.1,.i z.1.1.2.2,.h z.1.2.1,.h z.1.2.2]),(false, [.o 0 z.2.1]),(false, [.b z.2.2])])
 refine su Qb [(128,.b (o.1==(5:Int)))] [116] [] [] p0 <| ck (o.1==(5:Int)) (λh17=> ?_) (λh17=> ?_)
 ·refine rn Qb [3,6,7,8,10,11,12] [3,6,10] (pc 4 (BA (Qd l) o.2.2.2.1) p0) ?_;refine Qc <| tn Qb [3,6,7,8,10,11,142] [3,6,10] p0 <| ck (!(((Zs (Qd l) o.2.2.2.1)).2.2)) (λh18=> ?_) (λh18=> ?_)
  ·exact tu Qb [(7,.one (.slc (.own true 9280) 3 [])),(11,.o 8768 (((Zs (Qd l) o.2.2.2.1)).2.1))] [3,5,7,9,11,12,128] [(6, [.o 9216 ((Qd l).1.1),.o 9217 ((Qd l).1.2.1),.i ((Qd l).1.2.2),.o 9218 ((Qd l).2.1),.o 9219 ((Qd l).2.2)]),(10, [.h ((((Zs (Qd l) o.2.2.2.1)).1).1.1),.h ((((Zs (Qd l) o.2.2.2.1)).1).1.2.1),.i ((((Zs (Qd l) o.2.2.2.1)).1).1.2.2),.h ((((Zs (Qd l) o.2.2.2.1)).1).2.1),.h ((((Zs (Qd l) o.2.2.2.1)).1).2.2)])] [3,5,6,9,10] (pc 1 (W0 l) p0) <| Qe <| pz [9216,9217,9218,9219] (show Qs l u o=_ from Qi h2 (Qi h4 (Qi h7 (Qi h11 (Qi h15 (Q4 h17 (Q4 h18 (rfl)))))))) (λz=> .tup [(true, [.h z.1.1.1,.h z.1.1.2.1,.i z.1.1.2.2,.h z.1.2.1,.h z.1.2.2]),(false, [.o 0 z.2.1]),(false, [.b z.2.2])])
  exact Qg <| tu Qb [(7,.o 8768 (((Zs (Qd l) o.2.2.2.1)).2.1)),(8,.b true)] [3,5,7,8,9,10,11,12,128] [(6, [.h ((((Zs (Qd l) o.2.2.2.1)).1).1.1),.h ((((Zs (Qd l) o.2.2.2.1)).1).1.2.1),.i ((((Zs (Qd l) o.2.2.2.1)).1).1.2.2),.h ((((Zs (Qd l) o.2.2.2.1)).1).2.1),.h ((((Zs (Qd l) o.2.2.2.1)).1).2.2)])] [3,5,6,9,10] p0 <| Qe <| pz [] (show Qs l u o=_ from Qi h2 (Qi h4 (Qi h7 (Qi h11 (Qi h15 (Q4 h17 (Qi h18 (rfl)))))))) (λz=> .tup [(true, [.h z.1.1.1,.h z.1.1.2.1,.i z.1.1.2.2,.h z.1.2.1,.h z.1.2.2]),(false, [.o 0 z.2.1]),(false, [.b z.2.2])])
 refine rn Qb [3,6,7,8,10,11,12] [3,6,10] p0 ?_;exact Qc <| tn Qb [3,6,7,8,10,11,142] [3,6,10] (pe 1 (show .b (!false)= .b true from rfl) p0) <| ckT <| tu Qb [(7,.one (.slc (.own true 9280) 3 []))] [3,5,7,9,12,128] [(6, [.o 9216 ((Qd l).1.1),.o 9217 ((Qd l).1.2.1),.i ((Qd l).1.2.2),.o 9218 ((Qd l).2.1),.o 9219 ((Qd l).2.2)])] [3,5,6,9] (pc 1 (W0 l) p0) <| Qe <| pz [9216,9217,9218,9219] (show Qs l u o=_ from Qi h2 (Qi h4 (Qi h7 (Qi h11 (Qi h15 (Qi h17 (rfl))))))) (λz=> .tup [(true, [.h z.1.1.1,.h z.1.1.2.1,.i z.1.1.2.2,.h z.1.2.1,.h z.1.2.2]),(false, [.o 0 z.2.1]),(false, [.b z.2.2])])
end
section
open Go.RowKit
theorem ZU {d:List X0} (h:Qw d=true):∀(i:Nat) (a:X0),d[i]? =some a->Zl d i a ()= .next ():=by
 unfold Qw at h;cases hf:Xz (Zl d) Wl d 0 () with
 | brk t=>
   intro i a ha;have:=Mz (λk a t=>by unfold Zl;generalize (_|| _:Bool)=c;cases c<;>simp) hf i a ha
   rwa [yF] at this
 | ret r=>
   rw[hf] at h;obtain rfl:r=true:=h;exfalso
   have key:∀(l:List X0) k,Xz (Zl d) Wl l k ()≠ .ret true:=by
    intro l
    induction l with
    | nil=>intro k h;simp[Xz] at h
    | cons a l ih=>
      intro k h;simp only[Xz] at h;unfold Zl at h;split at h
      . rename_i hf;exact ih _ h
      . cases h
      rename_i r hf;cases h;revert hf;generalize (_|| _:Bool)=c;cases c<;>simp
   exact key _ _ hf
theorem MC {d:List X0} (h:Qw d=true) {a:X0} (ha:a∈d):Zd a.1=true:=by
 obtain ⟨i,hi⟩:=zW ha;have:=ZU h i a hi;unfold Zl at this;cases hv:Zd a.1 with
 | true=>rfl
 | false=>rw[hv] at this;cases this
theorem XQ {d:List X0} (h:Qw d=true):(d.map (·.1)).Nodup:=by
 refine AL (FT λi hi=> ?_);rw[yV] at hi;have e:∀j,j<d.length->nth (d.map (·.1)) j=(nth d j).1:=λj hj=>by simp[nth,xZ,hj]
 rw[e i (by omega),e (i+1) hi];have:=ZU h (i+1) _ (Wg hi);unfold Zl at this;rw[decide_eq_true (show ((i+1:Nat):Int)>0 by omega),show zJ (((i+1:Nat):Int)-1)=i by omega] at this;simp only[cond_true] at this;cases hb:bl (nth d i).1 (nth d (i+1)).1 with
 | true=>rfl
 | false=>
   unfold bl at hb;rw[hb] at this;simp at this
theorem MD:∀{d:List X0},(d.map (·.1)).Nodup->∀{a b:X0},a∈d->b∈d->a.1=b.1->a=b
 | [],_,_,_,ha,_,_=>by cases ha
 | x ::d,h,a,b,ha,hb,e=>by
   rw[xA] at h;obtain ⟨h1,h2⟩:=xK.1 h;rcases zS.1 ha with ea | ha'
   . rcases zS.1 hb with eb | hb'
     . rw[ea,eb]
     subst ea;exact (h1 (by rw[e];exact zV hb')).elim
   rcases zS.1 hb with eb | hb'
   . subst eb;exact (h1 (by rw[←e];exact zV ha')).elim
   exact MD h2 ha' hb' e
theorem Qit (s:ByteArray):∀(l:List X0) (k:Nat),(Xz (X9 s) Y2 l k ()= .brk ()/\∀a,a∈l->a.1≠s)\/∃(i:Nat) (a:X0),l[i]? =some a/\a.1=s/\Xz (X9 s) Y2 l k ()= .ret (((k+i:Nat)):Int)
 | [],_=> .inl ⟨rfl,λa ha=>by cases ha⟩
 | x ::l,k=>by
   simp only[Xz,X9];have hx:Dw x s=decide (x.1=s):=toList_inj;rw[hx];by_cases e:x.1=s
   . rw[decide_eq_true e];exact .inr ⟨0,x,rfl,e,rfl⟩
   simp only[decide_eq_false e,cond_false];rcases Qit s l (k+1) with ⟨h1,h2⟩ | ⟨i,a,h1,h2,h3⟩
   . refine .inl ⟨h1,λa ha=> ?_⟩;rcases zS.1 ha with rfl | ha
     . exact e
     exact h2 a ha
   exact .inr ⟨i+1,a,by simpa using h1,h2,by rw[h3,show k+1+i=k+(i+1) by omega]⟩
theorem ME (d:List X0) (s:ByteArray):(Q8 d s= -1/\∀a,a∈d->a.1≠s)\/∃(i:Nat) (a:X0),d[i]? =some a/\a.1=s/\Q8 d s=((i:Nat):Int):=by
 unfold Q8 Jx;rcases Qit s d 0 with ⟨h1,h2⟩ | ⟨i,a,h1,h2,h3⟩
 . rw[h1];exact .inl ⟨rfl,h2⟩
 rw[h3,yF];exact .inr ⟨i,a,h1,h2,rfl⟩
theorem Qly {d:List X0} {a:X0} (ha:a∈d):0<=Q8 d a.1:=by
 rcases ME d a.1 with ⟨_,h2⟩ | ⟨i,b,_,_,h3⟩
 . exact (h2 a ha rfl).elim
 rw[h3];omega
theorem Qkl {d:List X0} (hn:(d.map (·.1)).Nodup) {a:X0} (ha:a∈d):zJ (Q8 d a.1)<d.length/\nth d (zJ (Q8 d a.1))=a:=by
 rcases ME d a.1 with ⟨_,h2⟩ | ⟨i,b,h1,h2,h3⟩
 . exact (h2 a ha rfl).elim
 rw[h3,zO];exact ⟨(zH.1 h1).1,(Od h1).trans (MD hn (zF h1) ha h2)⟩
theorem DZ : ∀ g:List Int,∃B:Nat,∀j,nth g j<=(B:Int)
 | []=>⟨0,λj=>by rw[XG (by simp)];omega⟩
 | a::g=>by
   obtain ⟨B,hB⟩:=DZ g;refine ⟨B+a.toNat,λj=> ?_⟩;cases j with
   | zero=>show a<=_;omega
   | succ j => have:nth (a::g) (j+1)=nth g j:=rfl
               rw[this];have:=hB j;omega
theorem GA {d:List X0} {g:List Int} (hv:Qw d=true) (hs:Sat (Kc d) d.length g) (h0:∀j,0<=nth g j):(Qx d).2=true:=by
 have h5:=Hg hv;have hw:=Nv (d:=d) (f:=H4 d) (e:=H5) (F:=Uj d) (λ_ _ _=>rfl) (λ_ _=>rfl) (λ_=>rfl) (by omega) (d.length*d.length+3) (List.replicate d.length 0) true (Dg _).1 (Dg _).2
 have hsome:(YW (Kc d) d.length d.length (d.length*d.length+3) (true,List.replicate d.length 0)).isSome=true:=by
  have:=Gl d h5;rw[zO,hw,Option.isSome_map] at this;exact this
 obtain ⟨r,hr⟩:=Option.isSome_iff_exists.1 hsome;have hw':∀i e,e∈Kc d i->e.2<=1/\e.1<d.length:=λi e he=>⟨(Nu d i e he).1,(Nu d i e he).2.1⟩
 obtain ⟨_,h2⟩:=YY hw' _ 0 true r (λe=>by cases e) hr
 have hrest:SX (Kc d) d.length (after (Kc d) d.length (d.length*d.length+2)):=by
  obtain ⟨B,hB⟩:=DZ g
  have hex:∃k,SX (Kc d) d.length (after (Kc d) d.length k):=yK λhno=>by
   have h1:=XH (E:=Kc d) (n:=d.length) (d.length*B+1) λj _ hr=>hno ⟨j,hr⟩
   have h2:=LB (after (Kc d) d.length (d.length*B+1)) B λx hx=>by
    obtain ⟨i,_,e⟩:=HU hx;have h3:=Nq hs h0 (d.length*B+1) i;have h4:=hB i;omega
   rw[He] at h2;have h3:((d.length*B+1:Nat):Int)=(d.length:Int)*(B:Int)+1:=by rw[xJ,Int.natCast_mul];rfl
   omega
  obtain ⟨k,hk⟩:=hex;exact LD hw' hk
 cases r with
 | none=>exact (h2 rfl hrest).elim
 | some L=>
   unfold Qx;rw[hv];simp only[zN,cond_false];unfold I0;rw[zO,hw,hr];rfl
theorem Tb {d:List X0} {w:Int} {e:Nat×Int}:∀{l:List ByteArray},e∈V6 d w l->∃nm,nm∈l/\0<=Q8 d nm/\e=(zJ (Q8 d nm),w)
 | [],h=>by cases h
 | x ::l,h=>by
   simp only[V6] at h;split at h
   . rename_i h0;rcases zS.1 h with rfl | h
     . exact ⟨x,zP ..,h0,rfl⟩
     obtain ⟨nm,h1,h2⟩:=Tb h;exact ⟨nm,zM _ h1,h2⟩
   obtain ⟨nm,h1,h2⟩:=Tb h;exact ⟨nm,zM _ h1,h2⟩
theorem Qbe {d d':List X0} (h:(Qx d).2=true) (hv:Qw d'=true) (hsub:∀a,a∈d'->a∈d):(Qx d').2=true:=by
 obtain ⟨hvd,hl,hsat,h0⟩:=S0 (Prod.ext rfl h:Qx d=((Qx d).1,true));generalize (Qx d).1=L at hl hsat h0;have hn:=XQ hvd;have hn':=XQ hv;have hg:∀j,j<d'.length->nth (d'.map λa=>nth L (zJ (Q8 d a.1))) j=nth L (zJ (Q8 d (nth d' j).1)):=λj hj=>by simp[nth,xZ,hj]
 have key:∀(i:Nat) (w:Int) (deps:List Yw->List ByteArray) (e:Nat×Int),i<d'.length->e∈V6 d' w (deps (nth d' i).2)->(∀(k:Nat) (nm:ByteArray),k<d.length->nm∈deps (nth d k).2->0<=Q8 d nm->(zJ (Q8 d nm),w)∈Kc d k)->
  nth (d'.map λa=>nth L (zJ (Q8 d a.1))) e.1+e.2<=nth (d'.map λa=>nth L (zJ (Q8 d a.1))) i:=λi w deps e hi he hin=>by
  obtain ⟨nm,h1,h2,rfl⟩:=Tb he;have hm:nth d' i∈d':=zF (Wg hi);obtain ⟨hk,hk2⟩:=Qkl hn (hsub _ hm);rcases ME d' nm with ⟨h3,_⟩ | ⟨j,b,h3,h4,h5⟩
  . omega
  have hj:j<d'.length:=(zH.1 h3).1;have hb:b∈d:=hsub _ (zF h3);have h0':0<=Q8 d nm:=by have:=Qly hb;rwa [h4] at this
  have hed:=hin _ nm hk (by rw[hk2];exact h1) h0';have:=(Ds.1 (hsat _ hk)).2 _ hed;rw[hg i hi,h5,zO,hg j hj,Od h3,h4];exact this
 refine GA (g:=d'.map λa=>nth L (zJ (Q8 d a.1))) hv (λi hi=>Ds.2 ⟨?_,λe he=> ?_⟩) λj=> ?_
 . rw[hg i hi];exact h0 _
 . unfold Kc at he;rw[if_pos hi] at he;rcases yA.1 he with he | he
   . exact key i 0 Y8 e hi he λk nm hk h1 h2=>by
      unfold Kc;rw[if_pos hk];exact yB _ (Mc h1 h2)
   exact key i 1 Yl e hi he λk nm hk h1 h2=>by
    unfold Kc;rw[if_pos hk];exact yR _ (Mc h1 h2)
 by_cases hj:j<d'.length
 . rw[hg j hj];exact h0 _
 rw[XG (by rw[yV];omega)];omega
theorem MF {R S T:Type} {f:S->Rd R S T} (hf:∀s r,f s≠ .ret r):∀n s r,whl f n s≠some (.ret r)
 | 0,_,_=>by simp[whl]
 | n+1,s,r=>by
   simp only[whl];cases h:f s with
   | next s'=>exact MF hf n s' r
   | brk t=>simp
   | ret r'=>exact absurd h (hf s r')
theorem Tp {R S T:Type} [Inhabited T] {f:S->Rd R S T} (hf:∀s r,f s≠ .ret r) (n:Nat) (s:S):∃t,I0 f n s= .brk t:=by
 unfold I0;cases h:whl f n s with
 | none=>exact ⟨default,rfl⟩
 | some o=>
   cases o with
   | brk t=>exact ⟨t,rfl⟩
   | ret r=>exact absurd h (MF hf n s r)
theorem Qem {R S T:Type} {f:S->Rd R S T} (I:S->Prop) (J:T->Prop) (hn:∀s s',I s->f s= .next s'->I s') (hb:∀s t,I s->f s= .brk t->J t):∀n s t,I s->whl f n s=some (.brk t)->J t
 | 0,_,_,_,h=>by simp[whl] at h
 | n +1,s,t,hi,h=>by
   simp only[whl] at h;cases hs:f s with
   | next s'=>rw[hs] at h;exact Qem I J hn hb n s' t (hn s s' hi hs) h
   | brk t'=>
     rw[hs] at h;obtain rfl:t'=t:=by simpa using h
     exact hb s t' hi hs
   | ret r=>rw[hs] at h;simp at h
theorem ZV {R S T:Type} [Inhabited T] {f:S->Rd R S T} (I:S->Prop) (J:T->Prop) (hn:∀s s',I s->f s= .next s'->I s') (hb:∀s t,I s->f s= .brk t->J t) {n:Nat} {s:S} {t:T} (hi:I s) (hw:(whl f n s).isSome=true) (h:I0 f n s= .brk t):J t:=
 Qem I J hn hb n s t hi (by rw[Fl hw,h])
theorem KV {α R S T:Type} {f:Nat->α->S->Rd R S T} {e:Nat->S->T} (hf:∀k a s r,f k a s≠ .ret r):∀(l:List α) (k:Nat) (s:S),∃t,Xz f e l k s= .brk t
 | [],k,s=>⟨_,rfl⟩
 | a::l,k,s=>by
   simp only[Xz];cases h:f k a s with
   | next s'=>exact KV hf l (k+1) s'
   | brk t=>exact ⟨t,rfl⟩
   | ret r=>exact absurd h (hf k a s r)
theorem PS {R S T:Type} {f:S->Rd R S T} (I:S->Prop) (m:S->Int) (N:Int) (h:∀s s',I s->f s= .next s'->m s<N/\m s'=m s+1/\I s'):∀(n:Nat) (s:S),I s->N<=m s+n->(whl f (n+1) s).isSome=true
 | 0,s,hi,hn=>by
   simp only[whl];cases hs:f s with
   | next s'=>have:=(h s s' hi hs).1;omega
   | brk t=>rfl
   | ret r=>rfl
 | n +1,s,hi,hn=>by
   rw[whl];cases hs:f s with
   | next s'=>
     obtain ⟨h1,h2,h3⟩:=h s s' hi hs;exact PS I m N h n s' h3 (by omega)
   | brk t=>rfl
   | ret r=>rfl
theorem Qiu {α R:Type} {t:α} {f:α->R} {P:R->Prop} (Q:α->Prop) (h:Q t) (k:∀x,Q x->P (f x)):P (lt t f):=k t h
instance memDec (a:ByteArray) (S:List ByteArray):Decidable (a∈S):=decidable_of_iff (S.any (λx=>decide (x=a))=true) (by rw[xC];exact ⟨λ⟨x,h,e⟩=>of_decide_eq_true e▸h,λh=>⟨a,h,decide_eq_true rfl⟩⟩)
abbrev EA:=List (ByteArray×List ByteArray)
inductive Reach (E:EA) (N:List ByteArray):ByteArray->Prop
 | base {x:ByteArray}:x∈N->Reach E N x
 | step {e:ByteArray×List ByteArray} {a:ByteArray}:e∈E->a∈e.2->Reach E N a->Reach E N e.1
def XR (E:EA) (S:List ByteArray):Prop:=∀e,e∈E->∀a,a∈e.2->a∈S->e.1∈S
theorem TR {E:EA} {N S:List ByteArray} (hN:∀x,x∈N->x∈S) (hc:XR E S) {x:ByteArray} (h:Reach E N x):x∈S:=by
 induction h with
 | base h=>exact hN _ h
 | step he ha _ ih=>exact hc _ he _ ha ih
theorem Qhg {S:List ByteArray} {x:ByteArray} (h:KF S) (hx:x∈S):FB S x=S:=
 FC _ _ (YU x S h) h λy=>by rw[Oe];exact ⟨λh=>h.elim (λe=>e▸hx) id,.inr⟩
def PT (e:ByteArray×List ByteArray) (S:List ByteArray) (a:ByteArray):List ByteArray:=if a∈S then FB S e.1 else S
def BB (S:List ByteArray) (e:ByteArray×List ByteArray):List ByteArray:=e.2.foldl (PT e) S
def N0 (E:EA) (S:List ByteArray):List ByteArray:=E.foldl BB S
def D6 (E:EA) (S:List ByteArray):Nat->List ByteArray
 | 0=>S
 | k+1=>N0 E (D6 E S k)
theorem Qen {e:ByteArray×List ByteArray} {S:List ByteArray} {a x:ByteArray} (hx:x∈S):x∈PT e S a:=by
 unfold PT;split
 . exact (Oe _ _ _).2 (.inr hx)
 exact hx
theorem UI {e:ByteArray×List ByteArray} {x:ByteArray}:∀(l:List ByteArray) (S:List ByteArray),x∈S->x∈l.foldl (PT e) S
 | [],_,h=>h
 | _::l,_,h=>UI l _ (Qen h)
theorem ZW {x:ByteArray}:∀(E:EA) (S:List ByteArray),x∈S->x∈N0 E S
 | [],_,h=>h
 | e::E,S,h=>ZW E (BB S e) (UI e.2 S h)
theorem TS {e:ByteArray×List ByteArray}:∀(l:List ByteArray) (S:List ByteArray),KF S->KF (l.foldl (PT e) S)
 | [],_,h=>h
 | a::l,S,h=>TS l _ (by unfold PT;split;exact YU _ _ h;exact h)
theorem MG:∀(E:EA) (S:List ByteArray),KF S->KF (N0 E S)
 | [],_,h=>h
 | e::E,S,h=>MG E (BB S e) (TS e.2 S h)
theorem EB {E:EA} {N:List ByteArray} {e:ByteArray×List ByteArray} (he:e∈E):∀(l:List ByteArray) (S:List ByteArray),(∀a,a∈l->a∈e.2)->(∀x,x∈S->Reach E N x)->∀x,x∈l.foldl (PT e) S->Reach E N x
 | [],_,_,h=>h
 | a ::l,S,hl,h=>EB he l _ (λb hb=>hl b (zM _ hb)) λx hx=>by
   unfold PT at hx;split at hx
   . rename_i ha;rcases (Oe _ _ _).1 hx with rfl | hx
     . exact .step he (hl a (zP ..)) (h a ha)
     exact h x hx
   exact h x hx
theorem BC {N:List ByteArray} {E0:EA}:∀(E:EA) (S:List ByteArray),(∀e,e∈E->e∈E0)->(∀x,x∈S->Reach E0 N x)->∀x,x∈N0 E S->Reach E0 N x
 | [],_,_,h=>h
 | e::E,S,hE,h=>BC E (BB S e) (λf hf=>hE f (zM _ hf)) (EB (hE e (zP ..)) e.2 S (λ_ h=>h) h)
theorem TT {e:ByteArray×List ByteArray} {a:ByteArray}:∀(l:List ByteArray) (S:List ByteArray),a∈l->a∈S->e.1∈l.foldl (PT e) S
 | b::l,S,ha,hS=>by
   rw[xL];rcases zS.1 ha with rfl | ha
   . refine UI l _ ?_;unfold PT;rw[if_pos hS];exact (Oe _ _ _).2 (.inl rfl)
   exact TT l _ ha (Qen hS)
theorem MH:∀(E:EA) (S:List ByteArray) {e:ByteArray×List ByteArray} {a:ByteArray},e∈E->a∈e.2->a∈S->e.1∈N0 E S
 | f::E,S,e,a,he,ha,hS=>by
   show e.1∈N0 E (BB S f);rcases zS.1 he with rfl | he
   . exact ZW E _ (TT _ S ha hS)
   exact MH E _ he ha (UI f.2 S hS)
theorem BD {e:ByteArray×List ByteArray} {S:List ByteArray} (hs:KF S):∀l:List ByteArray,(∀a,a∈l->a∈S->e.1∈S)->l.foldl (PT e) S=S
 | [],_=>rfl
 | a ::l,h=>by
   have:PT e S a=S:=by
    unfold PT;split
    . rename_i ha;exact Qhg hs (h a (zP ..) ha)
    rfl
   rw[xL,this];exact BD hs l λb hb=>h b (zM _ hb)
theorem WA {S:List ByteArray} (hs:KF S):∀E:EA,XR E S->N0 E S=S
 | [],_=>rfl
 | e::E,h=>by
   show N0 E (BB S e)=S;rw[show BB S e=S from BD hs e.2 (h e (zP ..))];exact WA hs E λf hf=>h f (zM _ hf)
def CC (E:EA) (S:List ByteArray):Nat:=(E.filter λe=> !decide (e.1∈S)).length
theorem MI {S T:List ByteArray} (h:∀x,x∈S->x∈T):∀E:EA,CC E T<=CC E S
 | []=>yE _
 | e::E=>by
   have ih:=MI h E;unfold CC at ih⊢;by_cases h1:e.1∈S
   . have h2:=h _ h1;simp only[zY,h1,h2,decide_true,zN,yG,if_false];exact ih
   by_cases h2:e.1∈T
   . simp only[zY,h1,h2,decide_true,decide_false,zN,zQ,yG,if_false,if_true,zK];omega
   simp only[zY,h1,h2,decide_false,zQ,if_true,zK];omega
theorem MJ {S T:List ByteArray} (h:∀x,x∈S->x∈T):∀{E:EA} {e:ByteArray×List ByteArray},e∈E->e.1∉S->e.1∈T->CC E T+1<=CC E S
 | f::E,e,he,h1,h2=>by
   rcases zS.1 he with rfl | he
   . have ih:=MI h E;unfold CC at ih⊢;simp only[zY,h1,h2,decide_true,decide_false,zN,zQ,yG,if_false,if_true,zK];omega
   have ih:=MJ h he h1 h2;unfold CC at ih⊢;by_cases h3:f.1∈S
   . have h4:=h _ h3;simp only[zY,h3,h4,decide_true,zN,yG,if_false];exact ih
   by_cases h4:f.1∈T
   . simp only[zY,h3,h4,decide_true,decide_false,zN,zQ,yG,if_false,if_true,zK];omega
   simp only[zY,h3,h4,decide_false,zQ,if_true,zK];omega
theorem KW {E:EA} {S:List ByteArray} (h:KF S):∀k,KF (D6 E S k)
 | 0=>h
 | k+1=>MG E _ (KW h k)
theorem BE {E:EA} {S:List ByteArray} (hs:KF S):∀k,XR E (D6 E S k)\/CC E (D6 E S k)+k<=E.length
 | 0=> .inr (by unfold CC;exact xN _ _)
 | k+1=>by
   show XR E (N0 E (D6 E S k))\/CC E (N0 E (D6 E S k))+(k+1)<=E.length;by_cases hc:XR E (D6 E S k)
   . rw[WA (KW hs k) E hc];exact .inl hc
   rcases BE hs k with h | h
   . exact (hc h).elim
   right
   have:∃e,e∈E/\∃a,a∈e.2/\a∈D6 E S k/\e.1∉D6 E S k:=yK λhno=>hc λe he a ha hS=>yK λhn=>hno ⟨e,he,a,ha,hS,hn⟩
   obtain ⟨e,he,a,ha,hS,hn⟩:=this;have:=MJ (λx hx=>ZW E _ hx) he hn (MH E _ he ha hS);omega
theorem PU {E:EA} {S N:List ByteArray} (hs:KF S) (hN:∀x,x∈S↔x∈N) (x:ByteArray):x∈D6 E S (E.length+1)↔Reach E N x:=by
 have hsub:∀k x,x∈S->x∈D6 E S k:=λk=>by
  induction k with
  | zero=>exact λ_ h=>h
  | succ k ih=>exact λx h=>ZW E _ (ih x h)
 have hr:∀k x,x∈D6 E S k->Reach E N x:=λk=>by
  induction k with
  | zero=>exact λx h=> .base ((hN x).1 h)
  | succ k ih=>exact BC E _ (λ_ h=>h) ih
 refine ⟨hr _ x,λh=> ?_⟩;refine TR (λy hy=>hsub _ y ((hN y).2 hy)) ?_ h;rcases BE hs (E.length+1) with h | h
 . exact h
 omega
theorem Tq {α R:Type} {f:Nat->α->List ByteArray->Rd R (List ByteArray) (List ByteArray)} {e:Nat->List ByteArray->List ByteArray} {p:α->Bool} {g:α->ByteArray} (hf:∀k a s,f k a s=bif p a then .next (K0 s (g a)) else .next s) (he:∀k s,e k s=s):∀(l:List α) (k:Nat) (s:List ByteArray),Xz f e l k s= .brk (E4 s ((l.filter p).map g))
 | [],k,s=>by simp[Xz,he,E4]
 | a ::l,k,s=>by
   simp only[Xz,hf];cases h:p a with
   | true=>
     simp only[cond_true];rw[Tq hf he l (k+1),Sw,xD h];rfl
   | false=>
     simp only[cond_false];rw[Tq hf he l (k+1),xE (by simp[h])]
theorem MK (q:List Yw):Wz q=Wy q:=by
 unfold Wz Wy;rw[Tq (f:=Ft) (e:=Mq) (p:=J9) (g:=λn:Yw=>n.2.2.2.1) (λk a s=>by unfold Ft;rw[HW]) (λ_ _=>rfl),U2 (f:=Mn) (p:=J9) (g:=λn:Yw=>n.2.2.2.1) (λ_ _ _=>rfl)];rfl
theorem PW (n:Yw):Xf n.1 2 4=((n.1==(2:Int))|| ((n.1==(3:Int))|| (n.1==(4:Int)))):=by
 unfold Xf;rw[yU];simp;omega
theorem GB (q:List Yw):Vr q=Ws q:=by
 unfold Vr Ws;rw[Tq (f:=Ek) (e:=Ld) (p:=λn:Yw=>((n.1==(2:Int))|| ((n.1==(3:Int))|| (n.1==(4:Int))))) (g:=λn:Yw=>n.2.2.2.1) (λk a s=>by unfold Ek;rw[PW]) (λ_ _=>rfl),U2 (f:=Lc) (p:=λn:Yw=>((n.1==(2:Int))|| ((n.1==(3:Int))|| (n.1==(4:Int))))) (g:=λn:Yw=>n.2.2.2.1) (λ_ _ _=>rfl)];rfl
theorem WB (f:Xe):Yy f=Qk f:=by
 unfold Yy Qk;rw[Bk (f:=Fu) (g:=λa:Bl=>a.1) (λ_ _ _=>rfl),Bk (f:=Fs) (g:=λa:Bl=>a.1) (λ_ _ _=>rfl)];rfl
theorem MM {α R S T:Type} [Inhabited α] {L:List α} {f:Nat->α->S->Rd R S T} {g:Nat->S->Rd R S T} {e e':Nat->S->T} (hg:∀k s,g k s=f k (nth L k) s) (he:∀k s,e' k s=e k s):∀(n k:Nat) (s:S),k+n=L.length->Uy g e' n k s=Xz f e (L.drop k) k s
 | 0,k,s,h=>by rw[xF (by omega)];simp[Xz,Uy,he]
 | n+1,k,s,h=>by
   rw[QZ (Wg (by omega:k<L.length))];simp only[Xz,Uy,hg];cases f k (nth L k) s with
   | next s'=>exact MM hg he n (k+1) s' (by omega)
   | brk t=>rfl
   | ret r=>rfl
def TU (a b:Xe) (x:ByteArray):Bool:=(!(((Xl a x).1==(Xl b x).1)&&(((Xl a x).2.1==(Xl b x).2.1)&&((((Xl a x).2.2).toList==((Xl b x).2.2).toList)&&true))))
theorem Qbf (a b:Xe):Uw a b=Kz a b:=by
 unfold Uw Kz;rw[WB,WB];have hn:zJ (((Qk a).length+(Qk b).length):Int)=(Qk a++Qk b).length:=by rw[yH];omega
 rw[hn,MM (L:=Qk a++Qk b) (f:=λ_ x s=>bif TU a b x then .next (s++ [x]) else .next s) (e:=λ_ s=>s) (g:=Gc a b) (e':=Gd) (λ_ _=>rfl) (λ_ _=>rfl) _ 0 [] (yF _),List.drop_zero,
  U2 (f:=λ_ x s=>bif TU a b x then .next (s++ [x]) else .next s) (e:=λ_ s=>s) (p:=TU a b) (g:=λx:ByteArray=>x) (λ_ _ _=>rfl),Tq (f:=Ge a b) (e:=Gf) (p:=TU a b) (g:=λx:ByteArray=>x) (λ_ _ _=>rfl) (λ_ _=>rfl)]
 rfl
theorem PX {α R:Type} {p:α->Bool} {f:Nat->α->Unit->Rd Int Unit R} {e:Nat->Unit->R} (hf:∀k a,f k a ()=bif p a then .ret ((k:Nat):Int) else .next ()):∀(l:List α) (k:Nat),decide ((Out.on (Xz f e l k ()) (λ_=>(-1:Int)))>=0)=l.any p
 | [],k=>rfl
 | a::l,k=>by
   simp only[Xz,hf,xS];cases p a with
   | true=>simp only[cond_true,Out.on,xW];exact decide_eq_true (by omega)
   | false=>simp only[cond_false,xT];exact PX hf l (k+1)
theorem Qeo {α R:Type} {p:α->Bool} {f:Nat->α->Bool->Rd R Bool Bool} {e:Nat->Bool->Bool} (hf:∀k a s,f k a s= .next (s|| p a)) (he:∀k s,e k s=s):∀(l:List α) (k:Nat) (s:Bool),Xz f e l k s= .brk (s|| l.any p)
 | [],k,s=>by simp[Xz,he]
 | a::l,k,s=>by
   simp only[Xz,hf,xS];rw[Qeo hf he l (k+1),Bool.or_assoc]
theorem MN:∀(q:List Yw) (k:Nat),Out.on (Xz Cz Fv q k ()) (λ_=>false)=q.any J7
 | [],k=>rfl
 | a::q,k=>by
   simp only[Xz,Cz,xS];unfold J7;cases (a.1==(9:Int)) with
   | true=>rfl
   | false=>simp only[cond_false,xT];exact MN q (k+1)
theorem Tc (d:List X0):Ux d=Xv d:=by
 rw[XM];unfold Ux;rw[Bk (f:=Ip) (g:=λa:X0=>a.1) (λ_ _ _=>rfl)];simp[Out.on,Iq]
theorem Qhh (l m:List ByteArray):(l.any λx=>Ua m x)=m.any λx=>V0 x l:=by
 rw[yU,xC,xC];constructor
 . rintro ⟨x,h1,h2⟩;exact ⟨x,(AU _ _).1 h2,(Bt x l).2 h1⟩
 rintro ⟨x,h1,h2⟩;exact ⟨x,(Bt x l).1 h2,(AU _ _).2 h1⟩
theorem PY (d:List X0) (a b:Xe):Vx d a b=Vw d a b:=by
 unfold Vx Vw
 rw[Tc,Ed (f:=Ve a b) (g:=Wi a b) (e:=Um) (e':=H7) (λk x s=>by
  unfold Ve Wi;rw[Qeo (f:=H8 a b) (e:=H9) (p:=λx=>Ua (Uw a b) x) (λ_ _ _=>rfl) (λ_ _=>rfl)];simp only[Out.on];rw[Qhh,Qbf,GB];have e1:X8 (Kz a b) (Ws x.2)=(Kz a b).any λy=>V0 y (Ws x.2):=PX (λ_ _=>rfl) _ 0
  have e2:Yf x.2=x.2.any J7:=PX (λ_ _=>rfl) _ 0;have e3:El x.2=x.2.any J7:=MN x.2 0;rw[e1,e2,e3,Bool.or_comm,Bool.and_comm (a.2.2.2.1 !=b.2.2.2.1)]) (λ_ _=>rfl)]
def BF (d:List X0):EA:=d.map λa=>(a.1,Wy a.2)
theorem PZ (a:X0) (asks:List ByteArray):∀(l:List ByteArray) (k:Nat) (s:List ByteArray),Xz (Un a) Ax l k s= .brk (l.foldl (PT (a.1,asks)) s)
 | [],k,s=>rfl
 | x ::l,k,s=>by
   simp only[Xz,Un,xL];unfold PT;cases h:Ua s x with
   | true=>
     rw[if_pos ((AU s x).1 h),Sw];exact PZ a asks l (k+1) _
   | false=>
     rw[if_neg (λhx=>by rw[(AU s x).2 hx] at h;cases h)];exact PZ a asks l (k+1) s
theorem Qep:∀(d:List X0) (k:Nat) (s:List ByteArray),Xz Uo Ay d k s= .brk (N0 (BF d) s)
 | [],k,s=>rfl
 | a::d,k,s=>by
   simp only[Xz,Uo,MK];rw[PZ a (Wy a.2)];simp only[Out.on];exact Qep d (k+1) _
theorem WC (E:EA) (s:List ByteArray):∀n,D6 E (N0 E s) n=D6 E s (n+1)
 | 0=>rfl
 | n+1=>by show N0 E (D6 E (N0 E s) n)=N0 E (D6 E s (n+1));rw[WC E s n]
theorem Qeq (d:List X0):∀(n k:Nat) (s:List ByteArray),Uy (Up d) Az n k s= .brk (D6 (BF d) s n)
 | 0,k,s=>rfl
 | n+1,k,s=>by
   simp only[Uy,Up];rw[Qep];simp only[Out.on];rw[Qeq d n (k+1),WC]
theorem Qbg (d:List X0) (names:List ByteArray):KF (Ze d names)/\∀x,x∈Ze d names↔Reach (BF d) names x:=by
 unfold Ze;rw[Tq (f:=Av) (e:=Aw) (p:=λ_=>true) (g:=id) (λ_ _ _=>rfl) (λ_ _=>rfl)];simp only[Out.on];rw[Qeq,show zJ ((d.length:Int)+1)=(BF d).length+1 by unfold BF;rw[yV];omega];have h0:KF (E4 [] ((names.filter λ_=>true).map id)):=Ri _ _ yX;exact ⟨KW h0 _,PU h0 λx=>by rw[Rh];simp⟩
theorem Qer (d:List X0) (nm x:ByteArray):x∈Z0 d nm↔∃a,a∈d/\a.1=x/\nm∈Wy a.2:=by
 unfold Z0;rw[U2 (f:=Cc nm) (p:=λa:X0=>Qr (Wy a.2) nm) (g:=λa:X0=>a.1) (λ_ _ _=>rfl)];simp only[Out.on,Ei,yL,List.mem_map,xM,Bt];constructor
 . rintro ⟨a,⟨h1,h2⟩,h3⟩;exact ⟨a,h1,h3,h2⟩
 rintro ⟨a,h1,h3,h2⟩;exact ⟨a,⟨h1,h2⟩,h3⟩
theorem Td:∀(l:List ByteArray) (k:Nat) (s:List ByteArray),∃new,Xz J5 K2 l k s= .brk (s++new)/\(∀x,x∈l->x∈s++new)/\∀x,x∈new->x∈l
 | [],k,s=>⟨[],by simp[Xz,K2],λx hx=>(by cases hx),λx hx=>(by cases hx)⟩
 | a :: l,k,s=>by
   simp only[Xz,J5];cases hc:Qr s a with
   | true=>
     simp only[zN,cond_false];obtain ⟨new,h1,h2,h3⟩:=Td l (k+1) s;refine ⟨new,h1,λx hx=> ?_,λx hx=>zM _ (h3 x hx)⟩;rcases zS.1 hx with rfl | hx
     . exact yB _ ((Bt _ _).1 hc)
     exact h2 x hx
   | false=>
     simp only[zQ,cond_true];obtain ⟨new,h1,h2,h3⟩:=Td l (k+1) (s++ [a]);refine ⟨a::new,by rw[h1,yY];rfl,λx hx=> ?_,λx hx=> ?_⟩
     . rcases zS.1 hx with rfl | hx
       . simp
       have:=h2 x hx;simpa using this
     rcases zS.1 hx with rfl | hx
     . exact zP ..
     exact zM _ (h3 x hx)
structure WorkI (d:List X0) (names:List ByteArray) (s:List ByteArray×Int):Prop where
 all:∀x,x∈names->x∈s.1
 reach:∀x,x∈s.1->Reach (BF d) names x
 pos:0<=s.2
 len:s.2<=(s.1.length:Int)
 done:∀j:Nat,(j:Int)<s.2->∀e,e∈BF d->nth s.1 j∈e.2->e.1∈s.1
theorem Qes {d:List X0} {names:List ByteArray} {s s':List ByteArray×Int} (h:WorkI d names s) (hs:Yt d s= .next s'):WorkI d names s':=by
 unfold Yt at hs;by_cases hc:s.2<(s.1.length:Int)
 . simp only[decide_eq_true hc,cond_true] at hs;obtain ⟨new,h1,h2,h3⟩:=Td (Z0 d (nth s.1 (zJ s.2))) 0 s.1;rw[h1] at hs;simp only[Out.on] at hs;have hs:=Rd.next.inj hs;rw[←hs];have hp:=h.pos
   have hget:∀j:Nat,(j:Int)<s.1.length->nth (s.1++new) j=nth s.1 j:=λj hj=>by
    have hj':j<s.1.length:=by omega
    simp[nth,xZ,yT,hj']
   have hmem:nth s.1 (zJ s.2)∈s.1:=zF (Wg (by omega));refine ⟨λx hx=>yB _ (h.all x hx),λx hx=> ?_,by show 0<=s.2+1;omega,by show s.2+1<=((s.1++new).length:Int);rw[yH];omega,λj hj e he hn=> ?_⟩
   . rcases yA.1 hx with hx | hx
     . exact h.reach x hx
     obtain ⟨a,ha,hax,hq⟩:=(Qer d _ x).1 (h3 x hx);rw[←hax];exact Reach.step (e:=(a.1,Wy a.2)) (zV ha) hq (h.reach _ hmem)
   have hj:(j:Int)<s.2+1:=hj;have hn:nth (s.1++new) j∈e.2:=hn;rw[hget j (by omega)] at hn;by_cases hjs:(j:Int)<s.2
   . exact yB _ (h.done j hjs e he hn)
   have ej:j=zJ s.2:=by omega
   subst ej;obtain ⟨a,ha,rfl⟩:=List.mem_map.1 he;exact h2 a.1 ((Qer d _ _).2 ⟨a,ha,rfl,hn⟩)
 simp only[decide_eq_false hc,cond_false] at hs;cases hs
theorem GC {d:List X0} {names:List ByteArray} (hp:(zD names:Int)+zD d<=1000000):Ze d names=Yg d names:=by
 obtain ⟨h1,h2⟩:=Qbg d names;unfold Yg
 obtain ⟨t,ht⟩:=Tp (f:=Yt d) (λs r=>by
  unfold Yt;by_cases hc:s.2<(s.1.length:Int)
  . simp only[decide_eq_true hc,cond_true];obtain ⟨new,h1,_,_⟩:=Td (Z0 d (nth s.1 (zJ s.2))) 0 s.1;rw[h1];simp[Out.on]
  simp[decide_eq_false hc]) (zD names+zD d+1) (names,0)
 have hj:(∀x,x∈names->x∈t)/\(∀x,x∈t->Reach (BF d) names x)/\XR (BF d) t:=ZV (f:=Yt d) (I:=WorkI d names) (J:=λt=>(∀x,x∈names->x∈t)/\(∀x,x∈t->Reach (BF d) names x)/\XR (BF d) t) (λs s' hi h=>Qes hi h) (λs t hi h=>by
  unfold Yt at h;by_cases hc:s.2<(s.1.length:Int)
  . simp only[decide_eq_true hc,cond_true] at h;obtain ⟨new,h1,_,_⟩:=Td (Z0 d (nth s.1 (zJ s.2))) 0 s.1;rw[h1] at h;simp[Out.on] at h
  simp only[decide_eq_false hc,cond_false] at h;have h:=Rd.brk.inj h;rw[←h];refine ⟨hi.all,hi.reach,λe he a ha hS=> ?_⟩;obtain ⟨j,hjl,hj⟩:=List.getElem_of_mem hS;exact hi.done j (by omega) e he (by rw[Od (zH.2 ⟨hjl,hj⟩)];exact ha)) ⟨λx h=>h,λx h=> .base h,wA 0,by show (0:Int)<=_;omega,λj hj=>by have hj:(j:Int)<0:=hj;omega⟩ (Ez d names hp) ht
 rw[ht];simp only[Out.on]
 exact FC _ _ h1 (Ri _ _ yX) λx=>by
  rw[h2,Rh];exact ⟨λh=> .inl (TR hj.1 hj.2.2 h),λh=>h.elim (hj.2.1 x) λh=>by cases h⟩
theorem RA {d:List X0} (a b:Xe) (hd:zD d<=1000):Hw d a b=Vn d a b:=by
 unfold Hw Vn;rw[PY];have:=VZ d a b;exact GC (by omega)
theorem Nb (s:Qz):Qh s=s:=by
 unfold Qh;rw[Bk (f:=Fh) (e:=Fi) (g:=id) (λ_ _ _=>rfl),yN];rfl
theorem D7 (d:List X0):V1 d=d:=by
 unfold V1;rw[Bk (f:=Lz) (e:=L3) (g:=id) (λ_ _ _=>rfl),yN];rfl
theorem CE (r:List Qm):D4 r=r:=by
 unfold D4;rw[Bk (f:=Il) (e:=Im) (g:=id) (λ_ _ _=>rfl),yN];rfl
theorem Qbh (r:List Qm):Fk r=r:=by
 unfold Fk;rw[Bk (f:=Lg) (e:=Lh) (g:=id) (λ_ _ _=>rfl),yN];rfl
theorem Gp (c:X4):Yj c=c:=by
 unfold Yj;rw[Cm,D3,CE]
theorem N1 (c:X4):Qd c=c:=by
 unfold Qd;rw[Nb,D7,Qbh]
theorem UJ (s:Qz) (n:Int):Xa s n=Qn s n:=by
 unfold Xa Qn;rw[TO];by_cases h:Xw s n>=0
 . rw[decide_eq_true h,decide_eq_false (by omega)];rfl
 rw[decide_eq_false h,decide_eq_true (by omega)];rfl
theorem MO (s:Qz) (f:Xe):Xx s f=X6 s f:=by
 unfold Xx X6;rw[Nb,Cm,Bo,KI];rfl
theorem Qbi (s:Qz) (f:Xe):Zn s f=Xr s f:=by
 unfold Zn Xr;rw[Nb,Cm,Bo,KI,TO];rfl
theorem MP (s:Qz) (id:Int):Yz s id=Zb s id:=by
 unfold Yz Zb;rw[Nb,Cm,Bo,TO];cases hv:Qj s with
 | false=>rfl
 | true=>
   by_cases h:Xw s id<0
   . rw[decide_eq_true h];rfl
   rw[decide_eq_false h];have h1:=T5 s id;have h2:=KO hv;have hw:IntKind.i64.wrap (Xw s id+1)=Xw s id+1:=IntWalk.i64_in _ (by omega);have ht:zJ (Xw s id+1)=zJ (Xw s id)+1:=by omega
   simp only[zN,yS,cond_false]
   first
    | rw[hw,ht];rfl
    | rw[ht];rfl
abbrev Qmb (d:List X0):Prop:=d.Pairwise λa b=>bl a.1 b.1=true
theorem BG {d:List X0} (h:Qw d=true):Qmb d:=by
 have key:KF (d.map (·.1)):=by
  refine FT λi hi=> ?_
  rw[yV] at hi;have e:∀j,j<d.length->nth (d.map (·.1)) j=(nth d j).1:=λj hj=>by simp[nth,xZ,hj]
  rw[e i (by omega),e (i+1) hi];have:=ZU h (i+1) _ (Wg hi);unfold Zl at this;rw[decide_eq_true (show ((i+1:Nat):Int)>0 by omega),show zJ (((i+1:Nat):Int)-1)=i by omega] at this;simp only[cond_true] at this;cases hb:bl (nth d i).1 (nth d (i+1)).1 with
  | true=>rfl
  | false=>
    unfold bl at hb;rw[hb] at this;simp at this
 exact List.pairwise_map.1 key
def MQ (x:X0):List X0->List X0
 | []=> [x]
 | a::l=>if bl a.1 x.1=true then a::MQ x l else if a.1=x.1 then x::l else x::a::l
theorem Qkm {a b:ByteArray} (h:bl a b=true):a≠b:=λe=>by subst e;rw[SU] at h;cases h
theorem BH (x:X0):∀(l:List X0) (k:Nat) (s:List X0),(∀a,a∈l->a.1≠x.1)->Xz (Eo x) Is l k (s,true)= .brk (s++l,true)
 | [],k,s,_=>by simp[Xz,Is]
 | a::l,k,s,h=>by
   have ha:(a.1.toList==x.1.toList)=false:=by rw[toList_inj];exact decide_eq_false (h a (zP ..))
   simp only[Xz,Eo,ha,zN,yD,cond_false,zQ,cond_true];rw[BH x l (k+1) (s++ [a]) λb hb=>h b (zM _ hb),yY];rfl
theorem MR (x:X0):∀(l:List X0) (k:Nat) (s:List X0),Qmb l->∃y b,Xz (Eo x) Is l k (s,false)= .brk (y,b)/\(bif !b then y++ [x] else y)=s++MQ x l
 | [],k,s,_=>⟨s,false,rfl,rfl⟩
 | a :: l,k,s,h=>by
   obtain ⟨h1,h2⟩:=yM.1 h;simp only[Xz,Eo];cases hb:Op.bytesLess a.1.toList x.1.toList with
   | true=>
     have hb':bl a.1 x.1=true:=hb;have ha:(a.1.toList==x.1.toList)=false:=by rw[toList_inj];exact decide_eq_false (Qkm hb')
     simp only[ha,zN,zQ,yP,cond_false,cond_true];obtain ⟨y,b,h3,h4⟩:=MR x l (k+1) (s++ [a]) h2;refine ⟨y,b,h3, ?_⟩;rw[h4,MQ,if_pos hb',yY];rfl
   | false=>
     have hb':¬bl a.1 x.1=true:=by unfold bl;rw[hb];simp
     by_cases e:a.1=x.1
     . have ha:(a.1.toList==x.1.toList)=true:=by rw[toList_inj];exact decide_eq_true e
       simp only[ha,zN,zQ,xU,cond_false,cond_true];refine ⟨_,_,BH x l (k+1) _ λc hc=> ?_, ?_⟩
       . have:=Qkm (h1 c hc);rw[e] at this;exact this.symm
       rw[MQ,if_neg hb',if_pos e];simp
     have ha:(a.1.toList==x.1.toList)=false:=by rw[toList_inj];exact decide_eq_false e
     simp only[ha,zQ,xU,cond_true];have hx:bl x.1 a.1=true:=Qii (by cases hq:bl a.1 x.1 with | true=>exact (hb' hq).elim | false=>rfl) (Ne.symm e);refine ⟨_,_,BH x l (k+1) _ λc hc=> ?_, ?_⟩
     . exact (Qkm (UA hx (h1 c hc))).symm
     rw[MQ,if_neg hb',if_neg e];simp
theorem Qet (x:X0):∀(l:List X0) (i:Nat) (a:X0),Qmb l->l[i]? =some a->a.1=x.1->l.set i x=MQ x l
 | [],i,a,_,h,_=>by simp at h
 | b::l,0,a,h,hi,e=>by
   obtain rfl:b=a:=by simpa using hi
   rw[MQ,if_neg (by rw[e,SU];simp),if_pos e];rfl
 | b::l,i+1,a,h,hi,e=>by
   obtain ⟨h1,h2⟩:=yM.1 h;have hi:l[i]? =some a:=by simpa using hi
   have hb:=h1 a (zF hi);rw[e] at hb;rw[MQ,if_pos hb,List.set_cons_succ,Qet x l i a h2 hi e]
theorem Qeu (x:X0):∀(l:List X0) (k:Nat),(∀a,a∈l->a.1≠x.1)->(Xz (Jh x) J4 l k ()= .brk ()/\MQ x l=l++ [x])\/∃j:Nat,j<l.length/\Xz (Jh x) J4 l k ()= .ret (((k+j:Nat)):Int)/\MQ x l=N7 l j x
 | [],k,_=> .inl ⟨rfl,rfl⟩
 | a :: l,k,h=>by
   have hn:=h a (zP ..)
   have hx:Cn a x= !(bl a.1 x.1):=by
    unfold Cn bl;rw[toList_inj,decide_eq_false hn,yS]
   simp only[Xz,Jh,hx];cases hb:bl a.1 x.1 with
   | false=>
     right
     refine ⟨0,by simp,rfl, ?_⟩;rw[MQ,if_neg (by rw[hb];simp),if_neg hn];rfl
   | true=>
     simp only[zN,cond_false];rcases Qeu x l (k+1) λb hb=>h b (zM _ hb) with ⟨h1,h2⟩ | ⟨j,h1,h2,h3⟩
     . left
       refine ⟨h1, ?_⟩;rw[MQ,if_pos hb,h2];rfl
     right
     refine ⟨j+1,by simpa using h1,by rw[h2,show k+1+j=k+(j+1) by omega], ?_⟩;rw[MQ,if_pos hb,h3];simp[N7]
theorem Qev {d:List X0} (x:X0) (hv:Qw d=true):Y3 d x=bif Qw (MQ x d) then (MQ x d,true) else (d,false):=by
 have ha:=BG hv
 have fin:∀y,(bif ((!(Qw d))|| (!(Qw y))) then (d,false) else (y,true))=bif Qw y then (y,true) else (d,false):=λy=>by
  rw[hv];cases Qw y<;>rfl
 unfold Y3;rw[D3];rcases ME d x.1 with ⟨h1,h2⟩ | ⟨i,a,h1,h2,h3⟩
 . rw [h1,decide_eq_false (show¬(-1:Int)>=0 by omega)];simp only[cond_false];rcases Qeu x d 0 h2 with ⟨h4,h5⟩ | ⟨j,h4,h5,h6⟩
   . have hidx:Q6 d x= -1:=by unfold Q6;rw[h4];rfl
     rw[hidx,decide_eq_true (show (-1:Int)<0 by omega),cond_true,h5]
     have e:N7 d (zJ (d.length:Int)) (Yx x)=d++ [x]:=by
      rw[zO];simp[N7,Yx]
     rw[e];exact fin _
   have hidx:Q6 d x=((j:Nat):Int):=by unfold Q6;rw[h5,yF];rfl
   rw[hidx,decide_eq_false (show¬((j:Nat):Int)<0 by omega),cond_false,h6,zO];exact fin _
 rw[h3,decide_eq_true (show ((i:Nat):Int)>=0 by omega),cond_true,zO,←Qet x d i a ha h1 h2];exact fin _
theorem Qew (d:List X0) (x:X0):Jb d x=Y3 d x:=by
 cases hv:Qw d with
 | false=>
   have hv':Ys d=false:=(De d).symm.trans hv;unfold Jb Y3;rw[hv',hv,D7,D3];simp only[zQ,cond_true,xW];generalize decide (_>=(0:Int))=c1;generalize decide (_<(0:Int))=c2;cases c1<;>cases c2<;>rfl
 | true=>
   rw[Qev x hv];have hv':Ys d=true:=(De d).symm.trans hv;unfold Jb;rw[hv',D7];simp only[zN,cond_false];obtain ⟨y,b,h1,h2⟩:=MR x d 0 [] (BG hv);rw[h1];simp only[Out.on,yL] at h2⊢;cases b with
   | false=>
     simp only[zQ,cond_true] at h2⊢;rw[D7,h2,←De];cases Qw (MQ x d)<;>rfl
   | true=>
     simp only[zN,cond_false] at h2⊢;rw[D7,h2,←De];cases Qw (MQ x d)<;>rfl
theorem EC (nm:ByteArray):∀(l:List X0) (i:Nat) (a:X0),(l.map (·.1)).Nodup->l[i]? =some a->a.1=nm->(l.filter λb=> !(b.1.toList==nm.toList))=BY l i
 | [],i,a,_,h,_=>by simp at h
 | b ::l,0,a,h,hi,e=>by
   obtain rfl:b=a:=by simpa using hi
   rw[xA] at h;have hn:=(xK.1 h).1;have hb:(!(b.1.toList==nm.toList))=false:=by rw[toList_inj,decide_eq_true e];rfl
   rw[xE (by simp[hb])]
   have hall:∀c,c∈l->(!(c.1.toList==nm.toList))=true:=λc hc=>by
    rw[toList_inj,decide_eq_false (λe2=>hn (by rw[e,←e2];exact zV hc))];rfl
   rw[List.filter_eq_self.2 hall];rfl
 | b ::l,i+1,a,h,hi,e=>by
   have hi:l[i]? =some a:=by simpa using hi
   rw[xA] at h;obtain ⟨hn,h2⟩:=xK.1 h
   have hb:(!(b.1.toList==nm.toList))=true:=by
    rw[toList_inj,decide_eq_false (λe2=>hn (by rw[e2,←e];exact zV (zF hi)))];rfl
   rw[xD (p:=λb:X0=> !(b.1.toList==nm.toList)) hb,EC nm l i a h2 hi e];rfl
theorem MS (d:List X0) (nm:ByteArray):Kw d nm=Z9 d nm:=by
 unfold Kw Z9;rw[←De,Qgr,D7,D3,U2 (f:=Ms nm) (p:=λb:X0=> !(b.1.toList==nm.toList)) (g:=id) (λ_ _ _=>rfl)];cases hv:Qw d with
 | false=>rfl
 | true=>
   rcases ME d nm with ⟨h1,h2⟩ | ⟨i,a,h1,h2,h3⟩
   . rw[h1];rfl
   rw[h3,decide_eq_false (show¬((i:Nat):Int)<0 by omega),zO];simp only[zN,yS,cond_false,Out.on,Mt,yL,yN];rw[D7,EC nm d i a (XQ hv) h1 h2]
theorem RB {d:List X0} {nm:ByteArray} (h:(Z9 d nm).2=true):Qw d=true/\∀a,a∈(Z9 d nm).1->a∈d:=by
 unfold Z9 at h⊢;rw[D3] at h⊢;generalize hc:((!(Qw d))|| decide ((Q8 d nm)<(0:Int)))=c at h⊢;cases c with
 | true=>simp at h
 | false=>
   refine ⟨Za (Re hc),λa ha=> ?_⟩;rcases yA.1 ha with ha | ha
   . exact List.mem_of_mem_take ha
   exact List.mem_of_mem_drop ha
theorem Qex {d d':List X0} (hv:Qw d=true) (hs:d'.Sublist d):Qw d'=true:=by
 have ha:Qmb d':=List.Pairwise.sublist hs (BG hv);have hl:=Hg hv;have hl':=hs.length_le;unfold Qw;rw[Rg d' 0 (λi a hi=> ?_)]
 . exact decide_eq_true (show (d'.length:Int)<=5 by omega)
 have hm:a∈d:=hs.subset (zF hi);obtain ⟨j,hj⟩:=zW hm;have hr:=ZU hv j a hj;rw[yF];have hstr:Zd a.1=true:=MC hv hm
 have hq:Xb a.2=true:=by
  cases hq:Xb a.2 with
  | true=>rfl
  | false=>
    unfold Zl at hr;rw[hq] at hr;cases decide (((j:Nat):Int)>(0:Int))<;>simp at hr
 unfold Zl;rw[hstr,hq];by_cases h0:0<i
 . have hlt:i-1<d'.length:=by have:=(zH.1 hi).1;omega
   have hb:bl (nth d' (i-1)).1 a.1=true:=by
    obtain ⟨h1,h2⟩:=zH.1 hi;have:=yW.1 ha (i-1) i hlt h1 (by omega);rw[h2] at this;rw[Od (yC hlt)];exact this
   unfold bl at hb;rw[show zJ (((i:Nat):Int)-1)=i-1 by omega,hb,decide_eq_true (show ((i:Nat):Int)>0 by omega)];rfl
 obtain rfl:i=0:=by omega
 rfl
theorem CF {d:List X0} {nm:ByteArray} (hs:(Qx d).2=true) (h:(Z9 d nm).2=true):(Qx (Z9 d nm).1).2=true:=by
 obtain ⟨hv,hsub⟩:=RB h;refine Qbe hs (Qex hv ?_) hsub;unfold Z9;rw[D3];generalize ((!(Qw d))|| _:Bool)=c;cases c with
 | true=>exact List.Sublist.refl d
 | false=>
   have h1:(xR (zJ (Q8 d nm)+1) d).Sublist (xR (zJ (Q8 d nm)) d):=by
    rw[←List.drop_drop];exact List.drop_sublist _ _
   have:=List.Sublist.append (List.Sublist.refl (xY (zJ (Q8 d nm)) d)) h1;rw[xO] at this;exact this
theorem BI (a b:List Qm):Bg a b=Hv a b:=by
 unfold Bg Hv J8
 rw[Ed (f:=A0 b) (g:=Z6 b) (e:=Cu) (e':=Jt) (λk x s=>by
  unfold A0 Z6 Ho;rw[UF,PH,←Bool.not_and]) (λ_ _=>rfl)]
theorem Pw (c:X4):Xq c=Xo c:=by
 unfold Xq Xo;rw[Rn,BI]
theorem C3 {c:X4} (h:Xo c=true):(Qx c.2.1).2=true:=by
 unfold Xo Yu Yn at h;cases hS:(Qx c.2.1).2 with
 | true=>rfl
 | false=>rw[hS] at h;simp at h
theorem Qhi {s:Qz} {d:List X0} {r:List Qm} {names:List ByteArray} (hs:(Qx d).2=true) (hv:Qj s=true):∃o p,Yn s d r names=(o,p,true)/\Vs s d r names=(o,true):=by
 obtain ⟨h1,h2⟩:=Oi (L:=((Qx d)).1) (on:=onD d names) (fs:=s.2.1) (g:=D1 r names) (f:=Jq r names) (e:=Ki) (d:=d) (λk a s=>by
  unfold Jq D1;cases Qr names a.1<;>rfl) (λj _ hj=>by unfold onD at hj;unfold D1;rw[hj];rfl)
 obtain ⟨h3,_⟩:=Oi (L:=((Qx d)).1) (on:=onD d names) (fs:=s.2.1) (g:=D1 r names) (f:=U6 r names) (e:=Ak) (d:=d) Qel (λj _ hj=>by unfold onD at hj;unfold D1;rw[hj];rfl)
 have key:∀(n k:Nat) (o:List Qm) (p:Int),EvS d ((Qx d)).1 (onD d names) s.2.1 (((k:Nat)):Int) o->∃o' p',Uy (Jr s d names) Be n k (o,p)= .brk (o',p')/\Uy (En s d names) Lf n k o= .brk o':=by
  intro n
  induction n with
  | zero=>intro k o p _;exact ⟨o,p,rfl,rfl⟩
  | succ n ih=>
    intro k o p ho;obtain ⟨o1,p1,g1,g2⟩:=Cs (p:=p) hs ho;have g1':=FW (MA s d names k) _ o p true _ g1;obtain ⟨o2,p2,g3,g4⟩:=ih (k+1) o1 p1 (by rw[xJ];exact g2);refine ⟨o2,p2, ?_, ?_⟩
    . simp only[Uy];unfold Jr I0;rw[g1];exact g3
    simp only[Uy];unfold En I0;rw[g1'];exact g4
 obtain ⟨o,p,g1,g2⟩:=key (zJ (Vp d+1)) 0 _ 0 h2;refine ⟨o,p, ?_, ?_⟩
 . unfold Yn;rw[hs,hv,h1];simp only[zN,xX,cond_false,Out.on,Ki];rw[g1]
 unfold Vs;rw[W8,Bo,ZI,hs,hv,h3];simp only[zN,xX,cond_false,Out.on,Ak];rw[g2]
theorem XS {c:X4} {s:Qz} {d:List X0} {names:List ByteArray} (hs:(Qx d).2=true) (hv:Qj s=true):(Vf c s d names).1=(Yo c s d names).1/\(Yo c s d names).2.2=true/\(Yo c s d names).1.1=s/\(Yo c s d names).1.2.1=d:=by
 obtain ⟨o,p,h1,h2⟩:=Qhi (s:=s) (d:=d) (r:=c.2.2) (names:=names) hs hv;unfold Yo Vf Wt;rw[h1,h2,Cm,D3];exact ⟨rfl,rfl,rfl,rfl⟩
theorem Rs {s:Qz} (f:Xe) (h:Qj s=true):Qj (X6 s f).1=true:=by
 rw[←Bo,←MO];exact Ot (LX f (Qhd ((Bo s).trans h))).1
theorem GD {s:Qz} (id:Int) (h:Qj s=true):Qj (Zb s id).1=true:=by
 rw[←Bo,←MP];exact Ot (LY id (Qhd ((Bo s).trans h))).1
theorem Qhj {s:Qz} {n:Int} (h:0<=Xw s n):(nth s.2.1 (zJ (Xw s n))).1=n:=by
 have key:∀(l:List Xe) (k:Nat),Xz (Yv n) Zv l k ()= .brk ()\/∃(i:Nat) (a:Xe),l[i]? =some a/\a.1=n/\Xz (Yv n) Zv l k ()= .ret (((k+i:Nat)):Int):=by
  intro l
  induction l with
  | nil=>exact λk=> .inl rfl
  | cons a l ih=>
    intro k;simp only[Xz,Yv];by_cases ha:a.1=n
    . have e:Cl a n=true:=beq_iff_eq.2 ha;rw[e];exact .inr ⟨0,a,rfl,ha,rfl⟩
    have e:Cl a n=false:=beq_eq_false_iff_ne.2 ha;simp only[e,cond_false];rcases ih (k+1) with h | ⟨i,b,h1,h2,h3⟩
    . exact .inl h
    exact .inr ⟨i+1,b,by simpa using h1,h2,by rw[h3,show k+1+i=k+(i+1) by omega]⟩
 unfold Xw Km at h⊢;rcases key s.2.1 0 with h1 | ⟨i,a,h1,h2,h3⟩
 . rw[h1] at h;have h:(0:Int)<=-1:=h;omega
 rw[h3,yF];simp only[Out.on,zO];rw[Od h1];exact h2
theorem O9 {s:Qz} (f:Xe) (h:Qj s=true):Qj (Xr s f).1=true:=by
 have hvs:=Qhd ((Bo s).trans h);unfold Xr;rw[Cm,h];by_cases hc:Xw s f.1<0
 . rw[decide_eq_true hc];exact h
 rw[decide_eq_false hc];cases hf:Yc s.1 f with
 | false=>exact h
 | true=>
   have hid:=Qhj (s:=s) (n:=f.1) (by omega);have hlt:=T5 s f.1;generalize Xw s f.1=p at hc hid hlt;obtain ⟨k,rfl⟩:∃k:Nat,p=(k:Int):=⟨p.toNat,by omega⟩;rw[zO] at hid;have hk:k<s.2.1.length:=by omega
   show Qj (s.1,xB s.2.1 (zJ (k:Int)) f,s.2.2)=true;rw[zO,←Bo]
   have hget:∀(i:Nat) (a:Xe),(s.2.1.set k f)[i]? =some a->(i=k/\a=f)\/(i≠k/\s.2.1[i]? =some a):=λi a hi=>by
    rw[List.getElem?_set] at hi;by_cases e:k=i
    . subst e;rw[if_pos rfl,if_pos hk] at hi;exact .inl ⟨rfl,(xI hi).symm⟩
    rw[if_neg e] at hi;exact .inr ⟨Ne.symm e,hi⟩
   have hold:=Wg hk;have hoid:=hvs.file k _ hold;refine Ot ⟨hvs.sch,by show (s.2.1.set k f).length<=12;rw[zR];exact hvs.len,hvs.nx1,hvs.nx2,λi a hi=> ?_,λi a b ha hb=> ?_⟩
   . rcases hget i a hi with ⟨_,rfl⟩ | ⟨_,hi⟩
     . exact ⟨(KI s.1 a).trans hf,by show a.1<s.2.2;rw[←hid];exact hoid.2⟩
     exact hvs.file i a hi
   rcases hget i a ha with ⟨h1,e1⟩ | ⟨_,ha'⟩
   . rcases hget (i+1) b hb with ⟨h2,_⟩ | ⟨_,hb'⟩
     . omega
     rw[e1,←hid];exact hvs.asc i _ b (by rw[h1];exact hold) hb'
   rcases hget (i+1) b hb with ⟨h2,e2⟩ | ⟨_,hb'⟩
   . rw[e2,←hid];exact hvs.asc i a _ ha' (by rw[h2];exact hold)
   exact hvs.asc i a b ha' hb'
structure OpEq (x y:X4) (a b:Bool) (c:X4):Prop where
 cat:x=y
 ok:a=b
 no:b=false->y=c
theorem Qbj (c:X4) (f:Xe):OpEq (Ja c f).1 (Zw c f).1 (Ja c f).2.2.2 (Zw c f).2.2.2 c:=by
 unfold Ja Zw;rw[N1,Gp,Pw,Tc];have e:((c.1.1,c.1.2.1,c.1.2.2):Qz)=c.1:=rfl;rw[e,MO];cases hc:Xo c with
 | false=>cases (X6 c.1 f).2.2<;>exact ⟨rfl,rfl,λ_=>rfl⟩
 | true=>
   cases hk:(X6 c.1 f).2.2 with
   | false=>exact ⟨rfl,rfl,λ_=>rfl⟩
   | true=>
     obtain ⟨t1,t2,_⟩:=XS (c:=c) (names:=Xv c.2.1) (C3 hc) (Rs f (W9 hc).2);exact ⟨t1,t2.symm,λh=>by have h:(Yo c (X6 c.1 f).1 c.2.1 (Xv c.2.1)).2.2=false:=h;rw[t2] at h;cases h⟩
theorem GE (c:X4) (f:Xe):OpEq (Zj c f).1 (Zo c f).1 (Zj c f).2.2 (Zo c f).2.2 c:=by
 unfold Zj Zo;rw[N1,Gp,Pw];have e:((c.1.1,c.1.2.1,c.1.2.2):Qz)=c.1:=rfl;rw[e,Qbi,UJ];cases hc:Xo c with
 | false=>cases (Xr c.1 f).2<;>exact ⟨rfl,rfl,λ_=>rfl⟩
 | true=>
   cases hk:(Xr c.1 f).2 with
   | false=>exact ⟨rfl,rfl,λ_=>rfl⟩
   | true=>
     rw[RA _ _ (by have:=(W9 hc).1;omega)];obtain ⟨t1,t2,_⟩:=XS (c:=c) (names:=Vn c.2.1 (Qn c.1 f.1).1 f) (C3 hc) (O9 f (W9 hc).2);exact ⟨t1,t2.symm,λh=>by have h:(Yo c (Xr c.1 f).1 c.2.1 (Vn c.2.1 (Qn c.1 f.1).1 f)).2.2=false:=h;rw[t2] at h;cases h⟩
theorem GF (c:X4) (id:Int):OpEq (Zk c id).1 (Ka c id).1 (Zk c id).2.2 (Ka c id).2.2 c:=by
 unfold Zk Ka;rw[N1,Gp,Pw,Tc];have e:((c.1.1,c.1.2.1,c.1.2.2):Qz)=c.1:=rfl;rw[e,MP];cases hc:Xo c with
 | false=>cases (Zb c.1 id).2<;>exact ⟨rfl,rfl,λ_=>rfl⟩
 | true=>
   cases hk:(Zb c.1 id).2 with
   | false=>exact ⟨rfl,rfl,λ_=>rfl⟩
   | true=>
     obtain ⟨t1,t2,_⟩:=XS (c:=c) (names:=Xv c.2.1) (C3 hc) (GD id (W9 hc).2);exact ⟨t1,t2.symm,λh=>by have h:(Yo c (Zb c.1 id).1 c.2.1 (Xv c.2.1)).2.2=false:=h;rw[t2] at h;cases h⟩
theorem MT (c:X4) (x:X0):OpEq (Zf c x).1 (Kv c x).1 (Zf c x).2.2 (Kv c x).2.2 c:=by
 unfold Zf Kv;rw[N1,Gp,Pw];have e:((c.1.1,c.1.2.1,c.1.2.2):Qz)=c.1:=rfl;have es:∀d,Ym d=Ky d:=λd=>by unfold Ym Ky;rw[W8]
 rw[e,Qew,es];cases hc:Xo c with
 | false=>cases (Y3 c.2.1 x).2<;>exact ⟨rfl,rfl,λ_=>rfl⟩
 | true =>
   cases hk:(Y3 c.2.1 x).2 with
   | false=>exact ⟨rfl,rfl,λ_=>rfl⟩
   | true=>
     cases hst:Ky (Y3 c.2.1 x).1 with
     | false=>exact ⟨rfl,rfl,λ_=>rfl⟩
     | true=>
       rw[GC (by have:=LV hst;simp only[zK,zT];omega)];obtain ⟨t1,t2,_⟩:=XS (c:=c) (s:=c.1) (names:=Yg (Y3 c.2.1 x).1 [x.1]) (d:=(Y3 c.2.1 x).1) hst (W9 hc).2;exact ⟨t1,t2.symm,λh=>by have h:(Yo c c.1 (Y3 c.2.1 x).1 (Yg (Y3 c.2.1 x).1 [x.1])).2.2=false:=h;rw[t2] at h;cases h⟩
theorem BJ (f:Xe) (u:Int):Bv f u=Wn f u:=rfl
theorem QC (c:X4) (u:Int) (x:E3):OpEq (Qs c u x).1 (Q0 c u x).1 (Qs c u x).2.2 (Q0 c u x).2.2 c:=by
 unfold Qs Q0;have hu:Xf u 0 2=Je u:=rfl;have E:∀a b:Int,a≠b->(a==b)=false:=λa b h=>beq_eq_false_iff_ne.2 h
 rw[N1,Gp,Pw,hu];cases hc:Xo c with
 | false=>cases Je u<;>exact ⟨rfl,rfl,λ_=>rfl⟩
 | true =>
   cases Je u with
   | false=>exact ⟨rfl,rfl,λ_=>rfl⟩
   | true =>
     simp only[xU,zN,xX,cond_false];rw[UJ,UJ,BJ,BJ];obtain ⟨kd,f,id,dir⟩:=x;dsimp only;by_cases h1:kd=1
     . subst h1;have A:=Qbj c f;simp only[beq_self_eq_true,yJ,cond_true,E 1 2 (by decide),E 1 3 (by decide),E 1 4 (by decide),E 1 5 (by decide),yD,cond_false];cases (f.2.1==u) with
       | false=>exact ⟨rfl,rfl,λ_=>rfl⟩
       | true=>
         simp only[cond_true];rw[A.ok];cases hb:(Zw c f).2.2.2 with
         | false=>exact ⟨(A.no hb).symm,rfl,λ_=>A.no hb⟩
         | true=>exact ⟨A.cat,rfl,λh=>by cases h⟩
     by_cases h2:kd=2
     . subst h2;have A:=GE c f;simp only[beq_self_eq_true,yJ,cond_true,E 2 1 (by decide),E 2 3 (by decide),E 2 4 (by decide),E 2 5 (by decide),yD,cond_false];cases (f.2.1==u) with
       | false=>
         simp only[cond_false,yP];exact ⟨rfl,rfl,λ_=>rfl⟩
       | true=>
         simp only[cond_true,xV];rw[A.ok];cases ((Qn c.1 f.1).2&&Wn (Qn c.1 f.1).1 u) with
         | false=>
           simp only[yP,zQ,cond_true,cond_false];exact ⟨rfl,rfl,λ_=>rfl⟩
         | true=>
           simp only[xV,cond_true];cases hb:(Zo c f).2.2 with
           | false=>exact ⟨(A.no hb).symm,rfl,λ_=>A.no hb⟩
           | true=>exact ⟨A.cat,rfl,λh=>by cases h⟩
     by_cases h3:kd=3
     . subst h3;have A:=GF c id;simp only[beq_self_eq_true,yJ,cond_true,E 3 1 (by decide),E 3 2 (by decide),E 3 4 (by decide),E 3 5 (by decide),yD,cond_false];rw[A.ok];cases ((Qn c.1 id).2&&Wn (Qn c.1 id).1 u) with
       | false=>
         simp only[yP,zQ,cond_true,cond_false];exact ⟨rfl,rfl,λ_=>rfl⟩
       | true=>
         simp only[xV,cond_true];cases hb:(Ka c id).2.2 with
         | false=>exact ⟨(A.no hb).symm,rfl,λ_=>A.no hb⟩
         | true=>exact ⟨A.cat,rfl,λh=>by cases h⟩
     by_cases h4:kd=4
     . subst h4;have A:=MT c dir;simp only[beq_self_eq_true,yJ,cond_true,E 4 1 (by decide),E 4 2 (by decide),E 4 3 (by decide),E 4 5 (by decide),yD,cond_false];rw[A.ok];cases hb:(Kv c dir).2.2 with
       | false=>exact ⟨(A.no hb).symm,rfl,λ_=>A.no hb⟩
       | true=>exact ⟨A.cat,rfl,λh=>by cases h⟩
     by_cases h5:kd=5
     . subst h5;simp only[beq_self_eq_true,yJ,cond_true,E 5 1 (by decide),E 5 2 (by decide),E 5 3 (by decide),E 5 4 (by decide),yD,cond_false];unfold Zs;rw[MS];cases hk:(Z9 c.2.1 dir.1).2 with
       | false=>exact ⟨rfl,rfl,λ_=>rfl⟩
       | true=>
         rw[GC (by have:=(W9 hc).1;simp only[zK,zT];omega)];obtain ⟨t1,t2,_⟩:=XS (c:=c) (s:=c.1) (names:=Yg c.2.1 [dir.1]) (d:=(Z9 c.2.1 dir.1).1) (CF (C3 hc) hk) (W9 hc).2;exact ⟨t1,t2.symm,λh=>by have h:(Yo c c.1 (Z9 c.2.1 dir.1).1 (Yg c.2.1 [dir.1])).2.2=false:=h;rw[t2] at h;cases h⟩
     simp only[E kd 1 h1,E kd 2 h2,E kd 3 h3,E kd 4 h4,E kd 5 h5,yD,cond_false];exact ⟨rfl,rfl,λ_=>rfl⟩
open GoD (rd own)
def inR (n lo hi:Int):Bool:=decide (lo<=n)&&decide (n<=hi)
theorem TV {n lo hi:Int} (h1:lo<=n) (h2:n<=hi):inR n lo hi=true:=by simp[inR,h1,h2]
end
section
open Go.RowKit
open GoD (rd own)
theorem Qhk (w:World) (k:Nat) (os:Array Obj):Below w.heap.size w (Go.Sort.grow (w.drewN k) os):=
 ⟨rfl,rfl,rfl,by rw[Go.Sort.size_grow];exact Nat.le_add_right _ _,λj hj=>by
  unfold Go.Sort.grow;rw[Array.getElem?_append,if_pos (by exact hj)];rfl⟩
theorem Qhl (w:World) (d:Nat) (hd:d<10):Calls Tryz.prog 214 #[.int .i64 d] w (Ret w (.int .u8 (48+(d:Int)))):=by
 have h1:(d:Int)<10:=by omega
 have h2:IntKind.i64.wrap (48+(d:Int))=48+(d:Int):=by rw[IntKind.wrap_i64];omega
 go_enter Tryz.func214,Tryz.ntmps214
 go_wp2
 go_ret
 exact ⟨rfl,Below.refl _ _⟩
def tabOk (w : World) : Prop := Lib.TabIs Tryz.prog w "internal/strconv.uint64pow10" .u64 Lib.pow10Tab
theorem gTab : Tryz.prog.globalNamed "internal/strconv.uint64pow10" = some 0 := by kernel_rfl
theorem tabOk.keep {w w':World} (h:tabOk w) (hb:Below w.heap.size w w'):tabOk w':=Go.Joins.tab_stays gTab h hb (Nat.le_refl _)
def Hk (n:Int):ByteArray:=⟨(Lib.itoa n).toArray⟩
theorem BK (w:World) (n:Int) (hn:I64 n) (ht:tabOk w):Calls Tryz.prog 170 #[.int .i64 n] w (Ret w (.string (Hk n))):=by
 have hcon:=Sh.strconv_Itoa n hn.1 hn.2 w ht;rw[show (⟨(Lib.itoa n).toArray⟩:ByteArray)=Hk n from rfl] at hcon;generalize Hk n=s at*;clear ht hn;go_enter Tryz.func170,Tryz.ntmps170
 go_wp2_with (go_at_call 211;refine hcon.mono ?_;rintro e w' ⟨rfl,k,os,rfl⟩;have hb:=Qhk w k os;generalize Go.Sort.grow (w.drewN k) os=w9 at*)
 go_ret
 exact ⟨rfl,hb⟩
theorem Qkn:∀(u:Nat),u<1000->(Lib.decDigits u).length<=3:=by
 intro u hu;rw[Lib.decDigits];split
 . simp
 rw[Lib.decDigits];split
 . simp
 rw[Lib.decDigits];split
 . simp
 omega
theorem MU {n:Int} (h:inR n 0 999=true):(Hk n).size<=20:=by
 unfold inR at h;simp only[zU,decide_eq_true_eq] at h;have h1:=Qkn n.toNat (by omega);unfold Hk Lib.itoa;rw[if_neg (by omega)];show (Lib.decDigits n.toNat).toArray.size<=20;simp only[List.size_toArray];omega
theorem Qhm {n:Nat} (h:¬n<10):Lib.decDigits n=Lib.decDigits (n / 10)++ [zX (48+n % 10)]:=by rw[Lib.decDigits,dif_neg h]
theorem MV {n:Nat} (h:n<10):Lib.decDigits n= [zX (48+n)]:=by rw[Lib.decDigits,dif_pos h]
def XT (n:Nat):List UInt8:=if n=0 then [] else Lib.decDigits n
theorem Qey {n:Nat} (h:n≠0) (t:List UInt8):XT (n / 10)++(zX (48+n % 10)::t)=XT n++t:=by
 unfold XT;rw[if_neg h];by_cases h10:n<10
 . rw[if_pos (by omega),MV h10,show n % 10=n by omega];rfl
 rw[if_neg (by omega),Qhm h10];simp
theorem Qhn (d:Nat) (hd:d<10) (s:ByteArray):(⟨#[zX (48+d)]⟩:ByteArray)++s=⟨(zX (48+d)::s.data.toList).toArray⟩:=by
 apply ByteArray.ext;rw[ByteArray.data_append];apply Array.toList_inj.1;simp
set_option maxRecDepth 20000 in
theorem BL (w:World) (n:Int) (hn:I64 n) (hr:inR n 0 999=true):Calls Tryz.prog 173 #[.int .i64 n] w (Ret w (.string (Hk n))):=by
 unfold inR at hr;simp only[zU,decide_eq_true_eq] at hr;obtain ⟨m,rfl⟩:∃m:Nat,n=m:=⟨n.toNat,by omega⟩;have hm:m<1000:=by omega
 clear hr hn
 have hnum:Hk (m:Int)=⟨(Lib.decDigits m).toArray⟩:=by
  unfold Hk Lib.itoa;rw[if_neg (by omega)];rfl
 generalize Hk (m:Int)=res at*;have HRES:=Lib.hid hnum;clear hnum;by_cases h0:m=0
 . subst h0;have hr:res=⟨#[48]⟩:=by rw[HRES.out,MV (by omega)];rfl
   subst hr;clear HRES;go_enter Tryz.func173,Tryz.ntmps173
   go_wp2
   go_ret
   exact ⟨rfl,Below.refl _ _⟩
 have hm0:¬((m:Int)=0):=by omega
 have hm1:¬((m:Int)<0):=by omega
 go_enter Tryz.func173,Tryz.ntmps173
 go_wp2
 go_loopw [0,4] (λi s wr=>∃(k:Nat) (t:ByteArray),k<1000/\i= .int .i64 k/\s= .string t/\t.size<=1000-k/\Below w.heap.size w wr/\Hid (XT k++t.data.toList=Lib.decDigits m)) (λi _ _=>(intOf i).toNat)
 case atStart=>exact ⟨m,⟨#[]⟩,hm,rfl,rfl,by simp[zE],Below.refl _ _,Lib.hid (by unfold XT;rw[if_neg h0];simp)⟩
 case round=>
  obtain ⟨k,t,hk,rfl,rfl,hts,hB,hd⟩:=hrel;by_cases hk0:k=0
  . subst hk0
    have hrt:res=t:=by
     have h1:=hd.out;unfold XT at h1;rw[if_pos rfl,yL] at h1;rw[HRES.out,←h1]
    subst hrt;clear HRES hd;go_wp2
    go_ret
    exact ⟨rfl,hB⟩
  have hk1:¬((k:Int)=0):=by omega
  have hd10:k % 10<10:=Nat.mod_lt _ (by decide);have hd0:¬((k:Int) % 10<0):=by omega
  have hcv:∀g:World,(convert 22 9 (.slice (some ⟨g.heap.size,0,none⟩) 1 1)).run Tryz.prog (g.alloc (.cells #[.int .u8 (48+(k:Int) % 10)] 5))= .ok (.string ⟨#[zX (48+k % 10)]⟩) (g.alloc (.cells #[.int .u8 (48+(k:Int) % 10)] 5)):=λg=>by
   have h:=Lib.run_convert_whole (P:=Tryz.prog) (g.alloc (.cells #[.int .u8 (48+(k:Int) % 10)] 5)) 22 5 9 Tryz.underlying22 Tryz.underlying5 Tryz.underlying9 g.heap.size 0 ⟨#[zX (48+k % 10)]⟩ (λi hi=>by
    have hi0:i=0:=by have:i<1:=hi;omega
    subst hi0;have he:(48+(k:Int) % 10)=((zX (48+k % 10)).toNat:Int):=by rw[UInt8.toNat_ofNat'];omega
    show (g.alloc _).cell? ⟨g.heap.size,0+0,none⟩=some (.int .u8 ((zX (48+k % 10)).toNat:Int));rw[←he];simp[go_sem]) 1
   exact h
  go_wp2_with (go_at_call 214;have hfg:=(λw1=>Qhl w1 (k % 10) hd10);rw[show (((k % 10:Nat)):Int)=(k:Int) % 10 by omega] at hfg;refine Qfg (w:=w) (hfg _) (by go_grown) ?_;clear hfg;intro g1 hG1 hb hz1 hz2;clear hb)
  go_roundw
  case rel=>exact ⟨k / 10,⟨#[zX (48+k % 10)]⟩++t,by omega,by first | rfl | go_num,by rw[UInt8.ofNat_add];rfl,by rw[zI];have:(⟨#[zX (48+k % 10)]⟩:ByteArray).size=1:=rfl;omega,by go_grown,Lib.hid (by rw[Qhn _ hd10];show XT (k / 10)++(zX (48+k % 10)::t.data.toList)=_;rw[Qey hk0];exact hd.out)⟩
  case measure=>simp[intOf];omega
section
variable {P:Program}
theorem QD {f:Nat} (hok:E9 P f) {n:Int} {s:ByteArray} (hs:s.size<=maxLen) (h:∀w,Good P w->I64 n->Calls P f #[.int .i64 n] w (Ret w (.string s))):ACalls P f [.i n] (.s s):=by
 refine ⟨hok,λw hg F vals hF hall=> ?_⟩;cases hall with
 | cons h1 h2=>
   cases h2
   obtain ⟨rfl,hi⟩:=h1;refine (h w hg ((JO n).1 hi)).mono ?_
   rintro e w' ⟨rfl,hb⟩
   exact ⟨_,λ_=> [],rfl,hb,λ_=>List.nodup_nil,λk b hm=>by simp at hm,λk k' b hm=>by simp at hm,rfl,hs⟩
end
theorem Ng {n:Int} (h:0<=n/\n<=999):(Hk n).size<=20:=MU (TV h.1 h.2)
theorem BM (n:Int) (h:0<=n/\n<=999):ACalls Tryz.prog 170 [.i n] (.s (Hk n)):=QD (by unfold E9;kernel_rfl) (by have:=Ng h;unfold maxLen;omega) λw hg hn=>BK w n hn (hg.tab _ gTab)
theorem BN (n:Int) (h:0<=n/\n<=999):ACalls Tryz.prog 173 [.i n] (.s (Hk n)):=QD (by unfold E9;kernel_rfl) (by have:=Ng h;unfold maxLen;omega) λw _ hn=>BL w n hn (TV h.1 h.2)
open GoE (enc wide)
def Xt (f:Xe):ByteArray:=(bif ((Xl f ⟨#[110]⟩).1==(2:Int)) then (Xl f ⟨#[110]⟩).2.2 else ⟨#[102,105,108,101]⟩)
theorem CG (f:Xe):ACalls Tryz.prog 169 [.a [.i f.1,.i f.2.1,.b f.2.2.1,.i f.2.2.2.1,.h f.2.2.2.2]] (.s (Xt f)):=by
 refine en Qb Tryz.func169 λw0 F0 hG=> ?_
 refine sn Qb [1,2] [1] p0 <| Qc <| tn Qb [2,3] [3] (pc 1 (Ee f ⟨#[110]⟩) p0) <| tu Qb [(2,.s ⟨#[]⟩),(3,.p 3 0),(8,.b ((Xl f ⟨#[110]⟩).1==(2:Int)))] [0] [(3, [.i ((Xl f ⟨#[110]⟩).1),.i ((Xl f ⟨#[110]⟩).2.1),.s ((Xl f ⟨#[110]⟩).2.2)])] [] p0 <| ck ((Xl f ⟨#[110]⟩).1==(2:Int)) (λh1=> ?_) (λh1=> ?_)
 ·exact sn Qb [2] [] p0 <| Qe <| ps [] (Q4 h1 (rfl))
 exact Qg <| sn Qb [2] [] p0 <| Qe <| ps [] (Qi h1 (rfl))
def Gq (f:Xe):ByteArray:=(bif ((X1 f ⟨#[110]⟩).1 !=(2:Int)) then ⟨#[102,105,108,101]⟩ else (X1 f ⟨#[110]⟩).2.2)
theorem CH (f:Xe):ACalls Tryz.prog 213 [.a [.i f.1,.i f.2.1,.b f.2.2.1,.i f.2.2.2.1,.h f.2.2.2.2]] (.s (Gq f)):=by
 refine en Qb Tryz.func213 λw0 F0 hG=> ?_
 refine sn Qb [1,2] [1] p0 <| tn Qb [2,3] [3] (pc 1 (M4 f ⟨#[110]⟩) p0) <| Qc <| tu Qb [(2,.s ⟨#[]⟩),(3,.p 3 0),(8,.b ((X1 f ⟨#[110]⟩).1 !=(2:Int)))] [0] [(3, [.i ((X1 f ⟨#[110]⟩).1),.i ((X1 f ⟨#[110]⟩).2.1),.s ((X1 f ⟨#[110]⟩).2.2)])] [] p0 <| ck ((X1 f ⟨#[110]⟩).1 !=(2:Int)) (λh1=> ?_) (λh1=> ?_)
 ·exact sn Qb [2,3] [3] p0 <| Qe <| ps [] (Q4 h1 (rfl))
 exact Qg <| sn Qb [2] [] p0 <| Qe <| ps [] (Qi h1 (rfl))
def Wc (s_:Qz) (id:Int):ByteArray:=(Gq (((Xa s_ id)).1))
theorem ZX (s_:Qz) (id:Int):ACalls Tryz.prog 172 [.a [.h s_.1,.h s_.2.1,.i s_.2.2],.i id] (.s (Wc s_ id)):=by
 refine en Qb Tryz.func172 λw0 F0 hG=> ?_
 exact sn Qb [1,2,4] [2] p0 <| tn Qb [4,5] [5] (pc 2 (Fj s_ id) p0) <| tu Qb [(4,.s (Gq (((Xa s_ id)).1)))] [0,1] [] [] (pc 1 (CH (((Xa s_ id)).1)) p0) <| Qe <| ps [] (show Wc s_ id=(Gq (((Xa s_ id)).1)) from rfl)
theorem RC (s:Qz) (n:Int):Xa s n=Qn s n:=by
 unfold Xa Qn;rw[TO];by_cases h:Xw s n>=0
 . rw[decide_eq_true h,decide_eq_false (by omega)];rfl
 rw[decide_eq_false h,decide_eq_true (by omega)];rfl
theorem RD (f:Xe):Gq f=Xt f:=by
 unfold Gq Xt;rw[←Qdw];cases h:((Xl f ⟨#[110]⟩).1==(2:Int)) with
 | true=>simp[bne,h]
 | false=>simp[bne,h]
theorem RE (s:Qz) (n:Int):Wc s n=Xt ((Qn s n)).1:=by
 unfold Wc;rw[RC,RD]
theorem BO (nm:ByteArray):∀(l:List Bl) (k:Nat),Xz (C2 nm) Fb l k ()= .brk ()\/∃a,a∈l/\Xz (C2 nm) Fb l k ()= .ret a.2
 | [],_=> .inl rfl
 | b ::l,k=>by
   simp only[Xz,C2];cases (b.1.toList==nm.toList) with
   | true=>exact .inr ⟨b,zP ..,rfl⟩
   | false=>
     simp only[cond_false];rcases BO nm l (k+1) with h | ⟨a,ha,h⟩
     . exact .inl h
     exact .inr ⟨a,zM _ ha,h⟩
theorem Qho {α:Type} [GoD α] {l:List α} {a:α} (h:a∈l):GoD.size a<=GoD.size l:=by
 obtain ⟨i,hi⟩:=zW h;exact Qic hi (yE _)
theorem GG (f:Xe):(Xt f).size<=GoD.size f+4:=by
 unfold Xt;cases h:((Xl f ⟨#[110]⟩).1==(2:Int)) with
 | false=>exact Nat.le_add_left 4 (GoD.size f)
 | true=>
   simp only[cond_true];unfold Xl;rcases BO ⟨#[110]⟩ f.2.2.2.2 0 with h | ⟨a,ha,h⟩
   . rw[h];exact yO _
   rw[h];simp only[Out.on];have h1:=Qho ha;have h2:GoD.size a=a.1.size+(0+(0+a.2.2.2.size)):=rfl;have h3:GoD.size f=0+(0+(0+(0+GoD.size f.2.2.2.2))):=rfl;omega
theorem Qez (s:Qz) (n:Int):(Xt ((Qn s n)).1).size<=GoD.size s+4:=by
 have h1:=GG ((Qn s n)).1
 have h2:GoD.size ((Qn s n)).1<=GoD.size s:=by
  unfold Qn;by_cases h:Xw s n>=0
  . rw[decide_eq_true h];have hp:=T5 s n;have hg:=Qic (Wg (l:=s.2.1) (i:=zJ (Xw s n)) (by omega)) (yE _);exact xG hg (Qle (Qlf (yE _)))
  rw[decide_eq_false h];exact yO _
 omega
theorem GH {s t:Qz} (h2:s.2.1=t.2.1) (hv:Qj s=Qj t) (d:List X0):Yu s d=Yu t d:=by
 have hsel:∀q r,Zh s q r=Zh t q r:=λq r=>by
  unfold Zh;rw[h2]
 have h3:Vm s d=Vm t d:=by
  funext names k1 k3 a3 s3
  unfold Vm;rw[hsel]
 have hf2:Jy s d=Jy t d:=by
  funext names k1 s2
  unfold Jy;rw[h3]
 have hf1:Jr s d=Jr t d:=by
  funext names k1 s1
  unfold Jr;rw[hf2,h2]
 have he:∀r names,Yn s d r names=Yn t d r names:=λr names=>by
  unfold Yn;rw[hv,hf1]
 unfold Yu;rw[he]
theorem MW {a b:Qz} {u:Int} (ha:Qj a=true) (hb:Qj b=true) (hva:Qj (Qy a u)=true) (hvb:Qj (Qy b u)=true) (h2:(Qy a u).2.1=(Qy b u).2.1) (d:List X0):
 Ya a d u=Ya b d u:=by
 unfold Ya;rw[ha,hb,GH h2 (hva.trans hvb.symm)]
theorem MX {a b:Qz} {u:Int} (ha:Qj a=true) (hb:Qj b=true) (hva:Qj (Qy a u)=true) (hvb:Qj (Qy b u)=true) (h2:(Qy a u).2.1=(Qy b u).2.1) (d:List X0) (n:ByteArray):
 Jd a d u n=Jd b d u n:=by
 unfold Jd;rw[MW ha hb hva hvb h2]
def RF (a b:Xe):Prop:=b.1=a.1/\b.2.1=a.2.1/\b.2.2.1=a.2.2.1/\(b.2.2.2.1=a.2.2.2.1\/b.2.2.2.1=0)/\b.2.2.2.2=a.2.2.2.2
def SI (l s:List Xe):Prop:=s.length=l.length/\∀(i:Nat) (a b:Xe),l[i]? =some a->s[i]? =some b->RF a b
theorem Qlz {l s:List Xe} {k:Nat} (h:SI l s):SI l (s.set k ((nth s k).1,(nth s k).2.1,(nth s k).2.2.1,0,(nth s k).2.2.2.2)):=by
 refine ⟨by rw[zR];exact h.1,λi a b ha hb=> ?_⟩;rw[List.getElem?_set] at hb;by_cases e:k=i
 . subst e;rw[if_pos rfl] at hb;split at hb
   . rename_i hk;obtain ⟨q1,q2,q3,_,q5⟩:=h.2 k a _ ha (Wg hk);have hb:=xI hb;subst hb;exact ⟨q1,q2,q3,.inr rfl,q5⟩
   cases hb
 rw[if_neg e] at hb;exact h.2 i a b ha hb
theorem ZY (s:Qz) (u:Int):∃y,Qy s u=(s.1,y,s.2.2)/\SI (s.2.1.filter λf=>J3 f u) y:=by
 unfold Qy;rw[U2 (f:=V9 u) (e:=Vc) (p:=λa=>J3 a u) (g:=id) (λ_ _ _=>rfl)];simp only[Out.on,Vc,yL,yN];generalize s.2.1.filter (λf=>J3 f u)=l
 obtain ⟨y,h1,h2⟩:=ZF (f:=Kr s) (e:=U5) (SI l) (λk a t ht=>by
  unfold Kr;generalize decide (_<(0:Int))=c;cases c with
  | true=>exact ⟨_,rfl,Qlz ht⟩
  | false=>exact ⟨_,rfl,ht⟩) l 0 l ⟨rfl,λi a b ha hb=>by rw[ha] at hb;cases hb;exact ⟨rfl,rfl,rfl,.inl rfl,rfl⟩⟩
 rw[h1];exact ⟨y,rfl,h2⟩
theorem RG {sch:List Jf} {a b:Xe} (h:RF a b) (hv:Yc sch a=true):Yc sch b=true:=by
 obtain ⟨a1,a2,a3,a4,a5⟩:=a;obtain ⟨b1,b2,b3,b4,b5⟩:=b;obtain ⟨q1,q2,q3,q4,q5⟩:=h;simp only at q1 q2 q3 q4 q5;subst q1 q2 q3 q5;rcases q4 with q4 | q4
 . subst q4;exact hv
 subst q4;unfold Yc at hv⊢;have e:Y7 sch (b1,b2,b3,a4,b5)=Y7 sch (b1,b2,b3,0,b5):=rfl;rw[e] at hv;revert hv;cases Xz (Y7 sch (b1,b2,b3,0,b5)) K6 b5 0 () with
 | ret r=>exact id
 | brk t=>
   show ((Zp b1 1 60)&&((Je b2)&&((Zp a4 0 60)&&(Jn sch))))=true->((Zp b1 1 60)&&((Je b2)&&((Zp 0 0 60)&&(Jn sch))))=true;simp only[zU];exact λ⟨h1,h2,_,h4⟩=>⟨h1,h2,by decide,h4⟩
theorem TW:∀{l:List Xe},(∀(i:Nat) (a b:Xe),l[i]? =some a->l[i+1]? =some b->a.1<b.1)->l.Pairwise λa b=>a.1<b.1
 | [],_=> .nil
 | [_],_=>List.pairwise_singleton _ _
 | a::b::l,h=>by
   have ih:=TW (l:=b::l) λi x y hx hy=>h (i+1) x y (by simpa using hx) (by simpa using hy)
   have hab:=h 0 a b rfl rfl;refine yM.2 ⟨λx hx=> ?_,ih⟩;rcases zS.1 hx with rfl | hx
   . exact hab
   exact Int.lt_trans hab ((yM.1 ih).1 x hx)
theorem Qhp {l:List Xe} (h:l.Pairwise λa b=>a.1<b.1) {i:Nat} {a b:Xe} (ha:l[i]? =some a) (hb:l[i+1]? =some b):a.1<b.1:=by
 obtain ⟨h1,rfl⟩:=zH.1 ha;obtain ⟨h2,rfl⟩:=zH.1 hb;exact yW.1 h i (i+1) h1 h2 (Nat.lt_succ_self i)
theorem Nc {s:Qz} (h:Qj s=true) (u:Int):Qj (Qy s u)=true:=by
 have hv:=Qhd ((Bo s).trans h);obtain ⟨y,e,hl,hs⟩:=ZY s u;rw[e,←Bo];have hp:=List.Pairwise.filter (λf=>J3 f u) (TW hv.asc);generalize hg:s.2.1.filter (λf=>J3 f u)=l at hl hs hp
 have hm:∀(i:Nat) (b:Xe),y[i]? =some b->∃a,l[i]? =some a/\RF a b:=λi b hb=>by
  have hi:i<l.length:=by rw[←hl];exact (zH.1 hb).1
  exact ⟨_,yC hi,hs i _ b (yC hi) hb⟩
 refine Ot ⟨hv.sch, ?_,hv.nx1,hv.nx2,λi b hb=> ?_,λi b c hb hc=> ?_⟩
 . show y.length<=12;rw[hl,←hg];exact xG (xN _ _) hv.len
 . obtain ⟨a,ha,hq⟩:=hm i b hb;have hmem:a∈s.2.1:=(xM.1 (hg▸zF ha)).1;obtain ⟨j,hj⟩:=zW hmem;obtain ⟨h1,h2⟩:=hv.file j a hj;rw[KI] at h1⊢;exact ⟨RG hq h1,by rw[hq.1];exact h2⟩
 obtain ⟨a,ha,hq⟩:=hm i b hb;obtain ⟨a',ha',hq'⟩:=hm (i+1) c hc;rw[hq.1,hq'.1];exact Qhp hp ha ha'
theorem MY {a b:Qz} {u:Int} (ha:Qj a=true) (hb:Qj b=true) (h2:(Qy a u).2.1=(Qy b u).2.1) (d:List X0) (n:ByteArray):Jd a d u n=Jd b d u n:=MX ha hb (Nc ha u) (Nc hb u) h2 d n
def TxA (l:List Bl):Prop:=∀a,a∈l->a.2.2.2.size<=1000
def TxS (s:Qz):Prop:=∀f,f∈s.2.1->TxA f.2.2.2.2
def TxD (d:List X0):Prop:=∀a,a∈d->a.1.size<=1000
theorem RH {s:Qz} (h:TxS s) (n:Int):(Xt ((Qn s n)).1).size<=1000:=by
 have key:∀f:Xe,TxA f.2.2.2.2->(Xt f).size<=1000:=λf hf=>by
  unfold Xt;cases h:((Xl f ⟨#[110]⟩).1==(2:Int)) with
  | false=>exact (by decide:(4:Nat)<=1000)
  | true=>
    simp only[cond_true];unfold Xl;rcases BO ⟨#[110]⟩ f.2.2.2.2 0 with h | ⟨a,ha,h⟩
    . rw[h];exact yO _
    rw[h];simp only[Out.on];exact hf a ha
 apply key;unfold Qn;by_cases h':Xw s n>=0
 . rw[decide_eq_true h'];have hp:=T5 s n;exact h _ (zF (Wg (l:=s.2.1) (i:=zJ (Xw s n)) (by omega)))
 rw[decide_eq_false h'];intro a ha;cases ha
theorem Qhq {s:Qz} (h:TxS s) (n:Int):(Wc s n).size<=1000:=by rw[RE];exact RH h n
theorem KX {s:Qz} (h:TxS s) (u:Int):TxS (Qy s u):=by
 obtain ⟨y,e,hl,hs⟩:=ZY s u;rw[e];intro f hf;obtain ⟨i,hi⟩:=zW hf;have hil:i<(s.2.1.filter λf=>J3 f u).length:=by rw[←hl];exact (zH.1 hi).1
 have hg:=yC hil;have hsh:=hs i _ f hg hi;have hm:=(xM.1 (zF hg)).1;rw[hsh.2.2.2.2];exact h _ hm
theorem RI {s:Qz} (h:TxS s) (u:Int):TxS (Q9 s u):=by rw[Nf];exact KX h u
theorem MZ {s:ByteArray} (h:Zd s=true):s.size<=6:=by
 unfold Zd at h
 have hn:∀(n k:Nat),Uy (Us s) H1 n k ()≠ .ret true:=by
  intro n
  induction n with
  | zero=>intro k;simp[Uy]
  | succ n ih=>
    intro k;simp only[Uy,Us];generalize (_|| _:Bool)=c;cases c with
    | true=>simp
    | false=>exact ih (k+1)
 cases hl:Uy (Us s) H1 (zJ (zE s:Int)) 0 () with
 | ret r=>
   rw[hl] at h;obtain rfl:r=true:=h;exact (hn _ _ hl).elim
 | brk t=>
   rw[hl] at h;have h:=Pn.1 h;omega
theorem ED {s:ByteArray} (h:(s.toList==(⟨#[]⟩:ByteArray).toList)=true):s.size=0:=by
 rw[toList_inj] at h;rw[of_decide_eq_true h];rfl
theorem RJ {v:B3} (h:Vk v=true):v.2.2.size<=6:=by
 unfold Vk at h;cases h0:(v.1==(0:Int)) with
 | true=>
   rw[h0] at h;simp only[cond_true,zU] at h;rw[ED h.2.2.1];exact yO _
 | false=>
   rw[h0] at h;simp only[cond_false] at h;cases h1:(v.1==(1:Int)) with
   | true=>
     rw[h1] at h;simp only[cond_true,zU] at h;rw[ED h.2];exact yO _
   | false=>
     rw[h1] at h;simp only[cond_false] at h;cases h2:(v.1==(2:Int)) with
     | true=>
       rw[h2] at h;simp only[cond_true,zU] at h;exact MZ h.1
     | false=>rw[h2] at h;cases h
theorem RK {s:List Jf} {f:Xe} (h:Yc s f=true) {a:Bl} (ha:a∈f.2.2.2.2):Z3 s a.1 a.2=true:=by
 obtain ⟨⟨t,hl⟩,_⟩:=LU h;obtain ⟨i,hi⟩:=zW ha;have:=Mz (λk a t=>by unfold Y7;generalize (bif decide (((k:Nat):Int)>(0:Int)) then _ else _:Bool)=c;cases c<;>simp) hl i a hi;rw[yF] at this;unfold Y7 at this;cases hm:Z3 s a.1 a.2 with
 | false=>rw[hm] at this;simp at this
 | true=>rfl
theorem Qhr {s:List Jf} {f:Xe} (h:Yc s f=true):TxA f.2.2.2.2:=λa ha=>by
 have hm:=RK h ha;unfold Z3 at hm;simp only[zU] at hm;have:=RJ hm.1;omega
theorem Qhs {s:Qz} (h:Qj s=true):TxS s:=λ_ hf=>Qhr (AM h hf)
theorem Qht {d:List X0} (h:Qw d=true):TxD d:=λ_ ha=>by
 have:=MZ (MC h ha);omega
theorem BP {s:Qz} {d:List X0} {u:Int} (h:(Ya s d u).2=true):TxS s/\TxD d:=by
 unfold Ya at h;cases hv:Qj s with
 | false=>rw[hv] at h;simp at h
 | true=>
   refine ⟨Qhs hv, ?_⟩;rw[hv] at h;cases hu:Je u with
   | false=>rw[hu] at h;simp at h
   | true=>
     rw[hu] at h;simp only[zN,yS,cond_false] at h;unfold Yu Yn at h;cases hS:(Qx d).2 with
     | false=>rw[hS] at h;simp at h
     | true=>exact Qht (S0 (Prod.ext rfl hS:Qx d=((Qx d).1,true))).1
theorem RL {s:Qz} {d:List X0} {u:Int} (h:(Zy s d u).2=true):TxS s/\TxD d:=by
 rw[XN] at h;exact BP h
open GoE (enc wide)
def Ub (s_:Qz) (_:Nat) (a0:Int) (s0:Z×Z):Rd Z (Z×Z) Z:=(bif (Qr s0.1 (Xt (((Qn s_ a0)).1))) then (.next (s0.1++ [(Xt (((Qn s_ a0)).1))],s0.2++ [(((Xt (((Qn s_ a0)).1))++(⟨#[46]⟩:ByteArray))++(Hk a0))])) else (.next (s0.1++ [(Xt (((Qn s_ a0)).1))],s0.2++ [(Xt (((Qn s_ a0)).1))])))
def Cf (_:Nat) (s0:Z×Z):Z:=s0.2
def Z1 (s_:Qz) (ids:List Int):Z:=(Out.on (Xz (Ub s_) Cf ids 0 ([], [])) (λy0=>y0))
theorem WR (s_:Qz) (ids:List Int) (hi:∀x,x∈ids->1<=x/\x<=60) (hp:TxS s_):ACalls Tryz.prog 116 [.a [.h s_.1,.h s_.2.1,.i s_.2.2],.h ids] (.o 0 (Z1 s_ ids)):=by
 refine en Qb Tryz.func116 λw0 F0 hG=> ?_
 refine sn Qb [1,2,4] [2] p0 <| tn Qb [1,2,4,5] [2] p0 <| tu Qb [(2,.p 2 0),(4,.e 0),(5,.one (.slc (.own true 768) 1 [])),(6,.one (.slc (.own true 832) 1 []))] [0] [(2, [.h s_.1,.h s_.2.1,.i s_.2.2])] [] p0 <| Qc <| sn Qb [2,4,5,6,14,15,16] [2] (pl 1 ids p0) <| mz [(14,.h ids),(15,.i (ids.length:Int)),(16,.i 0)] [1] [] [] <| wT 14 0 .sh ids (λhw1 hl2=> ?_)
 refine YP (Ub s_) Cf ids ([], []) (λk0 s0=> [(5,.o 147202 s0.1),(6,.o 147203 s0.2),(16,.i (k0:Int))]) [5,6,16] (λ_ _=> []) [] (λy0=> [(6,.o 147353 y0)]) [2,5,6,14,15,16] (λ_=> []) [2] (λk0 s0=>zD s0.1<=k0/\zD s0.2<=k0) (Xg [(768,147202),(832,147203)] (by kernel_rfl)) ⟨(by simp),(by simp)⟩ (λk0 s0 hk0 U=> ?_) (λk0 s0 hk0 U=> ?_) (λy0 hD0=> ?_)
 ·have hA0_0:=U.2.1;have hA0_1:=U.2.2;obtain ⟨a0,hx0⟩:=Xm (l:=ids) (i:=k0) hk0;have hi0:=hi _ (zF hx0);have hbs:=RH hp a0;have hns:=Ng (n:=a0) (by omega);refine su Qb [(17,.b true)] [] [] [] (pe 0 (zB ((k0:Int)<(ids.length:Int))) p0) <| Qc <| ckT <| Qg <| Qc <| Qv <| su Qb [(8,.i a0)] [17] [] [] (pn 0 hx0 p0) <| sn Qb [2,4,5,6,8,9,14,15,16] [2,9] (pc 2 (Ly s_ a0) p0) <| tn Qb [2,4,5,6,8,11,14,15,16] [2] (pc 1 (CG (((Qn s_ a0)).1)) p0) <| Qc <| tu Qb [(11,.s (Xt (((Qn s_ a0)).1))),(30,.b (Qr s0.1 (Xt (((Qn s_ a0)).1))))] [] [] [] (pc 2 (Wh s0.1 (Xt (((Qn s_ a0)).1))) p0) <| ck (Qr s0.1 (Xt (((Qn s_ a0)).1))) (λh3=> ?_) (λh3=> ?_)
  ·refine wT 6 0 (.own true 147203) s0.2 (λhw4 hl5=> ?_);refine ru Qb [(6,.one (.slc (.own true 2432) 1 ((eL s0.2)++ [[.s (((Xt (((Qn s_ a0)).1))++(⟨#[46]⟩:ByteArray))++(Hk a0))]])))] [6,8,30] [] [] (px (Sm (n:=(zE (Xt (((Qn s_ a0)).1))+zE (⟨#[46]⟩:ByteArray))) (by have hq0:zE (⟨#[46]⟩:ByteArray)=1:=rfl;unfold maxLen;first|omega|(simp only[zI];omega))) (pc 4 (BM a0 (by omega)) (px (Sm (n:=(zE ((Xt (((Qn s_ a0)).1))++(⟨#[46]⟩:ByteArray))+zE (Hk a0))) (by have hq0:zE (⟨#[46]⟩:ByteArray)=1:=rfl;unfold maxLen;first|omega|(simp only[zI];omega))) (pa s0.2 [(((Xt (((Qn s_ a0)).1))++(⟨#[46]⟩:ByteArray))++(Hk a0))] p0)))) ?_;refine eqn [(6,.o 2432 (s0.2++ [(((Xt (((Qn s_ a0)).1))++(⟨#[46]⟩:ByteArray))++(Hk a0))]))] [6] [] [] (by rw[show ((eL s0.2)++ [[.s (((Xt (((Qn s_ a0)).1))++(⟨#[46]⟩:ByteArray))++(Hk a0))]])=(eL (s0.2++ [(((Xt (((Qn s_ a0)).1))++(⟨#[46]⟩:ByteArray))++(Hk a0))])) from Ju (rfl) (rfl)];first | done | kernel_rfl) ?_;refine wT 5 0 (.own true 147202) s0.1 (λhw6 hl7=> ?_);refine ru Qb [(5,.one (.slc (.own true 2944) 1 ((eL s0.1)++ [[.s (Xt (((Qn s_ a0)).1))]])))] [5,11] [] [] (pa s0.1 [(Xt (((Qn s_ a0)).1))] p0) ?_;refine eqn [(5,.o 2944 (s0.1++ [(Xt (((Qn s_ a0)).1))]))] [5] [] [] (by rw[show ((eL s0.1)++ [[.s (Xt (((Qn s_ a0)).1))]])=(eL (s0.1++ [(Xt (((Qn s_ a0)).1))])) from Ju (rfl) (rfl)];first | done | kernel_rfl) ?_;refine rn Qb [2,4,5,6,14,15,16] [2] (pe 0 (Jl (Qo k0 (by omega))) p0) ?_;exact zG (s0.1++ [(Xt (((Qn s_ a0)).1))],s0.2++ [(((Xt (((Qn s_ a0)).1))++(⟨#[46]⟩:ByteArray))++(Hk a0))]) (zL (Xg [(2944,147202),(2432,147203)] (by kernel_rfl)) ⟨Qt hx0 (Q4 h3 (rfl)) U.1,by first|omega|(simp;omega) | simp,by first|omega|(simp;omega) | simp⟩)
  refine wT 6 0 (.own true 147203) s0.2 (λhw8 hl9=> ?_);refine ru Qb [(6,.one (.slc (.own true 2688) 1 ((eL s0.2)++ [[.s (Xt (((Qn s_ a0)).1))]])))] [6,8,30] [] [] (pa s0.2 [(Xt (((Qn s_ a0)).1))] p0) ?_;refine eqn [(6,.o 2688 (s0.2++ [(Xt (((Qn s_ a0)).1))]))] [6] [] [] (by rw[show ((eL s0.2)++ [[.s (Xt (((Qn s_ a0)).1))]])=(eL (s0.2++ [(Xt (((Qn s_ a0)).1))])) from Ju (rfl) (rfl)];first | done | kernel_rfl) ?_;refine wT 5 0 (.own true 147202) s0.1 (λhw10 hl11=> ?_);refine ru Qb [(5,.one (.slc (.own true 2944) 1 ((eL s0.1)++ [[.s (Xt (((Qn s_ a0)).1))]])))] [5,11] [] [] (pa s0.1 [(Xt (((Qn s_ a0)).1))] p0) ?_;refine eqn [(5,.o 2944 (s0.1++ [(Xt (((Qn s_ a0)).1))]))] [5] [] [] (by rw[show ((eL s0.1)++ [[.s (Xt (((Qn s_ a0)).1))]])=(eL (s0.1++ [(Xt (((Qn s_ a0)).1))])) from Ju (rfl) (rfl)];first | done | kernel_rfl) ?_;refine rn Qb [2,4,5,6,14,15,16] [2] (pe 0 (Jl (Qo k0 (by omega))) p0) ?_;exact zG (s0.1++ [(Xt (((Qn s_ a0)).1))],s0.2++ [(Xt (((Qn s_ a0)).1))]) (zL (Xg [(2944,147202),(2688,147203)] (by kernel_rfl)) ⟨Qt hx0 (Qi h3 (rfl)) U.1,by first|omega|(simp;omega) | simp,by first|omega|(simp;omega) | simp⟩)
 ·have hA0_0:=U.2.1;have hA0_1:=U.2.2;exact su Qb [(17,.b false)] [] [] [] (pe 0 (zC ((k0:Int)<(ids.length:Int))) p0) <| Qc <| ckF <| Q3 <| zG _ (zL (Xg [(147203,147353)] (by kernel_rfl)) (Xn hk0 (rfl) U.1))
 exact sn Qb [4] [] p0 <| Qe <| po0 [] (Wk hD0 (rfl))
def Ep (s_:Qz) (ids:List Int) (a0:Int) (k1:Nat) (s1:ByteArray):Rd (Rd Z Z Z) (ByteArray) (ByteArray):=(bif ((Wc s_ (nth ids k1)).toList==(Wc s_ a0).toList) then (.next (((Wc s_ a0)++(⟨#[46]⟩:ByteArray))++(Hk a0))) else (.next s1))
def Lk (_:Nat) (s1:ByteArray):ByteArray:=s1
def Er (s_:Qz) (ids:List Int) (k0:Nat) (a0:Int) (s0:Z):Rd Z Z Z:=(Out.on (Uy (Ep s_ ids a0) Lk (k0:Int).toNat 0 (Wc s_ a0)) (λy1=>(.next (s0++ [y1]))))
def Ll (_:Nat) (s0:Z):Z:=s0
def K7 (s_:Qz) (ids:List Int):Z:=(Out.on (Xz (Er s_ ids) Ll ids 0 []) (λy0=>y0))
theorem WS (s_:Qz) (ids:List Int) (hi:∀x,x∈ids->1<=x/\x<=60) (hp:TxS s_):ACalls Tryz.prog 119 [.a [.h s_.1,.h s_.2.1,.i s_.2.2],.h ids] (.o 0 (K7 s_ ids)):=by
 refine en Qb Tryz.func119 λw0 F0 hG=> ?_
 refine sn Qb [1,2,4] [2] p0 <| tn Qb [1,2,4,5] [2] p0 <| Qc <| tu Qb [(2,.p 2 0),(4,.e 0),(5,.one (.slc (.own true 640) 1 [])),(6,.i 0)] [0] [(2, [.h s_.1,.h s_.2.1,.i s_.2.2])] [] p0 <| wT 1 0 .sh ids (λhw1 hl2=> ?_)
 refine YP (Er s_ ids) Ll ids [] (λk0 s0=> [(5,.o 147203 s0),(6,.i (k0:Int))]) [5,6] (λ_ _=> []) [] (λy0=> [(5,.o 147353 y0)]) [1,2,5,6] (λ_=> []) [2] (λk0 s0=>zD s0<=k0) (Xg [(640,147203)] (by kernel_rfl)) (by simp) (λk0 s0 hk0 U=> ?_) (λk0 s0 hk0 U=> ?_) (λy0 hD0=> ?_)
 ·have hA0_0:=U.2;obtain ⟨a0,hx0⟩:=Xm (l:=ids) (i:=k0) hk0;have hi0:=hi _ (zF hx0);have hbs:=Qhq hp a0;have hns:=Ng (n:=a0) (by omega);refine Qc <| sn Qb [1,2,4,5,6,14] [2] (pl 2 ids (pe 3 (zB ((k0:Int)<(ids.length:Int))) p0)) <| ckT <| Qg <| Qc <| Qv <| tN Qb Zg [1,2,4,5,6,7] [2] (pn 3 hx0 (pc 5 (ZX s_ a0) p0)) <| tu Qb [(7,.s (Wc s_ a0)),(8,.s (Wc s_ a0))] [] [] [] p0 <| Qc <| su Qb [(9,.i 0)] [] [] [] p0 <| Ql9 (Ep s_ ids a0) Lk (k0:Int).toNat (Wc s_ a0) (λk1 s1=> [(8,.s s1),(9,.i (k1:Int))]) [8,9] (λy1=> [(8,.s y1)]) [7,8,9] wf0 (λk1 s1 hk1 hI1=> ?_) (λk1 s1 hk1 hI1=> ?_) (λy1 hD1=> ?_)
  ·refine Qc <| su Qb [(26,.b true)] [] [] [] (pe 2 (zB ((k1:Int)<(k0:Int))) p0) <| ckT <| Qg <| Qc <| Qv ?_
   have hx3:=ng ids k1;refine sN Qb Zg [1,2,4,5,6,7,8,9,36] [2] (pn 3 hx3 (pc 5 (ZX s_ (nth ids k1)) p0)) <| ck ((Wc s_ (nth ids k1)).toList==(Wc s_ a0).toList) (λh4=> ?_) (λh4=> ?_)
   ·refine qn Qb [1,2,4,5,6,7,8,9] [2] (px (Sm (n:=(zE (Wc s_ a0)+zE (⟨#[46]⟩:ByteArray))) (by have hq0:zE (⟨#[46]⟩:ByteArray)=1:=rfl;unfold maxLen;first|omega|(simp only[zI];omega))) (pn 4 hx0 (pc 6 (BN a0 (by omega)) (px (Sm (n:=(zE ((Wc s_ a0)++(⟨#[46]⟩:ByteArray))+zE (Hk a0))) (by have hq0:zE (⟨#[46]⟩:ByteArray)=1:=rfl;unfold maxLen;first|omega|(simp only[zI];omega))) p0)))) ?_;refine qu Qb [(8,.s (((Wc s_ a0)++(⟨#[46]⟩:ByteArray))++(Hk a0))),(9,.i ((k1+1:Nat):Int))] [8,9,26] [] [] (pe 1 (Jl (Qo k1 (by omega))) p0) ?_;exact xw _ (V2 hk1 (Q4 h4 (rfl)) hI1)
   refine Qg <| qn Qb [1,2,4,5,6,7,8,9] [2] (pe 1 (Jl (Qo k1 (by omega))) p0) ?_
   exact xw _ (V2 hk1 (Qi h4 (rfl)) hI1)
  ·exact Qc <| su Qb [(26,.b false)] [] [] [] (pe 2 (zC ((k1:Int)<(k0:Int))) p0) <| ckF <| Q3 <| xw _ (Dc hk1 (rfl) hI1)
  refine wT 5 0 (.own true 147203) s0 (λhw5 hl6=> ?_);refine ru Qb [(5,.one (.slc (.own true 3072) 1 ((eL s0)++ [[.s y1]])))] [5,8] [] [] (pa s0 [y1] p0) ?_;refine eqn [(5,.o 3072 (s0++ [y1]))] [5] [] [] (by rw[show ((eL s0)++ [[.s y1]])=(eL (s0++ [y1])) from Ju (rfl) (rfl)];first | done | kernel_rfl) ?_;refine rn Qb [1,2,4,5,6] [2] (pe 1 (Jl (Qo k0 (by omega))) p0) ?_;exact zG (s0++ [y1]) (zL (Xg [(3072,147203)] (by kernel_rfl)) ⟨Qt hx0 (Wk hD1 (rfl)) U.1,by first|omega|(simp;omega) | simp⟩)
 ·have hA0_0:=U.2;exact Qc <| sn Qb [1,2,4,5,6,14] [2] (pl 2 ids (pe 3 (zC ((k0:Int)<(ids.length:Int))) p0)) <| ckF <| Q3 <| zG _ (zL (Xg [(147203,147353)] (by kernel_rfl)) (Xn hk0 (rfl) U.1))
 exact sn Qb [4] [] p0 <| Qe <| po0 [] (Wk hD0 (rfl))
abbrev Dl (s:Qz) (x:Int):ByteArray:=Xt (((Qn s x)).1)
abbrev NA (s:Qz) (x:Int):ByteArray:=(Dl s x++(⟨#[46]⟩:ByteArray))++Hk x
theorem GI (x v:ByteArray) (l:List ByteArray):Qr (x::l) v=((x.toList==v.toList)|| Qr l v):=by
 have h:(x.toList==v.toList)=decide (x=v):=toList_inj;rw[h,yU,Bt,Bool.or_eq_true,Bt,decide_eq_true_eq,zS];exact or_congr eq_comm Iff.rfl
theorem XU (s:Qz) (ids:List Int) (a:Int) (m:Nat) (hm:m<=ids.length):∀(n k:Nat) (t:ByteArray),k+n=m->Uy (Ep s ids a) Lk n k t= .brk (bif Qr (((ids.take m).drop k).map (Dl s)) (Dl s a) then NA s a else t)
 | 0,k,t,h=>by
   have e:(ids.take m).drop k= []:=xF (by rw[List.length_take];omega);have e2:Qr (yQ (Dl s) []) (Dl s a)=false:=rfl;rw[e,e2];rfl
 | n +1,k,t,h=>by
   have hg:(ids.take m)[k]? =some (nth ids k):=by rw[List.getElem?_take,if_pos (by omega)];exact Wg (by omega)
   rw[QZ hg,xA,GI];simp only[Uy,Ep,RE];cases hc:((Xt (((Qn s (nth ids k))).1)).toList==(Xt (((Qn s a)).1)).toList) with
   | true=>
     simp only[cond_true,xW];rw[XU s ids a m hm n (k+1) _ (by omega)];cases Qr _ _<;>rfl
   | false=>
     simp only[cond_false,xT];exact XU s ids a m hm n (k+1) t (by omega)
theorem KY (s:Qz) (ids:List Int):∀(l:List Int) (k:Nat) (t:List ByteArray),ids.drop k=l->∃r,Xz (Ub s) Cf l k ((ids.take k).map (Dl s),t)= .brk r/\Xz (Er s ids) Ll l k t= .brk r
 | [],k,t,_=>⟨t,rfl,rfl⟩
 | a ::l,k,t,hl=>by
   have hk:ids[k]? =some a:=by
    have:=congrArg (·[0]?) hl;simpa using this
   have hkl:k<ids.length:=(zH.1 hk).1;have hrest:ids.drop (k+1)=l:=by rw[←List.drop_drop,hl];rfl
   have hin:=XU s ids a k (by omega) k 0 (Dl s a) (by omega);rw[List.drop_zero] at hin
   have htake:(ids.take k).map (Dl s)++ [Dl s a]=(ids.take (k+1)).map (Dl s):=by
    rw[List.take_add_one,hk];simp
   simp only[Xz,Ub,Er,RE,zO];rw[hin];cases hc:Qr ((ids.take k).map (Dl s)) (Dl s a) with
   | true=>
     simp only[cond_true,Out.on];rw[htake];exact KY s ids l (k+1) _ hrest
   | false=>
     simp only[cond_false,Out.on];rw[htake];exact KY s ids l (k+1) _ hrest
theorem ZZ (s:Qz) (ids:List Int):K7 s ids=Z1 s ids:=by
 unfold K7 Z1;obtain ⟨r,h1,h2⟩:=KY s ids ids 0 [] rfl;rw[List.take_zero,List.map_nil] at h1;rw[h1,h2]
theorem XV (s:Qz):∀(l:List Int) (k:Nat) (b t:List ByteArray),(∀x,x∈l->1<=x/\x<=60)->(∀x,x∈t->x.size<=GoD.size s+25)->∃r,Xz (Ub s) Cf l k (b,t)= .brk r/\r.length=t.length+l.length/\∀x,x∈r->x.size<=GoD.size s+25
 | [],k,b,t,_,h=>⟨t,rfl,rfl,h⟩
 | a ::l,k,b,t,hi,h=>by
   have ha:=hi a (zP ..);have hb:=Qez s a;have hn:=Ng (n:=a) (by omega)
   have hl:(NA s a).size<=GoD.size s+25:=by
    have h1:zE (⟨#[46]⟩:ByteArray)=1:=rfl;show ((Dl s a++(⟨#[46]⟩:ByteArray))++Hk a).size<=_;rw[zI,zI];have h2:(Dl s a).size<=GoD.size s+4:=hb;omega
   have hi':∀x,x∈l->1<=x/\x<=60:=λx hx=>hi x (zM _ hx)
   simp only[Xz,Ub];cases Qr b (Xt (((Qn s a)).1)) with
   | true=>
     simp only[cond_true]
     obtain ⟨r,h1,h2,h3⟩:=XV s l (k+1) (b++ [Dl s a]) (t++ [NA s a]) hi' λx hx=>by
      rcases yA.1 hx with hx | hx
      . exact h x hx
      obtain rfl:=yI.1 hx;exact hl
     refine ⟨r,h1, ?_,h3⟩;rw[h2,yH,xP,zK];omega
   | false=>
     simp only[cond_false]
     obtain ⟨r,h1,h2,h3⟩:=XV s l (k+1) (b++ [Dl s a]) (t++ [Dl s a]) hi' λx hx=>by
      rcases yA.1 hx with hx | hx
      . exact h x hx
      obtain rfl:=yI.1 hx;have h2:(Dl s a).size<=GoD.size s+4:=hb;omega
     refine ⟨r,h1, ?_,h3⟩;rw[h2,yH,xP,zK];omega
theorem Qhu {s:Qz} {ids:List Int} (hi:∀x,x∈ids->1<=x/\x<=60):(Z1 s ids).length=ids.length/\∀x,x∈Z1 s ids->x.size<=GoD.size s+25:=by
 unfold Z1;obtain ⟨r,h1,h2,h3⟩:=XV s ids 0 [] [] hi λx hx=>by simp at hx
 rw[h1];exact ⟨by simpa [Out.on] using h2,h3⟩
theorem Tr {α:Type} [GoD α] (l m:List α):GoD.size (l++m)=GoD.size l+GoD.size m:=by
 simp only[XW,yH,List.map_append,List.sum_append];omega
theorem TX {α:Type} [GoD α] (a:α):GoD.size [a]=1+GoD.size a:=by simp[XW]
theorem Qhv {α:Type} [GoD α] [Inhabited α] {l:List α} {i:Nat} (y:α) (hy:GoD.size y<=GoD.size (nth l i)):GoD.size (l.set i y)<=GoD.size l:=by
 by_cases hi:i<l.length
 . have h2:l=l.take i++([nth l i]++l.drop (i+1)):=by
    have:=QZ (Wg hi);rw[List.singleton_append,←this,xO]
   have h1:l.set i y=l.take i++([y]++l.drop (i+1)):=by
    rw[List.set_eq_take_append_cons_drop,if_pos hi];rfl
   rw[h1]
   conv=>rhs;rw[h2]
   rw[Tr,Tr,Tr,Tr,TX,TX];omega
 rw[List.set_eq_of_length_le (by omega)];exact yE _
theorem KZ (u:Int):∀(l:List Xe) (k:Nat) (t:List Xe),∃r,Xz (V9 u) Vc l k t= .brk r/\GoD.size r<=GoD.size t+GoD.size l
 | [],k,t=>⟨t,rfl,Nat.le_add_right _ _⟩
 | a ::l,k,t=>by
   have e:GoD.size (a::l)=GoD.size [a]+GoD.size l:=Tr [a] l;simp only[Xz,V9];cases J3 a u with
   | true=>
     simp only[cond_true];obtain ⟨r,h1,h2⟩:=KZ u l (k+1) (t++ [Qp a]);refine ⟨r,h1, ?_⟩;rw[Tr,show Qp a=a from rfl] at h2;omega
   | false=>
     simp only[cond_false];obtain ⟨r,h1,h2⟩:=KZ u l (k+1) t;exact ⟨r,h1,by omega⟩
theorem VB (s:Qz):∀(l:List Xe) (k:Nat) (t:List Xe),∃r,Xz (Kr s) U5 l k t= .brk r/\GoD.size r<=GoD.size t
 | [],k,t=>⟨t,rfl,yE _⟩
 | a ::l,k,t=>by
   simp only[Xz,Kr];cases decide ((Xw (s.1,t,s.2.2) ((nth t k).2.2.2.1))<(0:Int)) with
   | true=>
     simp only[cond_true];obtain ⟨r,h1,h2⟩:=VB s l (k+1) (xB t k ((nth t k).1,(nth t k).2.1,(nth t k).2.2.1,0,(nth t k).2.2.2.2));exact ⟨r,h1,xG h2 (Qhv _ (yE _))⟩
   | false=>
     simp only[cond_false];exact VB s l (k+1) t
theorem NB (s:Qz) (u:Int):GoD.size (Qy s u)<=GoD.size s:=by
 unfold Qy;obtain ⟨r,h1,h2⟩:=KZ u s.2.1 0 [];rw[h1];simp only[Out.on];obtain ⟨r2,h3,h4⟩:=VB s r 0 r;rw[h3];have e:GoD.size s=GoD.size s.1+(GoD.size s.2.1+0):=rfl;have e2:GoD.size ((s.1,r2,s.2.2):Qz)=GoD.size s.1+(GoD.size r2+0):=rfl;have e3:GoD.size ([]:List Xe)=0:=rfl;show GoD.size ((s.1,r2,s.2.2):Qz)<=_;omega
theorem NC (s:Qz) (d:List X0) (u:Int) (n:ByteArray):∀x,x∈Wa s d u n->1<=x/\x<=60:=by rw[KN];exact Rq s d u n
theorem Qko (s:Qz) (d:List X0) (u:Int) (n:ByteArray):(Z1 (Qy s u) (Jd s d u n)).length<=12/\∀(k:Nat) (x:ByteArray),(Z1 (Qy s u) (Jd s d u n))[k]? =some x->x.size<=GoD.size s+25:=by
 obtain ⟨h1,h2⟩:=Qhu (s:=Qy s u) (Rq s d u n);have h3:=Qq0 s d u n;have h4:=NB s u;exact ⟨by omega,λk x hx=>by have:=h2 x (zF hx);omega⟩
theorem GJ {s:Qz} (hs:TxS s):∀(l:List Int) (k:Nat) (b t:List ByteArray),(∀x,x∈l->1<=x/\x<=60)->(∀x,x∈t->x.size<=1025)->∃r,Xz (Ub s) Cf l k (b,t)= .brk r/\∀x,x∈r->x.size<=1025
 | [],k,b,t,_,h=>⟨t,rfl,h⟩
 | a ::l,k,b,t,hi,h=>by
   have ha:=hi a (zP ..);have hb:=RH hs a;have hn:=Ng (n:=a) (by omega)
   have hl:(NA s a).size<=1025:=by
    have h1:zE (⟨#[46]⟩:ByteArray)=1:=rfl;show ((Dl s a++(⟨#[46]⟩:ByteArray))++Hk a).size<=_;rw[zI,zI];have h2:(Dl s a).size<=1000:=hb;omega
   have hi':∀x,x∈l->1<=x/\x<=60:=λx hx=>hi x (zM _ hx)
   simp only[Xz,Ub];cases Qr b (Xt (((Qn s a)).1)) with
   | true=>
     simp only[cond_true]
     exact GJ hs l (k+1) (b++ [Dl s a]) (t++ [NA s a]) hi' λx hx=>by
      rcases yA.1 hx with hx | hx
      . exact h x hx
      obtain rfl:=yI.1 hx;exact hl
   | false=>
     simp only[cond_false]
     exact GJ hs l (k+1) (b++ [Dl s a]) (t++ [Dl s a]) hi' λx hx=>by
      rcases yA.1 hx with hx | hx
      . exact h x hx
      obtain rfl:=yI.1 hx;have h2:(Dl s a).size<=1000:=hb;omega
theorem Qe0 {s:Qz} (hs:TxS s) (d:List X0) (u:Int) (n:ByteArray):(Z1 (Qy s u) (Jd s d u n)).length<=12/\∀(k:Nat) (x:ByteArray),(Z1 (Qy s u) (Jd s d u n))[k]? =some x->x.size<=1025:=by
 refine ⟨(Qko s d u n).1,λk x hx=> ?_⟩;have hx:=zF hx;revert hx;unfold Z1;obtain ⟨r,h1,h2⟩:=GJ (KX hs u) (Jd s d u n) 0 [] [] (Rq s d u n) λx hx=>by simp at hx
 rw[h1];exact h2 x
theorem Qhw {s:Qz} (hs:TxS s) (d:List X0) (u:Int) (n:ByteArray):(K7 (Q9 s u) (Wa s d u n)).length<=12/\∀(k:Nat) (x:ByteArray),(K7 (Q9 s u) (Wa s d u n))[k]? =some x->x.size<=1025:=by
 rw[ZZ,Nf,KN];exact Qe0 hs d u n
open GoE (enc wide)
def Iv (_:Nat) (a0:ByteArray) (s0:ByteArray):Rd (ByteArray) (ByteArray) (ByteArray):=(.next (s0++((⟨#[32]⟩:ByteArray)++a0)))
def N2 (_:Nat) (s0:ByteArray):ByteArray:=s0
def Uc (s_:Qz) (d:List X0) (user:Int) (name:ByteArray):ByteArray:=(Out.on (Xz Iv N2 (Z1 (Qy s_ user) (Jd s_ d user name)) 0 name) (λy0=>y0))
theorem CI (s_:Qz) (d:List X0) (user:Int) (name:ByteArray) (hp:TxS s_) (hn:name.size<=1000):ACalls Tryz.prog 56 [.a [.h s_.1,.h s_.2.1,.i s_.2.2],.h d,.i user,.s name] (.s (Uc s_ d user name)):=by
 refine en Qb Tryz.func56 λw0 F0 hG=> ?_
 refine sn Qb [1,2,3,4,8] [4] p0 <| tn Qb [1,2,3,4,8,9] [4] p0 <| Qc <| tU Qb Zg [(8,.s ⟨#[]⟩),(9,.s name),(21,.o 1344 (Z1 (Qy s_ user) (Jd s_ d user name))),(22,.i ((Z1 (Qy s_ user) (Jd s_ d user name)).length:Int)),(23,.i 0)] [0,1,2,3] [] [] (pc 2 (Ol s_ user) (pc 7 (FO s_ d user name) (pc 8 (WR (Qy s_ user) (Jd s_ d user name) (Rq s_ d user name) (KX hp user)) (pl 9 (Z1 (Qy s_ user) (Jd s_ d user name)) p0)))) <| wT 21 0 (.own true 1344) (Z1 (Qy s_ user) (Jd s_ d user name)) (λhw1 hl2=> ?_)
 refine KD Iv N2 (Z1 (Qy s_ user) (Jd s_ d user name)) name (λk0 s0=> [(9,.s s0),(23,.i (k0:Int))]) [9,23] (λy0=> [(9,.s y0)]) [9,21,22,23] (λk0 s0=>zE s0<=name.size+300000000*k0) wf0 (by omega) (λk0 s0 hk0 U=> ?_) (λk0 s0 hk0 U=> ?_) (λy0 hD0=> ?_)
 ·have hA0_0:=U.2;obtain ⟨a0,hx0⟩:=Xm (l:=Z1 (Qy s_ user) (Jd s_ d user name)) (i:=k0) hk0;have hlo:=Qe0 hp d user name;have hxs:=hlo.2 _ _ hx0;have hll:=hlo.1;refine su Qb [(24,.b true)] [] [] [] (pe 0 (zB ((k0:Int)<((Z1 (Qy s_ user) (Jd s_ d user name)).length:Int))) p0) <| Qc <| ckT <| Qg <| Qc <| Qv <| su Qb [(11,.s a0)] [24] [] [] (pN 0 hx0 p0) <| rn Qb [8,9,21,22,23] [] (px (Sm (n:=(zE (⟨#[32]⟩:ByteArray)+zE a0)) (by have hq0:zE (⟨#[32]⟩:ByteArray)=1:=rfl;unfold maxLen;first|omega|(simp only[zI];omega))) (px (Sm (n:=(zE s0+zE ((⟨#[32]⟩:ByteArray)++a0))) (by have hq0:zE (⟨#[32]⟩:ByteArray)=1:=rfl;unfold maxLen;first|omega|(simp only[zI];omega))) p0)) ?_
  refine qn Qb [8,9,21,22,23] [] (pe 0 (Jl (Qo k0 (by omega))) p0) ?_;exact xw (s0++((⟨#[32]⟩:ByteArray)++a0)) ⟨Qt hx0 (rfl) U.1,(by have hq:zE (⟨#[32]⟩:ByteArray)=1:=rfl;simp only[zI];omega)⟩
 ·have hA0_0:=U.2;exact su Qb [(24,.b false)] [] [] [] (pe 0 (zC ((k0:Int)<((Z1 (Qy s_ user) (Jd s_ d user name)).length:Int))) p0) <| Qc <| ckF <| Q3 <| xw _ (Xn hk0 (rfl) U.1)
 exact sn Qb [8] [] p0 <| Qe <| ps [] (Wk hD0 (rfl))
def U7 (s_:Qz) (d:List X0) (user:Int) (_:Nat) (a0:X0) (s0:Z):Rd Z Z Z:=(.next (s0++ [(Uc s_ d user a0.1)]))
def Cg (_:Nat) (s0:Z):Z:=s0
def K8 (s_:Qz) (d:List X0) (user:Int):Z:=(bif (!(((Ya s_ d user)).2)) then [] else (Out.on (Xz (U7 s_ d user) Cg d 0 []) (λy0=>y0)))
theorem R5 (s_:Qz) (d:List X0) (user:Int):ACalls Tryz.prog 17 [.a [.h s_.1,.h s_.2.1,.i s_.2.2],.h d,.i user] (.o 0 (K8 s_ d user)):=by
 refine en Qb Tryz.func17 λw0 F0 hG=> ?_
 refine sn Qb [1,2,3,6] [3] p0 <| Qc <| tn Qb [1,2,3,6,8] [3] (pc 3 (Me s_ d user) p0) <| tu Qb [(3,.p 3 0),(6,.e 0),(20,.b (!(((Ya s_ d user)).2)))] [0] [(3, [.h s_.1,.h s_.2.1,.i s_.2.2])] [] p0 <| ck (!(((Ya s_ d user)).2)) (λh1=> ?_) (λh1=> ?_)
 ·refine su Qb [] [20] [] [] p0 <| opn [(false,6,0,true,384000,1)] ?_
  exact Qe <| po0 [] (Q4 h1 (rfl))
 have h1n:(((Ya s_ d user)).2)=true:=Za h1;have hok:=BP h1n;refine Qg <| sn Qb [1,2,3,6,9] [3] p0 <| Qc <| tn Qb [1,2,3,6,9,22,23,24] [3] (pl 1 d p0) <| mz [(9,.one (.slc (.own true 1344) 1 [])),(22,.h d),(23,.i (d.length:Int)),(24,.i 0)] [20] [] [] <| wT 1 0 .sh d (λhw2 hl3=> ?_)
 refine YP (U7 s_ d user) Cg d [] (λk0 s0=> [(9,.o 147204 s0),(24,.i (k0:Int))]) [9,24] (λ_ _=> []) [] (λy0=> [(9,.o 147354 y0)]) [1,2,3,9,22,23,24] (λ_=> []) [3] (λk0 s0=>zD s0<=k0) (Xg [(1344,147204)] (by kernel_rfl)) (by simp) (λk0 s0 hk0 U=> ?_) (λk0 s0 hk0 U=> ?_) (λy0 hD0=> ?_)
 ·have hA0_0:=U.2;obtain ⟨a0,hx0⟩:=Xm (l:=d) (i:=k0) hk0;refine su Qb [(25,.b true)] [] [] [] (pe 0 (zB ((k0:Int)<(d.length:Int))) p0) <| Qc <| ckT <| Qg <| Qc <| Qv <| sn Qb [1,2,3,6,9,11,22,23,24] [3,11] (pn 0 hx0 p0) <| wT 9 0 (.own true 147204) s0 (λhw4 hl5=> ?_)
  refine qu Qb [(9,.one (.slc (.own true 2304) 1 ((eL s0)++ [[.s (Uc s_ d user a0.1)]])))] [9,25] [] [] (pc 6 (CI s_ d user a0.1 (hok.1) (hok.2 _ (zF hx0))) (pa s0 [(Uc s_ d user a0.1)] p0)) ?_;refine eqn [(9,.o 2304 (s0++ [(Uc s_ d user a0.1)]))] [9] [] [] (by rw[show ((eL s0)++ [[.s (Uc s_ d user a0.1)]])=(eL (s0++ [(Uc s_ d user a0.1)])) from Ju (rfl) (rfl)];first | done | kernel_rfl) ?_;refine rn Qb [1,2,3,6,9,22,23,24] [3] (pe 0 (Jl (Qo k0 (by omega))) p0) ?_;exact zG (s0++ [(Uc s_ d user a0.1)]) (zL (Xg [(2304,147204)] (by kernel_rfl)) ⟨Qt hx0 (rfl) U.1,by first|omega|(simp;omega) | simp⟩)
 ·have hA0_0:=U.2;exact su Qb [(25,.b false)] [] [] [] (pe 0 (zC ((k0:Int)<(d.length:Int))) p0) <| Qc <| ckF <| Q3 <| zG _ (zL (Xg [(147204,147354)] (by kernel_rfl)) (Xn hk0 (rfl) U.1))
 exact sn Qb [6] [] p0 <| Qe <| po0 [] (Qi h1 (Wk hD0 (rfl)))
def L4 (_:Nat) (a0:ByteArray) (s0:ByteArray):Rd (ByteArray) (ByteArray) (ByteArray):=(.next ((s0++(⟨#[32]⟩:ByteArray))++a0))
def Pa (_:Nat) (s0:ByteArray):ByteArray:=s0
def B2 (s_:Qz) (d:List X0) (u:Int) (name:ByteArray):ByteArray:=(Out.on (Xz L4 Pa (K7 (Q9 s_ u) (Wa s_ d u name)) 0 name) (λy0=>y0))
theorem GK (s_:Qz) (d:List X0) (u:Int) (name:ByteArray) (hp:TxS s_) (hn:name.size<=1000):ACalls Tryz.prog 58 [.a [.h s_.1,.h s_.2.1,.i s_.2.2],.h d,.i u,.s name] (.s (B2 s_ d u name)):=by
 refine en Qb Tryz.func58 λw0 F0 hG=> ?_
 refine sn Qb [1,2,3,4,8] [4] p0 <| tn Qb [1,2,3,4,8,9] [4] p0 <| tU Qb Zg [(8,.s ⟨#[]⟩),(9,.s name),(10,.o 1344 (K7 (Q9 s_ u) (Wa s_ d u name)))] [0,1,2,3] [] [] (pc 2 (Dk s_ u) (pc 7 (FQ s_ d u name) (pc 8 (WS (Q9 s_ u) (Wa s_ d u name) (NC s_ d u name) (RI hp u)) p0))) <| Qc <| sn Qb [8,9,10,11] [] p0 <| mz [(11,.i 0)] [] [] [] <| wT 10 0 (.own true 1344) (K7 (Q9 s_ u) (Wa s_ d u name)) (λhw1 hl2=> ?_)
 refine KD L4 Pa (K7 (Q9 s_ u) (Wa s_ d u name)) name (λk0 s0=> [(9,.s s0),(11,.i (k0:Int))]) [9,11] (λy0=> [(9,.s y0)]) [9,10,11] (λk0 s0=>zE s0<=name.size+300000000*k0) wf0 (by omega) (λk0 s0 hk0 U=> ?_) (λk0 s0 hk0 U=> ?_) (λy0 hD0=> ?_)
 ·have hA0_0:=U.2;obtain ⟨a0,hx0⟩:=Xm (l:=K7 (Q9 s_ u) (Wa s_ d u name)) (i:=k0) hk0;have hlo:=Qhw hp d u name;have hxs:=hlo.2 _ _ hx0;have hll:=hlo.1;refine Qc <| sn Qb [8,9,10,11,25] [] (pl 2 (K7 (Q9 s_ u) (Wa s_ d u name)) (pe 3 (zB ((k0:Int)<((K7 (Q9 s_ u) (Wa s_ d u name)).length:Int))) p0)) <| ckT <| Qg <| Qc <| Qv <| qn Qb [8,9,10,11] [] (px (Sm (n:=(zE s0+zE (⟨#[32]⟩:ByteArray))) (by have hq0:zE (⟨#[32]⟩:ByteArray)=1:=rfl;unfold maxLen;first|omega|(simp only[zI];omega))) (pN 4 hx0 (px (Sm (n:=(zE (s0++(⟨#[32]⟩:ByteArray))+zE a0)) (by have hq0:zE (⟨#[32]⟩:ByteArray)=1:=rfl;unfold maxLen;first|omega|(simp only[zI];omega))) p0))) ?_
  refine qu Qb [(9,.s ((s0++(⟨#[32]⟩:ByteArray))++a0)),(11,.i ((k0+1:Nat):Int))] [9,11] [] [] (pe 1 (Jl (Qo k0 (by omega))) p0) ?_;exact xw ((s0++(⟨#[32]⟩:ByteArray))++a0) ⟨Qt hx0 (rfl) U.1,(by have hq:zE (⟨#[32]⟩:ByteArray)=1:=rfl;simp only[zI];omega)⟩
 ·have hA0_0:=U.2;exact Qc <| sn Qb [8,9,10,11,25] [] (pl 2 (K7 (Q9 s_ u) (Wa s_ d u name)) (pe 3 (zC ((k0:Int)<((K7 (Q9 s_ u) (Wa s_ d u name)).length:Int))) p0)) <| ckF <| Q3 <| xw _ (Xn hk0 (rfl) U.1)
 exact sn Qb [8] [] p0 <| Qe <| ps [] (Wk hD0 (rfl))
def Es (s_:Qz) (d:List X0) (u:Int) (_:Nat) (a0:X0) (s0:Z):Rd Z Z Z:=(.next (s0++ [(B2 s_ d u a0.1)]))
def Lm (_:Nat) (s0:Z):Z:=s0
def Wu (s_:Qz) (d:List X0) (u:Int):Z:=(bif (!(((Zy s_ d u)).2)) then [] else (Out.on (Xz (Es s_ d u) Lm d 0 []) (λy0=>y0)))
theorem R6 (s_:Qz) (d:List X0) (u:Int):ACalls Tryz.prog 19 [.a [.h s_.1,.h s_.2.1,.i s_.2.2],.h d,.i u] (.o 0 (Wu s_ d u)):=by
 refine en Qb Tryz.func19 λw0 F0 hG=> ?_
 refine sn Qb [1,2,3,6] [3] p0 <| tn Qb [1,2,3,6,7] [3] p0 <| Qc <| tu Qb [(3,.p 3 0),(6,.e 0),(7,.one (.slc (.own true 704) 1 [])),(9,.b (((Zy s_ d u)).2))] [0] [(3, [.h s_.1,.h s_.2.1,.i s_.2.2])] [] (pc 3 (Mf s_ d u) p0) <| sn Qb [1,2,3,6,7,20] [3] p0 <| ck (!(((Zy s_ d u)).2)) (λh1=> ?_) (λh1=> ?_)
 ·exact tn Qb [1,2,3,6,7] [3] p0 <| Qe <| po0 [] (Q4 h1 (rfl))
 have h1n:(((Zy s_ d u)).2)=true:=Za h1;have hok:=RL h1n;refine Qg <| Qc <| tu Qb [(10,.i 0)] [9] [] [] p0 <| wT 1 0 .sh d (λhw2 hl3=> ?_)
 refine YP (Es s_ d u) Lm d [] (λk0 s0=> [(7,.o 147204 s0),(10,.i (k0:Int))]) [7,10] (λ_ _=> []) [] (λy0=> [(7,.o 147354 y0)]) [1,2,3,7,10] (λ_=> []) [3] (λk0 s0=>zD s0<=k0) (Xg [(704,147204)] (by kernel_rfl)) (by simp) (λk0 s0 hk0 U=> ?_) (λk0 s0 hk0 U=> ?_) (λy0 hD0=> ?_)
 ·have hA0_0:=U.2;obtain ⟨a0,hx0⟩:=Xm (l:=d) (i:=k0) hk0;refine Qc <| su Qb [(25,.b true)] [] [] [] (pl 2 d (pe 3 (zB ((k0:Int)<(d.length:Int))) p0)) <| ckT <| Qg <| Qc <| Qv <| wT 7 0 (.own true 147204) s0 (λhw4 hl5=> ?_)
  refine rU Qb Zg [(7,.one (.slc (.own true 2496) 1 ((eL s0)++ [[.s (B2 s_ d u a0.1)]])))] [7,25] [] [] (pn 6 hx0 (pc 9 (GK s_ d u a0.1 (hok.1) (hok.2 _ (zF hx0))) (pa s0 [(B2 s_ d u a0.1)] p0))) ?_;refine eqn [(7,.o 2496 (s0++ [(B2 s_ d u a0.1)]))] [7] [] [] (by rw[show ((eL s0)++ [[.s (B2 s_ d u a0.1)]])=(eL (s0++ [(B2 s_ d u a0.1)])) from Ju (rfl) (rfl)];first | done | kernel_rfl) ?_;refine rn Qb [1,2,3,6,7,10] [3] (pe 1 (Jl (Qo k0 (by omega))) p0) ?_;exact zG (s0++ [(B2 s_ d u a0.1)]) (zL (Xg [(2496,147204)] (by kernel_rfl)) ⟨Qt hx0 (rfl) U.1,by first|omega|(simp;omega) | simp⟩)
 ·have hA0_0:=U.2;exact Qc <| su Qb [(25,.b false)] [] [] [] (pl 2 d (pe 3 (zC ((k0:Int)<(d.length:Int))) p0)) <| ckF <| Q3 <| zG _ (zL (Xg [(147204,147354)] (by kernel_rfl)) (Xn hk0 (rfl) U.1))
 exact sn Qb [6] [] p0 <| Qe <| po0 [] (Qi h1 (Wk hD0 (rfl)))
theorem Qkp (s:Qz) (d:List X0) (u:Int) (n:ByteArray):B2 s d u n=Uc s d u n:=by
 unfold B2 Uc
 rw[Nf,KN,ZZ,Ed (f:=L4) (g:=Iv) (e:=Pa) (e':=N2) (λk a t=>by
  unfold L4 Iv;rw[ByteArray.append_assoc]) (λ_ _=>rfl)]
theorem JA (s:Qz) (d:List X0) (u:Int):Wu s d u=K8 s d u:=by
 unfold Wu K8
 rw[XN,Ed (f:=Es s d u) (g:=U7 s d u) (e:=Lm) (e':=Cg) (λk a t=>by
  unfold Es U7;rw[Qkp]) (λ_ _=>rfl)]
open GoD (rd own)
theorem Qiv (a:UInt8):InR .u8 (a.toNat:Int):=by
 have h:a.toNat<256:=a.toNat_lt;constructor<;>simp[IntKind.min,IntKind.max,IntKind.bits,IntKind.signed]<;>omega
instance instGoEU8:GoE UInt8 where
 enc a:= [.int .u8 (a.toNat:Int)]
 no_any h:=by rw[yI.1 h];simp
 enc_len _:=rfl
 n_pos:=Nat.zero_lt_one
 wide _:=True
 wide_size _:=trivial
 vc_wide _:=trivial
 rd_vc {w cs a} h _:=by rw[show cs=_ from h];exact .cons (.int (Qiv a)) .nil
 vc_rd h:=by
  cases h with
  | cons h1 h2=>cases h2;cases h1;rfl
 own_oc h _:=by obtain ⟨rfl,h⟩:=h;rw[h];exact OC.cons (L1:= []) (L2:= []) (.int (Qiv _)) .nil
 oc_own h _:=by
  cases h with
  | cons h1 h2=>cases h2;cases h1;exact ⟨rfl,rfl⟩
open GoE (enc wide)
def JB (k0:Nat) (a0:UInt8) (s0:Int):Rd (Nat×Int) (Int) (Int):=(bif decide ((k0:Int)<(4000:Int)) then (.next (GW .i64 (IntKind.i64.wrap (IntKind.i64.wrap (IntKind.i64.wrap (s0*131)+IntKind.i64.wrap (yZ a0:Int))+7)) 1073741823)) else (.brk s0))
def JC (_:Nat) (s0:Int):Int:=s0
def Px (Y:List UInt8):Nat×Int:=(Out.on (Xz JB JC Y 0 (IntKind.i64.wrap (94701+(Y.length:Int)))) (λy0=>(0,y0)))
set_option maxRecDepth 30000 in
theorem ND (Y:List UInt8):ANew Tryz.prog 11 [.h Y] [.h Y,.i (((Px Y).1:Nat):Int),.i ((Px Y).2)]:=by
 refine Qj4 Tryz.func11 (fn:=Tryz.f11) rfl (by unfold E9;kernel_rfl) (zZ rfl) rfl λw0 F0 hG=> ?_
 refine sn Qb [0] [] p0 <| tn Qb [0,3] [] (pl 1 Y p0) <| Qc <| tu Qb [(3,.i (IntKind.i64.wrap (94701+(Y.length:Int)))),(4,.i 0)] [] [] [] p0 <| wT 0 0 .sh Y (λhw1 hl2=> ?_)
 refine P0 JB JC Y (IntKind.i64.wrap (94701+(Y.length:Int))) (λk0 s0=> [(3,.i s0),(4,.i (k0:Int))]) [3,4] (λy0=> [(3,.i y0)]) [3,4] wf0 (λk0 s0 hk0 U=> ?_) (λk0 s0 hk0 U=> ?_) (λy0 hD0=> ?_)
 ·obtain ⟨a0,hx0⟩:=Xm (l:=Y) (i:=k0) hk0;refine Qc <| sn Qb [0,3,4,15] [] (pl 2 Y (pe 3 (zB ((k0:Int)<(Y.length:Int))) p0)) <| ck (decide ((k0:Int)<(4000:Int))) (λh3=> ?_) (λh3=> ?_)
  ·have h3d:=of_decide_eq_true h3;refine Qg <| Qc <| Qv <| qn Qb [0,3,4] [] (pn 4 hx0 p0) ?_
   refine qu Qb [(3,.i (GW .i64 (IntKind.i64.wrap (IntKind.i64.wrap (IntKind.i64.wrap (s0*131)+IntKind.i64.wrap (yZ a0:Int))+7)) 1073741823)),(4,.i ((k0+1:Nat):Int))] [3,4] [] [] (pe 1 (Jl (Qo k0 (by omega))) p0) ?_;exact xw _ (Qt hx0 (Q4 h3 (rfl)) U)
  exact Q3 <| xw _ (EY hx0 (Qi h3 (rfl)) U)
 ·exact Qc <| sn Qb [0,3,4,15] [] (pl 2 Y (pe 3 (zC ((k0:Int)<(Y.length:Int))) p0)) <| ckF <| Q3 <| xw _ (Xn hk0 (rfl) U)
 exact sn Qb [2] [31] p0 <| Qe <| Qm4 [] 2 31 (congrArg (λz=>([.h Y,.i (z.1:Int),.i z.2]:List C)) (show Px Y=(0,y0) from Wk hD0 (rfl)).symm)
def Kd (Y:List UInt8) (ci:Nat) (ch:Int):Int×Nat×Int:=(bif decide (((ci:Nat):Int)<(Y.length:Int)) then (GW .i64 (IntKind.i64.wrap (GW .i64 (Qfl .i64 (GR .i64 (IntKind.i64.wrap (IntKind.i64.wrap (ch*6364136223846793005)+1442695040888963407)) 33) (GR .i64 (IntKind.i64.wrap (IntKind.i64.wrap (ch*6364136223846793005)+1442695040888963407)) 45)) 255+IntKind.i64.wrap (yZ (nth Y ci):Int))) 255,ci+1,IntKind.i64.wrap (IntKind.i64.wrap (ch*6364136223846793005)+1442695040888963407)) else (GW .i64 (Qfl .i64 (GR .i64 (IntKind.i64.wrap (IntKind.i64.wrap (ch*6364136223846793005)+1442695040888963407)) 33) (GR .i64 (IntKind.i64.wrap (IntKind.i64.wrap (ch*6364136223846793005)+1442695040888963407)) 45)) 255,ci,IntKind.i64.wrap (IntKind.i64.wrap (ch*6364136223846793005)+1442695040888963407)))
theorem Iw (Y:List UInt8) (ci:Nat) (ch:Int):AGive Tryz.prog 85 [.h Y,.i ((ci:Nat):Int),.i ch] [] (.i (((Kd Y ci ch)).1)) [.h Y,.i ((((Kd Y ci ch)).2.1:Nat):Int),.i (((Kd Y ci ch)).2.2)]:=by
 refine V3 (tt:=tt) Qb Tryz.func85 (fn:=Tryz.f85) rfl (by unfold E9;kernel_rfl) (zZ rfl) (zZ rfl) rfl rfl λw0 F0 hG=> ?_
 refine sn Qb [0,2] [60000] p0 <| tn Qb [0,2] [60000] p0 <| tU Qb Zg [(2,.i 0),(3,.i (GW .i64 (Qfl .i64 (GR .i64 (IntKind.i64.wrap (IntKind.i64.wrap (ch*6364136223846793005)+1442695040888963407)) 33) (GR .i64 (IntKind.i64.wrap (IntKind.i64.wrap (ch*6364136223846793005)+1442695040888963407)) 45)) 255))] [] [(60000, [.h Y,.i ((ci:Nat):Int),.i (IntKind.i64.wrap (IntKind.i64.wrap (ch*6364136223846793005)+1442695040888963407))])] [60000] p0 <| Qc <| sN Qb Zg [0,2,3,34] [60000] (pl 8 Y p0) <| ck (decide (((ci:Nat):Int)<(Y.length:Int))) (λh1=> ?_) (λh1=> ?_)
 ·have h1d:=of_decide_eq_true h1;refine wB 60000 0 .sh Y (λhw3 hl4=> ?_);have hx2:=ng Y ci;refine tN Qb Zg [0,2,3] [60000] (pn 9 hx2 p0) <| qu Qb [(3,.i (GW .i64 (IntKind.i64.wrap (GW .i64 (Qfl .i64 (GR .i64 (IntKind.i64.wrap (IntKind.i64.wrap (ch*6364136223846793005)+1442695040888963407)) 33) (GR .i64 (IntKind.i64.wrap (IntKind.i64.wrap (ch*6364136223846793005)+1442695040888963407)) 45)) 255+IntKind.i64.wrap (yZ (nth Y ci):Int))) 255))] [3] [(60000, [.h Y,.i ((ci+1:Nat):Int),.i (IntKind.i64.wrap (IntKind.i64.wrap (ch*6364136223846793005)+1442695040888963407))])] [60000] (pe 5 (Jl (Qo ci (by omega))) p0) ?_
  refine sn Qb [0,2] [60000] p0 <| Qe ?_
  have hE5:Kd Y ci ch=(GW .i64 (IntKind.i64.wrap (GW .i64 (Qfl .i64 (GR .i64 (IntKind.i64.wrap (IntKind.i64.wrap (ch*6364136223846793005)+1442695040888963407)) 33) (GR .i64 (IntKind.i64.wrap (IntKind.i64.wrap (ch*6364136223846793005)+1442695040888963407)) 45)) 255+IntKind.i64.wrap (yZ (nth Y ci):Int))) 255,ci+1,IntKind.i64.wrap (IntKind.i64.wrap (ch*6364136223846793005)+1442695040888963407)):=Q4 h1 (rfl);exact B9 [] (congrArg (λz=>(.i z.1:AV)) hE5.symm) (congrArg (λz=>([.h Y,.i (z.2.1:Int),.i z.2.2]:List C)) hE5.symm)
 refine Qg <| tn Qb [0,2] [60000] p0 <| Qe ?_
 have hE6:Kd Y ci ch=(GW .i64 (Qfl .i64 (GR .i64 (IntKind.i64.wrap (IntKind.i64.wrap (ch*6364136223846793005)+1442695040888963407)) 33) (GR .i64 (IntKind.i64.wrap (IntKind.i64.wrap (ch*6364136223846793005)+1442695040888963407)) 45)) 255,ci,IntKind.i64.wrap (IntKind.i64.wrap (ch*6364136223846793005)+1442695040888963407)):=Qi h1 (rfl);exact B9 [] (congrArg (λz=>(.i z.1:AV)) hE6.symm) (congrArg (λz=>([.h Y,.i (z.2.1:Int),.i z.2.2]:List C)) hE6.symm)
theorem Ql0 (a:Int):0<=GW .i64 a 255/\GW .i64 a 255<=255:=by
 have h:(xH 64 a &&& xH 64 255).toNat<=255:=by
  rw[BitVec.toNat_and];exact xG Nat.and_le_right (by decide)
 have e:GW .i64 a 255=IntKind.i64.wrap (xH 64 a &&& xH 64 255).toNat:=rfl;rw[e,IntWalk.i64_in _ (by omega)];omega
theorem Uf (Y:List UInt8) (ci:Nat) (ch:Int):0<=(Kd Y ci ch).1/\(Kd Y ci ch).1<=255:=by
 unfold Kd;cases decide (((ci:Nat):Int)<(Y.length:Int))<;>exact Ql0 _
open GoE (enc wide)
def Ql (Y:List UInt8) (ci:Nat) (ch:Int) (n:Int):Int×Nat×Int:=(bif decide (n<=(0:Int)) then (0,ci,ch) else (bif decide (n<=(256:Int)) then (lt (Kd Y ci ch) (λx4=>(xQ x4.1 n,x4.2.1,x4.2.2))) else (lt (Kd Y ci ch) (λx6=>(lt (Kd Y x6.2.1 x6.2.2) (λx7=>(lt (Kd Y x7.2.1 x7.2.2) (λx8=>(lt (Kd Y x8.2.1 x8.2.2) (λx9=>(xQ ((((x6.1*16777216)+(x7.1*65536))+(x8.1*256))+x9.1) n,x9.2.1,x9.2.2)))))))))))
theorem Xy (Y:List UInt8) (ci:Nat) (ch:Int) (n:Int):AGive Tryz.prog 38 [.h Y,.i ((ci:Nat):Int),.i ch] [.i n] (.i (((Ql Y ci ch n)).1)) [.h Y,.i ((((Ql Y ci ch n)).2.1:Nat):Int),.i (((Ql Y ci ch n)).2.2)]:=by
 refine V3 (tt:=tt) Qb Tryz.func38 (fn:=Tryz.f38) rfl (by unfold E9;kernel_rfl) (zZ rfl) (zZ rfl) rfl rfl λw0 F0 hG=> ?_
 refine sn Qb [0,1,4] [60000] p0 <| Qc <| tn Qb [0,1,4,10] [60000] p0 <| ck (decide (n<=(0:Int))) (λh1=> ?_) (λh1=> ?_)
 ·refine tu Qb [(4,.i 0)] [] [] [] p0 <| Qe ?_
  have hE2:Ql Y ci ch n=(0,ci,ch):=Q4 h1 (rfl);exact B9 [] (congrArg (λz=>(.i z.1:AV)) hE2.symm) (congrArg (λz=>([.h Y,.i (z.2.1:Int),.i z.2.2]:List C)) hE2.symm)
 have h1d:=of_decide_eq_false h1;refine Qg <| Qc <| tu Qb [(4,.i 0),(12,.b (decide (n<=(256:Int))))] [] [] [] p0 <| ck (decide (n<=(256:Int))) (λh3=> ?_) (λh3=> ?_)
 ·have h3d:=of_decide_eq_true h3;obtain ⟨x4,hx4⟩:=nm (Kd Y ci ch);have hbx4:=hx4▸Uf Y ci ch;refine sn Qb [0,1,4] [60000] (po 1 (.give none (.i x4.1) [.h Y,.i (x4.2.1:Int),.i x4.2.2]) (px (Xk (hx4▸Iw Y ci ch)) (px (Qld (n:=n) (by omega)) (px (Qib (k:= .i64) (n:=xQ x4.1 n) (SL (by omega))) p0)))) <| Qe ?_
  have hE5:Ql Y ci ch n=(xQ x4.1 n,x4.2.1,x4.2.2):=Qi h1 (Q4 h3 (Zt hx4 (rfl)));exact B9 [] (congrArg (λz=>(.i z.1:AV)) hE5.symm) (congrArg (λz=>([.h Y,.i (z.2.1:Int),.i z.2.2]:List C)) hE5.symm)
 have h3d:=of_decide_eq_false h3;refine Qg ?_;obtain ⟨x6,hx6⟩:=nm (Kd Y ci ch);have hbx6:=hx6▸Uf Y ci ch;refine sn Qb [0,1,4,5] [60000] (po 1 (.give none (.i x6.1) [.h Y,.i (x6.2.1:Int),.i x6.2.2]) (px (Xk (hx6▸Iw Y ci ch)) p0)) ?_;obtain ⟨x7,hx7⟩:=nm (Kd Y x6.2.1 x6.2.2);have hbx7:=hx7▸Uf Y x6.2.1 x6.2.2;refine tn Qb [0,1,4,5,6] [60000] (po 1 (.give none (.i x7.1) [.h Y,.i (x7.2.1:Int),.i x7.2.2]) (px (Xk (hx7▸Iw Y x6.2.1 x6.2.2)) p0)) ?_;obtain ⟨x8,hx8⟩:=nm (Kd Y x7.2.1 x7.2.2);have hbx8:=hx8▸Uf Y x7.2.1 x7.2.2;refine tu Qb [(5,.i x6.1),(6,.i x7.1),(7,.i x8.1)] [12] [(60000, [.h Y,.i (x8.2.1:Int),.i x8.2.2])] [60000] (po 1 (.give none (.i x8.1) [.h Y,.i (x8.2.1:Int),.i x8.2.2]) (px (Xk (hx8▸Iw Y x7.2.1 x7.2.2)) p0)) ?_;obtain ⟨x9,hx9⟩:=nm (Kd Y x8.2.1 x8.2.2);have hbx9:=hx9▸Uf Y x8.2.1 x8.2.2;refine sn Qb [0,1,4,5,6,7,8] [60000] (po 1 (.give none (.i x9.1) [.h Y,.i (x9.2.1:Int),.i x9.2.2]) (px (Xk (hx9▸Iw Y x8.2.1 x8.2.2)) p0)) <| tn Qb [0,4] [60000] (pe 1 (Jl (IntWalk.i64_in (x6.1*16777216) (by omega))) (pe 3 (Jl (IntWalk.i64_in (x7.1*65536) (by omega))) (pe 4 (Jl (IntWalk.i64_in ((x6.1*16777216)+(x7.1*65536)) (by omega))) (pe 6 (Jl (IntWalk.i64_in (x8.1*256) (by omega))) (pe 7 (Jl (IntWalk.i64_in (((x6.1*16777216)+(x7.1*65536))+(x8.1*256)) (by omega))) (pe 9 (Jl (IntWalk.i64_in ((((x6.1*16777216)+(x7.1*65536))+(x8.1*256))+x9.1) (by omega))) (px (Qld (n:=n) (by omega)) (px (Qib (k:= .i64) (n:=xQ ((((x6.1*16777216)+(x7.1*65536))+(x8.1*256))+x9.1) n) (SL (by omega))) p0)))))))) <| Qe ?_
 have hE10:Ql Y ci ch n=(xQ ((((x6.1*16777216)+(x7.1*65536))+(x8.1*256))+x9.1) n,x9.2.1,x9.2.2):=Qi h1 (Qi h3 (Zt hx6 (Zt hx7 (Zt hx8 (Zt hx9 (rfl))))));exact B9 [] (congrArg (λz=>(.i z.1:AV)) hE10.symm) (congrArg (λz=>([.h Y,.i (z.2.1:Int),.i z.2.2]:List C)) hE10.symm)
theorem Q7 (Y:List UInt8) (ci:Nat) (ch n:Int):0<=(Ql Y ci ch n).1/\(0<n->(Ql Y ci ch n).1<n)/\(n<=0->(Ql Y ci ch n).1=0):=by
 unfold Ql lt;by_cases h0:n<=0
 . rw[decide_eq_true h0];exact ⟨wA _,λh=>by omega,λ_=>rfl⟩
 rw[decide_eq_false h0];have hn:0<n:=by omega
 cases decide (n<=(256:Int)) with
 | true=>
   have:=Uf Y ci ch;exact ⟨Int.tmod_nonneg _ this.1,λ_=>Int.tmod_lt_of_pos _ hn,λh=>by omega⟩
 | false=>
   simp only[cond_false];generalize hx6:Kd Y ci ch=x6;generalize hx7:Kd Y x6.2.1 x6.2.2=x7;generalize hx8:Kd Y x7.2.1 x7.2.2=x8;generalize hx9:Kd Y x8.2.1 x8.2.2=x9;have h6:=hx6▸Uf Y ci ch;have h7:=hx7▸Uf Y x6.2.1 x6.2.2;have h8:=hx8▸Uf Y x7.2.1 x7.2.2;have h9:=hx9▸Uf Y x8.2.1 x8.2.2;exact ⟨Int.tmod_nonneg _ (by omega),λ_=>Int.tmod_lt_of_pos _ hn,λh=>by omega⟩
end
end Go.Proofs.YtgmlioidliojkaaGreatDoor
