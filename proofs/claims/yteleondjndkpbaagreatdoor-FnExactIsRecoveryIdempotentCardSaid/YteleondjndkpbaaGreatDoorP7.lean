/- Texts of this proof, put together by a program: Lid, Rp, Lia, Wab, Rpa, Rpb, Rpc, Rpd, Nfa, Nfb, Cva, Cvc, Rca, Rcb, Rcc, Rcd, Lw, Sz, Fam, LYri, MYri. -/
import Derived.Test.YteleondjndkpbaaGreatDoorP6
import Derived.KernelRfl
import Derived.Lib.SlicesCompact
import Derived.Test.YteleondjndkpbaaGreatDoorProg
import Derived.Outline
set_option linter.unusedVariables false
set_option linter.unusedSimpArgs false
namespace Go.Proofs.YteleondjndkpbaaGreatDoor
open _root_ renaming Int → u, List → Y, Nat → T, Bool → G, Unit → uB, if_neg → uC, of_decide_eq_true → uD, decide_eq_false → uE, decide_eq_true → uF, if_pos → uG, of_decide_eq_false → uH, cond_false → uI, cond_true → uJ, ByteArray → uL, decide_eq_true_eq → uM
open _root_.Bool renaming true → X, false → W
open _root_.Go renaming World → K, Value → H, maxLen → uA, Program → uK
open _root_.Option renaming some → S, none → I
open _root_.And renaming intro → zM
open _root_.Bool renaming or_eq_true → yC, eq_iff_iff → yD
open _root_.ByteArray renaming size → zS
open _root_.Exists renaming intro → zF
open _root_.Int renaming toNat → yG
open _root_.List renaming length → zD, length_set → zE, nil_append → zG, take → zH, cons_append → zJ, getElem?_eq_getElem → zK, length_cons → zL, length_nil → zN, take_length → zO, map_id → zQ, pairwise_cons → zR, set → zT, mem_cons → zV, drop → zX, getD_eq_getElem?_getD → zZ, getElem?_eq_some_iff → yB, length_filter_le → yE, replicate → yF
open _root_.Nat renaming le_trans → zP, zero_le → zU, le_of_ble_eq_true → zW, le_refl → zY, lt_of_lt_of_le → yA
section
open Go.RowKit
open GoE (enc wide)
def E6 (n:u) (k0:T) (a0:u) (_:uB):Rd (Y u) (uB) (u):=(bif decide (a0<n) then (.next ()) else (.brk (k0:u)))
def E7 (k0:T) (_:uB):u:=(k0:u)
def Up (list:Y u) (n:u):(Y u):=(Out.on (X4 (E6 n) E7 list 0 ()) (λy0=>(bif (decide (y0<(list.length:u))&&((nth list y0.toNat)==n)) then list else zH y0.toNat list++ [n]++(zX y0.toNat list))))
theorem Sk (list:Y u) (n:u) (hp:list.length<1073741824):ACalls Tryz.prog 219 [.h list,.i n] (.h (Up list n)):=by
 refine en Qa Tryz.func219 λw0 F0 hG=> ?_
 refine sn Qa [0,1,4] [] p0 <| tn Qa [0,1,4,5] [] p0 <| Qb <| mz [(4,.e 0),(5,.i 0)] [] [] [] <| wT 0 0 .sh list (λhw1 hl2=> ?_)
 refine Qqz (E6 n) E7 list () (λk0 _=> [(5,.i (k0:u))]) [5] (λy0=> [(5,.i y0)]) [5] (λy0=>0<=y0/\y0<=(list.length:u)) wf0 (λk0 s0 O U=> ?_) (λk0 s0 O U=> ?_) (λy0 hD0=> ?_)
 ·obtain ⟨a0,V⟩:=Xh (l:=list) (i:=k0) O;refine Qb <| sn Qa [0,1,4,5,18] [] (pl 2 list (pe 3 (zB ((k0:u)<(list.length:u))) (pn 7 V p0))) <| ck (decide (a0<n)) (λh3=> ?_) (λh3=> ?_)
  ·have h3d:=uD h3;refine Qf <| Qo <| qn Qa [0,1,4,5] [] (pe 1 (Jl (Qn k0 (by omega))) p0) ?_
   exact xw _ (Qs V (Q9 h3 (rfl)) U)
  have h3d:=uH h3;exact Q4 <| xw (k0:u) ⟨SU V (Qj h3 (rfl)) U,by first|omega|(simp only[zE];omega)⟩
 ·exact Qb <| sn Qa [0,1,4,5,18] [] (pl 2 list (pe 3 (zC ((k0:u)<(list.length:u))) p0)) <| ckF <| Q4 <| xw (k0:u) ⟨Xj O (rfl) U,by first|omega|(simp only[zE];omega)⟩
 have hD0_0:=hD0.2;refine Qb <| Qb <| jn [(32,.b (decide (y0<(list.length:u))&&((nth list y0.toNat)==n)))] [] [] [] (decide (y0<(list.length:u))) (λh4=> ?_) (λh4=> ?_) ?_
 ·have h4d:=uD h4;have hx5:=ng list y0.toNat;refine rn Qa [0,1,4,5,32] [] (pl 2 list (pt 3 h4 (pg 7 y0 hx5 p0))) ?_;exact zA (by rw[h4]<;>kernel_rfl)
 ·refine rn Qa [0,1,4,5,32] [] (pl 2 list (pf 3 h4 p0)) ?_;exact zA (by rw[h4]<;>kernel_rfl)
 refine ck (decide (y0<(list.length:u))&&((nth list y0.toNat)==n)) (λh6=> ?_) (λh6=> ?_)
 ·exact sn Qa [0,1,4,5] [] p0 <| Qd <| ph0 [] (Vp hD0.1 (Q9 h6 (rfl)))
 refine Qf ?_;have hl7:zD (zH y0.toNat list)<=1073741824:=Dc (IM y0.toNat (hw1));refine su Qa [(6,.one (.slc (.own X 2624) 1 (([]++(eL (zH y0.toNat list)))++ [[.i n]])))] [1,32] [] [] (pe 3 (OU .sh 1 y0.toNat y0 list rfl) (px (Gc (lo:=0) (hi:=y0) (n:=(zD (eL list))) (Qeb (by omega) (by omega) (by omega))) (po 4 (.flat) (px (Ct (n:=(([]:Y (Y PV)).length+((eL (zH y0.toNat list)):Y (Y PV)).length)) (Eb (rfl) (Yr (zH y0.toNat list)) (by first|omega|(simp only[zL,zN];omega) | (simp;omega) | simp))) (px (Hx (Uh (zH y0.toNat list))) (px (Ct (n:=((([]++(eL (zH y0.toNat list))):Y (Y PV)).length+([[.i n]]:Y (Y PV)).length)) (by simp[Yr];omega)) p0)))))) <| eqn [(6,.o 2624 (zH y0.toNat list++ [n]))] [6] [] [] (by rw[show (([]++(eL (zH y0.toNat list)))++ [[.i n]])=(eL (zH y0.toNat list++ [n])) from Jc (rfl) (rfl)];first | done | kernel_rfl) ?_
 refine wT 6 0 (.own X 2624) (zH y0.toNat list++ [n]) (λhw8 hl9=> ?_);have hl10:zD (zX y0.toNat list)<=1073741824:=Dc (IN y0.toNat (hw1));refine su Qa [(4,.one (.slc (.own X 2944) 1 ((eL (zH y0.toNat list++ [n]))++(eL (zX y0.toNat list)))))] [0,4,5,6] [] [] (pe 3 (Sy .sh 1 y0.toNat y0 list rfl) (px (Gc (lo:=y0) (hi:=(((eL list):Y (Y PV)).length:u)) (n:=(zD (eL list))) (Sz (by omega) (by omega))) (po 4 (.flat) (pa (zH y0.toNat list++ [n]) (zX y0.toNat list) (px (Hx (Uh (zX y0.toNat list))) p0))))) <| eqn [(4,.o 2944 (zH y0.toNat list++ [n]++(zX y0.toNat list)))] [4] [] [] (by rw[show ((eL (zH y0.toNat list++ [n]))++(eL (zX y0.toNat list)))=(eL (zH y0.toNat list++ [n]++(zX y0.toNat list))) from Jc (rfl) (rfl)];first | done | kernel_rfl) ?_
 exact Qd <| ph0 [2944] (Vp hD0.1 (Qj h6 (rfl)))
def K0 (id:u) (q0:Y u):G:=(Kq q0 id)
theorem P2 (id:u) (q0:Y u):ACalls Tryz.prog 193 [.i id,.one (.rptr .sh [.h q0])] (.b (K0 id q0)):=by
 refine en Qa Tryz.func193 λw0 F0 hG=> ?_
 exact sn Qa [0,1,3] [] p0 <| tn Qa [3] [] (pc 2 (G1 q0 id) p0) <| Qd <| pb [] (show K0 id q0=(Kq q0 id) from rfl)
def Vf (c0:Y u) (k0:T) (a0:u) (_:uB):Rd (u) (uB) (uB):=(bif (K0 a0 c0) then (.ret (k0:u)) else (.next ()))
def Vg (_:T) (_:uB):uB:=()
def Qw (s_:Y u) (c0:Y u):u:=(Out.on (X4 (Vf c0) Vg s_ 0 ()) (λ_=> -1))
theorem Vh (s_:Y u) (c0:Y u):Qw s_ c0=ixF (λa=>K0 a c0) s_:=Qo4 (λ_ _ _=>rfl) s_
theorem C2 (s_:Y u) (c0:Y u): -1<=Qw s_ c0/\Qw s_ c0<(zD s_:u):=by rw[Vh];exact CM _ _
theorem D4 (s_:Y u) (c0:Y u):ACalls Tryz.prog 237 [.h s_,.one (.fnr 193 [[.h c0]])] (.i (Qw s_ c0)):=by
 refine en Qa Tryz.func237 λw0 F0 hG=> ?_
 refine sn Qa [0,1,4] [] p0 <| Qb <| tn Qa [0,1,4,7,8] [] (pl 1 s_ p0) <| mz [(4,.i 0),(7,.i (s_.length:u)),(8,.i 0)] [] [] [] <| wT 0 0 .sh s_ (λhw1 hl2=> ?_)
 refine R2 (Vf c0) Vg s_ () (λk0 _=> [(8,.i (k0:u))]) [8] (λ_=> []) [0,1,7,8] wf0 (λk0 s0 O U=> ?_) (λk0 s0 O U=> ?_) (λy0 hD0=> ?_)
 ·obtain ⟨a0,V⟩:=Xh (l:=s_) (i:=k0) O;refine sn Qa [0,1,4,7,8,9] [] (pe 0 (zB ((k0:u)<(s_.length:u))) p0) <| Qb <| ckT <| Qf <| Qb <| Qo <| tn Qa [0,1,4,5,7,8] [] p0 <| tu Qa [(5,.i (k0:u)),(16,.b (K0 a0 c0))] [] [] [] (pn 3 V (pc 5 (P2 a0 c0) p0)) <| ck (K0 a0 c0) (λh3=> ?_) (λh3=> ?_)
  ·refine sn Qa [0,1,4,7,8] [] p0 <| Qd ?_
   have hr4:(X4 (Vf c0) Vg s_ 0 ())= .ret (k0:u):=Ka V (Q9 h3 (rfl)) U;exact pi [] (On hr4)
  refine Qf <| rn Qa [0,1,4,7,8] [] (pe 0 (Jl (Qn k0 (by omega))) p0) ?_
  exact xw _ (Qs V (Qj h3 (rfl)) U)
 ·exact sn Qa [0,1,4,7,8,9] [] (pe 0 (zC ((k0:u)<(s_.length:u))) p0) <| Qb <| ckF <| Q4 <| xw _ (Xj O (rfl) U)
 exact sn Qa [4] [] p0 <| Qd <| pi [] (Vp hD0 (rfl))
def Y1 (c0:Y u) (s0:(Y u)×u×u):Rd (Y u) ((Y u)×u×u) ((Y u)×u):=(bif decide (s0.2.2<(s0.1.length:u)) then (bif (!(K0 (nth s0.1 s0.2.2.toNat) c0)) then (.next (zT s0.1 s0.2.1.toNat (nth s0.1 s0.2.2.toNat),(s0.2.1+1),(s0.2.2+1))) else (.next (s0.1,s0.2.1,(s0.2.2+1)))) else (.brk (s0.1,s0.2.1)))
def X6 (s_:Y u) (c0:Y u):(Y u):=(bif ((Qw s_ c0)==(-1:u)) then s_ else (Out.on (Oo (Y1 c0) (zD s_+1) (s_,(Qw s_ c0),((Qw s_ c0)+1))) (λy0=>zH y0.2.toNat y0.1)))
theorem Uf (c0:Y u):UP (Y1 c0) (λa=>K0 a c0):=by
 intro s i j hij hj;unfold Y1;by_cases h:(j:u)<(s.length:u)<;>cases hp:K0 (nth s j) c0<;>simp[h,hp]
theorem C3 (s_:Y u) (c0:Y u) (hp:zD s_<=1073741824) (h:Qw s_ c0≠-1):(whl (Y1 c0) (zD s_+1) (s_,Qw s_ c0,Qw s_ c0+1)).isSome=X:=Qjd (Uf c0) hp (Vh s_ c0) h
theorem Ug (s_:Y u) (c0:Y u) (hp:zD s_<=1073741824):X6 s_ c0=s_.filter (λa=> !(K0 a c0)):=by
 unfold X6;exact Qo5 (Uf c0) hp (Vh s_ c0)
theorem Cw (s_:Y u) (c0:Y u) (hp:zD s_<=1073741824):zD (X6 s_ c0)<=zD s_:=by rw[Ug _ _ hp];exact yE _ _
theorem C4 (s_:Y u) (c0:Y u):ATake Tryz.prog 192 1 (eL s_) [.one (.fnr 193 [[.h c0]])] X W (eL (X6 s_ c0)):=by
 refine Qi8 (tt:=tt) Qa Tryz.func192 (fn:=Tryz.f192) rfl (by unfold F9;kernel_rfl) (zW rfl) (by simp[AV.cells,C.key,C.bkeys]) (t:=4) rfl λw0 F0 hG=> ?_
 refine wT 0 0 (.own W 63) s_ (λhw1 hl2=> ?_);have hix:=C2 s_ c0;refine sn Qa [0,1,4] [] p0 <| tn Qa [0,1,4,5] [] (pc 2 (D4 s_ c0) p0) <| Qb <| tu Qa [(4,.e 0),(5,.i (Qw s_ c0)),(12,.b ((Qw s_ c0)==(-1:u)))] [] [] [] p0 <| ck ((Qw s_ c0)==(-1:u)) (λh3=> ?_) (λh3=> ?_)
 ·refine sn Qa [0,1,4,5] [] p0 <| Qd ?_
  have hE4:X6 s_ c0=s_:=Q9 h3 (rfl);exact ⟨.inl rfl,63,by rw[hE4];kernel_rfl⟩
 have h3d:=X0 h3;refine Qf <| Qb <| sn Qa [0,1,4,5,6] [] (pe 1 (Jl (IntWalk.i64_in ((Qw s_ c0)+1) (by omega))) p0) <| mz [(6,.i ((Qw s_ c0)+1))] [12] [] [] <| blw (λ(s0:(Y u)×u×u)=> [(0,.q 63 s0.1),(5,.i s0.2.1),(6,.i s0.2.2)]) [0,5,6] (λs0=> []) [] (λ(y0:(Y u)×u)=> [(0,.q 63 y0.1),(5,.i y0.2)]) [0,1,5,6] (λy0=> []) [] (λ(k0:T) (s0:(Y u)×u×u)=>whl (Y1 c0) k0 s0=S (Oo (Y1 c0) (zD s_+1) (s_,(Qw s_ c0),((Qw s_ c0)+1)))/\0<=s0.2.1/\s0.2.1<s0.2.2/\s0.2.2<=(zD s0.1:u)/\zD s0.1=zD s_) (λ(y0:(Y u)×u)=>(Oo (Y1 c0) (zD s_+1) (s_,(Qw s_ c0),((Qw s_ c0)+1)))= .brk y0/\0<=y0.2/\y0.2<(zD y0.1:u)/\zD y0.1=zD s_) (zD s_+1) (s_,(Qw s_ c0),((Qw s_ c0)+1)) wf0 ⟨Nc (C3 s_ c0 hl2 h3d),(by first|omega|(dsimp only;omega) | rfl),(by first|omega|(dsimp only;omega) | rfl),(by first|omega|(dsimp only;omega) | rfl),(by first|omega|(dsimp only;omega) | rfl)⟩ (λ_ h=>Rg h.1) (λk0 s0 U=> ?_) (λy0 hD0=> ?_)
 ·have hA0_0:=U.2.1;have hA0_1:=U.2.2.1;have hA0_2:=U.2.2.2.1;have hA0_3:=U.2.2.2.2;refine Qb <| sn Qa [0,1,4,5,6,19] [] (pl 2 s0.1 p0) <| ck (decide (s0.2.2<(s0.1.length:u))) (λh5=> ?_) (λh5=> ?_)
  ·have h5d:=uD h5;refine Qf <| Qb <| Qo <| wT 0 0 (.own W 63) s0.1 (λhw7 hl8=> ?_)
   have hx6:=ng s0.1 s0.2.2.toNat;refine tn Qa [0,1,4,5,6,7] [] (pG 2 s0.2.2 hx6 p0) <| tu Qa [(7,.i (nth s0.1 s0.2.2.toNat)),(29,.b (!(K0 (nth s0.1 s0.2.2.toNat) c0)))] [] [] [] (pc 2 (P2 (nth s0.1 s0.2.2.toNat) c0) p0) <| ck (!(K0 (nth s0.1 s0.2.2.toNat) c0)) (λh9=> ?_) (λh9=> ?_)
   ·have hx10:=ng s0.1 s0.2.1.toNat;refine su Qa [(0,.one (.slc (.own W 63) 1 (setRow (eL s0.1) s0.2.1.toNat 0 [.i (nth s0.1 s0.2.2.toNat)])))] [0,7,29] [] [] (pG 3 s0.2.1 hx10 p0) <| eqn [(0,.q 63 (zT s0.1 s0.2.1.toNat (nth s0.1 s0.2.2.toNat)))] [0] [] [] (by rw[Ke (y:=(nth s0.1 s0.2.2.toNat)) hx10 rfl]<;>kernel_rfl) ?_
    refine rn Qa [0,1,4,5,6] [] (pe 1 (Jl (IntWalk.i64_in (s0.2.1+1) (by omega))) p0) ?_;refine qn Qa [0,1,4,5,6] [] (pe 1 (Jl (IntWalk.i64_in (s0.2.2+1) (by omega))) p0) ?_;exact xw (zT s0.1 s0.2.1.toNat (nth s0.1 s0.2.2.toNat),(s0.2.1+1),(s0.2.2+1)) ⟨wn U.1 (Q9 h5 (Q9 h9 (rfl))),(by first|omega|(dsimp only;omega) | (simp only[zE];omega)),(by first|omega|(dsimp only;omega) | (simp only[zE];omega)),(by first|omega|(dsimp only;omega) | (simp only[zE];omega)),(by first|omega|(dsimp only;omega) | (simp only[zE];omega))⟩
   refine Qf <| rn Qa [0,1,4,5,6] [] (pe 1 (Jl (IntWalk.i64_in (s0.2.2+1) (by omega))) p0) ?_
   exact xw (s0.1,s0.2.1,(s0.2.2+1)) ⟨wn U.1 (Q9 h5 (Qj h9 (rfl))),(by first|omega|(dsimp only;omega) | (simp only[zE];omega)),(by first|omega|(dsimp only;omega) | (simp only[zE];omega)),(by first|omega|(dsimp only;omega) | (simp only[zE];omega)),(by first|omega|(dsimp only;omega) | (simp only[zE];omega))⟩
  have h5d:=uH h5;exact Q4 <| xw (s0.1,s0.2.1) ⟨wb U.1 (Qj h5 (rfl)),by first|omega|(simp only[zE];omega),by first|omega|(simp only[zE];omega),by first|omega|(simp only[zE];omega)⟩
 have hD0_0:=hD0.2.1;have hD0_1:=hD0.2.2.1;have hD0_2:=hD0.2.2.2;refine Qb <| Qfj Qa rfl (by kernel_rfl) rfl rfl rfl rfl rfl (by omega) (by rw[Yr];omega) (λlc11 hllc11 htlc11=> ?_)
 refine sn Qa [4] [] (po 2 (.cut (eL (zH y0.2.toNat y0.1))) (px (Qqd (show .one (.slc (.own W 0) 1 ((lc11.take y0.2.toNat).drop (yG 0)))= .q 0 (zH y0.2.toNat y0.1) from (congrArg (λz=>AV.one (.slc (.own W 0) 1 (z.drop (yG 0)))) htlc11).trans (OU (.own W 0) 1 y0.2.toNat y0.2 y0.1 rfl))) (px (Gc (lo:=0) (hi:=y0.2) (n:=(zD lc11)) (Qo3 (by omega) (by rw[hllc11,Yr];omega))) p0))) <| Qd ?_
 have hE12:X6 s_ c0=zH y0.2.toNat y0.1:=Qj h3 (Vp hD0.1 (rfl));exact ⟨.inl rfl,0,by rw[hE12];kernel_rfl⟩
def Ny (a_:Y u) (b:Y u):(Y u):=X6 a_ b
theorem Nz (a_:Y u) (b:Y u):ACalls Tryz.prog 144 [.h a_,.h b] (.o 0 (Ny a_ b)):=by
 refine en Qa Tryz.func144 λw0 F0 hG=> ?_
 refine sn Qa [0,3,4] [3] p0 <| wT 0 0 .sh a_ (λhw1 hl2=> ?_)
 have hq3:=Cw a_ b hl2;exact tn Qa [4] [] (pc 1 (Ec a_) (po 3 (.take W W (eL (X6 a_ b))) (px (WB (Qbu (C4 a_ b) (Uh _))) (px (Hx (Uh a_)) (px (Hx (Uh (X6 a_ b))) p0))))) <| Qd <| po0 [] (show Ny a_ b=X6 a_ b from rfl)
theorem Qge:∀(a b:Y u),a.Pairwise (· < ·)->b.Pairwise (· < ·)->(∀x,x∈a↔x∈b)->a=b
 | [], [],_,_,_=>rfl
 | [],y::b,_,_,h=>by have:=(h y).2 (by simp);simp at this
 | x::a, [],_,_,h=>by have:=(h x).1 (by simp);simp at this
 | x ::a,y::b,ha,hb,h=>by
   rw[zR] at ha hb
   have h1:x=y:=by
    have hx:=(h x).1 (by simp);have hy:=(h y).2 (by simp);simp only[zV] at hx hy;rcases hx with e | hx
    . exact e
    rcases hy with e | hy
    . exact e.symm
    have h1:=ha.1 y hy;have h2:=hb.1 x hx;omega
   subst h1
   congr 1
   refine Qge a b ha.2 hb.2 λz=> ?_
   have hz:=h z;simp only[zV] at hz;constructor
   . intro hm;have hlt:=ha.1 z hm;rcases hz.1 (.inr hm) with e | e
     . omega
     exact e
   intro hm;have hlt:=hb.1 z hm;rcases hz.2 (.inr hm) with e | e
   . omega
   exact e
def N0:Y u->u->Y u
 | [],n=> [n]
 | x::l,n=>if x<n then x::N0 l n else if x=n then x::l else n::x::l
theorem HK (n x:u):∀l:Y u,x∈N0 l n↔x=n\/x∈l
 | []=>by simp[N0]
 | y :: l=>by
   unfold N0;by_cases h1:y<n
   . rw [uG h1,zV,HK n x l,zV];constructor
     . rintro (h | h | h)
       . exact .inr (.inl h)
       . exact .inl h
       exact .inr (.inr h)
     rintro (h | h | h)
     . exact .inr (.inl h)
     . exact .inl h
     exact .inr (.inr h)
   rw[uC h1];by_cases h2:y=n
   . rw[uG h2,h2];simp
   rw[uC h2];simp
theorem MU (n:u):∀l:Y u,l.Pairwise (· < ·)->(N0 l n).Pairwise (· < ·)
 | [],_=>by simp[N0]
 | y ::l,h=>by
   rw[zR] at h;unfold N0;by_cases h1:y<n
   . rw[uG h1,zR];refine ⟨λz hz=> ?_,MU n l h.2⟩;rcases (HK n z l).1 hz with e | e
     . omega
     exact h.1 z e
   rw[uC h1];by_cases h2:y=n
   . rw[uG h2,zR];exact h
   rw[uC h2,zR,zR];refine ⟨λz hz=> ?_,h⟩;rcases zV.1 hz with e | e
   . omega
   have:=h.1 z e;omega
theorem MV (n:u):∀l:Y u,(N0 l n).length<=l.length+1
 | []=>by simp[N0]
 | y::l=>by
   have h:=MV n l;unfold N0;split
   . simp only[zL];omega
   split
   . simp
   simp
def H1 (l:Y u) (n:u):T:=(l.takeWhile (λx=>decide (x<n))).length
theorem Qam (n:u):∀l:Y u,N0 l n=if l[H1 l n]? =S n then l else l.take (H1 l n)++ [n]++l.drop (H1 l n)
 | []=>by simp[N0,H1]
 | y::l=>by
   have ih:=Qam n l;unfold N0 H1;by_cases h1:y<n
   . rw[uG h1,ih];simp only[List.takeWhile_cons,h1,decide_true,if_true,zL,List.getElem?_cons_succ,List.take_succ_cons,List.drop_succ_cons];unfold H1;split<;>simp
   rw[uC h1];simp only[List.takeWhile_cons,h1,decide_false,zN,List.getElem?_cons_zero,Option.some.injEq,List.take_zero,List.drop_zero];by_cases h2:y=n
   . rw[uG h2];simp[h2]
   rw[uC h2];simp[h2]
def JI (l:Y u) (xs:Y u):Y u:=xs.foldl N0 l
theorem ZI (x:u):∀(xs l:Y u),x∈JI l xs↔x∈xs\/x∈l
 | [],l=>by simp[JI]
 | n ::xs,l=>by
   have h:=ZI x xs (N0 l n);unfold JI at h⊢;rw[List.foldl_cons,h,HK,zV];constructor
   . rintro (h | h | h)
     . exact .inl (.inr h)
     . exact .inl (.inl h)
     exact .inr h
   rintro ((h | h) | h)
   . exact .inr (.inl h)
   . exact .inl h
   exact .inr (.inr h)
theorem ZJ:∀(xs l:Y u),l.Pairwise (· < ·)->(JI l xs).Pairwise (· < ·)
 | [],_,h=>h
 | n::xs,l,h=>ZJ xs (N0 l n) (MU n l h)
def less (ids removed:Y u):Y u:=ids.filter (λx=> !removed.contains x)
def Qgf (ids added removed:Y u):Y u:=JI (JI [] (less ids removed)) added
theorem KW (ids removed:Y u):(less ids removed).length<=ids.length:=yE _ _
theorem HL (d:Array u) (hs:∀i j,i<=j->j<d.size->d[i]! <=d[j]!):∀m,m<=d.size->(Lib.compactUpTo d m).Pairwise (· < ·)/\∀x,x∈Lib.compactUpTo d m↔∃j,j<m/\d[j]! =x
 | 0,_=>by simp[Lib.compactUpTo]
 | m + 1,hm=>by
   obtain ⟨h1,h2⟩:=HL d hs m (by omega);rw[Lib.compactUpTo_succ];by_cases hk:Lib.keeps d m=X
   . rw [uG hk];refine ⟨?_,λx=> ?_⟩
     . rw[List.pairwise_append];refine ⟨h1,by simp,λa ha b hb=> ?_⟩;obtain ⟨j,hj,rfl⟩:=(h2 a).1 ha;obtain rfl:b=d[m]! :=by simpa using hb
       have hle:=hs j (m-1) (by omega) (by omega);have hle2:=hs (m-1) m (by omega) (by omega)
       have hne:d[m]! ≠d[m-1]! :=by
        unfold Lib.keeps at hk;simp only[yC,beq_iff_eq,bne_iff_ne,uM] at hk;rcases hk with h | h
        . omega
        exact h
       omega
     rw[List.mem_append,h2 x];constructor
     . rintro (⟨j,hj,e⟩ | h)
       . exact ⟨j,by omega,e⟩
       exact ⟨m,by omega,by simpa using (by simpa using h:x=d[m]!).symm⟩
     rintro ⟨j,hj,e⟩
     by_cases hjm:j=m
     . subst hjm;exact .inr (by simp[e])
     exact .inl ⟨j,by omega,e⟩
   rw[uC hk,List.append_nil];refine ⟨h1,λx=> ?_⟩;rw[h2 x]
   have hm0:m≠0/\d[m]! =d[m-1]! :=by
    unfold Lib.keeps at hk;simp only[yC,beq_iff_eq,bne_iff_ne,uM,not_or,Decidable.not_not] at hk;exact hk
   constructor
   . rintro ⟨j,hj,e⟩;exact ⟨j,by omega,e⟩
   rintro ⟨j,hj,e⟩
   by_cases hjm:j=m
   . subst hjm;exact ⟨j-1,by omega,hm0.2▸e⟩
   exact ⟨j,by omega,e⟩
theorem MW (l:Y u) (a:Y u) (ha:a.Pairwise (· < ·)) (hm:∀x,x∈a↔x∈l):Lib.compact (l.mergeSort λx y=>decide (x<=y))=a:=by
 have hp:=List.mergeSort_perm l (λx y=>decide (x<=y));have hs:=List.pairwise_mergeSort (le:=λ(x y:u)=>decide (x<=y)) (λa b c h1 h2=>by simp at h1 h2⊢;omega) (λa b=>by simp;omega) l;generalize (l.mergeSort λx y=>decide (x<=y))=s at hp hs;have hsz:s.toArray.size=s.length:=by simp
 have hget:∀j,j<s.length->s.toArray[j]! =s[j]! :=λj hj=>by simp
 have hmono:∀i j,i<=j->j<s.toArray.size->s.toArray[i]! <=s.toArray[j]! :=λi j hij hj=>by
  rw[hsz] at hj;rw[hget i (by omega),hget j hj,getElem!_pos s i (by omega),getElem!_pos s j hj];by_cases e:i=j
  . subst e;exact Int.le_refl _
  have:=List.pairwise_iff_getElem.1 hs i j (by omega) hj (by omega);simpa using this
 obtain ⟨h1,h2⟩:=HL s.toArray hmono s.length (by omega);refine Qge _ _ h1 ha λx=> ?_
 show x∈Lib.compactUpTo s.toArray s.length↔_;rw[h2 x,hm x,←hp.mem_iff];constructor
 . rintro ⟨j,hj,e⟩
   rw[hget j hj,getElem!_pos s j hj] at e;exact e▸List.getElem_mem hj
 intro h;obtain ⟨j,hj,e⟩:=List.getElem_of_mem h;exact ⟨j,hj,by rw[hget j hj,getElem!_pos s j hj];exact e⟩
theorem Qb5 (ids added removed:Y u):Lib.compact ((less ids removed++added).mergeSort λx y=>decide (x<=y))=Qgf ids added removed:=
 MW _ _ (ZJ _ _ (ZJ _ _ (by simp))) λx=>by
  unfold Qgf;rw[ZI,ZI,List.mem_append];simp only[List.not_mem_nil,or_false];exact Or.comm
theorem MX (n:u):∀(l:Y u) (k:T),X4 (E6 n) E7 l k ()= .brk (((k+H1 l n:T)):u)
 | [],k=>by simp[X4,E7,H1]
 | a ::l,k=>by
   simp only[X4,E6];by_cases h:a<n
   . have e:H1 (a::l) n=H1 l n+1:=by simp[H1,h]
     rw[uF h,e];simp only[uJ];rw[MX n l (k+1),show k+1+H1 l n=k+(H1 l n+1) by omega]
   have e:H1 (a::l) n=0:=by simp[H1,h]
   rw[uE h,e];rfl
theorem HM (l:Y u) (n:u):Up l n=N0 l n:=by
 unfold Up;rw[MX,Qam];simp only[Out.on,Nat.zero_add,Int.toNat_natCast];by_cases h:l[H1 l n]? =S n
 . obtain ⟨hlt,_⟩:=yB.1 h;rw[uG h,uF (by omega:((H1 l n:T):u)<(l.length:u)),BS h];simp
 rw[uC h]
 have hc:(decide (((H1 l n:T):u)<(l.length:u))&&(nth l (H1 l n)==n))=W:=by
  by_cases hlt:H1 l n<l.length
  . have:nth l (H1 l n)≠n:=λe=>h (by rw[Cu hlt,e])
    rw[beq_eq_false_iff_ne.2 this,Bool.and_false]
  rw[uE (by omega),Bool.false_and]
 rw[hc,uI]
theorem FN (l:Y u) (n:u):zD (Up l n)<=zD l+1:=by rw[HM];exact MV n l
theorem P3 {a b:Y u} (hp:zD a<=1073741824):Ny a b=less a b:=by
 unfold Ny;rw[Ug a b hp];unfold less;refine List.filter_congr λx _=> ?_
 have h:K0 x b=b.contains x:=by
  rw[yD];have:=YS b x;unfold Vu at this;show Kq b x=X↔_;rw[this];simp
 rw[h]
open GoE (enc wide)
def Uq (ids:Y u) (added:Y u) (removed:Y u):(Y u):=IV (YI (less ids removed++added))
theorem AQ (ids:Y u) (added:Y u) (removed:Y u) (hp:zD ids+zD added<=536870912):ACalls Tryz.prog 195 [.h ids,.h added,.h removed] (.o 0 (Uq ids added removed)):=by
 refine en Qa Tryz.func195 λw0 F0 hG=> ?_
 have hll:=KW ids removed;refine sn Qa [0,1,2,6] [] p0 <| wT 0 0 .sh ids (λhw1 hl2=> ?_)
 refine wT 1 0 .sh added (λhw3 hl4=> ?_);refine tu Qa [(6,.e 0),(7,.one (.slc (.own X 768) 1 ((eL (less ids removed))++(eL added))))] [0,1,2] [] [] (pc 2 ((P3 hl2)▸Nz ids removed) (po 4 (.flat) (pa (less ids removed) added (px (Hx (Uh added)) p0)))) <| eqn [(7,.o 768 (less ids removed++added))] [7] [] [] (by rw[show ((eL (less ids removed))++(eL added))=(eL (less ids removed++added)) from Jc (rfl) (rfl)]<;>kernel_rfl) ?_
 refine WD [768] rfl ?_;refine su Qa [(7,.one (.slc (.own W 768) 1 (Qj7 (eL (less ids removed++added)) 0 4294967296 (List.flatten (eL (YI (less ids removed++added)))))))] [7] [] [] (po 1 (.take W X (eL (YI (less ids removed++added)))) (px (WB (Qmi (less ids removed++added))) p0)) <| eqn [(7,.q 768 (YI (less ids removed++added)))] [7] [] [] (by rw[TA (λ_=>rfl) (IW _)]<;>kernel_rfl) ?_
 refine sn Qa [6] [] (po 1 (.take W W (eL (IV (YI (less ids removed++added))))) (px (WB (Qmj (YI (less ids removed++added)))) p0)) <| PP 6 (k:=1024) (n:=1) (by kernel_rfl) (Uh (IV (YI (less ids removed++added)))) ?_
 exact Qd <| po0 [] (show Uq ids added removed=IV (YI (less ids removed++added)) from rfl)
def Ht (d:Qbi) (_:T) (a0:u) (s0:Y u):Rd (Y u) (Y u) (Y u):=(bif (!(J9 d.2.2 a0)) then (.next (Up s0 a0)) else (.next s0))
def Ca (_:T) (s0:Y u):(Y u):=s0
def Hu (_:T) (a1:u) (s1:Y u):Rd (Y u) (Y u) (Y u):=(.next (Up s1 a1))
def Cb (_:T) (s1:Y u):(Y u):=s1
def V4 (ids:Y u) (d:Qbi):(Y u):=(Out.on (X4 (Ht d) Ca ids 0 []) (λy0=>(Out.on (X4 Hu Cb d.2.1 0 y0) (λy1=>y1))))
theorem Rv (ids:Y u) (d:Qbi) (hp:zD ids+zD d.2.1<=536870912):ACalls Tryz.prog 172 [.h ids,.a [.s d.1,.h d.2.1,.h d.2.2]] (.o 0 (V4 ids d)):=by
 refine en Qa Tryz.func172 λw0 F0 hG=> ?_
 refine sn Qa [0,3,4] [3] p0 <| tn Qa [0,3,4,5] [3] p0 <| Qb <| tu Qa [(3,.p 3 0),(4,.e 0),(5,.one (.slc (.own X 512) 1 [])),(6,.i 0)] [1] [(3, [.s d.1,.h d.2.1,.h d.2.2])] [] p0 <| wT 0 0 .sh ids (λhw1 hl2=> ?_)
 refine SV (Ht d) Ca ids [] (λk0 s0=> [(5,.h s0),(6,.i (k0:u))]) [5,6] (λy0=> [(5,.h y0)]) [0,5,6] (λk0 s0=>zD s0<=k0) (λy0=>zD y0<=zD ids) (L5 [] [512] [] [] (by kernel_rfl)) (by simp) (λk0 s0 O U=> ?_) (λk0 s0 O U=> ?_) (λy0 hD0=> ?_)
 ·have hA0_0:=U.2;obtain ⟨a0,V⟩:=Xh (l:=ids) (i:=k0) O;refine Qb <| sn Qa [0,3,4,5,6,12] [3] (pl 2 ids (pe 3 (zB ((k0:u)<(ids.length:u))) p0)) <| ckT <| Qf <| Qb <| Qo <| tN Qa Yo [0,3,4,5,6,22] [3] (pn 4 V (pc 6 (Aw d.2.2 a0) p0)) <| ck (!(J9 d.2.2 a0)) (λh3=> ?_) (λh3=> ?_)
  ·refine qu Qa [(5,.h (Up s0 a0))] [5] [] [] (pn 3 V (pc 5 (Sk s0 a0 (by omega)) p0)) ?_;refine rn Qa [0,3,4,5,6] [3] (pe 1 (Jl (Qn k0 (by omega))) p0) ?_;exact xw (Up s0 a0) ⟨Qs V (Q9 h3 (rfl)) U.1,(by first|omega|(have hz:=FN s0 a0;omega))⟩
  refine Qf <| qu Qa [(6,.i ((k0+1:T):u))] [6] [] [] (pe 1 (Jl (Qn k0 (by omega))) p0) ?_
  exact xw s0 ⟨Qs V (Qj h3 (rfl)) U.1,(by first|omega|(have hz:=FN s0 a0;omega))⟩
 ·have hA0_0:=U.2;exact Qb <| sn Qa [0,3,4,5,6,12] [3] (pl 2 ids (pe 3 (zC ((k0:u)<(ids.length:u))) p0)) <| ckF <| Q4 <| xw s0 ⟨Xj O (rfl) U.1,by first|omega|(simp only[zE];omega)⟩
 have hD0_0:=hD0.2;refine Qb <| sn Qa [3,4,5,7] [3] p0 <| mz [(7,.i 0)] [] [] [] <| wB 3 1 .sh d.2.1 (λhw4 hl5=> ?_)
 refine JM Hu Cb d.2.1 y0 (λk1 s1=> [(5,.h s1),(7,.i (k1:u))]) [5,7] (λ_ _=> []) [] (λy1=> [(5,.h y1)]) [3,5,7] (λ_=> []) [3] (λk1 s1=>zD s1<=zD ids+k1) wf0 (by first|omega|(simp;omega)) (λk1 s1 hk1 hI1=> ?_) (λk1 s1 hk1 hI1=> ?_) (λy1 hD1=> ?_)
 ·have hA1_0:=hI1.2;obtain ⟨a1,hx1⟩:=Xh (l:=d.2.1) (i:=k1) hk1;refine Qb <| sn Qa [3,4,5,7,33] [3] (pl 3 d.2.1 (pe 4 (zB ((k1:u)<(d.2.1.length:u))) p0)) <| ckT <| Qf <| Qb <| Qo <| qn Qa [3,4,5,7] [3] (pn 4 hx1 (pc 6 (Sk s1 a1 (by omega)) p0)) ?_
  refine qu Qa [(5,.h (Up s1 a1)),(7,.i ((k1+1:T):u))] [5,7] [] [] (pe 1 (Jl (Qn k1 (by omega))) p0) ?_;exact xw (Up s1 a1) ⟨Qs hx1 (rfl) hI1.1,(by first|omega|(have hz:=FN s1 a1;omega))⟩
 ·have hA1_0:=hI1.2;exact Qb <| sn Qa [3,4,5,7,33] [3] (pl 3 d.2.1 (pe 4 (zC ((k1:u)<(d.2.1.length:u))) p0)) <| ckF <| Q4 <| xw _ (Xj hk1 (rfl) hI1.1)
 refine wT 5 0 .sh y1 (λhw6 hl7=> ?_);exact sn Qa [4] [] (po 2 (.flat) (px (Ct (n:=(([]:Y (Y PV)).length+((eL y1):Y (Y PV)).length)) (Eb (rfl) (Yr y1) (by first|omega|(simp only[zL,zN];omega) | (simp;omega) | simp))) (px (Hx (Uh y1)) p0))) <| Qd <| po0 [] (Vp hD0.1 (Vp hD1 (rfl)))
theorem Qgg (l:Y u) (x:u):J9 l x=l.contains x:=by
 rw[←Qkr,yD,YS];simp
theorem FO (d:Qbi):∀(l:Y u) (k:T) (s:Y u),X4 (Ht d) Ca l k s= .brk (JI s (less l d.2.2))
 | [],k,s=>rfl
 | a ::l,k,s=>by
   simp only[X4,Ht,Qgg];cases h:d.2.2.contains a with
   | true=>
     have e:less (a::l) d.2.2=less l d.2.2:=by
      show List.filter _ (a::l)=_;rw[List.filter_cons,h];rfl
     rw[e];exact FO d l (k+1) s
   | false=>
     have e:less (a::l) d.2.2=a::less l d.2.2:=by
      show List.filter _ (a::l)=_;rw[List.filter_cons,h];rfl
     rw[e,HM];exact FO d l (k+1) (N0 s a)
theorem Qan:∀(l:Y u) (k:T) (s:Y u),X4 Hu Cb l k s= .brk (JI s l)
 | [],k,s=>rfl
 | a::l,k,s=>by
   simp only[X4,Hu,HM];exact Qan l (k+1) (N0 s a)
theorem Qao (ids:Y u) (d:Qbi):V4 ids d=Uq ids d.2.1 d.2.2:=by
 unfold V4 Uq;rw[FO];simp only[Out.on];rw[Qan];exact (Qb5 ids d.2.1 d.2.2).symm
theorem Lt (ids a r:Y u):zD (Uq ids a r)<=zD ids+zD a:=by
 unfold Uq;have h1:=Qer (YI (less ids r++a));rw[IW,List.length_append] at h1;have h2:=KW ids r;omega
theorem MY (ids:Y u) (d:Qbi):zD (V4 ids d)<=zD ids+zD d.2.1:=by rw[Qao];exact Lt ids d.2.1 d.2.2
theorem XG {α:Type} [GoD α] (l m:Y α):GoD.size (l++m)=GoD.size l+GoD.size m:=by
 simp only[Ml,List.length_append,List.map_append,List.sum_append];omega
theorem FP {α:Type} [GoD α] (a:α):GoD.size [a]=1+GoD.size a:=by simp[Ml]
theorem Qb6 {α:Type} [GoD α] {l:Y α} {k:T} {x:α} (h:l[k]? =S x):GoD.size (zH (k+1) l)=GoD.size (zH k l)+(1+GoD.size x):=by
 rw[List.take_add_one,h,XG];show _+GoD.size [x]=_;rw[FP]
theorem MZ {α:Type} [GoD α] (l:Y α) (k:T):GoD.size (zH k l)<=GoD.size l:=by
 conv=>rhs;rw[←List.take_append_drop k l,XG]
 exact Nat.le_add_right _ _
theorem CX (e:K5):zD e.2.1<=GoD.size e:=by
 have h:GoD.size e=0+(GoD.size e.2.1+GoD.size e.2.2):=rfl;rw[LX] at h;omega
theorem Le {ids:Y u} {l:Y K5} {k:T} {x:K5} {s:Y u} {n:T} (hx:l[k]? =S x) (hs:zD s<=zD ids+GoD.size (zH k l)) (hn:n<=zD s+zD x.2.1):n<=zD ids+GoD.size (zH (k+1) l):=by
 rw[Qb6 hx];have:=CX x;omega
theorem HN {ids:Y u} {l:Y K5} {k:T} {x:K5} {s:Y u} (hx:l[k]? =S x) (hs:zD s<=zD ids+GoD.size (zH k l)) (hp:zD ids+GoD.size l<=536870912):zD s+zD x.2.1<=536870912:=by
 have h1:=Le (n:=zD s+zD x.2.1) hx hs (zY _);have h2:=MZ l (k+1);omega
theorem Rp (w:Z7):GoD.size w=w.2.1.size+(zD w.2.2.1+GoD.size w.2.2.2):=by
 have h:GoD.size w=0+(w.2.1.size+(GoD.size w.2.2.1+GoD.size w.2.2.2)):=rfl;rw[LX] at h;omega
open GoE (enc wide)
def U5 (_:T) (a0:K5) (s0:Y u):Rd (Y u) (Y u) (Y u):=(.next (Uq s0 a0.2.1 a0.2.2))
def Ao (_:T) (s0:Y u):(Y u):=s0
def He (ids:Y u) (events:Y K5):(Y u):=(Out.on (X4 U5 Ao events 0 ids) (λy0=>y0))
theorem XH (ids:Y u) (events:Y K5) (hp:zD ids+GoD.size events<=536870912):ACalls Tryz.prog 145 [.h ids,.h events] (.o 0 (He ids events)):=by
 refine en Qa Tryz.func145 λw0 F0 hG=> ?_
 refine sn Qa [0,1,4] [] p0 <| tn Qa [1,4,5] [] (pc 1 (Ec ids) p0) <| Qb <| tu Qa [(4,.e 0),(5,.o 576 ids),(10,.h events),(11,.i (events.length:u)),(12,.i 0)] [0,1] [] [] (pl 1 events p0) <| wT 10 0 .sh events (λhw1 hl2=> ?_)
 refine AB U5 Ao events ids (λk0 s0=> [(5,.o 147201 s0),(12,.i (k0:u))]) [5,12] (λy0=> [(5,.o 147351 y0)]) [5,10,11,12] (λk0 s0=>zD s0<=zD ids+GoD.size (zH k0 events)) (Xg [(576,147201)] (by kernel_rfl)) (by simp) (λk0 s0 O U=> ?_) (λk0 s0 O U=> ?_) (λy0 hD0=> ?_)
 ·have hA0_0:=U.2;obtain ⟨a0,V⟩:=Xh (l:=events) (i:=k0) O;refine su Qa [(13,.b X)] [] [] [] (pe 0 (zB ((k0:u)<(events.length:u))) p0) <| Qb <| ckT <| Qf <| Qb <| Qo <| sn Qa [4,5,7,10,11,12] [7] (pn 0 V p0) <| qn Qa [4,5,10,11,12] [] (pc 5 (AQ s0 a0.2.1 a0.2.2 (HN V hA0_0 hp)) p0) ?_
  refine qu Qa [(5,.o 1344 (Uq s0 a0.2.1 a0.2.2)),(12,.i ((k0+1:T):u))] [5,12,13] [] [] (pe 0 (Jl (Qn k0 (by omega))) p0) ?_;exact zF (Uq s0 a0.2.1 a0.2.2) (zM (Xg [(1344,147201)] (by kernel_rfl)) ⟨Qs V (rfl) U.1,(by first | exact Le V hA0_0 (Lt _ _ _) | exact Le V hA0_0 (MY _ _))⟩)
 ·have hA0_0:=U.2;exact su Qa [(13,.b W)] [] [] [] (pe 0 (zC ((k0:u)<(events.length:u))) p0) <| Qb <| ckF <| Q4 <| zF _ (zM (Xg [(147201,147351)] (by kernel_rfl)) (Xj O (rfl) U.1))
 exact sn Qa [4] [] p0 <| Qd <| po0 [] (Vp hD0 (rfl))
def Xr (w:Z7):(Y u):=(He w.2.2.1 w.2.2.2)
theorem XI (w:Z7) (hp:GoD.size w<=536870912):ACalls Tryz.prog 97 [.a [.i w.1,.s w.2.1,.h w.2.2.1,.h w.2.2.2]] (.o 0 (Xr w)):=by
 refine en Qa Tryz.func97 λw0 F0 hG=> ?_
 exact sn Qa [1,2] [1] p0 <| tn Qa [2] [] (pc 4 (XH w.2.2.1 w.2.2.2 (by have hz:=Rp w;omega)) p0) <| Qd <| po0 [] (show Xr w=(He w.2.2.1 w.2.2.2) from rfl)
def Ap (_:T) (a0:K5) (s0:Y u):Rd (Y u) (Y u) (Y u):=(.next (V4 s0 (⟨#[]⟩,a0.2.1,a0.2.2)))
def D5 (_:T) (s0:Y u):(Y u):=s0
def Ax (ids:Y u) (list:Y K5):(Y u):=(Out.on (X4 Ap D5 list 0 ids) (λy0=>y0))
theorem XJ (ids:Y u) (list:Y K5) (hp:zD ids+GoD.size list<=536870912):ACalls Tryz.prog 124 [.h ids,.h list] (.o 0 (Ax ids list)):=by
 refine en Qa Tryz.func124 λw0 F0 hG=> ?_
 refine sn Qa [0,1,4] [] p0 <| wT 0 0 .sh ids (λhw1 hl2=> ?_)
 refine tn Qa [1,4,5] [] (po 2 (.flat) (px (Ct (n:=(([]:Y (Y PV)).length+((eL ids):Y (Y PV)).length)) (Eb (rfl) (Yr ids) (by first|omega|(simp only[zL,zN];omega) | (simp;omega) | simp))) (px (Hx (Uh ids)) p0))) <| Qb <| tu Qa [(4,.e 0),(5,.o 576 ids),(6,.i 0)] [0] [] [] p0 <| wT 1 0 .sh list (λhw3 hl4=> ?_)
 refine AB Ap D5 list ids (λk0 s0=> [(5,.o 147202 s0),(6,.i (k0:u))]) [5,6] (λy0=> [(5,.o 147352 y0)]) [1,5,6] (λk0 s0=>zD s0<=zD ids+GoD.size (zH k0 list)) (Xg [(576,147202)] (by kernel_rfl)) (by simp) (λk0 s0 O U=> ?_) (λk0 s0 O U=> ?_) (λy0 hD0=> ?_)
 ·have hA0_0:=U.2;obtain ⟨a0,V⟩:=Xh (l:=list) (i:=k0) O;refine Qb <| sn Qa [1,4,5,6,13] [] (pl 2 list (pe 3 (zB ((k0:u)<(list.length:u))) p0)) <| ckT <| Qf <| Qb <| Qo <| qN Qa Yo [1,4,5,6] [] (pn 3 V (pn 8 V (pc 12 (Rv s0 (⟨#[]⟩,a0.2.1,a0.2.2) (HN V hA0_0 hp)) p0))) ?_
  refine qu Qa [(5,.o 1792 (V4 s0 (⟨#[]⟩,a0.2.1,a0.2.2))),(6,.i ((k0+1:T):u))] [5,6] [] [] (pe 1 (Jl (Qn k0 (by omega))) p0) ?_;exact zF (V4 s0 (⟨#[]⟩,a0.2.1,a0.2.2)) (zM (Xg [(1792,147202)] (by kernel_rfl)) ⟨Qs V (rfl) U.1,(by first | exact Le V hA0_0 (Lt _ _ _) | exact Le V hA0_0 (MY _ _))⟩)
 ·have hA0_0:=U.2;exact Qb <| sn Qa [1,4,5,6,13] [] (pl 2 list (pe 3 (zC ((k0:u)<(list.length:u))) p0)) <| ckF <| Q4 <| zF _ (zM (Xg [(147202,147352)] (by kernel_rfl)) (Xj O (rfl) U.1))
 exact sn Qa [4] [] p0 <| Qd <| po0 [] (Vp hD0 (rfl))
def Xy (w:Z7):(Y u):=(Ax w.2.2.1 w.2.2.2)
theorem XK (w:Z7) (hp:GoD.size w<=536870912):ACalls Tryz.prog 77 [.a [.i w.1,.s w.2.1,.h w.2.2.1,.h w.2.2.2]] (.o 0 (Xy w)):=by
 refine en Qa Tryz.func77 λw0 F0 hG=> ?_
 exact sn Qa [1,2] [1] p0 <| tn Qa [2] [] (pc 4 (XJ w.2.2.1 w.2.2.2 (by have hz:=Rp w;omega)) p0) <| Qd <| po0 [] (show Xy w=(Ax w.2.2.1 w.2.2.2) from rfl)
def Jj (e_:K5):K5:=e_
theorem HO (e_:K5):ACalls Tryz.prog 139 [.a [.i e_.1,.h e_.2.1,.h e_.2.2]] (.a [.i ((Jj e_).1),.o 0 ((Jj e_).2.1),.o 1 ((Jj e_).2.2)]):=by
 refine en Qa Tryz.func139 λw0 F0 hG=> ?_
 exact sn Qa [1,2] [1,2] p0 <| tN Qa Yo [2] [2] (pc 4 (Ec e_.2.1) (pc 7 (Ec e_.2.2) p0)) <| Qd <| pz [] (show Jj e_=e_ from rfl) (λz=> .a [.i z.1,.o 0 z.2.1,.o 1 z.2.2])
def Gz (_:T) (a0:K5) (s0:Y K5):Rd (Z7) (Y K5) (Y K5):=(.next (s0++ [(Jj a0)]))
def Oj (_:T) (s0:Y K5):(Y K5):=s0
def Xi (w:Z7):Z7:=(Out.on (X4 Gz Oj w.2.2.2 0 []) (λy0=>(w.1,w.2.1,w.2.2.1,y0)))
theorem P4 (w:Z7):ACalls Tryz.prog 91 [.a [.i w.1,.s w.2.1,.h w.2.2.1,.h w.2.2.2]] (.a [.i ((Xi w).1),.s ((Xi w).2.1),.o 0 ((Xi w).2.2.1),.o 1 ((Xi w).2.2.2)]):=by
 refine en Qa Tryz.func91 λw0 F0 hG=> ?_
 refine sn Qa [1,2] [1,2] p0 <| tn Qa [1,2,3] [1,2] p0 <| Qb <| tu Qa [(1,.p 1 0),(2,.p 2 0),(3,.one (.slc (.own X 384) 3 [])),(8,.h w.2.2.2),(9,.i (w.2.2.2.length:u)),(10,.i 0)] [0] [(1, [.i w.1,.s w.2.1,.h w.2.2.1,.h w.2.2.2]),(2, [.i 0,.s ⟨#[]⟩,.e 1,.e 3])] [] (pl 2 w.2.2.2 p0) <| wT 8 0 .sh w.2.2.2 (λhw1 hl2=> ?_)
 refine AB Gz Oj w.2.2.2 [] (λk0 s0=> [(3,.o 147202 s0),(10,.i (k0:u))]) [3,10] (λy0=> [(3,.o 147352 y0)]) [3,8,9,10] (λk0 s0=>zD s0<=k0) (Xg [(384,147202)] (by kernel_rfl)) (by simp) (λk0 s0 O U=> ?_) (λk0 s0 O U=> ?_) (λy0 hD0=> ?_)
 ·have hA0_0:=U.2;obtain ⟨a0,V⟩:=Xh (l:=w.2.2.2) (i:=k0) O;refine su Qa [(11,.b X)] [] [] [] (pe 0 (zB ((k0:u)<(w.2.2.2.length:u))) p0) <| Qb <| ckT <| Qf <| Qb <| Qo <| sn Qa [1,2,3,5,8,9,10] [1,2,5] (pn 0 V p0) <| wT 3 0 (.own X 147202) s0 (λhw3 hl4=> ?_)
  refine qu Qa [(3,.one (.slc (.own X 1152) 3 ((eL s0)++ [[.i ((Jj a0).1),.h ((Jj a0).2.1),.h ((Jj a0).2.2)]])))] [3,11] [] [] (pc 2 (HO a0) (pa s0 [(Jj a0)] p0)) ?_;refine eqn [(3,.o 1152 (s0++ [(Jj a0)]))] [3] [] [] (by rw[show ((eL s0)++ [[.i ((Jj a0).1),.h ((Jj a0).2.1),.h ((Jj a0).2.2)]])=(eL (s0++ [(Jj a0)])) from Jc (rfl) (rfl)];first | done | kernel_rfl) ?_;refine rn Qa [1,2,3,8,9,10] [1,2] (pe 0 (Jl (Qn k0 (by omega))) p0) ?_;exact zF (s0++ [(Jj a0)]) (zM (Xg [(1152,147202)] (by kernel_rfl)) ⟨Qs V (rfl) U.1,by first|omega|(simp;omega) | simp⟩)
 ·have hA0_0:=U.2;exact su Qa [(11,.b W)] [] [] [] (pe 0 (zC ((k0:u)<(w.2.2.2.length:u))) p0) <| Qb <| ckF <| Q4 <| zF _ (zM (Xg [(147202,147352)] (by kernel_rfl)) (Xj O (rfl) U.1))
 exact sn Qa [1,2,3] [1,2] (pc 2 (Ec w.2.2.1) p0) <| tn Qa [1,2] [1,2] p0 <| tu Qa [] [1,3] [(2, [.i w.1,.s w.2.1,.o 1408 w.2.2.1,.o 147352 y0])] [1,2] p0 <| Qd <| pz [] (show Xi w=_ from Vp hD0 (rfl)) (λz=> .a [.i z.1,.s z.2.1,.o 0 z.2.2.1,.o 1 z.2.2.2])
def G0 (_:T) (a0:K5) (s0:Y K5):Rd (Y K5) (Y K5) (Y K5):=(.next (s0++ [a0]))
def Ok (_:T) (s0:Y K5):(Y K5):=s0
def Il (list:Y K5):(Y K5):=(Out.on (X4 G0 Ok list 0 []) (λy0=>y0))
theorem HP (list:Y K5):ACalls Tryz.prog 118 [.h list] (.o 0 (Il list)):=by
 refine en Qa Tryz.func118 λw0 F0 hG=> ?_
 refine sn Qa [0,2] [] p0 <| tn Qa [0,2,3] [] p0 <| Qb <| tu Qa [(2,.e 0),(3,.one (.slc (.own X 320) 3 [])),(4,.i 0)] [] [] [] p0 <| wT 0 0 .sh list (λhw1 hl2=> ?_)
 refine AB G0 Ok list [] (λk0 s0=> [(3,.o 147202 s0),(4,.i (k0:u))]) [3,4] (λy0=> [(3,.o 147352 y0)]) [0,3,4] (λk0 s0=>zD s0<=k0) (Xg [(320,147202)] (by kernel_rfl)) (by simp) (λk0 s0 O U=> ?_) (λk0 s0 O U=> ?_) (λy0 hD0=> ?_)
 ·have hA0_0:=U.2;obtain ⟨a0,V⟩:=Xh (l:=list) (i:=k0) O;refine Qb <| sn Qa [0,2,3,4,9] [] (pl 2 list (pe 3 (zB ((k0:u)<(list.length:u))) p0)) <| ckT <| Qf <| Qb <| Qo ?_
  have hl3:zD a0.2.1<=1073741824:=Dc (Qif (Ia (Rf V (hw1))));have hl4:zD a0.2.2<=1073741824:=Dc (Ia (Ia (Rf V (hw1))));refine wT 3 0 (.own X 147202) s0 (λhw5 hl6=> ?_);refine qU Qa Yo [(3,.one (.slc (.own X 2176) 3 ((eL s0)++ [[.i a0.1,.slc 1 ([]++(eL a0.2.1)),.slc 1 ([]++(eL a0.2.2))]])))] [3] [] [] (pn 3 V (pn 9 V (po 12 (.flat) (px (Ct (n:=(([]:Y (Y PV)).length+((eL a0.2.1):Y (Y PV)).length)) (Eb (rfl) (Yr a0.2.1) (by first|omega|(simp only[zL,zN];omega) | (simp;omega) | simp))) (px (Hx (Uh a0.2.1)) (pn 16 V (po 19 (.flat) (px (Ct (n:=(([]:Y (Y PV)).length+((eL a0.2.2):Y (Y PV)).length)) (Eb (rfl) (Yr a0.2.2) (by first|omega|(simp only[zL,zN];omega) | (simp;omega) | simp))) (px (Hx (Uh a0.2.2)) (px (Ct (n:=(((eL s0):Y (Y PV)).length+([[.i a0.1,.slc 1 ([]++(eL a0.2.1)),.slc 1 ([]++(eL a0.2.2))]]:Y (Y PV)).length)) (Eb (Yr s0) (rfl) (by first|omega|(simp only[zL,zN];omega) | (simp;omega) | simp))) p0)))))))))) ?_;refine eqn [(3,.o 2176 (s0++ [a0]))] [3] [] [] (by rw[show ((eL s0)++ [[.i a0.1,.slc 1 ([]++(eL a0.2.1)),.slc 1 ([]++(eL a0.2.2))]])=(eL (s0++ [a0])) from Jc (rfl) (rfl)];first | done | kernel_rfl) ?_;refine rn Qa [0,2,3,4] [] (pe 1 (Jl (Qn k0 (by omega))) p0) ?_;exact zF (s0++ [a0]) (zM (Xg [(2176,147202)] (by kernel_rfl)) ⟨Qs V (rfl) U.1,by first|omega|(simp;omega) | simp⟩)
 ·have hA0_0:=U.2;exact Qb <| sn Qa [0,2,3,4,9] [] (pl 2 list (pe 3 (zC ((k0:u)<(list.length:u))) p0)) <| ckF <| Q4 <| zF _ (zM (Xg [(147202,147352)] (by kernel_rfl)) (Xj O (rfl) U.1))
 exact sn Qa [2] [] p0 <| Qd <| po0 [] (Vp hD0 (rfl))
def Qi (w:Z7):Z7:=(w.1,w.2.1,w.2.2.1,(Il w.2.2.2))
theorem XL (w:Z7):ACalls Tryz.prog 70 [.a [.i w.1,.s w.2.1,.h w.2.2.1,.h w.2.2.2]] (.a [.i ((Qi w).1),.s ((Qi w).2.1),.o 0 ((Qi w).2.2.1),.o 1 ((Qi w).2.2.2)]):=by
 refine en Qa Tryz.func70 λw0 F0 hG=> ?_
 refine sn Qa [1,2] [1,2] p0 <| wB 1 2 .sh w.2.2.1 (λhw1 hl2=> ?_)
 exact tN Qa Yo [2] [2] (po 7 (.flat) (px (Ct (n:=(([]:Y (Y PV)).length+((eL w.2.2.1):Y (Y PV)).length)) (Eb (rfl) (Yr w.2.2.1) (by first|omega|(simp only[zL,zN];omega) | (simp;omega) | simp))) (px (Hx (Uh w.2.2.1)) (pc 10 (HP w.2.2.2) p0)))) <| Qd <| pz [] (show Qi w=(w.1,w.2.1,w.2.2.1,(Il w.2.2.2)) from rfl) (λz=> .a [.i z.1,.s z.2.1,.o 0 z.2.2.1,.o 1 z.2.2.2])
def Zy (a_:Y u) (b:Y u):(Y u)×(Y u):=((less b a_),(less a_ b))
theorem FQ (a_:Y u) (b:Y u):ACalls Tryz.prog 96 [.h a_,.h b] (.tup [(W, [.o 0 (((Zy a_ b)).1)]),(W, [.o 1 (((Zy a_ b)).2)])]):=by
 refine en Qa Tryz.func96 λw0 F0 hG=> ?_
 refine sn Qa [0,1,4,5] [] p0 <| wT 1 0 .sh b (λhw1 hl2=> ?_)
 refine wT 0 0 .sh a_ (λhw3 hl4=> ?_);exact tn Qa [4,5] [] (pc 2 ((P3 hl2)▸Nz b a_) (pc 5 ((P3 hl4)▸Nz a_ b) p0)) <| Qd <| pz [] (show Zy a_ b=((less b a_),(less a_ b)) from rfl) (λz=> .tup [(W, [.o 0 z.1]),(W, [.o 1 z.2])])
def Me (a_:Y u) (_:T) (a0:u) (s0:Y u):Rd ((Y u)×(Y u)) (Y u) (Y u):=(bif (!(J9 a_ a0)) then (.next (s0++ [a0])) else (.next s0))
def Mf (_:T) (s0:Y u):(Y u):=s0
def Mg (b:Y u) (_:T) (a1:u) (s1:Y u):Rd ((Y u)×(Y u)) (Y u) (Y u):=(bif (!(J9 b a1)) then (.next (s1++ [a1])) else (.next s1))
def Mh (_:T) (s1:Y u):(Y u):=s1
def Zq (a_:Y u) (b:Y u):(Y u)×(Y u):=(Out.on (X4 (Me a_) Mf b 0 []) (λy0=>(Out.on (X4 (Mg b) Mh a_ 0 []) (λy1=>(y0,y1)))))
theorem FR (a_:Y u) (b:Y u):ACalls Tryz.prog 76 [.h a_,.h b] (.tup [(W, [.o 0 (((Zq a_ b)).1)]),(W, [.o 1 (((Zq a_ b)).2)])]):=by
 refine en Qa Tryz.func76 λw0 F0 hG=> ?_
 refine sn Qa [0,1,4,5] [] p0 <| tn Qa [0,1,4,5,6] [] p0 <| tu Qa [(4,.e 0),(5,.e 0),(6,.one (.slc (.own X 640) 1 [])),(7,.one (.slc (.own X 704) 1 []))] [] [] [] p0 <| Qb <| su Qa [(8,.i 0)] [] [] [] p0 <| wT 1 0 .sh b (λhw1 hl2=> ?_)
 refine AB (Me a_) Mf b [] (λk0 s0=> [(6,.o 147204 s0),(8,.i (k0:u))]) [6,8] (λy0=> [(6,.o 147354 y0)]) [6,8] (λk0 s0=>zD s0<=k0) (Xg [(640,147204)] (by kernel_rfl)) (by simp) (λk0 s0 O U=> ?_) (λk0 s0 O U=> ?_) (λy0 hD0=> ?_)
 ·have hA0_0:=U.2;obtain ⟨a0,V⟩:=Xh (l:=b) (i:=k0) O;refine Qb <| su Qa [(15,.b X)] [] [] [] (pl 2 b (pe 3 (zB ((k0:u)<(b.length:u))) p0)) <| ckT <| Qf <| Qb <| Qo <| sn Qa [0,1,4,5,6,7,8,24] [] (pn 3 V (pc 5 (Aw a_ a0) p0)) <| ck (!(J9 a_ a0)) (λh3=> ?_) (λh3=> ?_)
  ·refine wT 6 0 (.own X 147204) s0 (λhw4 hl5=> ?_);refine qu Qa [(6,.one (.slc (.own X 1984) 1 ((eL s0)++ [[.i a0]])))] [6,15] [] [] (pn 3 V (pa s0 [a0] p0)) ?_;refine eqn [(6,.o 1984 (s0++ [a0]))] [6] [] [] (by rw[show ((eL s0)++ [[.i a0]])=(eL (s0++ [a0])) from Jc (rfl) (rfl)];first | done | kernel_rfl) ?_;refine rn Qa [0,1,4,5,6,7,8] [] (pe 1 (Jl (Qn k0 (by omega))) p0) ?_;exact zF (s0++ [a0]) (zM (Xg [(1984,147204)] (by kernel_rfl)) ⟨Qs V (Q9 h3 (rfl)) U.1,by first|omega|(simp;omega) | simp⟩)
  refine Qf <| qn Qa [0,1,4,5,6,7,8] [] (pe 1 (Jl (Qn k0 (by omega))) p0) ?_
  exact xw s0 ⟨Qs V (Qj h3 (rfl)) U.1,by first|omega|(simp;omega) | simp⟩
 ·have hA0_0:=U.2;exact Qb <| su Qa [(15,.b W)] [] [] [] (pl 2 b (pe 3 (zC ((k0:u)<(b.length:u))) p0)) <| ckF <| Q4 <| zF _ (zM (Xg [(147204,147354)] (by kernel_rfl)) (Xj O (rfl) U.1))
 refine Qb <| su Qa [(9,.i 0)] [] [] [] p0 <| wT 0 0 .sh a_ (λhw6 hl7=> ?_)
 refine AB (Mg b) Mh a_ [] (λk1 s1=> [(7,.o 147205 s1),(9,.i (k1:u))]) [7,9] (λy1=> [(7,.o 147355 y1)]) [0,1,7,9] (λk1 s1=>zD s1<=k1) (Xg [(704,147205)] (by kernel_rfl)) (by simp) (λk1 s1 hk1 hI1=> ?_) (λk1 s1 hk1 hI1=> ?_) (λy1 hD1=> ?_)
 ·have hA1_0:=hI1.2;obtain ⟨a1,hx1⟩:=Xh (l:=a_) (i:=k1) hk1;refine Qb <| su Qa [(35,.b X)] [] [] [] (pl 2 a_ (pe 3 (zB ((k1:u)<(a_.length:u))) p0)) <| ckT <| Qf <| Qb <| Qo <| sn Qa [0,1,4,5,6,7,9,44] [] (pn 3 hx1 (pc 5 (Aw b a1) p0)) <| ck (!(J9 b a1)) (λh8=> ?_) (λh8=> ?_)
  ·refine wT 7 0 (.own X 147205) s1 (λhw9 hl10=> ?_);refine qu Qa [(7,.one (.slc (.own X 3264) 1 ((eL s1)++ [[.i a1]])))] [7,35] [] [] (pn 3 hx1 (pa s1 [a1] p0)) ?_;refine eqn [(7,.o 3264 (s1++ [a1]))] [7] [] [] (by rw[show ((eL s1)++ [[.i a1]])=(eL (s1++ [a1])) from Jc (rfl) (rfl)];first | done | kernel_rfl) ?_;refine rn Qa [0,1,4,5,6,7,9] [] (pe 1 (Jl (Qn k1 (by omega))) p0) ?_;exact zF (s1++ [a1]) (zM (Xg [(3264,147205)] (by kernel_rfl)) ⟨Qs hx1 (Q9 h8 (rfl)) hI1.1,by first|omega|(simp;omega) | simp⟩)
  refine Qf <| qn Qa [0,1,4,5,6,7,9] [] (pe 1 (Jl (Qn k1 (by omega))) p0) ?_
  exact xw s1 ⟨Qs hx1 (Qj h8 (rfl)) hI1.1,by first|omega|(simp;omega) | simp⟩
 ·have hA1_0:=hI1.2;exact Qb <| su Qa [(35,.b W)] [] [] [] (pl 2 a_ (pe 3 (zC ((k1:u)<(a_.length:u))) p0)) <| ckF <| Q4 <| zF _ (zM (Xg [(147205,147355)] (by kernel_rfl)) (Xj hk1 (rfl) hI1.1))
 exact sn Qa [4,5] [] p0 <| Qd <| pz [] (show Zq a_ b=_ from Vp hD0 (Vp hD1 (rfl))) (λz=> .tup [(W, [.o 0 z.1]),(W, [.o 1 z.2])])
theorem Qgh (ids:Y u) (l:Y K5):Ax ids l=He ids l:=by
 unfold Ax He
 rw[Io (f:=Ap) (g:=U5) (e:=D5) (e':=Ao) (λ_ _=>rfl) l 0 _ (λi a t _=>by
  unfold Ap U5;rw[Qao])]
theorem Qb7 (w:Z7):Xy w=Xr w:=Qgh w.2.2.1 w.2.2.2
theorem P5 (w:Z7):Xi w=w:=by
 unfold Xi;rw[Vi (f:=Gz) (g:=Jj) (λ_ _ _=>rfl)];show (w.1,w.2.1,w.2.2.1, []++w.2.2.2.map Jj)=w;rw[show Jj=id from rfl,zQ];rfl
theorem M0 (w:Z7):Qi w=w:=by
 unfold Qi Il;rw[Vi (f:=G0) (g:=id) (λ_ _ _=>rfl)];show (w.1,w.2.1,w.2.2.1, []++w.2.2.2.map id)=w;rw[zQ];rfl
theorem FS (w:Z7):zD ((Xi w)).2.2.2=zD w.2.2.2:=by rw[P5]
theorem RJ (w:Z7):zD ((Qi w)).2.2.2=zD w.2.2.2:=by rw[M0]
theorem NA (w:Z7):zD w.2.2.2<=GoD.size w:=by
 have h:=Rp w;have h2:zD w.2.2.2<=GoD.size w.2.2.2:=by rw[Ml];omega
 omega
open GoE (enc wide)
def Kl (w:Z7) (version:u) (s_:Yk) (d:Y Zj):Z7:=(bif decide (IntKind.i64.wrap (((((Zy (Xr w) (Y9 s_ d w.1 w.2.1))).1).length:u)+((((Zy (Xr w) (Y9 s_ d w.1 w.2.1))).2).length:u))>(0:u)) then ((Xi w).1,(Xi w).2.1,(Xi w).2.2.1,(Xi w).2.2.2++ [(version,((Zy (Xr w) (Y9 s_ d w.1 w.2.1))).1,((Zy (Xr w) (Y9 s_ d w.1 w.2.1))).2)]) else (Xi w))
theorem NB (w:Z7) (version:u) (s_:Yk) (d:Y Zj) (hp:GoD.size w<=536870912):ACalls Tryz.prog 52 [.a [.i w.1,.s w.2.1,.h w.2.2.1,.h w.2.2.2],.i version,.a [.h s_.1,.h s_.2.1,.i s_.2.2],.h d] (.a [.i ((Kl w version s_ d).1),.s ((Kl w version s_ d).2.1),.o 0 ((Kl w version s_ d).2.2.1),.o 1 ((Kl w version s_ d).2.2.2)]):=by
 refine en Qa Tryz.func52 λw0 F0 hG=> ?_
 have hcl:=FS w;have hse:=NA w;refine sn Qa [1,3,4,6,8] [4,6,8] p0 <| tn Qa [1,3,4,6,8,9] [4,6,8,9] (pc 1 (P4 w) p0) <| tU Qa Yo [(8,.p 8 0),(9,.p 9 0),(10,.o 1536 (((Zy (Xr w) (Y9 s_ d w.1 w.2.1))).1)),(11,.o 1537 (((Zy (Xr w) (Y9 s_ d w.1 w.2.1))).2))] [0,2,3] [(8, [.i 0,.s ⟨#[]⟩,.e 1,.e 3]),(9, [.i ((Xi w).1),.s ((Xi w).2.1),.o 832 ((Xi w).2.2.1),.o 833 ((Xi w).2.2.2)])] [] (pc 1 (XI w (by first|omega|(rw[M0];omega) | exact zP (findWatch_size x i) hp | exact zP (findWatch_sizeS x i) hp)) (pc 8 (EU s_ d w.1 w.2.1) (pc 9 (FQ (Xr w) (Y9 s_ d w.1 w.2.1)) p0))) <| Qb <| sn Qa [1,8,9,10,11,32] [8,9] (pl 1 (((Zy (Xr w) (Y9 s_ d w.1 w.2.1))).1) (pl 3 (((Zy (Xr w) (Y9 s_ d w.1 w.2.1))).2) p0)) <| ck (decide (IntKind.i64.wrap (((((Zy (Xr w) (Y9 s_ d w.1 w.2.1))).1).length:u)+((((Zy (Xr w) (Y9 s_ d w.1 w.2.1))).2).length:u))>(0:u))) (λh1=> ?_) (λh1=> ?_)
 ·have h1d:=uD h1;refine wB 9 3 (.own X 833) ((Xi w).2.2.2) (λhw2 hl3=> ?_);refine qu Qa [] [1,10,11] [(9, [.i ((Xi w).1),.s ((Xi w).2.1),.o 832 ((Xi w).2.2.1),.slc (.own X 2560) 3 ((eL ((Xi w).2.2.2))++ [[.i version,.h (((Zy (Xr w) (Y9 s_ d w.1 w.2.1))).1),.h (((Zy (Xr w) (Y9 s_ d w.1 w.2.1))).2)]])])] [9] (pa ((Xi w).2.2.2) [(version,((Zy (Xr w) (Y9 s_ d w.1 w.2.1))).1,((Zy (Xr w) (Y9 s_ d w.1 w.2.1))).2)] p0) ?_;refine eqn [] [] [(9, [.i ((Xi w).1),.s ((Xi w).2.1),.o 832 ((Xi w).2.2.1),.o 2560 ((Xi w).2.2.2++ [(version,((Zy (Xr w) (Y9 s_ d w.1 w.2.1))).1,((Zy (Xr w) (Y9 s_ d w.1 w.2.1))).2)])])] [9] (by rw[show ((eL ((Xi w).2.2.2))++ [[.i version,.h (((Zy (Xr w) (Y9 s_ d w.1 w.2.1))).1),.h (((Zy (Xr w) (Y9 s_ d w.1 w.2.1))).2)]])=(eL ((Xi w).2.2.2++ [(version,((Zy (Xr w) (Y9 s_ d w.1 w.2.1))).1,((Zy (Xr w) (Y9 s_ d w.1 w.2.1))).2)])) from Jc (rfl) (rfl)];first | done | kernel_rfl) ?_;exact sn Qa [8] [8] p0 <| Qd <| pz [] (show Kl w version s_ d=_ from Q9 h1 (rfl)) (λz=> .a [.i z.1,.s z.2.1,.o 0 z.2.2.1,.o 1 z.2.2.2])
 exact Qf <| tn Qa [8] [8] p0 <| Qd <| pz [] (show Kl w version s_ d=_ from Qj h1 (rfl)) (λz=> .a [.i z.1,.s z.2.1,.o 0 z.2.2.1,.o 1 z.2.2.2])
def J5 (w:Z7) (version:u) (s_:Yk) (d:Y Zj):Z7:=(bif (decide (((((Zq (Xy (Qi w)) (Zm s_ d ((Qi w).1) ((Qi w).2.1)))).1).length:u)>(0:u))|| decide (((((Zq (Xy (Qi w)) (Zm s_ d ((Qi w).1) ((Qi w).2.1)))).2).length:u)>(0:u))) then ((Qi w).1,(Qi w).2.1,(Qi w).2.2.1,(Qi w).2.2.2++ [(version,((Zq (Xy (Qi w)) (Zm s_ d ((Qi w).1) ((Qi w).2.1)))).1,((Zq (Xy (Qi w)) (Zm s_ d ((Qi w).1) ((Qi w).2.1)))).2)]) else (Qi w))
theorem JJ (w:Z7) (version:u) (s_:Yk) (d:Y Zj) (hp:GoD.size w<=536870912):ACalls Tryz.prog 39 [.a [.i w.1,.s w.2.1,.h w.2.2.1,.h w.2.2.2],.i version,.a [.h s_.1,.h s_.2.1,.i s_.2.2],.h d] (.a [.i ((J5 w version s_ d).1),.s ((J5 w version s_ d).2.1),.o 0 ((J5 w version s_ d).2.2.1),.o 1 ((J5 w version s_ d).2.2.2)]):=by
 refine en Qa Tryz.func39 λw0 F0 hG=> ?_
 have hcl:=RJ w;have hse:=NA w;refine sn Qa [1,3,4,6,8] [4,6,8] p0 <| tn Qa [1,3,4,6,8] [4,6,8] (pc 1 (XL w) p0) <| tU Qa Yo [(4,.p 4 0),(8,.p 8 0),(9,.o 1472 (((Zq (Xy (Qi w)) (Zm s_ d ((Qi w).1) ((Qi w).2.1)))).1)),(10,.o 1473 (((Zq (Xy (Qi w)) (Zm s_ d ((Qi w).1) ((Qi w).2.1)))).2))] [0,2,3] [(4, [.i ((Qi w).1),.s ((Qi w).2.1),.o 768 ((Qi w).2.2.1),.o 769 ((Qi w).2.2.2)]),(8, [.i 0,.s ⟨#[]⟩,.e 1,.e 3])] [] (pc 1 (XK (Qi w) (by first|omega|(rw[M0];omega) | exact zP (findWatch_size x i) hp | exact zP (findWatch_sizeS x i) hp)) (pc 8 (EW s_ d ((Qi w).1) ((Qi w).2.1)) (pc 9 (FR (Xy (Qi w)) (Zm s_ d ((Qi w).1) ((Qi w).2.1))) p0))) <| Qb <| Qb <| jn [(33,.b (decide (((((Zq (Xy (Qi w)) (Zm s_ d ((Qi w).1) ((Qi w).2.1)))).1).length:u)>(0:u))|| decide (((((Zq (Xy (Qi w)) (Zm s_ d ((Qi w).1) ((Qi w).2.1)))).2).length:u)>(0:u))))] [] [] [] (decide (((((Zq (Xy (Qi w)) (Zm s_ d ((Qi w).1) ((Qi w).2.1)))).1).length:u)>(0:u))) (λh1=> ?_) (λh1=> ?_) ?_
 ·refine ru Qa [(33,.b X)] [] [] [] (pl 1 (((Zq (Xy (Qi w)) (Zm s_ d ((Qi w).1) ((Qi w).2.1)))).1) (pt 2 h1 p0)) ?_;exact zA (by rw[h1]<;>kernel_rfl)
 ·refine rn Qa [1,4,8,9,10,33] [4,8] (pl 1 (((Zq (Xy (Qi w)) (Zm s_ d ((Qi w).1) ((Qi w).2.1)))).1) (pf 2 h1 (pl 5 (((Zq (Xy (Qi w)) (Zm s_ d ((Qi w).1) ((Qi w).2.1)))).2) p0))) ?_;exact zA (by rw[h1]<;>kernel_rfl)
 refine ck (decide (((((Zq (Xy (Qi w)) (Zm s_ d ((Qi w).1) ((Qi w).2.1)))).1).length:u)>(0:u))|| decide (((((Zq (Xy (Qi w)) (Zm s_ d ((Qi w).1) ((Qi w).2.1)))).2).length:u)>(0:u))) (λh2=> ?_) (λh2=> ?_)
 ·refine wB 4 3 (.own X 769) ((Qi w).2.2.2) (λhw3 hl4=> ?_);refine ru Qa [] [1,9,10,33] [(4, [.i ((Qi w).1),.s ((Qi w).2.1),.o 768 ((Qi w).2.2.1),.slc (.own X 2624) 3 ((eL ((Qi w).2.2.2))++ [[.i version,.h (((Zq (Xy (Qi w)) (Zm s_ d ((Qi w).1) ((Qi w).2.1)))).1),.h (((Zq (Xy (Qi w)) (Zm s_ d ((Qi w).1) ((Qi w).2.1)))).2)]])])] [4] (pa ((Qi w).2.2.2) [(version,((Zq (Xy (Qi w)) (Zm s_ d ((Qi w).1) ((Qi w).2.1)))).1,((Zq (Xy (Qi w)) (Zm s_ d ((Qi w).1) ((Qi w).2.1)))).2)] p0) ?_;refine eqn [] [] [(4, [.i ((Qi w).1),.s ((Qi w).2.1),.o 768 ((Qi w).2.2.1),.o 2624 ((Qi w).2.2.2++ [(version,((Zq (Xy (Qi w)) (Zm s_ d ((Qi w).1) ((Qi w).2.1)))).1,((Zq (Xy (Qi w)) (Zm s_ d ((Qi w).1) ((Qi w).2.1)))).2)])])] [4] (by rw[show ((eL ((Qi w).2.2.2))++ [[.i version,.h (((Zq (Xy (Qi w)) (Zm s_ d ((Qi w).1) ((Qi w).2.1)))).1),.h (((Zq (Xy (Qi w)) (Zm s_ d ((Qi w).1) ((Qi w).2.1)))).2)]])=(eL ((Qi w).2.2.2++ [(version,((Zq (Xy (Qi w)) (Zm s_ d ((Qi w).1) ((Qi w).2.1)))).1,((Zq (Xy (Qi w)) (Zm s_ d ((Qi w).1) ((Qi w).2.1)))).2)])) from Jc (rfl) (rfl)];first | done | kernel_rfl) ?_;exact sn Qa [8] [8] p0 <| Qd <| pz [] (show J5 w version s_ d=_ from Q9 h2 (rfl)) (λz=> .a [.i z.1,.s z.2.1,.o 0 z.2.2.1,.o 1 z.2.2.2])
 exact Qf <| sn Qa [8] [8] p0 <| Qd <| pz [] (show J5 w version s_ d=_ from Qj h2 (rfl)) (λz=> .a [.i z.1,.s z.2.1,.o 0 z.2.2.1,.o 1 z.2.2.2])
theorem Qgi {R:Type} {f:T->u->Y u->Rd R (Y u) (Y u)} {e:T->Y u->Y u} {b:Y u} (hf:∀k a s,f k a s=bif (!(J9 b a)) then .next (s++ [a]) else .next s) (he:∀k s,e k s=s) (l:Y u):X4 f e l 0 []= .brk (less l b):=by
 rw[Ng (p:=λx=> !b.contains x) (g:=λx=>x) (λk a s=>by rw[hf,Qgg])];rw[he,zG,List.map_id'];rfl
theorem Qb8 (a b:Y u):Zq a b=Zy a b:=by
 unfold Zq Zy;rw[Qgi (f:=Me a) (e:=Mf) (b:=a) (λ_ _ _=>rfl) (λ_ _=>rfl),Qgi (f:=Mg b) (e:=Mh) (b:=b) (λ_ _ _=>rfl) (λ_ _=>rfl)];rfl
theorem HQ:∀(l:Y K5) (k:T) (s:Y u),∃t,X4 U5 Ao l k s= .brk t/\t.length<=s.length+GoD.size l
 | [],k,s=>⟨s,rfl,Nat.le_add_right _ _⟩
 | x::l,k,s=>by
   obtain ⟨t,h1,h2⟩:=HQ l (k+1) (Uq s x.2.1 x.2.2);refine ⟨t,h1, ?_⟩;have h3:=Lt s x.2.1 x.2.2;have h4:=CX x;have h5:GoD.size (x::l)=GoD.size [x]+GoD.size l:=XG [x] l;rw[FP] at h5;omega
theorem RK (w:Z7):zD (Xr w)<=GoD.size w:=by
 have hw:=Rp w;unfold Xr He;obtain ⟨t,h1,h2⟩:=HQ w.2.2.2 0 w.2.2.1;rw[h1];simp only[Out.on];omega
theorem Qgj (w:Z7) (v:u) (s:Yk) (d:Y Zj) (hp:GoD.size w<=536870912):J5 w v s d=Kl w v s d:=by
 unfold J5 Kl;rw[M0,P5,Qb7,Qbw,Qb8];have h1:=RK w;have h2:=EX s d w.1 w.2.1;unfold Zy;have h3:=KW (Y9 s d w.1 w.2.1) (Xr w);have h4:=KW (Xr w) (Y9 s d w.1 w.2.1);generalize less (Y9 s d w.1 w.2.1) (Xr w)=a at h3⊢;generalize less (Xr w) (Y9 s d w.1 w.2.1)=b at h4⊢;have hw:IntKind.i64.wrap ((a.length:u)+(b.length:u))=(a.length:u)+(b.length:u):=IntWalk.i64_in _ (by omega);simp only[hw]
 have hc:(decide ((a.length:u)>(0:u))|| decide ((b.length:u)>(0:u)))=decide ((a.length:u)+(b.length:u)>(0:u)):=by
  rw[yD];simp only[yC,uM];omega
 rw[hc]
open GoE (enc wide)
def Yg (x:Qq):Qq:=((Kd x.1),(Wb x.2))
theorem XM (x:Qq):ACalls Tryz.prog 141 [.a [.h x.1.1,.h x.1.2.1,.i x.1.2.2,.h x.2]] (.a [.o 0 ((Yg x).1.1),.o 1 ((Yg x).1.2.1),.i ((Yg x).1.2.2),.o 2 ((Yg x).2)]):=by
 refine en Qa Tryz.func141 λw0 F0 hG=> ?_
 exact sn Qa [1,2] [1,2] p0 <| tN Qa Yo [2] [2] (pc 2 (E4 x.1) (pc 5 (F2 x.2) p0)) <| Qd <| pz [] (show Yg x=((Kd x.1),(Wb x.2)) from rfl) (λz=> .a [.o 0 z.1.1,.o 1 z.1.2.1,.i z.1.2.2,.o 2 z.2])
def Aq (_:T) (a0:Yn) (s0:Y Yn):Rd (Y Yn) (Y Yn) (Y Yn):=(.next (s0++ [(a0.1,(Yg a0.2.1),a0.2.2)]))
def Lf (_:T) (s0:Y Yn):(Y Yn):=s0
def Ay (v:Y Yn):(Y Yn):=(Out.on (X4 Aq Lf v 0 []) (λy0=>y0))
theorem XN (v:Y Yn):ACalls Tryz.prog 93 [.h v] (.o 0 (Ay v)):=by
 refine en Qa Tryz.func93 λw0 F0 hG=> ?_
 refine sn Qa [0,2] [] p0 <| tn Qa [0,2,3] [] p0 <| Qb <| tu Qa [(2,.e 0),(3,.one (.slc (.own X 384) 6 [])),(7,.h v),(8,.i (v.length:u)),(9,.i 0)] [0] [] [] (pl 1 v p0) <| wT 7 0 .sh v (λhw1 hl2=> ?_)
 refine AB Aq Lf v [] (λk0 s0=> [(3,.o 147201 s0),(9,.i (k0:u))]) [3,9] (λy0=> [(3,.o 147351 y0)]) [3,7,8,9] (λk0 s0=>zD s0<=k0) (Xg [(384,147201)] (by kernel_rfl)) (by simp) (λk0 s0 O U=> ?_) (λk0 s0 O U=> ?_) (λy0 hD0=> ?_)
 ·have hA0_0:=U.2;obtain ⟨a0,V⟩:=Xh (l:=v) (i:=k0) O;refine sn Qa [2,3,7,8,9,10] [] (pe 0 (zB ((k0:u)<(v.length:u))) p0) <| Qb <| ckT <| Qf <| Qb <| Qo <| tn Qa [2,3,5,7,8,9] [5] (pn 0 V p0) <| tu Qa [(5,.p 5 0)] [] [(5, [.i a0.1,.o 960 ((Yg a0.2.1).1.1),.o 961 ((Yg a0.2.1).1.2.1),.i ((Yg a0.2.1).1.2.2),.o 962 ((Yg a0.2.1).2),.i a0.2.2])] [] (pc 2 (XM a0.2.1) p0) <| wT 3 0 (.own X 147201) s0 (λhw3 hl4=> ?_)
  refine ru Qa [(3,.one (.slc (.own X 1280) 6 ((eL s0)++ [[.i a0.1,.h ((Yg a0.2.1).1.1),.h ((Yg a0.2.1).1.2.1),.i ((Yg a0.2.1).1.2.2),.h ((Yg a0.2.1).2),.i a0.2.2]])))] [3,5] [] [5] (pa s0 [(a0.1,(Yg a0.2.1),a0.2.2)] p0) ?_;refine eqn [(3,.o 1280 (s0++ [(a0.1,(Yg a0.2.1),a0.2.2)]))] [3] [] [] (by rw[show ((eL s0)++ [[.i a0.1,.h ((Yg a0.2.1).1.1),.h ((Yg a0.2.1).1.2.1),.i ((Yg a0.2.1).1.2.2),.h ((Yg a0.2.1).2),.i a0.2.2]])=(eL (s0++ [(a0.1,(Yg a0.2.1),a0.2.2)])) from Jc (rfl) (rfl)];first | done | kernel_rfl) ?_;refine rn Qa [2,3,7,8,9] [] (pe 0 (Jl (Qn k0 (by omega))) p0) ?_;exact zF (s0++ [(a0.1,(Yg a0.2.1),a0.2.2)]) (zM (Xg [(1280,147201)] (by kernel_rfl)) ⟨Qs V (rfl) U.1,by first|omega|(simp;omega) | simp⟩)
 ·have hA0_0:=U.2;exact sn Qa [2,3,7,8,9,10] [] (pe 0 (zC ((k0:u)<(v.length:u))) p0) <| Qb <| ckF <| Q4 <| zF _ (zM (Xg [(147201,147351)] (by kernel_rfl)) (Xj O (rfl) U.1))
 exact sn Qa [2] [] p0 <| Qd <| po0 [] (Vp hD0 (rfl))
def F5 (_:T) (a0:Yn) (s0:Y Yn):Rd (Y Yn) (Y Yn) (Y Yn):=(.next (s0++ [(a0.1,(X3 a0.2.1),a0.2.2)]))
def Sl (_:T) (s0:Y Yn):(Y Yn):=s0
def J3 (k_:Y Yn):(Y Yn):=(Out.on (X4 F5 Sl k_ 0 []) (λy0=>y0))
theorem N1 (k_:Y Yn):ACalls Tryz.prog 69 [.h k_] (.o 0 (J3 k_)):=by
 refine en Qa Tryz.func69 λw0 F0 hG=> ?_
 refine sn Qa [0,2] [] p0 <| tn Qa [0,2,3] [] p0 <| Qb <| tu Qa [(2,.e 0),(3,.one (.slc (.own X 320) 6 [])),(4,.i 0)] [] [] [] p0 <| wT 0 0 .sh k_ (λhw1 hl2=> ?_)
 refine AB F5 Sl k_ [] (λk0 s0=> [(3,.o 147202 s0),(4,.i (k0:u))]) [3,4] (λy0=> [(3,.o 147352 y0)]) [0,3,4] (λk0 s0=>zD s0<=k0) (Xg [(320,147202)] (by kernel_rfl)) (by simp) (λk0 s0 O U=> ?_) (λk0 s0 O U=> ?_) (λy0 hD0=> ?_)
 ·have hA0_0:=U.2;obtain ⟨a0,V⟩:=Xh (l:=k_) (i:=k0) O;refine Qb <| sn Qa [0,2,3,4,9] [] (pl 2 k_ (pe 3 (zB ((k0:u)<(k_.length:u))) p0)) <| ckT <| Qf <| Qb <| Qo <| wT 3 0 (.own X 147202) s0 (λhw3 hl4=> ?_)
  refine qU Qa Yo [(3,.one (.slc (.own X 1984) 6 ((eL s0)++ [[.i a0.1,.h ((X3 a0.2.1).1.1),.h ((X3 a0.2.1).1.2.1),.i ((X3 a0.2.1).1.2.2),.h ((X3 a0.2.1).2),.i a0.2.2]])))] [3] [] [] (pn 3 V (pn 8 V (pc 11 (Md a0.2.1) (pn 14 V (pa s0 [(a0.1,(X3 a0.2.1),a0.2.2)] p0))))) ?_;refine eqn [(3,.o 1984 (s0++ [(a0.1,(X3 a0.2.1),a0.2.2)]))] [3] [] [] (by rw[show ((eL s0)++ [[.i a0.1,.h ((X3 a0.2.1).1.1),.h ((X3 a0.2.1).1.2.1),.i ((X3 a0.2.1).1.2.2),.h ((X3 a0.2.1).2),.i a0.2.2]])=(eL (s0++ [(a0.1,(X3 a0.2.1),a0.2.2)])) from Jc (rfl) (rfl)];first | done | kernel_rfl) ?_;refine rn Qa [0,2,3,4] [] (pe 1 (Jl (Qn k0 (by omega))) p0) ?_;exact zF (s0++ [(a0.1,(X3 a0.2.1),a0.2.2)]) (zM (Xg [(1984,147202)] (by kernel_rfl)) ⟨Qs V (rfl) U.1,by first|omega|(simp;omega) | simp⟩)
 ·have hA0_0:=U.2;exact Qb <| sn Qa [0,2,3,4,9] [] (pl 2 k_ (pe 3 (zC ((k0:u)<(k_.length:u))) p0)) <| ckF <| Q4 <| zF _ (zM (Xg [(147202,147352)] (by kernel_rfl)) (Xj O (rfl) U.1))
 exact sn Qa [2] [] p0 <| Qd <| po0 [] (Vp hD0 (rfl))
theorem NC (l:Y Yj):An l=l:=by
 unfold An;rw[Vi (f:=Dk) (g:=id) (λ_ _ _=>rfl),zQ];rfl
theorem Te (d:Y Zj):Wb d=d:=by
 unfold Wb;rw[Vi (f:=E5) (g:=id) (λ_ _ _=>rfl),zQ];rfl
theorem P6 (s:Yk):Kd s=s:=by
 unfold Kd;rw[NC]
theorem ZK (s:Yk):Wf s=s:=by
 unfold Wf;rw[Vi (f:=F3) (g:=id) (λ_ _ _=>rfl),zQ];rfl
theorem ZL (d:Y Zj):H0 d=d:=by
 unfold H0;rw[Vi (f:=F4) (g:=id) (λ_ _ _=>rfl),zQ];rfl
theorem HS (x:Qq):Yg x=x:=by
 unfold Yg;rw[P6,Te]
theorem HV (x:Qq):X3 x=x:=by
 unfold X3;rw[ZK,ZL]
theorem HW (v:Y Yn):Ay v=v:=by
 unfold Ay;rw[Vi (f:=Aq) (g:=id) (λ_ a _=>by unfold Aq;rw[HS];rfl),zQ];rfl
theorem ZM (v:Y Yn):J3 v=v:=by
 unfold J3;rw[Vi (f:=F5) (g:=id) (λ_ a _=>by unfold F5;rw[HV];rfl),zQ];rfl
theorem RL (v:Y Yn):(J3 v).length=v.length:=by rw[ZM]
open GoE (enc wide)
def E8 (_:T) (a0:Qp) (s0:Y Qp):Rd (Y Qp) (Y Qp) (Y Qp):=(.next (s0++ [a0]))
def E9 (_:T) (s0:Y Qp):(Y Qp):=s0
def Cc (r:Y Qp):(Y Qp):=(Out.on (X4 E8 E9 r 0 []) (λy0=>y0))
theorem ZN (r:Y Qp):ACalls Tryz.prog 140 [.h r] (.o 0 (Cc r)):=by
 refine en Qa Tryz.func140 λw0 F0 hG=> ?_
 refine sn Qa [0,2] [] p0 <| tn Qa [0,2,3] [] p0 <| Qb <| tu Qa [(2,.e 0),(3,.one (.slc (.own X 384) 2 [])),(7,.h r),(8,.i (r.length:u)),(9,.i 0)] [0] [] [] (pl 1 r p0) <| wT 7 0 .sh r (λhw1 hl2=> ?_)
 refine AB E8 E9 r [] (λk0 s0=> [(3,.o 147201 s0),(9,.i (k0:u))]) [3,9] (λy0=> [(3,.o 147351 y0)]) [3,7,8,9] (λk0 s0=>zD s0<=k0) (Xg [(384,147201)] (by kernel_rfl)) (by simp) (λk0 s0 O U=> ?_) (λk0 s0 O U=> ?_) (λy0 hD0=> ?_)
 ·have hA0_0:=U.2;obtain ⟨a0,V⟩:=Xh (l:=r) (i:=k0) O;refine sn Qa [2,3,7,8,9,10] [] (pe 0 (zB ((k0:u)<(r.length:u))) p0) <| Qb <| ckT <| Qf <| Qb <| Qo <| tn Qa [2,3,5,7,8,9] [5] (pn 0 V p0) <| wT 3 0 (.own X 147201) s0 (λhw3 hl4=> ?_)
  refine qU Qa Yo [(3,.one (.slc (.own X 1344) 2 ((eL s0)++ [[.s a0.1,.h a0.2]])))] [3] [] [] (pc 5 (Ec a0.2) (pa s0 [a0] p0)) ?_;refine eqn [(3,.o 1344 (s0++ [a0]))] [3] [] [] (by rw[show ((eL s0)++ [[.s a0.1,.h a0.2]])=(eL (s0++ [a0])) from Jc (rfl) (rfl)];first | done | kernel_rfl) ?_;refine rn Qa [2,3,7,8,9] [] (pe 0 (Jl (Qn k0 (by omega))) p0) ?_;exact zF (s0++ [a0]) (zM (Xg [(1344,147201)] (by kernel_rfl)) ⟨Qs V (rfl) U.1,by first|omega|(simp;omega) | simp⟩)
 ·have hA0_0:=U.2;exact sn Qa [2,3,7,8,9,10] [] (pe 0 (zC ((k0:u)<(r.length:u))) p0) <| Qb <| ckF <| Q4 <| zF _ (zM (Xg [(147201,147351)] (by kernel_rfl)) (Xj O (rfl) U.1))
 exact sn Qa [2] [] p0 <| Qd <| po0 [] (Vp hD0 (rfl))
def Jw (c:U7):U7:=((Kd c.1),(Wb c.2.1),(Cc c.2.2))
theorem ZO (c:U7):ACalls Tryz.prog 92 [.a [.h c.1.1,.h c.1.2.1,.i c.1.2.2,.h c.2.1,.h c.2.2]] (.a [.o 0 ((Jw c).1.1),.o 1 ((Jw c).1.2.1),.i ((Jw c).1.2.2),.o 2 ((Jw c).2.1),.o 3 ((Jw c).2.2)]):=by
 refine en Qa Tryz.func92 λw0 F0 hG=> ?_
 exact sn Qa [1,2] [1,2] p0 <| tN Qa Yo [2] [2] (pc 2 (E4 c.1) (pc 5 (F2 c.2.1) (pc 8 (ZN c.2.2) p0))) <| Qd <| pz [] (show Jw c=((Kd c.1),(Wb c.2.1),(Cc c.2.2)) from rfl) (λz=> .a [.o 0 z.1.1,.o 1 z.1.2.1,.i z.1.2.2,.o 2 z.2.1,.o 3 z.2.2])
def Cr (_:T) (a0:Z7) (s0:Y Z7):Rd (Jd) (Y Z7) (Y Z7):=(.next (s0++ [(Xi a0)]))
def Fq (_:T) (s0:Y Z7):(Y Z7):=s0
def Z2 (x:Jd):Jd:=(Out.on (X4 Cr Fq x.2.2.2.2.1 0 []) (λy0=>((Jw x.1),x.2.1,x.2.2.1,(Ay x.2.2.2.1),y0,x.2.2.2.2.2)))
theorem Ol (x:Jd):ACalls Tryz.prog 49 [.a [.h x.1.1.1,.h x.1.1.2.1,.i x.1.1.2.2,.h x.1.2.1,.h x.1.2.2,.s x.2.1.1,.s x.2.1.2,.i x.2.2.1,.h x.2.2.2.1,.h x.2.2.2.2.1,.h x.2.2.2.2.2]] (.a [.o 0 ((Z2 x).1.1.1),.o 1 ((Z2 x).1.1.2.1),.i ((Z2 x).1.1.2.2),.o 2 ((Z2 x).1.2.1),.o 3 ((Z2 x).1.2.2),.s ((Z2 x).2.1.1),.s ((Z2 x).2.1.2),.i ((Z2 x).2.2.1),.o 4 ((Z2 x).2.2.2.1),.o 5 ((Z2 x).2.2.2.2.1),.o 6 ((Z2 x).2.2.2.2.2)]):=by
 refine en Qa Tryz.func49 λw0 F0 hG=> ?_
 refine sn Qa [1,2] [1,2] p0 <| tn Qa [1,2,3] [1,2] p0 <| Qb <| tu Qa [(1,.p 1 0),(2,.p 2 0),(3,.one (.slc (.own X 384) 4 [])),(8,.h x.2.2.2.2.1),(9,.i (x.2.2.2.2.1.length:u)),(10,.i 0)] [0] [(1, [.h x.1.1.1,.h x.1.1.2.1,.i x.1.1.2.2,.h x.1.2.1,.h x.1.2.2,.s x.2.1.1,.s x.2.1.2,.i x.2.2.1,.h x.2.2.2.1,.h x.2.2.2.2.1,.h x.2.2.2.2.2]),(2, [.e 2,.e 5,.i 0,.e 2,.e 2,.s ⟨#[]⟩,.s ⟨#[]⟩,.i 0,.e 6,.e 4,.e 1])] [] (pl 2 x.2.2.2.2.1 p0) <| wT 8 0 .sh x.2.2.2.2.1 (λhw1 hl2=> ?_)
 refine AB Cr Fq x.2.2.2.2.1 [] (λk0 s0=> [(3,.o 147202 s0),(10,.i (k0:u))]) [3,10] (λy0=> [(3,.o 147352 y0)]) [3,8,9,10] (λk0 s0=>zD s0<=k0) (Xg [(384,147202)] (by kernel_rfl)) (by simp) (λk0 s0 O U=> ?_) (λk0 s0 O U=> ?_) (λy0 hD0=> ?_)
 ·have hA0_0:=U.2;obtain ⟨a0,V⟩:=Xh (l:=x.2.2.2.2.1) (i:=k0) O;refine su Qa [(11,.b X)] [] [] [] (pe 0 (zB ((k0:u)<(x.2.2.2.2.1.length:u))) p0) <| Qb <| ckT <| Qf <| Qb <| Qo <| sn Qa [1,2,3,5,8,9,10] [1,2,5] (pn 0 V p0) <| wT 3 0 (.own X 147202) s0 (λhw3 hl4=> ?_)
  refine qu Qa [(3,.one (.slc (.own X 1152) 4 ((eL s0)++ [[.i ((Xi a0).1),.s ((Xi a0).2.1),.h ((Xi a0).2.2.1),.h ((Xi a0).2.2.2)]])))] [3,11] [] [] (pc 2 (P4 a0) (pa s0 [(Xi a0)] p0)) ?_;refine eqn [(3,.o 1152 (s0++ [(Xi a0)]))] [3] [] [] (by rw[show ((eL s0)++ [[.i ((Xi a0).1),.s ((Xi a0).2.1),.h ((Xi a0).2.2.1),.h ((Xi a0).2.2.2)]])=(eL (s0++ [(Xi a0)])) from Jc (rfl) (rfl)];first | done | kernel_rfl) ?_;refine rn Qa [1,2,3,8,9,10] [1,2] (pe 0 (Jl (Qn k0 (by omega))) p0) ?_;exact zF (s0++ [(Xi a0)]) (zM (Xg [(1152,147202)] (by kernel_rfl)) ⟨Qs V (rfl) U.1,by first|omega|(simp;omega) | simp⟩)
 ·have hA0_0:=U.2;exact su Qa [(11,.b W)] [] [] [] (pe 0 (zC ((k0:u)<(x.2.2.2.2.1.length:u))) p0) <| Qb <| ckF <| Q4 <| zF _ (zM (Xg [(147202,147352)] (by kernel_rfl)) (Xj O (rfl) U.1))
 exact sn Qa [1,2,3] [1,2] (pc 2 (ZO x.1) p0) <| tn Qa [1,2,3] [1,2] (pc 2 (XN x.2.2.2.1) p0) <| tu Qa [] [3] [(1, [.o 1408 ((Jw x.1).1.1),.o 1409 ((Jw x.1).1.2.1),.i ((Jw x.1).1.2.2),.o 1410 ((Jw x.1).2.1),.o 1411 ((Jw x.1).2.2),.s x.2.1.1,.s x.2.1.2,.i x.2.2.1,.o 1664 (Ay x.2.2.2.1),.o 147352 y0,.h x.2.2.2.2.2])] [1] p0 <| sn Qa [1,2] [1,2] (pc 2 (Ec x.2.2.2.2.2) p0) <| tn Qa [2] [2] p0 <| Qd <| pz [] (show Z2 x=_ from Vp hD0 (rfl)) (λz=> .a [.o 0 z.1.1.1,.o 1 z.1.1.2.1,.i z.1.1.2.2,.o 2 z.1.2.1,.o 3 z.1.2.2,.s z.2.1.1,.s z.2.1.2,.i z.2.2.1,.o 4 z.2.2.2.1,.o 5 z.2.2.2.2.1,.o 6 z.2.2.2.2.2])
def Fr (_:T) (a0:Qp) (s0:Y Qp):Rd (Y Qp) (Y Qp) (Y Qp):=(.next (s0++ [a0]))
def Fs (_:T) (s0:Y Qp):(Y Qp):=s0
def C5 (a_:Y Qp):(Y Qp):=(Out.on (X4 Fr Fs a_ 0 []) (λy0=>y0))
theorem JV (a_:Y Qp):ACalls Tryz.prog 117 [.h a_] (.o 0 (C5 a_)):=by
 refine en Qa Tryz.func117 λw0 F0 hG=> ?_
 refine sn Qa [0,2] [] p0 <| tn Qa [0,2,3] [] p0 <| Qb <| tu Qa [(2,.e 0),(3,.one (.slc (.own X 320) 2 [])),(4,.i 0)] [] [] [] p0 <| wT 0 0 .sh a_ (λhw1 hl2=> ?_)
 refine AB Fr Fs a_ [] (λk0 s0=> [(3,.o 147202 s0),(4,.i (k0:u))]) [3,4] (λy0=> [(3,.o 147352 y0)]) [0,3,4] (λk0 s0=>zD s0<=k0) (Xg [(320,147202)] (by kernel_rfl)) (by simp) (λk0 s0 O U=> ?_) (λk0 s0 O U=> ?_) (λy0 hD0=> ?_)
 ·have hA0_0:=U.2;obtain ⟨a0,V⟩:=Xh (l:=a_) (i:=k0) O;refine Qb <| sn Qa [0,2,3,4,9] [] (pl 2 a_ (pe 3 (zB ((k0:u)<(a_.length:u))) p0)) <| ckT <| Qf <| Qb <| Qo ?_
  have hl3:zD a0.2<=1073741824:=Dc (Ia (Rf V (hw1)));refine wT 3 0 (.own X 147202) s0 (λhw4 hl5=> ?_);refine qU Qa Yo [(3,.one (.slc (.own X 1728) 2 ((eL s0)++ [[.s a0.1,.slc 1 ([]++(eL a0.2))]])))] [3] [] [] (pn 3 V (pn 9 V (po 12 (.flat) (px (Ct (n:=(([]:Y (Y PV)).length+((eL a0.2):Y (Y PV)).length)) (Eb (rfl) (Yr a0.2) (by first|omega|(simp only[zL,zN];omega) | (simp;omega) | simp))) (px (Hx (Uh a0.2)) (px (Ct (n:=(((eL s0):Y (Y PV)).length+([[.s a0.1,.slc 1 ([]++(eL a0.2))]]:Y (Y PV)).length)) (Eb (Yr s0) (rfl) (by first|omega|(simp only[zL,zN];omega) | (simp;omega) | simp))) p0)))))) ?_;refine eqn [(3,.o 1728 (s0++ [a0]))] [3] [] [] (by rw[show ((eL s0)++ [[.s a0.1,.slc 1 ([]++(eL a0.2))]])=(eL (s0++ [a0])) from Jc (rfl) (rfl)];first | done | kernel_rfl) ?_;refine rn Qa [0,2,3,4] [] (pe 1 (Jl (Qn k0 (by omega))) p0) ?_;exact zF (s0++ [a0]) (zM (Xg [(1728,147202)] (by kernel_rfl)) ⟨Qs V (rfl) U.1,by first|omega|(simp;omega) | simp⟩)
 ·have hA0_0:=U.2;exact Qb <| sn Qa [0,2,3,4,9] [] (pl 2 a_ (pe 3 (zC ((k0:u)<(a_.length:u))) p0)) <| ckF <| Q4 <| zF _ (zM (Xg [(147202,147352)] (by kernel_rfl)) (Xj O (rfl) U.1))
 exact sn Qa [2] [] p0 <| Qd <| po0 [] (Vp hD0 (rfl))
def Yw (l:U7):U7:=((Wf l.1),(H0 l.2.1),(C5 l.2.2))
theorem FT (l:U7):ACalls Tryz.prog 68 [.a [.h l.1.1,.h l.1.2.1,.i l.1.2.2,.h l.2.1,.h l.2.2]] (.a [.o 0 ((Yw l).1.1),.o 1 ((Yw l).1.2.1),.i ((Yw l).1.2.2),.o 2 ((Yw l).2.1),.o 3 ((Yw l).2.2)]):=by
 refine en Qa Tryz.func68 λw0 F0 hG=> ?_
 exact sn Qa [1,2] [1,2] p0 <| tN Qa Yo [2] [2] (pc 2 (Nw l.1) (pc 5 (Nx l.2.1) (pc 8 (JV l.2.2) p0))) <| Qd <| pz [] (show Yw l=((Wf l.1),(H0 l.2.1),(C5 l.2.2)) from rfl) (λz=> .a [.o 0 z.1.1,.o 1 z.1.2.1,.i z.1.2.2,.o 2 z.2.1,.o 3 z.2.2])
def F6 (_:T) (a0:Z7) (s0:Y Z7):Rd (Jd) (Y Z7) (Y Z7):=(.next (s0++ [(Qi a0)]))
def Mi (_:T) (s0:Y Z7):(Y Z7):=s0
def K3 (x:Jd):Jd:=(Out.on (X4 F6 Mi x.2.2.2.2.1 0 []) (λy0=>((Yw x.1),x.2.1,x.2.2.1,(J3 x.2.2.2.1),y0,x.2.2.2.2.2)))
theorem FU (x:Jd):ACalls Tryz.prog 35 [.a [.h x.1.1.1,.h x.1.1.2.1,.i x.1.1.2.2,.h x.1.2.1,.h x.1.2.2,.s x.2.1.1,.s x.2.1.2,.i x.2.2.1,.h x.2.2.2.1,.h x.2.2.2.2.1,.h x.2.2.2.2.2]] (.a [.o 0 ((K3 x).1.1.1),.o 1 ((K3 x).1.1.2.1),.i ((K3 x).1.1.2.2),.o 2 ((K3 x).1.2.1),.o 3 ((K3 x).1.2.2),.s ((K3 x).2.1.1),.s ((K3 x).2.1.2),.i ((K3 x).2.2.1),.o 4 ((K3 x).2.2.2.1),.o 5 ((K3 x).2.2.2.2.1),.o 6 ((K3 x).2.2.2.2.2)]):=by
 refine en Qa Tryz.func35 λw0 F0 hG=> ?_
 refine sn Qa [1,2] [1,2] p0 <| wB 1 10 .sh x.2.2.2.2.2 (λhw1 hl2=> ?_)
 refine tN Qa Yo [1,2,3] [1,2,3] (pc 2 (FT x.1) (pc 9 (N1 x.2.2.2.1) (po 13 (.flat) (px (Ct (n:=(([]:Y (Y PV)).length+((eL x.2.2.2.2.2):Y (Y PV)).length)) (Eb (rfl) (Yr x.2.2.2.2.2) (by first|omega|(simp only[zL,zN];omega) | (simp;omega) | simp))) (px (Hx (Uh x.2.2.2.2.2)) p0))))) <| Qb <| tu Qa [(1,.p 1 0),(2,.p 2 0),(3,.p 3 0),(4,.i 0)] [0] [(1, [.h x.1.1.1,.h x.1.1.2.1,.i x.1.1.2.2,.h x.1.2.1,.h x.1.2.2,.s x.2.1.1,.s x.2.1.2,.i x.2.2.1,.h x.2.2.2.1,.h x.2.2.2.2.1,.h x.2.2.2.2.2]),(2, [.e 2,.e 5,.i 0,.e 2,.e 2,.s ⟨#[]⟩,.s ⟨#[]⟩,.i 0,.e 6,.e 4,.e 1]),(3, [.o 448 ((Yw x.1).1.1),.o 449 ((Yw x.1).1.2.1),.i ((Yw x.1).1.2.2),.o 450 ((Yw x.1).2.1),.o 451 ((Yw x.1).2.2),.s x.2.1.1,.s x.2.1.2,.i x.2.2.1,.o 896 (J3 x.2.2.2.1),.e 4,.o 1152 x.2.2.2.2.2])] [] p0 <| wB 1 9 .sh x.2.2.2.2.1 (λhw3 hl4=> ?_)
 refine JM F6 Mi x.2.2.2.2.1 [] (λk0 _=> [(4,.i (k0:u))]) [4] (λ_ s0=> [(3, [.o 448 ((Yw x.1).1.1),.o 449 ((Yw x.1).1.2.1),.i ((Yw x.1).1.2.2),.o 450 ((Yw x.1).2.1),.o 451 ((Yw x.1).2.2),.s x.2.1.1,.s x.2.1.2,.i x.2.2.1,.o 896 (J3 x.2.2.2.1),.o 147235 s0,.o 1152 x.2.2.2.2.2])]) [3] (λ_=> []) [1,4] (λy0=> [(3, [.o 448 ((Yw x.1).1.1),.o 449 ((Yw x.1).1.2.1),.i ((Yw x.1).1.2.2),.o 450 ((Yw x.1).2.1),.o 451 ((Yw x.1).2.2),.s x.2.1.1,.s x.2.1.2,.i x.2.2.1,.o 896 (J3 x.2.2.2.1),.o 147385 y0,.o 1152 x.2.2.2.2.2])]) [1,3] (λk0 s0=>zD s0<=k0) (L5 [(X,3,9,X,320008,4)] [] [] [(320008,147235)] (by kernel_rfl)) (by simp) (λk0 s0 O U=> ?_) (λk0 s0 O U=> ?_) (λy0 hD0=> ?_)
 ·have hA0_0:=U.2;obtain ⟨a0,V⟩:=Xh (l:=x.2.2.2.2.1) (i:=k0) O;refine Qb <| su Qa [(24,.b X)] [] [] [] (pl 3 x.2.2.2.2.1 (pe 4 (zB ((k0:u)<(x.2.2.2.2.1.length:u))) p0)) <| ckT <| Qf <| Qb <| Qo <| wB 3 9 (.own X 147235) s0 (λhw5 hl6=> ?_)
  refine rU Qa Yo [] [24] [(3, [.o 448 ((Yw x.1).1.1),.o 449 ((Yw x.1).1.2.1),.i ((Yw x.1).1.2.2),.o 450 ((Yw x.1).2.1),.o 451 ((Yw x.1).2.2),.s x.2.1.1,.s x.2.1.2,.i x.2.2.1,.o 896 (J3 x.2.2.2.1),.slc (.own X 2304) 4 ((eL s0)++ [[.i ((Qi a0).1),.s ((Qi a0).2.1),.h ((Qi a0).2.2.1),.h ((Qi a0).2.2.2)]]),.o 1152 x.2.2.2.2.2])] [3] (pn 5 V (pc 7 (XL a0) (pa s0 [(Qi a0)] p0))) ?_;refine eqn [] [] [(3, [.o 448 ((Yw x.1).1.1),.o 449 ((Yw x.1).1.2.1),.i ((Yw x.1).1.2.2),.o 450 ((Yw x.1).2.1),.o 451 ((Yw x.1).2.2),.s x.2.1.1,.s x.2.1.2,.i x.2.2.1,.o 896 (J3 x.2.2.2.1),.o 2304 (s0++ [(Qi a0)]),.o 1152 x.2.2.2.2.2])] [3] (by rw[show ((eL s0)++ [[.i ((Qi a0).1),.s ((Qi a0).2.1),.h ((Qi a0).2.2.1),.h ((Qi a0).2.2.2)]])=(eL (s0++ [(Qi a0)])) from Jc (rfl) (rfl)];first | done | kernel_rfl) ?_;refine rn Qa [1,2,3,4] [1,2,3] (pe 1 (Jl (Qn k0 (by omega))) p0) ?_;exact zF (s0++ [(Qi a0)]) (zM (Xg [(2304,147235)] (by kernel_rfl)) ⟨Qs V (rfl) U.1,by first|omega|(simp;omega) | simp⟩)
 ·have hA0_0:=U.2;exact Qb <| su Qa [(24,.b W)] [] [] [] (pl 3 x.2.2.2.2.1 (pe 4 (zC ((k0:u)<(x.2.2.2.2.1.length:u))) p0)) <| ckF <| Q4 <| zF _ (zM (Xg [(147235,147385)] (by kernel_rfl)) (Xj O (rfl) U.1))
 exact sn Qa [2] [2] p0 <| Qd <| pz [] (show K3 x=_ from Vp hD0 (rfl)) (λz=> .a [.o 0 z.1.1.1,.o 1 z.1.1.2.1,.i z.1.1.2.2,.o 2 z.1.2.1,.o 3 z.1.2.2,.s z.2.1.1,.s z.2.1.2,.i z.2.2.1,.o 4 z.2.2.2.1,.o 5 z.2.2.2.2.1,.o 6 z.2.2.2.2.2])
def Xd (s_:Yk) (d:Y Zj):U7×G:=(bif (!(((Jk s_ d)).2)) then ((([], [],0), [], []),W) else (((Kd s_),(Wb d),((Jk s_ d)).1),X))
theorem JW (s_:Yk) (d:Y Zj):ACalls Tryz.prog 50 [.a [.h s_.1,.h s_.2.1,.i s_.2.2],.h d] (.tup [(X, [.o 0 ((((Xd s_ d)).1).1.1),.o 1 ((((Xd s_ d)).1).1.2.1),.i ((((Xd s_ d)).1).1.2.2),.o 2 ((((Xd s_ d)).1).2.1),.o 3 ((((Xd s_ d)).1).2.2)]),(W, [.b (((Xd s_ d)).2)])]):=by
 refine en Qa Tryz.func50 λw0 F0 hG=> ?_
 refine sn Qa [1,2,4,5] [2,4] p0 <| tn Qa [1,2,4,5,6,7] [2,4] (pc 2 (Sa s_ d) p0) <| Qb <| tu Qa [(2,.p 2 0),(4,.p 4 0),(5,.b W),(6,.o 704 (((Jk s_ d)).1)),(15,.b (!(((Jk s_ d)).2)))] [0] [(2, [.h s_.1,.h s_.2.1,.i s_.2.2]),(4, [.e 2,.e 5,.i 0,.e 2,.e 2])] [] p0 <| ck (!(((Jk s_ d)).2)) (λh1=> ?_) (λh1=> ?_)
 ·refine su Qa [] [15] [] [] p0 <| opn [(X,4,0,X,384000,2),(X,4,1,X,384001,5),(X,4,3,X,384002,2),(X,4,4,X,384003,2)] ?_
  exact Qd <| pz [] (show Xd s_ d=_ from Q9 h1 (rfl)) (λz=> .tup [(X, [.o 0 z.1.1.1,.o 1 z.1.1.2.1,.i z.1.1.2.2,.o 2 z.1.2.1,.o 3 z.1.2.2]),(W, [.b z.2])])
 exact Qf <| sn Qa [4,5] [4] (pc 1 (E4 s_) (pc 3 (F2 d) p0)) <| Qd <| pz [] (show Xd s_ d=_ from Qj h1 (rfl)) (λz=> .tup [(X, [.o 0 z.1.1.1,.o 1 z.1.1.2.1,.i z.1.1.2.2,.o 2 z.1.2.1,.o 3 z.1.2.2]),(W, [.b z.2])])
def Q5 (s_:Yk) (d:Y Zj):U7×G:=(bif (!(((V9 s_ d)).2)) then ((([], [],0), [], []),W) else (((Wf s_),(H0 d),((V9 s_ d)).1),X))
theorem JX (s_:Yk) (d:Y Zj):ACalls Tryz.prog 37 [.a [.h s_.1,.h s_.2.1,.i s_.2.2],.h d] (.tup [(X, [.o 0 ((((Q5 s_ d)).1).1.1),.o 1 ((((Q5 s_ d)).1).1.2.1),.i ((((Q5 s_ d)).1).1.2.2),.o 2 ((((Q5 s_ d)).1).2.1),.o 3 ((((Q5 s_ d)).1).2.2)]),(W, [.b (((Q5 s_ d)).2)])]):=by
 refine en Qa Tryz.func37 λw0 F0 hG=> ?_
 refine sn Qa [1,2,4,5] [2,4] p0 <| tn Qa [1,2,4,5,6,7] [2,4] (pc 2 (Sb s_ d) p0) <| Qb <| tu Qa [(2,.p 2 0),(4,.p 4 0),(5,.b W),(6,.o 704 (((V9 s_ d)).1)),(15,.b (!(((V9 s_ d)).2)))] [0] [(2, [.h s_.1,.h s_.2.1,.i s_.2.2]),(4, [.e 2,.e 5,.i 0,.e 2,.e 2])] [] p0 <| ck (!(((V9 s_ d)).2)) (λh1=> ?_) (λh1=> ?_)
 ·refine su Qa [] [15] [] [] p0 <| opn [(X,4,0,X,384000,2),(X,4,1,X,384001,5),(X,4,3,X,384002,2),(X,4,4,X,384003,2)] ?_
  exact Qd <| pz [] (show Q5 s_ d=_ from Q9 h1 (rfl)) (λz=> .tup [(X, [.o 0 z.1.1.1,.o 1 z.1.1.2.1,.i z.1.1.2.2,.o 2 z.1.2.1,.o 3 z.1.2.2]),(W, [.b z.2])])
 exact Qf <| sn Qa [4,5] [4] (pc 1 (Nw s_) (pc 3 (Nx d) p0)) <| Qd <| pz [] (show Q5 s_ d=_ from Qj h1 (rfl)) (λz=> .tup [(X, [.o 0 z.1.1.1,.o 1 z.1.1.2.1,.i z.1.1.2.2,.o 2 z.1.2.1,.o 3 z.1.2.2]),(W, [.b z.2])])
def Ul (k_:Y Yn) (k0:T) (a0:Yn) (_:uB):Rd (G) (uB) (uB):=(bif ((!(Q0 a0.1 1 1000000000))|| ((!(Q7 a0.2.1))|| ((!(Q0 a0.2.2 0 99))|| (decide ((k0:u)>(0:u))&&decide ((nth k_ ((k0:u)-1).toNat).1>=a0.1))))) then (.ret W) else (.next ()))
def Ar (_:T) (_:uB):uB:=()
def Zb (k_:Y Yn):G:=(Out.on (X4 (Ul k_) Ar k_ 0 ()) (λ_=>decide ((k_.length:u)<=(6:u))))
theorem A6 (k_:Y Yn):ACalls Tryz.prog 75 [.h k_] (.b (Zb k_)):=by
 refine en Qa Tryz.func75 λw0 F0 hG=> ?_
 refine sn Qa [0,2] [] p0 <| Qb <| tn Qa [0,2,3] [] p0 <| mz [(2,.b W),(3,.i 0)] [] [] [] <| wT 0 0 .sh k_ (λhw1 hl2=> ?_)
 refine R2 (Ul k_) Ar k_ () (λk0 _=> [(3,.i (k0:u))]) [3] (λ_=> []) [3] wf0 (λk0 s0 O U=> ?_) (λk0 s0 O U=> ?_) (λy0 hD0=> ?_)
 ·obtain ⟨a0,V⟩:=Xh (l:=k_) (i:=k0) O;refine Qb <| sn Qa [0,2,3,7] [] (pl 2 k_ (pe 3 (zB ((k0:u)<(k_.length:u))) p0)) <| ckT <| Qf <| Qb <| Qo <| Qb <| mz [(7,.b X)] [] [] [] <| jn [(52,.b ((!(Q0 a0.1 1 1000000000))|| ((!(Q7 a0.2.1))|| ((!(Q0 a0.2.2 0 99))|| (decide ((k0:u)>(0:u))&&decide ((nth k_ ((k0:u)-1).toNat).1>=a0.1))))))] [7] [] [] (!(Q0 a0.1 1 1000000000)) (λh3=> ?_) (λh3=> ?_) ?_
  ·have h3n:(Q0 a0.1 1 1000000000)=W:=Vt h3;refine rN Qa Yo [0,2,3,52] [] (pn 2 V (pc 5 (cb h3n (Ys a0.1 1 1000000000)) (pe 6 (show .b (!W)= .b X from rfl) p0))) ?_;exact zA (by rw[h3]<;>kernel_rfl)
  ·have h3n:(Q0 a0.1 1 1000000000)=X:=Zz h3;have h3nw:=K1.1 h3n;have h3nw:=K1.1 h3n;refine Xx (!(Q7 a0.2.1)) (λh4=> ?_) (λh4=> ?_)
   ·have h4n:(Q7 a0.2.1)=W:=Vt h4;refine rN Qa Yo [0,2,3,52] [] (pn 2 V (pc 5 (cb h3n (Ys a0.1 1 1000000000)) (pe 6 (show .b (!X)= .b W from rfl) (pn 10 V (pc 13 (cb h4n (Ju a0.2.1)) (pe 14 (show .b (!W)= .b X from rfl) p0)))))) ?_;exact zA (by rw[h3,h4]<;>kernel_rfl)
   have h4n:(Q7 a0.2.1)=X:=Zz h4;refine Xx (!(Q0 a0.2.2 0 99)) (λh5=> ?_) (λh5=> ?_)
   ·have h5n:(Q0 a0.2.2 0 99)=W:=Vt h5;refine rN Qa Yo [0,2,3,52] [] (pn 2 V (pc 5 (cb h3n (Ys a0.1 1 1000000000)) (pe 6 (show .b (!X)= .b W from rfl) (pn 10 V (pc 13 (cb h4n (Ju a0.2.1)) (pe 14 (show .b (!X)= .b W from rfl) (pn 19 V (pc 22 (cb h5n (Ys a0.2.2 0 99)) (pe 23 (show .b (!W)= .b X from rfl) p0))))))))) ?_;exact zA (by rw[h3,h4,h5]<;>kernel_rfl)
   have h5n:(Q0 a0.2.2 0 99)=X:=Zz h5;have h5nw:=K1.1 h5n;have h5nw:=K1.1 h5n;refine Xx (decide ((k0:u)>(0:u))) (λh6=> ?_) (λh6=> ?_)
   ·have h6d:=uD h6;have hx7:=ng k_ ((k0:u)-1).toNat;refine rN Qa Yo [0,2,3,52] [] (pn 2 V (pc 5 (cb h3n (Ys a0.1 1 1000000000)) (pe 6 (show .b (!X)= .b W from rfl) (pn 10 V (pc 13 (cb h4n (Ju a0.2.1)) (pe 14 (show .b (!X)= .b W from rfl) (pn 19 V (pc 22 (cb h5n (Ys a0.2.2 0 99)) (pe 23 (show .b (!X)= .b W from rfl) (pt 27 h6 (pe 31 (Jl (IntWalk.i64_in ((k0:u)-1) (by omega))) (pg 32 ((k0:u)-1) hx7 (pn 37 V p0))))))))))))) ?_;exact zA (by rw[h3,h4,h5,h6]<;>kernel_rfl)
   refine rN Qa Yo [0,2,3,52] [] (pn 2 V (pc 5 (cb h3n (Ys a0.1 1 1000000000)) (pe 6 (show .b (!X)= .b W from rfl) (pn 10 V (pc 13 (cb h4n (Ju a0.2.1)) (pe 14 (show .b (!X)= .b W from rfl) (pn 19 V (pc 22 (cb h5n (Ys a0.2.2 0 99)) (pe 23 (show .b (!X)= .b W from rfl) (pf 27 h6 p0)))))))))) ?_;exact zA (by rw[h3,h4,h5,h6]<;>kernel_rfl)
  refine ck ((!(Q0 a0.1 1 1000000000))|| ((!(Q7 a0.2.1))|| ((!(Q0 a0.2.2 0 99))|| (decide ((k0:u)>(0:u))&&decide ((nth k_ ((k0:u)-1).toNat).1>=a0.1))))) (λh8=> ?_) (λh8=> ?_)
  ·refine sn Qa [0,2,3] [] p0 <| Qd ?_
   have hr9:(X4 (Ul k_) Ar k_ 0 ())= .ret W:=Ka V (Q9 h8 (rfl)) U;exact pb [] (On hr9)
  have h8l:((!(Q0 a0.1 1 1000000000)))=W:=JL h8;have h8ln:(Q0 a0.1 1 1000000000)=X:=Zz h8l;have h8lnw:=K1.1 h8ln;have h8lnw:=K1.1 h8ln;have h8r:(((!(Q7 a0.2.1))|| ((!(Q0 a0.2.2 0 99))|| (decide ((k0:u)>(0:u))&&decide ((nth k_ ((k0:u)-1).toNat).1>=a0.1)))))=W:=WL h8;have h8rr:(((!(Q0 a0.2.2 0 99))|| (decide ((k0:u)>(0:u))&&decide ((nth k_ ((k0:u)-1).toNat).1>=a0.1))))=W:=WL h8r;have h8rrl:((!(Q0 a0.2.2 0 99)))=W:=JL h8rr;have h8rrln:(Q0 a0.2.2 0 99)=X:=Zz h8rrl;have h8rrlnw:=K1.1 h8rrln;have h8rrlnw:=K1.1 h8rrln;refine Qf <| rn Qa [0,2,3] [] (pe 1 (Jl (Qn k0 (by omega))) p0) ?_
  exact xw _ (Qs V (Qj h8 (rfl)) U)
 ·exact Qb <| sn Qa [0,2,3,7] [] (pl 2 k_ (pe 3 (zC ((k0:u)<(k_.length:u))) p0)) <| ckF <| Q4 <| xw _ (Xj O (rfl) U)
 exact sn Qa [2] [] (pl 1 k_ p0) <| Qd <| pb [] (Vp hD0 (rfl))
def Z1 (k_:Y Yn) (version:u) (x:Qq):(Y Yn)×G:=(bif ((!(Zb k_))|| (!(Zb (J3 k_++ [((version,(X3 x),0):Yn)])))) then ((J3 k_),W) else (J3 k_++ [((version,(X3 x),0):Yn)],X))
theorem Tf (k_:Y Yn) (version:u) (x:Qq) (hp:(k_.length:u)<1073741824):ACalls Tryz.prog 38 [.h k_,.i version,.a [.h x.1.1,.h x.1.2.1,.i x.1.2.2,.h x.2]] (.tup [(W, [.o 0 (((Z1 k_ version x)).1)]),(W, [.b (((Z1 k_ version x)).2)])]):=by
 refine en Qa Tryz.func38 λw0 F0 hG=> ?_
 have hcl:=RL k_;refine sn Qa [0,1,5,6,7] [5] p0 <| tU Qa Yo [(6,.e 0),(7,.b W),(8,.one (.slc (.own X 1024) 6 ((eL (J3 k_))++ [[.i version,.h ((X3 x).1.1),.h ((X3 x).1.2.1),.i ((X3 x).1.2.2),.h ((X3 x).2),.i 0]])))] [1,2] [] [] (pc 1 (N1 k_) (pc 4 (Md x) (pa (J3 k_) [((version,(X3 x),0):Yn)] p0))) <| eqn [(8,.o 1024 (J3 k_++ [((version,(X3 x),0):Yn)]))] [8] [] [] (by rw[show ((eL (J3 k_))++ [[.i version,.h ((X3 x).1.1),.h ((X3 x).1.2.1),.i ((X3 x).1.2.2),.h ((X3 x).2),.i 0]])=(eL (J3 k_++ [((version,(X3 x),0):Yn)])) from Jc (rfl) (rfl)];first | done | kernel_rfl) ?_
 refine Qb <| Qb <| jn [(24,.b ((!(Zb k_))|| (!(Zb (J3 k_++ [((version,(X3 x),0):Yn)])))))] [] [] [] (!(Zb k_)) (λh1=> ?_) (λh1=> ?_) ?_
 ·have h1n:(Zb k_)=W:=Vt h1;refine rn Qa [0,6,7,8,24] [] (pc 1 (cb h1n (A6 k_)) (pe 2 (show .b (!W)= .b X from rfl) p0)) ?_;exact zA (by rw[h1]<;>kernel_rfl)
 ·have h1n:(Zb k_)=X:=Zz h1;refine rn Qa [0,6,7,8,24] [] (pc 1 (cb h1n (A6 k_)) (pe 2 (show .b (!X)= .b W from rfl) (pc 5 (A6 (J3 k_++ [((version,(X3 x),0):Yn)])) p0))) ?_;exact zA (by rw[h1]<;>kernel_rfl)
 refine ck ((!(Zb k_))|| (!(Zb (J3 k_++ [((version,(X3 x),0):Yn)])))) (λh2=> ?_) (λh2=> ?_)
 ·exact sn Qa [6,7,8] [] (pc 1 (N1 k_) p0) <| Qd <| pz [] (show Z1 k_ version x=_ from Q9 h2 (rfl)) (λz=> .tup [(W, [.o 0 z.1]),(W, [.b z.2])])
 exact Qf <| sn Qa [6,7] [] p0 <| Qd <| pz [] (show Z1 k_ version x=_ from Qj h2 (rfl)) (λz=> .tup [(W, [.o 0 z.1]),(W, [.b z.2])])
def Cd (w:Z7):u:=(bif ((w.2.2.2.length:u)==(0:u)) then 0 else (nth w.2.2.2 ((w.2.2.2.length:u)-1).toNat).1)
theorem ZP (w:Z7):ACalls Tryz.prog 51 [.a [.i w.1,.s w.2.1,.h w.2.2.1,.h w.2.2.2]] (.i (Cd w)):=by
 refine en Qa Tryz.func51 λw0 F0 hG=> ?_
 refine sn Qa [1,2] [1] p0 <| Qb <| tn Qa [1,2,6] [1] (pl 2 w.2.2.2 p0) <| ck ((w.2.2.2.length:u)==(0:u)) (λh1=> ?_) (λh1=> ?_)
 ·exact tu Qa [(1,.p 1 0),(2,.i 0)] [0] [(1, [.i w.1,.s w.2.1,.h w.2.2.1,.h w.2.2.2])] [] p0 <| Qd <| pi [] (Q9 h1 (rfl))
 have h1d:=X0 h1;refine Qf <| wB 1 3 .sh w.2.2.2 (λhw2 hl3=> ?_)
 have hx4:=ng w.2.2.2 ((w.2.2.2.length:u)-1).toNat;exact tu Qa [(2,.i ((nth w.2.2.2 ((w.2.2.2.length:u)-1).toNat).1))] [0] [] [] (pl 4 w.2.2.2 (pe 5 (Jl (IntWalk.i64_in ((w.2.2.2.length:u)-1) (by omega))) (pg 6 ((w.2.2.2.length:u)-1) hx4 p0))) <| Qd <| pi [] (Qj h1 (rfl))
theorem AS (r:Y Qp):Cc r=r:=by
 unfold Cc;rw[Vi (f:=E8) (e:=E9) (g:=id) (λ_ _ _=>rfl),zQ];rfl
theorem FV (r:Y Qp):C5 r=r:=by
 unfold C5;rw[Vi (f:=Fr) (e:=Fs) (g:=id) (λ_ _ _=>rfl),zQ];rfl
theorem AT (c:U7):Jw c=c:=by
 unfold Jw;rw[P6,Te,AS]
theorem Qb9 (c:U7):Yw c=c:=by
 unfold Yw;rw[ZK,ZL,FV]
theorem N2 (x:Jd):Z2 x=x:=by
 unfold Z2;rw[Vi (f:=Cr) (e:=Fq) (g:=id) (λ_ a _=>by unfold Cr;rw[P5];rfl),zQ,AT,HW];rfl
theorem CY (x:Jd):K3 x=x:=by
 unfold K3;rw[Vi (f:=F6) (e:=Mi) (g:=id) (λ_ a _=>by unfold F6;rw[M0];rfl),zQ,Qb9,ZM];rfl
theorem Qap {α:Type} [GoD α] [Inhabited α]:∀(l:Y α) (k:T),k<l.length->GoD.size (nth l k)<=GoD.size l
 | [],k,h=>by simp at h
 | a::l,0,_=>by
   have h5:GoD.size (a::l)=GoD.size [a]+GoD.size l:=XG [a] l;rw[FP] at h5;show GoD.size a<=_;omega
 | a::l,k+1,h=>by
   have h5:GoD.size (a::l)=GoD.size [a]+GoD.size l:=XG [a] l;have:=Qap l k (by simpa using h);show GoD.size (nth l k)<=_;omega
theorem FW {x:Jd} (hp:GoD.size x<=536870912) {k:T} (hk:k<x.2.2.2.2.1.length):GoD.size (nth x.2.2.2.2.1 k)<=536870912:=
 zP (Qap _ _ hk) (WC (R1 (R1 (R1 (R1 hp)))))
theorem Uv {α:Type} [Inhabited α] (l:Y α) (y:α) {i j:T} (h:i<j):nth (zT l i y) j=nth l j:=by
 unfold nth;rw[zZ,zZ,List.getElem?_set_ne (by omega)]
open GoE (enc wide)
def H2 (x1:u×Qq×G) (k0:T) (_:Z7) (s0:Y Z7):Rd (Jd×G) (Y Z7) (Y Z7):=(bif decide ((Cd (nth s0 k0))<x1.1) then (.next (zT s0 k0 (Kl (nth s0 k0) x1.1 x1.2.1.1 x1.2.1.2))) else (.next s0))
def Mj (_:T) (s0:Y Z7):(Y Z7):=s0
def Yc (x:Jd):Jd×G:=(lt (Y4 x.2.1) (λx1=>(bif (!x1.2.2) then (lt (Z2 x) (λx3=>(x3,W))) else (lt (Z2 x) (λx4=>(Out.on (X4 (H2 x1) Mj x4.2.2.2.2.1 0 x4.2.2.2.2.1) (λy0=>(((((Xd x1.2.1.1 x1.2.1.2)).1),x4.2.1,x1.1, [((x1.1,x1.2.1,0):Yn)],y0,x4.2.2.2.2.2),X))))))))
theorem FX (x:Jd) (hp:GoD.size x<=536870912) (ha:zS x.2.1.1<=1073741000) (hb:zS x.2.1.2<=1073741000):ACalls Tryz.prog 22 [.a [.h x.1.1.1,.h x.1.1.2.1,.i x.1.1.2.2,.h x.1.2.1,.h x.1.2.2,.s x.2.1.1,.s x.2.1.2,.i x.2.2.1,.h x.2.2.2.1,.h x.2.2.2.2.1,.h x.2.2.2.2.2]] (.tup [(X, [.o 0 ((((Yc x)).1).1.1.1),.o 1 ((((Yc x)).1).1.1.2.1),.i ((((Yc x)).1).1.1.2.2),.o 2 ((((Yc x)).1).1.2.1),.o 3 ((((Yc x)).1).1.2.2),.s ((((Yc x)).1).2.1.1),.s ((((Yc x)).1).2.1.2),.i ((((Yc x)).1).2.2.1),.o 4 ((((Yc x)).1).2.2.2.1),.o 5 ((((Yc x)).1).2.2.2.2.1),.o 6 ((((Yc x)).1).2.2.2.2.2)]),(W, [.b (((Yc x)).2)])]):=by
 refine en Qa Tryz.func22 λw0 F0 hG=> ?_
 refine sn Qa [1,2,3] [1,2] p0 ?_;obtain ⟨x1,hx1⟩:=nm (Y4 x.2.1);refine tn Qa [1,2,3,4,5,6] [1,2,5] (pc 2 (hx1▸Rt x.2.1 (by first | assumption | (rw[hcx1];assumption)) (by first | assumption | (rw[hcx1];assumption))) p0) <| Qb <| tu Qa [(1,.p 1 0),(2,.p 2 0),(3,.b W),(4,.i x1.1),(5,.p 5 0),(18,.b (!x1.2.2))] [0] [(1, [.h x.1.1.1,.h x.1.1.2.1,.i x.1.1.2.2,.h x.1.2.1,.h x.1.2.2,.s x.2.1.1,.s x.2.1.2,.i x.2.2.1,.h x.2.2.2.1,.h x.2.2.2.2.1,.h x.2.2.2.2.2]),(2, [.e 2,.e 5,.i 0,.e 2,.e 2,.s ⟨#[]⟩,.s ⟨#[]⟩,.i 0,.e 6,.e 4,.e 1]),(5, [.o 832 x1.2.1.1.1,.o 833 x1.2.1.1.2.1,.i x1.2.1.1.2.2,.o 834 x1.2.1.2])] [] p0 <| ck (!x1.2.2) (λh2=> ?_) (λh2=> ?_)
 ·have h2n:(x1.2.2)=W:=Vt h2;obtain ⟨x3,hx3⟩:=nm (Z2 x);have hcx3:x3=x:=hx3.symm.trans (N2 x);exact sn Qa [1,2,3,4,5] [1,2,5] (pc 1 (hx3▸Ol x) p0) <| Qd <| pz [] (show Yc x=_ from L4 hx1 (Q9 h2 (L4 hx3 (rfl)))) (λz=> .tup [(X, [.o 0 z.1.1.1.1,.o 1 z.1.1.1.2.1,.i z.1.1.1.2.2,.o 2 z.1.1.2.1,.o 3 z.1.1.2.2,.s z.1.2.1.1,.s z.1.2.1.2,.i z.1.2.2.1,.o 4 z.1.2.2.2.1,.o 5 z.1.2.2.2.2.1,.o 6 z.1.2.2.2.2.2]),(W, [.b z.2])])
 have h2n:(x1.2.2)=X:=Zz h2;refine Qf ?_;obtain ⟨x4,hx4⟩:=nm (Z2 x);have hcx4:x4=x:=hx4.symm.trans (N2 x);refine sn Qa [2,3,4,5,7] [2,5,7] (pc 1 (hx4▸Ol x) p0) <| tn Qa [2,3,4,5,7] [2,5,7] (pc 4 (JW x1.2.1.1 x1.2.1.2) p0) <| tu Qa [(7,.p 7 0)] [1,18] [(7, [.o 1792 ((((Xd x1.2.1.1 x1.2.1.2)).1).1.1),.o 1793 ((((Xd x1.2.1.1 x1.2.1.2)).1).1.2.1),.i ((((Xd x1.2.1.1 x1.2.1.2)).1).1.2.2),.o 1794 ((((Xd x1.2.1.1 x1.2.1.2)).1).2.1),.o 1795 ((((Xd x1.2.1.1 x1.2.1.2)).1).2.2),.s x4.2.1.1,.s x4.2.1.2,.i x1.1,.o 1412 x4.2.2.2.1,.o 1413 x4.2.2.2.2.1,.o 1414 x4.2.2.2.2.2])] [1] p0 <| sn Qa [2,3,4,5,7] [2,5,7] p0 <| Qb <| tn Qa [2,3,4,5,7,40,41,42] [2,5,7] (pl 2 x4.2.2.2.2.1 p0) <| mz [(40,.o 1413 x4.2.2.2.2.1),(41,.i (x4.2.2.2.2.1.length:u)),(42,.i 0)] [] [(5, [.v 2368 x1.2.1.1.1,.v 2368 x1.2.1.1.2.1,.i x1.2.1.1.2.2,.v 2368 x1.2.1.2]),(7, [.o 1792 ((((Xd x1.2.1.1 x1.2.1.2)).1).1.1),.o 1793 ((((Xd x1.2.1.1 x1.2.1.2)).1).1.2.1),.i ((((Xd x1.2.1.1 x1.2.1.2)).1).1.2.2),.o 1794 ((((Xd x1.2.1.1 x1.2.1.2)).1).2.1),.o 1795 ((((Xd x1.2.1.1 x1.2.1.2)).1).2.2),.s x4.2.1.1,.s x4.2.1.2,.i x1.1,.o 2368 [((x1.1,x1.2.1,0):Yn)],.o 1413 x4.2.2.2.2.1,.o 1414 x4.2.2.2.2.2])] [5,7] <| wT 40 0 (.own X 1413) x4.2.2.2.2.1 (λhw5 hl6=> ?_)
 refine JM (H2 x1) Mj x4.2.2.2.2.1 x4.2.2.2.2.1 (λk0 s0=> [(40,.o 1413 s0),(42,.i (k0:u))]) [40,42] (λ_ s0=> [(7, [.o 1792 ((((Xd x1.2.1.1 x1.2.1.2)).1).1.1),.o 1793 ((((Xd x1.2.1.1 x1.2.1.2)).1).1.2.1),.i ((((Xd x1.2.1.1 x1.2.1.2)).1).1.2.2),.o 1794 ((((Xd x1.2.1.1 x1.2.1.2)).1).2.1),.o 1795 ((((Xd x1.2.1.1 x1.2.1.2)).1).2.2),.s x4.2.1.1,.s x4.2.1.2,.i x1.1,.o 2368 [((x1.1,x1.2.1,0):Yn)],.o 1413 s0,.o 1414 x4.2.2.2.2.2])]) [7] (λ_=> []) [4,5,40,41,42] (λy0=> [(7, [.o 1792 ((((Xd x1.2.1.1 x1.2.1.2)).1).1.1),.o 1793 ((((Xd x1.2.1.1 x1.2.1.2)).1).1.2.1),.i ((((Xd x1.2.1.1 x1.2.1.2)).1).1.2.2),.o 1794 ((((Xd x1.2.1.1 x1.2.1.2)).1).2.1),.o 1795 ((((Xd x1.2.1.1 x1.2.1.2)).1).2.2),.s x4.2.1.1,.s x4.2.1.2,.i x1.1,.o 2368 [((x1.1,x1.2.1,0):Yn)],.o 1413 y0,.o 1414 x4.2.2.2.2.2])]) [5,7] (λk0 s0=>zD s0=zD x4.2.2.2.2.1/\(∀j:T,k0<=j->nth s0 j=nth x.2.2.2.2.1 j)) wf0 ⟨(by simp),(by (intro j _;rw[hcx4]))⟩ (λk0 s0 O U=> ?_) (λk0 s0 O U=> ?_) (λy0 hD0=> ?_)
 ·have hA0_0:=U.2.1;have hA0_1:=U.2.2;obtain ⟨a0,V⟩:=Xh (l:=x4.2.2.2.2.1) (i:=k0) O;have hwk:k0<x.2.2.2.2.1.length:=(by have hzk:=O;rw[hcx4] at hzk;exact hzk);have hws:=FW hp hwk;rw[←(by first | exact hA0_0 k0 (zY _) | exact hA0_1 k0 (zY _):nth s0 k0=nth x.2.2.2.2.1 k0)] at hws;refine su Qa [(43,.b X)] [] [] [] (pe 0 (zB ((k0:u)<(x4.2.2.2.2.1.length:u))) p0) <| Qb <| ckT <| Qf <| Qb <| Qo <| wT 40 0 (.own X 1413) s0 (λhw8 hl9=> ?_)
  have hx7:=ng s0 k0;refine sn Qa [2,3,4,5,7,8,9,40,41,42] [2,5,7,9] (pN 1 hx7 p0) <| tn Qa [2,3,4,5,7,8,9,40,41,42,50] [2,5,7,9] (pc 1 (ZP (nth s0 k0)) p0) <| ck (decide ((Cd (nth s0 k0))<x1.1)) (λh10=> ?_) (λh10=> ?_)
  ·have h10d:=uD h10;refine qU Qa Yo [(40,.one (.slc (.own X 1413) 4 (setRow (eL s0) k0 0 [.i ((Kl (nth s0 k0) x1.1 x1.2.1.1 x1.2.1.2).1),.s ((Kl (nth s0 k0) x1.1 x1.2.1.1 x1.2.1.2).2.1),.h ((Kl (nth s0 k0) x1.1 x1.2.1.1 x1.2.1.2).2.2.1),.h ((Kl (nth s0 k0) x1.1 x1.2.1.1 x1.2.1.2).2.2.2)])))] [40,43] [(7, [.o 1792 ((((Xd x1.2.1.1 x1.2.1.2)).1).1.1),.o 1793 ((((Xd x1.2.1.1 x1.2.1.2)).1).1.2.1),.i ((((Xd x1.2.1.1 x1.2.1.2)).1).1.2.2),.o 1794 ((((Xd x1.2.1.1 x1.2.1.2)).1).2.1),.o 1795 ((((Xd x1.2.1.1 x1.2.1.2)).1).2.2),.s x4.2.1.1,.s x4.2.1.2,.i x1.1,.o 2368 [((x1.1,x1.2.1,0):Yn)],.slc (.own X 1413) 4 (setRow (eL s0) k0 0 [.i ((Kl (nth s0 k0) x1.1 x1.2.1.1 x1.2.1.2).1),.s ((Kl (nth s0 k0) x1.1 x1.2.1.1 x1.2.1.2).2.1),.h ((Kl (nth s0 k0) x1.1 x1.2.1.1 x1.2.1.2).2.2.1),.h ((Kl (nth s0 k0) x1.1 x1.2.1.1 x1.2.1.2).2.2.2)]),.o 1414 x4.2.2.2.2.2])] [7] (pc 9 (NB (nth s0 k0) x1.1 x1.2.1.1 x1.2.1.2 (by omega)) (pN 10 hx7 p0)) ?_;refine eqn [(40,.o 1413 (zT s0 k0 (Kl (nth s0 k0) x1.1 x1.2.1.1 x1.2.1.2)))] [40] [(7, [.o 1792 ((((Xd x1.2.1.1 x1.2.1.2)).1).1.1),.o 1793 ((((Xd x1.2.1.1 x1.2.1.2)).1).1.2.1),.i ((((Xd x1.2.1.1 x1.2.1.2)).1).1.2.2),.o 1794 ((((Xd x1.2.1.1 x1.2.1.2)).1).2.1),.o 1795 ((((Xd x1.2.1.1 x1.2.1.2)).1).2.2),.s x4.2.1.1,.s x4.2.1.2,.i x1.1,.o 2368 [((x1.1,x1.2.1,0):Yn)],.o 1413 (zT s0 k0 (Kl (nth s0 k0) x1.1 x1.2.1.1 x1.2.1.2)),.o 1414 x4.2.2.2.2.2])] [7] (by rw[Ke (y:=(Kl (nth s0 k0) x1.1 x1.2.1.1 x1.2.1.2)) hx7 rfl]<;>kernel_rfl) ?_;refine rn Qa [2,3,4,5,7,40,41,42] [2,5,7] (pe 0 (Jl (Qn k0 (by omega))) p0) ?_;exact xw (zT s0 k0 (Kl (nth s0 k0) x1.1 x1.2.1.1 x1.2.1.2)) ⟨Qs V (Q9 h10 (rfl)) U.1,(by first|omega|(simp only[zE];omega)),(by first | exact λj hj=>hA0_0 j (by omega) | exact λj hj=>(Uv _ _ (by omega)).trans (hA0_0 j (by omega)) | exact λj hj=>(Uv _ _ (by omega)).trans (hA0_1 j (by omega)) | exact λj hj=>hA0_1 j (by omega))⟩
  have h10d:=uH h10;refine Qf <| qu Qa [(42,.i ((k0+1:T):u))] [42,43] [] [] (pe 0 (Jl (Qn k0 (by omega))) p0) ?_
  exact xw s0 ⟨Qs V (Qj h10 (rfl)) U.1,(by first|omega|(simp only[zE];omega)),(by first | exact λj hj=>hA0_0 j (by omega) | exact λj hj=>(Uv _ _ (by omega)).trans (hA0_0 j (by omega)) | exact λj hj=>(Uv _ _ (by omega)).trans (hA0_1 j (by omega)) | exact λj hj=>hA0_1 j (by omega))⟩
 ·have hA0_0:=U.2.1;have hA0_1:=U.2.2;exact su Qa [(43,.b W)] [] [] [] (pe 0 (zC ((k0:u)<(x4.2.2.2.2.1.length:u))) p0) <| Qb <| ckF <| Q4 <| xw _ (Xj O (rfl) U.1)
 exact sn Qa [2,3] [2] p0 <| Qd <| pz [] (show Yc x=_ from L4 hx1 (Qj h2 (L4 hx4 (Vp hD0 (rfl))))) (λz=> .tup [(X, [.o 0 z.1.1.1.1,.o 1 z.1.1.1.2.1,.i z.1.1.1.2.2,.o 2 z.1.1.2.1,.o 3 z.1.1.2.2,.s z.1.2.1.1,.s z.1.2.1.2,.i z.1.2.2.1,.o 4 z.1.2.2.2.1,.o 5 z.1.2.2.2.2.1,.o 6 z.1.2.2.2.2.2]),(W, [.b z.2])])
def C6 (x2:u×Qq×G) (k0:T) (s0:Y Z7):Rd (Jd×G) (Y Z7) (Y Z7):=(bif decide ((((nth s0 k0).2.2.2).length:u)>(0:u)) then (bif decide ((nth ((nth s0 k0).2.2.2) ((((nth s0 k0).2.2.2).length:u)-1).toNat).1<x2.1) then (.next (zT s0 k0 (J5 (nth s0 k0) x2.1 x2.2.1.1 x2.2.1.2))) else (.next s0)) else (bif decide ((0:u)<x2.1) then (.next (zT s0 k0 (J5 (nth s0 k0) x2.1 x2.2.1.1 x2.2.1.2))) else (.next s0)))
def Mk (_:T) (s0:Y Z7):(Y Z7):=s0
def Yd (x:Jd):Jd×G:=(lt (K3 x) (λx1=>(lt (Jv x1.2.1) (λx2=>(bif (!x2.2.2) then (x1,W) else (Out.on (Ks (C6 x2) Mk (zD x1.2.2.2.2.1) 0 x1.2.2.2.2.1) (λy0=>(((((Q5 x2.2.1.1 x2.2.1.2)).1),x1.2.1,x2.1,((Z1 [] x2.1 x2.2.1)).1,y0,x1.2.2.2.2.2),X))))))))
theorem FY (x:Jd) (hp:GoD.size x<=536870912) (ha:zS x.2.1.1<=1073741000) (hb:zS x.2.1.2<=1073741000):ACalls Tryz.prog 14 [.a [.h x.1.1.1,.h x.1.1.2.1,.i x.1.1.2.2,.h x.1.2.1,.h x.1.2.2,.s x.2.1.1,.s x.2.1.2,.i x.2.2.1,.h x.2.2.2.1,.h x.2.2.2.2.1,.h x.2.2.2.2.2]] (.tup [(X, [.o 0 ((((Yd x)).1).1.1.1),.o 1 ((((Yd x)).1).1.1.2.1),.i ((((Yd x)).1).1.1.2.2),.o 2 ((((Yd x)).1).1.2.1),.o 3 ((((Yd x)).1).1.2.2),.s ((((Yd x)).1).2.1.1),.s ((((Yd x)).1).2.1.2),.i ((((Yd x)).1).2.2.1),.o 4 ((((Yd x)).1).2.2.2.1),.o 5 ((((Yd x)).1).2.2.2.2.1),.o 6 ((((Yd x)).1).2.2.2.2.2)]),(W, [.b (((Yd x)).2)])]):=by
 refine en Qa Tryz.func14 λw0 F0 hG=> ?_
 refine sn Qa [1,2,3] [1,2] p0 ?_;obtain ⟨x1,hx1⟩:=nm (K3 x);have hcx1:x1=x:=hx1.symm.trans (CY x);refine tn Qa [1,2,3] [1,2] (pc 1 (hx1▸FU x) p0) ?_;obtain ⟨x2,hx2⟩:=nm (Jv x1.2.1);refine tu Qa [(1,.p 1 0),(2,.p 2 0),(3,.b W),(4,.i x2.1),(5,.p 5 0),(6,.b x2.2.2)] [0] [(1, [.o 704 x1.1.1.1,.o 705 x1.1.1.2.1,.i x1.1.1.2.2,.o 706 x1.1.2.1,.o 707 x1.1.2.2,.s x1.2.1.1,.s x1.2.1.2,.i x1.2.2.1,.o 708 x1.2.2.2.1,.o 709 x1.2.2.2.2.1,.o 710 x1.2.2.2.2.2]),(2, [.e 2,.e 5,.i 0,.e 2,.e 2,.s ⟨#[]⟩,.s ⟨#[]⟩,.i 0,.e 6,.e 4,.e 1]),(5, [.o 960 x2.2.1.1.1,.o 961 x2.2.1.1.2.1,.i x2.2.1.1.2.2,.o 962 x2.2.1.2])] [] (pc 2 (hx2▸Ru x1.2.1 (by first | assumption | (rw[hcx1];assumption)) (by first | assumption | (rw[hcx1];assumption))) p0) <| Qb <| sn Qa [1,2,3,4,5,20] [1,2,5] p0 <| ck (!x2.2.2) (λh3=> ?_) (λh3=> ?_)
 ·have h3n:(x2.2.2)=W:=Vt h3;exact tn Qa [1,2,3,4,5] [1,2,5] p0 <| Qd <| pz [] (show Yd x=_ from L4 hx1 (L4 hx2 (Q9 h3 (rfl)))) (λz=> .tup [(X, [.o 0 z.1.1.1.1,.o 1 z.1.1.1.2.1,.i z.1.1.1.2.2,.o 2 z.1.1.2.1,.o 3 z.1.1.2.2,.s z.1.2.1.1,.s z.1.2.1.2,.i z.1.2.2.1,.o 4 z.1.2.2.2.1,.o 5 z.1.2.2.2.2.1,.o 6 z.1.2.2.2.2.2]),(W, [.b z.2])])
 have h3n:(x2.2.2)=X:=Zz h3;refine Qf <| tn Qa [1,2,3,4,5] [1,2,5] (pc 4 (JX x2.2.1.1 x2.2.1.2) p0) <| tu Qa [] [6] [(1, [.o 1728 ((((Q5 x2.2.1.1 x2.2.1.2)).1).1.1),.o 1729 ((((Q5 x2.2.1.1 x2.2.1.2)).1).1.2.1),.i ((((Q5 x2.2.1.1 x2.2.1.2)).1).1.2.2),.o 1730 ((((Q5 x2.2.1.1 x2.2.1.2)).1).2.1),.o 1731 ((((Q5 x2.2.1.1 x2.2.1.2)).1).2.2),.s x1.2.1.1,.s x1.2.1.2,.i x2.1,.o 708 x1.2.2.2.1,.o 709 x1.2.2.2.2.1,.o 710 x1.2.2.2.2.2])] [1] p0 <| sn Qa [1,2,3,4,5] [1,2,5] (pc 2 (UI (.cons (ArgLe.nil 6) (.cons (ArgLe.rfl _) (.cons (ArgLe.rfl _) (.nil)))) (Tf [] x2.1 x2.2.1 (by decide))) p0) <| Qb <| tn Qa [1,2,3,4,5,7] [1,2,5] p0 <| mz [(7,.i 0)] [] [(1, [.o 1728 ((((Q5 x2.2.1.1 x2.2.1.2)).1).1.1),.o 1729 ((((Q5 x2.2.1.1 x2.2.1.2)).1).1.2.1),.i ((((Q5 x2.2.1.1 x2.2.1.2)).1).1.2.2),.o 1730 ((((Q5 x2.2.1.1 x2.2.1.2)).1).2.1),.o 1731 ((((Q5 x2.2.1.1 x2.2.1.2)).1).2.2),.s x1.2.1.1,.s x1.2.1.2,.i x2.1,.o 2304 (((Z1 [] x2.1 x2.2.1)).1),.o 709 x1.2.2.2.2.1,.o 710 x1.2.2.2.2.2])] [1] <| Qma (C6 x2) Mk (zD x1.2.2.2.2.1) x1.2.2.2.2.1 (λk0 _=> [(7,.i (k0:u))]) [7] (λ_ s0=> [(1, [.o 1728 ((((Q5 x2.2.1.1 x2.2.1.2)).1).1.1),.o 1729 ((((Q5 x2.2.1.1 x2.2.1.2)).1).1.2.1),.i ((((Q5 x2.2.1.1 x2.2.1.2)).1).1.2.2),.o 1730 ((((Q5 x2.2.1.1 x2.2.1.2)).1).2.1),.o 1731 ((((Q5 x2.2.1.1 x2.2.1.2)).1).2.2),.s x1.2.1.1,.s x1.2.1.2,.i x2.1,.o 2304 (((Z1 [] x2.1 x2.2.1)).1),.o 709 s0,.o 710 x1.2.2.2.2.2])]) [1] (λ_=> []) [4,5,7] (λy0=> [(1, [.o 1728 ((((Q5 x2.2.1.1 x2.2.1.2)).1).1.1),.o 1729 ((((Q5 x2.2.1.1 x2.2.1.2)).1).1.2.1),.i ((((Q5 x2.2.1.1 x2.2.1.2)).1).1.2.2),.o 1730 ((((Q5 x2.2.1.1 x2.2.1.2)).1).2.1),.o 1731 ((((Q5 x2.2.1.1 x2.2.1.2)).1).2.2),.s x1.2.1.1,.s x1.2.1.2,.i x2.1,.o 2304 (((Z1 [] x2.1 x2.2.1)).1),.o 709 y0,.o 710 x1.2.2.2.2.2])]) [1,5] (λk0 s0=>zD s0=zD x1.2.2.2.2.1/\(∀j:T,k0<=j->nth s0 j=nth x.2.2.2.2.1 j)) (λy0=>zD y0=zD x1.2.2.2.2.1) wf0 ⟨(by simp),(by (intro j _;rw[hcx1]))⟩ (λk0 s0 O U=> ?_) (λk0 s0 O U=> ?_) (λy0 hD0=> ?_)
 ·have hA0_0:=U.2.1;have hA0_1:=U.2.2;have hwk:k0<x.2.2.2.2.1.length:=(by have hzk:=O;rw[hcx1] at hzk;exact hzk);have hws:=FW hp hwk;rw[←(by first | exact hA0_0 k0 (zY _) | exact hA0_1 k0 (zY _):nth s0 k0=nth x.2.2.2.2.1 k0)] at hws;refine Qb <| su Qa [(44,.b X)] [] [] [] (pl 3 s0 (pe 4 (zB ((k0:u)<(s0.length:u))) p0)) <| ckT <| Qf <| Qb <| Qo <| su Qa [(8,.i 0)] [44] [] [] p0 <| Qb <| wB 1 9 (.own X 709) s0 (λhw5 hl6=> ?_)
  have hx4:=ng s0 k0;refine sn Qa [1,2,3,4,5,7,8,9] [1,2,5] (pN 3 hx4 (pl 6 ((nth s0 k0).2.2.2) p0)) <| tn Qa [1,2,3,4,5,7,8,9,55] [1,2,5] p0 <| ck (decide ((((nth s0 k0).2.2.2).length:u)>(0:u))) (λh7=> ?_) (λh7=> ?_)
  ·have h7d:=uD h7;have hl8:zD ((nth s0 k0).2.2.2)<=1073741824:=Dc (Ia (Ia (Ia (Rf hx4 (hw5)))));have hx9:=ng ((nth s0 k0).2.2.2) ((((nth s0 k0).2.2.2).length:u)-1).toNat;refine qu Qa [(8,.i ((nth ((nth s0 k0).2.2.2) ((((nth s0 k0).2.2.2).length:u)-1).toNat).1))] [8] [] [] (pN 3 hx4 (pe 7 (Jl (IntWalk.i64_in ((((nth s0 k0).2.2.2).length:u)-1) (by omega))) (pg 8 ((((nth s0 k0).2.2.2).length:u)-1) hx9 p0))) ?_;refine sn Qa [1,2,3,4,5,7,69] [1,2,5] p0 <| ck (decide ((nth ((nth s0 k0).2.2.2) ((((nth s0 k0).2.2.2).length:u)-1).toNat).1<x2.1)) (λh10=> ?_) (λh10=> ?_)
   ·have h10d:=uD h10;refine qU Qa Yo [] [8] [(1, [.o 1728 ((((Q5 x2.2.1.1 x2.2.1.2)).1).1.1),.o 1729 ((((Q5 x2.2.1.1 x2.2.1.2)).1).1.2.1),.i ((((Q5 x2.2.1.1 x2.2.1.2)).1).1.2.2),.o 1730 ((((Q5 x2.2.1.1 x2.2.1.2)).1).2.1),.o 1731 ((((Q5 x2.2.1.1 x2.2.1.2)).1).2.2),.s x1.2.1.1,.s x1.2.1.2,.i x2.1,.o 2304 (((Z1 [] x2.1 x2.2.1)).1),.slc (.own X 709) 4 (setRow (eL s0) k0 0 [.i ((J5 (nth s0 k0) x2.1 x2.2.1.1 x2.2.1.2).1),.s ((J5 (nth s0 k0) x2.1 x2.2.1.1 x2.2.1.2).2.1),.h ((J5 (nth s0 k0) x2.1 x2.2.1.1 x2.2.1.2).2.2.1),.h ((J5 (nth s0 k0) x2.1 x2.2.1.1 x2.2.1.2).2.2.2)]),.o 710 x1.2.2.2.2.2])] [1] (pN 6 hx4 (pc 13 (JJ (nth s0 k0) x2.1 x2.2.1.1 x2.2.1.2 (by omega)) (pN 14 hx4 p0))) ?_;refine eqn [] [] [(1, [.o 1728 ((((Q5 x2.2.1.1 x2.2.1.2)).1).1.1),.o 1729 ((((Q5 x2.2.1.1 x2.2.1.2)).1).1.2.1),.i ((((Q5 x2.2.1.1 x2.2.1.2)).1).1.2.2),.o 1730 ((((Q5 x2.2.1.1 x2.2.1.2)).1).2.1),.o 1731 ((((Q5 x2.2.1.1 x2.2.1.2)).1).2.2),.s x1.2.1.1,.s x1.2.1.2,.i x2.1,.o 2304 (((Z1 [] x2.1 x2.2.1)).1),.o 709 (zT s0 k0 (J5 (nth s0 k0) x2.1 x2.2.1.1 x2.2.1.2)),.o 710 x1.2.2.2.2.2])] [1] (by rw[Ke (y:=(J5 (nth s0 k0) x2.1 x2.2.1.1 x2.2.1.2)) hx4 rfl]<;>kernel_rfl) ?_;refine rn Qa [1,2,3,4,5,7] [1,2,5] (pe 1 (Jl (Qn k0 (by omega))) p0) ?_;exact xw (zT s0 k0 (J5 (nth s0 k0) x2.1 x2.2.1.1 x2.2.1.2)) ⟨Z6 O (Q9 h7 (Q9 h10 (rfl))) U.1,(by first|omega|(simp only[zE];omega)),(by first | exact λj hj=>hA0_0 j (by omega) | exact λj hj=>(Uv _ _ (by omega)).trans (hA0_0 j (by omega)) | exact λj hj=>(Uv _ _ (by omega)).trans (hA0_1 j (by omega)) | exact λj hj=>hA0_1 j (by omega))⟩
   have h10d:=uH h10;refine Qf <| qn Qa [1,2,3,4,5,7] [1,2,5] (pe 1 (Jl (Qn k0 (by omega))) p0) ?_
   exact xw s0 ⟨Z6 O (Q9 h7 (Qj h10 (rfl))) U.1,(by first|omega|(simp only[zE];omega)),(by first | exact λj hj=>hA0_0 j (by omega) | exact λj hj=>(Uv _ _ (by omega)).trans (hA0_0 j (by omega)) | exact λj hj=>(Uv _ _ (by omega)).trans (hA0_1 j (by omega)) | exact λj hj=>hA0_1 j (by omega))⟩
  have h7d:=uH h7;refine Qf <| tu Qa [(69,.b (decide ((0:u)<x2.1)))] [8] [] [] p0 <| ck (decide ((0:u)<x2.1)) (λh11=> ?_) (λh11=> ?_)
  ·have h11d:=uD h11;refine rU Qa Yo [] [69] [(1, [.o 1728 ((((Q5 x2.2.1.1 x2.2.1.2)).1).1.1),.o 1729 ((((Q5 x2.2.1.1 x2.2.1.2)).1).1.2.1),.i ((((Q5 x2.2.1.1 x2.2.1.2)).1).1.2.2),.o 1730 ((((Q5 x2.2.1.1 x2.2.1.2)).1).2.1),.o 1731 ((((Q5 x2.2.1.1 x2.2.1.2)).1).2.2),.s x1.2.1.1,.s x1.2.1.2,.i x2.1,.o 2304 (((Z1 [] x2.1 x2.2.1)).1),.slc (.own X 709) 4 (setRow (eL s0) k0 0 [.i ((J5 (nth s0 k0) x2.1 x2.2.1.1 x2.2.1.2).1),.s ((J5 (nth s0 k0) x2.1 x2.2.1.1 x2.2.1.2).2.1),.h ((J5 (nth s0 k0) x2.1 x2.2.1.1 x2.2.1.2).2.2.1),.h ((J5 (nth s0 k0) x2.1 x2.2.1.1 x2.2.1.2).2.2.2)]),.o 710 x1.2.2.2.2.2])] [1] (pN 6 hx4 (pc 13 (JJ (nth s0 k0) x2.1 x2.2.1.1 x2.2.1.2 (by omega)) (pN 14 hx4 p0))) ?_;refine eqn [] [] [(1, [.o 1728 ((((Q5 x2.2.1.1 x2.2.1.2)).1).1.1),.o 1729 ((((Q5 x2.2.1.1 x2.2.1.2)).1).1.2.1),.i ((((Q5 x2.2.1.1 x2.2.1.2)).1).1.2.2),.o 1730 ((((Q5 x2.2.1.1 x2.2.1.2)).1).2.1),.o 1731 ((((Q5 x2.2.1.1 x2.2.1.2)).1).2.2),.s x1.2.1.1,.s x1.2.1.2,.i x2.1,.o 2304 (((Z1 [] x2.1 x2.2.1)).1),.o 709 (zT s0 k0 (J5 (nth s0 k0) x2.1 x2.2.1.1 x2.2.1.2)),.o 710 x1.2.2.2.2.2])] [1] (by rw[Ke (y:=(J5 (nth s0 k0) x2.1 x2.2.1.1 x2.2.1.2)) hx4 rfl]<;>kernel_rfl) ?_;refine rn Qa [1,2,3,4,5,7] [1,2,5] (pe 1 (Jl (Qn k0 (by omega))) p0) ?_;exact xw (zT s0 k0 (J5 (nth s0 k0) x2.1 x2.2.1.1 x2.2.1.2)) ⟨Z6 O (Qj h7 (Q9 h11 (rfl))) U.1,(by first|omega|(simp only[zE];omega)),(by first | exact λj hj=>hA0_0 j (by omega) | exact λj hj=>(Uv _ _ (by omega)).trans (hA0_0 j (by omega)) | exact λj hj=>(Uv _ _ (by omega)).trans (hA0_1 j (by omega)) | exact λj hj=>hA0_1 j (by omega))⟩
  have h11d:=uH h11;refine Qf <| rn Qa [1,2,3,4,5,7] [1,2,5] (pe 1 (Jl (Qn k0 (by omega))) p0) ?_
  exact xw s0 ⟨Z6 O (Qj h7 (Qj h11 (rfl))) U.1,(by first|omega|(simp only[zE];omega)),(by first | exact λj hj=>hA0_0 j (by omega) | exact λj hj=>(Uv _ _ (by omega)).trans (hA0_0 j (by omega)) | exact λj hj=>(Uv _ _ (by omega)).trans (hA0_1 j (by omega)) | exact λj hj=>hA0_1 j (by omega))⟩
 ·have hA0_0:=U.2.1;have hA0_1:=U.2.2;exact Qb <| su Qa [(44,.b W)] [] [] [] (pl 3 s0 (pe 4 (zC ((k0:u)<(s0.length:u))) p0)) <| ckF <| Q4 <| xw s0 ⟨U6 O (rfl) U.1,by first|omega|(simp only[zE];omega)⟩
 have hD0_0:=hD0.2;exact sn Qa [2,3] [2] p0 <| Qd <| pz [] (show Yd x=_ from L4 hx1 (L4 hx2 (Qj h3 (Vp hD0.1 (rfl))))) (λz=> .tup [(X, [.o 0 z.1.1.1.1,.o 1 z.1.1.1.2.1,.i z.1.1.1.2.2,.o 2 z.1.1.2.1,.o 3 z.1.1.2.2,.s z.1.2.1.1,.s z.1.2.1.2,.i z.1.2.2.1,.o 4 z.1.2.2.2.1,.o 5 z.1.2.2.2.2.1,.o 6 z.1.2.2.2.2.2]),(W, [.b z.2])])
def J8 (x:Jd):G:=(((Yc x)).2&&(((((Yc x)).1).2.2.1==x.2.2.1)&&(B8 (Zo (((Yc x)).1)) (Zo x))))
theorem Lh (x:Jd) (hp:GoD.size x<=536870912) (ha:zS x.2.1.1<=1073741000) (hb:zS x.2.1.2<=1073741000):ACalls Tryz.prog 7 [.a [.h x.1.1.1,.h x.1.1.2.1,.i x.1.1.2.2,.h x.1.2.1,.h x.1.2.2,.s x.2.1.1,.s x.2.1.2,.i x.2.2.1,.h x.2.2.2.1,.h x.2.2.2.2.1,.h x.2.2.2.2.2]] (.b (J8 x)):=by
 refine en Qa Tryz.func7 λw0 F0 hG=> ?_
 refine sn Qa [1,2] [1] p0 <| tn Qa [1,2,3,4] [1,3] (pc 1 (FX x (by assumption) (by assumption) (by assumption)) p0) <| Qb <| mz [(1,.p 1 0),(2,.b W),(3,.p 3 0),(4,.b (((Yc x)).2))] [0] [(1, [.h x.1.1.1,.h x.1.1.2.1,.i x.1.1.2.2,.h x.1.2.1,.h x.1.2.2,.s x.2.1.1,.s x.2.1.2,.i x.2.2.1,.h x.2.2.2.1,.h x.2.2.2.2.1,.h x.2.2.2.2.2]),(3, [.o 448 ((((Yc x)).1).1.1.1),.o 449 ((((Yc x)).1).1.1.2.1),.i ((((Yc x)).1).1.1.2.2),.o 450 ((((Yc x)).1).1.2.1),.o 451 ((((Yc x)).1).1.2.2),.s ((((Yc x)).1).2.1.1),.s ((((Yc x)).1).2.1.2),.i ((((Yc x)).1).2.2.1),.o 452 ((((Yc x)).1).2.2.2.1),.o 453 ((((Yc x)).1).2.2.2.2.1),.o 454 ((((Yc x)).1).2.2.2.2.2)])] [] <| jn [(2,.b (((Yc x)).2&&(((((Yc x)).1).2.2.1==x.2.2.1)&&(B8 (Zo (((Yc x)).1)) (Zo x)))))] [1,2,3,4] [] [1,3] (((Yc x)).2) (λh1=> ?_) (λh1=> ?_) ?_
 ·refine Xx ((((Yc x)).1).2.2.1==x.2.2.1) (λh2=> ?_) (λh2=> ?_)
  ·have h2d:=eq_of_beq h2;refine rN Qa Yo [2] [] (pt 0 h1 (pt 6 h2 (pc 10 (G4 (((Yc x)).1)) (pc 12 (G4 x) (pc 13 (AO (Zo (((Yc x)).1)) (Zo x)) p0))))) ?_;exact zA (by rw[h1,h2]<;>kernel_rfl)
  have h2d:=X0 h2;refine rN Qa Yo [2] [] (pt 0 h1 (pf 6 h2 p0)) ?_;exact zA (by rw[h1,h2]<;>kernel_rfl)
 ·refine rN Qa Yo [2] [] (pf 0 h1 p0) ?_;exact zA (by rw[h1]<;>kernel_rfl)
 exact Qd <| pb [] (show J8 x=(((Yc x)).2&&(((((Yc x)).1).2.2.1==x.2.2.1)&&(B8 (Zo (((Yc x)).1)) (Zo x)))) from rfl)
def W1 (x:Jd):G:=(((Yd x)).2&&(((((Yd x)).1).2.2.1==x.2.2.1)&&(B9 (Zp (((Yd x)).1)) (Zp x))))
theorem Lk (x:Jd) (hp:GoD.size x<=536870912) (ha:zS x.2.1.1<=1073741000) (hb:zS x.2.1.2<=1073741000):ACalls Tryz.prog 5 [.a [.h x.1.1.1,.h x.1.1.2.1,.i x.1.1.2.2,.h x.1.2.1,.h x.1.2.2,.s x.2.1.1,.s x.2.1.2,.i x.2.2.1,.h x.2.2.2.1,.h x.2.2.2.2.1,.h x.2.2.2.2.2]] (.b (W1 x)):=by
 refine en Qa Tryz.func5 λw0 F0 hG=> ?_
 refine sn Qa [1,2] [1] p0 <| tn Qa [1,2,3,4] [1,3] (pc 1 (FY x (by assumption) (by assumption) (by assumption)) p0) <| Qb <| mz [(1,.p 1 0),(2,.b W),(3,.p 3 0),(4,.b (((Yd x)).2))] [0] [(1, [.h x.1.1.1,.h x.1.1.2.1,.i x.1.1.2.2,.h x.1.2.1,.h x.1.2.2,.s x.2.1.1,.s x.2.1.2,.i x.2.2.1,.h x.2.2.2.1,.h x.2.2.2.2.1,.h x.2.2.2.2.2]),(3, [.o 448 ((((Yd x)).1).1.1.1),.o 449 ((((Yd x)).1).1.1.2.1),.i ((((Yd x)).1).1.1.2.2),.o 450 ((((Yd x)).1).1.2.1),.o 451 ((((Yd x)).1).1.2.2),.s ((((Yd x)).1).2.1.1),.s ((((Yd x)).1).2.1.2),.i ((((Yd x)).1).2.2.1),.o 452 ((((Yd x)).1).2.2.2.1),.o 453 ((((Yd x)).1).2.2.2.2.1),.o 454 ((((Yd x)).1).2.2.2.2.2)])] [] <| jn [(2,.b (((Yd x)).2&&(((((Yd x)).1).2.2.1==x.2.2.1)&&(B9 (Zp (((Yd x)).1)) (Zp x)))))] [1,2,3,4] [] [1,3] (((Yd x)).2) (λh1=> ?_) (λh1=> ?_) ?_
 ·refine Xx ((((Yd x)).1).2.2.1==x.2.2.1) (λh2=> ?_) (λh2=> ?_)
  ·have h2d:=eq_of_beq h2;refine rN Qa Yo [2] [] (pt 0 h1 (pt 6 h2 (pc 10 (G5 (((Yd x)).1)) (pc 12 (G5 x) (pc 13 (AP (Zp (((Yd x)).1)) (Zp x)) p0))))) ?_;exact zA (by rw[h1,h2]<;>kernel_rfl)
  have h2d:=X0 h2;refine rN Qa Yo [2] [] (pt 0 h1 (pf 6 h2 p0)) ?_;exact zA (by rw[h1,h2]<;>kernel_rfl)
 ·refine rN Qa Yo [2] [] (pf 0 h1 p0) ?_;exact zA (by rw[h1]<;>kernel_rfl)
 exact Qd <| pb [] (show W1 x=(((Yd x)).2&&(((((Yd x)).1).2.2.1==x.2.2.1)&&(B9 (Zp (((Yd x)).1)) (Zp x)))) from rfl)
theorem Qgk {lines:Y uL} (h:(Xb lines).2=X):Ql (Xb lines).1=X:=by
 rw[Qq5] at h⊢;cases hf:Gy lines ZS with
 | none=>rw[hf] at h;cases h
 | some y=>
   rw[hf] at h;simp only[] at h⊢;cases hv:Ql y with
   | false=>rw[hv] at h;cases h
   | true=>
     rw[hv] at h;cases hd:decide (Q3 y=lines) with
     | false=>rw[hd] at h;cases h
     | true=>exact hv
theorem Qgl {s:uL} (h:(Qr s).2.2=X):Ql (Qr s).2.1=X/\(1<=(Qr s).1/\(Qr s).1<=1000000000):=by
 unfold Qr at h⊢;cases h1:decide (((Qt 10 s).length:u)<(2:u)) with
 | true=>rw[h1] at h;cases h
 | false=>
   rw[h1] at h;have h1:=uH h1;simp only[uI] at h⊢;cases hc:((!((Qg (nth (Qt 10 s) 0)).2))|| ((!(((Xb (zX 1 (zH (yG (((Qt 10 s).length:u)-1)) (Qt 10 s))))).2))|| (!((Wm ((Qg (nth (Qt 10 s) 0)).1) (((Xb (zX 1 (zH (yG (((Qt 10 s).length:u)-1)) (Qt 10 s))))).1)).toList==s.toList)))) with
   | true=>rw[hc] at h;cases h
   | false=>
     obtain ⟨_,c2⟩:=bo hc;obtain ⟨c3,c4⟩:=bo c2;refine ⟨Qgk (bn c3),Classical.byContradiction λhn=> ?_⟩;have hb:=bn c4;have hn:¬(1<=(Qg (nth (Qt 10 s) 0)).1/\(Qg (nth (Qt 10 s) 0)).1<=1000000000):=hn;rw[HI _ hn] at hb;rw[←Dj hb] at h1;exact h1 (by decide)
theorem Qgm {d:Nh} (h:(Y4 d).2.2=X):Ql (Y4 d).2.1=X/\(1<=(Y4 d).1/\(Y4 d).1<=1000000000):=by
 unfold Y4 Yz at h⊢;have s1:=Qgl (s:=d.1);have s2:=Qgl (s:=d.2);generalize Qr d.1=a at h s1⊢;generalize Qr d.2=b at h s2⊢;cases hc:(b.2.2&&((!(a.2.2))|| decide (b.1>a.1))) with
 | true=>
   simp only[Bool.and_eq_true] at hc;exact s2 hc.1
 | false=>
   rw[hc] at h;exact s1 h
theorem Qnf {n:u} {x:Qq} (h:Ql x=X) (hn:1<=n/\n<=1000000000):(Z1 [] n x).1= [((n,x,0):Yn)]:=by
 have e:Q0 n 1 1000000000=X:=K1.2 hn
 have h1:Zb [((n,x,0):Yn)]=X:=by
  unfold Zb;simp only[X4];unfold Ul;rw[e,Fy,h];rfl
 unfold Z1;rw[ZM,HV];show (bif ((!(Zb []))|| (!(Zb [((n,x,0):Yn)]))) then _ else _:(Y Yn)×G).1=_;rw[h1];rfl
theorem Qgn (s:Yk) (d:Y Zj):Q5 s d=Xd s d:=by
 unfold Q5 Xd;rw[UO,ZK,ZL,P6,Te]
theorem Qgo (z:u×Qq×G) (k:T) (a:Z7) (s:Y Z7) (h:GoD.size (nth s k)<=536870912):C6 z k s=H2 z k a s:=by
 unfold C6 H2 Cd;rw[Qgj _ _ _ _ h];cases hl:(((nth s k).2.2.2.length:u)==(0:u)) with
 | true=>
   have e:=eq_of_beq hl;rw[uE (show¬((nth s k).2.2.2.length:u)>0 by omega)];simp only[uJ,uI]
 | false=>
   have e:=ne_of_beq_false hl;rw[uF (show ((nth s k).2.2.2.length:u)>0 by omega)];simp only[uJ,uI]
theorem Qaq {x:Jd} (hp:GoD.size x<=536870912) (z:u×Qq×G):∀(rest:Y Z7) (k:T) (s:Y Z7),x.2.2.2.2.1.drop k=rest->(∀j:T,k<=j->nth s j=nth x.2.2.2.2.1 j)->Ks (C6 z) Mk rest.length k s=X4 (H2 z) Mj rest k s
 | [],k,s,_,_=>rfl
 | a :: rest,k,s,hr,hs=>by
   obtain ⟨hx,hd,hlt⟩:=Gm hr;have hz:=FW hp hlt;rw[←hs k (zY _)] at hz;have hf:=Qgo z k a s hz;rw[zL];simp only[X4];cases hc:H2 z k a s with
   | ret r=>rw[hc] at hf;exact CP hf
   | brk t=>rw[Ks,hf,hc]
   | next s'=>
     rw[hc] at hf;rw[Mc hf];refine Qaq hp z rest (k+1) s' hd λj hj=> ?_
     unfold H2 at hc;cases hq:decide ((Cd (nth s k))<z.1) with
     | true=>
       rw[hq,uJ] at hc;rw[←Rd.next.inj hc,Uv _ _ (by omega)];exact hs j (by omega)
     | false=>
       rw[hq,uI] at hc;rw[←Rd.next.inj hc];exact hs j (by omega)
theorem Qca (x:Jd) (hp:GoD.size x<=536870912):Yd x=Yc x:=by
 unfold Yd Yc lt;dsimp only;rw[CY,N2,Qgd];have hk:=Qgm (d:=x.2.1);generalize Y4 x.2.1=z at hk⊢;cases ho:z.2.2 with
 | false=>rfl
 | true=>
   obtain ⟨hv,hn⟩:=hk ho;simp only[Bool.not_true,uI];rw[Qaq hp z x.2.2.2.2.1 0 x.2.2.2.2.1 rfl λ_ _=>rfl,Qgn,Qnf hv hn]
theorem Qng (x:Jd) (hp:GoD.size x<=536870912):W1 x=J8 x:=by
 unfold W1 J8;rw[Qca x hp,Qjn,CW,CW]
open GoD (rd own)
open GoE (enc wide)
def szI (t:T) (left:u):u:=bif decide ((t:u)<=left) then left-t else-1
theorem Qpk {t:T} {left r:u} (h:szq t left r):r=szI t left:=by
 unfold szq at h;unfold szI;by_cases hc:(t:u)<=left
 . rw[uF hc];simp only[uJ];omega
 rw[uE hc];simp only[uI];omega
theorem Qpl (t:T) (left:u):szI t left<0\/(0<=szI t left/\szI t left=left-t/\(t:u)<=left):=by
 by_cases hc:(t:u)<=left
 . have:szI t left=left-t:=by unfold szI;rw[uF hc];rfl
   omega
 have:szI t left= -1:=by unfold szI;rw[uE hc];rfl
 omega
theorem Qpm (t:T) {left:u} (h0:0<=left) (h1:left<=1048576):InR .i64 (szI t left):=by
 rw[So];unfold I64;by_cases hc:(t:u)<=left
 . have:szI t left=left-t:=by unfold szI;rw[uF hc];rfl
   omega
 have:szI t left= -1:=by unfold szI;rw[uE hc];rfl
 omega
section
variable {α:Type} [GoE α] {P:uK} {f:T}
theorem Qnh {F:T->Prop} {w:K} {v:H} {a:α} (h:AR (GE F) w v (H9 a)):∃cs:Y H,v= .agg cs.toArray/\rd w cs a:=by
 obtain ⟨vs,rfl,hr⟩:=h;exact ⟨vs,rfl,GoE.vc_rd (Qof hr λ_=>GoE.no_any)⟩
theorem Qgp {F:T->Prop} {w w':K} {v:H} {r:AV} (hb:Below w.heap.size w w') (hr:∀J,AR J w' v r):Qhs F w r (.returned v) w':=
 ⟨v,λ_=> [],rfl,hb,λ_=>List.nodup_nil,(λ_ _ h=>by simp at h),(λ_ _ _ h=>by simp at h),hr _⟩
theorem Qcb (hok:F9 P f) {a:α} {left:u} (h0:0<=left) (h1:left<=1048576) (h:∀w (cs:Y H),rd w cs a->Calls P f #[.agg cs.toArray,.int .i64 left] w (Fe w (GoD.size a) left)):ACalls P f [H9 a,Qpz left] (Qpz (szI (GoD.size a) left)):=by
 refine ⟨hok,λw _ F vals hF hall=> ?_⟩;cases hall with
 | cons h2 h3=>cases h3 with
   | cons h3 h4=>
     cases h4
     obtain ⟨cs,rfl,hr⟩:=Qnh h2;obtain ⟨rfl,_⟩:=h3;refine (h w cs hr).mono ?_
     rintro e w' ⟨r,rfl,hq,hb⟩
     exact Qgp hb λJ=>⟨by rw[Qpk hq],Qpm _ h0 h1⟩
end
section
variable {α:Type} [GoE α] {P:uK} {f:T}
end
section
variable {P:uK} {N:T} {w0:Base} {F0:T->Prop} {J:Inj} {a:Act} {w w':K} {s:St}
theorem Rel.mark (h:Rel N w0 F0 J a w s) (ks:Y T) {L:Y T} (hL:∀b,b∈L->∃k,k∈ks/\b∈J.L k) (hc:Chg L w w') (d:T) (hd:d<N) (n:u) (hn:InR .i64 n) (bx:Option (T×Y C))
 (hb:∀k c,bx=S (k,c)->∃c0,get s.bx k=S c0/\∃arr e,w.heap[J.B k]? =S (.cells arr e (0,0))/\∀J':Inj,(∀b,J'.F b↔J.F b\/b∈L)->All2 (CR J' w') arr.toList c):
 ∃J',(∀b,J'.F b↔J.F b\/b∈L)/\(∀k,J'.B k=J.B k)/\Rel N w0 F0 J' (a.put (S d) (.int .i64 n)) w' (s.step (S d) ⟨.one (.int .i64 n),Va ks,I,bx⟩):=by
 let J':Inj:=⟨λb=>J.F b\/b∈L,λk=>if k∈ks then [] else J.L k,J.B⟩
 have hlo:∀b,b∈L->w0.lo (b)/\b<w.heap.size/\¬J.F b:=λb hb=>by
  obtain ⟨k,_,hm⟩:=hL b hb;exact h.lo k b hm
 have hun:∀b,b<w.heap.size->b∉L->w'.heap[b]? =w.heap[b]? :=hc.block
 have hJL:∀k b,b∈J'.L k->k∉ks/\b∈J.L k:=λk b hm=>by
  have hm:b∈(if k∈ks then [] else J.L k):=hm;split at hm
  . simp at hm
  rename_i hk;exact ⟨hk,hm⟩
 have hout:∀k b,k∉ks->b∈J.L k->b∉L:=λk b hk hm hl=>by
  obtain ⟨k',hk',hm'⟩:=hL b hl;exact hk (h.dj k k' b hm hm'▸hk')
 have hboxL:∀k c,get s.bx k=S c->J.B k∉L:=λk c hk hl=>by
  obtain ⟨k',_,hm⟩:=hL _ hl;exact (h.bo k c hk).2.2.1 k' hm
 refine ⟨J',λb=>Iff.rfl,λ_=>rfl, ?_⟩;refine h.upd (w':=w') (J':=J') (S d) (λd' e=>by cases e;exact hd) _ _ (h.below.step hc.os hc.tape hc.output hc.size λb hb hnl=>hun b hb λhl=>hnl (hlo b hl).1) ?_ ?_ (λ_=>⟨rfl,hn⟩) ?_ ?_
 . constructor
   . exact λb hb=>⟨.inl hb,hun b (h.fl b hb).1 λhl=>(hlo b hl).2.2 hb⟩
   . intro k hk;rw[Ai] at hk;split at hk
     . cases hk
     rename_i hn;exact ⟨uC hn,λb hb=>hun b (h.lo k b hb).2.1 (hout k b hn hb)⟩
   . intro k hk;rw[Ai] at hk;split at hk<;>cases hk
   . intro k k' hk;rw[Ai] at hk;split at hk<;>cases hk
   . intro k t hk;rw[Ai] at hk;split at hk<;>cases hk
   . exact λ_ _=>rfl
   intro k d m i o cs hk;rw[Ai] at hk;split at hk<;>cases hk
 . constructor
   . intro b hb;rcases hb with hb | hb
     . exact ⟨yA (h.fl b hb).1 hc.size,(h.fl b hb).2⟩
     exact ⟨yA (hlo b hb).2.1 hc.size,.inr (hlo b hb).1⟩
   . exact λb hb=> .inl (h.f0 b hb)
   . intro k;show (if _ then _ else _:Y T).Nodup;split
     . exact List.nodup_nil
     exact h.nd k
   . intro k b hm;obtain ⟨hk,hm⟩:=hJL k b hm;obtain ⟨h1,h2,h3⟩:=h.lo k b hm;exact ⟨h1,yA h2 hc.size,λhF=>hF.elim h3 (hout k b hk hm)⟩
   intro k k' b hm hm';exact h.dj k k' b (hJL k b hm).2 (hJL k' b hm').2
 . intro k c hk _;obtain ⟨h1,h2,h3,arr,e,h4,_⟩:=h.bo k c hk;refine ⟨by simp,λhF=>hF.elim h2 (hboxL k c hk),λk' hm=>h3 k' (hJL k' _ hm).2,hun _ ?_ (hboxL k c hk)⟩;exact Xe h4
 intro k c hk;obtain ⟨c0,hg,arr,e,hh,hall⟩:=hb k c hk;obtain ⟨h1,h2,h3,arr',e',h4,_⟩:=h.bo k c0 hg;have hlt:J.B k<w.heap.size:=Xe h4;exact ⟨h1,λhF=>hF.elim h2 (hboxL k c0 hg),λk' hm=>h3 k' (hJL k' _ hm).2,⟨arr,e,(hun _ hlt (hboxL k c0 hg)).trans hh,hall J' λ_=>Iff.rfl⟩,λk' c' hk' hne e=>hne (h.bi k' k c' c0 hk' hg e)⟩
end
class GoM (α:Type) [GoE α]:Prop where
 mkw:∀{a:α} {k:T},wide a->wide (GoD.mark a k).1
 mkT:∀{a:α} {k:T},wide a->wide (GoD.markT a k).1
instance:GoM u:=⟨λ_=>trivial,λ_=>trivial⟩
instance:GoM G:=⟨λ_=>trivial,λ_=>trivial⟩
instance:GoM uL:=⟨λ_=>trivial,λ_=>trivial⟩
instance {α β:Type} [GoE α] [GoE β] [GoM α] [GoM β]:GoM (α×β):=⟨λh=>⟨GoM.mkw h.1,GoM.mkw h.2⟩,λh=>⟨GoM.mkT h.1,GoM.mkT h.2⟩⟩
theorem ZQ {α:Type} [GoE α] [GoM α]:∀{l:Y α} {k:T},(∀a,a∈l->wide a)->∀a,a∈(Sm l k).1->wide a
 | [],k,_,a,ha=>by simp[Sm] at ha
 | x::l,k,h,a,ha=>by
   simp only[Sm,zV] at ha;rcases ha with rfl | ha
   . exact GoM.mkw (h x List.mem_cons_self)
   exact ZQ (λa ha=>h a (List.mem_cons_of_mem _ ha)) a ha
instance {α:Type} [GoE α] [GoM α]:GoM (Y α):=⟨λ{l k} h=>⟨by rw[show (GoD.mark l k).1=(Sm l k).1 from rfl,T1];exact h.1,ZQ h.2⟩,λ{l k} h=>⟨by rw[show (GoD.markT l k).1=(Sm l k).1 from rfl,T1];exact h.1,ZQ h.2⟩⟩
section
variable {P:uK} {N:T} {w0:Base} {F0:T->Prop} {s s':St} {Q:Exit->St->Prop}
end
end
section
open Go.RowKit
open GoD (rd own)
set_option maxRecDepth 100000
set_option maxHeartbeats 1000000
theorem cBz {w v:K} {a:Addr} {x:H} (hB:Below w.heap.size w v) (h:w.cell? a=S x):v.cell? a=S x:=(hB.cell (World.block_lt_of_cell? w _ h)).trans h
theorem zSz:(∀(w:K) o,(w.alloc o).heap.size=w.heap.size+1)/\(∀(w:K) a v,(w.setCell a v).heap.size=w.heap.size)/\∀w:K,w.drew.heap.size=w.heap.size:=⟨λ_ _=>World.size_alloc ..,λ_ _ _=>World.size_setCell ..,λ_=>rfl⟩
abbrev zI {α:Type} [GoD α] (l:Y α) (left:u) (w:K) (q i:H) (wr:K):Prop:=∃(k:T) (r:u),k<=l.length/\i= .int .i64 k/\q= .int .i64 r/\0<=r/\r<=1048576/\Hid (r=left-l.length-((l.take k).map GoD.size).sum)/\Below w.heap.size w wr
theorem Qgq (w:K) (ca:Y H) (a:Y7) (left:u) (ha:rd w ca a) (h0:0<=left) (h1:left<=1048576):Calls Tryz.prog 113 #[.agg ca.toArray,.int .i64 left] w (Fe w (GoD.size a) left):=by
 obtain ⟨a1,a2⟩:=a;obtain ⟨ac1,at1,rfl,ar1,ar2⟩:=ha;obtain ⟨rfl,ar1⟩:=ar1;obtain ⟨rfl,ar2⟩:=ar2;dsimp only[zJ,zG] at*;unfold uA at ar1;have ar1:a1.size<=9223372036854775807:=by omega
 clear ar2;have hsz:GoD.size (a1,a2)=(a1.size+0):=rfl;have HSZ:=Lib.hid hsz;clear hsz;go_enter Tryz.func113,Tryz.ntmps113
 go_wp2
 all_goals
  go_ret
  refine ⟨_,rfl, ?_,by go_grown⟩;rw[HSZ.out];unfold szq
  (try unfold szq at*)
  go_light
  omega
theorem Qcc (w:K) (v:H) (l:Y Y7) (left:u) (ha:rd w [v] l) (h0:0<=left) (h1:left<=1048576):Calls Tryz.prog 62 #[v,.int .i64 left] w (Fe w (GoD.size l) left):=by
 obtain ⟨oa,cap,e1,hl,hm,hel⟩:=ha;obtain rfl:v=_:=by simpa using e1
 clear e1;have HE:=Lib.hid hel;clear hel;unfold uA at hm;have hlm:l.length<=9223372036854775807:=by omega
 have hsz:GoD.size l=l.length+(l.map GoD.size).sum:=rfl;have HSZ:=Lib.hid hsz;clear hsz;by_cases hneg:left-l.length<0
 . go_enter Tryz.func62,Tryz.ntmps62
   go_wp2
   go_ret
   refine ⟨_,rfl, ?_,Below.refl _ _⟩;rw[HSZ.out];unfold szq;omega
 go_enter Tryz.func62,Tryz.ntmps62
 go_wp2
 go_loopw [1,5] (zI l left w) (λ_ i _=>l.length-(intOf i).toNat)
 case atStart=>exact ⟨0,_,zU _,rfl,rfl,by omega,by omega,by show _=_;simp,Below.refl _ _⟩
 case round=>
  obtain ⟨k,r,hk,rfl,rfl,hr0,hr1,HR,hB⟩:=hrel;by_cases hkl:k<l.length
  . have hx:=zK hkl;obtain ⟨eb,eo,ee,rfl,hcl,hcc,hxr⟩:=HE.out k _ hx;have HT:=Lib.hid (Ft hx);have HU:=Lib.hid (Hv hx);clear hx;generalize l[k]=x at*;obtain ⟨x0,x1,rfl⟩:=BU (show _=2 from hcl);have p0:wr.cell? ⟨eb,eo+k*2,I⟩=S x0:=cBz hB (hcc 0 _ rfl);have p1:wr.cell? ⟨eb,eo+k*2+1,I⟩=S x1:=cBz hB (hcc 1 _ rfl);have HXR:=Lib.hid hxr;clear hxr hcc hcl;go_wp2_with (go_at_call 113;refine K9 (w:=w) (Qgq _ [x0,x1] x _ (Jb HXR.out hB) (by omega) (by omega)) (by go_grown) ?_;intro w2 r2 hB2 hb hz hz2 hr2 hs;have HR2:=Lib.hid hr2;clear hr2 hb)
    . go_ret
      refine ⟨_,rfl, ?_,by go_grown⟩;have u1:=HU.out;have u2:=HR2.out;have u3:=HR.out;rw[HSZ.out];unfold szq at*;go_light
      omega
    go_roundw
    case rel=>exact ⟨k+1,_,by omega,by go_num,rfl,by omega,by omega,by
    show _=_;have u1:=HT.out;have u2:=HR2.out;have u3:=HR.out;unfold szq at*;rw[u1];omega,by go_grown⟩
    case measure=>simp[intOf];omega
  obtain rfl:k=l.length:=by omega
  go_wp2
  go_ret
  refine ⟨_,rfl, ?_,hB⟩;have u3:=HR.out;rw[zO] at u3;rw[HSZ.out];unfold szq;omega
theorem ND (w:K) (ca:Y H) (a:K4) (left:u) (ha:rd w ca a) (h0:0<=left) (h1:left<=1048576):Calls Tryz.prog 213 #[.agg ca.toArray,.int .i64 left] w (Fe w (GoD.size a) left):=by
 obtain ⟨a1,a2,a3⟩:=a;obtain ⟨ac1,at1,rfl,ar1,ac2,at2,rfl,ar2,ar3⟩:=ha;obtain ⟨rfl,ar1⟩:=ar1;obtain ⟨rfl,ar2⟩:=ar2;obtain ⟨rfl,ar3⟩:=ar3;dsimp only[zJ,zG] at*;clear ar1;clear ar2;unfold uA at ar3;have ar3:a3.size<=9223372036854775807:=by omega
 have hsz:GoD.size (a1,a2,a3)=(0+(0+a3.size)):=rfl;have HSZ:=Lib.hid hsz;clear hsz;go_enter Tryz.func213,Tryz.ntmps213
 go_wp2
 all_goals
  go_ret
  refine ⟨_,rfl, ?_,by go_grown⟩;rw[HSZ.out];unfold szq
  (try unfold szq at*)
  go_light
  omega
theorem Qjo (w:K) (ca:Y H) (a:Ui) (left:u) (ha:rd w ca a) (h0:0<=left) (h1:left<=1048576):Calls Tryz.prog 212 #[.agg ca.toArray,.int .i64 left] w (Fe w (GoD.size a) left):=by
 obtain ⟨a1,a2⟩:=a;obtain ⟨ac1,at1,rfl,ar1,ar2⟩:=ha;obtain ⟨rfl,ar1⟩:=ar1;obtain ⟨ax2_0,ax2_1,ax2_2,rfl⟩:=Qoo (show _=3 from GoD.rd_len ar2);dsimp only[zJ,zG] at*;unfold uA at ar1;have ar1:a1.size<=9223372036854775807:=by omega
 have AR2H:=Lib.hid ar2;clear ar2;have tok1:True:=trivial;have hsz:GoD.size (a1,a2)=(a1.size+GoD.size a2):=rfl;have HSZ:=Lib.hid hsz;clear hsz;go_enter Tryz.func212,Tryz.ntmps212
 go_wp2_with (first | (go_at_call 213;have tk:=tok1;clear tok1;refine K9 (w:=w) (ND _ [ax2_0,ax2_1,ax2_2] a2 _ (Jb AR2H.out (by go_grown)) (by omega) (by omega)) (by go_grown) ?_;intro w1 r1 hB hb hz hz2 hr hs;have HR1:=Lib.hid hr;clear hr;(try simp only[zSz] at hz2);have c0:=λo=>Ir hb (w.heap.size) o (by go_size);clear hb))
 all_goals
  go_ret
  refine ⟨_,rfl, ?_,by go_grown⟩;rw[HSZ.out];unfold szq
  (try have u1:=HR1.out)
  (try unfold szq at*)
  go_light
  omega
theorem Qgr (w:K) (v:H) (l:Y Ui) (left:u) (ha:rd w [v] l) (h0:0<=left) (h1:left<=1048576):Calls Tryz.prog 162 #[v,.int .i64 left] w (Fe w (GoD.size l) left):=by
 obtain ⟨oa,cap,e1,hl,hm,hel⟩:=ha;obtain rfl:v=_:=by simpa using e1
 clear e1;have HE:=Lib.hid hel;clear hel;unfold uA at hm;have hlm:l.length<=9223372036854775807:=by omega
 have hsz:GoD.size l=l.length+(l.map GoD.size).sum:=rfl;have HSZ:=Lib.hid hsz;clear hsz;by_cases hneg:left-l.length<0
 . go_enter Tryz.func162,Tryz.ntmps162
   go_wp2
   go_ret
   refine ⟨_,rfl, ?_,Below.refl _ _⟩;rw[HSZ.out];unfold szq;omega
 go_enter Tryz.func162,Tryz.ntmps162
 go_wp2
 go_loopw [1,5] (zI l left w) (λ_ i _=>l.length-(intOf i).toNat)
 case atStart=>exact ⟨0,_,zU _,rfl,rfl,by omega,by omega,by show _=_;simp,Below.refl _ _⟩
 case round=>
  obtain ⟨k,r,hk,rfl,rfl,hr0,hr1,HR,hB⟩:=hrel;by_cases hkl:k<l.length
  . have hx:=zK hkl;obtain ⟨eb,eo,ee,rfl,hcl,hcc,hxr⟩:=HE.out k _ hx;have HT:=Lib.hid (Ft hx);have HU:=Lib.hid (Hv hx);clear hx;generalize l[k]=x at*;obtain ⟨x0,x1,x2,x3,rfl⟩:=Qqi (show _=4 from hcl);have p0:wr.cell? ⟨eb,eo+k*4,I⟩=S x0:=cBz hB (hcc 0 _ rfl);have p1:wr.cell? ⟨eb,eo+k*4+1,I⟩=S x1:=cBz hB (hcc 1 _ rfl);have p2:wr.cell? ⟨eb,eo+k*4+2,I⟩=S x2:=cBz hB (hcc 2 _ rfl);have p3:wr.cell? ⟨eb,eo+k*4+3,I⟩=S x3:=cBz hB (hcc 3 _ rfl);have HXR:=Lib.hid hxr;clear hxr hcc hcl;go_wp2_with (go_at_call 212;refine K9 (w:=w) (Qjo _ [x0,x1,x2,x3] x _ (Jb HXR.out hB) (by omega) (by omega)) (by go_grown) ?_;intro w2 r2 hB2 hb hz hz2 hr2 hs;have HR2:=Lib.hid hr2;clear hr2 hb)
    . go_ret
      refine ⟨_,rfl, ?_,by go_grown⟩;have u1:=HU.out;have u2:=HR2.out;have u3:=HR.out;rw[HSZ.out];unfold szq at*;go_light
      omega
    go_roundw
    case rel=>exact ⟨k+1,_,by omega,by go_num,rfl,by omega,by omega,by
    show _=_;have u1:=HT.out;have u2:=HR2.out;have u3:=HR.out;unfold szq at*;rw[u1];omega,by go_grown⟩
    case measure=>simp[intOf];omega
  obtain rfl:k=l.length:=by omega
  go_wp2
  go_ret
  refine ⟨_,rfl, ?_,hB⟩;have u3:=HR.out;rw[zO] at u3;rw[HSZ.out];unfold szq;omega
theorem Qjp (w:K) (ca:Y H) (a:Yj) (left:u) (ha:rd w ca a) (h0:0<=left) (h1:left<=1048576):Calls Tryz.prog 114 #[.agg ca.toArray,.int .i64 left] w (Fe w (GoD.size a) left):=by
 obtain ⟨a1,a2,a3,a4,a5⟩:=a;obtain ⟨ac1,at1,rfl,ar1,ac2,at2,rfl,ar2,ac3,at3,rfl,ar3,ac4,at4,rfl,ar4,ar5⟩:=ha;obtain ⟨rfl,ar1⟩:=ar1;obtain ⟨rfl,ar2⟩:=ar2;obtain rfl:=ar3;obtain ⟨rfl,ar4⟩:=ar4;obtain ⟨ax5_0,rfl⟩:=Mq (show _=1 from GoD.rd_len ar5);dsimp only[zJ,zG] at*;clear ar1;clear ar2;clear ar4;have AR5H:=Lib.hid ar5;clear ar5;have tok1:True:=trivial;have hsz:GoD.size (a1,a2,a3,a4,a5)=(0+(0+(0+(0+GoD.size a5)))):=rfl;have HSZ:=Lib.hid hsz;clear hsz;go_enter Tryz.func114,Tryz.ntmps114
 go_wp2_with (first | (go_at_call 162;have tk:=tok1;clear tok1;refine K9 (w:=w) (Qgr _ ax5_0 a5 _ (Jb AR5H.out (by go_grown)) (by omega) (by omega)) (by go_grown) ?_;intro w1 r1 hB hb hz hz2 hr hs;have HR1:=Lib.hid hr;clear hr;(try simp only[zSz] at hz2);have c0:=λo=>Ir hb (w.heap.size) o (by go_size);clear hb))
 all_goals
  go_ret
  refine ⟨_,rfl, ?_,by go_grown⟩;rw[HSZ.out];unfold szq
  (try have u1:=HR1.out)
  (try unfold szq at*)
  go_light
  omega
theorem XO (w:K) (v:H) (l:Y u) (left:u) (ha:rd w [v] l) (h0:0<=left) (h1:left<=1048576):Calls Tryz.prog 13 #[v,.int .i64 left] w (Fe w (GoD.size l) left):=by
 obtain ⟨oa,cap,e1,hl,hm,hel⟩:=ha;obtain rfl:v=_:=by simpa using e1
 clear e1;have HE:=Lib.hid hel;clear hel;unfold uA at hm;have hlm:l.length<=9223372036854775807:=by omega
 have hsz:GoD.size l=l.length+(l.map GoD.size).sum:=rfl;have HSZ:=Lib.hid hsz;clear hsz;have hz0:(l.map GoD.size).sum=0:=RX l (λ_=>rfl);have HZ0:=Lib.hid hz0;clear hz0;go_enter Tryz.func13,Tryz.ntmps13
 go_wp2
 all_goals
  go_ret
  refine ⟨_,rfl, ?_,by go_grown⟩;rw[HSZ.out,HZ0.out];unfold szq;go_light
  omega
theorem Qcd (w:K) (ca:Y H) (a:Qp) (left:u) (ha:rd w ca a) (h0:0<=left) (h1:left<=1048576):Calls Tryz.prog 65 #[.agg ca.toArray,.int .i64 left] w (Fe w (GoD.size a) left):=by
 obtain ⟨a1,a2⟩:=a;obtain ⟨ac1,at1,rfl,ar1,ar2⟩:=ha;obtain ⟨rfl,ar1⟩:=ar1;obtain ⟨ax2_0,rfl⟩:=Mq (show _=1 from GoD.rd_len ar2);dsimp only[zJ,zG] at*;unfold uA at ar1;have ar1:a1.size<=9223372036854775807:=by omega
 have AR2H:=Lib.hid ar2;clear ar2;have tok1:True:=trivial;have hsz:GoD.size (a1,a2)=(a1.size+GoD.size a2):=rfl;have HSZ:=Lib.hid hsz;clear hsz;go_enter Tryz.func65,Tryz.ntmps65
 go_wp2_with (first | (go_at_call 13;have tk:=tok1;clear tok1;refine K9 (w:=w) (XO _ ax2_0 a2 _ (Jb AR2H.out (by go_grown)) (by omega) (by omega)) (by go_grown) ?_;intro w1 r1 hB hb hz hz2 hr hs;have HR1:=Lib.hid hr;clear hr;(try simp only[zSz] at hz2);have c0:=λo=>Ir hb (w.heap.size) o (by go_size);clear hb))
 all_goals
  go_ret
  refine ⟨_,rfl, ?_,by go_grown⟩;rw[HSZ.out];unfold szq
  (try have u1:=HR1.out)
  (try unfold szq at*)
  go_light
  omega
theorem RM (w:K) (v:H) (l:Y Qp) (left:u) (ha:rd w [v] l) (h0:0<=left) (h1:left<=1048576):Calls Tryz.prog 32 #[v,.int .i64 left] w (Fe w (GoD.size l) left):=by
 obtain ⟨oa,cap,e1,hl,hm,hel⟩:=ha;obtain rfl:v=_:=by simpa using e1
 clear e1;have HE:=Lib.hid hel;clear hel;unfold uA at hm;have hlm:l.length<=9223372036854775807:=by omega
 have hsz:GoD.size l=l.length+(l.map GoD.size).sum:=rfl;have HSZ:=Lib.hid hsz;clear hsz;by_cases hneg:left-l.length<0
 . go_enter Tryz.func32,Tryz.ntmps32
   go_wp2
   go_ret
   refine ⟨_,rfl, ?_,Below.refl _ _⟩;rw[HSZ.out];unfold szq;omega
 go_enter Tryz.func32,Tryz.ntmps32
 go_wp2
 go_loopw [1,5] (zI l left w) (λ_ i _=>l.length-(intOf i).toNat)
 case atStart=>exact ⟨0,_,zU _,rfl,rfl,by omega,by omega,by show _=_;simp,Below.refl _ _⟩
 case round=>
  obtain ⟨k,r,hk,rfl,rfl,hr0,hr1,HR,hB⟩:=hrel;by_cases hkl:k<l.length
  . have hx:=zK hkl;obtain ⟨eb,eo,ee,rfl,hcl,hcc,hxr⟩:=HE.out k _ hx;have HT:=Lib.hid (Ft hx);have HU:=Lib.hid (Hv hx);clear hx;generalize l[k]=x at*;obtain ⟨x0,x1,rfl⟩:=BU (show _=2 from hcl);have p0:wr.cell? ⟨eb,eo+k*2,I⟩=S x0:=cBz hB (hcc 0 _ rfl);have p1:wr.cell? ⟨eb,eo+k*2+1,I⟩=S x1:=cBz hB (hcc 1 _ rfl);have HXR:=Lib.hid hxr;clear hxr hcc hcl;go_wp2_with (go_at_call 65;refine K9 (w:=w) (Qcd _ [x0,x1] x _ (Jb HXR.out hB) (by omega) (by omega)) (by go_grown) ?_;intro w2 r2 hB2 hb hz hz2 hr2 hs;have HR2:=Lib.hid hr2;clear hr2 hb)
    . go_ret
      refine ⟨_,rfl, ?_,by go_grown⟩;have u1:=HU.out;have u2:=HR2.out;have u3:=HR.out;rw[HSZ.out];unfold szq at*;go_light
      omega
    go_roundw
    case rel=>exact ⟨k+1,_,by omega,by go_num,rfl,by omega,by omega,by
    show _=_;have u1:=HT.out;have u2:=HR2.out;have u3:=HR.out;unfold szq at*;rw[u1];omega,by go_grown⟩
    case measure=>simp[intOf];omega
  obtain rfl:k=l.length:=by omega
  go_wp2
  go_ret
  refine ⟨_,rfl, ?_,hB⟩;have u3:=HR.out;rw[zO] at u3;rw[HSZ.out];unfold szq;omega
theorem Qgs (w:K) (v:H) (l:Y Yj) (left:u) (ha:rd w [v] l) (h0:0<=left) (h1:left<=1048576):Calls Tryz.prog 63 #[v,.int .i64 left] w (Fe w (GoD.size l) left):=by
 obtain ⟨oa,cap,e1,hl,hm,hel⟩:=ha;obtain rfl:v=_:=by simpa using e1
 clear e1;have HE:=Lib.hid hel;clear hel;unfold uA at hm;have hlm:l.length<=9223372036854775807:=by omega
 have hsz:GoD.size l=l.length+(l.map GoD.size).sum:=rfl;have HSZ:=Lib.hid hsz;clear hsz;by_cases hneg:left-l.length<0
 . go_enter Tryz.func63,Tryz.ntmps63
   go_wp2
   go_ret
   refine ⟨_,rfl, ?_,Below.refl _ _⟩;rw[HSZ.out];unfold szq;omega
 go_enter Tryz.func63,Tryz.ntmps63
 go_wp2
 go_loopw [1,5] (zI l left w) (λ_ i _=>l.length-(intOf i).toNat)
 case atStart=>exact ⟨0,_,zU _,rfl,rfl,by omega,by omega,by show _=_;simp,Below.refl _ _⟩
 case round=>
  obtain ⟨k,r,hk,rfl,rfl,hr0,hr1,HR,hB⟩:=hrel;by_cases hkl:k<l.length
  . have hx:=zK hkl;obtain ⟨eb,eo,ee,rfl,hcl,hcc,hxr⟩:=HE.out k _ hx;have HT:=Lib.hid (Ft hx);have HU:=Lib.hid (Hv hx);clear hx;generalize l[k]=x at*;obtain ⟨x0,x1,x2,x3,x4,rfl⟩:=Qq0 (show _=5 from hcl);have p0:wr.cell? ⟨eb,eo+k*5,I⟩=S x0:=cBz hB (hcc 0 _ rfl);have p1:wr.cell? ⟨eb,eo+k*5+1,I⟩=S x1:=cBz hB (hcc 1 _ rfl);have p2:wr.cell? ⟨eb,eo+k*5+2,I⟩=S x2:=cBz hB (hcc 2 _ rfl);have p3:wr.cell? ⟨eb,eo+k*5+3,I⟩=S x3:=cBz hB (hcc 3 _ rfl);have p4:wr.cell? ⟨eb,eo+k*5+4,I⟩=S x4:=cBz hB (hcc 4 _ rfl);have HXR:=Lib.hid hxr;clear hxr hcc hcl;go_wp2_with (go_at_call 114;refine K9 (w:=w) (Qjp _ [x0,x1,x2,x3,x4] x _ (Jb HXR.out hB) (by omega) (by omega)) (by go_grown) ?_;intro w2 r2 hB2 hb hz hz2 hr2 hs;have HR2:=Lib.hid hr2;clear hr2 hb)
    . go_ret
      refine ⟨_,rfl, ?_,by go_grown⟩;have u1:=HU.out;have u2:=HR2.out;have u3:=HR.out;rw[HSZ.out];unfold szq at*;go_light
      omega
    go_roundw
    case rel=>exact ⟨k+1,_,by omega,by go_num,rfl,by omega,by omega,by
    show _=_;have u1:=HT.out;have u2:=HR2.out;have u3:=HR.out;unfold szq at*;rw[u1];omega,by go_grown⟩
    case measure=>simp[intOf];omega
  obtain rfl:k=l.length:=by omega
  go_wp2
  go_ret
  refine ⟨_,rfl, ?_,hB⟩;have u3:=HR.out;rw[zO] at u3;rw[HSZ.out];unfold szq;omega
theorem NE (w:K) (ca:Y H) (a:Yk) (left:u) (ha:rd w ca a) (h0:0<=left) (h1:left<=1048576):Calls Tryz.prog 30 #[.agg ca.toArray,.int .i64 left] w (Fe w (GoD.size a) left):=by
 obtain ⟨a1,a2,a3⟩:=a;obtain ⟨ac1,at1,rfl,ar1,ac2,at2,rfl,ar2,ar3⟩:=ha;obtain ⟨ax1_0,rfl⟩:=Mq (show _=1 from GoD.rd_len ar1);obtain ⟨ax2_0,rfl⟩:=Mq (show _=1 from GoD.rd_len ar2);obtain ⟨rfl,ar3⟩:=ar3;dsimp only[zJ,zG] at*;have AR1H:=Lib.hid ar1;clear ar1;have AR2H:=Lib.hid ar2;clear ar2;clear ar3;have tok1:True:=trivial;have tok2:True:=trivial;have hsz:GoD.size (a1,a2,a3)=(GoD.size a1+(GoD.size a2+0)):=rfl;have HSZ:=Lib.hid hsz;clear hsz;go_enter Tryz.func30,Tryz.ntmps30
 go_wp2_with (first | (go_at_call 62;have tk:=tok1;clear tok1;refine K9 (w:=w) (Qcc _ ax1_0 a1 _ (Jb AR1H.out (by go_grown)) (by omega) (by omega)) (by go_grown) ?_;intro w1 r1 hB hb hz hz2 hr hs;have HR1:=Lib.hid hr;clear hr;(try simp only[zSz] at hz2);have c0:=λo=>Ir hb (w.heap.size) o (by go_size);clear hb) | (go_at_call 63;have tk:=tok2;clear tok2;refine K9 (w:=w) (Qgs _ ax2_0 a2 _ (Jb AR2H.out (by go_grown)) (by omega) (by omega)) (by go_grown) ?_;intro w2 r2 hB hb hz hz2 hr hs;have HR2:=Lib.hid hr;clear hr;(try simp only[zSz] at hz2);have c0:=λo=>Ir hb (w.heap.size) o (by go_size);clear hb))
 all_goals
  go_ret
  refine ⟨_,rfl, ?_,by go_grown⟩;rw[HSZ.out];unfold szq
  (try have u1:=HR1.out)
  (try have u2:=HR2.out)
  (try unfold szq at*)
  go_light
  omega
theorem Qgt (w:K) (ca:Y H) (a:K5) (left:u) (ha:rd w ca a) (h0:0<=left) (h1:left<=1048576):Calls Tryz.prog 116 #[.agg ca.toArray,.int .i64 left] w (Fe w (GoD.size a) left):=by
 obtain ⟨a1,a2,a3⟩:=a;obtain ⟨ac1,at1,rfl,ar1,ac2,at2,rfl,ar2,ar3⟩:=ha;obtain ⟨rfl,ar1⟩:=ar1;obtain ⟨ax2_0,rfl⟩:=Mq (show _=1 from GoD.rd_len ar2);obtain ⟨ax3_0,rfl⟩:=Mq (show _=1 from GoD.rd_len ar3);dsimp only[zJ,zG] at*;clear ar1;have AR2H:=Lib.hid ar2;clear ar2;have AR3H:=Lib.hid ar3;clear ar3;have tok1:True:=trivial;have tok2:True:=trivial;have hsz:GoD.size (a1,a2,a3)=(0+(GoD.size a2+GoD.size a3)):=rfl;have HSZ:=Lib.hid hsz;clear hsz;go_enter Tryz.func116,Tryz.ntmps116
 go_wp2_with (first | (go_at_call 13;have tk:=tok1;clear tok1;refine K9 (w:=w) (XO _ ax2_0 a2 _ (Jb AR2H.out (by go_grown)) (by omega) (by omega)) (by go_grown) ?_;intro w1 r1 hB hb hz hz2 hr hs;have HR1:=Lib.hid hr;clear hr;(try simp only[zSz] at hz2);have c0:=λo=>Ir hb (w.heap.size) o (by go_size);clear hb) | (go_at_call 13;have tk:=tok2;clear tok2;refine K9 (w:=w) (XO _ ax3_0 a3 _ (Jb AR3H.out (by go_grown)) (by omega) (by omega)) (by go_grown) ?_;intro w2 r2 hB hb hz hz2 hr hs;have HR2:=Lib.hid hr;clear hr;(try simp only[zSz] at hz2);have c0:=λo=>Ir hb (w.heap.size) o (by go_size);clear hb))
 all_goals
  go_ret
  refine ⟨_,rfl, ?_,by go_grown⟩;rw[HSZ.out];unfold szq
  (try have u1:=HR1.out)
  (try have u2:=HR2.out)
  (try unfold szq at*)
  go_light
  omega
theorem Qjq (w:K) (ca:Y H) (a:Q2) (left:u) (ha:rd w ca a) (h0:0<=left) (h1:left<=1048576):Calls Tryz.prog 163 #[.agg ca.toArray,.int .i64 left] w (Fe w (GoD.size a) left):=by
 obtain ⟨a1,a2,a3,a4,a5⟩:=a;obtain ⟨ac1,at1,rfl,ar1,ac2,at2,rfl,ar2,ac3,at3,rfl,ar3,ac4,at4,rfl,ar4,ar5⟩:=ha;obtain ⟨rfl,ar1⟩:=ar1;obtain ⟨rfl,ar2⟩:=ar2;obtain ⟨rfl,ar3⟩:=ar3;obtain ⟨rfl,ar4⟩:=ar4;obtain ⟨ax5_0,ax5_1,ax5_2,rfl⟩:=Qoo (show _=3 from GoD.rd_len ar5);dsimp only[zJ,zG] at*;clear ar1;clear ar2;clear ar3;unfold uA at ar4;have ar4:a4.size<=9223372036854775807:=by omega
 have AR5H:=Lib.hid ar5;clear ar5;have tok1:True:=trivial;have hsz:GoD.size (a1,a2,a3,a4,a5)=(0+(0+(0+(a4.size+GoD.size a5)))):=rfl;have HSZ:=Lib.hid hsz;clear hsz;go_enter Tryz.func163,Tryz.ntmps163
 go_wp2_with (first | (go_at_call 213;have tk:=tok1;clear tok1;refine K9 (w:=w) (ND _ [ax5_0,ax5_1,ax5_2] a5 _ (Jb AR5H.out (by go_grown)) (by omega) (by omega)) (by go_grown) ?_;intro w1 r1 hB hb hz hz2 hr hs;have HR1:=Lib.hid hr;clear hr;(try simp only[zSz] at hz2);have c0:=λo=>Ir hb (w.heap.size) o (by go_size);clear hb))
 all_goals
  go_ret
  refine ⟨_,rfl, ?_,by go_grown⟩;rw[HSZ.out];unfold szq
  (try have u1:=HR1.out)
  (try unfold szq at*)
  go_light
  omega
theorem Qgu (w:K) (v:H) (l:Y Q2) (left:u) (ha:rd w [v] l) (h0:0<=left) (h1:left<=1048576):Calls Tryz.prog 115 #[v,.int .i64 left] w (Fe w (GoD.size l) left):=by
 obtain ⟨oa,cap,e1,hl,hm,hel⟩:=ha;obtain rfl:v=_:=by simpa using e1
 clear e1;have HE:=Lib.hid hel;clear hel;unfold uA at hm;have hlm:l.length<=9223372036854775807:=by omega
 have hsz:GoD.size l=l.length+(l.map GoD.size).sum:=rfl;have HSZ:=Lib.hid hsz;clear hsz;by_cases hneg:left-l.length<0
 . go_enter Tryz.func115,Tryz.ntmps115
   go_wp2
   go_ret
   refine ⟨_,rfl, ?_,Below.refl _ _⟩;rw[HSZ.out];unfold szq;omega
 go_enter Tryz.func115,Tryz.ntmps115
 go_wp2
 go_loopw [1,5] (zI l left w) (λ_ i _=>l.length-(intOf i).toNat)
 case atStart=>exact ⟨0,_,zU _,rfl,rfl,by omega,by omega,by show _=_;simp,Below.refl _ _⟩
 case round=>
  obtain ⟨k,r,hk,rfl,rfl,hr0,hr1,HR,hB⟩:=hrel;by_cases hkl:k<l.length
  . have hx:=zK hkl;obtain ⟨eb,eo,ee,rfl,hcl,hcc,hxr⟩:=HE.out k _ hx;have HT:=Lib.hid (Ft hx);have HU:=Lib.hid (Hv hx);clear hx;generalize l[k]=x at*;obtain ⟨x0,x1,x2,x3,x4,x5,x6,rfl⟩:=Qrc (show _=7 from hcl);have p0:wr.cell? ⟨eb,eo+k*7,I⟩=S x0:=cBz hB (hcc 0 _ rfl);have p1:wr.cell? ⟨eb,eo+k*7+1,I⟩=S x1:=cBz hB (hcc 1 _ rfl);have p2:wr.cell? ⟨eb,eo+k*7+2,I⟩=S x2:=cBz hB (hcc 2 _ rfl);have p3:wr.cell? ⟨eb,eo+k*7+3,I⟩=S x3:=cBz hB (hcc 3 _ rfl);have p4:wr.cell? ⟨eb,eo+k*7+4,I⟩=S x4:=cBz hB (hcc 4 _ rfl);have p5:wr.cell? ⟨eb,eo+k*7+5,I⟩=S x5:=cBz hB (hcc 5 _ rfl);have p6:wr.cell? ⟨eb,eo+k*7+6,I⟩=S x6:=cBz hB (hcc 6 _ rfl);have HXR:=Lib.hid hxr;clear hxr hcc hcl;go_wp2_with (go_at_call 163;refine K9 (w:=w) (Qjq _ [x0,x1,x2,x3,x4,x5,x6] x _ (Jb HXR.out hB) (by omega) (by omega)) (by go_grown) ?_;intro w2 r2 hB2 hb hz hz2 hr2 hs;have HR2:=Lib.hid hr2;clear hr2 hb)
    . go_ret
      refine ⟨_,rfl, ?_,by go_grown⟩;have u1:=HU.out;have u2:=HR2.out;have u3:=HR.out;rw[HSZ.out];unfold szq at*;go_light
      omega
    go_roundw
    case rel=>exact ⟨k+1,_,by omega,by go_num,rfl,by omega,by omega,by
    show _=_;have u1:=HT.out;have u2:=HR2.out;have u3:=HR.out;unfold szq at*;rw[u1];omega,by go_grown⟩
    case measure=>simp[intOf];omega
  obtain rfl:k=l.length:=by omega
  go_wp2
  go_ret
  refine ⟨_,rfl, ?_,hB⟩;have u3:=HR.out;rw[zO] at u3;rw[HSZ.out];unfold szq;omega
theorem Qni (w:K) (ca:Y H) (a:Zj) (left:u) (ha:rd w ca a) (h0:0<=left) (h1:left<=1048576):Calls Tryz.prog 64 #[.agg ca.toArray,.int .i64 left] w (Fe w (GoD.size a) left):=by
 obtain ⟨a1,a2⟩:=a;obtain ⟨ac1,at1,rfl,ar1,ar2⟩:=ha;obtain ⟨rfl,ar1⟩:=ar1;obtain ⟨ax2_0,rfl⟩:=Mq (show _=1 from GoD.rd_len ar2);dsimp only[zJ,zG] at*;unfold uA at ar1;have ar1:a1.size<=9223372036854775807:=by omega
 have AR2H:=Lib.hid ar2;clear ar2;have tok1:True:=trivial;have hsz:GoD.size (a1,a2)=(a1.size+GoD.size a2):=rfl;have HSZ:=Lib.hid hsz;clear hsz;go_enter Tryz.func64,Tryz.ntmps64
 go_wp2_with (first | (go_at_call 115;have tk:=tok1;clear tok1;refine K9 (w:=w) (Qgu _ ax2_0 a2 _ (Jb AR2H.out (by go_grown)) (by omega) (by omega)) (by go_grown) ?_;intro w1 r1 hB hb hz hz2 hr hs;have HR1:=Lib.hid hr;clear hr;(try simp only[zSz] at hz2);have c0:=λo=>Ir hb (w.heap.size) o (by go_size);clear hb))
 all_goals
  go_ret
  refine ⟨_,rfl, ?_,by go_grown⟩;rw[HSZ.out];unfold szq
  (try have u1:=HR1.out)
  (try unfold szq at*)
  go_light
  omega
theorem Qar (w:K) (v:H) (l:Y Zj) (left:u) (ha:rd w [v] l) (h0:0<=left) (h1:left<=1048576):Calls Tryz.prog 31 #[v,.int .i64 left] w (Fe w (GoD.size l) left):=by
 obtain ⟨oa,cap,e1,hl,hm,hel⟩:=ha;obtain rfl:v=_:=by simpa using e1
 clear e1;have HE:=Lib.hid hel;clear hel;unfold uA at hm;have hlm:l.length<=9223372036854775807:=by omega
 have hsz:GoD.size l=l.length+(l.map GoD.size).sum:=rfl;have HSZ:=Lib.hid hsz;clear hsz;by_cases hneg:left-l.length<0
 . go_enter Tryz.func31,Tryz.ntmps31
   go_wp2
   go_ret
   refine ⟨_,rfl, ?_,Below.refl _ _⟩;rw[HSZ.out];unfold szq;omega
 go_enter Tryz.func31,Tryz.ntmps31
 go_wp2
 go_loopw [1,5] (zI l left w) (λ_ i _=>l.length-(intOf i).toNat)
 case atStart=>exact ⟨0,_,zU _,rfl,rfl,by omega,by omega,by show _=_;simp,Below.refl _ _⟩
 case round=>
  obtain ⟨k,r,hk,rfl,rfl,hr0,hr1,HR,hB⟩:=hrel;by_cases hkl:k<l.length
  . have hx:=zK hkl;obtain ⟨eb,eo,ee,rfl,hcl,hcc,hxr⟩:=HE.out k _ hx;have HT:=Lib.hid (Ft hx);have HU:=Lib.hid (Hv hx);clear hx;generalize l[k]=x at*;obtain ⟨x0,x1,rfl⟩:=BU (show _=2 from hcl);have p0:wr.cell? ⟨eb,eo+k*2,I⟩=S x0:=cBz hB (hcc 0 _ rfl);have p1:wr.cell? ⟨eb,eo+k*2+1,I⟩=S x1:=cBz hB (hcc 1 _ rfl);have HXR:=Lib.hid hxr;clear hxr hcc hcl;go_wp2_with (go_at_call 64;refine K9 (w:=w) (Qni _ [x0,x1] x _ (Jb HXR.out hB) (by omega) (by omega)) (by go_grown) ?_;intro w2 r2 hB2 hb hz hz2 hr2 hs;have HR2:=Lib.hid hr2;clear hr2 hb)
    . go_ret
      refine ⟨_,rfl, ?_,by go_grown⟩;have u1:=HU.out;have u2:=HR2.out;have u3:=HR.out;rw[HSZ.out];unfold szq at*;go_light
      omega
    go_roundw
    case rel=>exact ⟨k+1,_,by omega,by go_num,rfl,by omega,by omega,by
    show _=_;have u1:=HT.out;have u2:=HR2.out;have u3:=HR.out;unfold szq at*;rw[u1];omega,by go_grown⟩
    case measure=>simp[intOf];omega
  obtain rfl:k=l.length:=by omega
  go_wp2
  go_ret
  refine ⟨_,rfl, ?_,hB⟩;have u3:=HR.out;rw[zO] at u3;rw[HSZ.out];unfold szq;omega
theorem NF (w:K) (ca:Y H) (a:Qq) (left:u) (ha:rd w ca a) (h0:0<=left) (h1:left<=1048576):Calls Tryz.prog 66 #[.agg ca.toArray,.int .i64 left] w (Fe w (GoD.size a) left):=by
 obtain ⟨a1,a2⟩:=a;obtain ⟨ac1,at1,rfl,ar1,ar2⟩:=ha;obtain ⟨ax1_0,ax1_1,ax1_2,rfl⟩:=Qoo (show _=3 from GoD.rd_len ar1);obtain ⟨ax2_0,rfl⟩:=Mq (show _=1 from GoD.rd_len ar2);dsimp only[zJ,zG] at*;have AR1H:=Lib.hid ar1;clear ar1;have AR2H:=Lib.hid ar2;clear ar2;have tok1:True:=trivial;have tok2:True:=trivial;have hsz:GoD.size (a1,a2)=(GoD.size a1+GoD.size a2):=rfl;have HSZ:=Lib.hid hsz;clear hsz;go_enter Tryz.func66,Tryz.ntmps66
 go_wp2_with (first | (go_at_call 30;have tk:=tok1;clear tok1;refine K9 (w:=w) (NE _ [ax1_0,ax1_1,ax1_2] a1 _ (Jb AR1H.out (by go_grown)) (by omega) (by omega)) (by go_grown) ?_;intro w1 r1 hB hb hz hz2 hr hs;have HR1:=Lib.hid hr;clear hr;(try simp only[zSz] at hz2);have c0:=λo=>Ir hb (w.heap.size) o (by go_size);clear hb) | (go_at_call 31;have tk:=tok2;clear tok2;refine K9 (w:=w) (Qar _ ax2_0 a2 _ (Jb AR2H.out (by go_grown)) (by omega) (by omega)) (by go_grown) ?_;intro w2 r2 hB hb hz hz2 hr hs;have HR2:=Lib.hid hr;clear hr;(try simp only[zSz] at hz2);have c0:=λo=>Ir hb (w.heap.size) o (by go_size);clear hb))
 all_goals
  go_ret
  refine ⟨_,rfl, ?_,by go_grown⟩;rw[HSZ.out];unfold szq
  (try have u1:=HR1.out)
  (try have u2:=HR2.out)
  (try unfold szq at*)
  go_light
  omega
theorem RN (w:K) (ca:Y H) (a:Yn) (left:u) (ha:rd w ca a) (h0:0<=left) (h1:left<=1048576):Calls Tryz.prog 33 #[.agg ca.toArray,.int .i64 left] w (Fe w (GoD.size a) left):=by
 obtain ⟨a1,a2,a3⟩:=a;obtain ⟨ac1,at1,rfl,ar1,ac2,at2,rfl,ar2,ar3⟩:=ha;obtain ⟨rfl,ar1⟩:=ar1;obtain ⟨ax2_0,ax2_1,ax2_2,ax2_3,rfl⟩:=Qqi (show _=4 from GoD.rd_len ar2);obtain ⟨rfl,ar3⟩:=ar3;dsimp only[zJ,zG] at*;clear ar1;have AR2H:=Lib.hid ar2;clear ar2;clear ar3;have tok1:True:=trivial;have hsz:GoD.size (a1,a2,a3)=(0+(GoD.size a2+0)):=rfl;have HSZ:=Lib.hid hsz;clear hsz;go_enter Tryz.func33,Tryz.ntmps33
 go_wp2_with (first | (go_at_call 66;have tk:=tok1;clear tok1;refine K9 (w:=w) (NF _ [ax2_0,ax2_1,ax2_2,ax2_3] a2 _ (Jb AR2H.out (by go_grown)) (by omega) (by omega)) (by go_grown) ?_;intro w1 r1 hB hb hz hz2 hr hs;have HR1:=Lib.hid hr;clear hr;(try simp only[zSz] at hz2);have c0:=λo=>Ir hb (w.heap.size) o (by go_size);clear hb))
 all_goals
  go_ret
  refine ⟨_,rfl, ?_,by go_grown⟩;rw[HSZ.out];unfold szq
  (try have u1:=HR1.out)
  (try unfold szq at*)
  go_light
  omega
theorem NG (w:K) (v:H) (l:Y Yn) (left:u) (ha:rd w [v] l) (h0:0<=left) (h1:left<=1048576):Calls Tryz.prog 11 #[v,.int .i64 left] w (Fe w (GoD.size l) left):=by
 obtain ⟨oa,cap,e1,hl,hm,hel⟩:=ha;obtain rfl:v=_:=by simpa using e1
 clear e1;have HE:=Lib.hid hel;clear hel;unfold uA at hm;have hlm:l.length<=9223372036854775807:=by omega
 have hsz:GoD.size l=l.length+(l.map GoD.size).sum:=rfl;have HSZ:=Lib.hid hsz;clear hsz;by_cases hneg:left-l.length<0
 . go_enter Tryz.func11,Tryz.ntmps11
   go_wp2
   go_ret
   refine ⟨_,rfl, ?_,Below.refl _ _⟩;rw[HSZ.out];unfold szq;omega
 go_enter Tryz.func11,Tryz.ntmps11
 go_wp2
 go_loopw [1,5] (zI l left w) (λ_ i _=>l.length-(intOf i).toNat)
 case atStart=>exact ⟨0,_,zU _,rfl,rfl,by omega,by omega,by show _=_;simp,Below.refl _ _⟩
 case round=>
  obtain ⟨k,r,hk,rfl,rfl,hr0,hr1,HR,hB⟩:=hrel;by_cases hkl:k<l.length
  . have hx:=zK hkl;obtain ⟨eb,eo,ee,rfl,hcl,hcc,hxr⟩:=HE.out k _ hx;have HT:=Lib.hid (Ft hx);have HU:=Lib.hid (Hv hx);clear hx;generalize l[k]=x at*;obtain ⟨x0,x1,x2,x3,x4,x5,rfl⟩:=Qrb (show _=6 from hcl);have p0:wr.cell? ⟨eb,eo+k*6,I⟩=S x0:=cBz hB (hcc 0 _ rfl);have p1:wr.cell? ⟨eb,eo+k*6+1,I⟩=S x1:=cBz hB (hcc 1 _ rfl);have p2:wr.cell? ⟨eb,eo+k*6+2,I⟩=S x2:=cBz hB (hcc 2 _ rfl);have p3:wr.cell? ⟨eb,eo+k*6+3,I⟩=S x3:=cBz hB (hcc 3 _ rfl);have p4:wr.cell? ⟨eb,eo+k*6+4,I⟩=S x4:=cBz hB (hcc 4 _ rfl);have p5:wr.cell? ⟨eb,eo+k*6+5,I⟩=S x5:=cBz hB (hcc 5 _ rfl);have HXR:=Lib.hid hxr;clear hxr hcc hcl;go_wp2_with (go_at_call 33;refine K9 (w:=w) (RN _ [x0,x1,x2,x3,x4,x5] x _ (Jb HXR.out hB) (by omega) (by omega)) (by go_grown) ?_;intro w2 r2 hB2 hb hz hz2 hr2 hs;have HR2:=Lib.hid hr2;clear hr2 hb)
    . go_ret
      refine ⟨_,rfl, ?_,by go_grown⟩;have u1:=HU.out;have u2:=HR2.out;have u3:=HR.out;rw[HSZ.out];unfold szq at*;go_light
      omega
    go_roundw
    case rel=>exact ⟨k+1,_,by omega,by go_num,rfl,by omega,by omega,by
    show _=_;have u1:=HT.out;have u2:=HR2.out;have u3:=HR.out;unfold szq at*;rw[u1];omega,by go_grown⟩
    case measure=>simp[intOf];omega
  obtain rfl:k=l.length:=by omega
  go_wp2
  go_ret
  refine ⟨_,rfl, ?_,hB⟩;have u3:=HR.out;rw[zO] at u3;rw[HSZ.out];unfold szq;omega
theorem Qce (w:K) (v:H) (l:Y K5) (left:u) (ha:rd w [v] l) (h0:0<=left) (h1:left<=1048576):Calls Tryz.prog 67 #[v,.int .i64 left] w (Fe w (GoD.size l) left):=by
 obtain ⟨oa,cap,e1,hl,hm,hel⟩:=ha;obtain rfl:v=_:=by simpa using e1
 clear e1;have HE:=Lib.hid hel;clear hel;unfold uA at hm;have hlm:l.length<=9223372036854775807:=by omega
 have hsz:GoD.size l=l.length+(l.map GoD.size).sum:=rfl;have HSZ:=Lib.hid hsz;clear hsz;by_cases hneg:left-l.length<0
 . go_enter Tryz.func67,Tryz.ntmps67
   go_wp2
   go_ret
   refine ⟨_,rfl, ?_,Below.refl _ _⟩;rw[HSZ.out];unfold szq;omega
 go_enter Tryz.func67,Tryz.ntmps67
 go_wp2
 go_loopw [1,5] (zI l left w) (λ_ i _=>l.length-(intOf i).toNat)
 case atStart=>exact ⟨0,_,zU _,rfl,rfl,by omega,by omega,by show _=_;simp,Below.refl _ _⟩
 case round=>
  obtain ⟨k,r,hk,rfl,rfl,hr0,hr1,HR,hB⟩:=hrel;by_cases hkl:k<l.length
  . have hx:=zK hkl;obtain ⟨eb,eo,ee,rfl,hcl,hcc,hxr⟩:=HE.out k _ hx;have HT:=Lib.hid (Ft hx);have HU:=Lib.hid (Hv hx);clear hx;generalize l[k]=x at*;obtain ⟨x0,x1,x2,rfl⟩:=Qoo (show _=3 from hcl);have p0:wr.cell? ⟨eb,eo+k*3,I⟩=S x0:=cBz hB (hcc 0 _ rfl);have p1:wr.cell? ⟨eb,eo+k*3+1,I⟩=S x1:=cBz hB (hcc 1 _ rfl);have p2:wr.cell? ⟨eb,eo+k*3+2,I⟩=S x2:=cBz hB (hcc 2 _ rfl);have HXR:=Lib.hid hxr;clear hxr hcc hcl;go_wp2_with (go_at_call 116;refine K9 (w:=w) (Qgt _ [x0,x1,x2] x _ (Jb HXR.out hB) (by omega) (by omega)) (by go_grown) ?_;intro w2 r2 hB2 hb hz hz2 hr2 hs;have HR2:=Lib.hid hr2;clear hr2 hb)
    . go_ret
      refine ⟨_,rfl, ?_,by go_grown⟩;have u1:=HU.out;have u2:=HR2.out;have u3:=HR.out;rw[HSZ.out];unfold szq at*;go_light
      omega
    go_roundw
    case rel=>exact ⟨k+1,_,by omega,by go_num,rfl,by omega,by omega,by
    show _=_;have u1:=HT.out;have u2:=HR2.out;have u3:=HR.out;unfold szq at*;rw[u1];omega,by go_grown⟩
    case measure=>simp[intOf];omega
  obtain rfl:k=l.length:=by omega
  go_wp2
  go_ret
  refine ⟨_,rfl, ?_,hB⟩;have u3:=HR.out;rw[zO] at u3;rw[HSZ.out];unfold szq;omega
theorem RO (w:K) (ca:Y H) (a:U7) (left:u) (ha:rd w ca a) (h0:0<=left) (h1:left<=1048576):Calls Tryz.prog 9 #[.agg ca.toArray,.int .i64 left] w (Fe w (GoD.size a) left):=by
 obtain ⟨a1,a2,a3⟩:=a;obtain ⟨ac1,at1,rfl,ar1,ac2,at2,rfl,ar2,ar3⟩:=ha;obtain ⟨ax1_0,ax1_1,ax1_2,rfl⟩:=Qoo (show _=3 from GoD.rd_len ar1);obtain ⟨ax2_0,rfl⟩:=Mq (show _=1 from GoD.rd_len ar2);obtain ⟨ax3_0,rfl⟩:=Mq (show _=1 from GoD.rd_len ar3);dsimp only[zJ,zG] at*;have AR1H:=Lib.hid ar1;clear ar1;have AR2H:=Lib.hid ar2;clear ar2;have AR3H:=Lib.hid ar3;clear ar3;have tok1:True:=trivial;have tok2:True:=trivial;have tok3:True:=trivial;have hsz:GoD.size (a1,a2,a3)=(GoD.size a1+(GoD.size a2+GoD.size a3)):=rfl;have HSZ:=Lib.hid hsz;clear hsz;go_enter Tryz.func9,Tryz.ntmps9
 go_wp2_with (first | (go_at_call 30;have tk:=tok1;clear tok1;refine K9 (w:=w) (NE _ [ax1_0,ax1_1,ax1_2] a1 _ (Jb AR1H.out (by go_grown)) (by omega) (by omega)) (by go_grown) ?_;intro w1 r1 hB hb hz hz2 hr hs;have HR1:=Lib.hid hr;clear hr;(try simp only[zSz] at hz2);have c0:=λo=>Ir hb (w.heap.size) o (by go_size);clear hb) | (go_at_call 31;have tk:=tok2;clear tok2;refine K9 (w:=w) (Qar _ ax2_0 a2 _ (Jb AR2H.out (by go_grown)) (by omega) (by omega)) (by go_grown) ?_;intro w2 r2 hB hb hz hz2 hr hs;have HR2:=Lib.hid hr;clear hr;(try simp only[zSz] at hz2);have c0:=λo=>Ir hb (w.heap.size) o (by go_size);clear hb) | (go_at_call 32;have tk:=tok3;clear tok3;refine K9 (w:=w) (RM _ ax3_0 a3 _ (Jb AR3H.out (by go_grown)) (by omega) (by omega)) (by go_grown) ?_;intro w3 r3 hB hb hz hz2 hr hs;have HR3:=Lib.hid hr;clear hr;(try simp only[zSz] at hz2);have c0:=λo=>Ir hb (w.heap.size) o (by go_size);clear hb))
 all_goals
  go_ret
  refine ⟨_,rfl, ?_,by go_grown⟩;rw[HSZ.out];unfold szq
  (try have u1:=HR1.out)
  (try have u2:=HR2.out)
  (try have u3:=HR3.out)
  (try unfold szq at*)
  go_light
  omega
theorem Qgv (w:K) (ca:Y H) (a:Z7) (left:u) (ha:rd w ca a) (h0:0<=left) (h1:left<=1048576):Calls Tryz.prog 34 #[.agg ca.toArray,.int .i64 left] w (Fe w (GoD.size a) left):=by
 obtain ⟨a1,a2,a3,a4⟩:=a;obtain ⟨ac1,at1,rfl,ar1,ac2,at2,rfl,ar2,ac3,at3,rfl,ar3,ar4⟩:=ha;obtain ⟨rfl,ar1⟩:=ar1;obtain ⟨rfl,ar2⟩:=ar2;obtain ⟨ax3_0,rfl⟩:=Mq (show _=1 from GoD.rd_len ar3);obtain ⟨ax4_0,rfl⟩:=Mq (show _=1 from GoD.rd_len ar4);dsimp only[zJ,zG] at*;clear ar1;unfold uA at ar2;have ar2:a2.size<=9223372036854775807:=by omega
 have AR3H:=Lib.hid ar3;clear ar3;have AR4H:=Lib.hid ar4;clear ar4;have tok1:True:=trivial;have tok2:True:=trivial;have hsz:GoD.size (a1,a2,a3,a4)=(0+(a2.size+(GoD.size a3+GoD.size a4))):=rfl;have HSZ:=Lib.hid hsz;clear hsz;go_enter Tryz.func34,Tryz.ntmps34
 go_wp2_with (first | (go_at_call 13;have tk:=tok1;clear tok1;refine K9 (w:=w) (XO _ ax3_0 a3 _ (Jb AR3H.out (by go_grown)) (by omega) (by omega)) (by go_grown) ?_;intro w1 r1 hB hb hz hz2 hr hs;have HR1:=Lib.hid hr;clear hr;(try simp only[zSz] at hz2);have c0:=λo=>Ir hb (w.heap.size) o (by go_size);clear hb) | (go_at_call 67;have tk:=tok2;clear tok2;refine K9 (w:=w) (Qce _ ax4_0 a4 _ (Jb AR4H.out (by go_grown)) (by omega) (by omega)) (by go_grown) ?_;intro w2 r2 hB hb hz hz2 hr hs;have HR2:=Lib.hid hr;clear hr;(try simp only[zSz] at hz2);have c0:=λo=>Ir hb (w.heap.size) o (by go_size);clear hb))
 all_goals
  go_ret
  refine ⟨_,rfl, ?_,by go_grown⟩;rw[HSZ.out];unfold szq
  (try have u1:=HR1.out)
  (try have u2:=HR2.out)
  (try unfold szq at*)
  go_light
  omega
theorem Qjr (w:K) (ca:Y H) (a:Nh) (left:u) (ha:rd w ca a) (h0:0<=left) (h1:left<=1048576):Calls Tryz.prog 10 #[.agg ca.toArray,.int .i64 left] w (Fe w (GoD.size a) left):=by
 obtain ⟨a1,a2⟩:=a;obtain ⟨ac1,at1,rfl,ar1,ar2⟩:=ha;obtain ⟨rfl,ar1⟩:=ar1;obtain ⟨rfl,ar2⟩:=ar2;dsimp only[zJ,zG] at*;unfold uA at ar1;have ar1:a1.size<=9223372036854775807:=by omega
 unfold uA at ar2;have ar2:a2.size<=9223372036854775807:=by omega
 have hsz:GoD.size (a1,a2)=(a1.size+a2.size):=rfl;have HSZ:=Lib.hid hsz;clear hsz;go_enter Tryz.func10,Tryz.ntmps10
 go_wp2
 all_goals
  go_ret
  refine ⟨_,rfl, ?_,by go_grown⟩;rw[HSZ.out];unfold szq
  (try unfold szq at*)
  go_light
  omega
theorem Qcf (w:K) (v:H) (l:Y Z7) (left:u) (ha:rd w [v] l) (h0:0<=left) (h1:left<=1048576):Calls Tryz.prog 12 #[v,.int .i64 left] w (Fe w (GoD.size l) left):=by
 obtain ⟨oa,cap,e1,hl,hm,hel⟩:=ha;obtain rfl:v=_:=by simpa using e1
 clear e1;have HE:=Lib.hid hel;clear hel;unfold uA at hm;have hlm:l.length<=9223372036854775807:=by omega
 have hsz:GoD.size l=l.length+(l.map GoD.size).sum:=rfl;have HSZ:=Lib.hid hsz;clear hsz;by_cases hneg:left-l.length<0
 . go_enter Tryz.func12,Tryz.ntmps12
   go_wp2
   go_ret
   refine ⟨_,rfl, ?_,Below.refl _ _⟩;rw[HSZ.out];unfold szq;omega
 go_enter Tryz.func12,Tryz.ntmps12
 go_wp2
 go_loopw [1,5] (zI l left w) (λ_ i _=>l.length-(intOf i).toNat)
 case atStart=>exact ⟨0,_,zU _,rfl,rfl,by omega,by omega,by show _=_;simp,Below.refl _ _⟩
 case round=>
  obtain ⟨k,r,hk,rfl,rfl,hr0,hr1,HR,hB⟩:=hrel;by_cases hkl:k<l.length
  . have hx:=zK hkl;obtain ⟨eb,eo,ee,rfl,hcl,hcc,hxr⟩:=HE.out k _ hx;have HT:=Lib.hid (Ft hx);have HU:=Lib.hid (Hv hx);clear hx;generalize l[k]=x at*;obtain ⟨x0,x1,x2,x3,rfl⟩:=Qqi (show _=4 from hcl);have p0:wr.cell? ⟨eb,eo+k*4,I⟩=S x0:=cBz hB (hcc 0 _ rfl);have p1:wr.cell? ⟨eb,eo+k*4+1,I⟩=S x1:=cBz hB (hcc 1 _ rfl);have p2:wr.cell? ⟨eb,eo+k*4+2,I⟩=S x2:=cBz hB (hcc 2 _ rfl);have p3:wr.cell? ⟨eb,eo+k*4+3,I⟩=S x3:=cBz hB (hcc 3 _ rfl);have HXR:=Lib.hid hxr;clear hxr hcc hcl;go_wp2_with (go_at_call 34;refine K9 (w:=w) (Qgv _ [x0,x1,x2,x3] x _ (Jb HXR.out hB) (by omega) (by omega)) (by go_grown) ?_;intro w2 r2 hB2 hb hz hz2 hr2 hs;have HR2:=Lib.hid hr2;clear hr2 hb)
    . go_ret
      refine ⟨_,rfl, ?_,by go_grown⟩;have u1:=HU.out;have u2:=HR2.out;have u3:=HR.out;rw[HSZ.out];unfold szq at*;go_light
      omega
    go_roundw
    case rel=>exact ⟨k+1,_,by omega,by go_num,rfl,by omega,by omega,by
    show _=_;have u1:=HT.out;have u2:=HR2.out;have u3:=HR.out;unfold szq at*;rw[u1];omega,by go_grown⟩
    case measure=>simp[intOf];omega
  obtain rfl:k=l.length:=by omega
  go_wp2
  go_ret
  refine ⟨_,rfl, ?_,hB⟩;have u3:=HR.out;rw[zO] at u3;rw[HSZ.out];unfold szq;omega
theorem CZ (w:K) (ca:Y H) (a:Jd) (left:u) (ha:rd w ca a) (h0:0<=left) (h1:left<=1048576):Calls Tryz.prog 4 #[.agg ca.toArray,.int .i64 left] w (Fe w (GoD.size a) left):=by
 obtain ⟨a1,a2,a3,a4,a5,a6⟩:=a;obtain ⟨ac1,at1,rfl,ar1,ac2,at2,rfl,ar2,ac3,at3,rfl,ar3,ac4,at4,rfl,ar4,ac5,at5,rfl,ar5,ar6⟩:=ha;obtain ⟨ax1_0,ax1_1,ax1_2,ax1_3,ax1_4,rfl⟩:=Qq0 (show _=5 from GoD.rd_len ar1);obtain ⟨ax2_0,ax2_1,rfl⟩:=BU (show _=2 from GoD.rd_len ar2);obtain ⟨rfl,ar3⟩:=ar3;obtain ⟨ax4_0,rfl⟩:=Mq (show _=1 from GoD.rd_len ar4);obtain ⟨ax5_0,rfl⟩:=Mq (show _=1 from GoD.rd_len ar5);obtain ⟨ax6_0,rfl⟩:=Mq (show _=1 from GoD.rd_len ar6);dsimp only[zJ,zG] at*;have AR1H:=Lib.hid ar1;clear ar1;have AR2H:=Lib.hid ar2;clear ar2;clear ar3;have AR4H:=Lib.hid ar4;clear ar4;have AR5H:=Lib.hid ar5;clear ar5;have AR6H:=Lib.hid ar6;clear ar6;have tok1:True:=trivial;have tok2:True:=trivial;have tok3:True:=trivial;have tok4:True:=trivial;have tok5:True:=trivial;have hsz:GoD.size (a1,a2,a3,a4,a5,a6)=(GoD.size a1+(GoD.size a2+(0+(GoD.size a4+(GoD.size a5+GoD.size a6))))):=rfl;have HSZ:=Lib.hid hsz;clear hsz;go_enter Tryz.func4,Tryz.ntmps4
 go_wp2_with (first | (go_at_call 9;have tk:=tok1;clear tok1;refine K9 (w:=w) (RO _ [ax1_0,ax1_1,ax1_2,ax1_3,ax1_4] a1 _ (Jb AR1H.out (by go_grown)) (by omega) (by omega)) (by go_grown) ?_;intro w1 r1 hB hb hz hz2 hr hs;have HR1:=Lib.hid hr;clear hr;(try simp only[zSz] at hz2);have c0:=λo=>Ir hb (w.heap.size) o (by go_size);clear hb) | (go_at_call 10;have tk:=tok2;clear tok2;refine K9 (w:=w) (Qjr _ [ax2_0,ax2_1] a2 _ (Jb AR2H.out (by go_grown)) (by omega) (by omega)) (by go_grown) ?_;intro w2 r2 hB hb hz hz2 hr hs;have HR2:=Lib.hid hr;clear hr;(try simp only[zSz] at hz2);have c0:=λo=>Ir hb (w.heap.size) o (by go_size);clear hb) | (go_at_call 11;have tk:=tok3;clear tok3;refine K9 (w:=w) (NG _ ax4_0 a4 _ (Jb AR4H.out (by go_grown)) (by omega) (by omega)) (by go_grown) ?_;intro w3 r3 hB hb hz hz2 hr hs;have HR3:=Lib.hid hr;clear hr;(try simp only[zSz] at hz2);have c0:=λo=>Ir hb (w.heap.size) o (by go_size);clear hb) | (go_at_call 12;have tk:=tok4;clear tok4;refine K9 (w:=w) (Qcf _ ax5_0 a5 _ (Jb AR5H.out (by go_grown)) (by omega) (by omega)) (by go_grown) ?_;intro w4 r4 hB hb hz hz2 hr hs;have HR4:=Lib.hid hr;clear hr;(try simp only[zSz] at hz2);have c0:=λo=>Ir hb (w.heap.size) o (by go_size);clear hb) | (go_at_call 13;have tk:=tok5;clear tok5;refine K9 (w:=w) (XO _ ax6_0 a6 _ (Jb AR6H.out (by go_grown)) (by omega) (by omega)) (by go_grown) ?_;intro w5 r5 hB hb hz hz2 hr hs;have HR5:=Lib.hid hr;clear hr;(try simp only[zSz] at hz2);have c0:=λo=>Ir hb (w.heap.size) o (by go_size);clear hb))
 all_goals
  go_ret
  refine ⟨_,rfl, ?_,by go_grown⟩;rw[HSZ.out];unfold szq
  (try have u1:=HR1.out)
  (try have u2:=HR2.out)
  (try have u3:=HR3.out)
  (try have u4:=HR4.out)
  (try have u5:=HR5.out)
  (try unfold szq at*)
  go_light
  omega
end
section
open Go.RowKit
open GoE (enc)
section
variable {α:Type} [GoE α] {P:uK} {tt:Y (T×TI)} {f g t6:T} {fn:Func} {i0 i1 i2 i3 i4 i5 i6 i7 i8 B B1:T} {O0 O1 O2 O3 O4 O5 O6 O7 O8:Array Oper}
theorem eqS (htt:Fb P tt=X) (hm:P.follows .mixedOrders=X) (hf:P.funcs[f]? =S fn) (b8:G) (o:α->Ob) (ho:∀(w0:Base) [GoodAt P w0] (a:α),(o a).holds (Zk P w0) (Vs P w0)) (l:Y α)
 (hb:fn.body=S (.seq (.region i0 O0 W) (.seq (.seq (.region i1 O1 W) (.cond (.tmp 10) (.seq (.region i2 O2 W) .ret) .skip)) (.seq (.seq (.region i3 O3 W) (.block B (.loop (.seq (.seq (.region i4 O4 W) (.cond (.tmp 14) .skip (.exit B))) (.seq (.block B1 (.seq (.region i6 O6 X) (.cond (.tmp t6) (.seq (.region i7 O7 W) .ret) .skip))) (.region i5 O5 W)))))) (.seq (.region i8 O8 W) .ret)))):=by exact rfl)
 (hok:F9 P f:=by unfold F9;kernel_rfl) (hn:2<=fn.ntmps:=by exact zW rfl)
 (h0:Wd tt fn.ntmps [] O0.toList [0,1,4] [] (YB [.h l,.h l])=S (⟨[(0,.h l),(1,.h l),(4,.b W)], []⟩, []):=by kernel_rfl)
 (h1:Wd tt fn.ntmps [(1,.val (.i (l.length:u))),(3,.val (.i (l.length:u))),(4,.val (.b W))] O1.toList [0,1,4,10] [] ⟨[(0,.h l),(1,.h l),(4,.b W)], []⟩=S (⟨[(0,.h l),(1,.h l),(4,.b W),(10,.b W)], []⟩, [.eq (.i ((eL l).length:u)) (.i (l.length:u)),.eq (.i ((eL l).length:u)) (.i (l.length:u)),.eq (.b ((l.length:u) !=(l.length:u))) (.b W)]):=by kernel_rfl)
 (h3:Wd tt fn.ntmps [] O3.toList [5,0,1,4] [] ⟨[(0,.h l),(1,.h l),(4,.b W),(10,.b W)], []⟩=S (⟨[(5,.i 0),(0,.h l),(1,.h l),(4,.b W)], []⟩, []):=by kernel_rfl)
 (h4:∀(k:T) (b:G),Wd tt fn.ntmps [(2,.val (.i (l.length:u))),(3,.val (.b b))] O4.toList [5,0,1,4,14] [] ⟨[(5,.i (k:u)),(0,.h l),(1,.h l),(4,.b W)], []⟩=S (⟨[(5,.i (k:u)),(0,.h l),(1,.h l),(4,.b W),(14,.b b)], []⟩, [.eq (.i ((eL l).length:u)) (.i (l.length:u)),.eq (.b (decide ((k:u)<(l.length:u)))) (.b b)]):=by intro k b;kernel_rfl)
 (h6:∀(k:T) (a:α),Ej tt fn.ntmps [(2,.row (enc a)),(6,.row (enc a)),(8,.val (.b b8))] O6.toList [5,0,1,4,t6] [] ⟨[(5,.i (k:u)),(0,.h l),(1,.h l),(4,.b W),(14,.b X)], []⟩=S (⟨[(5,.i (k:u)),(0,.h l),(1,.h l),(4,.b W),(t6,.b W)], []⟩, [.elem (eL l) (k:u) (enc a),.elem (eL l) (k:u) (enc a),o a]):=by intro k a;kernel_rfl)
 (h7:∀k:T,get [(5,AV.i (k:u)),(0,.h l),(1,.h l),(4,.b W),(t6,.b W)] t6=S (.b W):=by intro k;kernel_rfl)
 (h5:∀k:T,Wd tt fn.ntmps [(1,.val (.i ((k+1:T):u)))] O5.toList [5,0,1,4] [] ⟨[(5,.i (k:u)),(0,.h l),(1,.h l),(4,.b W),(t6,.b W)], []⟩=S (⟨[(5,.i ((k+1:T):u)),(0,.h l),(1,.h l),(4,.b W)], []⟩, [.eq (.i (IntKind.i64.wrap ((k:u)+1))) (.i ((k+1:T):u))]):=by intro k;kernel_rfl)
 (h8:Wd tt fn.ntmps [] O8.toList [4] [] ⟨[(4,.b W)], []⟩=S (⟨[(4,.b X)], []⟩, []):=by kernel_rfl)
 (hr:Lw tt fn.results.toList ⟨[(4,.b X)], []⟩=S (.b X):=by kernel_rfl):ACalls P f [.h l,.h l] (.b X):=by
 refine Tt htt hf hb hok hn λw0 F0 hG=> ?_
 refine Qb (Jm htt [] _ _ h0 p0 ?_);refine Qb (Qb (Jm htt _ _ _ h1 (pl 1 l (pl 3 l (pf 4 (by simp) p0))) ?_));refine ckF (Qf ?_);refine Qb (Qb (Jm htt [] _ _ h3 p0 ?_));refine wT 0 0 .sh l (λhw hl=> ?_) rfl;refine R2 (R:=G) (τ:=uB) (λ_ _ (_:uB)=> .next ()) (λ_ _=>()) l () (λk _=> [(5,.i (k:u))]) [5] (λ_=> []) [0,1,5] (Qe rfl) (λk s hk hI=> ?_) (λk s hk hI=> ?_) (λy _=> ?_)
 . obtain ⟨a,hx⟩:=Xh (l:=l) (i:=k) hk;refine Qb (Qb (Jm htt _ _ _ (h4 k X) (pl 2 l (pt 3 (uF (p:=(k:u)<(l.length:u)) (by omega)) p0)) ?_));refine ckT (Qf ?_);refine Qb (Qo (Qb (KE htt hm _ _ _ (h6 k a) (pn 2 hx (pn 6 hx (po 8 (.val (.b b8)) (px (ho w0 a) p0)))) ?_)));refine Tz (h7 k) (Qf ?_);refine Jm htt _ _ _ (h5 k) (pe 1 (Jl (Qn k (by omega))) p0) ?_;exact ⟨(),Qe rfl,Qs hx rfl hI⟩
 . refine Qb (Qb (Jm htt _ _ _ (h4 k W) (pl 2 l (pf 3 (uE (p:=(k:u)<(l.length:u)) (by omega)) p0)) ?_));refine ckF (Q4 ?_);show (bif Nat.beq B B then _ else _:Prop);rw[Nat.beq_refl];exact ⟨(),Qe rfl,Xj hk rfl hI⟩
 refine Qb (Jm htt [] _ _ h8 p0 (Qd ?_));exact G9 [] hr rfl
def eqZ (a:α):St:=⟨[(2,.p 2 0),(3,.p 3 0),(4,.b W)], [(2,(enc a).map shC),(3,(enc a).map shC)]⟩
variable {N:T} {w0:Base} {F0:T->Prop} {c y:Code} {rs:Y ResultVar} {t:T}
theorem eqA (htt:Fb P tt=X) (hf:P.funcs[f]? =S fn) (a:α) (k:∀(w0:Base) (F0:T->Prop) (_:GoodAt P w0),AWP P fn.ntmps w0 F0 c (Qcv tt fn.results.toList (.b X)) (eqZ a))
 (hb:fn.body=S (.seq (.region i0 O0 W) c):=by exact rfl) (hok:F9 P f:=by unfold F9;kernel_rfl) (hn:2<=fn.ntmps:=by exact zW rfl)
 (h0:Wd tt fn.ntmps [] O0.toList [2,3,4] [2,3] (YB [H9 a,H9 a])=S (eqZ a, []):=by kernel_rfl):ACalls P f [H9 a,H9 a] (.b X):=
 Tt htt hf hb hok hn λw0 F0 hG=>Qb (Jm htt [] _ _ h0 p0 (k w0 F0 hG))
def eqY (a:α) (t:T) (b:G):St:=⟨[(2,.p 2 0),(3,.p 3 0),(4,.b W),(t,.b b)], [(2,(enc a).map shC),(3,(enc a).map shC)]⟩
theorem eqF (htt:Fb P tt=X) {a:α} {b:G} {Q:Exit->St->Prop} (k:AWP P N w0 F0 y Q (eqZ a)) (hc:b=W:=by simp)
 (h:Wd tt N [(O1.size-1,.val (.b W))] O1.toList [2,3,4,t] [2,3] (eqZ a)=S (eqY a t W, [.eq (.b b) (.b W)]):=by kernel_rfl) (hg:get (eqY a t W).tm t=S (.b W):=by kernel_rfl) (hk:(eqY a t W).keep [2,3,4] [2,3]=eqZ a:=by kernel_rfl):AWP P N w0 F0 (.seq (.seq (.region i1 O1 W) (.cond (.tmp t) (.seq (.region i2 O2 W) .ret) .skip)) y) Q (eqZ a):=
 Qb (Qb (Jm htt _ _ _ h (pf (O1.size-1) hc p0) (Tz hg (Qf (Ei (VY _ _ hk) k)))))
theorem eqG (htt:Fb P tt=X) {a:α} {v:AV} {Q:Exit->St->Prop} [GoodAt P w0] (hv:ACalls P g [v,v] (.b X)) (k:AWP P N w0 F0 y Q (eqZ a))
 (h:Wd tt N [(O1.size-2,.val (.b X))] O1.toList [2,3,4,t] [2,3] (eqZ a)=S (eqY a t W, [.call g [v,v] (.b X)]):=by kernel_rfl) (hg:get (eqY a t W).tm t=S (.b W):=by kernel_rfl) (hk:(eqY a t W).keep [2,3,4] [2,3]=eqZ a:=by kernel_rfl):AWP P N w0 F0 (.seq (.seq (.region i1 O1 W) (.cond (.tmp t) (.seq (.region i2 O2 W) .ret) .skip)) y) Q (eqZ a):=
 Qb (Qb (Jm htt _ _ _ h (pc (O1.size-2) hv p0) (Tz hg (Qf (Ei (VY _ _ hk) k)))))
theorem eqE (htt:Fb P tt=X) {a:α} (h:Wd tt N [] O1.toList [4] [] (eqZ a)=S (⟨[(4,.b X)], []⟩, []):=by kernel_rfl) (hr:Lw tt rs ⟨[(4,.b X)], []⟩=S (.b X):=by kernel_rfl):AWP P N w0 F0 (.seq (.region i1 O1 W) .ret) (Qcv tt rs (.b X)) (eqZ a):=
 Qb (Jm htt [] _ _ h p0 (Qd (G9 [] hr rfl)))
theorem eqI (htt:Fb P tt=X) {a:α} (x:u) {Q:Exit->St->Prop} (k:AWP P N w0 F0 y Q (eqZ a))
 (h:Wd tt N [(O1.size-1,.val (.b W))] O1.toList [2,3,4,t] [2,3] (eqZ a)=S (eqY a t W, [.eq (.b (x !=x)) (.b W)]):=by kernel_rfl) (hg:get (eqY a t W).tm t=S (.b W):=by kernel_rfl) (hk:(eqY a t W).keep [2,3,4] [2,3]=eqZ a:=by kernel_rfl):AWP P N w0 F0 (.seq (.seq (.region i1 O1 W) (.cond (.tmp t) (.seq (.region i2 O2 W) .ret) .skip)) y) Q (eqZ a):=eqF htt k (by simp) h hg hk
theorem eqB (htt:Fb P tt=X) {a:α} (x:G) {Q:Exit->St->Prop} (k:AWP P N w0 F0 y Q (eqZ a))
 (h:Wd tt N [(O1.size-1,.val (.b W))] O1.toList [2,3,4,t] [2,3] (eqZ a)=S (eqY a t W, [.eq (.b (!(x==x))) (.b W)]):=by kernel_rfl) (hg:get (eqY a t W).tm t=S (.b W):=by kernel_rfl) (hk:(eqY a t W).keep [2,3,4] [2,3]=eqZ a:=by kernel_rfl):AWP P N w0 F0 (.seq (.seq (.region i1 O1 W) (.cond (.tmp t) (.seq (.region i2 O2 W) .ret) .skip)) y) Q (eqZ a):=eqF htt k (by simp) h hg hk
theorem eqT (htt:Fb P tt=X) {a:α} (x:uL) {Q:Exit->St->Prop} (k:AWP P N w0 F0 y Q (eqZ a))
 (h:Wd tt N [(O1.size-1,.val (.b W))] O1.toList [2,3,4,t] [2,3] (eqZ a)=S (eqY a t W, [.eq (.b (!(x.toList==x.toList))) (.b W)]):=by kernel_rfl) (hg:get (eqY a t W).tm t=S (.b W):=by kernel_rfl) (hk:(eqY a t W).keep [2,3,4] [2,3]=eqZ a:=by kernel_rfl):AWP P N w0 F0 (.seq (.seq (.region i1 O1 W) (.cond (.tmp t) (.seq (.region i2 O2 W) .ret) .skip)) y) Q (eqZ a):=eqF htt k (by simp) h hg hk
def toM {β:Type} (l:Y β) (d:β) (k:T):Y β:=l.take k++yF (l.length-k) d
theorem Qk5 {β:Type} (l:Y β) (d:β) {k:T} (h:k<l.length):(toM l d k)[k]? =S d:=by
 unfold toM;rw[List.getElem?_append_right (by simp;omega),List.getElem?_replicate];simp;omega
theorem Qnj {β:Type} {l:Y β} (d:β) {k:T} {a:β} (h:l[k]? =S a):(toM l d k).set k a=toM l d (k+1):=by
 have hk:k<l.length:=(yB.1 h).1;obtain ⟨m,hm⟩:∃m,l.length-k=m+1:=⟨l.length-k-1,by omega⟩;unfold toM;rw[hm,show l.length-(k+1)=m by omega,List.replicate_succ,List.set_append_right _ _ (by simp;omega),List.take_add_one,h];simp[Nat.min_eq_left (Nat.le_of_lt hk)]
theorem toS (d:α) (htt:Fb P tt=X) (hf:P.funcs[f]? =S fn) (j:T) (mid:α->Y (T×Orc)) (mo:α->Y Ob) (hg:∀(w0:Base) [GoodAt P w0] (a:α) (orcs:Y (T×Orc)) (obs:Y Ob),PL (Zk P w0) (Vs P w0) orcs obs->PL (Zk P w0) (Vs P w0) (mid a++orcs) (mo a++obs)) (l:Y α)
 (hb:fn.body=S (.seq (.region i0 O0 W) (.seq (.region i1 O1 W) (.seq (.seq (.region i2 O2 W) (.block B (.loop (.seq (.seq (.region i3 O3 W) (.cond (.tmp 11) .skip (.exit B))) (.seq (.block B1 (.region i5 O5 W)) (.region i4 O4 W)))))) (.seq (.region i6 O6 W) .ret)))):=by exact rfl)
 (hok:F9 P f:=by unfold F9;kernel_rfl) (hn:1<=fn.ntmps:=by exact zW rfl)
 (h0:Wd tt fn.ntmps [] O0.toList [0] [] (YB [.h l])=S (⟨[(0,.h l)], []⟩, []):=by kernel_rfl)
 (h1:Wd tt fn.ntmps [(1,.val (.i (l.length:u)))] O1.toList [3,0] [] ⟨[(0,.h l)], []⟩=S (⟨[(3,.one (.slc (.own X 448) (GoD.n α) (yF l.length (enc d)))),(0,.h l)], []⟩, [.eq (.i ((eL l).length:u)) (.i (l.length:u)),.rng 0 (l.length:u) 1073741824]):=by kernel_rfl)
 (h2:∀m:Y α,Wd tt fn.ntmps [] O2.toList [4,3,0] [] ⟨[(3,.one (.slc (.own X 448) (GoD.n α) (eL m))),(0,.h l)], []⟩=S (⟨[(4,.i 0),(3,.one (.slc (.own X 448) (GoD.n α) (eL m))),(0,.h l)], []⟩, []):=by intro m;kernel_rfl)
 (h3:∀(k:T) (m:Y α) (b:G),Wd tt fn.ntmps [(2,.val (.i (l.length:u))),(3,.val (.b b))] O3.toList [4,3,0,11] [] ⟨[(4,.i (k:u)),(3,.one (.slc (.own X 448) (GoD.n α) (eL m))),(0,.h l)], []⟩=S (⟨[(4,.i (k:u)),(3,.one (.slc (.own X 448) (GoD.n α) (eL m))),(0,.h l),(11,.b b)], []⟩, [.eq (.i ((eL l).length:u)) (.i (l.length:u)),.eq (.b (decide ((k:u)<(l.length:u)))) (.b b)]):=by intro k m b;kernel_rfl)
 (h5:∀(k:T) (m:Y α) (a x:α),Wd tt fn.ntmps ((4,.row (enc a))::(mid a++ [(j,.rowE (enc x))])) O5.toList [4,3,0] [] ⟨[(4,.i (k:u)),(3,.one (.slc (.own X 448) (GoD.n α) (eL m))),(0,.h l),(11,.b X)], []⟩=S (⟨[(4,.i (k:u)),(3,.one (.slc (.own X 448) (GoD.n α) (setRow (eL m) k 0 (enc a)))),(0,.h l)], []⟩,(.elem (eL l) (k:u) (enc a)::(mo a++ [.elem (eL m) (k:u) (enc x)]))):=by intro k m a x;kernel_rfl)
 (h4:∀(k:T) (m:Y α),Wd tt fn.ntmps [(1,.val (.i ((k+1:T):u)))] O4.toList [4,3,0] [] ⟨[(4,.i (k:u)),(3,.one (.slc (.own X 448) (GoD.n α) (eL m))),(0,.h l)], []⟩=S (⟨[(4,.i ((k+1:T):u)),(3,.one (.slc (.own X 448) (GoD.n α) (eL m))),(0,.h l)], []⟩, [.eq (.i (IntKind.i64.wrap ((k:u)+1))) (.i ((k+1:T):u))]):=by intro k m;kernel_rfl)
 (h6:∀m:Y α,Wd tt fn.ntmps [] O6.toList [2] [] ⟨[(3,.one (.slc (.own X 448) (GoD.n α) (eL m)))], []⟩=S (⟨[(2,.one (.slc (.own X 448) (GoD.n α) (eL m)))], []⟩, []):=by intro m;kernel_rfl)
 (hr:∀m:Y α,Lw tt fn.results.toList ⟨[(2,.one (.slc (.own X 448) (GoD.n α) (eL m)))], []⟩=S (GF m):=by intro m;kernel_rfl)
 (hlen:∀a b:α,(enc a).length=(enc b).length:=by intro a b;rfl):ACalls P f [.h l] (GF l):=by
 refine Tt htt hf hb hok hn λw0 F0 hG=> ?_
 refine Qb (Jm htt [] _ _ h0 p0 ?_);refine wT 0 0 .sh l (λhw hl=> ?_) rfl;refine Qb (Jm htt _ _ _ h1 (pl 1 l (px (show (0:u)<=0/\(0:u)<=(l.length:u)/\(l.length:u)<=((1073741824:T):u) by omega) p0)) ?_);have e0:yF l.length (enc d)=eL (toM l d 0):=by simp[toM,eL]
 rw[e0];refine Qb (Qb (Jm htt [] _ _ (h2 _) p0 ?_));refine Wv (σ:=uB) (τ:=uB) (λk _=>⟨[(4,.i (k:u)),(3,.one (.slc (.own X 448) (GoD.n α) (eL (toM l d k)))),(0,.h l)], []⟩) (λ_=>⟨[(3,.one (.slc (.own X 448) (GoD.n α) (eL l)))], []⟩) (λ_ _=>True) (λ_=>True) l.length () (Qec rfl) trivial (λk _ hk _=> ?_) (λk _ hk _=> ?_) (λ_ _=> ?_)
 . obtain ⟨a,hx⟩:=Xh (l:=l) (i:=k) hk;refine Qb (Qb (Jm htt _ _ _ (h3 k _ X) (pl 2 l (pt 3 (uF (p:=(k:u)<(l.length:u)) (by omega)) p0)) ?_));refine ckT (Qf ?_);refine Qb (Qo (Jm htt _ _ _ (h5 k _ a d) (pn 4 hx (hg w0 a _ _ (pN j (Qk5 l d hk) p0))) ?_));rw[Ke (y:=a) (Qk5 l d hk) (by rw[Nat.zero_add,List.take_zero,zG,List.drop_eq_nil_of_le (Nat.le_of_eq (hlen d a)),List.append_nil]),Qnj d hx];exact Jm htt _ _ _ (h4 k _) (pe 1 (Jl (Qn k (by omega))) p0) ⟨(),Qec rfl,trivial⟩
 . subst hk;refine Qb (Qb (Jm htt _ _ _ (h3 _ _ W) (pl 2 l (pf 3 (uE (p:=(l.length:u)<(l.length:u)) (by omega)) p0)) ?_));refine ckF (Q4 ?_);show (bif Nat.beq B B then _ else _:Prop);rw[Nat.beq_refl];refine ⟨(), ?_,trivial⟩;rw[show toM l d l.length=l by simp[toM]];exact Qe rfl
 exact Qb (Jm htt [] _ _ (h6 _) p0 (Qd (G9 [] (hr _) rfl)))
end
open GoE (enc wide)
theorem Qcg (a:Jd) (left:u) (h0:0<=left) (h1:left<=1048576):ACalls Tryz.prog 4 [H9 a,Qpz left] (Qpz (szI (GoD.size a) left)):=Qcb (by unfold F9;kernel_rfl) h0 h1 λw c hr=>CZ w c a left hr h0 h1
def Tg (a_:Y7):Y7:=a_
theorem FZ (a_:Y7):ACalls Tryz.prog 134 [.a [.s a_.1,.i a_.2]] (.a [.s ((Tg a_).1),.i ((Tg a_).2)]):=by
 refine en Qa Tryz.func134 λw0 F0 hG=> ?_
 exact sn Qa [1,2] [1,2] p0 <| tn Qa [1,2,3] [1,2,3] p0 <| tu Qa [(1,.p 1 0),(2,.p 2 0),(3,.p 3 0)] [0] [(1, [.s a_.1,.i a_.2]),(2, [.s ⟨#[]⟩,.i 0]),(3, [.s a_.1,.i 0])] [] p0 <| sn Qa [2,3] [2,3] p0 <| tn Qa [2] [2] p0 <| Qd <| pz [] (show Tg a_=a_ from rfl) (λz=> .a [.s z.1,.i z.2])
theorem Qgw (a:Y7):ACalls Tryz.prog 134 [H9 a] (Re a):=FZ a
theorem Qch (l:Y Y7):ACalls Tryz.prog 84 [.h l] (GF l):=toS default Qa Tryz.func84 7 (λa=> [(6,.val (Re a))]) (λa=> [.call 134 [H9 a] (Re a)]) (λ_ _ a _ _=>pc 6 (Qgw a)) l
def N3 (a_:K4):K4:=a_
theorem GA (a_:K4):ACalls Tryz.prog 225 [.a [.i a_.1,.i a_.2.1,.s a_.2.2]] (.a [.i ((N3 a_).1),.i ((N3 a_).2.1),.s ((N3 a_).2.2)]):=by
 refine en Qa Tryz.func225 λw0 F0 hG=> ?_
 exact sn Qa [1,2] [1,2] p0 <| tn Qa [1,2,3] [1,2,3] p0 <| tu Qa [(1,.p 1 0),(2,.p 2 0),(3,.p 3 0)] [0] [(1, [.i a_.1,.i a_.2.1,.s a_.2.2]),(2, [.i 0,.i 0,.s ⟨#[]⟩]),(3, [.i a_.1,.i 0,.s ⟨#[]⟩])] [] p0 <| sn Qa [1,2,3] [1,2,3] p0 <| tn Qa [2,3] [2,3] p0 <| tu Qa [] [1,3] [(2, [.i a_.1,.i a_.2.1,.s a_.2.2])] [1,2,3] p0 <| Qd <| pz [] (show N3 a_=a_ from rfl) (λz=> .a [.i z.1,.i z.2.1,.s z.2.2])
theorem NH (a:K4):ACalls Tryz.prog 225 [H9 a] (Re a):=GA a
def M1 (a_:Ui):Ui:=a_
theorem NI (a_:Ui):ACalls Tryz.prog 224 [.a [.s a_.1,.i a_.2.1,.i a_.2.2.1,.s a_.2.2.2]] (.a [.s ((M1 a_).1),.i ((M1 a_).2.1),.i ((M1 a_).2.2.1),.s ((M1 a_).2.2.2)]):=by
 refine en Qa Tryz.func224 λw0 F0 hG=> ?_
 exact sn Qa [1,2] [1,2] p0 <| tn Qa [1,2,3] [1,2,3] p0 <| tu Qa [(1,.p 1 0),(2,.p 2 0),(3,.p 3 0)] [0] [(1, [.s a_.1,.i a_.2.1,.i a_.2.2.1,.s a_.2.2.2]),(2, [.s ⟨#[]⟩,.i 0,.i 0,.s ⟨#[]⟩]),(3, [.s a_.1,.i 0,.i 0,.s ⟨#[]⟩])] [] p0 <| sn Qa [2,3] [2,3] (pc 2 (NH a_.2) p0) <| tn Qa [2] [2] p0 <| Qd <| pz [] (show M1 a_=a_ from rfl) (λz=> .a [.s z.1,.i z.2.1,.i z.2.2.1,.s z.2.2.2])
theorem Qjs (a:Ui):ACalls Tryz.prog 224 [H9 a] (Re a):=NI a
theorem Qgx (l:Y Ui):ACalls Tryz.prog 181 [.h l] (GF l):=toS default Qa Tryz.func181 7 (λa=> [(6,.val (Re a))]) (λa=> [.call 224 [H9 a] (Re a)]) (λ_ _ a _ _=>pc 6 (Qjs a)) l
def Iq (a_:Yj):Yj:=a_
theorem NJ (a_:Yj):ACalls Tryz.prog 135 [.a [.i a_.1,.i a_.2.1,.b a_.2.2.1,.i a_.2.2.2.1,.h a_.2.2.2.2]] (.a [.i ((Iq a_).1),.i ((Iq a_).2.1),.b ((Iq a_).2.2.1),.i ((Iq a_).2.2.2.1),.o 0 ((Iq a_).2.2.2.2)]):=by
 refine en Qa Tryz.func135 λw0 F0 hG=> ?_
 exact sn Qa [1,2] [1,2] p0 <| tn Qa [1,2,3] [1,2,3] p0 <| tu Qa [(1,.p 1 0),(2,.p 2 0),(3,.p 3 0)] [0] [(1, [.i a_.1,.i a_.2.1,.b a_.2.2.1,.i a_.2.2.2.1,.h a_.2.2.2.2]),(2, [.i 0,.i 0,.b W,.i 0,.e 4]),(3, [.i a_.1,.i 0,.b W,.i 0,.e 4])] [] p0 <| sn Qa [1,2,3] [1,2,3] p0 <| tn Qa [1,2,3] [1,2,3] p0 <| tu Qa [] [] [(3, [.i a_.1,.i a_.2.1,.b a_.2.2.1,.i a_.2.2.2.1,.e 4])] [3] p0 <| sn Qa [2,3] [2,3] (pc 2 (Qgx a_.2.2.2.2) p0) <| tn Qa [2] [2] p0 <| Qd <| pz [] (show Iq a_=a_ from rfl) (λz=> .a [.i z.1,.i z.2.1,.b z.2.2.1,.i z.2.2.2.1,.o 0 z.2.2.2.2])
theorem Qjt (a:Yj):ACalls Tryz.prog 135 [H9 a] (Re a):=NJ a
theorem Qgy (l:Y Yj):ACalls Tryz.prog 85 [.h l] (GF l):=toS default Qa Tryz.func85 7 (λa=> [(6,.val (Re a))]) (λa=> [.call 135 [H9 a] (Re a)]) (λ_ _ a _ _=>pc 6 (Qjt a)) l
def N4 (a_:Yk):Yk:=a_
theorem GB (a_:Yk):ACalls Tryz.prog 43 [.a [.h a_.1,.h a_.2.1,.i a_.2.2]] (.a [.o 0 ((N4 a_).1),.o 1 ((N4 a_).2.1),.i ((N4 a_).2.2)]):=by
 refine en Qa Tryz.func43 λw0 F0 hG=> ?_
 exact sn Qa [1,2] [1,2] p0 <| tn Qa [1,2,3] [1,2,3] p0 <| tu Qa [(1,.p 1 0),(2,.p 2 0),(3,.p 3 0)] [0] [(1, [.h a_.1,.h a_.2.1,.i a_.2.2]),(2, [.e 2,.e 5,.i 0]),(3, [.o 384 a_.1,.e 5,.i 0])] [] (pc 2 (Qch a_.1) p0) <| sn Qa [1,2,3] [1,2,3] (pc 2 (Qgy a_.2.1) p0) <| tn Qa [2,3] [2,3] p0 <| tu Qa [] [1,3] [(2, [.o 384 a_.1,.o 640 a_.2.1,.i a_.2.2])] [1,2,3] p0 <| Qd <| pz [] (show N4 a_=a_ from rfl) (λz=> .a [.o 0 z.1,.o 1 z.2.1,.i z.2.2])
theorem NK (a:Yk):ACalls Tryz.prog 43 [H9 a] (Re a):=GB a
def Ee (a_:Q2):Q2:=a_
theorem NL (a_:Q2):ACalls Tryz.prog 182 [.a [.i a_.1,.i a_.2.1,.i a_.2.2.1,.s a_.2.2.2.1,.i a_.2.2.2.2.1,.i a_.2.2.2.2.2.1,.s a_.2.2.2.2.2.2]] (.a [.i ((Ee a_).1),.i ((Ee a_).2.1),.i ((Ee a_).2.2.1),.s ((Ee a_).2.2.2.1),.i ((Ee a_).2.2.2.2.1),.i ((Ee a_).2.2.2.2.2.1),.s ((Ee a_).2.2.2.2.2.2)]):=by
 refine en Qa Tryz.func182 λw0 F0 hG=> ?_
 exact sn Qa [1,2] [1,2] p0 <| tn Qa [1,2,3] [1,2,3] p0 <| tu Qa [(1,.p 1 0),(2,.p 2 0),(3,.p 3 0)] [0] [(1, [.i a_.1,.i a_.2.1,.i a_.2.2.1,.s a_.2.2.2.1,.i a_.2.2.2.2.1,.i a_.2.2.2.2.2.1,.s a_.2.2.2.2.2.2]),(2, [.i 0,.i 0,.i 0,.s ⟨#[]⟩,.i 0,.i 0,.s ⟨#[]⟩]),(3, [.i a_.1,.i 0,.i 0,.s ⟨#[]⟩,.i 0,.i 0,.s ⟨#[]⟩])] [] p0 <| sn Qa [1,2,3] [1,2,3] p0 <| tn Qa [1,2,3] [1,2,3] p0 <| tu Qa [] [] [(3, [.i a_.1,.i a_.2.1,.i a_.2.2.1,.s a_.2.2.2.1,.i 0,.i 0,.s ⟨#[]⟩])] [3] p0 <| sn Qa [2,3] [2,3] (pc 2 (NH a_.2.2.2.2) p0) <| tn Qa [2] [2] p0 <| Qd <| pz [] (show Ee a_=a_ from rfl) (λz=> .a [.i z.1,.i z.2.1,.i z.2.2.1,.s z.2.2.2.1,.i z.2.2.2.2.1,.i z.2.2.2.2.2.1,.s z.2.2.2.2.2.2])
theorem Qju (a:Q2):ACalls Tryz.prog 182 [H9 a] (Re a):=NL a
theorem Qgz (l:Y Q2):ACalls Tryz.prog 136 [.h l] (GF l):=toS default Qa Tryz.func136 7 (λa=> [(6,.val (Re a))]) (λa=> [.call 182 [H9 a] (Re a)]) (λ_ _ a _ _=>pc 6 (Qju a)) l
def HX (a_:Zj):Zj:=a_
theorem RP (a_:Zj):ACalls Tryz.prog 86 [.a [.s a_.1,.h a_.2]] (.a [.s ((HX a_).1),.o 0 ((HX a_).2)]):=by
 refine en Qa Tryz.func86 λw0 F0 hG=> ?_
 exact sn Qa [1,2] [1,2] p0 <| tn Qa [1,2,3] [1,2,3] p0 <| tu Qa [(1,.p 1 0),(2,.p 2 0),(3,.p 3 0)] [0] [(1, [.s a_.1,.h a_.2]),(2, [.s ⟨#[]⟩,.e 7]),(3, [.s a_.1,.e 7])] [] p0 <| sn Qa [2,3] [2,3] (pc 2 (Qgz a_.2) p0) <| tn Qa [2] [2] p0 <| Qd <| pz [] (show HX a_=a_ from rfl) (λz=> .a [.s z.1,.o 0 z.2])
theorem Qnk (a:Zj):ACalls Tryz.prog 86 [H9 a] (Re a):=RP a
theorem Qas (l:Y Zj):ACalls Tryz.prog 44 [.h l] (GF l):=toS default Qa Tryz.func44 7 (λa=> [(6,.val (Re a))]) (λa=> [.call 86 [H9 a] (Re a)]) (λ_ _ a _ _=>pc 6 (Qnk a)) l
theorem XP (l:Y u):ACalls Tryz.prog 21 [.h l] (GF l):=toS default Qa Tryz.func21 6 (λ_=> []) (λ_=> []) (λ_ _ _ _ _ h=>h) l
def P7 (a_:Qp):Qp:=a_
theorem AU (a_:Qp):ACalls Tryz.prog 87 [.a [.s a_.1,.h a_.2]] (.a [.s ((P7 a_).1),.o 0 ((P7 a_).2)]):=by
 refine en Qa Tryz.func87 λw0 F0 hG=> ?_
 exact sn Qa [1,2] [1,2] p0 <| tn Qa [1,2,3] [1,2,3] p0 <| tu Qa [(1,.p 1 0),(2,.p 2 0),(3,.p 3 0)] [0] [(1, [.s a_.1,.h a_.2]),(2, [.s ⟨#[]⟩,.e 1]),(3, [.s a_.1,.e 1])] [] p0 <| sn Qa [2,3] [2,3] (pc 2 (XP a_.2) p0) <| tn Qa [2] [2] p0 <| Qd <| pz [] (show P7 a_=a_ from rfl) (λz=> .a [.s z.1,.o 0 z.2])
theorem Qci (a:Qp):ACalls Tryz.prog 87 [H9 a] (Re a):=AU a
theorem RQ (l:Y Qp):ACalls Tryz.prog 45 [.h l] (GF l):=toS default Qa Tryz.func45 7 (λa=> [(6,.val (Re a))]) (λa=> [.call 87 [H9 a] (Re a)]) (λ_ _ a _ _=>pc 6 (Qci a)) l
def Cs (a_:U7):U7:=a_
theorem HY (a_:U7):ACalls Tryz.prog 17 [.a [.h a_.1.1,.h a_.1.2.1,.i a_.1.2.2,.h a_.2.1,.h a_.2.2]] (.a [.o 0 ((Cs a_).1.1),.o 1 ((Cs a_).1.2.1),.i ((Cs a_).1.2.2),.o 2 ((Cs a_).2.1),.o 3 ((Cs a_).2.2)]):=by
 refine en Qa Tryz.func17 λw0 F0 hG=> ?_
 exact sn Qa [1,2] [1,2] p0 <| tn Qa [1,2,3] [1,2,3] p0 <| tu Qa [(1,.p 1 0),(2,.p 2 0),(3,.p 3 0)] [0] [(1, [.h a_.1.1,.h a_.1.2.1,.i a_.1.2.2,.h a_.2.1,.h a_.2.2]),(2, [.e 2,.e 5,.i 0,.e 2,.e 2]),(3, [.o 384 a_.1.1,.o 385 a_.1.2.1,.i a_.1.2.2,.e 2,.e 2])] [] (pc 2 (NK a_.1) p0) <| sn Qa [1,2,3] [1,2,3] (pc 2 (Qas a_.2.1) p0) <| tn Qa [2,3] [2,3] (pc 2 (RQ a_.2.2) p0) <| tu Qa [] [1,3] [(2, [.o 384 a_.1.1,.o 385 a_.1.2.1,.i a_.1.2.2,.o 640 a_.2.1,.o 896 a_.2.2])] [1,2,3] p0 <| Qd <| pz [] (show Cs a_=a_ from rfl) (λz=> .a [.o 0 z.1.1,.o 1 z.1.2.1,.i z.1.2.2,.o 2 z.2.1,.o 3 z.2.2])
theorem RR (a:U7):ACalls Tryz.prog 17 [H9 a] (Re a):=HY a
def ZR (a_:Nh):Nh:=a_
theorem NM (a_:Nh):ACalls Tryz.prog 18 [.a [.s a_.1,.s a_.2]] (.a [.s ((ZR a_).1),.s ((ZR a_).2)]):=by
 refine en Qa Tryz.func18 λw0 F0 hG=> ?_
 exact sn Qa [1,2] [1,2] p0 <| tn Qa [1,2,3] [1,2,3] p0 <| tu Qa [(1,.p 1 0),(2,.p 2 0),(3,.p 3 0)] [0] [(1, [.s a_.1,.s a_.2]),(2, [.s ⟨#[]⟩,.s ⟨#[]⟩]),(3, [.s a_.1,.s ⟨#[]⟩])] [] p0 <| sn Qa [2,3] [2,3] p0 <| tn Qa [2] [2] p0 <| Qd <| pz [] (show ZR a_=a_ from rfl) (λz=> .a [.s z.1,.s z.2])
theorem Qjv (a:Nh):ACalls Tryz.prog 18 [H9 a] (Re a):=NM a
def C7 (a_:Qq):Qq:=a_
theorem JY (a_:Qq):ACalls Tryz.prog 88 [.a [.h a_.1.1,.h a_.1.2.1,.i a_.1.2.2,.h a_.2]] (.a [.o 0 ((C7 a_).1.1),.o 1 ((C7 a_).1.2.1),.i ((C7 a_).1.2.2),.o 2 ((C7 a_).2)]):=by
 refine en Qa Tryz.func88 λw0 F0 hG=> ?_
 exact sn Qa [1,2] [1,2] p0 <| tn Qa [1,2,3] [1,2,3] p0 <| tu Qa [(1,.p 1 0),(2,.p 2 0),(3,.p 3 0)] [0] [(1, [.h a_.1.1,.h a_.1.2.1,.i a_.1.2.2,.h a_.2]),(2, [.e 2,.e 5,.i 0,.e 2]),(3, [.o 384 a_.1.1,.o 385 a_.1.2.1,.i a_.1.2.2,.e 2])] [] (pc 2 (NK a_.1) p0) <| sn Qa [2,3] [2,3] (pc 2 (Qas a_.2) p0) <| tn Qa [2] [2] p0 <| Qd <| pz [] (show C7 a_=a_ from rfl) (λz=> .a [.o 0 z.1.1,.o 1 z.1.2.1,.i z.1.2.2,.o 2 z.2])
theorem NN (a:Qq):ACalls Tryz.prog 88 [H9 a] (Re a):=JY a
def Au (a_:Yn):Yn:=a_
theorem HZ (a_:Yn):ACalls Tryz.prog 46 [.a [.i a_.1,.h a_.2.1.1.1,.h a_.2.1.1.2.1,.i a_.2.1.1.2.2,.h a_.2.1.2,.i a_.2.2]] (.a [.i ((Au a_).1),.o 0 ((Au a_).2.1.1.1),.o 1 ((Au a_).2.1.1.2.1),.i ((Au a_).2.1.1.2.2),.o 2 ((Au a_).2.1.2),.i ((Au a_).2.2)]):=by
 refine en Qa Tryz.func46 λw0 F0 hG=> ?_
 exact sn Qa [1,2] [1,2] p0 <| tn Qa [1,2,3] [1,2,3] p0 <| tu Qa [(1,.p 1 0),(2,.p 2 0),(3,.p 3 0)] [0] [(1, [.i a_.1,.h a_.2.1.1.1,.h a_.2.1.1.2.1,.i a_.2.1.1.2.2,.h a_.2.1.2,.i a_.2.2]),(2, [.i 0,.e 2,.e 5,.i 0,.e 2,.i 0]),(3, [.i a_.1,.e 2,.e 5,.i 0,.e 2,.i 0])] [] p0 <| sn Qa [1,2,3] [1,2,3] (pc 2 (NN a_.2.1) p0) <| tn Qa [2,3] [2,3] p0 <| tu Qa [] [1,3] [(2, [.i a_.1,.o 576 a_.2.1.1.1,.o 577 a_.2.1.1.2.1,.i a_.2.1.1.2.2,.o 578 a_.2.1.2,.i a_.2.2])] [1,2,3] p0 <| Qd <| pz [] (show Au a_=a_ from rfl) (λz=> .a [.i z.1,.o 0 z.2.1.1.1,.o 1 z.2.1.1.2.1,.i z.2.1.1.2.2,.o 2 z.2.1.2,.i z.2.2])
theorem RS (a:Yn):ACalls Tryz.prog 46 [H9 a] (Re a):=HZ a
theorem NO (l:Y Yn):ACalls Tryz.prog 19 [.h l] (GF l):=toS default Qa Tryz.func19 7 (λa=> [(6,.val (Re a))]) (λa=> [.call 46 [H9 a] (Re a)]) (λ_ _ a _ _=>pc 6 (RS a)) l
def N5 (a_:K5):K5:=a_
theorem GC (a_:K5):ACalls Tryz.prog 137 [.a [.i a_.1,.h a_.2.1,.h a_.2.2]] (.a [.i ((N5 a_).1),.o 0 ((N5 a_).2.1),.o 1 ((N5 a_).2.2)]):=by
 refine en Qa Tryz.func137 λw0 F0 hG=> ?_
 exact sn Qa [1,2] [1,2] p0 <| tn Qa [1,2,3] [1,2,3] p0 <| tu Qa [(1,.p 1 0),(2,.p 2 0),(3,.p 3 0)] [0] [(1, [.i a_.1,.h a_.2.1,.h a_.2.2]),(2, [.i 0,.e 1,.e 1]),(3, [.i a_.1,.e 1,.e 1])] [] p0 <| sn Qa [1,2,3] [1,2,3] (pc 2 (XP a_.2.1) p0) <| tn Qa [2,3] [2,3] (pc 2 (XP a_.2.2) p0) <| tu Qa [] [1,3] [(2, [.i a_.1,.o 576 a_.2.1,.o 832 a_.2.2])] [1,2,3] p0 <| Qd <| pz [] (show N5 a_=a_ from rfl) (λz=> .a [.i z.1,.o 0 z.2.1,.o 1 z.2.2])
theorem Qg0 (a:K5):ACalls Tryz.prog 137 [H9 a] (Re a):=GC a
theorem Qcj (l:Y K5):ACalls Tryz.prog 89 [.h l] (GF l):=toS default Qa Tryz.func89 7 (λa=> [(6,.val (Re a))]) (λa=> [.call 137 [H9 a] (Re a)]) (λ_ _ a _ _=>pc 6 (Qg0 a)) l
def Lg (a_:Z7):Z7:=a_
theorem GD (a_:Z7):ACalls Tryz.prog 47 [.a [.i a_.1,.s a_.2.1,.h a_.2.2.1,.h a_.2.2.2]] (.a [.i ((Lg a_).1),.s ((Lg a_).2.1),.o 0 ((Lg a_).2.2.1),.o 1 ((Lg a_).2.2.2)]):=by
 refine en Qa Tryz.func47 λw0 F0 hG=> ?_
 exact sn Qa [1,2] [1,2] p0 <| tn Qa [1,2,3] [1,2,3] p0 <| tu Qa [(1,.p 1 0),(2,.p 2 0),(3,.p 3 0)] [0] [(1, [.i a_.1,.s a_.2.1,.h a_.2.2.1,.h a_.2.2.2]),(2, [.i 0,.s ⟨#[]⟩,.e 1,.e 3]),(3, [.i a_.1,.s ⟨#[]⟩,.e 1,.e 3])] [] p0 <| sn Qa [1,2,3] [1,2,3] p0 <| tn Qa [1,2,3] [1,2,3] (pc 2 (XP a_.2.2.1) p0) <| tu Qa [] [1] [(3, [.i a_.1,.s a_.2.1,.o 768 a_.2.2.1,.o 1024 a_.2.2.2])] [1,3] (pc 2 (Qcj a_.2.2.2) p0) <| sn Qa [2] [2] p0 <| Qd <| pz [] (show Lg a_=a_ from rfl) (λz=> .a [.i z.1,.s z.2.1,.o 0 z.2.2.1,.o 1 z.2.2.2])
theorem Qg1 (a:Z7):ACalls Tryz.prog 47 [H9 a] (Re a):=GD a
theorem Qck (l:Y Z7):ACalls Tryz.prog 20 [.h l] (GF l):=toS default Qa Tryz.func20 7 (λa=> [(6,.val (Re a))]) (λa=> [.call 47 [H9 a] (Re a)]) (λ_ _ a _ _=>pc 6 (Qg1 a)) l
def Wc (a_:Jd):Jd:=a_
theorem AW (a_:Jd):ACalls Tryz.prog 6 [.a [.h a_.1.1.1,.h a_.1.1.2.1,.i a_.1.1.2.2,.h a_.1.2.1,.h a_.1.2.2,.s a_.2.1.1,.s a_.2.1.2,.i a_.2.2.1,.h a_.2.2.2.1,.h a_.2.2.2.2.1,.h a_.2.2.2.2.2]] (.a [.o 0 ((Wc a_).1.1.1),.o 1 ((Wc a_).1.1.2.1),.i ((Wc a_).1.1.2.2),.o 2 ((Wc a_).1.2.1),.o 3 ((Wc a_).1.2.2),.s ((Wc a_).2.1.1),.s ((Wc a_).2.1.2),.i ((Wc a_).2.2.1),.o 4 ((Wc a_).2.2.2.1),.o 5 ((Wc a_).2.2.2.2.1),.o 6 ((Wc a_).2.2.2.2.2)]):=by
 refine en Qa Tryz.func6 λw0 F0 hG=> ?_
 exact sn Qa [1,2] [1,2] p0 <| tn Qa [1,2,3] [1,2,3] p0 <| tu Qa [(1,.p 1 0),(2,.p 2 0),(3,.p 3 0)] [0] [(1, [.h a_.1.1.1,.h a_.1.1.2.1,.i a_.1.1.2.2,.h a_.1.2.1,.h a_.1.2.2,.s a_.2.1.1,.s a_.2.1.2,.i a_.2.2.1,.h a_.2.2.2.1,.h a_.2.2.2.2.1,.h a_.2.2.2.2.2]),(2, [.e 2,.e 5,.i 0,.e 2,.e 2,.s ⟨#[]⟩,.s ⟨#[]⟩,.i 0,.e 6,.e 4,.e 1]),(3, [.o 384 a_.1.1.1,.o 385 a_.1.1.2.1,.i a_.1.1.2.2,.o 386 a_.1.2.1,.o 387 a_.1.2.2,.s ⟨#[]⟩,.s ⟨#[]⟩,.i 0,.e 6,.e 4,.e 1])] [] (pc 2 (RR a_.1) p0) <| sn Qa [1,2,3] [1,2,3] (pc 2 (Qjv a_.2.1) p0) <| tn Qa [1,2,3] [1,2,3] p0 <| tu Qa [] [] [(3, [.o 384 a_.1.1.1,.o 385 a_.1.1.2.1,.i a_.1.1.2.2,.o 386 a_.1.2.1,.o 387 a_.1.2.2,.s a_.2.1.1,.s a_.2.1.2,.i a_.2.2.1,.o 1088 a_.2.2.2.1,.e 4,.e 1])] [3] (pc 2 (NO a_.2.2.2.1) p0) <| sn Qa [1,2,3] [1,2,3] (pc 2 (Qck a_.2.2.2.2.1) p0) <| tn Qa [2,3] [2,3] (pc 2 (XP a_.2.2.2.2.2) p0) <| tu Qa [] [1,3] [(2, [.o 384 a_.1.1.1,.o 385 a_.1.1.2.1,.i a_.1.1.2.2,.o 386 a_.1.2.1,.o 387 a_.1.2.2,.s a_.2.1.1,.s a_.2.1.2,.i a_.2.2.1,.o 1088 a_.2.2.2.1,.o 1344 a_.2.2.2.2.1,.o 1600 a_.2.2.2.2.2])] [1,2,3] p0 <| Qd <| pz [] (show Wc a_=a_ from rfl) (λz=> .a [.o 0 z.1.1.1,.o 1 z.1.1.2.1,.i z.1.1.2.2,.o 2 z.1.2.1,.o 3 z.1.2.2,.s z.2.1.1,.s z.2.1.2,.i z.2.2.1,.o 4 z.2.2.2.1,.o 5 z.2.2.2.2.1,.o 6 z.2.2.2.2.2])
theorem Qcl (a:Jd):ACalls Tryz.prog 6 [H9 a] (Re a):=AW a
theorem ZT (a:Jd) (h:GoD.size a<=1048576):ACalls Tryz.prog 6 [H9 a] (Re a):=Qcl a
theorem Qg2 (a:Y7):ACalls Tryz.prog 158 [H9 a,H9 a] (.b X):=eqA Qa Tryz.func158 a λ_ _ _=>eqT Qa a.1 <| eqI Qa a.2 <| eqE Qa
theorem Qcm (l:Y Y7):ACalls Tryz.prog 107 [.h l,.h l] (.b X):=eqS Qa Yo Tryz.func107 X (λa=> .call 158 [H9 a,H9 a] (.b X)) (λ_ _ a=>Lx (Qg2 a)) l
theorem NP (a:K4):ACalls Tryz.prog 249 [H9 a,H9 a] (.b X):=eqA Qa Tryz.func249 a λ_ _ _=>eqI Qa a.1 <| eqI Qa a.2.1 <| eqT Qa a.2.2 <| eqE Qa
theorem Qjw (a:Ui):ACalls Tryz.prog 248 [H9 a,H9 a] (.b X):=eqA Qa Tryz.func248 a λ_ _ _=>eqT Qa a.1 <| eqG Qa (NP a.2) <| eqE Qa
theorem Qg3 (l:Y Ui):ACalls Tryz.prog 210 [.h l,.h l] (.b X):=eqS Qa Yo Tryz.func210 X (λa=> .call 248 [H9 a,H9 a] (.b X)) (λ_ _ a=>Lx (Qjw a)) l
theorem Qjx (a:Yj):ACalls Tryz.prog 159 [H9 a,H9 a] (.b X):=eqA Qa Tryz.func159 a λ_ _ _=>eqI Qa a.1 <| eqI Qa a.2.1 <| eqB Qa a.2.2.1 <| eqI Qa a.2.2.2.1 <| eqG Qa (Qg3 a.2.2.2.2) <| eqE Qa
theorem Qg4 (l:Y Yj):ACalls Tryz.prog 108 [.h l,.h l] (.b X):=eqS Qa Yo Tryz.func108 X (λa=> .call 159 [H9 a,H9 a] (.b X)) (λ_ _ a=>Lx (Qjx a)) l
theorem NQ (a:Yk):ACalls Tryz.prog 57 [H9 a,H9 a] (.b X):=eqA Qa Tryz.func57 a λ_ _ _=>eqG Qa (Qcm a.1) <| eqG Qa (Qg4 a.2.1) <| eqI Qa a.2.2 <| eqE Qa
theorem Qjy (a:Q2):ACalls Tryz.prog 211 [H9 a,H9 a] (.b X):=eqA Qa Tryz.func211 a λ_ _ _=>eqI Qa a.1 <| eqI Qa a.2.1 <| eqI Qa a.2.2.1 <| eqT Qa a.2.2.2.1 <| eqG Qa (NP a.2.2.2.2) <| eqE Qa
theorem Qg5 (l:Y Q2):ACalls Tryz.prog 160 [.h l,.h l] (.b X):=eqS Qa Yo Tryz.func160 X (λa=> .call 211 [H9 a,H9 a] (.b X)) (λ_ _ a=>Lx (Qjy a)) l
theorem Qnl (a:Zj):ACalls Tryz.prog 109 [H9 a,H9 a] (.b X):=eqA Qa Tryz.func109 a λ_ _ _=>eqT Qa a.1 <| eqG Qa (Qg5 a.2) <| eqE Qa
theorem Qat (l:Y Zj):ACalls Tryz.prog 58 [.h l,.h l] (.b X):=eqS Qa Yo Tryz.func58 X (λa=> .call 109 [H9 a,H9 a] (.b X)) (λ_ _ a=>Lx (Qnl a)) l
theorem XQ (l:Y u):ACalls Tryz.prog 29 [.h l,.h l] (.b X):=eqS Qa Yo Tryz.func29 W (λa=> .eq (.b (a !=a)) (.b W)) (λ_ _ a=>Qm (by simp)) l
theorem Qcn (a:Qp):ACalls Tryz.prog 110 [H9 a,H9 a] (.b X):=eqA Qa Tryz.func110 a λ_ _ _=>eqT Qa a.1 <| eqG Qa (XQ a.2) <| eqE Qa
theorem RT (l:Y Qp):ACalls Tryz.prog 59 [.h l,.h l] (.b X):=eqS Qa Yo Tryz.func59 X (λa=> .call 110 [H9 a,H9 a] (.b X)) (λ_ _ a=>Lx (Qcn a)) l
theorem RU (a:U7):ACalls Tryz.prog 25 [H9 a,H9 a] (.b X):=eqA Qa Tryz.func25 a λ_ _ _=>eqG Qa (NQ a.1) <| eqG Qa (Qat a.2.1) <| eqG Qa (RT a.2.2) <| eqE Qa
theorem Qjz (a:Nh):ACalls Tryz.prog 26 [H9 a,H9 a] (.b X):=eqA Qa Tryz.func26 a λ_ _ _=>eqT Qa a.1 <| eqT Qa a.2 <| eqE Qa
theorem NR (a:Qq):ACalls Tryz.prog 111 [H9 a,H9 a] (.b X):=eqA Qa Tryz.func111 a λ_ _ _=>eqG Qa (NQ a.1) <| eqG Qa (Qat a.2) <| eqE Qa
theorem RV (a:Yn):ACalls Tryz.prog 60 [H9 a,H9 a] (.b X):=eqA Qa Tryz.func60 a λ_ _ _=>eqI Qa a.1 <| eqG Qa (NR a.2.1) <| eqI Qa a.2.2 <| eqE Qa
theorem NS (l:Y Yn):ACalls Tryz.prog 27 [.h l,.h l] (.b X):=eqS Qa Yo Tryz.func27 X (λa=> .call 60 [H9 a,H9 a] (.b X)) (λ_ _ a=>Lx (RV a)) l
theorem Qg6 (a:K5):ACalls Tryz.prog 161 [H9 a,H9 a] (.b X):=eqA Qa Tryz.func161 a λ_ _ _=>eqI Qa a.1 <| eqG Qa (XQ a.2.1) <| eqG Qa (XQ a.2.2) <| eqE Qa
theorem Qco (l:Y K5):ACalls Tryz.prog 112 [.h l,.h l] (.b X):=eqS Qa Yo Tryz.func112 X (λa=> .call 161 [H9 a,H9 a] (.b X)) (λ_ _ a=>Lx (Qg6 a)) l
theorem Qg7 (a:Z7):ACalls Tryz.prog 61 [H9 a,H9 a] (.b X):=eqA Qa Tryz.func61 a λ_ _ _=>eqI Qa a.1 <| eqT Qa a.2.1 <| eqG Qa (XQ a.2.2.1) <| eqG Qa (Qco a.2.2.2) <| eqE Qa
theorem Qcp (l:Y Z7):ACalls Tryz.prog 28 [.h l,.h l] (.b X):=eqS Qa Yo Tryz.func28 X (λa=> .call 61 [H9 a,H9 a] (.b X)) (λ_ _ a=>Lx (Qg7 a)) l
theorem Qcq (a:Jd):ACalls Tryz.prog 8 [H9 a,H9 a] (.b X):=eqA Qa Tryz.func8 a λ_ _ _=>eqG Qa (RU a.1) <| eqG Qa (Qjz a.2.1) <| eqI Qa a.2.2.1 <| eqG Qa (NS a.2.2.2.1) <| eqG Qa (Qcp a.2.2.2.2.1) <| eqG Qa (XQ a.2.2.2.2.2) <| eqE Qa
theorem Qcr {a b:Jd} (h:a=b):ACalls Tryz.prog 8 [H9 a,H9 b] (Qog X):=h▸Qcq a
def Wg (aX:Jd):G:=(bif decide ((szI (GoD.size aX) 1048576)<(0:u)) then X else X)
theorem Fa (aX:Jd):ACalls Tryz.prog 3 [.a [.h aX.1.1.1,.h aX.1.1.2.1,.i aX.1.1.2.2,.h aX.1.2.1,.h aX.1.2.2,.s aX.2.1.1,.s aX.2.1.2,.i aX.2.2.1,.h aX.2.2.2.1,.h aX.2.2.2.2.1,.h aX.2.2.2.2.2]] (.b (Wg aX)):=by
 refine en Qa Tryz.func3 λw0 F0 hG=> ?_
 refine sn Qa [1,2] [1] p0 <| tn Qa [1,2,3] [1] p0 ?_
 have hz1:=Qpl (GoD.size aX) 1048576;refine tu Qa [(1,.p 1 0),(2,.b W),(3,.i (szI (GoD.size aX) 1048576))] [0] [(1, [.h aX.1.1.1,.h aX.1.1.2.1,.i aX.1.1.2.2,.h aX.1.2.1,.h aX.1.2.2,.s aX.2.1.1,.s aX.2.1.2,.i aX.2.2.1,.h aX.2.2.2.1,.h aX.2.2.2.2.1,.h aX.2.2.2.2.2])] [] (pc 2 (Qcg aX 1048576 (by omega) (by omega)) p0) <| Qb <| sn Qa [1,2,11] [1] p0 <| ck (decide ((szI (GoD.size aX) 1048576)<(0:u))) (λh2=> ?_) (λh2=> ?_)
 ·exact tn Qa [1,2] [1] p0 <| Qd <| pb [] (Q9 h2 (rfl))
 have h2d:=uH h2;refine Qf ?_;have hsz_aX:GoD.size aX<=1048576:=by omega
 exact tn Qa [1,2,4] [1] (pc 1 (ZT aX hsz_aX) (pc 2 ((Qng aX (zP hsz_aX (by decide)))▸(Lk aX (zP hsz_aX (by decide)) (zP (WC (WC (R1 hsz_aX))) (by decide)) (zP (R1 (WC (R1 hsz_aX))) (by decide)))) p0)) <| tu Qa [(4,.b (J8 aX)),(5,.p 5 0)] [3] [(5, [.o 1024 aX.1.1.1,.o 1025 aX.1.1.2.1,.i aX.1.1.2.2,.o 1026 aX.1.2.1,.o 1027 aX.1.2.2,.s aX.2.1.1,.s aX.2.1.2,.i aX.2.2.1,.o 1028 aX.2.2.2.1,.o 1029 aX.2.2.2.2.1,.o 1030 aX.2.2.2.2.2])] [] (pc 1 (ZT aX hsz_aX) p0) <| sn Qa [1,2,4,5,6] [1,5] (pc 1 (Lh aX (zP hsz_aX (by decide)) (zP (WC (WC (R1 hsz_aX))) (by decide)) (zP (R1 (WC (R1 hsz_aX))) (by decide))) p0) <| Qb <| tn Qa [1,2,5,21] [1,5] (pe 2 (show .b (!((J8 aX)==(J8 aX)))= .b W from Qm (by simp)) p0) <| ckF <| Qf <| Qb <| tU Qa Yo [(26,.b W)] [1,4,5] [] [1,5] (pc 2 (ZT aX hsz_aX) (pc 3 (Qcr (a:=aX) (b:=aX) (rfl)) (pe 4 (show .b (!X)= .b W from rfl) p0))) <| ckF <| Qf <| sn Qa [2] [] p0 <| Qd <| pb [] (Qj h2 (rfl))
open GoD (rd own)
set_option maxRecDepth 100000 in
set_option maxHeartbeats 1000000 in
theorem N6 (w:K) (c0:Y H) (a0:Jd) (h0:rd w c0 a0) (hbig:¬(GoD.size a0<=1048576)):Calls Tryz.prog 3 #[.agg c0.toArray] w (Ret w (.bool X)):=by
 obtain ⟨p0_oa1,p0_cp1,p0_oa2,p0_cp2,p0_oa3,p0_cp3,p0_oa4,p0_cp4,p0_oa5,p0_cp5,p0_oa6,p0_cp6,p0_oa7,p0_cp7,rfl⟩:=IQ h0;have HA0:=Lib.hid h0;clear h0;have tok1:True:=trivial;go_enter Tryz.func3,Tryz.ntmps3
 go_wp2_with (first | (go_at_call 4;have tk:=tok1;clear tok1;refine K9 (w:=w) (CZ _ [.slice p0_oa1 a0.1.1.1.length p0_cp1,.slice p0_oa2 a0.1.1.2.1.length p0_cp2,.int .i64 a0.1.1.2.2,.slice p0_oa3 a0.1.2.1.length p0_cp3,.slice p0_oa4 a0.1.2.2.length p0_cp4,.string a0.2.1.1,.string a0.2.1.2,.int .i64 a0.2.2.1,.slice p0_oa5 a0.2.2.2.1.length p0_cp5,.slice p0_oa6 a0.2.2.2.2.1.length p0_cp6,.slice p0_oa7 a0.2.2.2.2.2.length p0_cp7] a0 _ (Jb HA0.out (by repeat (first | (with_reducible exact Below.refl _ _) | (with_reducible refine Below.alloc ?_ (by go_size) _) | (with_reducible refine Below.drew ?_)))) (by omega) (by omega)) (by repeat (first | (with_reducible exact Below.refl _ _) | (with_reducible refine Below.alloc ?_ (by go_size) _) | (with_reducible refine Below.drew ?_))) ?_;intro w1 r1 hB1 hb hz1 _ hr hs1;have HR1:=Lib.hid hr;clear hr;have hz2:=hb.size;(repeat (first | rewrite [World.size_alloc] at hz2 | rewrite [World.size_setCell] at hz2 | rewrite [World.size_drew] at hz2));have c1_0:=λo=>Ir hb (w.heap.size) o (by go_size);have l1_0:w.heap.size<w1.heap.size:=(by go_size);have HB1:=Lib.hid hb;clear hb) | (exfalso;have q1:=HR1.out;apply hbig;unfold szq at*;omega))
 all_goals
  go_ret
  refine ⟨rfl, ?_⟩;first | (with_reducible assumption) | go_grown
theorem C8 (a0:Jd):Wg a0=X:=by
 unfold Wg;simp
theorem N7 (w:K) (c0:Y H) (a0:Jd) (h0:rd w c0 a0) (hG:Good Tryz.prog w):Calls Tryz.prog 3 #[.agg c0.toArray] w (Ret w (.bool X)):=by
 by_cases hbig:GoD.size a0<=1048576
 . haveI:Good Tryz.prog w:=hG
   have h:=(Fa a0).run (.cons (Qlx h0 (GoE.wide_size (show GoD.size a0<=1073741824 by omega))) .nil);rw[C8] at h;exact h.mono λ_ _ h=>Qh7 h
 exact N6 w c0 a0 h0 hbig
end
end Go.Proofs.YteleondjndkpbaaGreatDoor
