/- Texts of this proof, put together by a program: Wse, Wsf, Wsg, Wsh, Wsi, Wsj, Wsk, Wsl, Wsm, Wsm2, Wsn, Wp1, Wp2, Wp3, Wp4, Wp5, Wp6, Dua, Dub. -/
import Derived.Test.YteleondjndkpbaaGreatDoorP5
import Derived.KernelRfl
set_option linter.unusedVariables false
set_option linter.unusedSimpArgs false
namespace Go.Proofs.YteleondjndkpbaaGreatDoor
open _root_ renaming Int → Y, ByteArray → W, List → N, Nat → K, cond_false → J, cond_true → I, Bool → G, congrArg → F, decide_eq_false → uA, of_decide_eq_false → uC, Unit → uD, decide_eq_true → uE, UInt8 → uG, beq_self_eq_true → uH, of_decide_eq_true → uI, decide_eq_true_eq → uJ, or_false → uK, decide_eq_decide → uL
open _root_.Bool renaming true → Q, false → L
open _root_.Go renaming maxLen → H
open _root_.Option renaming some → uB, none → uF
open _root_.And renaming intro → zP
open _root_.Bool renaming and_eq_true → zS, not_true → yB, not_false → yK
open _root_.ByteArray renaming size → zD, size_append → zE
open _root_.Classical renaming byContradiction → yO
open _root_.Exists renaming intro → zM
open _root_.Int renaming toNat → zR, toNat_natCast → yD, tmod → yP
open _root_.List renaming length → zF, length_cons → zG, drop → zH, length_append → zJ, length_nil → zK, append_assoc → zL, mem_cons_of_mem → zN, mem_cons_self → zO, mem_of_getElem? → zU, mem_singleton → zV, append_nil → zW, take → zX, getD_eq_getElem?_getD → zY, mem_cons → yA, map_cons → yC, mem_append → yE, length_drop → yF, length_set → yG, getElem?_of_mem → yH, mem_of_mem_drop → yJ, mem_append_right → yQ, mem_append_left → yR, map_id → yS, drop_succ_cons → yT, mem_map → yU
open _root_.Nat renaming le_of_ble_eq_true → zQ, le_trans → zT, zero_le → zZ, le_refl → yI, zero_add → yN
open _root_.Option.some renaming inj → yM
open _root_.Prod.mk renaming injEq → yL
open Go.RowKit
open GoE (enc wide)
def Fm (_:K) (a0:Ui) (s0:Z):Rd (W) Z Z:=(.next (s0++ [a0.1,(Xv a0.2)]))
def Fn (_:K) (s0:Z):Z:=s0
def Zu (f:Yj):W:=(Out.on (X4 Fm Fn f.2.2.2.2 0 [(⟨#[102,105,108,101]⟩:W),(Qz f.1),(Qz f.2.1),(bif f.2.2.1 then ⟨#[115]⟩ else ⟨#[111]⟩),(Qz f.2.2.2.1)]) (λy0=>(Xl ⟨#[32]⟩ y0)))
theorem JO (f:Yj) (hf:FBd f):ACalls Tryz.prog 102 [.a [.i f.1,.i f.2.1,.b f.2.2.1,.i f.2.2.2.1,.h f.2.2.2.2]] (.s (Zu f)):=by
 refine en Qa Tryz.func102 λw0 F0 hG=> ?_
 have hf1:=hf.1;have hf2:=hf.2.1;have hf3:=hf.2.2.1;have hf4:=hf.2.2.2.1;have hfs:=Qae hf;refine sn Qa [1,2] [1] p0 <| tn Qa [1,2,3] [1] p0 <| Qb <| tu Qa [(1,.p 1 0),(2,.s ⟨#[]⟩),(3,.s ⟨#[111]⟩),(8,.b f.2.2.1)] [0] [(1, [.i f.1,.i f.2.1,.b f.2.2.1,.i f.2.2.2.1,.h f.2.2.2.2])] [] p0 <| jn [(3,.s (bif f.2.2.1 then ⟨#[115]⟩ else ⟨#[111]⟩))] [3,8] [] [] f.2.2.1 (λh1=> ?_) (λh1=> ?_) ?_
 ·refine ckt h1 ?_;refine rn Qa [1,2,3] [1] p0 ?_;exact zA (by rw[h1]<;>kernel_rfl)
 ·refine ckf h1 ?_;exact Qf <| ⟨rfl,Qe (by rw[h1]<;>kernel_rfl)⟩
 have hk2:=J4 (n:=f.1) (by omega);have hk3:=J4 (n:=f.2.1) (by omega);have hk4:=J4 (n:=f.2.2.2.1) (by omega);refine sN Qa Yo [1,2,4] [1] (pc 2 (U3 f.1 (by omega)) (pc 5 (U3 f.2.1 (by omega)) (pc 9 (U3 f.2.2.2.1 (by omega)) p0))) <| Qb <| tn Qa [2,4,21,22,23] [] (pl 2 f.2.2.2.2 p0) <| mz [(4,.o 1216 [(⟨#[102,105,108,101]⟩:W),(Qz f.1),(Qz f.2.1),(bif f.2.2.1 then ⟨#[115]⟩ else ⟨#[111]⟩),(Qz f.2.2.2.1)]),(21,.h f.2.2.2.2),(22,.i (f.2.2.2.2.length:Y)),(23,.i 0)] [1,3] [] [1] <| wT 21 0 .sh f.2.2.2.2 (λhw5 hl6=> ?_)
 refine SV Fm Fn f.2.2.2.2 [(⟨#[102,105,108,101]⟩:W),(Qz f.1),(Qz f.2.1),(bif f.2.2.1 then ⟨#[115]⟩ else ⟨#[111]⟩),(Qz f.2.2.2.1)] (λk0 s0=> [(4,.o 147201 s0),(23,.i (k0:Y))]) [4,23] (λy0=> [(4,.o 147351 y0)]) [4,21,22,23] (λk0 s0=>(∀y,y∈s0->zD y<=10)/\zF s0<=5+2*k0) (λy0=>(∀x,x∈y0->zD x<=10)/\zF y0<=15) (Xg [(1216,147201)] (by kernel_rfl)) ⟨(by first | exact hfs | (simp;done) | decide),(by first | exact hfs | (simp;done) | decide)⟩ (λk0 s0 O U=> ?_) (λk0 s0 O U=> ?_) (λy0 hD0=> ?_)
 ·have hA0_0:=U.2.1;have hA0_1:=U.2.2;obtain ⟨a0,V⟩:=Xh (l:=f.2.2.2.2) (i:=k0) O;refine su Qa [(24,.b Q)] [] [] [] (pe 0 (zB ((k0:Y)<(f.2.2.2.2.length:Y))) p0) <| Qb <| ckT <| Qf <| Qb <| Qo <| sn Qa [2,4,6,21,22,23] [6] (pn 0 V p0) ?_
  have hk7:=RC a0.2;refine wT 4 0 (.own Q 147201) s0 (λhw8 hl9=> ?_);refine qU Qa Yo [(4,.one (.slc (.own Q 2176) 1 ((eL s0)++ [[.s a0.1], [.s (Xv a0.2)]])))] [4,24] [] [] (pc 5 (Mw a0.2) (pa s0 [a0.1,(Xv a0.2)] p0)) ?_;refine eqn [(4,.o 2176 (s0++ [a0.1,(Xv a0.2)]))] [4] [] [] (by rw[show ((eL s0)++ [[.s a0.1], [.s (Xv a0.2)]])=(eL (s0++ [a0.1,(Xv a0.2)])) from Jc (rfl) (rfl)];first | done | kernel_rfl) ?_;refine rn Qa [2,4,21,22,23] [] (pe 0 (Jl (Qn k0 (by omega))) p0) ?_;exact zM (s0++ [a0.1,(Xv a0.2)]) (zP (Xg [(2176,147201)] (by kernel_rfl)) ⟨Qs V (rfl) U.1,(by first | exact Qfr hf V hA0_0 | (simp;omega)),(by first | exact Qfr hf V hA0_0 | (simp;omega))⟩)
 ·have hA0_0:=U.2.1;have hA0_1:=U.2.2;exact su Qa [(24,.b L)] [] [] [] (pe 0 (zC ((k0:Y)<(f.2.2.2.2.length:Y))) p0) <| Qb <| ckF <| Q4 <| zM s0 (zP (Xg [(147201,147351)] (by kernel_rfl)) ⟨Xj O (rfl) U.1,by first | exact hA0_0 | omega,by first | exact hA0_0 | omega⟩)
 have hD0_0:=hD0.2.1;have hD0_1:=hD0.2.2;exact sn Qa [2] [] (pc 1 (Uj y0 ⟨#[32]⟩ (by first | omega | exact zT (W0 (m:=10) (n:=20) rfl (by assumption) (by omega)) (by decide) | (simp only[Jz,K2,Kr,zE];omega))) p0) <| Qd <| ps [] (Vp hD0.1 (rfl))
def Cn (_:K) (a0:Ui) (s0:W):Rd (W) (W) (W):=(.next ((((s0++(⟨#[32]⟩:W))++a0.1)++(⟨#[32]⟩:W))++(Zf a0.2)))
def Co (_:K) (s0:W):W:=s0
def Kk (f:Yj):W:=(Out.on (X4 Cn Co f.2.2.2.2 0 ((bif f.2.2.1 then (((((⟨#[102,105,108,101,32]⟩:W)++(Qz f.1))++(⟨#[32]⟩:W))++(Qz f.2.1))++(⟨#[32,115,32]⟩:W)) else (((((⟨#[102,105,108,101,32]⟩:W)++(Qz f.1))++(⟨#[32]⟩:W))++(Qz f.2.1))++(⟨#[32,111,32]⟩:W)))++(Qz f.2.2.2.1))) (λy0=>y0))
theorem JP (f:Yj) (hf:FBd f):ACalls Tryz.prog 82 [.a [.i f.1,.i f.2.1,.b f.2.2.1,.i f.2.2.2.1,.h f.2.2.2.2]] (.s (Kk f)):=by
 refine en Qa Tryz.func82 λw0 F0 hG=> ?_
 have hf1:=hf.1;have hf2:=hf.2.1;have hf3:=hf.2.2.1;have hf4:=hf.2.2.2.1;have hq1:zD (⟨#[32]⟩:W)=1:=rfl;have hq2:zD (⟨#[102,105,108,101,32]⟩:W)=5:=rfl;have hq3:zD (⟨#[32,115,32]⟩:W)=3:=rfl;have hq4:zD (⟨#[32,111,32]⟩:W)=3:=rfl;refine sn Qa [1,2] [1] p0 ?_;have hk1:=J4 (n:=f.1) (by omega);have hk2:=J4 (n:=f.2.1) (by omega);refine tN Qa Yo [1,2,3] [1] (pc 2 (Wp f.1 (by omega)) (px (Zs (n:=(zD (⟨#[102,105,108,101,32]⟩:W)+zD (Qz f.1))) (by have hq0:zD (⟨#[102,105,108,101,32]⟩:W)=5:=rfl;unfold H;first|omega|(simp only[zE];omega) | (cases f.2.2.1<;>simp only[I,J,zE]<;>omega))) (px (Zs (n:=(zD ((⟨#[102,105,108,101,32]⟩:W)++(Qz f.1))+zD (⟨#[32]⟩:W))) (by have hq0:zD (⟨#[102,105,108,101,32]⟩:W)=5:=rfl;have hq1:zD (⟨#[32]⟩:W)=1:=rfl;unfold H;first|omega|(simp only[zE];omega) | (cases f.2.2.1<;>simp only[I,J,zE]<;>omega))) (pc 7 (Wp f.2.1 (by omega)) (px (Zs (n:=(zD (((⟨#[102,105,108,101,32]⟩:W)++(Qz f.1))++(⟨#[32]⟩:W))+zD (Qz f.2.1))) (by have hq0:zD (⟨#[102,105,108,101,32]⟩:W)=5:=rfl;have hq1:zD (⟨#[32]⟩:W)=1:=rfl;unfold H;first|omega|(simp only[zE];omega) | (cases f.2.2.1<;>simp only[I,J,zE]<;>omega))) p0))))) <| Qb <| tu Qa [(1,.p 1 0),(2,.s ⟨#[]⟩),(3,.s ((((⟨#[102,105,108,101,32]⟩:W)++(Qz f.1))++(⟨#[32]⟩:W))++(Qz f.2.1))),(15,.b f.2.2.1)] [0] [(1, [.i f.1,.i f.2.1,.b f.2.2.1,.i f.2.2.2.1,.h f.2.2.2.2])] [] p0 <| jn [(3,.s (bif f.2.2.1 then (((((⟨#[102,105,108,101,32]⟩:W)++(Qz f.1))++(⟨#[32]⟩:W))++(Qz f.2.1))++(⟨#[32,115,32]⟩:W)) else (((((⟨#[102,105,108,101,32]⟩:W)++(Qz f.1))++(⟨#[32]⟩:W))++(Qz f.2.1))++(⟨#[32,111,32]⟩:W))))] [3,15] [] [] f.2.2.1 (λh3=> ?_) (λh3=> ?_) ?_
 ·refine ckt h3 ?_;refine rn Qa [1,2,3] [1] (px (Zs (n:=(zD ((((⟨#[102,105,108,101,32]⟩:W)++(Qz f.1))++(⟨#[32]⟩:W))++(Qz f.2.1))+zD (⟨#[32,115,32]⟩:W))) (by have hq0:zD (⟨#[102,105,108,101,32]⟩:W)=5:=rfl;have hq1:zD (⟨#[32,115,32]⟩:W)=3:=rfl;have hq2:zD (⟨#[32]⟩:W)=1:=rfl;unfold H;first|omega|(simp only[zE];omega) | (cases f.2.2.1<;>simp only[I,J,zE]<;>omega))) p0) ?_;exact zA (by rw[h3]<;>kernel_rfl)
 ·refine ckf h3 ?_;refine rn Qa [1,2,3] [1] (px (Zs (n:=(zD ((((⟨#[102,105,108,101,32]⟩:W)++(Qz f.1))++(⟨#[32]⟩:W))++(Qz f.2.1))+zD (⟨#[32,111,32]⟩:W))) (by have hq0:zD (⟨#[102,105,108,101,32]⟩:W)=5:=rfl;have hq1:zD (⟨#[32,111,32]⟩:W)=3:=rfl;have hq2:zD (⟨#[32]⟩:W)=1:=rfl;unfold H;first|omega|(simp only[zE];omega) | (cases f.2.2.1<;>simp only[I,J,zE]<;>omega))) p0) ?_;exact zA (by rw[h3]<;>kernel_rfl)
 have hk4:=J4 (n:=f.2.2.2.1) (by omega);refine sn Qa [1,2,3] [1] (pc 3 (Wp f.2.2.2.1 (by omega)) (px (Zs (n:=(zD (bif f.2.2.1 then (((((⟨#[102,105,108,101,32]⟩:W)++(Qz f.1))++(⟨#[32]⟩:W))++(Qz f.2.1))++(⟨#[32,115,32]⟩:W)) else (((((⟨#[102,105,108,101,32]⟩:W)++(Qz f.1))++(⟨#[32]⟩:W))++(Qz f.2.1))++(⟨#[32,111,32]⟩:W)))+zD (Qz f.2.2.2.1))) (by have hq0:zD (⟨#[102,105,108,101,32]⟩:W)=5:=rfl;have hq1:zD (⟨#[32,111,32]⟩:W)=3:=rfl;have hq2:zD (⟨#[32,115,32]⟩:W)=3:=rfl;have hq3:zD (⟨#[32]⟩:W)=1:=rfl;unfold H;first|omega|(simp only[zE];omega) | (cases f.2.2.1<;>simp only[I,J,zE]<;>omega))) p0)) <| Qb <| tn Qa [1,2,3,4] [1] p0 <| mz [(3,.s ((bif f.2.2.1 then (((((⟨#[102,105,108,101,32]⟩:W)++(Qz f.1))++(⟨#[32]⟩:W))++(Qz f.2.1))++(⟨#[32,115,32]⟩:W)) else (((((⟨#[102,105,108,101,32]⟩:W)++(Qz f.1))++(⟨#[32]⟩:W))++(Qz f.2.1))++(⟨#[32,111,32]⟩:W)))++(Qz f.2.2.2.1))),(4,.i 0)] [3] [] [] <| wB 1 4 .sh f.2.2.2.2 (λhw5 hl6=> ?_)
 refine JM Cn Co f.2.2.2.2 ((bif f.2.2.1 then (((((⟨#[102,105,108,101,32]⟩:W)++(Qz f.1))++(⟨#[32]⟩:W))++(Qz f.2.1))++(⟨#[32,115,32]⟩:W)) else (((((⟨#[102,105,108,101,32]⟩:W)++(Qz f.1))++(⟨#[32]⟩:W))++(Qz f.2.1))++(⟨#[32,111,32]⟩:W)))++(Qz f.2.2.2.1)) (λk0 s0=> [(3,.s s0),(4,.i (k0:Y))]) [3,4] (λ_ _=> []) [] (λy0=> [(3,.s y0)]) [1,3,4] (λ_=> []) [1] (λk0 s0=>zD s0<=100+30*k0) wf0 (by first|omega|(simp only[zE];omega) | (cases f.2.2.1<;>simp only[I,J,zE]<;>omega)) (λk0 s0 O U=> ?_) (λk0 s0 O U=> ?_) (λy0 hD0=> ?_)
 ·have hA0_0:=U.2;obtain ⟨a0,V⟩:=Xh (l:=f.2.2.2.2) (i:=k0) O;have hna:=Qfs hf (zU V);refine Qb <| sn Qa [1,2,3,4,29] [1] (pl 3 f.2.2.2.2 (pe 4 (zB ((k0:Y)<(f.2.2.2.2.length:Y))) p0)) <| ckT <| Qf <| Qb <| Qo ?_
  have hk7:=Qkw a0.2;refine qN Qa Yo [1,2,3,4] [1] (px (Zs (n:=(zD s0+zD (⟨#[32]⟩:W))) (by have hq0:zD (⟨#[32]⟩:W)=1:=rfl;unfold H;first|omega|(simp only[zE];omega) | (cases f.2.2.1<;>simp only[I,J,zE]<;>omega))) (pn 5 V (px (Zs (n:=(zD (s0++(⟨#[32]⟩:W))+zD a0.1)) (by have hq0:zD (⟨#[32]⟩:W)=1:=rfl;unfold H;first|omega|(simp only[zE];omega) | (cases f.2.2.1<;>simp only[I,J,zE]<;>omega))) (px (Zs (n:=(zD ((s0++(⟨#[32]⟩:W))++a0.1)+zD (⟨#[32]⟩:W))) (by have hq0:zD (⟨#[32]⟩:W)=1:=rfl;unfold H;first|omega|(simp only[zE];omega) | (cases f.2.2.1<;>simp only[I,J,zE]<;>omega))) (pn 13 V (pc 16 (Cm a0.2) (px (Zs (n:=(zD (((s0++(⟨#[32]⟩:W))++a0.1)++(⟨#[32]⟩:W))+zD (Zf a0.2))) (by have hq0:zD (⟨#[32]⟩:W)=1:=rfl;unfold H;first|omega|(simp only[zE];omega) | (cases f.2.2.1<;>simp only[I,J,zE]<;>omega))) p0))))))) ?_;refine qu Qa [(3,.s ((((s0++(⟨#[32]⟩:W))++a0.1)++(⟨#[32]⟩:W))++(Zf a0.2))),(4,.i ((k0+1:K):Y))] [3,4] [] [] (pe 1 (Jl (Qn k0 (by omega))) p0) ?_;exact xw ((((s0++(⟨#[32]⟩:W))++a0.1)++(⟨#[32]⟩:W))++(Zf a0.2)) ⟨Qs V (rfl) U.1,(by first|omega|(simp only[zE];omega))⟩
 ·have hA0_0:=U.2;exact Qb <| sn Qa [1,2,3,4,29] [1] (pl 3 f.2.2.2.2 (pe 4 (zC ((k0:Y)<(f.2.2.2.2.length:Y))) p0)) <| ckF <| Q4 <| xw _ (Xj O (rfl) U.1)
 exact sn Qa [2] [] p0 <| Qd <| ps [] (Vp hD0 (rfl))
open GoE (enc wide)
def X8 (n_:K) (q:N Q2) (at_:Y):W:=match n_ with
 | 0=>default
 | n_+1=>(bif ((nth q at_.toNat).1==(2:Y)) then (Xl ⟨#[32]⟩ [(Qy ((nth q at_.toNat).1)),(nth q at_.toNat).2.2.2.1]) else (bif (bif ((nth q at_.toNat).1==(8:Y)) then ((nth q at_.toNat).1==(8:Y)) else ((nth q at_.toNat).1==(9:Y))) then (Xl ⟨#[32]⟩ [(Qy ((nth q at_.toNat).1)),(nth q at_.toNat).2.2.2.1]) else (bif (bif ((nth q at_.toNat).1==(3:Y)) then ((nth q at_.toNat).1==(3:Y)) else ((nth q at_.toNat).1==(4:Y))) then (Xl ⟨#[32]⟩ [(Qy ((nth q at_.toNat).1)),(nth q at_.toNat).2.2.2.1,(Xv ((nth q at_.toNat).2.2.2.2.1,(nth q at_.toNat).2.2.2.2.2.1,(nth q at_.toNat).2.2.2.2.2.2))]) else (bif ((nth q at_.toNat).1==(5:Y)) then (Xl ⟨#[32]⟩ [(Qy ((nth q at_.toNat).1)),(X8 n_ q ((nth q at_.toNat).2.1))]) else (bif ((nth q at_.toNat).1==(6:Y)) then (Xl ⟨#[32]⟩ [(Qy ((nth q at_.toNat).1)),(X8 n_ q ((nth q at_.toNat).2.1)),(X8 n_ q ((nth q at_.toNat).2.2.1))]) else (bif ((nth q at_.toNat).1==(7:Y)) then (Xl ⟨#[32]⟩ [(Qy ((nth q at_.toNat).1)),(X8 n_ q ((nth q at_.toNat).2.1)),(X8 n_ q ((nth q at_.toNat).2.2.1))]) else (Xl ⟨#[32]⟩ [(Qy ((nth q at_.toNat).1))])))))))
theorem Qq3:∀(n:K) {q:N Q2} (_:Qk q=Q) {k:K} (_:k<q.length),(X8 n q (k:Y)).size+8<=40*2^k
 | 0,q,hv,k,hk=>by
  have h1:1<=2^k:=Nat.one_le_two_pow;show 0+8<=_;omega
 | n+1,q,hv,k,hk=>by
  have h1:1<=2^k:=Nat.one_le_two_pow;have e1:(⟨#[32]⟩:W).size=1:=rfl;have hnm:=UX hv (at_:=(k:Y)) (by omega) (by omega);have hop:=Qfq (nth q (k:Y).toNat).1;have hfv:=RC ((nth q (k:Y).toNat).2.2.2.2.1,(nth q (k:Y).toNat).2.2.2.2.2.1,(nth q (k:Y).toNat).2.2.2.2.2.2)
  have kid:∀j:Y,0<=j/\j<(k:Y)->(X8 n q j).size+8<=20*2^k:=λj hj=>by
   obtain ⟨m,rfl⟩:=Int.eq_ofNat_of_zero_le hj.1;have h2:=Qq3 n hv (k:=m) (by omega);have h3:2^(m+1)<=2^k:=Nat.pow_le_pow_right (by decide) (by omega);rw[Nat.pow_succ] at h3;omega
  have ka:=GG hv (k:=(k:Y)) (by omega) (by omega);have kb:=KG hv (k:=(k:Y)) (by omega) (by omega);have kc:=WN hv (k:=(k:Y)) (by omega) (by omega);have kd:=GH hv (k:=(k:Y)) (by omega) (by omega);have ke:=IS hv (k:=(k:Y)) (by omega) (by omega);unfold X8;generalize nth q (k:Y).toNat=x at*;simp only[Jz,K2,Kr];cases h2:(x.1==(2:Y)) with
  | true=>simp only[I,zE];omega
  | false=>
  cases h8:(x.1==(8:Y)) with
  | true=>simp only[I,J,zE];omega
  | false=>
  cases h9:(x.1==(9:Y)) with
  | true=>simp only[I,J,zE];omega
  | false=>
  cases h3:(x.1==(3:Y)) with
  | true=>simp only[I,J,zE];omega
  | false=>
  cases h4:(x.1==(4:Y)) with
  | true=>simp only[I,J,zE];omega
  | false=>
  cases h5:(x.1==(5:Y)) with
  | true=>have:=kid _ (ka h5);simp only[I,J,zE];omega
  | false=>
  cases h6:(x.1==(6:Y)) with
  | true=>have:=kid _ (kb h6);have:=kid _ (kd h6);simp only[I,J,zE];omega
  | false=>
  cases h7:(x.1==(7:Y)) with
  | true=>have:=kid _ (kc h7);have:=kid _ (ke h7);simp only[I,J,zE];omega
  | false=>simp only[J];omega
theorem RD (n:K) {q:N Q2} (hv:Qk q=Q) {k:Y} (h0:0<=k) (h1:k<(q.length:Y)):(X8 n q k).size<=10240:=by
 obtain ⟨m,rfl⟩:=Int.eq_ofNat_of_zero_le h0;have h2:=Qq3 n hv (k:=m) (by omega);have h3:=Gf hv;have h4:2^m<=2^8:=Nat.pow_le_pow_right (by decide) (by omega);omega
theorem UY:∀(n_:K) (q:N Q2) (at_:Y) (hv:Qk q=Q) (ha:0<=at_) (hb:at_<(q.length:Y)) (hn:at_<((n_:K):Y)),ACalls Tryz.prog 155 [.h q,.i at_] (.s (X8 n_ q at_)):=by
 intro n_
 induction n_ with
 | zero=>intro q at_ hv ha hb hn;exact (by omega:False).elim
 | succ n_ ih=>
  intro q at_ hv ha hb hn
  refine en Qa Tryz.func155 λw0 F0 hG=> ?_
  have hnm:=UX hv ha hb;have hql:=Gf hv;have hq1:zD (⟨#[32]⟩:W)=1:=rfl;refine sn Qa [0,1,4] [] p0 <| wT 0 0 .sh q (λhw2 hl3=> ?_)
  have hx1:=ng q at_.toNat;refine tn Qa [0,4,5] [5] (pg 2 at_ hx1 p0) ?_;have hk4:=Qfq ((nth q at_.toNat).1);refine tu Qa [(4,.s ⟨#[]⟩),(5,.p 5 0),(6,.o 896 [(Qy ((nth q at_.toNat).1))])] [1] [(5, [.i ((nth q at_.toNat).1),.i ((nth q at_.toNat).2.1),.i ((nth q at_.toNat).2.2.1),.s ((nth q at_.toNat).2.2.2.1),.i ((nth q at_.toNat).2.2.2.2.1),.i ((nth q at_.toNat).2.2.2.2.2.1),.s ((nth q at_.toNat).2.2.2.2.2.2)])] [] (pc 2 (Pw ((nth q at_.toNat).1)) p0) <| Qb <| sn Qa [0,4,5,6,16] [5] p0 <| Qo <| Qb <| tn Qa [0,4,5,6,16,17] [5] p0 <| ck ((nth q at_.toNat).1==(2:Y)) (λh5=> ?_) (λh5=> ?_)
  ·have h5d:=eq_of_beq h5;refine Qf <| ckt h5 ?_
   refine wT 6 0 (.own Q 896) [(Qy ((nth q at_.toNat).1))] (λhw6 hl7=> ?_);refine qu Qa [(6,.o 1600 [(Qy ((nth q at_.toNat).1)),(nth q at_.toNat).2.2.2.1])] [0,5,6] [] [5] (pa [(Qy ((nth q at_.toNat).1))] [(nth q at_.toNat).2.2.2.1] p0) ?_;exact sn Qa [4] [] (pc 1 (Uj [(Qy ((nth q at_.toNat).1)),(nth q at_.toNat).2.2.2.1] ⟨#[32]⟩ (by first | omega | exact zT (W0 (m:=10) (n:=20) rfl (by assumption) (by omega)) (by decide) | (simp only[Jz,K2,Kr,zE];omega))) p0) <| Qd <| ps [] (Q9 h5 (rfl))
  have h5d:=X0 h5;refine tu Qa [(16,.i ((nth q at_.toNat).1)),(17,.b ((nth q at_.toNat).1==(8:Y)))] [] [] [] p0 <| jn [(17,.b (bif ((nth q at_.toNat).1==(8:Y)) then ((nth q at_.toNat).1==(8:Y)) else ((nth q at_.toNat).1==(9:Y))))] [17] [] [] ((nth q at_.toNat).1==(8:Y)) (λh8=> ?_) (λh8=> ?_) ?_
  ·have h8d:=eq_of_beq h8;refine ckt h8 ?_;exact Qf <| ⟨rfl,Qe (by rw[h8]<;>kernel_rfl)⟩
  ·have h8d:=X0 h8;refine ckf h8 ?_;refine rn Qa [0,4,5,6,16,17] [5] p0 ?_;exact zA (by rw[h8]<;>kernel_rfl)
  refine ck (bif ((nth q at_.toNat).1==(8:Y)) then ((nth q at_.toNat).1==(8:Y)) else ((nth q at_.toNat).1==(9:Y))) (λh9=> ?_) (λh9=> ?_)
  ·refine wT 6 0 (.own Q 896) [(Qy ((nth q at_.toNat).1))] (λhw10 hl11=> ?_);refine rn Qa [4,6] [] (pa [(Qy ((nth q at_.toNat).1))] [(nth q at_.toNat).2.2.2.1] p0) ?_;exact tn Qa [4] [] (pc 1 (Uj [(Qy ((nth q at_.toNat).1)),(nth q at_.toNat).2.2.2.1] ⟨#[32]⟩ (by first | omega | exact zT (W0 (m:=10) (n:=20) rfl (by assumption) (by omega)) (by decide) | (simp only[Jz,K2,Kr,zE];omega))) p0) <| Qd <| ps [] (Qj h5 (Q9 h9 (rfl)))
  refine Qb <| sn Qa [0,4,5,6,16,26] [5] p0 <| mz [(26,.b ((nth q at_.toNat).1==(3:Y)))] [17] [] [] <| jn [(26,.b (bif ((nth q at_.toNat).1==(3:Y)) then ((nth q at_.toNat).1==(3:Y)) else ((nth q at_.toNat).1==(4:Y))))] [26] [] [] ((nth q at_.toNat).1==(3:Y)) (λh12=> ?_) (λh12=> ?_) ?_
  ·have h12d:=eq_of_beq h12;refine ckt h12 ?_;exact Qf <| ⟨rfl,Qe (by rw[h12]<;>kernel_rfl)⟩
  ·have h12d:=X0 h12;refine ckf h12 ?_;refine rn Qa [0,4,5,6,16,26] [5] p0 ?_;exact zA (by rw[h12]<;>kernel_rfl)
  refine ck (bif ((nth q at_.toNat).1==(3:Y)) then ((nth q at_.toNat).1==(3:Y)) else ((nth q at_.toNat).1==(4:Y))) (λh13=> ?_) (λh13=> ?_)
  ·have hk14:=RC ((nth q at_.toNat).2.2.2.2.1,(nth q at_.toNat).2.2.2.2.2.1,(nth q at_.toNat).2.2.2.2.2.2);refine wT 6 0 (.own Q 896) [(Qy ((nth q at_.toNat).1))] (λhw15 hl16=> ?_);refine rN Qa Yo [4,6] [] (pc 5 (Mw ((nth q at_.toNat).2.2.2.2.1,(nth q at_.toNat).2.2.2.2.2.1,(nth q at_.toNat).2.2.2.2.2.2)) (pa [(Qy ((nth q at_.toNat).1))] [(nth q at_.toNat).2.2.2.1,(Xv ((nth q at_.toNat).2.2.2.2.1,(nth q at_.toNat).2.2.2.2.2.1,(nth q at_.toNat).2.2.2.2.2.2))] p0)) ?_;exact tn Qa [4] [] (pc 1 (Uj [(Qy ((nth q at_.toNat).1)),(nth q at_.toNat).2.2.2.1,(Xv ((nth q at_.toNat).2.2.2.2.1,(nth q at_.toNat).2.2.2.2.2.1,(nth q at_.toNat).2.2.2.2.2.2))] ⟨#[32]⟩ (by first | omega | exact zT (W0 (m:=10) (n:=20) rfl (by assumption) (by omega)) (by decide) | (simp only[Jz,K2,Kr,zE];omega))) p0) <| Qd <| ps [] (Qj h5 (Qj h9 (Q9 h13 (rfl))))
  refine sn Qa [0,4,5,6,16,37] [5] p0 <| ck ((nth q at_.toNat).1==(5:Y)) (λh17=> ?_) (λh17=> ?_)
  ·have h17k:=GG hv ha hb h17;have h17z:=RD n_ hv h17k.1 (by omega);have h17d:=eq_of_beq h17;refine wT 6 0 (.own Q 896) [(Qy ((nth q at_.toNat).1))] (λhw18 hl19=> ?_);refine qn Qa [4,6] [] (pc 4 (ih q ((nth q at_.toNat).2.1) hv (by have hz:=GG hv ha hb h17;omega) (by have hz:=GG hv ha hb h17;omega) (by have hz:=GG hv ha hb h17;omega)) (pa [(Qy ((nth q at_.toNat).1))] [(X8 n_ q ((nth q at_.toNat).2.1))] p0)) ?_;exact tu Qa [(4,.s (Xl ⟨#[32]⟩ [(Qy ((nth q at_.toNat).1)),(X8 n_ q ((nth q at_.toNat).2.1))]))] [0,4,5,6,16,26] [] [5] (pc 1 (Uj [(Qy ((nth q at_.toNat).1)),(X8 n_ q ((nth q at_.toNat).2.1))] ⟨#[32]⟩ (by first | omega | exact zT (W0 (m:=10) (n:=20) rfl (by assumption) (by omega)) (by decide) | (simp only[Jz,K2,Kr,zE];omega))) p0) <| Qd <| ps [] (Qj h5 (Qj h9 (Qj h13 (Q9 h17 (rfl)))))
  have h17d:=X0 h17;refine Qb <| tn Qa [0,4,5,6,16,46] [5] p0 <| ck ((nth q at_.toNat).1==(6:Y)) (λh20=> ?_) (λh20=> ?_)
  ·have h20k:=KG hv ha hb h20;have h20z:=RD n_ hv h20k.1 (by omega);have h20m:=GH hv ha hb h20;have h20y:=RD n_ hv h20m.1 (by omega);have h20d:=eq_of_beq h20;refine Qf <| ckt h20 ?_
   refine wT 6 0 (.own Q 896) [(Qy ((nth q at_.toNat).1))] (λhw21 hl22=> ?_);refine qU Qa Yo [(6,.o 3776 [(Qy ((nth q at_.toNat).1)),(X8 n_ q ((nth q at_.toNat).2.1)),(X8 n_ q ((nth q at_.toNat).2.2.1))])] [0,5,6,16,26] [] [5] (pc 4 (ih q ((nth q at_.toNat).2.1) hv (by have hz:=KG hv ha hb h20;omega) (by have hz:=KG hv ha hb h20;omega) (by have hz:=KG hv ha hb h20;omega)) (pc 8 (ih q ((nth q at_.toNat).2.2.1) hv (by have hz:=GH hv ha hb h20;omega) (by have hz:=GH hv ha hb h20;omega) (by have hz:=GH hv ha hb h20;omega)) (pa [(Qy ((nth q at_.toNat).1))] [(X8 n_ q ((nth q at_.toNat).2.1)),(X8 n_ q ((nth q at_.toNat).2.2.1))] p0))) ?_;exact sn Qa [4] [] (pc 1 (Uj [(Qy ((nth q at_.toNat).1)),(X8 n_ q ((nth q at_.toNat).2.1)),(X8 n_ q ((nth q at_.toNat).2.2.1))] ⟨#[32]⟩ (by first | omega | exact zT (W0 (m:=10) (n:=20) rfl (by assumption) (by omega)) (by decide) | (simp only[Jz,K2,Kr,zE];omega))) p0) <| Qd <| ps [] (Qj h5 (Qj h9 (Qj h13 (Qj h17 (Q9 h20 (rfl))))))
  have h20d:=X0 h20;refine qu Qa [(46,.b ((nth q at_.toNat).1==(7:Y)))] [16,26] [] [] p0 ?_;refine ck ((nth q at_.toNat).1==(7:Y)) (λh23=> ?_) (λh23=> ?_)
  ·have h23k:=WN hv ha hb h23;have h23z:=RD n_ hv h23k.1 (by omega);have h23m:=IS hv ha hb h23;have h23y:=RD n_ hv h23m.1 (by omega);have h23d:=eq_of_beq h23;refine wT 6 0 (.own Q 896) [(Qy ((nth q at_.toNat).1))] (λhw24 hl25=> ?_);refine rN Qa Yo [4,6] [] (pc 4 (ih q ((nth q at_.toNat).2.1) hv (by have hz:=WN hv ha hb h23;omega) (by have hz:=WN hv ha hb h23;omega) (by have hz:=WN hv ha hb h23;omega)) (pc 8 (ih q ((nth q at_.toNat).2.2.1) hv (by have hz:=IS hv ha hb h23;omega) (by have hz:=IS hv ha hb h23;omega) (by have hz:=IS hv ha hb h23;omega)) (pa [(Qy ((nth q at_.toNat).1))] [(X8 n_ q ((nth q at_.toNat).2.1)),(X8 n_ q ((nth q at_.toNat).2.2.1))] p0))) ?_;exact tn Qa [4] [] (pc 1 (Uj [(Qy ((nth q at_.toNat).1)),(X8 n_ q ((nth q at_.toNat).2.1)),(X8 n_ q ((nth q at_.toNat).2.2.1))] ⟨#[32]⟩ (by first | omega | exact zT (W0 (m:=10) (n:=20) rfl (by assumption) (by omega)) (by decide) | (simp only[Jz,K2,Kr,zE];omega))) p0) <| Qd <| ps [] (Qj h5 (Qj h9 (Qj h13 (Qj h17 (Qj h20 (Q9 h23 (rfl)))))))
  have h23d:=X0 h23;exact Qf <| sn Qa [4] [] (pc 1 (Uj [(Qy ((nth q at_.toNat).1))] ⟨#[32]⟩ (by first | omega | exact zT (W0 (m:=10) (n:=20) rfl (by assumption) (by omega)) (by decide) | (simp only[Jz,K2,Kr,zE];omega))) p0) <| Qd <| ps [] (Qj h5 (Qj h9 (Qj h13 (Qj h17 (Qj h20 (Qj h23 (rfl)))))))
def Jn (n_:K) (q:N Q2) (at_:Y):W:=match n_ with
 | 0=>default
 | n_+1=>(bif ((nth q at_.toNat).1==(2:Y)) then (((X2 ((nth q at_.toNat).1))++(⟨#[32]⟩:W))++((nth q at_.toNat).2.2.2.1)) else (bif (bif ((nth q at_.toNat).1==(8:Y)) then ((nth q at_.toNat).1==(8:Y)) else ((nth q at_.toNat).1==(9:Y))) then (((X2 ((nth q at_.toNat).1))++(⟨#[32]⟩:W))++((nth q at_.toNat).2.2.2.1)) else (bif (bif ((nth q at_.toNat).1==(3:Y)) then ((nth q at_.toNat).1==(3:Y)) else ((nth q at_.toNat).1==(4:Y))) then (((((X2 ((nth q at_.toNat).1))++(⟨#[32]⟩:W))++((nth q at_.toNat).2.2.2.1))++(⟨#[32]⟩:W))++(Zf ((nth q at_.toNat).2.2.2.2.1,(nth q at_.toNat).2.2.2.2.2.1,(nth q at_.toNat).2.2.2.2.2.2))) else (bif ((nth q at_.toNat).1==(5:Y)) then (((X2 ((nth q at_.toNat).1))++(⟨#[32]⟩:W))++(Jn n_ q ((nth q at_.toNat).2.1))) else (bif ((nth q at_.toNat).1==(6:Y)) then (((((X2 ((nth q at_.toNat).1))++(⟨#[32]⟩:W))++(Jn n_ q ((nth q at_.toNat).2.1)))++(⟨#[32]⟩:W))++(Jn n_ q ((nth q at_.toNat).2.2.1))) else (bif ((nth q at_.toNat).1==(7:Y)) then (((((X2 ((nth q at_.toNat).1))++(⟨#[32]⟩:W))++(Jn n_ q ((nth q at_.toNat).2.1)))++(⟨#[32]⟩:W))++(Jn n_ q ((nth q at_.toNat).2.2.1))) else (X2 ((nth q at_.toNat).1))))))))
theorem Qfv:∀(n:K) (q:N Q2) (k:Y),Jn n q k=X8 n q k
 | 0,_,_=>rfl
 | n+1,q,k=>by
  unfold Jn X8;simp only[Jz,K2,Kr,Qad,Qo8,Qfv n]
theorem MC (n:K) {q:N Q2} (hv:Qk q=Q) {k:Y} (h0:0<=k) (h1:k<(q.length:Y)):(Jn n q k).size<=10240:=by rw[Qfv];exact RD n hv h0 h1
theorem FB:∀(n_:K) (q:N Q2) (at_:Y) (hv:Qk q=Q) (ha:0<=at_) (hb:at_<(q.length:Y)) (hn:at_<((n_:K):Y)),ACalls Tryz.prog 133 [.h q,.i at_] (.s (Jn n_ q at_)):=by
 intro n_
 induction n_ with
 | zero=>intro q at_ hv ha hb hn;exact (by omega:False).elim
 | succ n_ ih=>
  intro q at_ hv ha hb hn
  refine en Qa Tryz.func133 λw0 F0 hG=> ?_
  have hnm:=UX hv ha hb;have hql:=Gf hv;have hq1:zD (⟨#[32]⟩:W)=1:=rfl;refine sn Qa [0,1,4] [] p0 <| wT 0 0 .sh q (λhw2 hl3=> ?_)
  have hx1:=ng q at_.toNat;refine tn Qa [0,4,5] [5] (pg 2 at_ hx1 p0) ?_;have hk4:=Qkx ((nth q at_.toNat).1);refine tu Qa [(4,.s ⟨#[]⟩),(5,.p 5 0),(6,.s (X2 ((nth q at_.toNat).1)))] [1] [(5, [.i ((nth q at_.toNat).1),.i ((nth q at_.toNat).2.1),.i ((nth q at_.toNat).2.2.1),.s ((nth q at_.toNat).2.2.2.1),.i ((nth q at_.toNat).2.2.2.2.1),.i ((nth q at_.toNat).2.2.2.2.2.1),.s ((nth q at_.toNat).2.2.2.2.2.2)])] [] (pc 2 (Px ((nth q at_.toNat).1)) p0) <| Qb <| sn Qa [0,4,5,6,15] [5] p0 <| Qo <| Qb <| tn Qa [0,4,5,6,15,16] [5] p0 <| ck ((nth q at_.toNat).1==(2:Y)) (λh5=> ?_) (λh5=> ?_)
  ·have h5d:=eq_of_beq h5;refine Qf <| ckt h5 ?_
   exact tu Qa [(4,.s (((X2 ((nth q at_.toNat).1))++(⟨#[32]⟩:W))++((nth q at_.toNat).2.2.2.1)))] [0,4,5] [] [5] (px (Zs (n:=(zD (X2 ((nth q at_.toNat).1))+zD (⟨#[32]⟩:W))) (by have hq0:zD (⟨#[32]⟩:W)=1:=rfl;unfold H;first|omega|(simp only[zE];omega))) (px (Zs (n:=(zD ((X2 ((nth q at_.toNat).1))++(⟨#[32]⟩:W))+zD ((nth q at_.toNat).2.2.2.1))) (by have hq0:zD (⟨#[32]⟩:W)=1:=rfl;unfold H;first|omega|(simp only[zE];omega))) p0)) <| Qd <| ps [] (Q9 h5 (rfl))
  have h5d:=X0 h5;refine tu Qa [(15,.i ((nth q at_.toNat).1)),(16,.b ((nth q at_.toNat).1==(8:Y)))] [] [] [] p0 <| jn [(16,.b (bif ((nth q at_.toNat).1==(8:Y)) then ((nth q at_.toNat).1==(8:Y)) else ((nth q at_.toNat).1==(9:Y))))] [16] [] [] ((nth q at_.toNat).1==(8:Y)) (λh6=> ?_) (λh6=> ?_) ?_
  ·refine ckt h6 ?_;exact Qf <| ⟨rfl,Qe (by rw[h6]<;>kernel_rfl)⟩
  ·refine ckf h6 ?_;refine rn Qa [0,4,5,6,15,16] [5] p0 ?_;exact zA (by rw[h6]<;>kernel_rfl)
  refine ck (bif ((nth q at_.toNat).1==(8:Y)) then ((nth q at_.toNat).1==(8:Y)) else ((nth q at_.toNat).1==(9:Y))) (λh7=> ?_) (λh7=> ?_)
  ·exact sn Qa [4,6] [] (px (Zs (n:=(zD (X2 ((nth q at_.toNat).1))+zD (⟨#[32]⟩:W))) (by have hq0:zD (⟨#[32]⟩:W)=1:=rfl;unfold H;first|omega|(simp only[zE];omega))) (px (Zs (n:=(zD ((X2 ((nth q at_.toNat).1))++(⟨#[32]⟩:W))+zD ((nth q at_.toNat).2.2.2.1))) (by have hq0:zD (⟨#[32]⟩:W)=1:=rfl;unfold H;first|omega|(simp only[zE];omega))) p0)) <| Qd <| ps [] (Qj h5 (Q9 h7 (rfl)))
  refine Qb <| sn Qa [0,4,5,6,15,25] [5] p0 <| mz [(25,.b ((nth q at_.toNat).1==(3:Y)))] [16] [] [] <| jn [(25,.b (bif ((nth q at_.toNat).1==(3:Y)) then ((nth q at_.toNat).1==(3:Y)) else ((nth q at_.toNat).1==(4:Y))))] [25] [] [] ((nth q at_.toNat).1==(3:Y)) (λh8=> ?_) (λh8=> ?_) ?_
  ·refine ckt h8 ?_;exact Qf <| ⟨rfl,Qe (by rw[h8]<;>kernel_rfl)⟩
  ·refine ckf h8 ?_;refine rn Qa [0,4,5,6,15,25] [5] p0 ?_;exact zA (by rw[h8]<;>kernel_rfl)
  refine ck (bif ((nth q at_.toNat).1==(3:Y)) then ((nth q at_.toNat).1==(3:Y)) else ((nth q at_.toNat).1==(4:Y))) (λh9=> ?_) (λh9=> ?_)
  ·have hk10:=Qkw ((nth q at_.toNat).2.2.2.2.1,(nth q at_.toNat).2.2.2.2.2.1,(nth q at_.toNat).2.2.2.2.2.2);exact sN Qa Yo [4,6] [] (px (Zs (n:=(zD (X2 ((nth q at_.toNat).1))+zD (⟨#[32]⟩:W))) (by have hq0:zD (⟨#[32]⟩:W)=1:=rfl;unfold H;first|omega|(simp only[zE];omega))) (px (Zs (n:=(zD ((X2 ((nth q at_.toNat).1))++(⟨#[32]⟩:W))+zD ((nth q at_.toNat).2.2.2.1))) (by have hq0:zD (⟨#[32]⟩:W)=1:=rfl;unfold H;first|omega|(simp only[zE];omega))) (px (Zs (n:=(zD (((X2 ((nth q at_.toNat).1))++(⟨#[32]⟩:W))++((nth q at_.toNat).2.2.2.1))+zD (⟨#[32]⟩:W))) (by have hq0:zD (⟨#[32]⟩:W)=1:=rfl;unfold H;first|omega|(simp only[zE];omega))) (pc 8 (Cm ((nth q at_.toNat).2.2.2.2.1,(nth q at_.toNat).2.2.2.2.2.1,(nth q at_.toNat).2.2.2.2.2.2)) (px (Zs (n:=(zD ((((X2 ((nth q at_.toNat).1))++(⟨#[32]⟩:W))++((nth q at_.toNat).2.2.2.1))++(⟨#[32]⟩:W))+zD (Zf ((nth q at_.toNat).2.2.2.2.1,(nth q at_.toNat).2.2.2.2.2.1,(nth q at_.toNat).2.2.2.2.2.2)))) (by have hq0:zD (⟨#[32]⟩:W)=1:=rfl;unfold H;first|omega|(simp only[zE];omega))) p0))))) <| Qd <| ps [] (Qj h5 (Qj h7 (Q9 h9 (rfl))))
  refine sn Qa [0,4,5,6,15,38] [5] p0 <| ck ((nth q at_.toNat).1==(5:Y)) (λh11=> ?_) (λh11=> ?_)
  ·have h11k:=GG hv ha hb h11;have h11z:=MC n_ hv h11k.1 (by omega);have h11d:=eq_of_beq h11;exact tn Qa [4,6] [] (px (Zs (n:=(zD (X2 ((nth q at_.toNat).1))+zD (⟨#[32]⟩:W))) (by have hq0:zD (⟨#[32]⟩:W)=1:=rfl;unfold H;first|omega|(simp only[zE];omega))) (pc 5 (ih q ((nth q at_.toNat).2.1) hv (by have hz:=GG hv ha hb h11;omega) (by have hz:=GG hv ha hb h11;omega) (by have hz:=GG hv ha hb h11;omega)) (px (Zs (n:=(zD ((X2 ((nth q at_.toNat).1))++(⟨#[32]⟩:W))+zD (Jn n_ q ((nth q at_.toNat).2.1)))) (by have hq0:zD (⟨#[32]⟩:W)=1:=rfl;unfold H;first|omega|(simp only[zE];omega))) p0))) <| Qd <| ps [] (Qj h5 (Qj h7 (Qj h9 (Q9 h11 (rfl)))))
  have h11d:=X0 h11;refine Qb <| tn Qa [0,4,5,6,15,47] [5] p0 <| ck ((nth q at_.toNat).1==(6:Y)) (λh12=> ?_) (λh12=> ?_)
  ·have h12k:=KG hv ha hb h12;have h12z:=MC n_ hv h12k.1 (by omega);have h12m:=GH hv ha hb h12;have h12y:=MC n_ hv h12m.1 (by omega);have h12d:=eq_of_beq h12;refine Qf <| ckt h12 ?_
   exact tU Qa Yo [(4,.s (((((X2 ((nth q at_.toNat).1))++(⟨#[32]⟩:W))++(Jn n_ q ((nth q at_.toNat).2.1)))++(⟨#[32]⟩:W))++(Jn n_ q ((nth q at_.toNat).2.2.1))))] [0,4,5,15,25] [] [5] (px (Zs (n:=(zD (X2 ((nth q at_.toNat).1))+zD (⟨#[32]⟩:W))) (by have hq0:zD (⟨#[32]⟩:W)=1:=rfl;unfold H;first|omega|(simp only[zE];omega))) (pc 5 (ih q ((nth q at_.toNat).2.1) hv (by have hz:=KG hv ha hb h12;omega) (by have hz:=KG hv ha hb h12;omega) (by have hz:=KG hv ha hb h12;omega)) (px (Zs (n:=(zD ((X2 ((nth q at_.toNat).1))++(⟨#[32]⟩:W))+zD (Jn n_ q ((nth q at_.toNat).2.1)))) (by have hq0:zD (⟨#[32]⟩:W)=1:=rfl;unfold H;first|omega|(simp only[zE];omega))) (px (Zs (n:=(zD (((X2 ((nth q at_.toNat).1))++(⟨#[32]⟩:W))++(Jn n_ q ((nth q at_.toNat).2.1)))+zD (⟨#[32]⟩:W))) (by have hq0:zD (⟨#[32]⟩:W)=1:=rfl;unfold H;first|omega|(simp only[zE];omega))) (pc 11 (ih q ((nth q at_.toNat).2.2.1) hv (by have hz:=GH hv ha hb h12;omega) (by have hz:=GH hv ha hb h12;omega) (by have hz:=GH hv ha hb h12;omega)) (px (Zs (n:=(zD ((((X2 ((nth q at_.toNat).1))++(⟨#[32]⟩:W))++(Jn n_ q ((nth q at_.toNat).2.1)))++(⟨#[32]⟩:W))+zD (Jn n_ q ((nth q at_.toNat).2.2.1)))) (by have hq0:zD (⟨#[32]⟩:W)=1:=rfl;unfold H;first|omega|(simp only[zE];omega))) p0)))))) <| Qd <| ps [] (Qj h5 (Qj h7 (Qj h9 (Qj h11 (Q9 h12 (rfl))))))
  have h12d:=X0 h12;refine qu Qa [(47,.b ((nth q at_.toNat).1==(7:Y)))] [15,25] [] [] p0 ?_;refine ck ((nth q at_.toNat).1==(7:Y)) (λh13=> ?_) (λh13=> ?_)
  ·have h13k:=WN hv ha hb h13;have h13z:=MC n_ hv h13k.1 (by omega);have h13m:=IS hv ha hb h13;have h13y:=MC n_ hv h13m.1 (by omega);have h13d:=eq_of_beq h13;exact sN Qa Yo [4,6] [] (px (Zs (n:=(zD (X2 ((nth q at_.toNat).1))+zD (⟨#[32]⟩:W))) (by have hq0:zD (⟨#[32]⟩:W)=1:=rfl;unfold H;first|omega|(simp only[zE];omega))) (pc 5 (ih q ((nth q at_.toNat).2.1) hv (by have hz:=WN hv ha hb h13;omega) (by have hz:=WN hv ha hb h13;omega) (by have hz:=WN hv ha hb h13;omega)) (px (Zs (n:=(zD ((X2 ((nth q at_.toNat).1))++(⟨#[32]⟩:W))+zD (Jn n_ q ((nth q at_.toNat).2.1)))) (by have hq0:zD (⟨#[32]⟩:W)=1:=rfl;unfold H;first|omega|(simp only[zE];omega))) (px (Zs (n:=(zD (((X2 ((nth q at_.toNat).1))++(⟨#[32]⟩:W))++(Jn n_ q ((nth q at_.toNat).2.1)))+zD (⟨#[32]⟩:W))) (by have hq0:zD (⟨#[32]⟩:W)=1:=rfl;unfold H;first|omega|(simp only[zE];omega))) (pc 11 (ih q ((nth q at_.toNat).2.2.1) hv (by have hz:=IS hv ha hb h13;omega) (by have hz:=IS hv ha hb h13;omega) (by have hz:=IS hv ha hb h13;omega)) (px (Zs (n:=(zD ((((X2 ((nth q at_.toNat).1))++(⟨#[32]⟩:W))++(Jn n_ q ((nth q at_.toNat).2.1)))++(⟨#[32]⟩:W))+zD (Jn n_ q ((nth q at_.toNat).2.2.1)))) (by have hq0:zD (⟨#[32]⟩:W)=1:=rfl;unfold H;first|omega|(simp only[zE];omega))) p0)))))) <| Qd <| ps [] (Qj h5 (Qj h7 (Qj h9 (Qj h11 (Qj h12 (Q9 h13 (rfl)))))))
  exact Qf <| sn Qa [4] [] p0 <| Qd <| ps [] (Qj h5 (Qj h7 (Qj h9 (Qj h11 (Qj h12 (Qj h13 (rfl)))))))
def Xa (q:N Q2):W:=(bif (!(Qk q)) then ⟨#[]⟩ else (X8 (zF q) q ((q.length:Y)-1)))
theorem ZE (q:N Q2):ACalls Tryz.prog 103 [.h q] (.s (Xa q)):=by
 refine en Qa Tryz.func103 λw0 F0 hG=> ?_
 refine sn Qa [0,2] [] p0 <| Qb <| tn Qa [0,2,5] [] (pc 1 (Vv q) p0) <| ck (!(Qk q)) (λh1=> ?_) (λh1=> ?_)
 ·exact tu Qa [(2,.s ⟨#[]⟩)] [] [] [] p0 <| Qd <| ps [] (Q9 h1 (rfl))
 have h1n:(Qk q)=Q:=Zz h1;refine Qf <| wT 0 0 .sh q (λhw2 hl3=> ?_)
 exact tu Qa [(2,.s (X8 (zF q) q ((q.length:Y)-1)))] [0] [] [] (pl 2 q (pe 3 (Jl (IntWalk.i64_in ((q.length:Y)-1) (by omega))) (pc 4 (UY (zF q) q ((q.length:Y)-1) h1n (by have:=Gf h1n;omega) (by omega) (by omega)) p0))) <| Qd <| ps [] (Qj h1 (rfl))
def Yp (q:N Q2):W:=(bif (!(Yt q)) then ⟨#[]⟩ else (Jn (zF q) q ((q.length:Y)-1)))
theorem Mz (q:N Q2):ACalls Tryz.prog 83 [.h q] (.s (Yp q)):=by
 refine en Qa Tryz.func83 λw0 F0 hG=> ?_
 refine sn Qa [0,2] [] p0 <| Qb <| tn Qa [0,2,5] [] (pc 1 (Vx q) p0) <| ck (!(Yt q)) (λh1=> ?_) (λh1=> ?_)
 ·exact tu Qa [(2,.s ⟨#[]⟩)] [] [] [] p0 <| Qd <| ps [] (Q9 h1 (rfl))
 have h1n:(Yt q)=Q:=Zz h1;refine Qf <| wT 0 0 .sh q (λhw2 hl3=> ?_)
 exact tu Qa [(2,.s (Jn (zF q) q ((q.length:Y)-1)))] [0] [] [] (pl 2 q (pe 3 (Jl (IntWalk.i64_in ((q.length:Y)-1) (by omega))) (pc 4 (FB (zF q) q ((q.length:Y)-1) (Ni h1n) (by have:=Gf (Ni h1n);omega) (by omega) (by omega)) p0))) <| Qd <| ps [] (Qj h1 (rfl))
theorem Qmz (q:N Q2):(Xa q).size<=10240:=by
 unfold Xa;cases hv:Qk q with
 | false=>exact zZ _
 | true=>
   have:=Gf hv;exact RD _ hv (by omega) (by omega)
theorem Qm0 (q:N Q2):Yp q=Xa q:=by
 unfold Yp Xa;rw[←Qel,Qfv]
theorem Qky (q:N Q2):(Yp q).size<=10240:=by rw[Qm0];exact Qmz q
theorem Qfw {x:Qq} (h:Ql x=Q):Je x.2=Q:=by
 unfold Ql W8 at h;simp only[zS] at h;have h2:=h.2;unfold Qu at h2;cases hv:Je x.2 with
 | true=>rfl
 | false=>rw[hv] at h2;cases h2
theorem Ld {x:Qq} (h:Ql x=Q):x.1.1.length<=5/\x.1.2.1.length<=12/\x.2.length<=5:=by
 have h1:=Mb h;exact ⟨h1.1,h1.2.1,Gh (Qfw h)⟩
theorem KS {x:Qq} (h:Ql x=Q) {d:Zj} (hd:d∈x.2):d.1.size<=6/\Xc d.1=Q/\Qk d.2=Q:=by
 have h1:=Qfw h;unfold Je at h1;obtain ⟨_,h2⟩:=QP (λ_ _ _=>rfl) h1;obtain ⟨i,hi⟩:=yH hd;have h3:=bo (h2 i d hi);have h4:=bn h3.1
 have h5:Qk d.2=Q:=by
  have h6:=h3.2;cases hc:decide (((i:K):Y)>(0:Y)) with
  | true=>rw[hc] at h6;exact bn (bo h6).2
  | false=>rw[hc] at h6;exact bn h6
 exact ⟨(Lp h4).2,h4,h5⟩
theorem Qfx {α β:Type} {R:Type} {f:K->α->N β->Rd R (N β) (N β)} {e:K->N β->N β} {g:α->N β} (hf:∀k a s,f k a s= .next (s++g a)) (he:∀k s,e k s=s):∀(l:N α) (k:K) (s:N β),X4 f e l k s= .brk (s++l.flatMap g)
 | [],k,s=>by simp[X4,he]
 | a::l,k,s=>by
   simp only[X4,hf];rw[Qfx hf he l,List.flatMap_cons,zL]
def C0 (f:Yj):N W:= [(⟨#[102,105,108,101]⟩:W),(Qz f.1),(Qz f.2.1),(bif f.2.2.1 then ⟨#[115]⟩ else ⟨#[111]⟩),(Qz f.2.2.2.1)]++f.2.2.2.2.flatMap λa=> [a.1,Xv a.2]
theorem KT (f:Yj):Zu f=Xl ⟨#[32]⟩ (C0 f):=by
 unfold Zu;rw[Qfx (f:=Fm) (e:=Fn) (g:=λa=> [a.1,Xv a.2]) (λ_ _ _=>rfl) (λ_ _=>rfl)];rfl
theorem Qaf:∀(l:N Ui) (k:K) (p:N W),p≠ []->X4 Cn Co l k (Xl ⟨#[32]⟩ p)= .brk (Xl ⟨#[32]⟩ (p++l.flatMap λa=> [a.1,Xv a.2]))
 | [],k,p,_=>by simp[X4,Co]
 | a ::l,k,p,hp=>by
   simp only[X4,Cn]
   rw[show (((Xl ⟨#[32]⟩ p++(⟨#[32]⟩:W))++a.1)++(⟨#[32]⟩:W))++(Zf a.2)=Xl ⟨#[32]⟩ (p++ [a.1,Xv a.2]) by
    rw[Fl _ hp (λe=>by cases e),K2,Qo8];simp only[ByteArray.append_assoc]]
   rw[Qaf l (k+1) _ (by simp),List.flatMap_cons,zL]
theorem Qjg (f:Yj):Kk f=Xl ⟨#[32]⟩ (C0 f):=by
 have h0:((bif f.2.2.1 then (((((⟨#[102,105,108,101,32]⟩:W)++(Qz f.1))++(⟨#[32]⟩:W))++(Qz f.2.1))++(⟨#[32,115,32]⟩:W)) else (((((⟨#[102,105,108,101,32]⟩:W)++(Qz f.1))++(⟨#[32]⟩:W))++(Qz f.2.1))++(⟨#[32,111,32]⟩:W)))++(Qz f.2.2.2.1))=Xl ⟨#[32]⟩ [(⟨#[102,105,108,101]⟩:W),(Qz f.1),(Qz f.2.1),(bif f.2.2.1 then ⟨#[115]⟩ else ⟨#[111]⟩),(Qz f.2.2.2.1)]:=by
  rw[Wa,Wa,Kr];rw[show (⟨#[102,105,108,101,32]⟩:W)=(⟨#[102,105,108,101]⟩:W)++(⟨#[32]⟩:W) from rfl,show (⟨#[32,115,32]⟩:W)=(⟨#[32]⟩:W)++(⟨#[115]⟩:W)++(⟨#[32]⟩:W) from rfl,show (⟨#[32,111,32]⟩:W)=(⟨#[32]⟩:W)++(⟨#[111]⟩:W)++(⟨#[32]⟩:W) from rfl];cases f.2.2.1<;>simp only[I,J,ByteArray.append_assoc]
 unfold Kk;rw[h0,Qaf _ _ _ (λe=>by cases e)];rfl
theorem Qjh (f:Yj):Kk f=Zu f:=by rw[Qjg,KT]
theorem MD {f:Yj} (h:FBd f):(C0 f).length<=15/\∀y,y∈C0 f->y.size<=10:=by
 have hl:=h.2.2.2.1
 have hlen:∀l:N Ui,(l.flatMap λa=> [a.1,Xv a.2]).length=2*l.length:=λl=>by
  induction l with
  | nil=>rfl
  | cons a l ih=>rw[List.flatMap_cons,zJ,ih];simp only[zG,zK];omega
 refine ⟨by unfold C0;rw[zJ,hlen];simp only[zG,zK];omega,λy hy=> ?_⟩;rcases yE.1 hy with hy | hy
 . exact Qae h y hy
 obtain ⟨a,ha,hy⟩:=List.mem_flatMap.1 hy;simp only[yA,List.mem_nil_iff,uK] at hy;rcases hy with rfl | rfl
 . exact Qfs h ha
 exact RC _
theorem Qm1 {f:Yj} (h:FBd f):(Zu f).size<=200:=by
 rw[KT];have h1:=MD h;exact zT (W0 (m:=10) (n:=15) rfl h1.2 h1.1) (by decide)
open GoE (enc wide)
def Bs (_:K) (a0:Y7) (s0:Z):Rd Z Z Z:=(.next (s0++ [(Yx a0)]))
def Bt (_:K) (s0:Z):Z:=s0
def Bu (_:K) (a1:Yj) (s1:Z):Rd Z Z Z:=(.next (s1++ [(Zu a1)]))
def Bv (_:K) (s1:Z):Z:=s1
def Bw (_:K) (a2:Zj) (s2:Z):Rd Z Z Z:=(.next (s2++ [((((⟨#[100,105,114,32]⟩:W)++a2.1)++(⟨#[32]⟩:W))++(Xa a2.2))]))
def Bx (_:K) (s2:Z):Z:=s2
def Q3 (x:Qq):Z:=(bif (!(Ql x)) then [] else (Out.on (X4 Bs Bt x.1.1 0 []) (λy0=>(Out.on (X4 Bu Bv x.1.2.1 0 (y0++ [((⟨#[110,101,120,116,32]⟩:W)++(Qz x.1.2.2))])) (λy1=>(Out.on (X4 Bw Bx x.2 0 y1) (λy2=>y2)))))))
theorem H7 (x:Qq):ACalls Tryz.prog 54 [.a [.h x.1.1,.h x.1.2.1,.i x.1.2.2,.h x.2]] (.o 0 (Q3 x)):=by
 refine en Qa Tryz.func54 λw0 F0 hG=> ?_
 refine sn Qa [1,2] [1] p0 <| Qb <| tn Qa [1,2,12] [1] (pc 1 (Ws x) p0) <| ck (!(Ql x)) (λh1=> ?_) (λh1=> ?_)
 ·have h1n:(Ql x)=L:=Vt h1;refine tu Qa [(1,.p 1 0),(2,.e 0)] [0] [(1, [.h x.1.1,.h x.1.2.1,.i x.1.2.2,.h x.2])] [] p0 <| opn [(L,2,0,Q,384000,1)] ?_
  exact Qd <| po0 [] (Q9 h1 (rfl))
 have h1n:(Ql x)=Q:=Zz h1;have h1nn:=(Mb h1n).2.2.1;have h1nl:=Ld h1n;refine Qf <| tu Qa [(1,.p 1 0),(2,.e 0),(3,.one (.slc (.own Q 832) 1 []))] [0] [(1, [.h x.1.1,.h x.1.2.1,.i x.1.2.2,.h x.2])] [] p0 <| Qb <| sn Qa [1,2,3,16,17,18] [1] (pl 3 x.1.1 p0) <| mz [(16,.h x.1.1),(17,.i (x.1.1.length:Y)),(18,.i 0)] [] [] [] <| wT 16 0 .sh x.1.1 (λhw2 hl3=> ?_)
 refine SV Bs Bt x.1.1 [] (λk0 s0=> [(3,.o 147202 s0),(18,.i (k0:Y))]) [3,18] (λy0=> [(3,.o 147352 y0)]) [3,16,17,18] (λk0 s0=>zF s0<=k0/\zF s0<=k0) (λy0=>zF y0<=5) (Xg [(832,147202)] (by kernel_rfl)) ⟨(by simp),(by simp)⟩ (λk0 s0 O U=> ?_) (λk0 s0 O U=> ?_) (λy0 hD0=> ?_)
 ·have hA0_0:=U.2.1;have hA0_1:=U.2.2;obtain ⟨a0,V⟩:=Xh (l:=x.1.1) (i:=k0) O;refine su Qa [(19,.b Q)] [] [] [] (pe 0 (zB ((k0:Y)<(x.1.1.length:Y))) p0) <| Qb <| ckT <| Qf <| Qb <| Qo <| sn Qa [1,2,3,5,16,17,18] [1,5] (pn 0 V p0) <| wT 3 0 (.own Q 147202) s0 (λhw4 hl5=> ?_)
  refine qu Qa [(3,.one (.slc (.own Q 1664) 1 ((eL s0)++ [[.s (Yx a0)]])))] [3,19] [] [] (pc 2 (YU a0) (pa s0 [(Yx a0)] p0)) ?_;refine eqn [(3,.o 1664 (s0++ [(Yx a0)]))] [3] [] [] (by rw[show ((eL s0)++ [[.s (Yx a0)]])=(eL (s0++ [(Yx a0)])) from Jc (rfl) (rfl)];first | done | kernel_rfl) ?_;refine rn Qa [1,2,3,16,17,18] [1] (pe 0 (Jl (Qn k0 (by omega))) p0) ?_;exact zM (s0++ [(Yx a0)]) (zP (Xg [(1664,147202)] (by kernel_rfl)) ⟨Qs V (rfl) U.1,by first|omega|(simp;omega) | simp,(by (simp;omega))⟩)
 ·have hA0_0:=U.2.1;have hA0_1:=U.2.2;exact su Qa [(19,.b L)] [] [] [] (pe 0 (zC ((k0:Y)<(x.1.1.length:Y))) p0) <| Qb <| ckF <| Q4 <| zM s0 (zP (Xg [(147202,147352)] (by kernel_rfl)) ⟨Xj O (rfl) U.1,by first|omega|(simp only[yG];omega)⟩)
 have hD0_0:=hD0.2;have hk6:=J4 (n:=x.1.2.2) (by omega);refine wT 3 0 (.own Q 147352) y0 (λhw7 hl8=> ?_);refine su Qa [(3,.one (.slc (.own Q 2240) 1 ((eL y0)++ [[.s ((⟨#[110,101,120,116,32]⟩:W)++(Qz x.1.2.2))]])))] [3] [] [] (pc 4 (U3 x.1.2.2 (by omega)) (px (Zs (n:=(zD (⟨#[110,101,120,116,32]⟩:W)+zD (Qz x.1.2.2))) (by have hq0:zD (⟨#[110,101,120,116,32]⟩:W)=5:=rfl;unfold H;first|omega|(simp only[zE];omega))) (pa y0 [((⟨#[110,101,120,116,32]⟩:W)++(Qz x.1.2.2))] p0))) <| eqn [(3,.o 2240 (y0++ [((⟨#[110,101,120,116,32]⟩:W)++(Qz x.1.2.2))]))] [3] [] [] (by rw[show ((eL y0)++ [[.s ((⟨#[110,101,120,116,32]⟩:W)++(Qz x.1.2.2))]])=(eL (y0++ [((⟨#[110,101,120,116,32]⟩:W)++(Qz x.1.2.2))])) from Jc (rfl) (rfl)];first | done | kernel_rfl) ?_
 refine Qb <| sn Qa [1,2,3,38,39,40] [1] (pl 3 x.1.2.1 p0) <| mz [(38,.h x.1.2.1),(39,.i (x.1.2.1.length:Y)),(40,.i 0)] [] [] [] <| wT 38 0 .sh x.1.2.1 (λhw9 hl10=> ?_)
 refine SV Bu Bv x.1.2.1 (y0++ [((⟨#[110,101,120,116,32]⟩:W)++(Qz x.1.2.2))]) (λk1 s1=> [(3,.o 147202 s1),(40,.i (k1:Y))]) [3,40] (λy1=> [(3,.o 147352 y1)]) [3,38,39,40] (λk1 s1=>zF s1<=(y0++ [((⟨#[110,101,120,116,32]⟩:W)++(Qz x.1.2.2))]).length+k1/\zF s1<=6+k1) (λy1=>zF y1<=18) (Xg [(2240,147202)] (by kernel_rfl)) ⟨(by simp),(by (simp;omega))⟩ (λk1 s1 hk1 hI1=> ?_) (λk1 s1 hk1 hI1=> ?_) (λy1 hD1=> ?_)
 ·have hA1_0:=hI1.2.1;have hA1_1:=hI1.2.2;obtain ⟨a1,hx1⟩:=Xh (l:=x.1.2.1) (i:=k1) hk1;have hfb:=(Mb ‹Ql x=Q›).2.2.2 _ (zU hx1);have hA9:=hA1_0;simp only[zJ,zG,zK] at hA9;refine su Qa [(41,.b Q)] [] [] [] (pe 0 (zB ((k1:Y)<(x.1.2.1.length:Y))) p0) <| Qb <| ckT <| Qf <| Qb <| Qo <| sn Qa [1,2,3,7,38,39,40] [1,7] (pn 0 hx1 p0) <| wT 3 0 (.own Q 147202) s1 (λhw11 hl12=> ?_)
  refine qu Qa [(3,.one (.slc (.own Q 3072) 1 ((eL s1)++ [[.s (Zu a1)]])))] [3,41] [] [] (pc 2 (JO a1 (by assumption)) (pa s1 [(Zu a1)] p0)) ?_;refine eqn [(3,.o 3072 (s1++ [(Zu a1)]))] [3] [] [] (by rw[show ((eL s1)++ [[.s (Zu a1)]])=(eL (s1++ [(Zu a1)])) from Jc (rfl) (rfl)];first | done | kernel_rfl) ?_;refine rn Qa [1,2,3,38,39,40] [1] (pe 0 (Jl (Qn k1 (by omega))) p0) ?_;exact zM (s1++ [(Zu a1)]) (zP (Xg [(3072,147202)] (by kernel_rfl)) ⟨Qs hx1 (rfl) hI1.1,by first|omega|(simp;omega) | simp,(by (simp;omega))⟩)
 ·have hA1_0:=hI1.2.1;have hA1_1:=hI1.2.2;exact su Qa [(41,.b L)] [] [] [] (pe 0 (zC ((k1:Y)<(x.1.2.1.length:Y))) p0) <| Qb <| ckF <| Q4 <| zM s1 (zP (Xg [(147202,147352)] (by kernel_rfl)) ⟨Xj hk1 (rfl) hI1.1,by first|omega|(simp only[yG];omega)⟩)
 have hD1_0:=hD1.2;refine Qb <| sn Qa [2,3,51,52,53] [] (pl 2 x.2 p0) <| mz [(51,.h x.2),(52,.i (x.2.length:Y)),(53,.i 0)] [1] [] [1] <| wT 51 0 .sh x.2 (λhw13 hl14=> ?_)
 refine AB Bw Bx x.2 y1 (λk2 s2=> [(3,.o 147201 s2),(53,.i (k2:Y))]) [3,53] (λy2=> [(3,.o 147351 y2)]) [3,51,52,53] (λk2 s2=>zF s2<=y1.length+k2/\zF s2<=18+k2) (Xg [(147352,147201)] (by kernel_rfl)) ⟨(by simp),(by (simp;omega))⟩ (λk2 s2 hk2 hI2=> ?_) (λk2 s2 hk2 hI2=> ?_) (λy2 hD2=> ?_)
 ·have hA2_0:=hI2.2.1;have hA2_1:=hI2.2.2;obtain ⟨a2,hx2⟩:=Xh (l:=x.2) (i:=k2) hk2;have hdn:=(KS ‹Ql x=Q› (zU hx2)).1;refine su Qa [(54,.b Q)] [] [] [] (pe 0 (zB ((k2:Y)<(x.2.length:Y))) p0) <| Qb <| ckT <| Qf <| Qb <| Qo <| sn Qa [2,3,9,51,52,53] [9] (pn 0 hx2 p0) ?_
  have hk15:=Qmz a2.2;refine wT 3 0 (.own Q 147201) s2 (λhw16 hl17=> ?_);refine qU Qa Yo [(3,.one (.slc (.own Q 4288) 1 ((eL s2)++ [[.s ((((⟨#[100,105,114,32]⟩:W)++a2.1)++(⟨#[32]⟩:W))++(Xa a2.2))]])))] [3,54] [] [] (px (Zs (n:=(zD (⟨#[100,105,114,32]⟩:W)+zD a2.1)) (by have hq0:zD (⟨#[100,105,114,32]⟩:W)=4:=rfl;unfold H;first|omega|(simp only[zE];omega))) (px (Zs (n:=(zD ((⟨#[100,105,114,32]⟩:W)++a2.1)+zD (⟨#[32]⟩:W))) (by have hq0:zD (⟨#[100,105,114,32]⟩:W)=4:=rfl;have hq1:zD (⟨#[32]⟩:W)=1:=rfl;unfold H;first|omega|(simp only[zE];omega))) (pc 7 (ZE a2.2) (px (Zs (n:=(zD (((⟨#[100,105,114,32]⟩:W)++a2.1)++(⟨#[32]⟩:W))+zD (Xa a2.2))) (by have hq0:zD (⟨#[100,105,114,32]⟩:W)=4:=rfl;have hq1:zD (⟨#[32]⟩:W)=1:=rfl;unfold H;first|omega|(simp only[zE];omega))) (pa s2 [((((⟨#[100,105,114,32]⟩:W)++a2.1)++(⟨#[32]⟩:W))++(Xa a2.2))] p0))))) ?_;refine eqn [(3,.o 4288 (s2++ [((((⟨#[100,105,114,32]⟩:W)++a2.1)++(⟨#[32]⟩:W))++(Xa a2.2))]))] [3] [] [] (by rw[show ((eL s2)++ [[.s ((((⟨#[100,105,114,32]⟩:W)++a2.1)++(⟨#[32]⟩:W))++(Xa a2.2))]])=(eL (s2++ [((((⟨#[100,105,114,32]⟩:W)++a2.1)++(⟨#[32]⟩:W))++(Xa a2.2))])) from Jc (rfl) (rfl)];first | done | kernel_rfl) ?_;refine rn Qa [2,3,51,52,53] [] (pe 0 (Jl (Qn k2 (by omega))) p0) ?_;exact zM (s2++ [((((⟨#[100,105,114,32]⟩:W)++a2.1)++(⟨#[32]⟩:W))++(Xa a2.2))]) (zP (Xg [(4288,147201)] (by kernel_rfl)) ⟨Qs hx2 (rfl) hI2.1,by first|omega|(simp;omega) | simp,(by (simp;omega))⟩)
 ·have hA2_0:=hI2.2.1;have hA2_1:=hI2.2.2;exact su Qa [(54,.b L)] [] [] [] (pe 0 (zC ((k2:Y)<(x.2.length:Y))) p0) <| Qb <| ckF <| Q4 <| zM _ (zP (Xg [(147201,147351)] (by kernel_rfl)) (Xj hk2 (rfl) hI2.1))
 exact sn Qa [2] [] p0 <| Qd <| po0 [] (Qj h1 (Vp hD0.1 (Vp hD1.1 (Vp hD2 (rfl)))))
def By (_:K) (a0:Y7) (s0:Z):Rd Z Z Z:=(.next (s0++ [(Kg a0)]))
def Bz (_:K) (s0:Z):Z:=s0
def B0 (_:K) (a1:Yj) (s1:Z):Rd Z Z Z:=(.next (s1++ [(Kk a1)]))
def B2 (_:K) (s1:Z):Z:=s1
def B3 (_:K) (a2:Zj) (s2:Z):Rd Z Z Z:=(.next (s2++ [((((⟨#[100,105,114,32]⟩:W)++a2.1)++(⟨#[32]⟩:W))++(Yp a2.2))]))
def B4 (_:K) (s2:Z):Z:=s2
def Xz (x:Qq):Z:=(bif (!(Q7 x)) then [] else (Out.on (X4 By Bz x.1.1 0 []) (λy0=>(Out.on (X4 B0 B2 x.1.2.1 0 (y0++ [((⟨#[110,101,120,116,32]⟩:W)++(Qz x.1.2.2))])) (λy1=>(Out.on (X4 B3 B4 x.2 0 y1) (λy2=>y2)))))))
theorem H8 (x:Qq):ACalls Tryz.prog 41 [.a [.h x.1.1,.h x.1.2.1,.i x.1.2.2,.h x.2]] (.o 0 (Xz x)):=by
 refine en Qa Tryz.func41 λw0 F0 hG=> ?_
 refine sn Qa [1,2] [1] p0 <| tn Qa [1,2,3] [1] p0 <| Qb <| tu Qa [(1,.p 1 0),(2,.e 0),(3,.one (.slc (.own Q 448) 1 [])),(10,.b (!(Q7 x)))] [0] [(1, [.h x.1.1,.h x.1.2.1,.i x.1.2.2,.h x.2])] [] (pc 1 (Ju x) p0) <| ck (!(Q7 x)) (λh1=> ?_) (λh1=> ?_)
 ·have h1n:(Q7 x)=L:=Vt h1;exact sn Qa [1,2,3] [1] p0 <| Qd <| po0 [] (Q9 h1 (rfl))
 have h1n:(Q7 x)=Q:=Zz h1;have h1nn:=(EY h1n).2.2.1;have h1nl:=Ld ((Fy x).symm.trans h1n);refine Qf <| Qb <| sn Qa [1,2,3,4] [1] p0 <| mz [(4,.i 0)] [10] [] [] <| wB 1 0 .sh x.1.1 (λhw2 hl3=> ?_)
 refine SV By Bz x.1.1 [] (λk0 s0=> [(3,.o 147202 s0),(4,.i (k0:Y))]) [3,4] (λy0=> [(3,.o 147352 y0)]) [3,4] (λk0 s0=>zF s0<=k0/\zF s0<=k0) (λy0=>zF y0<=5) (Xg [(448,147202)] (by kernel_rfl)) ⟨(by simp),(by simp)⟩ (λk0 s0 O U=> ?_) (λk0 s0 O U=> ?_) (λy0 hD0=> ?_)
 ·have hA0_0:=U.2.1;have hA0_1:=U.2.2;obtain ⟨a0,V⟩:=Xh (l:=x.1.1) (i:=k0) O;refine Qb <| sn Qa [1,2,3,4,17] [1] (pl 4 x.1.1 (pe 5 (zB ((k0:Y)<(x.1.1.length:Y))) p0)) <| ckT <| Qf <| Qb <| Qo <| wT 3 0 (.own Q 147202) s0 (λhw4 hl5=> ?_)
  refine qu Qa [(3,.one (.slc (.own Q 1856) 1 ((eL s0)++ [[.s (Kg a0)]])))] [3] [] [] (pn 5 V (pc 7 (YV a0) (pa s0 [(Kg a0)] p0))) ?_;refine eqn [(3,.o 1856 (s0++ [(Kg a0)]))] [3] [] [] (by rw[show ((eL s0)++ [[.s (Kg a0)]])=(eL (s0++ [(Kg a0)])) from Jc (rfl) (rfl)];first | done | kernel_rfl) ?_;refine rn Qa [1,2,3,4] [1] (pe 1 (Jl (Qn k0 (by omega))) p0) ?_;exact zM (s0++ [(Kg a0)]) (zP (Xg [(1856,147202)] (by kernel_rfl)) ⟨Qs V (rfl) U.1,by first|omega|(simp;omega) | simp,(by (simp;omega))⟩)
 ·have hA0_0:=U.2.1;have hA0_1:=U.2.2;exact Qb <| sn Qa [1,2,3,4,17] [1] (pl 4 x.1.1 (pe 5 (zC ((k0:Y)<(x.1.1.length:Y))) p0)) <| ckF <| Q4 <| zM s0 (zP (Xg [(147202,147352)] (by kernel_rfl)) ⟨Xj O (rfl) U.1,by first|omega|(simp only[yG];omega)⟩)
 have hD0_0:=hD0.2;have hk6:=J4 (n:=x.1.2.2) (by omega);refine wT 3 0 (.own Q 147352) y0 (λhw7 hl8=> ?_);refine su Qa [(3,.one (.slc (.own Q 2368) 1 ((eL y0)++ [[.s ((⟨#[110,101,120,116,32]⟩:W)++(Qz x.1.2.2))]])))] [3] [] [] (pc 4 (Wp x.1.2.2 (by omega)) (px (Zs (n:=(zD (⟨#[110,101,120,116,32]⟩:W)+zD (Qz x.1.2.2))) (by have hq0:zD (⟨#[110,101,120,116,32]⟩:W)=5:=rfl;unfold H;first|omega|(simp only[zE];omega))) (pa y0 [((⟨#[110,101,120,116,32]⟩:W)++(Qz x.1.2.2))] p0))) <| eqn [(3,.o 2368 (y0++ [((⟨#[110,101,120,116,32]⟩:W)++(Qz x.1.2.2))]))] [3] [] [] (by rw[show ((eL y0)++ [[.s ((⟨#[110,101,120,116,32]⟩:W)++(Qz x.1.2.2))]])=(eL (y0++ [((⟨#[110,101,120,116,32]⟩:W)++(Qz x.1.2.2))])) from Jc (rfl) (rfl)];first | done | kernel_rfl) ?_
 refine Qb <| sn Qa [1,2,3,5] [1] p0 <| mz [(5,.i 0)] [] [] [] <| wB 1 1 .sh x.1.2.1 (λhw9 hl10=> ?_)
 refine SV B0 B2 x.1.2.1 (y0++ [((⟨#[110,101,120,116,32]⟩:W)++(Qz x.1.2.2))]) (λk1 s1=> [(3,.o 147202 s1),(5,.i (k1:Y))]) [3,5] (λy1=> [(3,.o 147352 y1)]) [3,5] (λk1 s1=>zF s1<=(y0++ [((⟨#[110,101,120,116,32]⟩:W)++(Qz x.1.2.2))]).length+k1/\zF s1<=6+k1) (λy1=>zF y1<=18) (Xg [(2368,147202)] (by kernel_rfl)) ⟨(by simp),(by (simp;omega))⟩ (λk1 s1 hk1 hI1=> ?_) (λk1 s1 hk1 hI1=> ?_) (λy1 hD1=> ?_)
 ·have hA1_0:=hI1.2.1;have hA1_1:=hI1.2.2;obtain ⟨a1,hx1⟩:=Xh (l:=x.1.2.1) (i:=k1) hk1;have hfb:=(Mb ((Fy x).symm.trans ‹Q7 x=Q›)).2.2.2 _ (zU hx1);have hA9:=hA1_0;simp only[zJ,zG,zK] at hA9;refine Qb <| sn Qa [1,2,3,5,43] [1] (pl 4 x.1.2.1 (pe 5 (zB ((k1:Y)<(x.1.2.1.length:Y))) p0)) <| ckT <| Qf <| Qb <| Qo <| wT 3 0 (.own Q 147202) s1 (λhw11 hl12=> ?_)
  refine qu Qa [(3,.one (.slc (.own Q 3520) 1 ((eL s1)++ [[.s (Kk a1)]])))] [3] [] [] (pn 5 hx1 (pc 7 (JP a1 (by assumption)) (pa s1 [(Kk a1)] p0))) ?_;refine eqn [(3,.o 3520 (s1++ [(Kk a1)]))] [3] [] [] (by rw[show ((eL s1)++ [[.s (Kk a1)]])=(eL (s1++ [(Kk a1)])) from Jc (rfl) (rfl)];first | done | kernel_rfl) ?_;refine rn Qa [1,2,3,5] [1] (pe 1 (Jl (Qn k1 (by omega))) p0) ?_;exact zM (s1++ [(Kk a1)]) (zP (Xg [(3520,147202)] (by kernel_rfl)) ⟨Qs hx1 (rfl) hI1.1,by first|omega|(simp;omega) | simp,(by (simp;omega))⟩)
 ·have hA1_0:=hI1.2.1;have hA1_1:=hI1.2.2;exact Qb <| sn Qa [1,2,3,5,43] [1] (pl 4 x.1.2.1 (pe 5 (zC ((k1:Y)<(x.1.2.1.length:Y))) p0)) <| ckF <| Q4 <| zM s1 (zP (Xg [(147202,147352)] (by kernel_rfl)) ⟨Xj hk1 (rfl) hI1.1,by first|omega|(simp only[yG];omega)⟩)
 have hD1_0:=hD1.2;refine Qb <| sn Qa [1,2,3,6] [1] p0 <| mz [(6,.i 0)] [] [] [] <| wB 1 3 .sh x.2 (λhw13 hl14=> ?_)
 refine JM B3 B4 x.2 y1 (λk2 s2=> [(3,.o 147202 s2),(6,.i (k2:Y))]) [3,6] (λ_ _=> []) [] (λy2=> [(3,.o 147352 y2)]) [1,3,6] (λ_=> []) [1] (λk2 s2=>zF s2<=y1.length+k2/\zF s2<=18+k2) (Xg [(147352,147202)] (by kernel_rfl)) ⟨(by simp),(by (simp;omega))⟩ (λk2 s2 hk2 hI2=> ?_) (λk2 s2 hk2 hI2=> ?_) (λy2 hD2=> ?_)
 ·have hA2_0:=hI2.2.1;have hA2_1:=hI2.2.2;obtain ⟨a2,hx2⟩:=Xh (l:=x.2) (i:=k2) hk2;have hdn:=(KS ((Fy x).symm.trans ‹Q7 x=Q›) (zU hx2)).1;refine Qb <| sn Qa [1,2,3,6,60] [1] (pl 3 x.2 (pe 4 (zB ((k2:Y)<(x.2.length:Y))) p0)) <| ckT <| Qf <| Qb <| Qo ?_
  have hk15:=Qky a2.2;refine wT 3 0 (.own Q 147202) s2 (λhw16 hl17=> ?_);refine qU Qa Yo [(3,.one (.slc (.own Q 5184) 1 ((eL s2)++ [[.s ((((⟨#[100,105,114,32]⟩:W)++a2.1)++(⟨#[32]⟩:W))++(Yp a2.2))]])))] [3] [] [] (pn 4 hx2 (px (Zs (n:=(zD (⟨#[100,105,114,32]⟩:W)+zD a2.1)) (by have hq0:zD (⟨#[100,105,114,32]⟩:W)=4:=rfl;unfold H;first|omega|(simp only[zE];omega))) (px (Zs (n:=(zD ((⟨#[100,105,114,32]⟩:W)++a2.1)+zD (⟨#[32]⟩:W))) (by have hq0:zD (⟨#[100,105,114,32]⟩:W)=4:=rfl;have hq1:zD (⟨#[32]⟩:W)=1:=rfl;unfold H;first|omega|(simp only[zE];omega))) (pn 12 hx2 (pc 15 (Mz a2.2) (px (Zs (n:=(zD (((⟨#[100,105,114,32]⟩:W)++a2.1)++(⟨#[32]⟩:W))+zD (Yp a2.2))) (by have hq0:zD (⟨#[100,105,114,32]⟩:W)=4:=rfl;have hq1:zD (⟨#[32]⟩:W)=1:=rfl;unfold H;first|omega|(simp only[zE];omega))) (pa s2 [((((⟨#[100,105,114,32]⟩:W)++a2.1)++(⟨#[32]⟩:W))++(Yp a2.2))] p0))))))) ?_;refine eqn [(3,.o 5184 (s2++ [((((⟨#[100,105,114,32]⟩:W)++a2.1)++(⟨#[32]⟩:W))++(Yp a2.2))]))] [3] [] [] (by rw[show ((eL s2)++ [[.s ((((⟨#[100,105,114,32]⟩:W)++a2.1)++(⟨#[32]⟩:W))++(Yp a2.2))]])=(eL (s2++ [((((⟨#[100,105,114,32]⟩:W)++a2.1)++(⟨#[32]⟩:W))++(Yp a2.2))])) from Jc (rfl) (rfl)];first | done | kernel_rfl) ?_;refine rn Qa [1,2,3,6] [1] (pe 1 (Jl (Qn k2 (by omega))) p0) ?_;exact zM (s2++ [((((⟨#[100,105,114,32]⟩:W)++a2.1)++(⟨#[32]⟩:W))++(Yp a2.2))]) (zP (Xg [(5184,147202)] (by kernel_rfl)) ⟨Qs hx2 (rfl) hI2.1,by first|omega|(simp;omega) | simp,(by (simp;omega))⟩)
 ·have hA2_0:=hI2.2.1;have hA2_1:=hI2.2.2;exact Qb <| sn Qa [1,2,3,6,60] [1] (pl 3 x.2 (pe 4 (zC ((k2:Y)<(x.2.length:Y))) p0)) <| ckF <| Q4 <| zM _ (zP (Xg [(147202,147352)] (by kernel_rfl)) (Xj hk2 (rfl) hI2.1))
 exact sn Qa [2] [] p0 <| Qd <| po0 [] (Qj h1 (Vp hD0.1 (Vp hD1.1 (Vp hD2 (rfl)))))
def U4 (d:Zj):W:=(((⟨#[100,105,114,32]⟩:W)++d.1)++(⟨#[32]⟩:W))++(Xa d.2)
theorem UZ (x:Qq):Q3 x=bif !(Ql x) then [] else ((x.1.1.map Yx++ [((⟨#[110,101,120,116,32]⟩:W)++(Qz x.1.2.2))])++x.1.2.1.map Zu)++x.2.map U4:=by
 unfold Q3;cases Ql x with
 | false=>rfl
 | true=>
   simp only[yB,J];rw[Vi (f:=Bs) (e:=Bt) (g:=Yx) (λ_ _ _=>rfl)];simp only[Out.on];rw[Vi (f:=Bu) (e:=Bv) (g:=Zu) (λ_ _ _=>rfl)];simp only[Out.on];rw[Vi (f:=Bw) (e:=Bx) (g:=U4) (λ_ _ _=>rfl)];rfl
theorem enc_eq (x:Qq):Xz x=Q3 x:=by
 rw[UZ];unfold Xz;rw[Fy];cases Ql x with
 | false=>rfl
 | true=>
   simp only[yB,J];rw[Vi (f:=By) (e:=Bz) (g:=Kg) (λ_ _ _=>rfl)];simp only[Out.on];rw[Vi (f:=B0) (e:=B2) (g:=Kk) (λ_ _ _=>rfl)];simp only[Out.on];rw[Vi (f:=B3) (e:=B4) (g:=λd=>(((⟨#[100,105,114,32]⟩:W)++d.1)++(⟨#[32]⟩:W))++(Yp d.2)) (λ_ _ _=>rfl)];rw[show Kg=Yx from funext Qfl,show Kk=Zu from funext Qjh,show (λd:Zj=>(((⟨#[100,105,114,32]⟩:W)++d.1)++(⟨#[32]⟩:W))++(Yp d.2))=U4 from funext λd=>by rw[Qm0];rfl];rfl
theorem Qfy (x:Qq):(Q3 x).length<=23/\∀y,y∈Q3 x->y.size<=10300:=by
 rw[UZ];cases hv:Ql x with
 | false=>exact ⟨zZ _,λy hy=>by cases hy⟩
 | true =>
   have h1:=Ld hv;have h2:=Mb hv;simp only[yB,J];refine ⟨by simp only[zJ,List.length_map,zG,zK];omega,λy hy=> ?_⟩;rcases yE.1 hy with hy | hy
   . rcases yE.1 hy with hy | hy
     . rcases yE.1 hy with hy | hy
       . obtain ⟨f,_,rfl⟩:=yU.1 hy;have:=PZ f;omega
       rw[zV.1 hy,zE];have h3:=J4 (n:=x.1.2.2) (by omega);have e1:(⟨#[110,101,120,116,32]⟩:W).size=5:=rfl;omega
     obtain ⟨f,hf,rfl⟩:=yU.1 hy;have:=Qm1 (h2.2.2.2 f hf);omega
   obtain ⟨d,hd,rfl⟩:=yU.1 hy;have h3:=(KS hv hd).1;have h4:=Qmz d.2;have e1:(⟨#[100,105,114,32]⟩:W).size=4:=rfl;have e2:(⟨#[32]⟩:W).size=1:=rfl;unfold U4;simp only[zE];omega
theorem Qm2 (x:Qq):(Xz x).length<=23/\∀y,y∈Xz x->y.size<=10300:=by rw[enc_eq];exact Qfy x
theorem Qag {R S T:Type} {f:S->Rd R S T} (hf:∀s r,f s≠ .ret r):∀(n:K) (s:S) (o:Out R T),whl f n s=uB o->∃t,o= .brk t
 | 0,s,o,h=>by cases h
 | n+1,s,o,h=>by
   simp only[whl] at h;cases hs:f s with
   | next s'=>rw[hs] at h;exact Qag hf n s' o h
   | brk t=>rw[hs] at h;exact ⟨t,(yM h).symm⟩
   | ret r=>exact absurd hs (hf s r)
theorem Qpb (op:Y):1<=(Qy op).size:=by
 cases h:Xo op 1 9 with
 | false=>unfold Qy;rw[h];exact yI 1
 | true=>rcases KR h with rfl | rfl | rfl | rfl | rfl | rfl | rfl | rfl | rfl<;>decide
def Pz (p:K->G):K->K->Y->Y
 | 0,_,s=>s
 | n+1,k,s=>Pz p n (k+1) (bif p k then ((k+1:K):Y) else s)
theorem P0 {R:Type} {f:K->Y->Rd R Y Y} {e:K->Y->Y} {p:K->G} (hf:∀k s,f k s=bif p k then .next ((k+1:K):Y) else .next s) (he:∀k s,e k s=s):∀(n k:K) (s:Y),Ks f e n k s= .brk (Pz p n k s)
 | 0,k,s=>by simp only[Ks,he];rfl
 | n+1,k,s=>by
   simp only[Ks,hf];cases hp:p k with
   | true=>simp only[I];rw[P0 hf he n];simp only[Pz,hp,I]
   | false=>simp only[J];rw[P0 hf he n];simp only[Pz,hp,J]
def Sg (w:W):Y:=Pz (λk=>(Qy ((k+1:K):Y)).toList==w.toList) 9 0 0
theorem RE (p:K->G):∀(n k:K) (s:Y),0<=s->s<=k->0<=Pz p n k s/\Pz p n k s<=k+n
 | 0,k,s,h0,h1=>⟨h0,by unfold Pz;omega⟩
 | n+1,k,s,h0,h1=>by
   unfold Pz;cases hp:p k with
   | true=>have:=RE p n (k+1) ((k+1:K):Y) (by omega) (by omega);simp only[I];omega
   | false=>have:=RE p n (k+1) s h0 (by omega);simp only[J];omega
theorem Qm3 (w:W):0<=Sg w/\Sg w<=9:=by
 have:=RE (λk=>(Qy ((k+1:K):Y)).toList==w.toList) 9 0 0 (by omega) (by omega);unfold Sg;omega
theorem FC:Sg ⟨#[]⟩=0:=by kernel_rfl
theorem Qqp {s:W} (h:s.size=0):s=⟨#[]⟩:=by
 apply ByteArray.ext;exact Array.eq_empty_of_size_eq_zero h
theorem Qfz {w:W} (h:Sg w≠0):1<=w.size:=by
 refine yO λhn=>h ?_
 rw[Qqp (s:=w) (by omega)];exact FC
open GoE (enc wide)
def Ad (_:K) (a0:W) (s0:W):Rd (W) (W) (W):=(.next (s0++(a0++(⟨#[10]⟩:W))))
def Cp (_:K) (s0:W):W:=s0
def Wm (version:Y) (x:Qq):W:=(bif ((!(Ql x))|| (!(Xo version 1 1000000000))) then ⟨#[]⟩ else (Out.on (X4 Ad Cp (Q3 x) 0 ((Qz version)++(⟨#[10]⟩:W))) (λy0=>((y0++(Qz (Wt y0)))++(⟨#[46]⟩:W)))))
theorem JQ (version:Y) (x:Qq):ACalls Tryz.prog 186 [.i version,.a [.h x.1.1,.h x.1.2.1,.i x.1.2.2,.h x.2]] (.s (Wm version x)):=by
 refine en Qa Tryz.func186 λw0 F0 hG=> ?_
 have hes:=Qfy x;refine sn Qa [0,3,4] [3] p0 <| Qb <| Qb <| mz [(3,.p 3 0),(4,.s ⟨#[]⟩)] [1] [(3, [.h x.1.1,.h x.1.2.1,.i x.1.2.2,.h x.2])] [] <| jn [(15,.b ((!(Ql x))|| (!(Xo version 1 1000000000))))] [] [] [] (!(Ql x)) (λh1=> ?_) (λh1=> ?_) ?_
 ·have h1n:(Ql x)=L:=Vt h1;refine rn Qa [0,3,4,15] [3] (pc 1 (cb h1n (Ws x)) (pe 2 (show .b (!L)= .b Q from rfl) p0)) ?_;exact zA (by rw[h1]<;>kernel_rfl)
 ·have h1n:(Ql x)=Q:=Zz h1;have h1nn:=(Mb h1n).2.2.1;have h1nl:=Ld h1n;refine rn Qa [0,3,4,15] [3] (pc 1 (cb h1n (Ws x)) (pe 2 (show .b (!Q)= .b L from rfl) (pc 5 (Js version 1 1000000000) p0))) ?_;exact zA (by rw[h1]<;>kernel_rfl)
 refine ck ((!(Ql x))|| (!(Xo version 1 1000000000))) (λh2=> ?_) (λh2=> ?_)
 ·exact su Qa [] [15] [] [] p0 <| Qd <| ps [] (Q9 h2 (rfl))
 have h2l:((!(Ql x)))=L:=JL h2;have h2ln:(Ql x)=Q:=Zz h2l;have h2lnn:=(Mb h2ln).2.2.1;have h2lnl:=Ld h2ln;have h2r:((!(Xo version 1 1000000000)))=L:=WL h2;have h2rn:(Xo version 1 1000000000)=Q:=Zz h2r;have h2rnw:=Ki.1 h2rn;have h2rnw:=Ki.1 h2rn;refine Qf ?_;have hk3:=J4 (n:=version) (by omega);refine sn Qa [3,4,5] [3] (pc 1 (U3 version (by omega)) (px (Zs (n:=(zD (Qz version)+zD (⟨#[10]⟩:W))) (by have hq0:zD (⟨#[10]⟩:W)=1:=rfl;unfold H;first|omega|(simp only[zE];omega))) p0)) <| Qb <| tn Qa [4,5,20,21,22] [] (pc 1 (H7 x) (pl 2 (Q3 x) p0)) <| mz [(5,.s ((Qz version)++(⟨#[10]⟩:W))),(20,.o 1280 (Q3 x)),(21,.i ((Q3 x).length:Y)),(22,.i 0)] [0,3,15] [] [3] <| wT 20 0 (.own Q 1280) (Q3 x) (λhw4 hl5=> ?_)
 refine SV Ad Cp (Q3 x) ((Qz version)++(⟨#[10]⟩:W)) (λk0 s0=> [(5,.s s0),(22,.i (k0:Y))]) [5,22] (λy0=> [(5,.s y0)]) [5,20,21,22] (λk0 s0=>zD s0<=40+10400*k0) (λy0=>zD y0<=400000) wf0 (by have hq1:zD (⟨#[10]⟩:W)=1:=rfl;simp only[zE];omega) (λk0 s0 O U=> ?_) (λk0 s0 O U=> ?_) (λy0 hD0=> ?_)
 ·have hA0_0:=U.2;obtain ⟨a0,V⟩:=Xh (l:=Q3 x) (i:=k0) O;have hxs:=hes.2 _ (zU V);have hll:=hes.1;refine su Qa [(23,.b Q)] [] [] [] (pe 0 (zB ((k0:Y)<((Q3 x).length:Y))) p0) <| Qb <| ckT <| Qf <| Qb <| Qo <| su Qa [(7,.s a0)] [23] [] [] (pN 0 V p0) <| rn Qa [4,5,20,21,22] [] (px (Zs (n:=(zD a0+zD (⟨#[10]⟩:W))) (by have hq0:zD (⟨#[10]⟩:W)=1:=rfl;unfold H;first|omega|(simp only[zE];omega))) (px (Zs (n:=(zD s0+zD (a0++(⟨#[10]⟩:W)))) (by have hq0:zD (⟨#[10]⟩:W)=1:=rfl;unfold H;first|omega|(simp only[zE];omega))) p0)) ?_
  refine qn Qa [4,5,20,21,22] [] (pe 0 (Jl (Qn k0 (by omega))) p0) ?_;exact xw (s0++(a0++(⟨#[10]⟩:W))) ⟨Qs V (rfl) U.1,(by have hq1:zD (⟨#[10]⟩:W)=1:=rfl;simp only[zE];omega)⟩
 ·have hA0_0:=U.2;exact su Qa [(23,.b L)] [] [] [] (pe 0 (zC ((k0:Y)<((Q3 x).length:Y))) p0) <| Qb <| ckF <| Q4 <| xw s0 ⟨Xj O (rfl) U.1,by first|omega|(simp only[yG];omega)⟩
 have hD0_0:=hD0.2;have hk6:=Qaa y0;have hk7:=J4 (n:=Wt y0) (by omega);exact sn Qa [4] [] (pc 2 (AJ y0) (pc 3 (U3 (Wt y0) (by omega)) (px (Zs (n:=(zD y0+zD (Qz (Wt y0)))) (by unfold H;first|omega|(simp only[zE];omega))) (px (Zs (n:=(zD (y0++(Qz (Wt y0)))+zD (⟨#[46]⟩:W))) (by have hq0:zD (⟨#[46]⟩:W)=1:=rfl;unfold H;first|omega|(simp only[zE];omega))) p0)))) <| Qd <| ps [] (Qj h2 (Vp hD0.1 (rfl)))
def Cq (_:K) (a0:W) (s0:W):Rd (W) (W) (W):=(.next ((s0++a0)++(⟨#[10]⟩:W)))
def Fo (_:K) (s0:W):W:=s0
def A3 (version:Y) (x:Qq):W:=(bif ((!(Q7 x))|| (!(Q0 version 1 1000000000))) then ⟨#[]⟩ else (Out.on (X4 Cq Fo (Xz x) 0 ((Qz version)++(⟨#[10]⟩:W))) (λy0=>((y0++(Qz (Uo y0)))++(⟨#[46]⟩:W)))))
theorem JR (version:Y) (x:Qq):ACalls Tryz.prog 167 [.i version,.a [.h x.1.1,.h x.1.2.1,.i x.1.2.2,.h x.2]] (.s (A3 version x)):=by
 refine en Qa Tryz.func167 λw0 F0 hG=> ?_
 have hes:=Qm2 x;refine sn Qa [0,3,4] [3] p0 <| Qb <| Qb <| mz [(3,.p 3 0),(4,.s ⟨#[]⟩)] [1] [(3, [.h x.1.1,.h x.1.2.1,.i x.1.2.2,.h x.2])] [] <| jn [(15,.b ((!(Q7 x))|| (!(Q0 version 1 1000000000))))] [] [] [] (!(Q7 x)) (λh1=> ?_) (λh1=> ?_) ?_
 ·have h1n:(Q7 x)=L:=Vt h1;refine rn Qa [0,3,4,15] [3] (pc 1 (cb h1n (Ju x)) (pe 2 (show .b (!L)= .b Q from rfl) p0)) ?_;exact zA (by rw[h1]<;>kernel_rfl)
 ·have h1n:(Q7 x)=Q:=Zz h1;have h1nn:=(EY h1n).2.2.1;have h1nl:=Ld ((Fy x).symm.trans h1n);refine rn Qa [0,3,4,15] [3] (pc 1 (cb h1n (Ju x)) (pe 2 (show .b (!Q)= .b L from rfl) (pc 5 (Ys version 1 1000000000) p0))) ?_;exact zA (by rw[h1]<;>kernel_rfl)
 refine ck ((!(Q7 x))|| (!(Q0 version 1 1000000000))) (λh2=> ?_) (λh2=> ?_)
 ·exact su Qa [] [15] [] [] p0 <| Qd <| ps [] (Q9 h2 (rfl))
 have h2l:((!(Q7 x)))=L:=JL h2;have h2ln:(Q7 x)=Q:=Zz h2l;have h2lnn:=(EY h2ln).2.2.1;have h2lnl:=Ld ((Fy x).symm.trans h2ln);have h2r:((!(Q0 version 1 1000000000)))=L:=WL h2;have h2rn:(Q0 version 1 1000000000)=Q:=Zz h2r;have h2rnw:=K1.1 h2rn;have h2rnw:=K1.1 h2rn;refine Qf ?_;have hk3:=J4 (n:=version) (by omega);refine sn Qa [3,4,5] [3] (pc 1 (Wp version (by omega)) (px (Zs (n:=(zD (Qz version)+zD (⟨#[10]⟩:W))) (by have hq0:zD (⟨#[10]⟩:W)=1:=rfl;unfold H;first|omega|(simp only[zE];omega))) p0)) <| tn Qa [4,5,6] [] (pc 1 (H8 x) p0) <| Qb <| tu Qa [(5,.s ((Qz version)++(⟨#[10]⟩:W))),(6,.o 1280 (Xz x)),(7,.i 0)] [0,3,15] [] [3] p0 <| wT 6 0 (.own Q 1280) (Xz x) (λhw4 hl5=> ?_)
 refine SV Cq Fo (Xz x) ((Qz version)++(⟨#[10]⟩:W)) (λk0 s0=> [(5,.s s0),(7,.i (k0:Y))]) [5,7] (λy0=> [(5,.s y0)]) [5,6,7] (λk0 s0=>zD s0<=40+10400*k0) (λy0=>zD y0<=400000) wf0 (by have hq1:zD (⟨#[10]⟩:W)=1:=rfl;simp only[zE];omega) (λk0 s0 O U=> ?_) (λk0 s0 O U=> ?_) (λy0 hD0=> ?_)
 ·have hA0_0:=U.2;obtain ⟨a0,V⟩:=Xh (l:=Xz x) (i:=k0) O;have hxs:=hes.2 _ (zU V);have hll:=hes.1;refine Qb <| sn Qa [4,5,6,7,24] [] (pl 2 (Xz x) (pe 3 (zB ((k0:Y)<((Xz x).length:Y))) p0)) <| ckT <| Qf <| Qb <| Qo <| qn Qa [4,5,6,7] [] (pN 3 V (px (Zs (n:=(zD s0+zD a0)) (by unfold H;first|omega|(simp only[zE];omega))) (px (Zs (n:=(zD (s0++a0)+zD (⟨#[10]⟩:W))) (by have hq0:zD (⟨#[10]⟩:W)=1:=rfl;unfold H;first|omega|(simp only[zE];omega))) p0))) ?_
  refine qu Qa [(5,.s ((s0++a0)++(⟨#[10]⟩:W))),(7,.i ((k0+1:K):Y))] [5,7] [] [] (pe 1 (Jl (Qn k0 (by omega))) p0) ?_;exact xw ((s0++a0)++(⟨#[10]⟩:W)) ⟨Qs V (rfl) U.1,(by have hq1:zD (⟨#[10]⟩:W)=1:=rfl;simp only[zE];omega)⟩
 ·have hA0_0:=U.2;exact Qb <| sn Qa [4,5,6,7,24] [] (pl 2 (Xz x) (pe 3 (zC ((k0:Y)<((Xz x).length:Y))) p0)) <| ckF <| Q4 <| xw s0 ⟨Xj O (rfl) U.1,by first|omega|(simp only[yG];omega)⟩
 have hD0_0:=hD0.2;have hk6:=Qfn y0;have hk7:=J4 (n:=Uo y0) (by omega);exact sn Qa [4] [] (pc 2 (AK y0) (pc 3 (Wp (Uo y0) (by omega)) (px (Zs (n:=(zD y0+zD (Qz (Uo y0)))) (by unfold H;first|omega|(simp only[zE];omega))) (px (Zs (n:=(zD (y0++(Qz (Uo y0)))+zD (⟨#[46]⟩:W))) (by have hq0:zD (⟨#[46]⟩:W)=1:=rfl;unfold H;first|omega|(simp only[zE];omega))) p0)))) <| Qd <| ps [] (Qj h2 (Vp hD0.1 (rfl)))
open GoE (enc wide)
def Zg (bf:Z) (bn:N Q2):W×Z×(N Q2):=(bif ((bf.length:Y)==(0:Y)) then (⟨#[]⟩,bf,bn) else ((nth bf 0),zH 1 bf,bn))
theorem Ns (bf:Z) (bn:N Q2):(Zg bf bn).2.1.length<=bf.length/\(Zg bf bn).2.2.length=bn.length/\(1<=bf.length->(Zg bf bn).2.1.length+1=bf.length)/\((Zg bf bn).1.size=0\/1<=bf.length):=by
 unfold Zg;cases h:((bf.length:Y)==(0:Y)) with
 | true=>have:=eq_of_beq h;simp only[I];exact ⟨yI _,trivial,λh1=>by omega,.inl rfl⟩
 | false=>have:=ne_of_beq_false h;simp only[J,yF];exact ⟨by omega,trivial,λ_=>by omega,.inr (by omega)⟩
theorem Qf0 {k:Y} {w:W} {n:K} (h:((Qy k).toList==w.toList)=Q) (hn:w.size=0\/1<=n):1<=n:=by
 have h1:=Dj h;have h2:=Qpb k;rw[h1] at h2;omega
theorem Ro (bf:Z) (bn:N Q2):AGive Tryz.prog 335 [.h bf,.o 41 bn] [] (.s (((Zg bf bn)).1)) [.h (((Zg bf bn)).2.1),.o 41 (((Zg bf bn)).2.2)]:=by
 refine DV (tt:=tt) Qa Tryz.func335 (fn:=Tryz.f335) rfl (by unfold F9;kernel_rfl) (zQ rfl) (zQ rfl) rfl rfl λw0 F0 hG=> ?_
 refine sn Qa [0,2] [60000] p0 <| Qb <| tn Qa [0,2,9] [60000] (pl 4 bf p0) <| ck ((bf.length:Y)==(0:Y)) (λh1=> ?_) (λh1=> ?_)
 ·refine tu Qa [(2,.s ⟨#[]⟩)] [] [] [] p0 <| Qd ?_
  have hE2:Zg bf bn=(⟨#[]⟩,bf,bn):=Q9 h1 (rfl);exact SW [] (F (λz=>(.s z.1:AV)) hE2.symm) (F (λz=>([.h z.2.1,.o 41 z.2.2]:N C)) hE2.symm)
 have h1d:=X0 h1;refine Qf <| wB 60000 0 .sh bf (λhw4 hl5=> ?_)
 have hx3:=ng bf 0;refine tu Qa [(2,.s ⟨#[]⟩),(3,.s (nth bf 0))] [] [] [] (pg 4 0 hx3 p0) <| sn Qa [0,2,3] [60000] (pe 5 (Sy .sh 1 1 1 bf rfl) (px (Gc (lo:=1) (hi:=(((eL bf):N (N PV)).length:Y)) (n:=(zF (eL bf))) (Sz (by omega) (by omega))) p0)) <| tn Qa [0,2] [60000] p0 <| Qd ?_
 have hE6:Zg bf bn=((nth bf 0),zH 1 bf,bn):=Qj h1 (rfl);exact SW [] (F (λz=>(.s z.1:AV)) hE6.symm) (F (λz=>([.h z.2.1,.o 41 z.2.2]:N C)) hE6.symm)
def Nt (x1:W×Z×(N Q2)) (k0:K) (s0:Y):Rd (G×Z×(N Q2)) (Y) (Y):=(bif ((Qy ((k0+1:K):Y)).toList==x1.1.toList) then (.next ((k0+1:K):Y)) else (.next s0))
def Nu (_:K) (s0:Y):Y:=s0
def Xt (n_:K) (bf:Z) (bn:N Q2):G×Z×(N Q2):=match n_ with
 | 0=>default
 | n_+1=>(lt (Zg bf bn) (λx1=>(Out.on (Ks (Nt x1) Nu (((9:Y)+1)-1).toNat 0 0) (λy0=>(lt (α:=G) (bif (y0==(2:Y)) then (y0==(2:Y)) else (bif (y0==(8:Y)) then (y0==(8:Y)) else (y0==(9:Y)))) (λx4=>(bif x4 then (lt (Zg x1.2.1 x1.2.2) (λx8=>((y0 !=(0:Y)),x8.2.1,x8.2.2++ [((y0,0,0,x8.1,(0,0,⟨#[]⟩)):Q2)]))) else (bif (bif (y0==(3:Y)) then (y0==(3:Y)) else (y0==(4:Y))) then (lt (Zg x1.2.1 x1.2.2) (λx14=>(lt (Zg x14.2.1 x14.2.2) (λx15=>(((Qx x15.1)).2,x15.2.1,x15.2.2++ [((y0,0,0,x14.1,(((Qx x15.1)).1)):Q2)]))))) else (bif (y0==(5:Y)) then (lt (Xt n_ x1.2.1 x1.2.2) (λx20=>(x20.1,x20.2.1,x20.2.2++ [((y0,((x20.2.2.length:Y)-1),0,⟨#[]⟩,(0,0,⟨#[]⟩)):Q2)]))) else (lt (α:=G) (bif (y0==(6:Y)) then (y0==(6:Y)) else (y0==(7:Y))) (λx24=>(bif x24 then (lt (Xt n_ x1.2.1 x1.2.2) (λx27=>(bif x27.1 then (lt (Xt n_ x27.2.1 x27.2.2) (λx31=>(x31.1,x31.2.1,x31.2.2++ [((y0,((x27.2.2.length:Y)-1),((x31.2.2.length:Y)-1),⟨#[]⟩,(0,0,⟨#[]⟩)):Q2)]))) else (L,x27.2.1,x27.2.2++ [((y0,((x27.2.2.length:Y)-1),((x27.2.2.length:Y)-1),⟨#[]⟩,(0,0,⟨#[]⟩)):Q2)])))) else ((y0 !=(0:Y)),x1.2.1,x1.2.2++ [((y0,0,0,⟨#[]⟩,(0,0,⟨#[]⟩)):Q2)])))))))))))))
theorem QU:∀(n:K) (bf:Z) (bn:N Q2),(Xt n bf bn).2.1.length<=bf.length/\(Xt n bf bn).2.2.length+2*(Xt n bf bn).2.1.length<=bn.length+2*bf.length+1
 | 0,bf,bn=>⟨zZ _,zZ _⟩
 | n +1,bf,bn=>by
  have h1:=Ns bf bn;have ih:=QU n;unfold Xt lt;generalize Zg bf bn=x1 at h1⊢;dsimp only;rw[P0 (f:=Nt x1) (e:=Nu) (p:=λk=>(Qy ((k+1:K):Y)).toList==x1.1.toList) (λ_ _=>rfl) (λ_ _=>rfl)];simp only[Out.on]
  have hy:Pz (λk=>(Qy ((k+1:K):Y)).toList==x1.1.toList) (((9:Y)+1)-1).toNat 0 0≠0->1<=bf.length:=λh=>by
   have:=Qfz (w:=x1.1) h;omega
  generalize Pz (λk=>(Qy ((k+1:K):Y)).toList==x1.1.toList) (((9:Y)+1)-1).toNat 0 0=y0 at hy⊢;have h2:=Ns x1.2.1 x1.2.2;cases (bif (y0==(2:Y)) then (y0==(2:Y)) else (bif (y0==(8:Y)) then (y0==(8:Y)) else (y0==(9:Y)))) with
  | true=>
   simp only[I];generalize Zg x1.2.1 x1.2.2=x8 at h2⊢;simp only[zJ,zG,zK];omega
  | false=>
  simp only[J];cases (bif (y0==(3:Y)) then (y0==(3:Y)) else (y0==(4:Y))) with
  | true=>
   simp only[I];generalize Zg x1.2.1 x1.2.2=x8 at h2⊢;have h3:=Ns x8.2.1 x8.2.2;generalize Zg x8.2.1 x8.2.2=x9 at h3⊢;simp only[zJ,zG,zK];omega
  | false=>
  simp only[J];have h4:=ih x1.2.1 x1.2.2;cases h5:(y0==(5:Y)) with
  | true=>
   have:=hy (by have:=eq_of_beq h5;omega);simp only[I];generalize Xt n x1.2.1 x1.2.2=x8 at h4⊢;simp only[zJ,zG,zK];omega
  | false=>
  simp only[J];cases h6:(bif (y0==(6:Y)) then (y0==(6:Y)) else (y0==(7:Y))) with
  | true=>
   have:=hy (by intro e;rw[e] at h6;revert h6;decide);simp only[I];generalize Xt n x1.2.1 x1.2.2=x8 at h4⊢;cases x8.1 with
   | true=>
    have h7:=ih x8.2.1 x8.2.2;simp only[I];generalize Xt n x8.2.1 x8.2.2=x9 at h7⊢;simp only[zJ,zG,zK];omega
   | false=>
    simp only[J,zJ,zG,zK];omega
  | false=>
   simp only[J,zJ,zG,zK];omega
theorem ZF:∀(n_:K) (bf:Z) (bn:N Q2) (hf:zF bf<n_) (hz:zF bf<=24) (hb:zF bn+2*zF bf<=100),AGive Tryz.prog 298 [.h bf,.o 41 bn] [] (.b (((Xt n_ bf bn)).1)) [.h (((Xt n_ bf bn)).2.1),.o 41 (((Xt n_ bf bn)).2.2)]:=by
 intro n_
 induction n_ with
 | zero=>intro bf bn hf hz hb;exact (by omega:False).elim
 | succ n_ ih=>
  intro bf bn hf hz hb;refine DV (tt:=tt) Qa Tryz.func298 (fn:=Tryz.f298) rfl (by unfold F9;kernel_rfl) (zQ rfl) (zQ rfl) rfl rfl λw0 F0 hG=> ?_
  refine sn Qa [0,2] [60000] p0 ?_;obtain ⟨x1,hx1⟩:=nm (Zg bf bn);have hnx1:=Ns bf bn;rw[hx1] at hnx1;refine tn Qa [0,2,3] [60000] (po 1 (.give uF (.s x1.1) [.h x1.2.1,.o 41 x1.2.2]) (px (Iu (hx1▸Ro bf bn)) p0)) <| tu Qa [(2,.b L),(3,.s x1.1),(4,.p 4 0)] [] [(4, [.i 0,.i 0,.i 0,.s ⟨#[]⟩,.i 0,.i 0,.s ⟨#[]⟩]),(60000, [.h x1.2.1,.o 553 x1.2.2])] [60000] p0 <| Qb <| su Qa [(5,.i 1)] [] [] [] p0 <| Qma (Nt x1) Nu (((9:Y)+1)-1).toNat 0 (λk0 _=> [(5,.i ((k0+1:K):Y))]) [5] (λ_ s0=> [(4, [.i s0,.i 0,.i 0,.s ⟨#[]⟩,.i 0,.i 0,.s ⟨#[]⟩])]) [4] (λ_=> []) [3,5] (λy0=> [(4, [.i y0,.i 0,.i 0,.s ⟨#[]⟩,.i 0,.i 0,.s ⟨#[]⟩])]) [4] (λ_ s0=>(s0=0\/1<=zF bf)) (λy0=>(y0=0\/1<=zF bf)) wf0 (by exact .inl rfl) (λk0 s0 O U=> ?_) (λk0 s0 O U=> ?_) (λy0 hD0=> ?_)
  ·have hA0_0:=U.2;refine Qb <| su Qa [(11,.b Q)] [] [] [] (pe 1 (zB (((k0+1:K):Y)<=(9:Y))) p0) <| ckT <| Qf <| Qb <| Qo ?_
   have hk2:=Qfq ((k0+1:K):Y);refine sn Qa [0,2,3,4,5,17] [4,60000] (pc 1 (Pw ((k0+1:K):Y)) p0) <| ck ((Qy ((k0+1:K):Y)).toList==x1.1.toList) (λh3=> ?_) (λh3=> ?_)
   ·refine qn Qa [0,2,3,4,5] [4,60000] p0 ?_;refine qu Qa [(5,.i ((k0+2:K):Y))] [5,11] [(4, [.i ((k0+1:K):Y),.i 0,.i 0,.s ⟨#[]⟩,.i 0,.i 0,.s ⟨#[]⟩])] [4] (pe 1 (show .i (IntKind.i64.wrap (((k0+1:K):Y)+1))= .i ((k0+2:K):Y) from Jl ((IntWalk.i64_in _ (by omega)).trans (by omega))) p0) ?_;exact xw ((k0+1:K):Y) ⟨Z6 O (Q9 h3 (rfl)) U.1,(by first | exact hA0_0 | exact .inr (Qf0 (by assumption) hnx1.2.2.2))⟩
   refine Qf <| qn Qa [0,2,3,4,5] [4,60000] (pe 1 (show .i (IntKind.i64.wrap (((k0+1:K):Y)+1))= .i ((k0+2:K):Y) from Jl ((IntWalk.i64_in _ (by omega)).trans (by omega))) p0) ?_
   exact xw s0 ⟨Z6 O (Qj h3 (rfl)) U.1,(by first | exact hA0_0 | exact .inr (Qf0 (by assumption) hnx1.2.2.2))⟩
  ·have hA0_0:=U.2;exact Qb <| su Qa [(11,.b L)] [] [] [] (pe 1 (zC (((k0+1:K):Y)<=(9:Y))) p0) <| ckF <| Q4 <| xw s0 ⟨U6 O (rfl) U.1,by exact hA0_0⟩
  have hD0_0:=hD0.2;refine sn Qa [0,2,4,6] [4,60000] p0 <| Qb <| tn Qa [0,2,4,6,24] [4,60000] p0 <| Qo <| Qb <| tu Qa [(6,.b (y0 !=(0:Y))),(24,.i y0),(25,.b (y0==(2:Y)))] [] [] [] p0 ?_
  obtain ⟨x4,hx4⟩:=nm ((bif (y0==(2:Y)) then (y0==(2:Y)) else (bif (y0==(8:Y)) then (y0==(8:Y)) else (y0==(9:Y)))));refine jn [(25,.b x4)] [25] [] [] (y0==(2:Y)) (λh5=> ?_) (λh5=> ?_) ?_
  ·have h5d:=eq_of_beq h5;refine ckt h5 ?_;refine Qf ?_;obtain rfl:x4=(y0==(2:Y)):=hx4.symm.trans (show (bif (y0==(2:Y)) then (y0==(2:Y)) else (bif (y0==(8:Y)) then (y0==(8:Y)) else (y0==(9:Y))))=(y0==(2:Y)) from Q9 h5 (rfl));exact zA (by kernel_rfl)
  ·have h5d:=X0 h5;refine ckf h5 ?_;refine sn Qa [0,2,4,6,24,25] [4,60000] p0 <| ck (y0==(8:Y)) (λh6=> ?_) (λh6=> ?_)
   ·have h6d:=eq_of_beq h6;refine Qf ?_;obtain rfl:x4=(y0==(8:Y)):=hx4.symm.trans (show (bif (y0==(2:Y)) then (y0==(2:Y)) else (bif (y0==(8:Y)) then (y0==(8:Y)) else (y0==(9:Y))))=(y0==(8:Y)) from Qj h5 (Q9 h6 (rfl)));exact zA (by kernel_rfl)
   have h6d:=X0 h6;refine qn Qa [0,2,4,6,24,25] [4,60000] p0 ?_;obtain rfl:x4=(y0==(9:Y)):=hx4.symm.trans (show (bif (y0==(2:Y)) then (y0==(2:Y)) else (bif (y0==(8:Y)) then (y0==(8:Y)) else (y0==(9:Y))))=(y0==(9:Y)) from Qj h5 (Qj h6 (rfl)));exact zA (by kernel_rfl)
  refine ck x4 (λh7=> ?_) (λh7=> ?_)
  ·obtain ⟨x8,hx8⟩:=nm (Zg x1.2.1 x1.2.2);have hnx8:=Ns x1.2.1 x1.2.2;rw[hx8] at hnx8;refine rn Qa [0,2,4,6] [4,60000] (po 1 (.give uF (.s x8.1) [.h x8.2.1,.o 41 x8.2.2]) (px (Iu (hx8▸Ro x1.2.1 x1.2.2)) p0)) ?_;refine wB 60000 1 (.own Q 1961) x8.2.2 (λhw9 hl10=> ?_);refine tU Qa Yo [] [4,24,25] [(60000, [.h x8.2.1,.slc (.own Q 5568) 7 ((eL x8.2.2)++ [[.i y0,.i 0,.i 0,.s x8.1,.i 0,.i 0,.s ⟨#[]⟩]])])] [4,60000] (pa x8.2.2 [((y0,0,0,x8.1,(0,0,⟨#[]⟩)):Q2)] p0) <| eqn [] [] [(60000, [.h x8.2.1,.o 5568 (x8.2.2++ [((y0,0,0,x8.1,(0,0,⟨#[]⟩)):Q2)])])] [60000] (by rw[show ((eL x8.2.2)++ [[.i y0,.i 0,.i 0,.s x8.1,.i 0,.i 0,.s ⟨#[]⟩]])=(eL (x8.2.2++ [((y0,0,0,x8.1,(0,0,⟨#[]⟩)):Q2)])) from Jc (rfl) (rfl)];first | done | kernel_rfl) ?_
   refine sn Qa [0,2] [60000] p0 <| Qd ?_
   have hE11:Xt (n_+1) bf bn=((y0 !=(0:Y)),x8.2.1,x8.2.2++ [((y0,0,0,x8.1,(0,0,⟨#[]⟩)):Q2)]):=L4 hx1 (Vp hD0.1 (L4 hx4 (Q9 h7 (L4 hx8 (rfl)))));exact SW [] (F (λz=>(.b z.1:AV)) hE11.symm) (F (λz=>([.h z.2.1,.o 41 z.2.2]:N C)) hE11.symm)
  refine Qb <| sn Qa [0,2,4,6,24,32] [4,60000] p0 <| mz [(32,.b (y0==(3:Y)))] [25] [] [] <| jn [(32,.b (bif (y0==(3:Y)) then (y0==(3:Y)) else (y0==(4:Y))))] [32] [] [] (y0==(3:Y)) (λh12=> ?_) (λh12=> ?_) ?_
  ·have h12d:=eq_of_beq h12;refine ckt h12 ?_;exact Qf <| ⟨rfl,Qe (by rw[h12]<;>kernel_rfl)⟩
  ·have h12d:=X0 h12;refine ckf h12 ?_;refine rn Qa [0,2,4,6,24,32] [4,60000] p0 ?_;exact zA (by rw[h12]<;>kernel_rfl)
  refine ck (bif (y0==(3:Y)) then (y0==(3:Y)) else (y0==(4:Y))) (λh13=> ?_) (λh13=> ?_)
  ·obtain ⟨x14,hx14⟩:=nm (Zg x1.2.1 x1.2.2);have hnx14:=Ns x1.2.1 x1.2.2;rw[hx14] at hnx14;refine sn Qa [0,2,4,6] [4,60000] (po 1 (.give uF (.s x14.1) [.h x14.2.1,.o 41 x14.2.2]) (px (Iu (hx14▸Ro x1.2.1 x1.2.2)) p0)) ?_;obtain ⟨x15,hx15⟩:=nm (Zg x14.2.1 x14.2.2);have hnx15:=Ns x14.2.1 x14.2.2;rw[hx15] at hnx15;refine qn Qa [0,2,4,6] [4,60000] (po 1 (.give uF (.s x15.1) [.h x15.2.1,.o 41 x15.2.2]) (px (Iu (hx15▸Ro x14.2.1 x14.2.2)) (pc 2 (Od x15.1) p0))) ?_;refine wB 60000 1 (.own Q 2601) x15.2.2 (λhw16 hl17=> ?_);refine tU Qa Yo [(6,.b (((Qx x15.1)).2))] [4,6,24,32] [(60000, [.h x15.2.1,.slc (.own Q 5568) 7 ((eL x15.2.2)++ [[.i y0,.i 0,.i 0,.s x14.1,.i ((((Qx x15.1)).1).1),.i ((((Qx x15.1)).1).2.1),.s ((((Qx x15.1)).1).2.2)]])])] [4,60000] (pa x15.2.2 [((y0,0,0,x14.1,(((Qx x15.1)).1)):Q2)] p0) <| eqn [] [] [(60000, [.h x15.2.1,.o 5568 (x15.2.2++ [((y0,0,0,x14.1,(((Qx x15.1)).1)):Q2)])])] [60000] (by rw[show ((eL x15.2.2)++ [[.i y0,.i 0,.i 0,.s x14.1,.i ((((Qx x15.1)).1).1),.i ((((Qx x15.1)).1).2.1),.s ((((Qx x15.1)).1).2.2)]])=(eL (x15.2.2++ [((y0,0,0,x14.1,(((Qx x15.1)).1)):Q2)])) from Jc (rfl) (rfl)];first | done | kernel_rfl) ?_
   refine sn Qa [0,2] [60000] p0 <| Qd ?_
   have hE18:Xt (n_+1) bf bn=(((Qx x15.1)).2,x15.2.1,x15.2.2++ [((y0,0,0,x14.1,(((Qx x15.1)).1)):Q2)]):=L4 hx1 (Vp hD0.1 (L4 hx4 (Qj h7 (Q9 h13 (L4 hx14 (L4 hx15 (rfl)))))));exact SW [] (F (λz=>(.b z.1:AV)) hE18.symm) (F (λz=>([.h z.2.1,.o 41 z.2.2]:N C)) hE18.symm)
  refine sn Qa [0,2,4,6,24,45] [4,60000] p0 <| ck (y0==(5:Y)) (λh19=> ?_) (λh19=> ?_)
  ·have h19d:=eq_of_beq h19;obtain ⟨x20,hx20⟩:=nm (Xt n_ x1.2.1 x1.2.2);have hqx20:=QU n_ x1.2.1 x1.2.2;rw[hx20] at hqx20;refine tn Qa [0,2,4,6] [4,60000] (po 1 (.give uF (.b x20.1) [.h x20.2.1,.o 41 x20.2.2]) (px (Iu (hx20▸ih x1.2.1 x1.2.2 (by first|omega|(have hy0:y0=6\/y0=7:=(by simp_all);omega)) (by first|omega|(have hy0:y0=6\/y0=7:=(by simp_all);omega)) (by first|omega|(have hy0:y0=6\/y0=7:=(by simp_all);omega)))) p0)) <| wB 60000 1 (.own Q 3113) x20.2.2 (λhw21 hl22=> ?_)
   refine qu Qa [(6,.b x20.1)] [6,24,32] [(4, [.i y0,.i ((x20.2.2.length:Y)-1),.i 0,.s ⟨#[]⟩,.i 0,.i 0,.s ⟨#[]⟩]),(60000, [.h x20.2.1,.o 3113 x20.2.2])] [4,60000] (pl 4 x20.2.2 (pe 5 (Jl (IntWalk.i64_in ((x20.2.2.length:Y)-1) (by omega))) p0)) ?_;refine sU Qa Yo [] [4] [(60000, [.h x20.2.1,.slc (.own Q 5568) 7 ((eL x20.2.2)++ [[.i y0,.i ((x20.2.2.length:Y)-1),.i 0,.s ⟨#[]⟩,.i 0,.i 0,.s ⟨#[]⟩]])])] [4,60000] (pa x20.2.2 [((y0,((x20.2.2.length:Y)-1),0,⟨#[]⟩,(0,0,⟨#[]⟩)):Q2)] p0) <| eqn [] [] [(60000, [.h x20.2.1,.o 5568 (x20.2.2++ [((y0,((x20.2.2.length:Y)-1),0,⟨#[]⟩,(0,0,⟨#[]⟩)):Q2)])])] [60000] (by rw[show ((eL x20.2.2)++ [[.i y0,.i ((x20.2.2.length:Y)-1),.i 0,.s ⟨#[]⟩,.i 0,.i 0,.s ⟨#[]⟩]])=(eL (x20.2.2++ [((y0,((x20.2.2.length:Y)-1),0,⟨#[]⟩,(0,0,⟨#[]⟩)):Q2)])) from Jc (rfl) (rfl)];first | done | kernel_rfl) ?_
   refine sn Qa [0,2] [60000] p0 <| Qd ?_
   have hE23:Xt (n_+1) bf bn=(x20.1,x20.2.1,x20.2.2++ [((y0,((x20.2.2.length:Y)-1),0,⟨#[]⟩,(0,0,⟨#[]⟩)):Q2)]):=L4 hx1 (Vp hD0.1 (L4 hx4 (Qj h7 (Qj h13 (Q9 h19 (L4 hx20 (rfl)))))));exact SW [] (F (λz=>(.b z.1:AV)) hE23.symm) (F (λz=>([.h z.2.1,.o 41 z.2.2]:N C)) hE23.symm)
  have h19d:=X0 h19;refine Qb <| tn Qa [0,2,4,6,24,56] [4,60000] p0 <| mz [(56,.b (y0==(6:Y)))] [32] [] [] ?_
  obtain ⟨x24,hx24⟩:=nm ((bif (y0==(6:Y)) then (y0==(6:Y)) else (y0==(7:Y))));refine jn [(56,.b x24)] [24,56] [] [] (y0==(6:Y)) (λh25=> ?_) (λh25=> ?_) ?_
  ·have h25d:=eq_of_beq h25;refine ckt h25 ?_;refine Qf ?_;obtain rfl:x24=(y0==(6:Y)):=hx24.symm.trans (show (bif (y0==(6:Y)) then (y0==(6:Y)) else (y0==(7:Y)))=(y0==(6:Y)) from Q9 h25 (rfl));exact zA (by kernel_rfl)
  ·have h25d:=X0 h25;refine ckf h25 ?_;refine rn Qa [0,2,4,6,56] [4,60000] p0 ?_;obtain rfl:x24=(y0==(7:Y)):=hx24.symm.trans (show (bif (y0==(6:Y)) then (y0==(6:Y)) else (y0==(7:Y)))=(y0==(7:Y)) from Qj h25 (rfl));exact zA (by kernel_rfl)
  refine ck x24 (λh26=> ?_) (λh26=> ?_)
  ·obtain ⟨x27,hx27⟩:=nm (Xt n_ x1.2.1 x1.2.2);have hqx27:=QU n_ x1.2.1 x1.2.2;rw[hx27] at hqx27;refine sn Qa [0,2,4,6] [4,60000] (po 1 (.give uF (.b x27.1) [.h x27.2.1,.o 41 x27.2.2]) (px (Iu (hx27▸ih x1.2.1 x1.2.2 (by first|omega|(have hy0:y0=6\/y0=7:=(by simp_all);omega)) (by first|omega|(have hy0:y0=6\/y0=7:=(by simp_all);omega)) (by first|omega|(have hy0:y0=6\/y0=7:=(by simp_all);omega)))) p0)) <| wB 60000 1 (.own Q 3881) x27.2.2 (λhw28 hl29=> ?_)
   refine tn Qa [0,2,4,6] [4,60000] (pl 4 x27.2.2 (pe 5 (Jl (IntWalk.i64_in ((x27.2.2.length:Y)-1) (by omega))) p0)) <| Qb <| Xx x27.1 (λh30=> ?_) (λh30=> ?_)
   ·obtain ⟨x31,hx31⟩:=nm (Xt n_ x27.2.1 x27.2.2);have hqx31:=QU n_ x27.2.1 x27.2.2;rw[hx31] at hqx31;refine qu Qa [(6,.b x31.1)] [6,56] [(4, [.i y0,.i ((x27.2.2.length:Y)-1),.i 0,.s ⟨#[]⟩,.i 0,.i 0,.s ⟨#[]⟩]),(60000, [.h x31.2.1,.o 4585 x31.2.2])] [4,60000] (pt 0 h30 (po 3 (.give uF (.b x31.1) [.h x31.2.1,.o 41 x31.2.2]) (px (Iu (hx31▸ih x27.2.1 x27.2.2 (by first|omega|(have hy0:y0=6\/y0=7:=(by simp_all);omega)) (by first|omega|(have hy0:y0=6\/y0=7:=(by simp_all);omega)) (by first|omega|(have hy0:y0=6\/y0=7:=(by simp_all);omega)))) p0))) ?_;refine wB 60000 1 (.own Q 4585) x31.2.2 (λhw32 hl33=> ?_);refine rn Qa [0,2,4,6] [4,60000] (pl 4 x31.2.2 (pe 5 (Jl (IntWalk.i64_in ((x31.2.2.length:Y)-1) (by omega))) p0)) ?_;refine tU Qa Yo [] [4] [(60000, [.h x31.2.1,.slc (.own Q 5568) 7 ((eL x31.2.2)++ [[.i y0,.i ((x27.2.2.length:Y)-1),.i ((x31.2.2.length:Y)-1),.s ⟨#[]⟩,.i 0,.i 0,.s ⟨#[]⟩]])])] [4,60000] (pa x31.2.2 [((y0,((x27.2.2.length:Y)-1),((x31.2.2.length:Y)-1),⟨#[]⟩,(0,0,⟨#[]⟩)):Q2)] p0) <| eqn [] [] [(60000, [.h x31.2.1,.o 5568 (x31.2.2++ [((y0,((x27.2.2.length:Y)-1),((x31.2.2.length:Y)-1),⟨#[]⟩,(0,0,⟨#[]⟩)):Q2)])])] [60000] (by rw[show ((eL x31.2.2)++ [[.i y0,.i ((x27.2.2.length:Y)-1),.i ((x31.2.2.length:Y)-1),.s ⟨#[]⟩,.i 0,.i 0,.s ⟨#[]⟩]])=(eL (x31.2.2++ [((y0,((x27.2.2.length:Y)-1),((x31.2.2.length:Y)-1),⟨#[]⟩,(0,0,⟨#[]⟩)):Q2)])) from Jc (rfl) (rfl)];first | done | kernel_rfl) ?_
    refine sn Qa [0,2] [60000] p0 <| Qd ?_
    have hE34:Xt (n_+1) bf bn=(x31.1,x31.2.1,x31.2.2++ [((y0,((x27.2.2.length:Y)-1),((x31.2.2.length:Y)-1),⟨#[]⟩,(0,0,⟨#[]⟩)):Q2)]):=L4 hx1 (Vp hD0.1 (L4 hx4 (Qj h7 (Qj h13 (Qj h19 (L4 hx24 (Q9 h26 (L4 hx27 (Q9 h30 (L4 hx31 (rfl)))))))))));exact SW [] (F (λz=>(.b z.1:AV)) hE34.symm) (F (λz=>([.h z.2.1,.o 41 z.2.2]:N C)) hE34.symm)
   refine qu Qa [(6,.b L)] [6,56] [(4, [.i y0,.i ((x27.2.2.length:Y)-1),.i 0,.s ⟨#[]⟩,.i 0,.i 0,.s ⟨#[]⟩]),(60000, [.h x27.2.1,.o 3881 x27.2.2])] [4,60000] (pf 0 h30 p0) ?_;refine rn Qa [0,2,4,6] [4,60000] (pl 4 x27.2.2 (pe 5 (Jl (IntWalk.i64_in ((x27.2.2.length:Y)-1) (by omega))) p0)) ?_;refine tU Qa Yo [] [4] [(60000, [.h x27.2.1,.slc (.own Q 5568) 7 ((eL x27.2.2)++ [[.i y0,.i ((x27.2.2.length:Y)-1),.i ((x27.2.2.length:Y)-1),.s ⟨#[]⟩,.i 0,.i 0,.s ⟨#[]⟩]])])] [4,60000] (pa x27.2.2 [((y0,((x27.2.2.length:Y)-1),((x27.2.2.length:Y)-1),⟨#[]⟩,(0,0,⟨#[]⟩)):Q2)] p0) <| eqn [] [] [(60000, [.h x27.2.1,.o 5568 (x27.2.2++ [((y0,((x27.2.2.length:Y)-1),((x27.2.2.length:Y)-1),⟨#[]⟩,(0,0,⟨#[]⟩)):Q2)])])] [60000] (by rw[show ((eL x27.2.2)++ [[.i y0,.i ((x27.2.2.length:Y)-1),.i ((x27.2.2.length:Y)-1),.s ⟨#[]⟩,.i 0,.i 0,.s ⟨#[]⟩]])=(eL (x27.2.2++ [((y0,((x27.2.2.length:Y)-1),((x27.2.2.length:Y)-1),⟨#[]⟩,(0,0,⟨#[]⟩)):Q2)])) from Jc (rfl) (rfl)];first | done | kernel_rfl) ?_
   refine su Qa [] [6] [] [] p0 <| Qd ?_
   have hE35:Xt (n_+1) bf bn=(L,x27.2.1,x27.2.2++ [((y0,((x27.2.2.length:Y)-1),((x27.2.2.length:Y)-1),⟨#[]⟩,(0,0,⟨#[]⟩)):Q2)]):=L4 hx1 (Vp hD0.1 (L4 hx4 (Qj h7 (Qj h13 (Qj h19 (L4 hx24 (Q9 h26 (L4 hx27 (Qj h30 (rfl))))))))));exact SW [] (F (λz=>(.b z.1:AV)) hE35.symm) (F (λz=>([.h z.2.1,.o 41 z.2.2]:N C)) hE35.symm)
  refine Qf <| wB 60000 1 (.own Q 553) x1.2.2 (λhw36 hl37=> ?_)
  refine sU Qa Yo [] [4,56] [(60000, [.h x1.2.1,.slc (.own Q 5568) 7 ((eL x1.2.2)++ [[.i y0,.i 0,.i 0,.s ⟨#[]⟩,.i 0,.i 0,.s ⟨#[]⟩]])])] [4,60000] (pa x1.2.2 [((y0,0,0,⟨#[]⟩,(0,0,⟨#[]⟩)):Q2)] p0) <| eqn [] [] [(60000, [.h x1.2.1,.o 5568 (x1.2.2++ [((y0,0,0,⟨#[]⟩,(0,0,⟨#[]⟩)):Q2)])])] [60000] (by rw[show ((eL x1.2.2)++ [[.i y0,.i 0,.i 0,.s ⟨#[]⟩,.i 0,.i 0,.s ⟨#[]⟩]])=(eL (x1.2.2++ [((y0,0,0,⟨#[]⟩,(0,0,⟨#[]⟩)):Q2)])) from Jc (rfl) (rfl)];first | done | kernel_rfl) ?_
  refine sn Qa [0,2] [60000] p0 <| Qd ?_
  have hE38:Xt (n_+1) bf bn=((y0 !=(0:Y)),x1.2.1,x1.2.2++ [((y0,0,0,⟨#[]⟩,(0,0,⟨#[]⟩)):Q2)]):=L4 hx1 (Vp hD0.1 (L4 hx4 (Qj h7 (Qj h13 (Qj h19 (L4 hx24 (Qj h26 (rfl))))))));exact SW [] (F (λz=>(.b z.1:AV)) hE38.symm) (F (λz=>([.h z.2.1,.o 41 z.2.2]:N C)) hE38.symm)
open GoE (enc wide)
def C1 (p:Z) (at_:Y) (k0:K) (s0:Y):Rd ((N Q2)×Y) (Y) (Y):=(bif ((Qh p at_).toList==(X2 ((k0+1:K):Y)).toList) then (.next ((k0+1:K):Y)) else (.next s0))
def F1 (_:K) (s0:Y):Y:=s0
def Yl (n_:K) (p:Z) (at_:Y) (q:N Q2) (deep:Y):(N Q2)×Y:=match n_ with
 | 0=>default
 | n_+1=>(Out.on (Ks (C1 p at_) F1 (((9:Y)+1)-1).toNat 0 0) (λy0=>(bif ((y0==(0:Y))|| (decide (deep>(9:Y))|| decide ((q.length:Y)>(9:Y)))) then (q,0) else (bif ((y0==(2:Y))|| ((y0==(8:Y))|| (y0==(9:Y)))) then (q++ [((y0,0,0,(Qh p (IntKind.i64.wrap (at_+1))),(0,0,⟨#[]⟩)):Q2)],2) else (bif ((y0==(3:Y))|| (y0==(4:Y))) then (q++ [((y0,0,0,(Qh p (IntKind.i64.wrap (at_+1))),(((Xp (Qh p (IntKind.i64.wrap (at_+2))))).1)):Q2)],3) else (bif (Q0 y0 5 7) then (lt (Yl n_ p (IntKind.i64.wrap (at_+1)) q (IntKind.i64.wrap (deep+1))) (λx16=>(bif (x16.2==(0:Y)) then (x16.1,0) else (bif (y0 !=(5:Y)) then (lt (Yl n_ p (IntKind.i64.wrap (at_+IntKind.i64.wrap (1+x16.2))) x16.1 (IntKind.i64.wrap (deep+1))) (λx21=>(bif (x21.2==(0:Y)) then (x21.1,0) else (x21.1++ [((y0,((x16.1.length:Y)-1),((x21.1.length:Y)-1),⟨#[]⟩,(0,0,⟨#[]⟩)):Q2)],IntKind.i64.wrap (IntKind.i64.wrap (1+x16.2)+x21.2))))) else (x16.1++ [((y0,((x16.1.length:Y)-1),0,⟨#[]⟩,(0,0,⟨#[]⟩)):Q2)],IntKind.i64.wrap (1+x16.2)))))) else (q++ [((y0,0,0,⟨#[]⟩,(0,0,⟨#[]⟩)):Q2)],1)))))))
theorem Qf1 {p:Z} {at_:Y} {k:Y} (h:((Qh p at_).toList==(X2 k).toList)=Q):at_<(p.length:Y):=by
 have h1:=Dj h;have h2:=Qpb k;rw[←Qad,←h1] at h2;unfold Qh at h2;by_cases hc:at_>=(p.length:Y)
 . rw[uE hc,I] at h2;exact absurd h2 (by decide)
 omega
theorem Qf2 {p:Z} {at_:Y} (h:Sg (Qh p at_)≠0):at_<(p.length:Y):=by
 have h2:=Qfz h;unfold Qh at h2;by_cases hc:at_>=(p.length:Y)
 . rw[uE hc,I] at h2;exact absurd h2 (by decide)
 omega
theorem Qkz (p:Z) (at_:Y):Ks (C1 p at_) F1 (((9:Y)+1)-1).toNat 0 0= .brk (Sg (Qh p at_)):=by
 rw[P0 (f:=C1 p at_) (e:=F1) (p:=λk=>(Qy ((k+1:K):Y)).toList==(Qh p at_).toList) (λk s=>by
  unfold C1;rw[Qad,show ((Qh p at_).toList==(Qy ((k+1:K):Y)).toList)=((Qy ((k+1:K):Y)).toList==(Qh p at_).toList) from Bool.eq_iff_iff.2 (by simp only[beq_iff_eq];exact eq_comm)]) (λ_ _=>rfl)]
 rfl
theorem Lr:∀(n:K) (p:Z) (at_:Y) (q:N Q2) (deep:Y),0<=at_->at_<=30->p.length<=24->0<=deep->deep<=10->
 ((Yl n p at_ q deep).1.length<=q.length\/(Yl n p at_ q deep).1.length<=9+n)/\0<=(Yl n p at_ q deep).2/\((Yl n p at_ q deep).2=0\/at_+(Yl n p at_ q deep).2<=(p.length:Y)+2)
 | 0,p,at_,q,deep,_,_,_,_,_=>⟨.inl (zZ _),Int.le_refl _,.inl rfl⟩
 | n + 1,p,at_,q,deep,h0,h1,hp,hd,hx=>by
  unfold Yl lt;rw[Qkz];simp only[Out.on];have hy:=Qf2 (p:=p) (at_:=at_);generalize Sg (Qh p at_)=y0 at hy⊢;rw[IntWalk.i64_in (at_+1) (by omega),IntWalk.i64_in (deep+1) (by omega)];cases c0:((y0==(0:Y))|| (decide (deep>(9:Y))|| decide ((q.length:Y)>(9:Y)))) with
  | true=>exact ⟨.inl (yI _),Int.le_refl _,.inl rfl⟩
  | false=>
   obtain ⟨c1,c2⟩:=bo c0;obtain ⟨c3,c4⟩:=bo c2;have c1:=ne_of_beq_false c1;have c3:=uC c3;have c4:=uC c4;have hlt:=hy c1;simp only[J];cases ((y0==(2:Y))|| ((y0==(8:Y))|| (y0==(9:Y)))) with
   | true=>simp only[I,zJ,zG,zK];omega
   | false=>
   cases ((y0==(3:Y))|| (y0==(4:Y))) with
   | true=>simp only[I,J,zJ,zG,zK];omega
   | false=>
   cases Q0 y0 5 7 with
   | false=>simp only[J,zJ,zG,zK];omega
   | true=>
    have ih:=Lr n p (at_+1) q (deep+1) (by omega) (by omega) hp (by omega) (by omega);simp only[I,J];generalize Yl n p (at_+1) q (deep+1)=x16 at ih⊢;cases c5:(x16.2==(0:Y)) with
    | true=>simp only[I];omega
    | false=>
     have c5:=ne_of_beq_false c5;rw[IntWalk.i64_in (1+x16.2) (by omega),IntWalk.i64_in (at_+(1+x16.2)) (by omega)];simp only[J];cases (y0 !=(5:Y)) with
     | false=>simp only[J,zJ,zG,zK];omega
     | true=>
      have ih2:=Lr n p (at_+(1+x16.2)) x16.1 (deep+1) (by omega) (by omega) hp (by omega) (by omega);simp only[I];generalize Yl n p (at_+(1+x16.2)) x16.1 (deep+1)=x21 at ih2⊢;cases c6:(x21.2==(0:Y)) with
      | true=>simp only[I];omega
      | false=>
       have c6:=ne_of_beq_false c6;rw[IntWalk.i64_in (1+x16.2+x21.2) (by omega)];simp only[J,zJ,zG,zK];omega
theorem FD:∀(n_:K) (p:Z) (at_:Y) (q:N Q2) (deep:Y) (ha:0<=at_) (hz:zF p<=24) (ht:at_<=30) (hd:0<=deep) (hx:deep<=10) (hn:11<=deep+((n_:K):Y)) (hm:n_<=12),AVal Tryz.prog 284 [.h p,.i at_,.o 40 q,.i deep] (.tup [(L, [.o 0 (((Yl n_ p at_ q deep)).1)]),(L, [.i (((Yl n_ p at_ q deep)).2)])]):=by
 intro n_
 induction n_ with
 | zero=>intro p at_ q deep ha hz ht hd hx hn hm;exact (by omega:False).elim
 | succ n_ ih=>
  intro p at_ q deep ha hz ht hd hx hn hm
  refine Qei (tt:=tt) Qa Tryz.func284 (fn:=Tryz.f284) rfl (by unfold F9;kernel_rfl) (zQ rfl) rfl λw0 F0 hG=> ?_
  have hw1:IntKind.i64.wrap (at_+1)=at_+1:=IntWalk.i64_in _ (by omega)
  have hw2:IntKind.i64.wrap (deep+1)=deep+1:=IntWalk.i64_in _ (by omega);have hw3:IntKind.i64.wrap (at_+2)=at_+2:=IntWalk.i64_in _ (by omega)
  refine sn Qa [0,1,2,3,8,9] [] p0 <| tn Qa [0,1,2,3,8,9,10] [] p0 <| Qb <| tu Qa [(8,.e 0),(9,.i 0),(10,.i 0),(11,.i 1)] [] [] [] p0 <| Ql9 (C1 p at_) F1 (((9:Y)+1)-1).toNat 0 (λk0 s0=> [(10,.i s0),(11,.i ((k0+1:K):Y))]) [10,11] (λy0=> [(10,.i y0)]) [10,11] (λ_ s0=>(s0=0\/at_<(zF p:Y))) (λy0=>(y0=0\/at_<(zF p:Y))) wf0 (by exact .inl rfl) (λk0 s0 O U=> ?_) (λk0 s0 O U=> ?_) (λy0 hD0=> ?_)
  ·have hA0_0:=U.2;refine Qb <| su Qa [(16,.b Q)] [] [] [] (pe 1 (zB (((k0+1:K):Y)<=(9:Y))) p0) <| ckT <| Qf <| Qb <| Qo ?_
   have hk1:=Qkx ((k0+1:K):Y);refine sn Qa [0,1,2,3,8,9,10,11,24] [] (pc 2 (V2 p at_ (by omega)) (pc 4 (Px ((k0+1:K):Y)) p0)) <| ck ((Qh p at_).toList==(X2 ((k0+1:K):Y)).toList) (λh2=> ?_) (λh2=> ?_)
   ·refine qn Qa [0,1,2,3,8,9,10,11] [] p0 ?_;refine qu Qa [(10,.i ((k0+1:K):Y)),(11,.i ((k0+2:K):Y))] [10,11,16] [] [] (pe 1 (show .i (IntKind.i64.wrap (((k0+1:K):Y)+1))= .i ((k0+2:K):Y) from Jl ((IntWalk.i64_in _ (by omega)).trans (by omega))) p0) ?_;exact xw ((k0+1:K):Y) ⟨Z6 O (Q9 h2 (rfl)) U.1,(by first | exact hA0_0 | exact .inr (Qf1 (by assumption)))⟩
   refine Qf <| qn Qa [0,1,2,3,8,9,10,11] [] (pe 1 (show .i (IntKind.i64.wrap (((k0+1:K):Y)+1))= .i ((k0+2:K):Y) from Jl ((IntWalk.i64_in _ (by omega)).trans (by omega))) p0) ?_
   exact xw s0 ⟨Z6 O (Qj h2 (rfl)) U.1,(by first | exact hA0_0 | exact .inr (Qf1 (by assumption)))⟩
  ·have hA0_0:=U.2;exact Qb <| su Qa [(16,.b L)] [] [] [] (pe 1 (zC (((k0+1:K):Y)<=(9:Y))) p0) <| ckF <| Q4 <| xw s0 ⟨U6 O (rfl) U.1,by exact hA0_0⟩
  have hD0_0:=hD0.2;refine sn Qa [0,1,2,3,8,9,10,12] [12] p0 <| tn Qa [0,1,2,3,8,9,10,12,13] [12] p0 <| Qb <| Qo <| Qb <| mz [(12,.p 12 0),(13,.i 1)] [] [(12, [.i y0,.i 0,.i 0,.s ⟨#[]⟩,.i 0,.i 0,.s ⟨#[]⟩])] [] <| jn [(28,.b ((y0==(0:Y))|| (decide (deep>(9:Y))|| decide ((q.length:Y)>(9:Y)))))] [] [] [] (y0==(0:Y)) (λh3=> ?_) (λh3=> ?_) ?_
  ·have h3d:=eq_of_beq h3;refine ru Qa [(28,.b Q)] [] [] [] (pt 1 h3 p0) ?_;exact zA (by rw[h3]<;>kernel_rfl)
  ·have h3d:=X0 h3;refine Xx (decide (deep>(9:Y))) (λh4=> ?_) (λh4=> ?_)
   ·have h4d:=uI h4;refine ru Qa [(28,.b Q)] [] [] [] (pf 1 h3 (pt 4 h4 p0)) ?_;exact zA (by rw[h3,h4]<;>kernel_rfl)
   have h4d:=uC h4;refine rn Qa [0,1,2,3,8,9,10,12,13,28] [12] (pf 1 h3 (pf 4 h4 (pl 8 q p0))) ?_;exact zA (by rw[h3,h4]<;>kernel_rfl)
  refine ck ((y0==(0:Y))|| (decide (deep>(9:Y))|| decide ((q.length:Y)>(9:Y)))) (λh5=> ?_) (λh5=> ?_)
  ·exact sn Qa [2,8,9,12,13] [12] p0 <| Qd <| pz [] (show Yl (n_+1) p at_ q deep=_ from Vp hD0.1 (Q9 h5 (rfl))) (λz=> .tup [(L, [.o 0 z.1]),(L, [.i z.2])])
  have h5l:((y0==(0:Y)))=L:=JL h5;have h5ld:=X0 h5l;have h5r:((decide (deep>(9:Y))|| decide ((q.length:Y)>(9:Y))))=L:=WL h5;have h5rl:(decide (deep>(9:Y)))=L:=JL h5r;have h5rld:=uC h5rl;have h5rr:(decide ((q.length:Y)>(9:Y)))=L:=WL h5r;have h5rrd:=uC h5rr;refine Qb <| jn [(41,.b ((y0==(2:Y))|| ((y0==(8:Y))|| (y0==(9:Y)))))] [28] [] [] (y0==(2:Y)) (λh6=> ?_) (λh6=> ?_) ?_
  ·have h6d:=eq_of_beq h6;refine ru Qa [(41,.b Q)] [28] [] [] (pt 1 h6 p0) ?_;exact zA (by rw[h6]<;>kernel_rfl)
  ·have h6d:=X0 h6;refine Xx (y0==(8:Y)) (λh7=> ?_) (λh7=> ?_)
   ·have h7d:=eq_of_beq h7;refine ru Qa [(41,.b Q)] [28] [] [] (pf 1 h6 (pt 4 h7 p0)) ?_;exact zA (by rw[h6,h7]<;>kernel_rfl)
   have h7d:=X0 h7;refine ru Qa [(41,.b (y0==(9:Y)))] [28] [] [] (pf 1 h6 (pf 4 h7 p0)) ?_;exact zA (by rw[h6,h7]<;>kernel_rfl)
  refine ck ((y0==(2:Y))|| ((y0==(8:Y))|| (y0==(9:Y)))) (λh8=> ?_) (λh8=> ?_)
  ·refine sn Qa [2,8,9,12,13] [12] (pc 3 (V2 p (IntKind.i64.wrap (at_+1)) (by omega)) p0) <| qn Qa [2,8,9,12,13] [12] p0 ?_
   refine wT 2 0 (.own Q 40) q (λhw9 hl10=> ?_);refine tu Qa [(8,.one (.slc (.own Q 8064) 7 ((eL q)++ [[.i y0,.i 0,.i 0,.s (Qh p (IntKind.i64.wrap (at_+1))),.i 0,.i 0,.s ⟨#[]⟩]]))),(9,.i 2)] [0,1,2,3,8,9,10,12,13,41] [] [12] (pa q [((y0,0,0,(Qh p (IntKind.i64.wrap (at_+1))),(0,0,⟨#[]⟩)):Q2)] p0) <| eqn [(8,.o 8064 (q++ [((y0,0,0,(Qh p (IntKind.i64.wrap (at_+1))),(0,0,⟨#[]⟩)):Q2)]))] [8] [] [] (by rw[show ((eL q)++ [[.i y0,.i 0,.i 0,.s (Qh p (IntKind.i64.wrap (at_+1))),.i 0,.i 0,.s ⟨#[]⟩]])=(eL (q++ [((y0,0,0,(Qh p (IntKind.i64.wrap (at_+1))),(0,0,⟨#[]⟩)):Q2)])) from Jc (rfl) (rfl)];first | done | kernel_rfl) ?_
   exact Qd <| pz [] (show Yl (n_+1) p at_ q deep=_ from Vp hD0.1 (Qj h5 (Q9 h8 (rfl)))) (λz=> .tup [(L, [.o 0 z.1]),(L, [.i z.2])])
  have h8l:((y0==(2:Y)))=L:=JL h8;have h8ld:=X0 h8l;have h8r:(((y0==(8:Y))|| (y0==(9:Y))))=L:=WL h8;have h8rl:((y0==(8:Y)))=L:=JL h8r;have h8rld:=X0 h8rl;have h8rr:((y0==(9:Y)))=L:=WL h8r;have h8rrd:=X0 h8rr;refine Qb <| jn [(57,.b ((y0==(3:Y))|| (y0==(4:Y))))] [41] [] [] (y0==(3:Y)) (λh11=> ?_) (λh11=> ?_) ?_
  ·have h11d:=eq_of_beq h11;refine ru Qa [(57,.b Q)] [41] [] [] (pt 1 h11 p0) ?_;exact zA (by rw[h11]<;>kernel_rfl)
  ·have h11d:=X0 h11;refine ru Qa [(57,.b (y0==(4:Y)))] [41] [] [] (pf 1 h11 p0) ?_;exact zA (by rw[h11]<;>kernel_rfl)
  refine ck ((y0==(3:Y))|| (y0==(4:Y))) (λh12=> ?_) (λh12=> ?_)
  ·refine sn Qa [0,1,2,8,9,12,13] [12] (pc 3 (V2 p (IntKind.i64.wrap (at_+1)) (by omega)) p0) <| tn Qa [2,8,9,12,13] [12] (pc 3 (V2 p (IntKind.i64.wrap (at_+2)) (by omega)) (pc 4 (Oe (Qh p (IntKind.i64.wrap (at_+2)))) p0)) <| qu Qa [(13,.i 3)] [0,1,3,10,13,57] [(12, [.i y0,.i 0,.i 0,.s (Qh p (IntKind.i64.wrap (at_+1))),.i ((((Xp (Qh p (IntKind.i64.wrap (at_+2))))).1).1),.i ((((Xp (Qh p (IntKind.i64.wrap (at_+2))))).1).2.1),.s ((((Xp (Qh p (IntKind.i64.wrap (at_+2))))).1).2.2)])] [12] p0 ?_
   refine wT 2 0 (.own Q 40) q (λhw13 hl14=> ?_);refine su Qa [(8,.one (.slc (.own Q 8064) 7 ((eL q)++ [[.i y0,.i 0,.i 0,.s (Qh p (IntKind.i64.wrap (at_+1))),.i ((((Xp (Qh p (IntKind.i64.wrap (at_+2))))).1).1),.i ((((Xp (Qh p (IntKind.i64.wrap (at_+2))))).1).2.1),.s ((((Xp (Qh p (IntKind.i64.wrap (at_+2))))).1).2.2)]]))),(9,.i 3)] [2,8,9,12,13] [] [12] (pa q [((y0,0,0,(Qh p (IntKind.i64.wrap (at_+1))),(((Xp (Qh p (IntKind.i64.wrap (at_+2))))).1)):Q2)] p0) <| eqn [(8,.o 8064 (q++ [((y0,0,0,(Qh p (IntKind.i64.wrap (at_+1))),(((Xp (Qh p (IntKind.i64.wrap (at_+2))))).1)):Q2)]))] [8] [] [] (by rw[show ((eL q)++ [[.i y0,.i 0,.i 0,.s (Qh p (IntKind.i64.wrap (at_+1))),.i ((((Xp (Qh p (IntKind.i64.wrap (at_+2))))).1).1),.i ((((Xp (Qh p (IntKind.i64.wrap (at_+2))))).1).2.1),.s ((((Xp (Qh p (IntKind.i64.wrap (at_+2))))).1).2.2)]])=(eL (q++ [((y0,0,0,(Qh p (IntKind.i64.wrap (at_+1))),(((Xp (Qh p (IntKind.i64.wrap (at_+2))))).1)):Q2)])) from Jc (rfl) (rfl)];first | done | kernel_rfl) ?_
   exact Qd <| pz [] (show Yl (n_+1) p at_ q deep=_ from Vp hD0.1 (Qj h5 (Qj h8 (Q9 h12 (rfl))))) (λz=> .tup [(L, [.o 0 z.1]),(L, [.i z.2])])
  have h12l:((y0==(3:Y)))=L:=JL h12;have h12ld:=X0 h12l;have h12r:((y0==(4:Y)))=L:=WL h12;have h12rd:=X0 h12r;refine sn Qa [0,1,2,3,8,9,10,12,13,78] [12] (pc 1 (Ys y0 5 7) p0) <| ck (Q0 y0 5 7) (λh15=> ?_) (λh15=> ?_)
  ·have h15w:=K1.1 h15;have h15w:=K1.1 h15;refine tu Qa [(14,.i 0)] [57] [] [] p0 ?_;obtain ⟨x16,hx16⟩:=nm ((Yl n_ p (IntKind.i64.wrap (at_+1)) q (IntKind.i64.wrap (deep+1))));have hrx16:=Lr n_ p (IntKind.i64.wrap (at_+1)) q (IntKind.i64.wrap (deep+1)) (by omega) (by omega) (by omega) (by omega) (by omega);rw[hx16] at hrx16;have hux16:IntKind.i64.wrap (1+x16.2)=1+x16.2:=IntWalk.i64_in _ (by omega);have hvx16:IntKind.i64.wrap (at_+IntKind.i64.wrap (1+x16.2))=at_+(1+x16.2):=by rw[hux16];exact IntWalk.i64_in _ (by omega)
   refine sn Qa [0,1,2,3,8,9,10,12,13,14] [12] (po 6 (.giv [40] (.tup [(L, [.o 0 x16.1]),(L, [.i x16.2])])) (px (SN (hx16▸ih p (IntKind.i64.wrap (at_+1)) q (IntKind.i64.wrap (deep+1)) (by omega) (by omega) (by omega) (by omega) (by omega) (by omega) (by omega))) p0)) <| wT 2 0 (.own Q 5632) x16.1 (λhw17 hl18=> ?_)
   refine tn Qa [0,1,2,3,8,9,10,12,13,14] [12] (pl 1 x16.1 (pe 2 (Jl (IntWalk.i64_in ((x16.1.length:Y)-1) (by omega))) p0)) <| tu Qa [(2,.o 5632 x16.1),(13,.i (IntKind.i64.wrap (1+x16.2))),(14,.i x16.2)] [2,13,14] [(12, [.i y0,.i ((x16.1.length:Y)-1),.i 0,.s ⟨#[]⟩,.i 0,.i 0,.s ⟨#[]⟩])] [12] p0 <| Qb <| su Qa [(98,.b (x16.2==(0:Y)))] [] [] [] p0 <| ck (x16.2==(0:Y)) (λh19=> ?_) (λh19=> ?_)
   ·have h19d:=eq_of_beq h19;exact su Qa [(8,.o 5632 x16.1)] [8,98] [] [] p0 <| Qd <| pz [] (show Yl (n_+1) p at_ q deep=_ from Vp hD0.1 (Qj h5 (Qj h8 (Qj h12 (Q9 h15 (L4 hx16 (Q9 h19 (rfl)))))))) (λz=> .tup [(L, [.o 0 z.1]),(L, [.i z.2])])
   have h19d:=X0 h19;refine Qf <| sn Qa [0,1,2,3,8,9,12,13,14,101] [12] p0 <| ck (y0 !=(5:Y)) (λh20=> ?_) (λh20=> ?_)
   ·have h20d:=Pe h20;obtain ⟨x21,hx21⟩:=nm ((Yl n_ p (IntKind.i64.wrap (at_+IntKind.i64.wrap (1+x16.2))) x16.1 (IntKind.i64.wrap (deep+1))));have hrx21:=Lr n_ p (IntKind.i64.wrap (at_+IntKind.i64.wrap (1+x16.2))) x16.1 (IntKind.i64.wrap (deep+1)) (by omega) (by omega) (by omega) (by omega) (by omega);rw[hx21] at hrx21;have hux21:IntKind.i64.wrap (1+x21.2)=1+x21.2:=IntWalk.i64_in _ (by omega);have hvx21:IntKind.i64.wrap (at_+IntKind.i64.wrap (1+x21.2))=at_+(1+x21.2):=by rw[hux21];exact IntWalk.i64_in _ (by omega)
    refine tn Qa [2,8,9,12,13,14] [12] (po 7 (.giv [5632] (.tup [(L, [.o 0 x21.1]),(L, [.i x21.2])])) (px (SN (hx21▸ih p (IntKind.i64.wrap (at_+IntKind.i64.wrap (1+x16.2))) x16.1 (IntKind.i64.wrap (deep+1)) (by omega) (by omega) (by omega) (by omega) (by omega) (by omega) (by omega))) p0)) <| wT 2 0 (.own Q 7040) x21.1 (λhw22 hl23=> ?_)
    refine tu Qa [(2,.o 7040 x21.1),(14,.i x21.2)] [0,1,2,3,10,14,98] [(12, [.i y0,.i ((x16.1.length:Y)-1),.i ((x21.1.length:Y)-1),.s ⟨#[]⟩,.i 0,.i 0,.s ⟨#[]⟩])] [12] (pl 1 x21.1 (pe 2 (Jl (IntWalk.i64_in ((x21.1.length:Y)-1) (by omega))) p0)) <| sn Qa [2,8,9,12,13,14] [12] p0 <| tn Qa [2,8,9,12,13,121] [12] p0 <| ck (x21.2==(0:Y)) (λh24=> ?_) (λh24=> ?_)
    ·have h24d:=eq_of_beq h24;exact tu Qa [(8,.o 7040 x21.1),(13,.i (IntKind.i64.wrap (IntKind.i64.wrap (1+x16.2)+x21.2)))] [8,13,14] [] [] p0 <| Qd <| pz [] (show Yl (n_+1) p at_ q deep=_ from Vp hD0.1 (Qj h5 (Qj h8 (Qj h12 (Q9 h15 (L4 hx16 (Qj h19 (Q9 h20 (L4 hx21 (Q9 h24 (rfl))))))))))) (λz=> .tup [(L, [.o 0 z.1]),(L, [.i z.2])])
    have h24d:=X0 h24;refine Qf <| tu Qa [(8,.one (.slc (.own Q 8064) 7 ((eL x21.1)++ [[.i y0,.i ((x16.1.length:Y)-1),.i ((x21.1.length:Y)-1),.s ⟨#[]⟩,.i 0,.i 0,.s ⟨#[]⟩]]))),(9,.i (IntKind.i64.wrap (IntKind.i64.wrap (1+x16.2)+x21.2)))] [2,8,9,12,13,14] [] [12] (pa x21.1 [((y0,((x16.1.length:Y)-1),((x21.1.length:Y)-1),⟨#[]⟩,(0,0,⟨#[]⟩)):Q2)] p0) <| eqn [(8,.o 8064 (x21.1++ [((y0,((x16.1.length:Y)-1),((x21.1.length:Y)-1),⟨#[]⟩,(0,0,⟨#[]⟩)):Q2)]))] [8] [] [] (by rw[show ((eL x21.1)++ [[.i y0,.i ((x16.1.length:Y)-1),.i ((x21.1.length:Y)-1),.s ⟨#[]⟩,.i 0,.i 0,.s ⟨#[]⟩]])=(eL (x21.1++ [((y0,((x16.1.length:Y)-1),((x21.1.length:Y)-1),⟨#[]⟩,(0,0,⟨#[]⟩)):Q2)])) from Jc (rfl) (rfl)];first | done | kernel_rfl) ?_
    exact Qd <| pz [] (show Yl (n_+1) p at_ q deep=_ from Vp hD0.1 (Qj h5 (Qj h8 (Qj h12 (Q9 h15 (L4 hx16 (Qj h19 (Q9 h20 (L4 hx21 (Qj h24 (rfl))))))))))) (λz=> .tup [(L, [.o 0 z.1]),(L, [.i z.2])])
   have h20d:=Uw h20;refine Qf <| tu Qa [(8,.one (.slc (.own Q 8064) 7 ((eL x16.1)++ [[.i y0,.i ((x16.1.length:Y)-1),.i 0,.s ⟨#[]⟩,.i 0,.i 0,.s ⟨#[]⟩]]))),(9,.i (IntKind.i64.wrap (1+x16.2)))] [0,1,2,3,8,9,10,12,13,14,98] [] [12] (pa x16.1 [((y0,((x16.1.length:Y)-1),0,⟨#[]⟩,(0,0,⟨#[]⟩)):Q2)] p0) <| eqn [(8,.o 8064 (x16.1++ [((y0,((x16.1.length:Y)-1),0,⟨#[]⟩,(0,0,⟨#[]⟩)):Q2)]))] [8] [] [] (by rw[show ((eL x16.1)++ [[.i y0,.i ((x16.1.length:Y)-1),.i 0,.s ⟨#[]⟩,.i 0,.i 0,.s ⟨#[]⟩]])=(eL (x16.1++ [((y0,((x16.1.length:Y)-1),0,⟨#[]⟩,(0,0,⟨#[]⟩)):Q2)])) from Jc (rfl) (rfl)];first | done | kernel_rfl) ?_
   exact Qd <| pz [] (show Yl (n_+1) p at_ q deep=_ from Vp hD0.1 (Qj h5 (Qj h8 (Qj h12 (Q9 h15 (L4 hx16 (Qj h19 (Qj h20 (rfl))))))))) (λz=> .tup [(L, [.o 0 z.1]),(L, [.i z.2])])
  refine Qf <| wT 2 0 (.own Q 40) q (λhw25 hl26=> ?_)
  refine tu Qa [(8,.one (.slc (.own Q 8064) 7 ((eL q)++ [[.i y0,.i 0,.i 0,.s ⟨#[]⟩,.i 0,.i 0,.s ⟨#[]⟩]]))),(9,.i 1)] [0,1,2,3,8,9,10,12,13,57] [] [12] (pa q [((y0,0,0,⟨#[]⟩,(0,0,⟨#[]⟩)):Q2)] p0) <| eqn [(8,.o 8064 (q++ [((y0,0,0,⟨#[]⟩,(0,0,⟨#[]⟩)):Q2)]))] [8] [] [] (by rw[show ((eL q)++ [[.i y0,.i 0,.i 0,.s ⟨#[]⟩,.i 0,.i 0,.s ⟨#[]⟩]])=(eL (q++ [((y0,0,0,⟨#[]⟩,(0,0,⟨#[]⟩)):Q2)])) from Jc (rfl) (rfl)];first | done | kernel_rfl) ?_
  exact Qd <| pz [] (show Yl (n_+1) p at_ q deep=_ from Vp hD0.1 (Qj h5 (Qj h8 (Qj h12 (Qj h15 (rfl)))))) (λz=> .tup [(L, [.o 0 z.1]),(L, [.i z.2])])
def Yi (s_:W):(N Q2)×G:=(bif (!(((Xu s_)).2)) then ([],L) else (lt (Xt (zF (((Xu s_)).1)+1) (((Xu s_)).1) ([]:N Q2)) (λx3=>(bif ((!x3.1)|| (decide ((x3.2.1.length:Y)>(0:Y))|| (!(Qk x3.2.2)))) then ([],L) else (x3.2.2,Q)))))
theorem JS (s_:W):ACalls Tryz.prog 267 [.s s_] (.tup [(L, [.o 0 (((Yi s_)).1)]),(L, [.b (((Yi s_)).2)])]):=by
 refine en Qa Tryz.func267 λw0 F0 hG=> ?_
 refine sn Qa [0,2,3] [] p0 ?_;have hk1:=Qpa s_;refine tn Qa [2,3,4,5] [] (pc 1 (YW s_) p0) <| Qb <| tu Qa [(2,.e 0),(3,.b L),(4,.o 576 (((Xu s_)).1)),(13,.b (!(((Xu s_)).2)))] [0] [] [] p0 <| ck (!(((Xu s_)).2)) (λh2=> ?_) (λh2=> ?_)
 ·refine sn Qa [2,3,4] [] p0 <| opn [(L,2,0,Q,384000,7)] ?_
  exact Qd <| pz [] (show Yi s_=_ from Q9 h2 (rfl)) (λz=> .tup [(L, [.o 0 z.1]),(L, [.b z.2])])
 refine Qf <| sn Qa [2,3,6] [16] p0 <| Qb ?_
 obtain ⟨x3,hx3⟩:=nm (Xt (zF (((Xu s_)).1)+1) (((Xu s_)).1) ([]:N Q2));have hqx3:=QU (zF (((Xu s_)).1)+1) (((Xu s_)).1) ([]:N Q2);rw[hx3] at hqx3;refine Qb <| mz [(6,.p 16 0)] [4,13] [(16, [.o 576 (((Xu s_)).1),.e 7])] [] <| jn [(35,.b ((!x3.1)|| (decide ((x3.2.1.length:Y)>(0:Y))|| (!(Qk x3.2.2)))))] [] [(16, [.h x3.2.1,.o 1193 x3.2.2])] [16] (!x3.1) (λh4=> ?_) (λh4=> ?_) ?_
 ·have h4n:(x3.1)=L:=Vt h4;refine Ei (Bj [576] rfl) ?_;refine opn [(Q,16,1,Q,448006,7)] ?_;refine rn Qa [2,3,6,35] [16] (po 1 (.give uF (.b L) [.h x3.2.1,.o 41 x3.2.2]) (px (Iu (gb h4n (hx3▸ZF (zF (((Xu s_)).1)+1) (((Xu s_)).1) ([]:N Q2) (by omega) (by omega) (by simp;omega)))) (pe 2 (show .b (!L)= .b Q from rfl) p0))) ?_;exact zA (by rw[h4]<;>kernel_rfl)
 ·have h4n:(x3.1)=Q:=Zz h4;refine Xx (decide ((x3.2.1.length:Y)>(0:Y))) (λh5=> ?_) (λh5=> ?_)
  ·have h5d:=uI h5;refine Ei (Bj [576] rfl) ?_;refine opn [(Q,16,1,Q,448007,7)] ?_;refine rn Qa [2,3,6,35] [16] (po 1 (.give uF (.b Q) [.h x3.2.1,.o 41 x3.2.2]) (px (Iu (gb h4n (hx3▸ZF (zF (((Xu s_)).1)+1) (((Xu s_)).1) ([]:N Q2) (by omega) (by omega) (by simp;omega)))) (pe 2 (show .b (!Q)= .b L from rfl) (pl 8 x3.2.1 (pt 9 h5 p0))))) ?_;exact zA (by rw[h4,h5]<;>kernel_rfl)
  have h5d:=uC h5;refine Ei (Bj [576] rfl) ?_;refine opn [(Q,16,1,Q,448008,7)] ?_;refine rn Qa [2,3,6,35] [16] (po 1 (.give uF (.b Q) [.h x3.2.1,.o 41 x3.2.2]) (px (Iu (gb h4n (hx3▸ZF (zF (((Xu s_)).1)+1) (((Xu s_)).1) ([]:N Q2) (by omega) (by omega) (by simp;omega)))) (pe 2 (show .b (!Q)= .b L from rfl) (pl 8 x3.2.1 (pf 9 h5 (pc 16 (Vv x3.2.2) p0)))))) ?_;exact zA (by rw[h4,h5]<;>kernel_rfl)
 refine ck ((!x3.1)|| (decide ((x3.2.1.length:Y)>(0:Y))|| (!(Qk x3.2.2)))) (λh6=> ?_) (λh6=> ?_)
 ·refine su Qa [] [35] [] [] p0 <| opn [(L,2,0,Q,384000,7)] ?_
  exact Qd <| pz [] (show Yi s_=_ from Qj h2 (L4 hx3 (Q9 h6 (rfl)))) (λz=> .tup [(L, [.o 0 z.1]),(L, [.b z.2])])
 exact Qf <| sn Qa [2,3] [] p0 <| Qd <| pz [] (show Yi s_=_ from Qj h2 (L4 hx3 (Qj h6 (rfl)))) (λz=> .tup [(L, [.o 0 z.1]),(L, [.b z.2])])
def Y8 (s_:W):(N Q2)×G:=(bif (!(((Qc s_)).2)) then ([],L) else (lt (Yl 12 (((Qc s_)).1) 0 ([]:N Q2) 0) (λx3=>(bif ((x3.2 !=((((Qc s_)).1).length:Y))|| (((Yp x3.1).toList==(⟨#[]⟩:W).toList)|| (!((Yp x3.1).toList==(V3 (((Qc s_)).1)).toList)))) then ([],L) else (x3.1,Q)))))
theorem JT (s_:W):ACalls Tryz.prog 254 [.s s_] (.tup [(L, [.o 0 (((Y8 s_)).1)]),(L, [.b (((Y8 s_)).2)])]):=by
 refine en Qa Tryz.func254 λw0 F0 hG=> ?_
 refine sn Qa [0,2,3] [] p0 ?_;have hk1:=My s_;refine tn Qa [2,3,4,5] [] (pc 1 (Mv s_) p0) <| Qb <| tu Qa [(2,.e 0),(3,.b L),(4,.o 704 (((Qc s_)).1)),(15,.b (!(((Qc s_)).2)))] [0] [] [] p0 <| ck (!(((Qc s_)).2)) (λh2=> ?_) (λh2=> ?_)
 ·exact sn Qa [2,3,4] [] p0 <| Qd <| pz [] (show Y8 s_=_ from Q9 h2 (rfl)) (λz=> .tup [(L, [.o 0 z.1]),(L, [.b z.2])])
 refine Qf ?_;obtain ⟨x3,hx3⟩:=nm ((Yl 12 (((Qc s_)).1) 0 ([]:N Q2) 0));have hrx3:=Lr 12 (((Qc s_)).1) 0 ([]:N Q2) 0 (by omega) (by omega) (by omega) (by omega) (by omega);rw[hx3] at hrx3;refine sn Qa [2,3,4,6,7] [] (po 2 (.giv [1216] (.tup [(L, [.o 0 x3.1]),(L, [.i x3.2])])) (px (SN (hx3▸FD 12 (((Qc s_)).1) 0 ([]:N Q2) 0 (by omega) (by omega) (by omega) (by omega) (by omega) (by omega) (by omega))) p0)) ?_;have hk4:=Qky x3.1;refine tn Qa [2,3,4,6,7,8] [] (pc 1 (Mz x3.1) p0) <| Qb <| Qb <| mz [(6,.o 1280 x3.1),(7,.i x3.2),(8,.s (Yp x3.1))] [15] [] [] <| jn [(38,.b ((x3.2 !=((((Qc s_)).1).length:Y))|| (((Yp x3.1).toList==(⟨#[]⟩:W).toList)|| (!((Yp x3.1).toList==(V3 (((Qc s_)).1)).toList)))))] [4,7,8] [] [] (x3.2 !=((((Qc s_)).1).length:Y)) (λh5=> ?_) (λh5=> ?_) ?_
 ·refine rn Qa [2,3,6,38] [] (pl 2 (((Qc s_)).1) (pt 3 h5 p0)) ?_;exact zA (by rw[h5]<;>kernel_rfl)
 ·have h5d:=Uw h5;refine Xx ((Yp x3.1).toList==(⟨#[]⟩:W).toList) (λh6=> ?_) (λh6=> ?_)
  ·refine rn Qa [2,3,6,38] [] (pl 2 (((Qc s_)).1) (pf 3 h5 (pt 6 h6 p0))) ?_;exact zA (by rw[h5,h6]<;>kernel_rfl)
  refine rn Qa [2,3,6,38] [] (pl 2 (((Qc s_)).1) (pf 3 h5 (pf 6 h6 (pc 11 (QS (((Qc s_)).1) (by first | exact (My _).1 | (simp only[yF];have:=(My line).1;omega)) (by first | exact (My _).2 | exact λy hy=>(My line).2 y (yJ hy))) p0)))) ?_;exact zA (by rw[h5,h6]<;>kernel_rfl)
 refine ck ((x3.2 !=((((Qc s_)).1).length:Y))|| (((Yp x3.1).toList==(⟨#[]⟩:W).toList)|| (!((Yp x3.1).toList==(V3 (((Qc s_)).1)).toList)))) (λh7=> ?_) (λh7=> ?_)
 ·exact sn Qa [2,3,6] [] p0 <| Qd <| pz [] (show Y8 s_=_ from Qj h2 (L4 hx3 (Q9 h7 (rfl)))) (λz=> .tup [(L, [.o 0 z.1]),(L, [.b z.2])])
 exact Qf <| sn Qa [2,3] [] p0 <| Qd <| pz [] (show Y8 s_=_ from Qj h2 (L4 hx3 (Qj h7 (rfl)))) (λz=> .tup [(L, [.o 0 z.1]),(L, [.b z.2])])
open GoE (enc wide)
def Vo (w:Z) (s0:G×Y×(N Ui)):Rd (Yj×G) (G×Y×(N Ui)) (G×(N Ui)):=(bif decide (s0.2.1<(w.length:Y)) then (.next ((s0.1&&((Qx (nth w (IntKind.i64.wrap (s0.2.1+1)).toNat))).2),IntKind.i64.wrap (s0.2.1+2),s0.2.2++ [((nth w s0.2.1.toNat),(((Qx (nth w (IntKind.i64.wrap (s0.2.1+1)).toNat))).1))])) else (.brk (s0.1,s0.2.2)))
def Zx (w:Z):Yj×G:=(bif (decide ((w.length:Y)<(4:Y))|| (yP (w.length:Y) 2 !=(0:Y))) then ((0,0,L,0, []),L) else (Out.on (Oo (Vo w) (zF w+1) (((Qg (nth w 0)).2&&((Qg (nth w 1)).2&&(Qg (nth w 3)).2)),4, [])) (λy0=>(((Qg (nth w 0)).1,(Qg (nth w 1)).1,((nth w 2).toList==(⟨#[115]⟩:W).toList),(Qg (nth w 3)).1,y0.2),y0.1))))
theorem Qji {w:Z} (hw:zF w<=1073741800) (b:G):(whl (Vo w) (zF w+1) (b,4, [])).isSome=Q:=
 Qef (λs=>s.2.1 / 2) ((w.length:Y) / 2+1) (λs s' h0 h=>by
  unfold Vo at h;by_cases hc:s.2.1<(w.length:Y)
  . rw[uE hc,I] at h;have h:=Rd.next.inj h;rw[←h];have e:IntKind.i64.wrap (s.2.1+2)=s.2.1+2:=IntWalk.i64_in _ (by omega);simp only[e];omega
  rw[uA hc,J] at h;cases h) _ _ (by show (0:Y)<=4 / 2;decide) (by show _<=(4:Y) / 2+_;omega)
theorem ME (w:Z) (hw:zF w<=1073741800):ACalls Tryz.prog 266 [.h w] (.tup [(Q, [.i ((((Zx w)).1).1),.i ((((Zx w)).1).2.1),.b ((((Zx w)).1).2.2.1),.i ((((Zx w)).1).2.2.2.1),.o 0 ((((Zx w)).1).2.2.2.2)]),(L, [.b (((Zx w)).2)])]):=by
 refine en Qa Tryz.func266 λw0 F0 hG=> ?_
 have hmt:yP (w.length:Y) 2=(w.length:Y) % 2:=Int.tmod_eq_emod_of_nonneg (by omega);refine sn Qa [0,2,3] [2] p0 <| Qb <| Qb <| mz [(2,.p 2 0),(3,.b L)] [] [(2, [.i 0,.i 0,.b L,.i 0,.e 4])] [] <| jn [(23,.b (decide ((w.length:Y)<(4:Y))|| (yP (w.length:Y) 2 !=(0:Y))))] [] [] [] (decide ((w.length:Y)<(4:Y))) (λh1=> ?_) (λh1=> ?_) ?_
 ·refine rn Qa [0,2,3,23] [2] (pl 1 w (pt 2 h1 p0)) ?_;exact zA (by rw[h1]<;>kernel_rfl)
 ·have h1d:=uC h1;refine rn Qa [0,2,3,23] [2] (pl 1 w (pf 2 h1 (pl 5 w (px (Qly (n:=2) (by omega)) (px (Qdw (k:= .i64) (n:=yP (w.length:Y) 2) (by unfold InR;simp only[IntKind.min,IntKind.max,IntKind.bits,IntKind.signed];omega)) p0))))) ?_;exact zA (by rw[h1]<;>kernel_rfl)
 refine ck (decide ((w.length:Y)<(4:Y))|| (yP (w.length:Y) 2 !=(0:Y))) (λh2=> ?_) (λh2=> ?_)
 ·refine su Qa [] [23] [] [] p0 <| opn [(Q,2,4,Q,384000,4)] ?_
  exact Qd <| pz [] (show Zx w=_ from Q9 h2 (rfl)) (λz=> .tup [(Q, [.i z.1.1,.i z.1.2.1,.b z.1.2.2.1,.i z.1.2.2.2.1,.o 0 z.1.2.2.2.2]),(L, [.b z.2])])
 have h2l:(decide ((w.length:Y)<(4:Y)))=L:=JL h2;have h2ld:=uC h2l;have h2r:((yP (w.length:Y) 2 !=(0:Y)))=L:=WL h2;have h2rd:=Uw h2r;refine Qf <| wT 0 0 .sh w (λhw4 hl5=> ?_)
 have hx3:=ng w 0;refine sn Qa [0,2,3,4,5] [2] (pg 1 0 hx3 (pc 3 (Ac (nth w 0)) p0)) ?_;have hx6:=ng w 1;refine tn Qa [0,2,3,4,5,6,7] [2] (pg 1 1 hx6 (pc 3 (Ac (nth w 1)) p0)) ?_;have hx7:=ng w 3;refine tu Qa [(4,.i ((Qg (nth w 0)).1)),(5,.b ((Qg (nth w 0)).2)),(6,.i ((Qg (nth w 1)).1)),(7,.b ((Qg (nth w 1)).2)),(8,.i ((Qg (nth w 3)).1)),(9,.b ((Qg (nth w 3)).2))] [23] [] [] (pg 1 3 hx7 (pc 3 (Ac (nth w 3)) p0)) ?_;have hx8:=ng w 2;refine sn Qa [0,2,3,5,7,9,10] [2,10] (pg 3 2 hx8 p0) <| Qb <| mz [(10,.p 10 0)] [4,6,8] [(10, [.i ((Qg (nth w 0)).1),.i ((Qg (nth w 1)).1),.b ((nth w 2).toList==(⟨#[115]⟩:W).toList),.i ((Qg (nth w 3)).1),.e 4])] [] <| jn [(11,.b ((Qg (nth w 0)).2&&((Qg (nth w 1)).2&&(Qg (nth w 3)).2)))] [5,7,9] [] [] ((Qg (nth w 0)).2) (λh9=> ?_) (λh9=> ?_) ?_
 ·refine Xx ((Qg (nth w 1)).2) (λh10=> ?_) (λh10=> ?_)
  ·refine rn Qa [0,2,3,10,11] [2,10] (pt 0 h9 (pt 2 h10 p0)) ?_;exact zA (by rw[h9,h10]<;>kernel_rfl)
  refine rn Qa [0,2,3,10,11] [2,10] (pt 0 h9 (pf 2 h10 p0)) ?_;exact zA (by rw[h9,h10]<;>kernel_rfl)
 ·refine rn Qa [0,2,3,10,11] [2,10] (pf 0 h9 p0) ?_;exact zA (by rw[h9]<;>kernel_rfl)
 refine Qb <| su Qa [(12,.i 4)] [] [] [] p0 <| blw (λ(s0:G×Y×(N Ui))=> [(11,.b s0.1),(12,.i s0.2.1)]) [11,12] (λs0=> [(10, [.i ((Qg (nth w 0)).1),.i ((Qg (nth w 1)).1),.b ((nth w 2).toList==(⟨#[115]⟩:W).toList),.i ((Qg (nth w 3)).1),.o 147215 s0.2.2])]) [10] (λ(y0:G×(N Ui))=> [(11,.b y0.1)]) [0,11,12] (λy0=> [(10, [.i ((Qg (nth w 0)).1),.i ((Qg (nth w 1)).1),.b ((nth w 2).toList==(⟨#[115]⟩:W).toList),.i ((Qg (nth w 3)).1),.o 147365 y0.2])]) [10] (λ(k0:K) (s0:G×Y×(N Ui))=>whl (Vo w) k0 s0=uB (Oo (Vo w) (zF w+1) (((Qg (nth w 0)).2&&((Qg (nth w 1)).2&&(Qg (nth w 3)).2)),4, []))/\4<=s0.2.1/\s0.2.1<=(zF w:Y)/\s0.2.1 % 2=0/\2*(zF s0.2.2:Y)+4=s0.2.1) (λ(y0:G×(N Ui))=>(Oo (Vo w) (zF w+1) (((Qg (nth w 0)).2&&((Qg (nth w 1)).2&&(Qg (nth w 3)).2)),4, []))= .brk y0) (zF w+1) (((Qg (nth w 0)).2&&((Qg (nth w 1)).2&&(Qg (nth w 3)).2)),4, []) (L5 [(Q,10,4,Q,320008,4)] [] [] [(320008,147215)] (by kernel_rfl)) ⟨Nc (Qji hw _),(by first | omega | rfl | (simp;omega) | (simp;done)),(by first | omega | rfl | (simp;omega) | (simp;done)),(by first | omega | rfl | (simp;omega) | (simp;done)),(by first | omega | rfl | (simp;omega) | (simp;done))⟩ (λ_ h=>Rg h.1) (λk0 s0 U=> ?_) (λy0 hD0=> ?_)
 ·have hA0_0:=U.2.1;have hA0_1:=U.2.2.1;have hA0_2:=U.2.2.2.1;have hA0_3:=U.2.2.2.2;have e1:IntKind.i64.wrap (s0.2.1+1)=s0.2.1+1:=IntWalk.i64_in _ (by omega);have e2:IntKind.i64.wrap (s0.2.1+2)=s0.2.1+2:=IntWalk.i64_in _ (by omega);refine Qb <| sn Qa [0,2,3,10,11,12,64] [2,10] (pl 2 w p0) <| ck (decide (s0.2.1<(w.length:Y))) (λh11=> ?_) (λh11=> ?_)
  ·have h11d:=uI h11;refine Qf <| Qb <| Qo ?_
   have hx12:=ng w (IntKind.i64.wrap (s0.2.1+1)).toNat;refine tn Qa [0,2,3,10,11,12,13,14] [2,10,13] (pg 3 (IntKind.i64.wrap (s0.2.1+1)) hx12 (pc 5 (Od (nth w (IntKind.i64.wrap (s0.2.1+1)).toNat)) p0)) ?_;have hx13:=ng w s0.2.1.toNat;refine wB 10 4 (.own Q 147215) s0.2.2 (λhw14 hl15=> ?_);refine tU Qa Yo [(14,.b (((Qx (nth w (IntKind.i64.wrap (s0.2.1+1)).toNat))).2))] [] [(10, [.i ((Qg (nth w 0)).1),.i ((Qg (nth w 1)).1),.b ((nth w 2).toList==(⟨#[115]⟩:W).toList),.i ((Qg (nth w 3)).1),.slc (.own Q 5440) 4 ((eL s0.2.2)++ [[.s (nth w s0.2.1.toNat),.i ((((Qx (nth w (IntKind.i64.wrap (s0.2.1+1)).toNat))).1).1),.i ((((Qx (nth w (IntKind.i64.wrap (s0.2.1+1)).toNat))).1).2.1),.s ((((Qx (nth w (IntKind.i64.wrap (s0.2.1+1)).toNat))).1).2.2)]])])] [10] (pg 4 s0.2.1 hx13 (pa s0.2.2 [((nth w s0.2.1.toNat),(((Qx (nth w (IntKind.i64.wrap (s0.2.1+1)).toNat))).1))] p0)) <| eqn [] [] [(10, [.i ((Qg (nth w 0)).1),.i ((Qg (nth w 1)).1),.b ((nth w 2).toList==(⟨#[115]⟩:W).toList),.i ((Qg (nth w 3)).1),.o 5440 (s0.2.2++ [((nth w s0.2.1.toNat),(((Qx (nth w (IntKind.i64.wrap (s0.2.1+1)).toNat))).1))])])] [10] (by rw[show ((eL s0.2.2)++ [[.s (nth w s0.2.1.toNat),.i ((((Qx (nth w (IntKind.i64.wrap (s0.2.1+1)).toNat))).1).1),.i ((((Qx (nth w (IntKind.i64.wrap (s0.2.1+1)).toNat))).1).2.1),.s ((((Qx (nth w (IntKind.i64.wrap (s0.2.1+1)).toNat))).1).2.2)]])=(eL (s0.2.2++ [((nth w s0.2.1.toNat),(((Qx (nth w (IntKind.i64.wrap (s0.2.1+1)).toNat))).1))])) from Jc (rfl) (rfl)];first | done | kernel_rfl) ?_
   refine jn [(11,.b (s0.1&&((Qx (nth w (IntKind.i64.wrap (s0.2.1+1)).toNat))).2))] [11,14] [] [] s0.1 (λh16=> ?_) (λh16=> ?_) ?_
   ·refine rn Qa [0,2,3,10,11,12] [2,10] (pt 0 h16 p0) ?_;exact zA (by rw[h16]<;>kernel_rfl)
   ·refine rn Qa [0,2,3,10,11,12] [2,10] (pf 0 h16 p0) ?_;exact zA (by rw[h16]<;>kernel_rfl)
   refine rn Qa [0,2,3,10,11,12] [2,10] p0 ?_;exact zM ((s0.1&&((Qx (nth w (IntKind.i64.wrap (s0.2.1+1)).toNat))).2),IntKind.i64.wrap (s0.2.1+2),s0.2.2++ [((nth w s0.2.1.toNat),(((Qx (nth w (IntKind.i64.wrap (s0.2.1+1)).toNat))).1))]) (zP (Xg [(5440,147215)] (by kernel_rfl)) ⟨wn U.1 (Q9 h11 (rfl)),(by first|omega|(simp;omega)),(by first|omega|(simp;omega)),(by first|omega|(simp;omega)),(by first|omega|(simp;omega))⟩)
  exact Q4 <| zM _ (zP (Xg [(147215,147365)] (by kernel_rfl)) (wb U.1 (Qj h11 (rfl))))
 exact sn Qa [2,3] [2] p0 <| Qd <| pz [] (show Zx w=_ from Qj h2 (Vp hD0 (rfl))) (λz=> .tup [(Q, [.i z.1.1,.i z.1.2.1,.b z.1.2.2.1,.i z.1.2.2.2.1,.o 0 z.1.2.2.2.2]),(L, [.b z.2])])
def Ji (b1:N Y7) (b2:N Yj) (b3:Y) (b4:N Zj) (line:W):G×(N Y7)×(N Yj)×Y×(N Zj):=(bif (((nth (Qt 32 line) 0).toList==(⟨#[102,105,101,108,100]⟩:W).toList)&&(((Qt 32 line).length:Y)==(3:Y))) then (bif ((nth (Qt 32 line) 2).toList==(⟨#[115,116,114,105,110,103]⟩:W).toList) then (Q,b1++ [(((nth (Qt 32 line) 1),2):Y7)],b2,b3,b4) else (Q,b1++ [(((nth (Qt 32 line) 1),1):Y7)],b2,b3,b4)) else (bif (((nth (Qt 32 line) 0).toList==(⟨#[110,101,120,116]⟩:W).toList)&&(((Qt 32 line).length:Y)==(2:Y))) then ((Qg (nth (Qt 32 line) 1)).2,b1,b2,(Qg (nth (Qt 32 line) 1)).1,b4) else (bif ((nth (Qt 32 line) 0).toList==(⟨#[102,105,108,101]⟩:W).toList) then (((Zx (zH 1 (Qt 32 line)))).2,b1,b2++ [(((Zx (zH 1 (Qt 32 line)))).1)],b3,b4) else (bif (((nth (Qt 32 line) 0).toList==(⟨#[100,105,114]⟩:W).toList)&&decide (((Qt 32 line).length:Y)>(2:Y))) then (((Yi (Xl ⟨#[32]⟩ (zH 2 (Qt 32 line))))).2,b1,b2,b3,b4++ [((nth (Qt 32 line) 1),((Yi (Xl ⟨#[32]⟩ (zH 2 (Qt 32 line))))).1)]) else (L,b1,b2,b3,b4)))))
theorem Qf3 (b1:N Y7) (b2:N Yj) (b3:Y) (b4:N Zj) (line:W):(Ji b1 b2 b3 b4 line).2.1.length<=b1.length+1/\(Ji b1 b2 b3 b4 line).2.2.1.length<=b2.length+1/\(Ji b1 b2 b3 b4 line).2.2.2.2.length<=b4.length+1:=by
 unfold Ji;simp only[Bool.cond_eq_ite]
 repeat' split
 all_goals (simp only[zJ,zG,zK];omega)
theorem Qby (b1:N Y7) (b2:N Yj) (b3:Y) (b4:N Zj) (line:W) (hl:zD line<=1073741000) (h1:zF b1<1073741824) (h2:zF b2<1073741824) (h4:zF b4<1073741824):AGive Tryz.prog 228 [.o 40 b1,.o 41 b2,.i b3,.o 43 b4] [.s line] (.b (((Ji b1 b2 b3 b4 line)).1)) [.o 40 (((Ji b1 b2 b3 b4 line)).2.1),.o 41 (((Ji b1 b2 b3 b4 line)).2.2.1),.i (((Ji b1 b2 b3 b4 line)).2.2.2.1),.o 43 (((Ji b1 b2 b3 b4 line)).2.2.2.2)]:=by
 refine DV (tt:=tt) Qa Tryz.func228 (fn:=Tryz.f228) rfl (by unfold F9;kernel_rfl) (zQ rfl) (zQ rfl) rfl rfl λw0 F0 hG=> ?_
 have hjd:=Qfp 32 line 2;have hsc:=ZC 32 line;refine sn Qa [0,1,4] [60000] p0 <| stT 1 0 line (λhs1=> ?_)
 refine tn Qa [0,4,5] [60000] (pc 1 (R8 line 32 (by omega)) p0) <| Qb <| Qo <| Qb <| mz [(4,.b L),(5,.o 896 (Qt 32 line))] [1] [] [] <| jn [(15,.b (((nth (Qt 32 line) 0).toList==(⟨#[102,105,101,108,100]⟩:W).toList)&&(((Qt 32 line).length:Y)==(3:Y))))] [] [] [] ((nth (Qt 32 line) 0).toList==(⟨#[102,105,101,108,100]⟩:W).toList) (λh2=> ?_) (λh2=> ?_) ?_
 ·refine wT 5 0 (.own Q 896) (Qt 32 line) (λhw4 hl5=> ?_);have hx3:=ng (Qt 32 line) 0;refine rn Qa [0,4,5,15] [60000] (pG 1 0 hx3 (pt 3 h2 (pl 6 (Qt 32 line) p0))) ?_;exact zA (by rw[h2]<;>kernel_rfl)
 ·refine wT 5 0 (.own Q 896) (Qt 32 line) (λhw7 hl8=> ?_);have hx6:=ng (Qt 32 line) 0;refine rn Qa [0,4,5,15] [60000] (pG 1 0 hx6 (pf 3 h2 p0)) ?_;exact zA (by rw[h2]<;>kernel_rfl)
 refine ck (((nth (Qt 32 line) 0).toList==(⟨#[102,105,101,108,100]⟩:W).toList)&&(((Qt 32 line).length:Y)==(3:Y))) (λh9=> ?_) (λh9=> ?_)
 ·have h9l:(((nth (Qt 32 line) 0).toList==(⟨#[102,105,101,108,100]⟩:W).toList))=Q:=WK h9;have h9r:((((Qt 32 line).length:Y)==(3:Y)))=Q:=JK h9;have h9rd:=eq_of_beq h9r;refine sn Qa [0,4,5,6] [60000] p0 <| Qb <| wT 5 0 (.own Q 896) (Qt 32 line) (λhw11 hl12=> ?_)
  have hx10:=ng (Qt 32 line) 2;refine tn Qa [0,4,5,6,28] [60000] (pG 1 2 hx10 p0) <| ck ((nth (Qt 32 line) 2).toList==(⟨#[115,116,114,105,110,103]⟩:W).toList) (λh13=> ?_) (λh13=> ?_)
  ·refine qu Qa [(6,.i 2)] [15] [] [] p0 ?_;have hx14:=ng (Qt 32 line) 1;refine wB 60000 0 (.own Q 40) b1 (λhw15 hl16=> ?_);refine sU Qa Yo [] [5,6] [(60000, [.slc (.own Q 2624) 2 ((eL b1)++ [[.s (nth (Qt 32 line) 1),.i 2]]),.o 41 b2,.i b3,.o 43 b4])] [60000] (pG 7 1 hx14 (pa b1 [(((nth (Qt 32 line) 1),2):Y7)] p0)) <| eqn [] [] [(60000, [.o 2624 (b1++ [(((nth (Qt 32 line) 1),2):Y7)]),.o 41 b2,.i b3,.o 43 b4])] [60000] (by rw[show ((eL b1)++ [[.s (nth (Qt 32 line) 1),.i 2]])=(eL (b1++ [(((nth (Qt 32 line) 1),2):Y7)])) from Jc (rfl) (rfl)];first | done | kernel_rfl) ?_
   refine sn Qa [0,4] [60000] p0 <| Qd ?_
   have hE17:Ji b1 b2 b3 b4 line=(Q,b1++ [(((nth (Qt 32 line) 1),2):Y7)],b2,b3,b4):=Q9 h9 (Q9 h13 (rfl));exact SW [] (F (λz=>(.b z.1:AV)) hE17.symm) (F (λz=>([.o 40 z.2.1,.o 41 z.2.2.1,.i z.2.2.2.1,.o 43 z.2.2.2.2]:N C)) hE17.symm)
  refine Qf ?_;have hx18:=ng (Qt 32 line) 1;refine wB 60000 0 (.own Q 40) b1 (λhw19 hl20=> ?_);refine tU Qa Yo [] [5,15] [(60000, [.slc (.own Q 2624) 2 ((eL b1)++ [[.s (nth (Qt 32 line) 1),.i 1]]),.o 41 b2,.i b3,.o 43 b4])] [60000] (pG 7 1 hx18 (pa b1 [(((nth (Qt 32 line) 1),1):Y7)] p0)) <| eqn [] [] [(60000, [.o 2624 (b1++ [(((nth (Qt 32 line) 1),1):Y7)]),.o 41 b2,.i b3,.o 43 b4])] [60000] (by rw[show ((eL b1)++ [[.s (nth (Qt 32 line) 1),.i 1]])=(eL (b1++ [(((nth (Qt 32 line) 1),1):Y7)])) from Jc (rfl) (rfl)];first | done | kernel_rfl) ?_
  refine sn Qa [0,4] [60000] p0 <| Qd ?_
  have hE21:Ji b1 b2 b3 b4 line=(Q,b1++ [(((nth (Qt 32 line) 1),1):Y7)],b2,b3,b4):=Q9 h9 (Qj h13 (rfl));exact SW [] (F (λz=>(.b z.1:AV)) hE21.symm) (F (λz=>([.o 40 z.2.1,.o 41 z.2.2.1,.i z.2.2.2.1,.o 43 z.2.2.2.2]:N C)) hE21.symm)
 refine Qb <| jn [(45,.b (((nth (Qt 32 line) 0).toList==(⟨#[110,101,120,116]⟩:W).toList)&&(((Qt 32 line).length:Y)==(2:Y))))] [15] [] [] ((nth (Qt 32 line) 0).toList==(⟨#[110,101,120,116]⟩:W).toList) (λh22=> ?_) (λh22=> ?_) ?_
 ·refine wT 5 0 (.own Q 896) (Qt 32 line) (λhw24 hl25=> ?_);have hx23:=ng (Qt 32 line) 0;refine rn Qa [0,4,5,45] [60000] (pG 1 0 hx23 (pt 3 h22 (pl 6 (Qt 32 line) p0))) ?_;exact zA (by rw[h22]<;>kernel_rfl)
 ·refine wT 5 0 (.own Q 896) (Qt 32 line) (λhw27 hl28=> ?_);have hx26:=ng (Qt 32 line) 0;refine rn Qa [0,4,5,45] [60000] (pG 1 0 hx26 (pf 3 h22 p0)) ?_;exact zA (by rw[h22]<;>kernel_rfl)
 refine ck (((nth (Qt 32 line) 0).toList==(⟨#[110,101,120,116]⟩:W).toList)&&(((Qt 32 line).length:Y)==(2:Y))) (λh29=> ?_) (λh29=> ?_)
 ·have h29l:(((nth (Qt 32 line) 0).toList==(⟨#[110,101,120,116]⟩:W).toList))=Q:=WK h29;have h29r:((((Qt 32 line).length:Y)==(2:Y)))=Q:=JK h29;have h29rd:=eq_of_beq h29r;refine wT 5 0 (.own Q 896) (Qt 32 line) (λhw31 hl32=> ?_);have hx30:=ng (Qt 32 line) 1;refine sn Qa [0,4,7,8] [60000] (pG 1 1 hx30 (pc 3 (Ac (nth (Qt 32 line) 1)) p0)) <| tn Qa [0,4,8] [60000] p0 <| tu Qa [(4,.b ((Qg (nth (Qt 32 line) 1)).2))] [4,5,45] [(60000, [.o 40 b1,.o 41 b2,.i ((Qg (nth (Qt 32 line) 1)).1),.o 43 b4])] [60000] p0 <| Qd ?_
  have hE33:Ji b1 b2 b3 b4 line=((Qg (nth (Qt 32 line) 1)).2,b1,b2,(Qg (nth (Qt 32 line) 1)).1,b4):=Qj h9 (Q9 h29 (rfl));exact SW [] (F (λz=>(.b z.1:AV)) hE33.symm) (F (λz=>([.o 40 z.2.1,.o 41 z.2.2.1,.i z.2.2.2.1,.o 43 z.2.2.2.2]:N C)) hE33.symm)
 refine wT 5 0 (.own Q 896) (Qt 32 line) (λhw35 hl36=> ?_);have hx34:=ng (Qt 32 line) 0;refine sn Qa [0,4,5,68] [60000] (pG 1 0 hx34 p0) <| ck ((nth (Qt 32 line) 0).toList==(⟨#[102,105,108,101]⟩:W).toList) (λh37=> ?_) (λh37=> ?_)
 ·refine tn Qa [0,4,9,10] [9,60000] (pe 1 (Sy (.vw 896) 1 1 1 (Qt 32 line) rfl) (px (Gc (lo:=1) (hi:=(((eL (Qt 32 line)):N (N PV)).length:Y)) (n:=(zF (eL (Qt 32 line)))) (Sz (by omega) (by omega))) (pc 2 (ME (zH 1 (Qt 32 line)) (by have:=(Rm 32 line).1;simp only[yF];omega)) p0))) <| wB 60000 1 (.own Q 41) b2 (λhw38 hl39=> ?_)
  refine tU Qa Yo [(10,.b (((Zx (zH 1 (Qt 32 line)))).2))] [5,45] [(60000, [.o 40 b1,.slc (.own Q 5568) 5 ((eL b2)++ [[.i ((((Zx (zH 1 (Qt 32 line)))).1).1),.i ((((Zx (zH 1 (Qt 32 line)))).1).2.1),.b ((((Zx (zH 1 (Qt 32 line)))).1).2.2.1),.i ((((Zx (zH 1 (Qt 32 line)))).1).2.2.2.1),.h ((((Zx (zH 1 (Qt 32 line)))).1).2.2.2.2)]]),.i b3,.o 43 b4])] [60000] (pa b2 [(((Zx (zH 1 (Qt 32 line)))).1)] p0) <| eqn [] [] [(60000, [.o 40 b1,.o 5568 (b2++ [(((Zx (zH 1 (Qt 32 line)))).1)]),.i b3,.o 43 b4])] [60000] (by rw[show ((eL b2)++ [[.i ((((Zx (zH 1 (Qt 32 line)))).1).1),.i ((((Zx (zH 1 (Qt 32 line)))).1).2.1),.b ((((Zx (zH 1 (Qt 32 line)))).1).2.2.1),.i ((((Zx (zH 1 (Qt 32 line)))).1).2.2.2.1),.h ((((Zx (zH 1 (Qt 32 line)))).1).2.2.2.2)]])=(eL (b2++ [(((Zx (zH 1 (Qt 32 line)))).1)])) from Jc (rfl) (rfl)];first | done | kernel_rfl) ?_
  refine sn Qa [0,4] [60000] p0 <| Qd ?_
  have hE40:Ji b1 b2 b3 b4 line=(((Zx (zH 1 (Qt 32 line)))).2,b1,b2++ [(((Zx (zH 1 (Qt 32 line)))).1)],b3,b4):=Qj h9 (Qj h29 (Q9 h37 (rfl)));exact SW [] (F (λz=>(.b z.1:AV)) hE40.symm) (F (λz=>([.o 40 z.2.1,.o 41 z.2.2.1,.i z.2.2.2.1,.o 43 z.2.2.2.2]:N C)) hE40.symm)
 refine Qb <| mz [(68,.b ((nth (Qt 32 line) 0).toList==(⟨#[102,105,108,101]⟩:W).toList))] [45] [] [] <| jn [(92,.b (((nth (Qt 32 line) 0).toList==(⟨#[100,105,114]⟩:W).toList)&&decide (((Qt 32 line).length:Y)>(2:Y))))] [68] [] [] ((nth (Qt 32 line) 0).toList==(⟨#[100,105,114]⟩:W).toList) (λh41=> ?_) (λh41=> ?_) ?_
 ·refine rn Qa [0,4,5,92] [60000] (pG 1 0 hx34 (pt 3 h41 (pl 6 (Qt 32 line) p0))) ?_;exact zA (by rw[h41]<;>kernel_rfl)
 ·refine rn Qa [0,4,5,92] [60000] (pG 1 0 hx34 (pf 3 h41 p0)) ?_;exact zA (by rw[h41]<;>kernel_rfl)
 refine ck (((nth (Qt 32 line) 0).toList==(⟨#[100,105,114]⟩:W).toList)&&decide (((Qt 32 line).length:Y)>(2:Y))) (λh42=> ?_) (λh42=> ?_)
 ·have h42l:(((nth (Qt 32 line) 0).toList==(⟨#[100,105,114]⟩:W).toList))=Q:=WK h42;have h42r:(decide (((Qt 32 line).length:Y)>(2:Y)))=Q:=JK h42;have h42rd:=uI h42r;refine sn Qa [0,4,5,11,12] [60000] (pe 1 (Sy (.vw 896) 1 2 2 (Qt 32 line) rfl) (px (Gc (lo:=2) (hi:=(((eL (Qt 32 line)):N (N PV)).length:Y)) (n:=(zF (eL (Qt 32 line)))) (Sz (by omega) (by omega))) (pc 2 (Uj (zH 2 (Qt 32 line)) ⟨#[32]⟩ (by first | omega | exact zT (W0 (m:=10) (n:=20) rfl (by assumption) (by omega)) (by decide) | (simp only[Jz,K2,Kr,zE];omega))) (pc 3 (JS (Xl ⟨#[32]⟩ (zH 2 (Qt 32 line)))) p0)))) ?_;have hx43:=ng (Qt 32 line) 1;refine wB 60000 3 (.own Q 43) b4 (λhw44 hl45=> ?_);refine tU Qa Yo [(12,.b (((Yi (Xl ⟨#[32]⟩ (zH 2 (Qt 32 line))))).2))] [5,92] [(60000, [.o 40 b1,.o 41 b2,.i b3,.slc (.own Q 7680) 2 ((eL b4)++ [[.s (nth (Qt 32 line) 1),.h (((Yi (Xl ⟨#[32]⟩ (zH 2 (Qt 32 line))))).1)]])])] [60000] (pG 6 1 hx43 (pa b4 [((nth (Qt 32 line) 1),((Yi (Xl ⟨#[32]⟩ (zH 2 (Qt 32 line))))).1)] p0)) <| eqn [] [] [(60000, [.o 40 b1,.o 41 b2,.i b3,.o 7680 (b4++ [((nth (Qt 32 line) 1),((Yi (Xl ⟨#[32]⟩ (zH 2 (Qt 32 line))))).1)])])] [60000] (by rw[show ((eL b4)++ [[.s (nth (Qt 32 line) 1),.h (((Yi (Xl ⟨#[32]⟩ (zH 2 (Qt 32 line))))).1)]])=(eL (b4++ [((nth (Qt 32 line) 1),((Yi (Xl ⟨#[32]⟩ (zH 2 (Qt 32 line))))).1)])) from Jc (rfl) (rfl)];first | done | kernel_rfl) ?_
  refine sn Qa [0,4] [60000] p0 <| Qd ?_
  have hE46:Ji b1 b2 b3 b4 line=(((Yi (Xl ⟨#[32]⟩ (zH 2 (Qt 32 line))))).2,b1,b2,b3,b4++ [((nth (Qt 32 line) 1),((Yi (Xl ⟨#[32]⟩ (zH 2 (Qt 32 line))))).1)]):=Qj h9 (Qj h29 (Qj h37 (Q9 h42 (rfl))));exact SW [] (F (λz=>(.b z.1:AV)) hE46.symm) (F (λz=>([.o 40 z.2.1,.o 41 z.2.2.1,.i z.2.2.2.1,.o 43 z.2.2.2.2]:N C)) hE46.symm)
 refine Qf <| sn Qa [0,4] [60000] p0 <| Qd ?_
 have hE47:Ji b1 b2 b3 b4 line=(L,b1,b2,b3,b4):=Qj h9 (Qj h29 (Qj h37 (Qj h42 (rfl))));exact SW [] (F (λz=>(.b z.1:AV)) hE47.symm) (F (λz=>([.o 40 z.2.1,.o 41 z.2.2.1,.i z.2.2.2.1,.o 43 z.2.2.2.2]:N C)) hE47.symm)
def J0 (line:W) (s0:Y×(N Ui)):Rd (Qq) (Y×(N Ui)) (N Ui):=(bif decide (s0.1<((((Qc line)).1).length:Y)) then (.next (IntKind.i64.wrap (s0.1+2),s0.2++ [((nth (((Qc line)).1) s0.1.toNat),(((Xp (Qh (((Qc line)).1) (IntKind.i64.wrap (s0.1+1))))).1))])) else (.brk s0.2))
def Zt (x:Qq) (line:W):Qq:=(bif ((Qh (((Qc line)).1) 0).toList==(⟨#[102,105,101,108,100]⟩:W).toList) then (bif ((Qh (((Qc line)).1) 2).toList==(⟨#[105,110,116]⟩:W).toList) then ((x.1.1++ [(((Qh (((Qc line)).1) 1),1):Y7)],x.1.2.1,x.1.2.2),x.2) else ((x.1.1++ [(((Qh (((Qc line)).1) 1),2):Y7)],x.1.2.1,x.1.2.2),x.2)) else (bif ((Qh (((Qc line)).1) 0).toList==(⟨#[110,101,120,116]⟩:W).toList) then ((x.1.1,x.1.2.1,(Y5 (((Qc line)).1) 1)),x.2) else (bif ((Qh (((Qc line)).1) 0).toList==(⟨#[102,105,108,101]⟩:W).toList) then (Out.on (Oo (J0 line) (zF (Qc line).1+1) (5, [])) (λy0=>((x.1.1,x.1.2.1++ [((Y5 (((Qc line)).1) 1),(Y5 (((Qc line)).1) 2),((Qh (((Qc line)).1) 3).toList==(⟨#[115]⟩:W).toList),(Y5 (((Qc line)).1) 4),y0)],x.1.2.2),x.2))) else (bif ((Qh (((Qc line)).1) 0).toList==(⟨#[100,105,114]⟩:W).toList) then (bif decide (((((Qc line)).1).length:Y)>(2:Y)) then (x.1,x.2++ [((Qh (((Qc line)).1) 1),((Y8 (V3 (zH 2 (((Qc line)).1))))).1)]) else (x.1,x.2++ [(((Qh (((Qc line)).1) 1), []):Zj)])) else x))))
theorem Qpc (line:W):(whl (J0 line) (zF (Qc line).1+1) (5, [])).isSome=Q:=
 Qef (λs=>s.1 / 2) (((Qc line).1.length:Y) / 2+1) (λs s' h0 h=>by
  have hw:=(My line).1;unfold J0 at h;by_cases hc:s.1<((Qc line).1.length:Y)
  . rw[uE hc,I] at h;have h:=Rd.next.inj h;rw[←h];have e:IntKind.i64.wrap (s.1+2)=s.1+2:=IntWalk.i64_in _ (by omega);simp only[e];omega
  rw[uA hc,J] at h;cases h) _ _ (by show (0:Y)<=5 / 2;decide) (by show _<=(5:Y) / 2+_;omega)
theorem Qm4 (line:W):∃t,Oo (J0 line) (zF (Qc line).1+1) (5, [])= .brk t:=
 Qag (λs r h=>by
  unfold J0 at h;cases hc:decide (s.1<((Qc line).1.length:Y))<;>rw[hc] at h<;>simp at h) _ _ _ (Nc (Qpc line))
theorem Qf4 (x:Qq) (line:W):(Zt x line).1.1.length<=x.1.1.length+1/\(Zt x line).1.2.1.length<=x.1.2.1.length+1/\(Zt x line).2.length<=x.2.length+1:=by
 obtain ⟨t,ht⟩:=Qm4 line;unfold Zt;rw[ht];simp only[Bool.cond_eq_ite,Out.on]
 repeat' split
 all_goals (first|omega|(simp only[zJ,zG,zK];omega))
theorem FE (x:Qq) (line:W) (h1:zF x.1.1<1073741824) (h2:zF x.1.2.1<1073741824) (h4:zF x.2<1073741824):AVal Tryz.prog 214 [.a [.o 40 x.1.1,.o 41 x.1.2.1,.i x.1.2.2,.o 42 x.2],.s line] (.a [.o 0 ((Zt x line).1.1),.o 1 ((Zt x line).1.2.1),.i ((Zt x line).1.2.2),.o 2 ((Zt x line).2)]):=by
 refine Qei (tt:=tt) Qa Tryz.func214 (fn:=Tryz.f214) rfl (by unfold F9;kernel_rfl) (zQ rfl) rfl λw0 F0 hG=> ?_
 refine sn Qa [1,2,4] [2,4] p0 ?_;have hk1:=My line;refine tn Qa [2,4,5] [2,4] (pc 1 (Mv line) p0) <| Qb <| tu Qa [(2,.p 2 0),(4,.p 4 0),(5,.o 960 (((Qc line)).1)),(19,.s (Qh (((Qc line)).1) 0))] [0,1] [(2, [.o 40 x.1.1,.o 41 x.1.2.1,.i x.1.2.2,.o 42 x.2]),(4, [.e 2,.e 5,.i 0,.e 2])] [] (pc 1 (V2 (((Qc line)).1) 0 (by omega)) p0) <| Qo <| sn Qa [2,4,5,19,20] [2,4] p0 <| ck ((Qh (((Qc line)).1) 0).toList==(⟨#[102,105,101,108,100]⟩:W).toList) (λh2=> ?_) (λh2=> ?_)
 ·refine tn Qa [2,4,5,7] [2,4,7] (pc 1 (V2 (((Qc line)).1) 1 (by omega)) p0) <| Qb <| tu Qa [(7,.p 7 0),(27,.b ((Qh (((Qc line)).1) 2).toList==(⟨#[105,110,116]⟩:W).toList))] [5,19] [(7, [.s (Qh (((Qc line)).1) 1),.i 2])] [] (pc 1 (V2 (((Qc line)).1) 2 (by omega)) p0) <| ck ((Qh (((Qc line)).1) 2).toList==(⟨#[105,110,116]⟩:W).toList) (λh3=> ?_) (λh3=> ?_)
  ·refine rn Qa [2,4,7] [2,4,7] p0 ?_;refine wB 2 0 (.own Q 40) x.1.1 (λhw4 hl5=> ?_);refine qu Qa [] [7,27] [(2, [.slc (.own Q 2176) 2 ((eL x.1.1)++ [[.s (Qh (((Qc line)).1) 1),.i 1]]),.o 41 x.1.2.1,.i x.1.2.2,.o 42 x.2])] [2,7] (pa x.1.1 [(((Qh (((Qc line)).1) 1),1):Y7)] p0) ?_;refine eqn [] [] [(2, [.o 2176 (x.1.1++ [(((Qh (((Qc line)).1) 1),1):Y7)]),.o 41 x.1.2.1,.i x.1.2.2,.o 42 x.2])] [2] (by rw[show ((eL x.1.1)++ [[.s (Qh (((Qc line)).1) 1),.i 1]])=(eL (x.1.1++ [(((Qh (((Qc line)).1) 1),1):Y7)])) from Jc (rfl) (rfl)];first | done | kernel_rfl) ?_;exact sn Qa [4] [4] p0 <| Qd <| pz [] (show Zt x line=_ from Q9 h2 (Q9 h3 (rfl))) (λz=> .a [.o 0 z.1.1,.o 1 z.1.2.1,.i z.1.2.2,.o 2 z.2])
  refine Qf <| wB 2 0 (.own Q 40) x.1.1 (λhw6 hl7=> ?_)
  refine ru Qa [] [7,27] [(2, [.slc (.own Q 2176) 2 ((eL x.1.1)++ [[.s (Qh (((Qc line)).1) 1),.i 2]]),.o 41 x.1.2.1,.i x.1.2.2,.o 42 x.2])] [2,7] (pa x.1.1 [(((Qh (((Qc line)).1) 1),2):Y7)] p0) ?_;refine eqn [] [] [(2, [.o 2176 (x.1.1++ [(((Qh (((Qc line)).1) 1),2):Y7)]),.o 41 x.1.2.1,.i x.1.2.2,.o 42 x.2])] [2] (by rw[show ((eL x.1.1)++ [[.s (Qh (((Qc line)).1) 1),.i 2]])=(eL (x.1.1++ [(((Qh (((Qc line)).1) 1),2):Y7)])) from Jc (rfl) (rfl)];first | done | kernel_rfl) ?_;exact sn Qa [4] [4] p0 <| Qd <| pz [] (show Zt x line=_ from Q9 h2 (Qj h3 (rfl))) (λz=> .a [.o 0 z.1.1,.o 1 z.1.2.1,.i z.1.2.2,.o 2 z.2])
 refine tn Qa [2,4,5,19,37] [2,4] p0 <| ck ((Qh (((Qc line)).1) 0).toList==(⟨#[110,101,120,116]⟩:W).toList) (λh8=> ?_) (λh8=> ?_)
 ·refine qu Qa [] [5,19] [(2, [.o 40 x.1.1,.o 41 x.1.2.1,.i (Y5 (((Qc line)).1) 1),.o 42 x.2])] [2] (pc 1 (Lq (((Qc line)).1) 1 (by omega)) p0) ?_;exact sn Qa [4] [4] p0 <| Qd <| pz [] (show Zt x line=_ from Qj h2 (Q9 h8 (rfl))) (λz=> .a [.o 0 z.1.1,.o 1 z.1.2.1,.i z.1.2.2,.o 2 z.2])
 refine tu Qa [(43,.b ((Qh (((Qc line)).1) 0).toList==(⟨#[102,105,108,101]⟩:W).toList))] [] [] [] p0 <| ck ((Qh (((Qc line)).1) 0).toList==(⟨#[102,105,108,101]⟩:W).toList) (λh9=> ?_) (λh9=> ?_)
 ·refine sn Qa [2,4,5,8] [2,4,8] (pc 1 (Lq (((Qc line)).1) 1 (by omega)) (pc 3 (Lq (((Qc line)).1) 2 (by omega)) (pc 5 (V2 (((Qc line)).1) 3 (by omega)) (pc 8 (Lq (((Qc line)).1) 4 (by omega)) p0)))) <| Qb <| tn Qa [2,4,5,8,9] [2,4,8] p0 <| mz [(8,.p 8 0),(9,.i 5)] [19,43] [(8, [.i (Y5 (((Qc line)).1) 1),.i (Y5 (((Qc line)).1) 2),.b ((Qh (((Qc line)).1) 3).toList==(⟨#[115]⟩:W).toList),.i (Y5 (((Qc line)).1) 4),.e 4])] [] <| blw (λ(s0:Y×(N Ui))=> [(9,.i s0.1)]) [9] (λs0=> [(8, [.i (Y5 (((Qc line)).1) 1),.i (Y5 (((Qc line)).1) 2),.b ((Qh (((Qc line)).1) 3).toList==(⟨#[115]⟩:W).toList),.i (Y5 (((Qc line)).1) 4),.o 147217 s0.2])]) [8] (λ(y0:N Ui)=> []) [5,9] (λy0=> [(8, [.i (Y5 (((Qc line)).1) 1),.i (Y5 (((Qc line)).1) 2),.b ((Qh (((Qc line)).1) 3).toList==(⟨#[115]⟩:W).toList),.i (Y5 (((Qc line)).1) 4),.o 147367 y0])]) [8] (λ(k0:K) (s0:Y×(N Ui))=>whl (J0 line) k0 s0=uB (Oo (J0 line) (zF (Qc line).1+1) (5, []))/\5<=s0.1/\s0.1<=(zF (Qc line).1:Y)+5/\2*(zF s0.2:Y)+5=s0.1) (λ(y0:N Ui)=>(Oo (J0 line) (zF (Qc line).1+1) (5, []))= .brk y0) (zF (Qc line).1+1) (5, []) (L5 [(Q,8,4,Q,320008,4)] [] [] [(320008,147217)] (by kernel_rfl)) ⟨Nc (Qpc line),(by first | omega | rfl | (simp;omega) | (simp;done)),(by first | omega | rfl | (simp;omega) | (simp;done)),(by first | omega | rfl | (simp;omega) | (simp;done))⟩ (λ_ h=>Rg h.1) (λk0 s0 U=> ?_) (λy0 hD0=> ?_)
  ·have hA0_0:=U.2.1;have hA0_1:=U.2.2.1;have hA0_2:=U.2.2.2;have e1:IntKind.i64.wrap (s0.1+1)=s0.1+1:=IntWalk.i64_in _ (by have:=(My line).1;omega);have e2:IntKind.i64.wrap (s0.1+2)=s0.1+2:=IntWalk.i64_in _ (by have:=(My line).1;omega);refine Qb <| sn Qa [2,4,5,8,9,58] [2,4,8] (pl 2 (((Qc line)).1) p0) <| ck (decide (s0.1<((((Qc line)).1).length:Y))) (λh10=> ?_) (λh10=> ?_)
   ·have h10d:=uI h10;refine Qf <| Qb <| Qo <| tn Qa [2,4,5,8,9,10] [2,4,8,10] (pc 3 (V2 (((Qc line)).1) (IntKind.i64.wrap (s0.1+1)) (by omega)) (pc 4 (Oe (Qh (((Qc line)).1) (IntKind.i64.wrap (s0.1+1)))) p0)) <| wT 5 0 (.own Q 960) (((Qc line)).1) (λhw12 hl13=> ?_)
    have hx11:=ng (((Qc line)).1) s0.1.toNat;refine wB 8 4 (.own Q 147217) s0.2 (λhw14 hl15=> ?_);refine qU Qa Yo [] [] [(8, [.i (Y5 (((Qc line)).1) 1),.i (Y5 (((Qc line)).1) 2),.b ((Qh (((Qc line)).1) 3).toList==(⟨#[115]⟩:W).toList),.i (Y5 (((Qc line)).1) 4),.slc (.own Q 4992) 4 ((eL s0.2)++ [[.s (nth (((Qc line)).1) s0.1.toNat),.i ((((Xp (Qh (((Qc line)).1) (IntKind.i64.wrap (s0.1+1))))).1).1),.i ((((Xp (Qh (((Qc line)).1) (IntKind.i64.wrap (s0.1+1))))).1).2.1),.s ((((Xp (Qh (((Qc line)).1) (IntKind.i64.wrap (s0.1+1))))).1).2.2)]])])] [8] (pG 4 s0.1 hx11 (pa s0.2 [((nth (((Qc line)).1) s0.1.toNat),(((Xp (Qh (((Qc line)).1) (IntKind.i64.wrap (s0.1+1))))).1))] p0)) ?_;refine eqn [] [] [(8, [.i (Y5 (((Qc line)).1) 1),.i (Y5 (((Qc line)).1) 2),.b ((Qh (((Qc line)).1) 3).toList==(⟨#[115]⟩:W).toList),.i (Y5 (((Qc line)).1) 4),.o 4992 (s0.2++ [((nth (((Qc line)).1) s0.1.toNat),(((Xp (Qh (((Qc line)).1) (IntKind.i64.wrap (s0.1+1))))).1))])])] [8] (by rw[show ((eL s0.2)++ [[.s (nth (((Qc line)).1) s0.1.toNat),.i ((((Xp (Qh (((Qc line)).1) (IntKind.i64.wrap (s0.1+1))))).1).1),.i ((((Xp (Qh (((Qc line)).1) (IntKind.i64.wrap (s0.1+1))))).1).2.1),.s ((((Xp (Qh (((Qc line)).1) (IntKind.i64.wrap (s0.1+1))))).1).2.2)]])=(eL (s0.2++ [((nth (((Qc line)).1) s0.1.toNat),(((Xp (Qh (((Qc line)).1) (IntKind.i64.wrap (s0.1+1))))).1))])) from Jc (rfl) (rfl)];first | done | kernel_rfl) ?_;refine rn Qa [2,4,5,8,9] [2,4,8] p0 ?_;exact zM (IntKind.i64.wrap (s0.1+2),s0.2++ [((nth (((Qc line)).1) s0.1.toNat),(((Xp (Qh (((Qc line)).1) (IntKind.i64.wrap (s0.1+1))))).1))]) (zP (Xg [(4992,147217)] (by kernel_rfl)) ⟨wn U.1 (Q9 h10 (rfl)),(by first|omega|(simp;omega)),(by first|omega|(simp;omega)),(by first|omega|(simp;omega))⟩)
   exact Q4 <| zM _ (zP (Xg [(147217,147367)] (by kernel_rfl)) (wb U.1 (Qj h10 (rfl))))
  refine wB 2 1 (.own Q 41) x.1.2.1 (λhw16 hl17=> ?_);refine ru Qa [] [8] [(2, [.o 40 x.1.1,.slc (.own Q 5440) 5 ((eL x.1.2.1)++ [[.i (Y5 (((Qc line)).1) 1),.i (Y5 (((Qc line)).1) 2),.b ((Qh (((Qc line)).1) 3).toList==(⟨#[115]⟩:W).toList),.i (Y5 (((Qc line)).1) 4),.h y0]]),.i x.1.2.2,.o 42 x.2])] [2,8] (pa x.1.2.1 [((Y5 (((Qc line)).1) 1),(Y5 (((Qc line)).1) 2),((Qh (((Qc line)).1) 3).toList==(⟨#[115]⟩:W).toList),(Y5 (((Qc line)).1) 4),y0)] p0) ?_;refine eqn [] [] [(2, [.o 40 x.1.1,.o 5440 (x.1.2.1++ [((Y5 (((Qc line)).1) 1),(Y5 (((Qc line)).1) 2),((Qh (((Qc line)).1) 3).toList==(⟨#[115]⟩:W).toList),(Y5 (((Qc line)).1) 4),y0)]),.i x.1.2.2,.o 42 x.2])] [2] (by rw[show ((eL x.1.2.1)++ [[.i (Y5 (((Qc line)).1) 1),.i (Y5 (((Qc line)).1) 2),.b ((Qh (((Qc line)).1) 3).toList==(⟨#[115]⟩:W).toList),.i (Y5 (((Qc line)).1) 4),.h y0]])=(eL (x.1.2.1++ [((Y5 (((Qc line)).1) 1),(Y5 (((Qc line)).1) 2),((Qh (((Qc line)).1) 3).toList==(⟨#[115]⟩:W).toList),(Y5 (((Qc line)).1) 4),y0)])) from Jc (rfl) (rfl)];first | done | kernel_rfl) ?_;exact sn Qa [4] [4] p0 <| Qd <| pz [] (show Zt x line=_ from Qj h2 (Qj h8 (Q9 h9 (Vp hD0 (rfl))))) (λz=> .a [.o 0 z.1.1,.o 1 z.1.2.1,.i z.1.2.2,.o 2 z.2])
 refine sn Qa [2,4,5,88] [2,4] p0 <| ck ((Qh (((Qc line)).1) 0).toList==(⟨#[100,105,114]⟩:W).toList) (λh18=> ?_) (λh18=> ?_)
 ·refine tn Qa [2,4,5,12] [2,4,12] (pc 1 (V2 (((Qc line)).1) 1 (by omega)) p0) <| Qb <| tu Qa [(12,.p 12 0),(95,.b (decide (((((Qc line)).1).length:Y)>(2:Y))))] [19,43] [(12, [.s (Qh (((Qc line)).1) 1),.e 7])] [] (pl 1 (((Qc line)).1) p0) <| ck (decide (((((Qc line)).1).length:Y)>(2:Y))) (λh19=> ?_) (λh19=> ?_)
  ·have h19d:=uI h19;refine wT 5 0 (.own Q 960) (((Qc line)).1) (λhw20 hl21=> ?_);refine rn Qa [2,4,12] [2,4,12] (pe 1 (Sy (.vw 960) 1 2 2 (((Qc line)).1) rfl) (px (Gc (lo:=2) (hi:=(((eL (((Qc line)).1)):N (N PV)).length:Y)) (n:=(zF (eL (((Qc line)).1)))) (Sz (by omega) (by omega))) (pc 2 (QS (zH 2 (((Qc line)).1)) (by first | exact (My _).1 | (simp only[yF];have:=(My line).1;omega)) (by first | exact (My _).2 | exact λy hy=>(My line).2 y (yJ hy))) (pc 3 (JT (V3 (zH 2 (((Qc line)).1)))) p0)))) ?_;refine wB 2 3 (.own Q 42) x.2 (λhw22 hl23=> ?_);refine qu Qa [] [5,12,95] [(2, [.o 40 x.1.1,.o 41 x.1.2.1,.i x.1.2.2,.slc (.own Q 6912) 2 ((eL x.2)++ [[.s (Qh (((Qc line)).1) 1),.h (((Y8 (V3 (zH 2 (((Qc line)).1))))).1)]])])] [2,12] (pa x.2 [((Qh (((Qc line)).1) 1),((Y8 (V3 (zH 2 (((Qc line)).1))))).1)] p0) ?_;refine eqn [] [] [(2, [.o 40 x.1.1,.o 41 x.1.2.1,.i x.1.2.2,.o 6912 (x.2++ [((Qh (((Qc line)).1) 1),((Y8 (V3 (zH 2 (((Qc line)).1))))).1)])])] [2] (by rw[show ((eL x.2)++ [[.s (Qh (((Qc line)).1) 1),.h (((Y8 (V3 (zH 2 (((Qc line)).1))))).1)]])=(eL (x.2++ [((Qh (((Qc line)).1) 1),((Y8 (V3 (zH 2 (((Qc line)).1))))).1)])) from Jc (rfl) (rfl)];first | done | kernel_rfl) ?_;exact sn Qa [4] [4] p0 <| Qd <| pz [] (show Zt x line=_ from Qj h2 (Qj h8 (Qj h9 (Q9 h18 (Q9 h19 (rfl)))))) (λz=> .a [.o 0 z.1.1,.o 1 z.1.2.1,.i z.1.2.2,.o 2 z.2])
  have h19d:=uC h19;refine Qf <| wB 2 3 (.own Q 42) x.2 (λhw24 hl25=> ?_)
  refine ru Qa [] [5,12,95] [(2, [.o 40 x.1.1,.o 41 x.1.2.1,.i x.1.2.2,.slc (.own Q 6912) 2 ((eL x.2)++ [[.s (Qh (((Qc line)).1) 1),.slc 7 []]])])] [2,12] (pa x.2 [(((Qh (((Qc line)).1) 1), []):Zj)] p0) ?_;refine eqn [] [] [(2, [.o 40 x.1.1,.o 41 x.1.2.1,.i x.1.2.2,.o 6912 (x.2++ [(((Qh (((Qc line)).1) 1), []):Zj)])])] [2] (by rw[show ((eL x.2)++ [[.s (Qh (((Qc line)).1) 1),.slc 7 []]])=(eL (x.2++ [(((Qh (((Qc line)).1) 1), []):Zj)])) from Jc (rfl) (rfl)];first | done | kernel_rfl) ?_;exact sn Qa [4] [4] p0 <| Qd <| pz [] (show Zt x line=_ from Qj h2 (Qj h8 (Qj h9 (Q9 h18 (Qj h19 (rfl)))))) (λz=> .a [.o 0 z.1.1,.o 1 z.1.2.1,.i z.1.2.2,.o 2 z.2])
 exact Qf <| tn Qa [4] [4] p0 <| Qd <| pz [] (show Zt x line=_ from Qj h2 (Qj h8 (Qj h9 (Qj h18 (rfl))))) (λz=> .a [.o 0 z.1.1,.o 1 z.1.2.1,.i z.1.2.2,.o 2 z.2])
def B5 (s2_:Z) (k0:K) (a0:W) (_:uD):Rd (G) (uD) (uD):=(bif (!(a0.toList==(nth s2_ k0).toList)) then (.ret L) else (.next ()))
def B6 (_:K) (_:uD):uD:=()
def K8 (s1_:Z) (s2_:Z):G:=(bif ((s1_.length:Y) !=(s2_.length:Y)) then L else (Out.on (X4 (B5 s2_) B6 s1_ 0 ()) (λ_=>Q)))
theorem G3 (s1_:Z) (s2_:Z):ACalls Tryz.prog 53 [.h s1_,.h s2_] (.b (K8 s1_ s2_)):=by
 refine en Qa Tryz.func53 λw0 F0 hG=> ?_
 refine sn Qa [0,1,4] [] p0 <| Qb <| tn Qa [0,1,4,10] [] (pl 1 s1_ (pl 3 s2_ p0)) <| ck ((s1_.length:Y) !=(s2_.length:Y)) (λh1=> ?_) (λh1=> ?_)
 ·exact tu Qa [(4,.b L)] [] [] [] p0 <| Qd <| pb [] (Q9 h1 (rfl))
 have h1d:=Uw h1;refine Qf <| Qb <| tu Qa [(4,.b L),(12,.i (s1_.length:Y)),(13,.i 0)] [] [] [] (pl 1 s1_ p0) <| wT 0 0 .sh s1_ (λhw2 hl3=> ?_)
 refine R2 (B5 s2_) B6 s1_ () (λk0 _=> [(13,.i (k0:Y))]) [13] (λ_=> []) [0,1,12,13] wf0 (λk0 s0 O U=> ?_) (λk0 s0 O U=> ?_) (λy0 hD0=> ?_)
 ·obtain ⟨a0,V⟩:=Xh (l:=s1_) (i:=k0) O;refine su Qa [(14,.b Q)] [] [] [] (pe 0 (zB ((k0:Y)<(s1_.length:Y))) p0) <| Qb <| ckT <| Qf <| Qb <| Qo <| sn Qa [0,1,4,5,12,13] [] p0 <| wT 1 0 .sh s2_ (λhw5 hl6=> ?_)
  have hx4:=ng s2_ k0;refine tN Qa Yo [0,1,4,12,13,24] [] (pn 2 V (pn 6 hx4 p0)) <| ck (!(a0.toList==(nth s2_ k0).toList)) (λh7=> ?_) (λh7=> ?_)
  ·refine tu Qa [] [14] [] [] p0 <| Qd ?_
   have hr8:(X4 (B5 s2_) B6 s1_ 0 ())= .ret L:=Ka V (Q9 h7 (rfl)) U;exact pb [] (Qj h1 (On hr8))
  refine Qf <| qu Qa [(13,.i ((k0+1:K):Y))] [13,14] [] [] (pe 0 (Jl (Qn k0 (by omega))) p0) ?_
  exact xw _ (Qs V (Qj h7 (rfl)) U)
 ·exact sn Qa [0,1,4,12,13,14] [] (pe 0 (zC ((k0:Y)<(s1_.length:Y))) p0) <| Qb <| ckF <| Q4 <| xw _ (Xj O (rfl) U)
 exact sn Qa [4] [] p0 <| Qd <| pb [] (Qj h1 (Vp hD0 (rfl)))
def Wu (_:K) (a0:W) (s0:Qq):Rd (Qq×G) (Qq) (Qq):=(lt (Ji s0.1.1 s0.1.2.1 s0.1.2.2 s0.2 a0) (λx3=>(bif (!x3.1) then (.ret ((([], [],0), []),L)) else (.next ((x3.2.1,x3.2.2.1,x3.2.2.2.1),x3.2.2.2.2)))))
def Hq (_:K) (s0:Qq):Qq:=s0
def Xb (lines:Z):Qq×G:=(Out.on (X4 Wu Hq lines 0 (([], [],0), [])) (λy0=>(bif ((!(Ql y0))|| (!(K8 (Q3 y0) lines))) then ((([], [],0), []),L) else (y0,Q))))
theorem Rr (lines:Z) (hl:∀y,y∈lines->zD y<=1073741000):ACalls Tryz.prog 185 [.h lines] (.tup [(Q, [.o 0 ((((Xb lines)).1).1.1),.o 1 ((((Xb lines)).1).1.2.1),.i ((((Xb lines)).1).1.2.2),.o 2 ((((Xb lines)).1).2)]),(L, [.b (((Xb lines)).2)])]):=by
 refine en Qa Tryz.func185 λw0 F0 hG=> ?_
 refine sn Qa [0,2,3] [2] p0 <| tn Qa [0,2,3,4] [2,4] p0 <| Qb <| tu Qa [(2,.p 2 0),(3,.b L),(4,.p 4 0),(8,.h lines),(9,.i (lines.length:Y)),(10,.i 0)] [] [(2, [.e 2,.e 5,.i 0,.e 2]),(4, [.e 2,.e 5,.i 0,.e 2])] [] (pl 1 lines p0) <| wT 0 0 .sh lines (λhw1 hl2=> ?_)
 refine JM Wu Hq lines (([], [],0), []) (λk0 _=> [(10,.i (k0:Y))]) [10] (λ_ s0=> [(4, [.o 147211 s0.1.1,.o 147212 s0.1.2.1,.i s0.1.2.2,.o 147214 s0.2])]) [4] (λ_=> []) [8,9,10] (λy0=> [(4, [.o 147361 y0.1.1,.o 147362 y0.1.2.1,.i y0.1.2.2,.o 147364 y0.2])]) [4] (λk0 s0=>zF s0.1.1<=k0/\zF s0.1.2.1<=k0/\zF s0.2<=k0) (L5 [(Q,4,0,Q,320008,2),(Q,4,1,Q,320009,5),(Q,4,3,Q,320010,2)] [] [] [(320008,147211),(320009,147212),(320010,147214)] (by kernel_rfl)) ⟨(by exact zZ _),(by exact zZ _),(by exact zZ _)⟩ (λk0 s0 O U=> ?_) (λk0 s0 O U=> ?_) (λy0 hD0=> ?_)
 ·have hA0_0:=U.2.1;have hA0_1:=U.2.2.1;have hA0_2:=U.2.2.2;obtain ⟨a0,V⟩:=Xh (l:=lines) (i:=k0) O;refine su Qa [(11,.b Q)] [] [] [] (pe 0 (zB ((k0:Y)<(lines.length:Y))) p0) <| Qb <| ckT <| Qf <| Qb <| Qo <| su Qa [(6,.s a0)] [11] [] [] (pn 0 V p0) ?_
  obtain ⟨x3,hx3⟩:=nm (Ji s0.1.1 s0.1.2.1 s0.1.2.2 s0.2 a0);have hqx3:=Qf3 s0.1.1 s0.1.2.1 s0.1.2.2 s0.2 a0;rw[hx3] at hqx3;refine sn Qa [0,2,3,4,8,9,10,16] [2,4] (po 1 (.give uF (.b x3.1) [.o 40 x3.2.1,.o 41 x3.2.2.1,.i x3.2.2.2.1,.o 43 x3.2.2.2.2]) (px (Iu (hx3▸Qby s0.1.1 s0.1.2.1 s0.1.2.2 s0.2 a0 (hl _ (zU V)) (by omega) (by omega) (by omega))) p0)) <| ck (!x3.1) (λh4=> ?_) (λh4=> ?_)
  ·refine tn Qa [0,2,3,4,8,9,10] [2,4] p0 <| opn [(Q,2,0,Q,384000,2),(Q,2,1,Q,384001,5),(Q,2,3,Q,384002,2)] ?_
   refine Qd ?_;have hr5:(X4 Wu Hq lines 0 (([], [],0), []))= .ret ((([], [],0), []),L):=Ka V (by exact L4 hx3 (Q9 h4 (rfl))) U.1;exact pz [] (show Xb lines=_ from On hr5) (λz=> .tup [(Q, [.o 0 z.1.1.1,.o 1 z.1.1.2.1,.i z.1.1.2.2,.o 2 z.1.2]),(L, [.b z.2])])
  refine Qf <| qn Qa [0,2,3,4,8,9,10] [2,4] (pe 0 (Jl (Qn k0 (by omega))) p0) ?_
  exact zM ((x3.2.1,x3.2.2.1,x3.2.2.2.1),x3.2.2.2.2) (zP (Xg [(1000,147211),(1001,147212),(1003,147214)] (by kernel_rfl)) ⟨Qs V (L4 hx3 (Qj h4 (rfl))) U.1,(by first|omega|(dsimp only;omega)),(by first|omega|(dsimp only;omega)),(by first|omega|(dsimp only;omega))⟩)
 ·have hA0_0:=U.2.1;have hA0_1:=U.2.2.1;have hA0_2:=U.2.2.2;exact su Qa [(11,.b L)] [] [] [] (pe 0 (zC ((k0:Y)<(lines.length:Y))) p0) <| Qb <| ckF <| Q4 <| zM _ (zP (Xg [(147211,147361),(147212,147362),(147214,147364)] (by kernel_rfl)) (Xj O (rfl) U.1))
 refine Qb <| Qb <| jn [(28,.b ((!(Ql y0))|| (!(K8 (Q3 y0) lines))))] [0] [] [] (!(Ql y0)) (λh6=> ?_) (λh6=> ?_) ?_
 ·have h6n:(Ql y0)=L:=Vt h6;refine rn Qa [2,3,4,28] [2,4] (pc 1 (cb h6n (Ws y0)) (pe 2 (show .b (!L)= .b Q from rfl) p0)) ?_;exact zA (by rw[h6]<;>kernel_rfl)
 ·have h6n:(Ql y0)=Q:=Zz h6;refine rn Qa [2,3,4,28] [2,4] (pc 1 (cb h6n (Ws y0)) (pe 2 (show .b (!Q)= .b L from rfl) (pc 5 (H7 y0) (pc 7 (G3 (Q3 y0) lines) p0)))) ?_;exact zA (by rw[h6]<;>kernel_rfl)
 refine ck ((!(Ql y0))|| (!(K8 (Q3 y0) lines))) (λh7=> ?_) (λh7=> ?_)
 ·refine su Qa [] [28] [] [] p0 <| opn [(Q,2,0,Q,384000,2),(Q,2,1,Q,384001,5),(Q,2,3,Q,384002,2)] ?_
  exact Qd <| pz [] (show Xb lines=_ from Vp hD0 (Q9 h7 (rfl))) (λz=> .tup [(Q, [.o 0 z.1.1.1,.o 1 z.1.1.2.1,.i z.1.1.2.2,.o 2 z.1.2]),(L, [.b z.2])])
 exact Qf <| sn Qa [2,3] [2] p0 <| Qd <| pz [] (show Xb lines=_ from Vp hD0 (Qj h7 (rfl))) (λz=> .tup [(Q, [.o 0 z.1.1.1,.o 1 z.1.1.2.1,.i z.1.1.2.2,.o 2 z.1.2]),(L, [.b z.2])])
def Hr (_:K) (a0:W) (s0:Qq):Rd (Qq×G) (Qq) (Qq):=(lt (Zt s0 a0) (λx3=>(.next x3)))
def B7 (_:K) (s0:Qq):Qq:=s0
def Xq (lines:Z):Qq×G:=(Out.on (X4 Hr B7 lines 0 (([], [],0), [])) (λy0=>(bif ((!(Q7 y0))|| (!(Ah (Xz y0) lines))) then ((([], [],0), []),L) else (y0,Q))))
theorem Rs (lines:Z) (hl:∀y,y∈lines->zD y<=1073741000):ACalls Tryz.prog 166 [.h lines] (.tup [(Q, [.o 0 ((((Xq lines)).1).1.1),.o 1 ((((Xq lines)).1).1.2.1),.i ((((Xq lines)).1).1.2.2),.o 2 ((((Xq lines)).1).2)]),(L, [.b (((Xq lines)).2)])]):=by
 refine en Qa Tryz.func166 λw0 F0 hG=> ?_
 refine sn Qa [0,2,3] [2] p0 <| tn Qa [0,2,3,4] [2,4] p0 <| Qb <| tu Qa [(2,.p 2 0),(3,.b L),(4,.p 4 0),(5,.i 0)] [] [(2, [.e 2,.e 5,.i 0,.e 2]),(4, [.e 2,.e 5,.i 0,.e 2])] [] p0 <| wT 0 0 .sh lines (λhw1 hl2=> ?_)
 refine JM Hr B7 lines (([], [],0), []) (λk0 _=> [(5,.i (k0:Y))]) [5] (λ_ s0=> [(2, [.slc (.own Q 147205) 2 [],.e 5,.i 0,.e 2]),(4, [.o 147209 s0.1.1,.o 147210 s0.1.2.1,.i s0.1.2.2,.o 147212 s0.2])]) [2,4] (λ_=> []) [5] (λy0=> [(2, [.slc (.own Q 147355) 2 [],.e 5,.i 0,.e 2]),(4, [.o 147359 y0.1.1,.o 147360 y0.1.2.1,.i y0.1.2.2,.o 147362 y0.2])]) [2,4] (λk0 s0=>zF s0.1.1<=k0/\zF s0.1.2.1<=k0/\zF s0.2<=k0) (L5 [(Q,2,0,Q,320008,2),(Q,4,0,Q,320009,2),(Q,4,1,Q,320010,5),(Q,4,3,Q,320011,2)] [] [] [(320008,147205),(320009,147209),(320010,147210),(320011,147212)] (by kernel_rfl)) ⟨(by exact zZ _),(by exact zZ _),(by exact zZ _)⟩ (λk0 s0 O U=> ?_) (λk0 s0 O U=> ?_) (λy0 hD0=> ?_)
 ·have hA0_0:=U.2.1;have hA0_1:=U.2.2.1;have hA0_2:=U.2.2.2;obtain ⟨a0,V⟩:=Xh (l:=lines) (i:=k0) O;refine Qb <| su Qa [(10,.b Q)] [] [] [] (pl 2 lines (pe 3 (zB ((k0:Y)<(lines.length:Y))) p0)) <| ckT <| Qf <| Qb <| Qo ?_
  obtain ⟨x3,hx3⟩:=nm ((Zt s0 a0));have hqx3:=Qf4 s0 a0;rw[hx3] at hqx3;refine rN Qa Yo [0,2,3,4,5] [2,4] (pn 3 V (po 5 (.giv [147209,147210,147212] (.a [.o 0 x3.1.1,.o 1 x3.1.2.1,.i x3.1.2.2,.o 2 x3.2])) (px (SN (hx3▸FE s0 a0 (by omega) (by omega) (by omega))) p0))) ?_;refine qn Qa [0,2,3,4,5] [2,4] (pe 1 (Jl (Qn k0 (by omega))) p0) ?_;exact zM x3 (zP (Xg [(1152,147209),(1153,147210),(1154,147212)] (by kernel_rfl)) ⟨Qs V (L4 hx3 (rfl)) U.1,(by first|omega|(dsimp only;omega)),(by first|omega|(dsimp only;omega)),(by first|omega|(dsimp only;omega))⟩)
 ·have hA0_0:=U.2.1;have hA0_1:=U.2.2.1;have hA0_2:=U.2.2.2;exact Qb <| su Qa [(10,.b L)] [] [] [] (pl 2 lines (pe 3 (zC ((k0:Y)<(lines.length:Y))) p0)) <| ckF <| Q4 <| zM _ (zP (Xg [(147205,147355),(147209,147359),(147210,147360),(147212,147362)] (by kernel_rfl)) (Xj O (rfl) U.1))
 refine Qb <| Qb <| jn [(28,.b ((!(Q7 y0))|| (!(Ah (Xz y0) lines))))] [0] [] [] (!(Q7 y0)) (λh4=> ?_) (λh4=> ?_) ?_
 ·have h4n:(Q7 y0)=L:=Vt h4;refine rn Qa [2,3,4,28] [2,4] (pc 1 (cb h4n (Ju y0)) (pe 2 (show .b (!L)= .b Q from rfl) p0)) ?_;exact zA (by rw[h4]<;>kernel_rfl)
 ·have h4n:(Q7 y0)=Q:=Zz h4;refine rn Qa [2,3,4,28] [2,4] (pc 1 (cb h4n (Ju y0)) (pe 2 (show .b (!Q)= .b L from rfl) (pc 5 (H8 y0) (pc 7 (Sf (Xz y0) lines) p0)))) ?_;exact zA (by rw[h4]<;>kernel_rfl)
 refine ck ((!(Q7 y0))|| (!(Ah (Xz y0) lines))) (λh5=> ?_) (λh5=> ?_)
 ·refine sn Qa [2,3,4] [2,4] p0 <| opn [(Q,2,0,Q,384000,2),(Q,2,1,Q,384001,5),(Q,2,3,Q,384002,2)] ?_
  exact Qd <| pz [] (show Xq lines=_ from Vp hD0 (Q9 h5 (rfl))) (λz=> .tup [(Q, [.o 0 z.1.1.1,.o 1 z.1.1.2.1,.i z.1.1.2.2,.o 2 z.1.2]),(L, [.b z.2])])
 exact Qf <| sn Qa [2,3] [2] p0 <| Qd <| pz [] (show Xq lines=_ from Vp hD0 (Qj h5 (rfl))) (λz=> .tup [(Q, [.o 0 z.1.1.1,.o 1 z.1.1.2.1,.i z.1.1.2.2,.o 2 z.1.2]),(L, [.b z.2])])
theorem FF (s:W):∀(rest:N uG) (k b:K) (o:N W) (cur:N uG),s.data.toList.drop k=rest->b<=k->k<=s.size->cur=(s.data.toList.drop b).take (k-b)->10∉cur->
 Ks (E0 s) Ik rest.length k (o,(b:Y))= .brk (o++((UC 10 (cur++rest)).map Bp).dropLast)
 | [],k,b,o,cur,_,_,_,_,hc=>by
   rw[zW,RB hc];simp[Ks,Ik]
 | c ::rest,k,b,o,cur,hr,hb,hk,hcur,hc=>by
   obtain ⟨hx,hd,hlt⟩:=Gm hr;rw[D3] at hlt;have hl:cur.length=k-b:=by rw[hcur,List.length_take,yF,D3];omega
   rw[zG]
   have hf:E0 s k (o,(b:Y))=(bif ((c.toNat:Y)==(10:Y)) then (.next (o++ [Bp cur],((k+1:K):Y))) else (.next (o,(b:Y)))):=by
    unfold E0;rw[Mx hx];simp only[yD];rw[Py,←hcur]
   by_cases h10:c=10
   . subst h10;rw[show (((10:uG).toNat:Y)==(10:Y))=Q from rfl,I] at hf;rw[Mc hf,FF s rest (k+1) (k+1) _ [] hd (yI _) (by omega) (by rw[Nat.sub_self];rfl) (by simp),FA rest hc,zL,List.nil_append];obtain ⟨q,qs,hq⟩:=UD 10 rest;rw[hq];rfl
   have h1:((c.toNat:Y)==(10:Y))=L:=by
    cases hz:((c.toNat:Y)==(10:Y)) with
    | false=>rfl
    | true=>exact absurd (UInt8.toNat_inj.1 (show c.toNat=(10:uG).toNat by have:=eq_of_beq hz;have e:(10:uG).toNat=10:=rfl;omega)) h10
   rw[h1,J] at hf;rw[Mc hf,FF s rest (k+1) b o (cur++ [c]) hd (by omega) (by omega) ?_ ?_,zL,List.singleton_append]
   . have:(s.data.toList.drop b)[k-b]? =uB c:=by rw[List.getElem?_drop,show b+(k-b)=k by omega];exact hx
     rw[show k+1-b=(k-b)+1 by omega,List.take_add_one,this,←hcur];rfl
   exact λhm=>(yE.1 hm).elim hc λh=>h10 (zV.1 h).symm
theorem Qah (s:W):Y0 s=(Qt 10 s).dropLast:=by
 unfold Y0;have h:=FF s s.data.toList 0 0 [] [] rfl (yI _) (zZ _) rfl (by simp);rw[D3] at h;rw[show zR (zD s:Y)=s.size by omega,show (([]:N W),(0:Y))=([],((0:K):Y)) from rfl,h];rfl
theorem Qjj {s:W} {n:K} (h:s.size<=n):∀y,y∈Y0 s->y.size<=n:=λy hy=>by
 rw[Qah] at hy;have:=(Rm 10 s).2 y ((List.dropLast_sublist _).subset hy);omega
open GoE (enc wide)
def Qr (s_:W):Y×Qq×G:=(bif decide (((Qt 10 s_).length:Y)<(2:Y)) then (0,(([], [],0), []),L) else (bif ((!((Qg (nth (Qt 10 s_) 0)).2))|| ((!(((Xb (zH 1 (zX (((Qt 10 s_).length:Y)-1).toNat (Qt 10 s_))))).2))|| (!((Wm ((Qg (nth (Qt 10 s_) 0)).1) (((Xb (zH 1 (zX (((Qt 10 s_).length:Y)-1).toNat (Qt 10 s_))))).1)).toList==s_.toList)))) then (0,(([], [],0), []),L) else ((Qg (nth (Qt 10 s_) 0)).1,(((Xb (zH 1 (zX (((Qt 10 s_).length:Y)-1).toNat (Qt 10 s_))))).1),Q)))
theorem Og (s_:W) (hs:zD s_<=1073741000):ACalls Tryz.prog 138 [.s s_] (.tup [(L, [.i (((Qr s_)).1)]),(Q, [.o 0 ((((Qr s_)).2.1).1.1),.o 1 ((((Qr s_)).2.1).1.2.1),.i ((((Qr s_)).2.1).1.2.2),.o 2 ((((Qr s_)).2.1).2)]),(L, [.b (((Qr s_)).2.2)])]):=by
 refine en Qa Tryz.func138 λw0 F0 hG=> ?_
 have hsc:=ZC 10 s_;refine sn Qa [0,2,3,4] [3] p0 <| stT 0 0 s_ (λhs1=> ?_)
 refine tn Qa [0,2,3,4,5] [3] (pc 1 (R8 s_ 10 (by omega)) p0) <| Qb <| tu Qa [(2,.i 0),(3,.p 3 0),(4,.b L),(5,.o 704 (Qt 10 s_)),(14,.b (decide (((Qt 10 s_).length:Y)<(2:Y))))] [] [(3, [.e 2,.e 5,.i 0,.e 2])] [] (pl 1 (Qt 10 s_) p0) <| ck (decide (((Qt 10 s_).length:Y)<(2:Y))) (λh2=> ?_) (λh2=> ?_)
 ·refine su Qa [] [14] [] [] p0 <| opn [(Q,3,0,Q,384000,2),(Q,3,1,Q,384001,5),(Q,3,3,Q,384002,2)] ?_
  exact Qd <| pz [] (show Qr s_=_ from Q9 h2 (rfl)) (λz=> .tup [(L, [.i z.1]),(Q, [.o 0 z.2.1.1.1,.o 1 z.2.1.1.2.1,.i z.2.1.1.2.2,.o 2 z.2.1.2]),(L, [.b z.2.2])])
 have h2d:=uC h2;refine Qf <| wT 5 0 (.own Q 704) (Qt 10 s_) (λhw4 hl5=> ?_)
 have hx3:=ng (Qt 10 s_) 0;refine sn Qa [0,2,3,4,5,6,7] [3] (pG 1 0 hx3 (pc 3 (Ac (nth (Qt 10 s_) 0)) p0)) <| tn Qa [0,2,3,4,6,7,8,9] [3,8] (pl 2 (Qt 10 s_) (pe 3 (Jl (IntWalk.i64_in (((Qt 10 s_).length:Y)-1) (by omega))) (pe 4 (Qoi (.vw 704) 1 1 (((Qt 10 s_).length:Y)-1).toNat 1 (((Qt 10 s_).length:Y)-1) (Qt 10 s_) rfl rfl) (px (Gc (lo:=1) (hi:=(((Qt 10 s_).length:Y)-1)) (n:=(zF (eL (Qt 10 s_)))) (Qeb (by omega) (by omega) (by omega))) (pc 5 (Rr (zH 1 (zX (((Qt 10 s_).length:Y)-1).toNat (Qt 10 s_))) (λy hy=>zT ((Rm 10 s_).2 y (List.mem_of_mem_take (yJ hy))) hs)) p0))))) <| Qb <| Qb <| mz [(6,.i ((Qg (nth (Qt 10 s_) 0)).1)),(7,.b ((Qg (nth (Qt 10 s_) 0)).2)),(8,.p 8 0),(9,.b (((Xb (zH 1 (zX (((Qt 10 s_).length:Y)-1).toNat (Qt 10 s_))))).2))] [5,14] [(8, [.o 1856 ((((Xb (zH 1 (zX (((Qt 10 s_).length:Y)-1).toNat (Qt 10 s_))))).1).1.1),.o 1857 ((((Xb (zH 1 (zX (((Qt 10 s_).length:Y)-1).toNat (Qt 10 s_))))).1).1.2.1),.i ((((Xb (zH 1 (zX (((Qt 10 s_).length:Y)-1).toNat (Qt 10 s_))))).1).1.2.2),.o 1858 ((((Xb (zH 1 (zX (((Qt 10 s_).length:Y)-1).toNat (Qt 10 s_))))).1).2)])] [] <| jn [(44,.b ((!((Qg (nth (Qt 10 s_) 0)).2))|| ((!(((Xb (zH 1 (zX (((Qt 10 s_).length:Y)-1).toNat (Qt 10 s_))))).2))|| (!((Wm ((Qg (nth (Qt 10 s_) 0)).1) (((Xb (zH 1 (zX (((Qt 10 s_).length:Y)-1).toNat (Qt 10 s_))))).1)).toList==s_.toList)))))] [0,7,9] [] [] (!((Qg (nth (Qt 10 s_) 0)).2)) (λh6=> ?_) (λh6=> ?_) ?_
 ·have h6n:((Qg (nth (Qt 10 s_) 0)).2)=L:=Vt h6;refine rn Qa [2,3,4,6,8,44] [3,8] (pf 0 h6n (pe 1 (show .b (!L)= .b Q from rfl) p0)) ?_;exact zA (by rw[h6]<;>kernel_rfl)
 ·have h6n:((Qg (nth (Qt 10 s_) 0)).2)=Q:=Zz h6;refine Xx (!(((Xb (zH 1 (zX (((Qt 10 s_).length:Y)-1).toNat (Qt 10 s_))))).2)) (λh7=> ?_) (λh7=> ?_)
  ·have h7n:(((Xb (zH 1 (zX (((Qt 10 s_).length:Y)-1).toNat (Qt 10 s_))))).2)=L:=Vt h7;refine rn Qa [2,3,4,6,8,44] [3,8] (pt 0 h6n (pe 1 (show .b (!Q)= .b L from rfl) (pf 3 h7n (pe 4 (show .b (!L)= .b Q from rfl) p0)))) ?_;exact zA (by rw[h6,h7]<;>kernel_rfl)
  have h7n:(((Xb (zH 1 (zX (((Qt 10 s_).length:Y)-1).toNat (Qt 10 s_))))).2)=Q:=Zz h7;refine rn Qa [2,3,4,6,8,44] [3,8] (pt 0 h6n (pe 1 (show .b (!Q)= .b L from rfl) (pt 3 h7n (pe 4 (show .b (!Q)= .b L from rfl) (pc 9 (JQ ((Qg (nth (Qt 10 s_) 0)).1) (((Xb (zH 1 (zX (((Qt 10 s_).length:Y)-1).toNat (Qt 10 s_))))).1)) p0))))) ?_;exact zA (by rw[h6,h7]<;>kernel_rfl)
 refine ck ((!((Qg (nth (Qt 10 s_) 0)).2))|| ((!(((Xb (zH 1 (zX (((Qt 10 s_).length:Y)-1).toNat (Qt 10 s_))))).2))|| (!((Wm ((Qg (nth (Qt 10 s_) 0)).1) (((Xb (zH 1 (zX (((Qt 10 s_).length:Y)-1).toNat (Qt 10 s_))))).1)).toList==s_.toList)))) (λh8=> ?_) (λh8=> ?_)
 ·refine su Qa [] [44] [] [] p0 <| opn [(Q,3,0,Q,384000,2),(Q,3,1,Q,384001,5),(Q,3,3,Q,384002,2)] ?_
  exact Qd <| pz [] (show Qr s_=_ from Qj h2 (Q9 h8 (rfl))) (λz=> .tup [(L, [.i z.1]),(Q, [.o 0 z.2.1.1.1,.o 1 z.2.1.1.2.1,.i z.2.1.1.2.2,.o 2 z.2.1.2]),(L, [.b z.2.2])])
 exact Qf <| sN Qa Yo [2,3,4] [3] p0 <| Qd <| pz [] (show Qr s_=_ from Qj h2 (Qj h8 (rfl))) (λz=> .tup [(L, [.i z.1]),(Q, [.o 0 z.2.1.1.1,.o 1 z.2.1.1.2.1,.i z.2.1.1.2.2,.o 2 z.2.1.2]),(L, [.b z.2.2])])
def Q8 (s_:W):Y×Qq×G:=(bif (((Y0 s_).length:Y)==(0:Y)) then (0,(([], [],0), []),L) else (bif ((!(((Xq (zH 1 (Y0 s_)))).2))|| (!((A3 (((Xf (nth (Y0 s_) 0))).1) (((Xq (zH 1 (Y0 s_)))).1)).toList==s_.toList))) then (0,(([], [],0), []),L) else (((Xf (nth (Y0 s_) 0))).1,(((Xq (zH 1 (Y0 s_)))).1),Q)))
theorem Oh (s_:W) (hs:zD s_<=1073741000):ACalls Tryz.prog 119 [.s s_] (.tup [(L, [.i (((Q8 s_)).1)]),(Q, [.o 0 ((((Q8 s_)).2.1).1.1),.o 1 ((((Q8 s_)).2.1).1.2.1),.i ((((Q8 s_)).2.1).1.2.2),.o 2 ((((Q8 s_)).2.1).2)]),(L, [.b (((Q8 s_)).2.2)])]):=by
 refine en Qa Tryz.func119 λw0 F0 hG=> ?_
 refine sn Qa [0,2,3,4] [3] p0 <| tn Qa [0,2,3,4,5] [3] (pc 1 (LY s_ (by omega)) p0) <| Qb <| tu Qa [(2,.i 0),(3,.p 3 0),(4,.b L),(5,.o 704 (Y0 s_)),(14,.b (((Y0 s_).length:Y)==(0:Y)))] [] [(3, [.e 2,.e 5,.i 0,.e 2])] [] (pl 1 (Y0 s_) p0) <| ck (((Y0 s_).length:Y)==(0:Y)) (λh1=> ?_) (λh1=> ?_)
 ·refine su Qa [] [14] [] [] p0 <| opn [(Q,3,0,Q,384000,2),(Q,3,1,Q,384001,5),(Q,3,3,Q,384002,2)] ?_
  exact Qd <| pz [] (show Q8 s_=_ from Q9 h1 (rfl)) (λz=> .tup [(L, [.i z.1]),(Q, [.o 0 z.2.1.1.1,.o 1 z.2.1.1.2.1,.i z.2.1.1.2.2,.o 2 z.2.1.2]),(L, [.b z.2.2])])
 have h1d:=X0 h1;refine Qf <| wT 5 0 (.own Q 704) (Y0 s_) (λhw3 hl4=> ?_)
 have hx2:=ng (Y0 s_) 0;refine sn Qa [0,2,3,4,5,6] [3] (pG 1 0 hx2 (pc 3 (La (nth (Y0 s_) 0)) p0)) <| tn Qa [0,2,3,4,6,8,9] [3,8] (pe 1 (Sy (.vw 704) 1 1 1 (Y0 s_) rfl) (px (Gc (lo:=1) (hi:=(((eL (Y0 s_)):N (N PV)).length:Y)) (n:=(zF (eL (Y0 s_)))) (Sz (by omega) (by omega))) (pc 2 (Rs (zH 1 (Y0 s_)) (λy hy=>Qjj hs y (yJ hy))) p0))) <| Qb <| Qb <| mz [(6,.i (((Xf (nth (Y0 s_) 0))).1)),(8,.p 8 0),(9,.b (((Xq (zH 1 (Y0 s_)))).2))] [5,14] [(8, [.o 1664 ((((Xq (zH 1 (Y0 s_)))).1).1.1),.o 1665 ((((Xq (zH 1 (Y0 s_)))).1).1.2.1),.i ((((Xq (zH 1 (Y0 s_)))).1).1.2.2),.o 1666 ((((Xq (zH 1 (Y0 s_)))).1).2)])] [] <| jn [(37,.b ((!(((Xq (zH 1 (Y0 s_)))).2))|| (!((A3 (((Xf (nth (Y0 s_) 0))).1) (((Xq (zH 1 (Y0 s_)))).1)).toList==s_.toList))))] [0,9] [] [] (!(((Xq (zH 1 (Y0 s_)))).2)) (λh5=> ?_) (λh5=> ?_) ?_
 ·have h5n:(((Xq (zH 1 (Y0 s_)))).2)=L:=Vt h5;refine rn Qa [2,3,4,6,8,37] [3,8] (pf 0 h5n (pe 1 (show .b (!L)= .b Q from rfl) p0)) ?_;exact zA (by rw[h5]<;>kernel_rfl)
 ·have h5n:(((Xq (zH 1 (Y0 s_)))).2)=Q:=Zz h5;refine rn Qa [2,3,4,6,8,37] [3,8] (pt 0 h5n (pe 1 (show .b (!Q)= .b L from rfl) (pc 5 (JR (((Xf (nth (Y0 s_) 0))).1) (((Xq (zH 1 (Y0 s_)))).1)) p0))) ?_;exact zA (by rw[h5]<;>kernel_rfl)
 refine ck ((!(((Xq (zH 1 (Y0 s_)))).2))|| (!((A3 (((Xf (nth (Y0 s_) 0))).1) (((Xq (zH 1 (Y0 s_)))).1)).toList==s_.toList))) (λh6=> ?_) (λh6=> ?_)
 ·refine su Qa [] [37] [] [] p0 <| opn [(Q,3,0,Q,384000,2),(Q,3,1,Q,384001,5),(Q,3,3,Q,384002,2)] ?_
  exact Qd <| pz [] (show Q8 s_=_ from Qj h1 (Q9 h6 (rfl))) (λz=> .tup [(L, [.i z.1]),(Q, [.o 0 z.2.1.1.1,.o 1 z.2.1.1.2.1,.i z.2.1.1.2.2,.o 2 z.2.1.2]),(L, [.b z.2.2])])
 exact Qf <| sN Qa Yo [2,3,4] [3] p0 <| Qd <| pz [] (show Q8 s_=_ from Qj h1 (Qj h6 (rfl))) (λz=> .tup [(L, [.i z.1]),(Q, [.o 0 z.2.1.1.1,.o 1 z.2.1.1.2.1,.i z.2.1.1.2.2,.o 2 z.2.1.2]),(L, [.b z.2.2])])
def Yz (d:Nh):Y×Qq×G×G:=(bif (((Qr d.2)).2.2&&((!(((Qr d.1)).2.2))|| decide (((Qr d.2)).1>((Qr d.1)).1))) then (((Qr d.2)).1,(((Qr d.2)).2.1),Q,L) else (((Qr d.1)).1,(((Qr d.1)).2.1),((Qr d.1)).2.2,((Qr d.1)).2.2))
theorem JU (d:Nh) (ha:zD d.1<=1073741000) (hb:zD d.2<=1073741000):ACalls Tryz.prog 90 [.a [.s d.1,.s d.2]] (.tup [(L, [.i (((Yz d)).1)]),(Q, [.o 0 ((((Yz d)).2.1).1.1),.o 1 ((((Yz d)).2.1).1.2.1),.i ((((Yz d)).2.1).1.2.2),.o 2 ((((Yz d)).2.1).2)]),(L, [.b (((Yz d)).2.2.1)]),(L, [.b (((Yz d)).2.2.2)])]):=by
 refine en Qa Tryz.func90 λw0 F0 hG=> ?_
 refine sn Qa [1,2,3,4,5] [1,3] p0 <| tn Qa [1,2,3,4,5,6,7,8] [1,3,7] (pc 2 (Og d.1 (by assumption)) p0) <| tu Qa [(2,.i 0),(3,.p 3 0),(4,.b L),(5,.b L),(6,.i (((Qr d.1)).1)),(7,.p 7 0),(8,.b (((Qr d.1)).2.2)),(9,.i (((Qr d.2)).1)),(10,.p 10 0),(11,.b (((Qr d.2)).2.2))] [0] [(3, [.e 2,.e 5,.i 0,.e 2]),(7, [.o 960 ((((Qr d.1)).2.1).1.1),.o 961 ((((Qr d.1)).2.1).1.2.1),.i ((((Qr d.1)).2.1).1.2.2),.o 962 ((((Qr d.1)).2.1).2)]),(10, [.o 1408 ((((Qr d.2)).2.1).1.1),.o 1409 ((((Qr d.2)).2.1).1.2.1),.i ((((Qr d.2)).2.1).1.2.2),.o 1410 ((((Qr d.2)).2.1).2)])] [] (pc 2 (Og d.2 (by assumption)) p0) <| Qb <| Qb <| jn [(35,.b (((Qr d.2)).2.2&&((!(((Qr d.1)).2.2))|| decide (((Qr d.2)).1>((Qr d.1)).1))))] [11] [] [] (((Qr d.2)).2.2) (λh1=> ?_) (λh1=> ?_) ?_
 ·refine Xx (!(((Qr d.1)).2.2)) (λh2=> ?_) (λh2=> ?_)
  ·have h2n:(((Qr d.1)).2.2)=L:=Vt h2;refine ru Qa [(35,.b Q)] [11] [] [] (pt 0 h1 (pf 2 h2n (pe 3 (show .b (!L)= .b Q from rfl) p0))) ?_;exact zA (by rw[h1,h2]<;>kernel_rfl)
  have h2n:(((Qr d.1)).2.2)=Q:=Zz h2;refine rn Qa [2,3,4,5,6,7,8,9,10,35] [3,7,10] (pt 0 h1 (pt 2 h2n (pe 3 (show .b (!Q)= .b L from rfl) p0))) ?_;exact zA (by rw[h1,h2]<;>kernel_rfl)
 ·refine ru Qa [(35,.b L)] [11] [] [] (pf 0 h1 p0) ?_;exact zA (by rw[h1]<;>kernel_rfl)
 refine ck (((Qr d.2)).2.2&&((!(((Qr d.1)).2.2))|| decide (((Qr d.2)).1>((Qr d.1)).1))) (λh3=> ?_) (λh3=> ?_)
 ·have h3l:(((Qr d.2)).2.2)=Q:=WK h3;have h3r:(((!(((Qr d.1)).2.2))|| decide (((Qr d.2)).1>((Qr d.1)).1)))=Q:=JK h3;exact sN Qa Yo [2,3,4,5,6,7,8] [3,7] p0 <| Qd <| pz [] (show Yz d=_ from Q9 h3 (rfl)) (λz=> .tup [(L, [.i z.1]),(Q, [.o 0 z.2.1.1.1,.o 1 z.2.1.1.2.1,.i z.2.1.1.2.2,.o 2 z.2.1.2]),(L, [.b z.2.2.1]),(L, [.b z.2.2.2])])
 exact Qf <| sN Qa Yo [2,3,4,5] [3] p0 <| Qd <| pz [] (show Yz d=_ from Qj h3 (rfl)) (λz=> .tup [(L, [.i z.1]),(Q, [.o 0 z.2.1.1.1,.o 1 z.2.1.1.2.1,.i z.2.1.1.2.2,.o 2 z.2.1.2]),(L, [.b z.2.2.1]),(L, [.b z.2.2.2])])
def Zn (d:Nh):Y×Qq×G×G:=(bif (((Q8 d.1)).2.2&&((!(((Q8 d.2)).2.2))|| decide (((Q8 d.1)).1>=((Q8 d.2)).1))) then (((Q8 d.1)).1,(((Q8 d.1)).2.1),Q,Q) else (((Q8 d.2)).1,(((Q8 d.2)).2.1),((Q8 d.2)).2.2,L))
theorem HC (d:Nh) (ha:zD d.1<=1073741000) (hb:zD d.2<=1073741000):ACalls Tryz.prog 71 [.a [.s d.1,.s d.2]] (.tup [(L, [.i (((Zn d)).1)]),(Q, [.o 0 ((((Zn d)).2.1).1.1),.o 1 ((((Zn d)).2.1).1.2.1),.i ((((Zn d)).2.1).1.2.2),.o 2 ((((Zn d)).2.1).2)]),(L, [.b (((Zn d)).2.2.1)]),(L, [.b (((Zn d)).2.2.2)])]):=by
 refine en Qa Tryz.func71 λw0 F0 hG=> ?_
 refine sn Qa [1,2,3,4,5] [1,3] p0 <| tn Qa [1,2,3,4,5,6,7,8] [1,3,7] (pc 2 (Oh d.1 (by assumption)) p0) <| tu Qa [(2,.i 0),(3,.p 3 0),(4,.b L),(5,.b L),(6,.i (((Q8 d.1)).1)),(7,.p 7 0),(8,.b (((Q8 d.1)).2.2)),(9,.i (((Q8 d.2)).1)),(10,.p 10 0),(11,.b (((Q8 d.2)).2.2))] [0] [(3, [.e 2,.e 5,.i 0,.e 2]),(7, [.o 960 ((((Q8 d.1)).2.1).1.1),.o 961 ((((Q8 d.1)).2.1).1.2.1),.i ((((Q8 d.1)).2.1).1.2.2),.o 962 ((((Q8 d.1)).2.1).2)]),(10, [.o 1408 ((((Q8 d.2)).2.1).1.1),.o 1409 ((((Q8 d.2)).2.1).1.2.1),.i ((((Q8 d.2)).2.1).1.2.2),.o 1410 ((((Q8 d.2)).2.1).2)])] [] (pc 2 (Oh d.2 (by assumption)) p0) <| Qb <| Qb <| jn [(35,.b (((Q8 d.1)).2.2&&((!(((Q8 d.2)).2.2))|| decide (((Q8 d.1)).1>=((Q8 d.2)).1))))] [8] [] [] (((Q8 d.1)).2.2) (λh1=> ?_) (λh1=> ?_) ?_
 ·refine Xx (!(((Q8 d.2)).2.2)) (λh2=> ?_) (λh2=> ?_)
  ·have h2n:(((Q8 d.2)).2.2)=L:=Vt h2;refine ru Qa [(35,.b Q)] [8] [] [] (pt 0 h1 (pf 2 h2n (pe 3 (show .b (!L)= .b Q from rfl) p0))) ?_;exact zA (by rw[h1,h2]<;>kernel_rfl)
  have h2n:(((Q8 d.2)).2.2)=Q:=Zz h2;refine rn Qa [2,3,4,5,6,7,9,10,11,35] [3,7,10] (pt 0 h1 (pt 2 h2n (pe 3 (show .b (!Q)= .b L from rfl) p0))) ?_;exact zA (by rw[h1,h2]<;>kernel_rfl)
 ·refine ru Qa [(35,.b L)] [8] [] [] (pf 0 h1 p0) ?_;exact zA (by rw[h1]<;>kernel_rfl)
 refine ck (((Q8 d.1)).2.2&&((!(((Q8 d.2)).2.2))|| decide (((Q8 d.1)).1>=((Q8 d.2)).1))) (λh3=> ?_) (λh3=> ?_)
 ·have h3l:(((Q8 d.1)).2.2)=Q:=WK h3;have h3r:(((!(((Q8 d.2)).2.2))|| decide (((Q8 d.1)).1>=((Q8 d.2)).1)))=Q:=JK h3;exact sN Qa Yo [2,3,4,5,9,10,11] [3,10] p0 <| Qd <| pz [] (show Zn d=_ from Q9 h3 (rfl)) (λz=> .tup [(L, [.i z.1]),(Q, [.o 0 z.2.1.1.1,.o 1 z.2.1.1.2.1,.i z.2.1.1.2.2,.o 2 z.2.1.2]),(L, [.b z.2.2.1]),(L, [.b z.2.2.2])])
 exact Qf <| sN Qa Yo [2,3,4,5] [3] p0 <| Qd <| pz [] (show Zn d=_ from Qj h3 (rfl)) (λz=> .tup [(L, [.i z.1]),(Q, [.o 0 z.2.1.1.1,.o 1 z.2.1.1.2.1,.i z.2.1.1.2.2,.o 2 z.2.1.2]),(L, [.b z.2.2.1]),(L, [.b z.2.2.2])])
theorem Qk0 (t:W):∀(n k:K) (s:Y),0<=s->s<10^k->k+n<=10->Ks (Kh t) Hd n k s= .ret (0,L)\/∃y,Ks (Kh t) Hd n k s= .brk y/\0<=y
 | 0,k,s,h0,_,_=> .inr ⟨s,rfl,h0⟩
 | n + 1,k,s,h0,h1,hk=>by
   cases hc:(decide (Z9 t ((k:K):Y)<(48:Y))|| decide (Z9 t ((k:K):Y)>(57:Y))) with
   | true=>
     refine .inl (CP ?_);unfold Kh;rw[hc,I]
   | false=>
     obtain ⟨c1,c2⟩:=bo hc;have c1:=uC c1;have c2:=uC c2;have hp:=PN (c:=Z9 t ((k:K):Y)) h0 h1 (by omega) (by omega) (by omega)
     have hf:Kh t k s= .next (10*s+(Z9 t ((k:K):Y)-48)):=by
      unfold Kh;rw[hc,J,hp.1]
     rw[Mc hf];exact Qk0 t n (k+1) _ hp.2.1 hp.2.2 (by omega)
theorem MF (t:W):∀(rest:N uG) (k acc m:K),t.data.toList.drop k=rest->(acc:Y)<10^k->k+rest.length<=10->Lib.decFrom acc rest=uB m->Ks (Kh t) Hd rest.length k (acc:Y)= .brk (m:Y)
 | [],k,acc,m,_,_,_,h=>by
   obtain rfl:acc=m:=by simpa [Lib.decFrom] using h
   rfl
 | b ::rest,k,acc,m,hr,hlt,hk,h=>by
   obtain ⟨hx,hd,_⟩:=Gm hr;rw[zG] at hk⊢;simp only[Lib.decFrom] at h;cases hv:Lib.digitVal b with
   | none=>rw[hv] at h;cases h
   | some d=>
     rw[hv] at h
     have hb:(48<=b.toNat/\b.toNat<=57)/\b.toNat-48=d:=by
      unfold Lib.digitVal at hv;split at hv
      . rename_i hb;exact ⟨hb,yM hv⟩
      cases hv
     have hs:=Mx hx;have hp:=PN (s:=(acc:Y)) (c:=Z9 t ((k:K):Y)) (by omega) hlt (by omega) (by omega) (by omega)
     have hf:Kh t k (acc:Y)= .next (((acc*10+d:K)):Y):=by
      unfold Kh;rw[uA (show¬Z9 t ((k:K):Y)<48 by omega),uA (show¬Z9 t ((k:K):Y)>57 by omega),Bool.or_false,J,hp.1]
      congr 1
      omega
     rw[Mc hf];exact MF t rest (k+1) _ m hd (by have:=hp.2.2;omega) (by omega) h
theorem Ed (t:W):Xf t=Qg t:=by
 unfold Xf Qg;cases hp:Gl t with
 | some n=>
   obtain ⟨h1,rfl⟩:=QR hp;have h2:=J4 (n:=(n:Y)) (by omega);have hr:=MF (Qz (n:Y)) (Qz (n:Y)).data.toList 0 0 n rfl (by decide) (by rw[D3];omega) (by rw[Br];exact Se n);rw[D3] at hr;rw[uA (show¬(zD (Qz (n:Y)):Y)>10 by omega),J,show zR (zD (Qz (n:Y)):Y)=(Qz (n:Y)).size by omega,show (0:Y)=((0:K):Y) from rfl,hr];simp only[Out.on];rw[uA (show¬(n:Y)>1000000000 by omega),uH];rfl
 | none =>
   cases hc:decide ((zD t:Y)>(10:Y)) with
   | true=>rfl
   | false=>
     have hc:=uC hc;rcases Qk0 t (zR (zD t:Y)) 0 0 (by decide) (by decide) (by omega) with h | ⟨y,h,h0⟩
     . rw[h];rfl
     rw[h];simp only[J,Out.on];cases hy:(decide (y>(1000000000:Y))|| (!((Qz y).toList==t.toList))) with
     | true=>rfl
     | false=>
       obtain ⟨y1,y2⟩:=bo hy;have y1:=uC y1;obtain ⟨m,rfl⟩:=Int.eq_ofNat_of_zero_le h0;rw[YZ (n:=m) (by omega) (Dj (bn y2))] at hp;cases hp
theorem QV {n:Y} (h:0<=n/\n<=1000000000):Qg (Qz n)=(n,Q):=by
 obtain ⟨m,rfl⟩:=Int.eq_ofNat_of_zero_le h.1;unfold Qg;rw[YZ (n:=m) (by omega) rfl]
theorem Qm5:Qx ⟨#[45]⟩=((0,0,⟨#[]⟩),Q):=by kernel_rfl
theorem RF:Qx ⟨#[]⟩=((0,0,⟨#[]⟩),L):=by kernel_rfl
theorem QW (s:W):Xp s=Qx s:=by
 cases hd:(s.toList==(⟨#[45]⟩:W).toList) with
 | true=>
   rw[Dj hd,Qm5];unfold Xp;rw[uH];rfl
 | false =>
   unfold Xp Qx;rw[hd,Ed];simp only[J,yK,I];cases hu:(Qg s).2 with
   | true =>
     simp only[I];have e:Xw (Z5 (Qg s).1)=Q6 (Kn (Qg s).1):=rfl;rw[e];cases hv:Q6 (Kn (Qg s).1) with
     | false=>rfl
     | true=>
       have hf:Zf (Z5 (Qg s).1)=s:=by
        unfold Zf;rw[e,hv]
        have hn:Qz (Qg s).1=s:=by
         unfold Qg at hu⊢;cases hp:Gl s with
         | none=>rw[hp] at hu;cases hu
         | some n=>exact (QR hp).2
        exact hn
       rw[hf,uH];rfl
   | false=>
     simp only[J];have e:Xw (Yy s)=Q6 (Jh s):=rfl;rw[e];cases hv:Q6 (Jh s) with
     | false=>rfl
     | true=>
       have hf:Zf (Yy s)=s:=by
        unfold Zf;rw[e,hv];rfl
       rw[hf,uH];rfl
theorem MG {v:K4} (h:Q6 v=Q) (h0:v.1≠0):(v.1=1/\(0<=v.2.1/\v.2.1<=999)/\v.2.2=⟨#[]⟩)\/(v.1=2/\v.2.1=0/\Xc v.2.2=Q):=by
 cases h1:(v.1==(1:Y)) with
 | true=>
   refine .inl ⟨eq_of_beq h1,EZ h h1, ?_⟩;unfold Q6 at h;rw[eq_of_beq h1] at h;simp only[show ((1:Y)==0)=L from rfl,show ((1:Y)==1)=Q from rfl,I,J,zS] at h;exact Dj h.2
 | false=>
   cases h2:(v.1==(2:Y)) with
   | true=>have:=Qfo h h2;exact .inr ⟨eq_of_beq h2,this.2,this.1⟩
   | false=>
     exfalso;unfold Q6 at h;have e0:(v.1==(0:Y))=L:=by simpa using h0
     rw[e0,h1,h2] at h;cases h
theorem QY {n:Y} (h:0<=n):Word (Qz n):=by
 obtain ⟨m,rfl⟩:=Int.eq_ofNat_of_zero_le h;refine ⟨?_,λb hb=> ?_⟩
 . have h1:=UT m;rw[←Br] at h1;have h2:=D3 (Qz (m:Y));have h3:=List.length_pos_iff.2 h1;show 1<=(Qz (m:Y)).size;omega
 have hb:b∈(Qz (m:Y)).data.toList:=hb;rw[Br] at hb;have:=YY m b hb;omega
theorem CQ {s:W} (h0:1<=s.size) (h:∀k:K,k<s.size->97<=Z9 s (k:Y)/\Z9 s (k:Y)<=122):Word s:=by
 refine ⟨h0,λb hb=> ?_⟩;obtain ⟨i,hi⟩:=yH hb;have hlt:=(List.getElem?_eq_some_iff.1 hi).1;rw[D3] at hlt;have h1:=h i hlt;rw[Mx hi] at h1;omega
theorem FG {s:W} (h:Xc s=Q):Word s:=by
 have hs:=Lp h;refine CQ hs.1 λk hk=> ?_
 unfold Xc at h
 have key:∀(n j:K),Ks (X7 s) Km n j ()= .brk ()->∀i,j<=i->i<j+n->97<=Z9 s (i:Y)/\Z9 s (i:Y)<=122:=by
  intro n
  induction n with
  | zero=>intro j _ i h1 h2;omega
  | succ n ih=>
    intro j hj i h1 h2;cases hc:(decide (Z9 s ((j:K):Y)<(97:Y))|| decide (Z9 s ((j:K):Y)>(122:Y))) with
    | true=>
      have hf:X7 s j ()= .ret L:=by unfold X7;rw[hc,I]
      rw[CP hf] at hj;cases hj
    | false=>
      have hf:X7 s j ()= .next ():=by unfold X7;rw[hc,J]
      rw[Mc hf] at hj;obtain ⟨c1,c2⟩:=bo hc;have c1:=uC c1;have c2:=uC c2;by_cases e:i=j
      . subst e;omega
      exact ih (j+1) hj i (by omega) (by omega)
 cases hf:Ks (X7 s) Km (zR (s.size:Y)) 0 () with
 | brk t=>exact key _ _ hf k (zZ _) (by omega)
 | ret r =>
   exfalso;rw[hf] at h;obtain rfl:r=Q:=h
   have nr:∀n j,Ks (X7 s) Km n j ()≠ .ret Q:=by
    intro n
    induction n with
    | zero=>intro j h;simp[Ks] at h
    | succ n ih=>
      intro j h;cases hc:(decide (Z9 s ((j:K):Y)<(97:Y))|| decide (Z9 s ((j:K):Y)>(122:Y))) with
      | true=>
        have hf:X7 s j ()= .ret L:=by unfold X7;rw[hc,I]
        rw[CP hf] at h;simp at h
      | false=>
        have hf:X7 s j ()= .next ():=by unfold X7;rw[hc,J]
        rw[Mc hf] at h;exact ih _ h
   exact nr _ _ hf
theorem HD {s:W} (h:Q1 s=Q):Word s:=by
 have h1:=EG h;unfold Q1 at h;simp only[zS,uJ] at h;refine CQ (by omega) λk hk=> ?_
 obtain rfl:k=0:=by omega
 exact ⟨h.2.1,h.2.2⟩
theorem Qai {v:K4} (h:Q6 v=Q) (h0:v.1≠0):Word (Xv v):=by
 unfold Xv;rw[h];rcases MG h h0 with ⟨h1,h2,_⟩ | ⟨h1,_,h2⟩
 . rw[h1];exact QY h2.1
 rw[h1];exact FG h2
theorem MH {v:K4} (h:Q6 v=Q) (h0:v.1≠0):Qx (Xv v)=(v,Q):=by
 obtain ⟨k,n,s⟩:=v;rcases MG h h0 with ⟨h1,h2,h3⟩ | ⟨h1,h2,h3⟩
 . obtain rfl:k=1:=h1;obtain rfl:s=⟨#[]⟩:=h3;have h2:0<=n/\n<=999:=h2;have e:Xv (1,n,⟨#[]⟩)=Qz n:=by unfold Xv;rw[h];rfl
   rw[e];unfold Qx;rw[QV (by omega),show Kn n=((1,n,⟨#[]⟩):K4) from rfl,h];rfl
 obtain rfl:k=2:=h1;obtain rfl:n=0:=h2;have h3:Xc s=Q:=h3;have e:Xv (2,0,s)=s:=by unfold Xv;rw[h];rfl
 rw[e];unfold Qx
 have hu:(Qg s).2=L:=by
  unfold Qg;cases hp:Gl s with
  | none=>rfl
  | some m=>
    exfalso;obtain ⟨_,rfl⟩:=QR hp;have hw:=YY m;have hs:=Lp h3;have hn:=UT m;cases hl:Lib.decDigits m with
    | nil=>exact hn hl
    | cons b r=>
      have hb:=hw b (by rw[hl];exact zO ..);have hbk:(Qz (m:Y)).data.toList[0]? =uB b:=by rw[Br,hl];rfl
      unfold Xc at h3;obtain ⟨q,hq⟩:∃q,zR (((Qz (m:Y)).size:K):Y)=q+1:=⟨(Qz (m:Y)).size-1,by omega⟩;rw[hq] at h3
      have hf:X7 (Qz (m:Y)) 0 ()= .ret L:=by
       unfold X7;rw[Mx hbk,uE (show (b.toNat:Y)<97 by omega)];rfl
      rw[CP hf] at h3;cases h3
 have hd:(s.toList==(⟨#[45]⟩:W).toList)=L:=by
  cases hz:(s.toList==(⟨#[45]⟩:W).toList) with
  | false=>rfl
  | true=>
    exfalso;rw[Dj hz] at h3;exact absurd h3 (by decide)
 rw[hu,hd,show Jh s=((2,0,s):K4) from rfl,h];rfl
abbrev NZ:K4:=(0,0,⟨#[]⟩)
inductive Pr:N W->N Q2->N W->N Q2->Prop
 | all {w:W} {r:N W} {q:N Q2}:Sg w=1->Pr (w::r) q r (q++ [((1,0,0,⟨#[]⟩,NZ):Q2)])
 | nm {w x:W} {r:N W} {q:N Q2} {op:Y}:Sg w=op->op=2\/op=8\/op=9->Pr (w::x::r) q r (q++ [((op,0,0,x,NZ):Q2)])
 | vl {w x y:W} {r:N W} {q:N Q2} {op:Y}:Sg w=op->op=3\/op=4->(Qx y).2=Q->Pr (w::x::y::r) q r (q++ [((op,0,0,x,(Qx y).1):Q2)])
 | nt {w:W} {r r1:N W} {q q1:N Q2}:Sg w=5->Pr r q r1 q1->Pr (w::r) q r1 (q1++ [((5,(q1.length:Y)-1,0,⟨#[]⟩,NZ):Q2)])
 | tw {w:W} {r r1 r2:N W} {q q1 q2:N Q2} {op:Y}:Sg w=op->op=6\/op=7->Pr r q r1 q1->Pr r1 q1 r2 q2->Pr (w::r) q r2 (q2++ [((op,(q1.length:Y)-1,(q2.length:Y)-1,⟨#[]⟩,NZ):Q2)])
theorem Pr.len {r r':N W} {q q':N Q2} (h:Pr r q r' q'):q.length<q'.length/\r'.length<r.length/\r.length+2*q.length<=r'.length+2*q'.length+1:=by
 induction h<;>simp only[zJ,zG,zK]<;>omega
theorem Pr.suf {r r':N W} {q q':N Q2} (h:Pr r q r' q'):r'=r.drop (r.length-r'.length):=by
 have key:∃u,r=u++r':=by
  induction h with
  | @all w r=>exact ⟨[w],rfl⟩
  | @nm w x r=>exact ⟨[w,x],rfl⟩
  | @vl w x y r=>exact ⟨[w,x,y],rfl⟩
  | @nt w _ _ _ _ _ _ ih=>obtain ⟨u,rfl⟩:=ih;exact ⟨w::u,rfl⟩
  | @tw w _ _ _ _ _ _ _ _ _ _ _ ih1 ih2=>
    obtain ⟨u,rfl⟩:=ih2;obtain ⟨u1,rfl⟩:=ih1;exact ⟨w::(u1++u),by simp⟩
 obtain ⟨u,rfl⟩:=key;rw[zJ,Nat.add_sub_cancel,List.drop_left]
def Qm6 (n:K) (x1:W×(N W)×(N Q2)) (y0:Y):G×(N W)×(N Q2):=
 bif (bif (y0==(2:Y)) then (y0==(2:Y)) else (bif (y0==(8:Y)) then (y0==(8:Y)) else (y0==(9:Y)))) then
  ((y0 !=(0:Y)),(Zg x1.2.1 x1.2.2).2.1,(Zg x1.2.1 x1.2.2).2.2++ [((y0,0,0,(Zg x1.2.1 x1.2.2).1,NZ):Q2)])
 else bif (bif (y0==(3:Y)) then (y0==(3:Y)) else (y0==(4:Y))) then
  lt (Zg x1.2.1 x1.2.2) λx14=>lt (Zg x14.2.1 x14.2.2) λx15=>((Qx x15.1).2,x15.2.1,x15.2.2++ [((y0,0,0,x14.1,(Qx x15.1).1):Q2)])
 else bif (y0==(5:Y)) then
  lt (Xt n x1.2.1 x1.2.2) λx20=>(x20.1,x20.2.1,x20.2.2++ [((y0,((x20.2.2.length:Y)-1),0,⟨#[]⟩,NZ):Q2)])
 else bif (bif (y0==(6:Y)) then (y0==(6:Y)) else (y0==(7:Y))) then
  lt (Xt n x1.2.1 x1.2.2) λx27=>bif x27.1 then
   lt (Xt n x27.2.1 x27.2.2) λx31=>(x31.1,x31.2.1,x31.2.2++ [((y0,((x27.2.2.length:Y)-1),((x31.2.2.length:Y)-1),⟨#[]⟩,NZ):Q2)])
  else (L,x27.2.1,x27.2.2++ [((y0,((x27.2.2.length:Y)-1),((x27.2.2.length:Y)-1),⟨#[]⟩,NZ):Q2)])
 else ((y0 !=(0:Y)),x1.2.1,x1.2.2++ [((y0,0,0,⟨#[]⟩,NZ):Q2)])
theorem Td (n:K) (bf:N W) (bn:N Q2):Xt (n+1) bf bn=Qm6 n (Zg bf bn) (Sg (Zg bf bn).1):=by
 unfold Xt lt;dsimp only;rw[P0 (f:=Nt (Zg bf bn)) (e:=Nu) (p:=λk=>(Qy ((k+1:K):Y)).toList==(Zg bf bn).1.toList) (λ_ _=>rfl) (λ_ _=>rfl)];rfl
theorem E3 (w:W) (r:N W) (q:N Q2):Zg (w::r) q=(w,r,q):=rfl
theorem QZ (q:N Q2):Zg [] q=(⟨#[]⟩, [],q):=rfl
theorem Qpd (n:K) (w:W) (r:N W) (q:N Q2):Qm6 n (w,r,q) 5=((Xt n r q).1,(Xt n r q).2.1,(Xt n r q).2.2++ [((5,(((Xt n r q).2.2.length:Y)-1),0,⟨#[]⟩,NZ):Q2)]):=rfl
def Qpe (n:K) (r:N W) (q:N Q2) (op:Y):G×(N W)×(N Q2):=bif (Xt n r q).1 then ((Xt n (Xt n r q).2.1 (Xt n r q).2.2).1,(Xt n (Xt n r q).2.1 (Xt n r q).2.2).2.1,(Xt n (Xt n r q).2.1 (Xt n r q).2.2).2.2++ [((op,(((Xt n r q).2.2.length:Y)-1),(((Xt n (Xt n r q).2.1 (Xt n r q).2.2).2.2.length:Y)-1),⟨#[]⟩,NZ):Q2)]) else (L,(Xt n r q).2.1,(Xt n r q).2.2++ [((op,(((Xt n r q).2.2.length:Y)-1),(((Xt n r q).2.2.length:Y)-1),⟨#[]⟩,NZ):Q2)])
theorem Qpf (n:K) (w:W) (r:N W) (q:N Q2) {op:Y} (h:op=6\/op=7):Qm6 n (w,r,q) op=Qpe n r q op:=by rcases h with rfl | rfl<;>rfl
theorem Qm7 {r r':N W} {q q':N Q2} (h:Pr r q r' q'):∀n,r.length<n->Xt n r q=(Q,r',q'):=by
 induction h with
 | all h=>
   intro n hn;obtain ⟨m,rfl⟩:∃m,n=m+1:=⟨n-1,by omega⟩;rw[Td,E3];dsimp only;rw[h];rfl
 | nm h ho=>
   intro n hn;obtain ⟨m,rfl⟩:∃m,n=m+1:=⟨n-1,by omega⟩;rw[Td,E3];dsimp only;rw[h];rcases ho with rfl | rfl | rfl<;>rfl
 | vl h ho hv=>
   intro n hn;obtain ⟨m,rfl⟩:∃m,n=m+1:=⟨n-1,by omega⟩;rw[Td,E3];dsimp only;rw[h,←hv];rcases ho with rfl | rfl<;>rfl
 | nt h h1 ih=>
   intro n hn;obtain ⟨m,rfl⟩:∃m,n=m+1:=⟨n-1,by omega⟩;simp only[zG] at hn;rw[Td,E3];dsimp only;rw[h];rw[Qpd,ih m (by omega)]
 | tw h ho h1 h2 ih1 ih2=>
   intro n hn;obtain ⟨m,rfl⟩:∃m,n=m+1:=⟨n-1,by omega⟩;simp only[zG] at hn;have hl:=h1.len;have e1:=ih1 m (by omega);have e2:=ih2 m (by omega);rw[Td,E3];dsimp only;rw[h,Qpf _ _ _ _ ho];unfold Qpe;rw[e1];simp only[I];rw[e2]
def Gd (q:N Q2):Prop:=∀x,x∈q->x.1=2\/x.1=3\/x.1=4\/x.1=8\/x.1=9->1<=x.2.2.2.1.size
theorem Gd.left {q p:N Q2} (h:Gd (q++p)):Gd q:=λx hx=>h x (List.mem_append_left _ hx)
theorem Gd.last {q:N Q2} {x:Q2} (h:Gd (q++ [x])):x.1=2\/x.1=3\/x.1=4\/x.1=8\/x.1=9->1<=x.2.2.2.1.size:=h x (List.mem_append_right _ (List.mem_singleton.2 rfl))
theorem Qk1 (w:W):Sg w=0\/Sg w=1\/Sg w=2\/Sg w=3\/Sg w=4\/Sg w=5\/Sg w=6\/Sg w=7\/Sg w=8\/Sg w=9:=by have:=Qm3 w;omega
theorem RG {P:Prop} (h:1<=(⟨#[]⟩:W).size):P:=absurd h (by decide)
theorem FH:∀(n:K) (r:N W) (q:N Q2) (r':N W) (q':N Q2),Xt n r q=(Q,r',q')->Gd q'->Pr r q r' q'
 | 0,r,q,r',q',h,_=>by cases h
 | n+1, [],q,r',q',h,_=>by
   rw[Td,QZ] at h;dsimp only at h;rw[FC] at h;cases h
 | n + 1,w::r,q,r',q',h,hg=>by
   rw[Td,E3] at h;dsimp only at h
   have hnm:∀op:Y,Sg w=op->op=2\/op=8\/op=9->((op !=(0:Y)),(Zg r q).2.1,(Zg r q).2.2++ [((op,0,0,(Zg r q).1,NZ):Q2)])=(Q,r',q')->Pr (w::r) q r' q':=λop ho h9 h=>by
    cases r with
    | nil=>
      rw[QZ] at h;simp only[yL] at h;obtain ⟨_,_,rfl⟩:=h;exact RG (hg.last (by show op=2\/_;omega))
    | cons x r=>
      rw[E3] at h;simp only[yL] at h;obtain ⟨_,rfl,rfl⟩:=h;exact .nm ho h9
   have hvl:∀op:Y,Sg w=op->op=3\/op=4->((Qx (Zg (Zg r q).2.1 (Zg r q).2.2).1).2,(Zg (Zg r q).2.1 (Zg r q).2.2).2.1,(Zg (Zg r q).2.1 (Zg r q).2.2).2.2++ [((op,0,0,(Zg r q).1,(Qx (Zg (Zg r q).2.1 (Zg r q).2.2).1).1):Q2)])=(Q,r',q')->Pr (w::r) q r' q':=λop ho h9 h=>by
    cases r with
    | nil=>
      rw[QZ] at h;dsimp only at h;rw[QZ,RF] at h;cases h
    | cons x r=>
      rw[E3] at h;dsimp only at h;cases r with
      | nil=>
        rw[QZ,RF] at h;cases h
      | cons y r=>
        rw[E3] at h;simp only[yL] at h;obtain ⟨hv,rfl,rfl⟩:=h;exact .vl ho h9 hv
   have htw:∀op:Y,Sg w=op->op=6\/op=7->(bif (Xt n r q).1 then ((Xt n (Xt n r q).2.1 (Xt n r q).2.2).1,(Xt n (Xt n r q).2.1 (Xt n r q).2.2).2.1,(Xt n (Xt n r q).2.1 (Xt n r q).2.2).2.2++ [((op,(((Xt n r q).2.2.length:Y)-1),(((Xt n (Xt n r q).2.1 (Xt n r q).2.2).2.2.length:Y)-1),⟨#[]⟩,NZ):Q2)]) else (L,(Xt n r q).2.1,(Xt n r q).2.2++ [((op,(((Xt n r q).2.2.length:Y)-1),(((Xt n r q).2.2.length:Y)-1),⟨#[]⟩,NZ):Q2)]))=(Q,r',q')->Pr (w::r) q r' q':=λop ho h9 h=>by
    rcases h1:Xt n r q with ⟨b1,r1,q1⟩
    rw[h1] at h;dsimp only at h;cases b1 with
    | false=>cases h
    | true=>
      simp only[I] at h;rcases h2:Xt n r1 q1 with ⟨b2,r2,q2⟩
      rw[h2] at h;simp only[yL] at h;obtain ⟨rfl,rfl,rfl⟩:=h;have k2:=FH n r1 q1 r2 q2 h2 hg.left
      have hpre:Gd q1:=by
       obtain ⟨u,hu⟩:=pr_pre k2;rw[hu] at hg;exact hg.left.left
      exact .tw ho h9 (FH n r q r1 q1 h1 hpre) k2
   rcases Qk1 w with e | e | e | e | e | e | e | e | e | e<;>rw[e] at h
   . cases h
   . obtain ⟨_,h⟩:=Prod.mk.inj h;obtain ⟨rfl,rfl⟩:=Prod.mk.inj h;exact .all e
   . exact hnm 2 e (by omega) h
   . exact hvl 3 e (by omega) h
   . exact hvl 4 e (by omega) h
   . rcases h1:Xt n r q with ⟨b1,r1,q1⟩
     have h:((Xt n r q).1,(Xt n r q).2.1,(Xt n r q).2.2++ [((5,(((Xt n r q).2.2.length:Y)-1),0,⟨#[]⟩,NZ):Q2)])=(Q,r',q'):=h;rw[h1] at h;simp only[yL] at h;obtain ⟨rfl,rfl,rfl⟩:=h;exact .nt e (FH n r q r1 q1 h1 hg.left)
   . exact htw 6 e (by omega) h
   . exact htw 7 e (by omega) h
   . exact hnm 8 e (by omega) h
   exact hnm 9 e (by omega) h
where
 pr_pre {r r':N W} {q q':N Q2} (h:Pr r q r' q'):∃u,q'=q++u:=by
  induction h with
  | all | nm | vl=>exact ⟨_,rfl⟩
  | nt _ _ ih=>obtain ⟨u,rfl⟩:=ih;exact ⟨_,zL ..⟩
  | tw _ _ _ _ ih1 ih2=>obtain ⟨u,rfl⟩:=ih1;obtain ⟨u2,rfl⟩:=ih2;exact ⟨u++(u2++_),by simp only[zL];rfl⟩
theorem Hs {p r:N W} {w:W} {a:K} (h:p.drop a=w::r):Qh p (a:Y)=w/\p.drop (a+1)=r/\a<p.length:=by
 obtain ⟨h1,h2,h3⟩:=Gm h;refine ⟨?_,h2,h3⟩;unfold Qh;rw[uA (show¬(a:Y)>=(p.length:Y) by omega),J,yD];unfold nth;rw[zY,h1];rfl
theorem KU {p:N W} {a:K} (h:p.drop a= []):Qh p (a:Y)=⟨#[]⟩:=by
 have:p.length<=a:=by
  have:=F zF h;rw[yF] at this;simp only[zK] at this;omega
 unfold Qh;rw[uE (show (a:Y)>=(p.length:Y) by omega),I]
def AN (n:K) (p:N W) (a:Y) (q:N Q2) (deep:Y) (y0:Y):(N Q2)×Y:=
 bif ((y0==(0:Y))|| (decide (deep>(9:Y))|| decide ((q.length:Y)>(9:Y)))) then (q,0)
 else bif ((y0==(2:Y))|| ((y0==(8:Y))|| (y0==(9:Y)))) then (q++ [((y0,0,0,(Qh p (a+1)),NZ):Q2)],2)
 else bif ((y0==(3:Y))|| (y0==(4:Y))) then (q++ [((y0,0,0,(Qh p (a+1)),(Qx (Qh p (a+2))).1):Q2)],3)
 else bif (Q0 y0 5 7) then
  lt (Yl n p (a+1) q (deep+1)) λx16=>bif (x16.2==(0:Y)) then (x16.1,0) else bif (y0 !=(5:Y)) then
   lt (Yl n p (a+(1+x16.2)) x16.1 (deep+1)) λx21=>bif (x21.2==(0:Y)) then (x21.1,0) else (x21.1++ [((y0,((x16.1.length:Y)-1),((x21.1.length:Y)-1),⟨#[]⟩,NZ):Q2)],1+x16.2+x21.2)
  else (x16.1++ [((y0,((x16.1.length:Y)-1),0,⟨#[]⟩,NZ):Q2)],1+x16.2)
 else (q++ [((y0,0,0,⟨#[]⟩,NZ):Q2)],1)
theorem ZG (n:K) (p:N W) (a:Y) (q:N Q2) (deep:Y) (h0:0<=a) (h1:a<=30) (hp:p.length<=24) (hd:0<=deep) (hx:deep<=10):Yl (n+1) p a q deep=AN n p a q deep (Sg (Qh p a)):=by
 unfold Yl AN lt;rw[Qkz];simp only[Out.on];have hy:=Qf2 (p:=p) (at_:=a);generalize Sg (Qh p a)=y0 at hy⊢;rw[IntWalk.i64_in (a+1) (by omega),IntWalk.i64_in (a+2) (by omega),IntWalk.i64_in (deep+1) (by omega),QW];cases c0:((y0==(0:Y))|| (decide (deep>(9:Y))|| decide ((q.length:Y)>(9:Y)))) with
 | true=>rfl
 | false=>
   obtain ⟨c1,c2⟩:=bo c0;obtain ⟨c3,c4⟩:=bo c2;have c3:=uC c3;have hlt:=hy (ne_of_beq_false c1);have ih:=Lr n p (a+1) q (deep+1) (by omega) (by omega) hp (by omega) (by omega);generalize Yl n p (a+1) q (deep+1)=x16 at ih⊢;have e1:IntKind.i64.wrap (1+x16.2)=1+x16.2:=IntWalk.i64_in _ (by omega);have e2:IntKind.i64.wrap (a+(1+x16.2))=a+(1+x16.2):=IntWalk.i64_in _ (by omega);rw[e1,e2];cases c5:(x16.2==(0:Y)) with
   | true=>rfl
   | false=>
     have c5:=ne_of_beq_false c5;have ih2:=Lr n p (a+(1+x16.2)) x16.1 (deep+1) (by omega) (by omega) hp (by omega) (by omega);generalize Yl n p (a+(1+x16.2)) x16.1 (deep+1)=x21 at ih2⊢;have e3:IntKind.i64.wrap (1+x16.2+x21.2)=1+x16.2+x21.2:=IntWalk.i64_in _ (by omega);rw[e3]
theorem Qm8 {r r':N W} {q q':N Q2} (h:Pr r q r' q'):∀(n a:K) (p:N W) (deep:K),p.drop a=r->p.length<=24->q'.length+deep<=9->n+deep=12->Yl n p (a:Y) q (deep:Y)=(q',((r.length-r'.length:K):Y)):=by
 induction h with
 | @all w r q h=>
   intro n a p deep hr hp hq hn;obtain ⟨m,rfl⟩:∃m,n=m+1:=⟨n-1,by omega⟩;obtain ⟨e1,_,hlt⟩:=Hs hr;rw[zJ] at hq;rw[ZG m p a q deep (by omega) (by omega) hp (by omega) (by omega),e1,h];unfold AN;rw[uA (show¬(deep:Y)>9 by omega),uA (show¬(q.length:Y)>9 by omega)];rw[show (w::r).length-r.length=1 by rw[zG];omega];rfl
 | @nm w x r q op h ho=>
   intro n a p deep hr hp hq hn;obtain ⟨m,rfl⟩:∃m,n=m+1:=⟨n-1,by omega⟩;obtain ⟨e1,h2,hlt⟩:=Hs hr;obtain ⟨e2,_,_⟩:=Hs h2;rw[zJ] at hq;rw[ZG m p a q deep (by omega) (by omega) hp (by omega) (by omega),e1,h];unfold AN;rw[uA (show¬(deep:Y)>9 by omega),uA (show¬(q.length:Y)>9 by omega)];rw[show (w::x::r).length-r.length=2 by simp only[zG];omega];rw[show ((a:Y)+1)=((a+1:K):Y) from rfl,e2];rcases ho with rfl | rfl | rfl<;>rfl
 | @vl w x y r q op h ho hv=>
   intro n a p deep hr hp hq hn;obtain ⟨m,rfl⟩:∃m,n=m+1:=⟨n-1,by omega⟩;obtain ⟨e1,h2,hlt⟩:=Hs hr;obtain ⟨e2,h3,_⟩:=Hs h2;obtain ⟨e3,_,_⟩:=Hs h3;rw[zJ] at hq;rw[ZG m p a q deep (by omega) (by omega) hp (by omega) (by omega),e1,h];unfold AN;rw[uA (show¬(deep:Y)>9 by omega),uA (show¬(q.length:Y)>9 by omega)];rw[show (w::x::y::r).length-r.length=3 by simp only[zG];omega];rw[show ((a:Y)+1)=((a+1:K):Y) from rfl,show ((a:Y)+2)=((a+1+1:K):Y) from rfl,e2,e3];rcases ho with rfl | rfl<;>rfl
 | @nt w r r1 q q1 h h1 ih=>
   intro n a p deep hr hp hq hn;obtain ⟨m,rfl⟩:∃m,n=m+1:=⟨n-1,by omega⟩;obtain ⟨e1,h2,hlt⟩:=Hs hr;have hl:=h1.len;simp only[zJ,zG,zK] at hq;have hi:=ih m (a+1) p (deep+1) h2 hp (by omega) (by omega);rw[ZG m p a q deep (by omega) (by omega) hp (by omega) (by omega),e1,h];unfold AN lt;rw[uA (show¬(deep:Y)>9 by omega),uA (show¬(q.length:Y)>9 by omega)];rw[show ((a:Y)+1)=((a+1:K):Y) from rfl,show ((deep:Y)+1)=((deep+1:K):Y) from rfl,hi]
   have hk:(((r.length-r1.length:K):Y)==(0:Y))=L:=by
    cases hz:(((r.length-r1.length:K):Y)==(0:Y)) with
    | false=>rfl
    | true=>have:=eq_of_beq hz;omega
   show (bif (((r.length-r1.length:K):Y)==(0:Y)) then _ else _)=_;rw[hk,show (((w::r).length-r1.length:K):Y)=1+((r.length-r1.length:K):Y) by rw[zG];omega];rfl
 | @tw w r r1 r2 q q1 q2 op h ho h1 h2 ih1 ih2=>
   intro n a p deep hr hp hq hn;obtain ⟨m,rfl⟩:∃m,n=m+1:=⟨n-1,by omega⟩;obtain ⟨e1,hd,hlt⟩:=Hs hr;have hl1:=h1.len;have hl2:=h2.len;simp only[zJ,zG,zK] at hq;have hi1:=ih1 m (a+1) p (deep+1) hd hp (by omega) (by omega)
   have hd1:p.drop (a+(1+(r.length-r1.length)))=r1:=by
    have e:p.drop (a+(1+(r.length-r1.length)))=(p.drop (a+1)).drop (r.length-r1.length):=by
     rw[List.drop_drop]
     congr 1
     omega
    rw[e,hd];exact h1.suf.symm
   have hi2:=ih2 m (a+(1+(r.length-r1.length))) p (deep+1) hd1 hp (by omega) (by omega);rw[ZG m p a q deep (by omega) (by omega) hp (by omega) (by omega),e1,h]
   have hk1:(((r.length-r1.length:K):Y)==(0:Y))=L:=by
    cases hz:(((r.length-r1.length:K):Y)==(0:Y)) with
    | false=>rfl
    | true=>have:=eq_of_beq hz;omega
   have hk2:(((r1.length-r2.length:K):Y)==(0:Y))=L:=by
    cases hz:(((r1.length-r2.length:K):Y)==(0:Y)) with
    | false=>rfl
    | true=>have:=eq_of_beq hz;omega
   have hK:AN m p (a:Y) q (deep:Y) op=(bif (((r.length-r1.length:K):Y)==(0:Y)) then (q1,0) else (bif (((r1.length-r2.length:K):Y)==(0:Y)) then (q2,0) else (q2++ [((op,((q1.length:Y)-1),((q2.length:Y)-1),⟨#[]⟩,NZ):Q2)],1+((r.length-r1.length:K):Y)+((r1.length-r2.length:K):Y)))):=by
    unfold AN lt;rw[uA (show¬(deep:Y)>9 by omega),uA (show¬(q.length:Y)>9 by omega)];rw[show ((a:Y)+1)=((a+1:K):Y) from rfl,show ((deep:Y)+1)=((deep+1:K):Y) from rfl,hi1];dsimp only;rw[show ((a:Y)+(1+((r.length-r1.length:K):Y)))=((a+(1+(r.length-r1.length)):K):Y) by omega,hi2];rcases ho with rfl | rfl<;>rfl
   rw[hK,hk1,hk2,show (((w::r).length-r2.length:K):Y)=1+((r.length-r1.length:K):Y)+((r1.length-r2.length:K):Y) by rw[zG];omega];rfl
def Gs (q:N Q2):Prop:=Gd q/\∀x,x∈q->x.1=3\/x.1=4->x.2.2.2.2.1≠0
theorem Gs.left {q p:N Q2} (h:Gs (q++p)):Gs q:=⟨h.1.left,λx hx=>h.2 x (List.mem_append_left _ hx)⟩
theorem Qm9 {s:W} (h:(Qx s).1.1≠0):(Qx s).2=Q:=by
 cases hb:(Qx s).2 with
 | true=>rfl
 | false=>
   refine absurd ?_ h;revert hb;unfold Qx;cases (Qg s).2 with
   | true=>
     simp only[I];cases Q6 (Kn (Qg s).1) with
     | false=>intro _;rfl
     | true=>intro h;cases h
   | false=>
     simp only[J];cases (s.toList==(⟨#[45]⟩:W).toList) with
     | false=>
       simp only[yK,I];cases Q6 (Jh s) with
       | false=>intro _;rfl
       | true=>intro h;cases h
     | true=>
       simp only[yB,J];cases Q6 (0,0,⟨#[]⟩) with
       | false=>intro _;rfl
       | true=>intro h;cases h
theorem Qjk {r r':N W} {q q':N Q2} (h:Pr r q r' q'):∃u,q'=q++u:=by
 induction h with
 | all | nm | vl=>exact ⟨_,rfl⟩
 | nt _ _ ih=>obtain ⟨u,rfl⟩:=ih;exact ⟨_,zL ..⟩
 | tw _ _ _ _ ih1 ih2=>obtain ⟨u,rfl⟩:=ih1;obtain ⟨u2,rfl⟩:=ih2;exact ⟨u++(u2++_),by simp only[zL];rfl⟩
theorem FI:∀(n a:K) (p:N W) (q:N Q2) (deep:K) (q':N Q2) (k:Y),Yl n p (a:Y) q (deep:Y)=(q',k)->k≠0->Gs q'->a<=30->p.length<=24->deep<=10->∃j:K,k=(j:Y)/\Pr (p.drop a) q (p.drop (a+j)) q'/\a+j<=p.length
 | 0,a,p,q,deep,q',k,h,hk,_,_,_,_=>by
   obtain ⟨_,rfl⟩:=Prod.mk.inj h;exact absurd rfl hk
 | n + 1, a,p,q,deep,q',k,h,hk,hg,ha,hp,hd=>by
   rw[ZG n p a q deep (by omega) (by omega) hp (by omega) (by omega)] at h;cases hr:p.drop a with
   | nil=>
     rw[KU hr,FC] at h;obtain ⟨_,rfl⟩:=Prod.mk.inj (show (q,(0:Y))=(q',k) from h);exact absurd rfl hk
   | cons w r=>
   obtain ⟨e1,hr1,hlt⟩:=Hs hr;rw[e1] at h
   have hnz:∀{c:G} {X:(N Q2)×Y},(bif c then (q,(0:Y)) else X)=(q',k)->X=(q',k):=λ{c} {X} h=>by
    cases c with
    | false=>exact h
    | true=>obtain ⟨_,rfl⟩:=Prod.mk.inj (show (q,(0:Y))=(q',k) from h);exact absurd rfl hk
   have hd9:deep<=9:=by
    refine yO λhc=> ?_
    unfold AN at h;rw[uE (show (deep:Y)>9 by omega),Bool.true_or,Bool.or_true,I] at h;obtain ⟨_,rfl⟩:=Prod.mk.inj h;exact hk rfl
   have hnm:∀op:Y,Sg w=op->op=2\/op=8\/op=9->(q++ [((op,0,0,(Qh p ((a:Y)+1)),NZ):Q2)],(2:Y))=(q',k)->∃j:K,k=(j:Y)/\Pr (w::r) q (p.drop (a+j)) q'/\a+j<=p.length:=λop ho h9 h=>by
    obtain ⟨rfl,rfl⟩:=Prod.mk.inj h;rw[show ((a:Y)+1)=((a+1:K):Y) from rfl] at hg⊢;cases hr2:p.drop (a+1) with
    | nil=>
      rw[KU hr2] at hg;exact RG (hg.1.last (by show op=2\/_;omega))
    | cons x r2=>
      obtain ⟨e2,hr3,hlt2⟩:=Hs hr2;rw[e2,←hr1,hr2];refine ⟨2,rfl, ?_,by omega⟩;rw[show a+2=a+1+1 from rfl,hr3];exact .nm ho h9
   have hvl:∀op:Y,Sg w=op->op=3\/op=4->(q++ [((op,0,0,(Qh p ((a:Y)+1)),(Qx (Qh p ((a:Y)+2))).1):Q2)],(3:Y))=(q',k)->∃j:K,k=(j:Y)/\Pr (w::r) q (p.drop (a+j)) q'/\a+j<=p.length:=λop ho h9 h=>by
    obtain ⟨rfl,rfl⟩:=Prod.mk.inj h;rw[show ((a:Y)+1)=((a+1:K):Y) from rfl,show ((a:Y)+2)=((a+1+1:K):Y) from rfl] at hg⊢;have hv:=Qm9 (hg.2 _ (yQ _ (zV.2 rfl)) h9);cases hr2:p.drop (a+1) with
    | nil=>
      rw[KU hr2] at hg;exact RG (hg.1.last (by show op=2\/_;omega))
    | cons x r2=>
      obtain ⟨e2,hr3,hlt2⟩:=Hs hr2;cases hr4:p.drop (a+1+1) with
      | nil=>
        rw[KU hr4,RF] at hv;cases hv
      | cons y r4=>
        obtain ⟨e3,hr5,hlt3⟩:=Hs hr4;rw[e3] at hv;rw[e2,e3,←hr1,hr2,←hr3,hr4];refine ⟨3,rfl, ?_,by omega⟩;rw[show a+3=a+1+1+1 from rfl,hr5];exact .vl ho h9 hv
   have hin:∀op:Y,Sg w=op->op=5\/op=6\/op=7->(lt (Yl n p ((a:Y)+1) q ((deep:Y)+1)) λx16=>bif (x16.2==(0:Y)) then (x16.1,0) else bif (op !=(5:Y)) then lt (Yl n p ((a:Y)+(1+x16.2)) x16.1 ((deep:Y)+1)) λx21=>bif (x21.2==(0:Y)) then (x21.1,0) else (x21.1++ [((op,((x16.1.length:Y)-1),((x21.1.length:Y)-1),⟨#[]⟩,NZ):Q2)],1+x16.2+x21.2) else (x16.1++ [((op,((x16.1.length:Y)-1),0,⟨#[]⟩,NZ):Q2)],1+x16.2))=(q',k)->∃j:K,k=(j:Y)/\Pr (w::r) q (p.drop (a+j)) q'/\a+j<=p.length:=λop ho h9 h=>by
    rw[show ((a:Y)+1)=((a+1:K):Y) from rfl,show ((deep:Y)+1)=((deep+1:K):Y) from rfl] at h;rcases h1:Yl n p ((a+1:K):Y) q ((deep+1:K):Y) with ⟨q1,k1⟩
    rw[h1] at h;have h:(bif (k1==(0:Y)) then (q1,(0:Y)) else bif (op !=(5:Y)) then lt (Yl n p ((a:Y)+(1+k1)) q1 ((deep+1:K):Y)) λx21=>bif (x21.2==(0:Y)) then (x21.1,0) else (x21.1++ [((op,((q1.length:Y)-1),((x21.1.length:Y)-1),⟨#[]⟩,NZ):Q2)],1+k1+x21.2) else (q1++ [((op,((q1.length:Y)-1),0,⟨#[]⟩,NZ):Q2)],1+k1))=(q',k):=h;cases hk1:(k1==(0:Y)) with
    | true=>
      rw[hk1] at h;obtain ⟨_,rfl⟩:=Prod.mk.inj (show (q1,(0:Y))=(q',k) from h);exact absurd rfl hk
    | false=>
      rw[hk1,J] at h;have hk1:=ne_of_beq_false hk1;rcases h9 with rfl | h9
      . have h:(q1++ [((5,((q1.length:Y)-1),0,⟨#[]⟩,NZ):Q2)],1+k1)=(q',k):=h;obtain ⟨rfl,rfl⟩:=Prod.mk.inj h;obtain ⟨j,rfl,hP,hj⟩:=FI n (a+1) p q (deep+1) q1 k1 h1 hk1 hg.left (by omega) hp (by omega);refine ⟨1+j,by omega, ?_,by omega⟩;rw[hr1] at hP;rw[show a+(1+j)=a+1+j by omega];exact .nt ho hP
      rw[show (op !=(5:Y))=Q by rcases h9 with rfl | rfl<;>rfl,I] at h;rcases h2:Yl n p ((a:Y)+(1+k1)) q1 ((deep+1:K):Y) with ⟨q2,k2⟩
      rw[h2] at h;have h:(bif (k2==(0:Y)) then (q2,(0:Y)) else (q2++ [((op,((q1.length:Y)-1),((q2.length:Y)-1),⟨#[]⟩,NZ):Q2)],1+k1+k2))=(q',k):=h;cases hk2:(k2==(0:Y)) with
      | true=>
        rw[hk2] at h;obtain ⟨_,rfl⟩:=Prod.mk.inj (show (q2,(0:Y))=(q',k) from h);exact absurd rfl hk
      | false=>
        rw[hk2,J] at h;have hk2:=ne_of_beq_false hk2;obtain ⟨rfl,rfl⟩:=Prod.mk.inj h;have hl:=Lr n p ((a+1:K):Y) q ((deep+1:K):Y) (by omega) (by omega) hp (by omega) (by omega);rw[h1] at hl;obtain ⟨j1,rfl⟩:=Int.eq_ofNat_of_zero_le (show 0<=k1 from hl.2.1);have hl3:((j1:Y)=0\/((a+1:K):Y)+(j1:Y)<=(p.length:Y)+2):=hl.2.2;rw[show ((a:Y)+(1+(j1:Y)))=((a+(1+j1):K):Y) by omega] at h2;obtain ⟨j2,rfl,hP2,hj2⟩:=FI n (a+(1+j1)) p q1 (deep+1) q2 k2 h2 hk2 hg.left (by omega) hp (by omega)
        have hg1:Gs q1:=by
         obtain ⟨u,hu⟩:=Qjk hP2;rw[hu] at hg;exact hg.left.left
        obtain ⟨j3,e3,hP1,hj1⟩:=FI n (a+1) p q (deep+1) q1 (j1:Y) h1 hk1 hg1 (by omega) hp (by omega);obtain rfl:j1=j3:=by omega
        refine ⟨1+j1+j2,by omega, ?_,by omega⟩;rw[hr1] at hP1;rw[show a+(1+j1)=a+1+j1 by omega] at hP2;rw[show a+(1+j1+j2)=a+1+j1+j2 by omega];exact .tw ho h9 hP1 hP2
   rcases Qk1 w with e | e | e | e | e | e | e | e | e | e<;>rw[e] at h<;>unfold AN at h
   . obtain ⟨_,rfl⟩:=Prod.mk.inj (show (q,(0:Y))=(q',k) from h);exact absurd rfl hk
   . have h:=hnz h;obtain ⟨rfl,rfl⟩:=Prod.mk.inj (show (q++ [((1,0,0,⟨#[]⟩,NZ):Q2)],(1:Y))=(q',k) from h);refine ⟨1,rfl, ?_,by omega⟩;rw[hr1];exact .all e
   . exact hnm 2 e (by omega) (hnz h)
   . exact hvl 3 e (by omega) (hnz h)
   . exact hvl 4 e (by omega) (hnz h)
   . exact hin 5 e (by omega) (hnz h)
   . exact hin 6 e (by omega) (hnz h)
   . exact hin 7 e (by omega) (hnz h)
   . exact hnm 8 e (by omega) (hnz h)
   exact hnm 9 e (by omega) (hnz h)
theorem Nv {s:W} (h:(decide (1<=s.size)&&s.data.toList.all λb=>decide (33<=b.toNat)&&decide (b.toNat<=126))=Q):Word s:=by
 simp only[zS,uJ,List.all_eq_true] at h;exact ⟨h.1,h.2⟩
theorem Qna {op:Y} (h:1<=op/\op<=9):Word (Qy op):=by
 rcases KR (Ki.2 h) with rfl | rfl | rfl | rfl | rfl | rfl | rfl | rfl | rfl<;>exact Nv (by decide)
theorem FJ {n:Q2} {k:Y} (h:Zd n k=Q):(n.1=2\/n.1=3\/n.1=4->Q1 n.2.2.2.1=Q)/\(n.1=8\/n.1=9->Xc n.2.2.2.1=Q)/\(n.1=3\/n.1=4->Q6 n.2.2.2.2=Q/\n.2.2.2.2.1≠0)/\(1<=n.1/\n.1<=9):=by
 unfold Zd at h;cases h1:(n.1==(1:Y)) with
 | true=>have e:=eq_of_beq h1;exact ⟨λ_=>by omega,λ_=>by omega,λ_=>by omega,by omega⟩
 | false=>
 cases h2:(n.1==(2:Y)) with
 | true=>
   have e:=eq_of_beq h2;simp only[h1,h2,I,J,zS] at h;exact ⟨λ_=>h.2,λ_=>by omega,λ_=>by omega,by omega⟩
 | false=>
 cases h3:(n.1==(3:Y)) with
 | true=>
   have e:=eq_of_beq h3;simp only[h1,h2,h3,I,J,zS,bne_iff_ne] at h;exact ⟨λ_=>h.2.1,λ_=>by omega,λ_=>⟨h.2.2.1,h.2.2.2.1⟩,by omega⟩
 | false=>
 cases h4:(n.1==(4:Y)) with
 | true=>
   have e:=eq_of_beq h4;simp only[h1,h2,h3,h4,I,J,zS,bne_iff_ne] at h;exact ⟨λ_=>h.2.1,λ_=>by omega,λ_=>⟨h.2.2.1,h.2.2.2.1⟩,by omega⟩
 | false=>
 cases h5:(n.1==(5:Y)) with
 | true=>have e:=eq_of_beq h5;exact ⟨λ_=>by omega,λ_=>by omega,λ_=>by omega,by omega⟩
 | false=>
 cases h6:(n.1==(6:Y)) with
 | true=>have e:=eq_of_beq h6;exact ⟨λ_=>by omega,λ_=>by omega,λ_=>by omega,by omega⟩
 | false=>
 cases h7:(n.1==(7:Y)) with
 | true=>have e:=eq_of_beq h7;exact ⟨λ_=>by omega,λ_=>by omega,λ_=>by omega,by omega⟩
 | false=>
 cases h8:(n.1==(8:Y)) with
 | true=>
   have e:=eq_of_beq h8;simp only[h1,h2,h3,h4,h5,h6,h7,h8,I,J,zS] at h;exact ⟨λ_=>by omega,λ_=>h.2,λ_=>by omega,by omega⟩
 | false=>
 cases h9:(n.1==(9:Y)) with
 | true=>
   have e:=eq_of_beq h9;simp only[h1,h2,h3,h4,h5,h6,h7,h8,h9,I,J,zS] at h;exact ⟨λ_=>by omega,λ_=>h.2,λ_=>by omega,by omega⟩
 | false=>
   simp only[h1,h2,h3,h4,h5,h6,h7,h8,h9,J] at h;cases h
theorem Qf5 {q:N Q2} (h:Qk q=Q):Gs q:=by
 have hn:∀x,x∈q->∃k:Y,Zd x k=Q:=λx hx=>by
  obtain ⟨i,hi⟩:=yH hx;exact ⟨_,YH h hi⟩
 refine ⟨λx hx ho=> ?_,λx hx ho=> ?_⟩
 . obtain ⟨k,hk⟩:=hn x hx;obtain ⟨f1,f2,_,_⟩:=FJ hk;by_cases h8:x.1=8\/x.1=9
   . exact (Lp (f2 h8)).1
   have:=EG (f1 (by omega));omega
 obtain ⟨k,hk⟩:=hn x hx;exact ((FJ hk).2.2.1 ho).2
def qw:K->N Q2->Y->N W
 | 0,_,_=> []
 | n+1,q,k=>bif ((nth q (zR k)).1==(2:Y))|| ((nth q (zR k)).1==(8:Y))|| ((nth q (zR k)).1==(9:Y)) then [Qy (nth q (zR k)).1,(nth q (zR k)).2.2.2.1]
   else bif ((nth q (zR k)).1==(3:Y))|| ((nth q (zR k)).1==(4:Y)) then [Qy (nth q (zR k)).1,(nth q (zR k)).2.2.2.1,Xv (nth q (zR k)).2.2.2.2]
   else bif ((nth q (zR k)).1==(5:Y)) then [Qy (nth q (zR k)).1]++qw n q (nth q (zR k)).2.1
   else bif ((nth q (zR k)).1==(6:Y))|| ((nth q (zR k)).1==(7:Y)) then [Qy (nth q (zR k)).1]++(qw n q (nth q (zR k)).2.1++qw n q (nth q (zR k)).2.2.1)
   else [Qy (nth q (zR k)).1]
theorem Qbz {a:W} {l:N W} (h:l≠ []):Xl ⟨#[32]⟩ ([a]++l)=Xl ⟨#[32]⟩ [a,Xl ⟨#[32]⟩ l]:=by
 rw[Fl _ (λe=>by cases e) h,Jz,K2]
theorem Qb0 {a:W} {l m:N W} (h:l≠ []) (h':m≠ []):Xl ⟨#[32]⟩ ([a]++(l++m))=Xl ⟨#[32]⟩ [a,Xl ⟨#[32]⟩ l,Xl ⟨#[32]⟩ m]:=by
 rw[Fl _ (λe=>by cases e) (by simp[h]),Jz,Fl _ h h',Kr];simp only[ByteArray.append_assoc]
theorem Qf6:∀(n:K) {q:N Q2} (_:Qk q=Q) {k:K} (_:k<q.length) (_:k<n),X8 n q (k:Y)=Xl ⟨#[32]⟩ (qw n q (k:Y))/\qw n q (k:Y)≠ []/\∀y,y∈qw n q (k:Y)->Word y/\y.size<=10
 | 0,q,hv,k,hk,hn=>by omega
 | n +1,q,hv,k,hk,hn=>by
   have hnode:=YH hv (Cu hk);obtain ⟨f1,f2,f3,f4⟩:=FJ hnode;have hop:=Qna f4;have hob:=Qfq (nth q k).1;have ka:=GG hv (k:=(k:Y)) (by omega) (by omega);have kb:=KG hv (k:=(k:Y)) (by omega) (by omega);have kc:=WN hv (k:=(k:Y)) (by omega) (by omega);have kd:=GH hv (k:=(k:Y)) (by omega) (by omega);have ke:=IS hv (k:=(k:Y)) (by omega) (by omega)
   have kid:∀j:Y,0<=j/\j<(k:Y)->X8 n q j=Xl ⟨#[32]⟩ (qw n q j)/\qw n q j≠ []/\∀y,y∈qw n q j->Word y/\y.size<=10:=λj hj=>by
    obtain ⟨m,rfl⟩:=Int.eq_ofNat_of_zero_le hj.1;exact Qf6 n hv (by omega) (by omega)
   unfold X8 qw;rw[yD] at ka kb kc kd ke⊢;generalize nth q k=x at*;have one:∀y,y∈ [Qy x.1]->Word y/\y.size<=10:=λy hy=>by rw[zV.1 hy];exact ⟨hop,by omega⟩
   have two:Word x.2.2.2.1/\x.2.2.2.1.size<=10->∀y,y∈ [Qy x.1,x.2.2.2.1]->Word y/\y.size<=10:=λhx y hy=>by
    rcases yA.1 hy with rfl | hy
    . exact one _ (zV.2 rfl)
    rw[zV.1 hy];exact hx
   have hat:Q1 x.2.2.2.1=Q->Word x.2.2.2.1/\x.2.2.2.1.size<=10:=λh=>⟨HD h,by rw[EG h];decide⟩
   have hst:Xc x.2.2.2.1=Q->Word x.2.2.2.1/\x.2.2.2.1.size<=10:=λh=>⟨FG h,by have:=Lp h;omega⟩
   cases h2:(x.1==(2:Y)) with
   | true=>exact ⟨rfl,List.cons_ne_nil _ _,two (hat (f1 (.inl (eq_of_beq h2))))⟩
   | false=>
   cases h8:(x.1==(8:Y)) with
   | true=>exact ⟨rfl,List.cons_ne_nil _ _,two (hst (f2 (.inl (eq_of_beq h8))))⟩
   | false=>
   cases h9:(x.1==(9:Y)) with
   | true=>exact ⟨rfl,List.cons_ne_nil _ _,two (hst (f2 (.inr (eq_of_beq h9))))⟩
   | false=>
   have val:x.1=3\/x.1=4->∀y,y∈ [Qy x.1,x.2.2.2.1,Xv x.2.2.2.2]->Word y/\y.size<=10:=λh y hy=>by
    rcases yA.1 hy with rfl | hy
    . exact one _ (zV.2 rfl)
    rcases yA.1 hy with rfl | hy
    . exact hat (f1 (.inr h))
    rw[zV.1 hy];exact ⟨Qai (f3 h).1 (f3 h).2,RC _⟩
   cases h3:(x.1==(3:Y)) with
   | true=>exact ⟨rfl,List.cons_ne_nil _ _,val (.inl (eq_of_beq h3))⟩
   | false=>
   cases h4:(x.1==(4:Y)) with
   | true=>exact ⟨rfl,List.cons_ne_nil _ _,val (.inr (eq_of_beq h4))⟩
   | false=>
   cases h5:(x.1==(5:Y)) with
   | true=>
     obtain ⟨g1,g2,g3⟩:=kid _ (ka h5);refine ⟨?_,λe=>by simp at e,λy hy=> ?_⟩
     . show Xl _ [_,X8 n q x.2.1]=Xl _ ([_]++qw n q x.2.1);rw[Qbz g2,g1]
     exact (yE.1 (show y∈ [Qy x.1]++qw n q x.2.1 from hy)).elim (one y) (g3 y)
   | false=>
   have both:(0<=x.2.1/\x.2.1<(k:Y))->(0<=x.2.2.1/\x.2.2.1<(k:Y))->Xl ⟨#[32]⟩ [Qy x.1,X8 n q x.2.1,X8 n q x.2.2.1]=Xl ⟨#[32]⟩ ([Qy x.1]++(qw n q x.2.1++qw n q x.2.2.1))/\([Qy x.1]++(qw n q x.2.1++qw n q x.2.2.1))≠ []/\∀y,y∈ [Qy x.1]++(qw n q x.2.1++qw n q x.2.2.1)->Word y/\y.size<=10:=λhl hr=>by
    obtain ⟨g1,g2,g3⟩:=kid _ hl;obtain ⟨e1,e2,e3⟩:=kid _ hr;refine ⟨by rw[Qb0 g2 e2,g1,e1],λe=>by simp at e,λy hy=> ?_⟩;exact (yE.1 hy).elim (one y) λhy=>(yE.1 hy).elim (g3 y) (e3 y)
   cases h6:(x.1==(6:Y)) with
   | true=>exact both (kb h6) (kd h6)
   | false=>
   cases h7:(x.1==(7:Y)) with
   | true=>exact both (kc h7) (ke h7)
   | false=>exact ⟨by show Xl _ [_]=Xl _ [_];rfl,List.cons_ne_nil _ _,one⟩
def qws (q:N Q2):N W:=qw q.length q ((q.length:Y)-1)
theorem JF {q:N Q2} (hv:Qk q=Q):Xa q=Xl ⟨#[32]⟩ (qws q)/\qws q≠ []/\∀y,y∈qws q->Word y/\y.size<=10:=by
 have hl:=Gf hv;unfold Xa qws;rw[hv,show ((q.length:Y)-1)=((q.length-1:K):Y) by omega];exact Qf6 q.length hv (by omega) (by omega)
theorem RH {l:N W} (h:∀y,y∈l->Word y) (hl:¬(l.length<=24/\(Xl ⟨#[32]⟩ l).size<=600)):Xu (Xl ⟨#[32]⟩ l)=([],L):=by
 unfold Xu;cases hc:decide (((Xl ⟨#[32]⟩ l).size:Y)>(600:Y)) with
 | true=>rfl
 | false=>
   have hc:=uC hc;simp only[J];have h2:=MB (Xl ⟨#[32]⟩ l) (Xl ⟨#[32]⟩ l).data.toList 0 rfl;rw[D3] at h2;rw[show zR (zD (Xl ⟨#[32]⟩ l):Y)=(Xl ⟨#[32]⟩ l).size by omega,h2]
   have ha:(Xl ⟨#[32]⟩ l).data.toList.all G2=Q:=List.all_eq_true.2 λb hb=>by
    have:=ZD h b hb;unfold G2;simp only[zS,uJ];exact this
   rw[ha,Tc h];simp only[if_true,Out.on];rw[uE (show (l.length:Y)>24 by omega)];rfl
theorem Qqq {q:N Q2} (h:Qk q=Q):q≠ []:=λe=>by have:=Gf h;rw[e] at this;simp at this
theorem Qqr {q:N Q2} (hv:Qk q=Q) (h:Yi (Xa q)=(q,Q)):Pr (qws q) [] [] q/\((qws q).length<=24/\(Xa q).size<=600):=by
 obtain ⟨h1,h2,h3⟩:=JF hv;rw[h1] at h⊢;have hW:∀y,y∈qws q->Word y:=λy hy=>(h3 y hy).1
 by_cases hs:(qws q).length<=24/\(Xl ⟨#[32]⟩ (qws q)).size<=600
 . refine ⟨?_,hs⟩;unfold Yi lt at h;rw[QT hW hs.1 hs.2] at h;dsimp only at h;rcases hn:Xt ((qws q).length+1) (qws q) [] with ⟨b,r,q2⟩
   rw[hn] at h;simp only[yB,J] at h;cases hc:((!b)|| (decide ((r.length:Y)>(0:Y))|| (!(Qk q2)))) with
   | true=>rw[hc] at h;obtain ⟨_,h⟩:=Prod.mk.inj (show (([]:N Q2),L)=(q,Q) from h);cases h
   | false=>
     rw[hc] at h;obtain ⟨rfl,_⟩:=Prod.mk.inj (show (q2,Q)=(q,Q) from h);obtain ⟨c1,c2⟩:=bo hc;obtain ⟨c3,_⟩:=bo c2;have c3:=uC c3;obtain rfl:r= []:=List.eq_nil_of_length_eq_zero (by omega);obtain rfl:=bn c1;exact FH _ _ _ _ _ hn (Qf5 hv).1
 unfold Yi at h;rw[RH hW hs] at h;obtain ⟨_,h⟩:=Prod.mk.inj (show (([]:N Q2),L)=(q,Q) from h);cases h
theorem Qqs {q:N Q2} (hv:Qk q=Q) (h:Pr (qws q) [] [] q) (hs:(qws q).length<=24/\(Xa q).size<=600):Yi (Xa q)=(q,Q):=by
 obtain ⟨h1,h2,h3⟩:=JF hv;rw[h1] at hs⊢;unfold Yi lt;rw[QT (λy hy=>(h3 y hy).1) hs.1 hs.2];dsimp only;rw[Qm7 h _ (Nat.lt_succ_self _)];simp only[yB,J,hv];rfl
theorem Qpg {q:N Q2} (hv:Qk q=Q) (h:Pr (qws q) [] [] q) (hs:(qws q).length<=24/\(Xa q).size<=600):Y8 (Xa q)=(q,Q):=by
 obtain ⟨h1,h2,h3⟩:=JF hv;have hl:=Gf hv;have hr:=Qm8 h 12 0 (qws q) 0 rfl hs.1 (by omega) rfl
 have hne:(Xa q).toList==(⟨#[]⟩:W).toList↔False:=by
  refine ⟨λe=> ?_,False.elim⟩;have e:=Dj e;obtain ⟨y,ys,hy⟩:=List.exists_cons_of_ne_nil h2;have hw:=(h3 y (by rw[hy];exact zO ..)).1;have hsz:(Xl ⟨#[32]⟩ (qws q)).size=0:=by rw[←h1,e];rfl
  rw[hy] at hsz;cases ys with
  | nil=>rw[Jz] at hsz;have:=hw.1;omega
  | cons z zs=>rw[Wa,zE,zE] at hsz;have:=hw.1;omega
 unfold Y8 lt;rw[Qfu,h1,QT (λy hy=>(h3 y hy).1) hs.1 (by rw[←h1];exact hs.2)];dsimp only;rw[show (0:Y)=((0:K):Y) from rfl,hr];dsimp only;rw[Qm0,CO,←h1,uH,show (((Xa q).toList==(⟨#[]⟩:W).toList)=L) from Bool.eq_false_iff.2 λe=>hne.1 e];rw[show ((((qws q).length-([]:N W).length:K):Y) !=((qws q).length:Y))=L from bne_eq_false_iff_eq.2 (by simp)];rfl
theorem Qph {q:N Q2} (hv:Qk q=Q) (h:(Y8 (Xa q)).1=q):Pr (qws q) [] [] q/\((qws q).length<=24/\(Xa q).size<=600):=by
 obtain ⟨h1,h2,h3⟩:=JF hv;have hne:=Qqq hv;have hW:∀y,y∈qws q->Word y:=λy hy=>(h3 y hy).1
 rw[h1] at h⊢;unfold Y8 lt at h;rw[Qfu] at h;by_cases hs:(qws q).length<=24/\(Xl ⟨#[32]⟩ (qws q)).size<=600
 . refine ⟨?_,hs⟩;rw[QT hW hs.1 hs.2] at h;dsimp only at h;rcases hr:Yl 12 (qws q) 0 [] 0 with ⟨q2,k⟩
   rw[hr] at h;simp only[yB,J] at h;cases hc:(((k:Y) !=((qws q).length:Y))|| (((Yp q2).toList==(⟨#[]⟩:W).toList)|| (!((Yp q2).toList==(V3 (qws q)).toList)))) with
   | true=>rw[hc] at h;exact absurd (show []=q from h).symm hne
   | false=>
     rw[hc] at h;obtain rfl:q2=q:=h;obtain ⟨c1,_⟩:=bo hc;have hk:k=((qws q2).length:Y):=bne_eq_false_iff_eq.1 c1;have hpos:1<=(qws q2).length:=List.length_pos_iff.2 h2;obtain ⟨j,e,hP,_⟩:=FI 12 0 (qws q2) [] 0 q2 k hr (by omega) (Qf5 hv) (by omega) hs.1 (by omega);obtain rfl:j=(qws q2).length:=by omega
     rw[yN,List.drop_length] at hP;exact hP
 rw[RH hW hs] at h;exact absurd (show []=q from h).symm hne
abbrev SP:W:=⟨#[32]⟩
abbrev FLD:W:=⟨#[102,105,101,108,100]⟩
abbrev NXT:W:=⟨#[110,101,120,116]⟩
abbrev FIL:W:=⟨#[102,105,108,101]⟩
abbrev DIR:W:=⟨#[100,105,114]⟩
theorem Qrf {y:W} (h:Word y):(32:uG)∉y.data.toList:=h.no (by decide)
theorem XA {l:N W} (h0:l≠ []) (h:∀y,y∈l->Word y):Qt 32 (Xl SP l)=l:=Qac h0 λy hy=>Qrf (h y hy)
theorem XB {l:N W} (h:∀y,y∈l->Word y) (hl:l.length<=24) (hs:(Xl SP l).size<=600):Qc (Xl SP l)=(l,Q):=by rw[Qfu];exact QT h hl hs
theorem MI {f:Y7} (hn:Q1 f.1=Q) (hk:f.2=1\/f.2=2):Yx f=Xl SP [FLD,f.1,bif f.2==(1:Y) then ⟨#[105,110,116]⟩ else ⟨#[115,116,114,105,110,103]⟩]:=by
 unfold Yx;rw[hn,Kr];rcases hk with h | h<;>rw[h]
 . show ((⟨#[102,105,101,108,100,32]⟩:W)++f.1)++(⟨#[32,105,110,116]⟩:W)=_;rw[show (⟨#[102,105,101,108,100,32]⟩:W)=FLD++SP from rfl,show (⟨#[32,105,110,116]⟩:W)=SP++⟨#[105,110,116]⟩ from rfl];simp only[ByteArray.append_assoc];rfl
 show ((⟨#[102,105,101,108,100,32]⟩:W)++f.1)++(⟨#[32,115,116,114,105,110,103]⟩:W)=_;rw[show (⟨#[102,105,101,108,100,32]⟩:W)=FLD++SP from rfl,show (⟨#[32,115,116,114,105,110,103]⟩:W)=SP++⟨#[115,116,114,105,110,103]⟩ from rfl];simp only[ByteArray.append_assoc];rfl
theorem Qpi {f:Y7} (hn:Q1 f.1=Q):∀y,y∈ [FLD,f.1,bif f.2==(1:Y) then (⟨#[105,110,116]⟩:W) else ⟨#[115,116,114,105,110,103]⟩]->Word y/\y.size<=10:=λy hy=>by
 simp only[yA,List.mem_nil_iff,uK] at hy;rcases hy with rfl | rfl | rfl
 . exact ⟨Nv (by decide),by decide⟩
 . exact ⟨HD hn,by rw[EG hn];decide⟩
 cases (f.2==(1:Y))<;>exact ⟨Nv (by decide),by decide⟩
theorem Qrg {f:Y7} (hn:Q1 f.1=Q) (hk:f.2=1\/f.2=2) (b1:N Y7) (b2:N Yj) (b3:Y) (b4:N Zj):Ji b1 b2 b3 b4 (Yx f)=(Q,b1++ [f],b2,b3,b4):=by
 rw[MI hn hk];unfold Ji;rw[XA (λe=>by cases e) λy hy=>(Qpi hn y hy).1];obtain ⟨n,k⟩:=f;rcases hk with h | h<;>obtain rfl:k=_:=h<;>kernel_rfl
theorem Qrh {f:Y7} (hn:Q1 f.1=Q) (hk:f.2=1\/f.2=2) (x:Qq):Zt x (Yx f)=((x.1.1++ [f],x.1.2.1,x.1.2.2),x.2):=by
 have hw:=Qpi hn;have hs:=W0 (s:=SP) (m:=10) (n:=3) rfl (λy hy=>(hw y hy).2) (yI _);rw[MI hn hk];unfold Zt;rw[XB (λy hy=>(hw y hy).1) (zQ rfl) (zT hs (by decide))];obtain ⟨n,k⟩:=f;rcases hk with h | h<;>obtain rfl:k=_:=h<;>(show _=_;kernel_rfl)
theorem MJ (n:Y):(⟨#[110,101,120,116,32]⟩:W)++Qz n=Xl SP [NXT,Qz n]:=by
 rw[K2];rfl
theorem Qpj {n:Y} (h:0<=n/\n<=1000000000):∀y,y∈ [NXT,Qz n]->Word y/\y.size<=10:=λy hy=>by
 simp only[yA,List.mem_nil_iff,uK] at hy;rcases hy with rfl | rfl
 . exact ⟨Nv (by decide),by decide⟩
 exact ⟨QY h.1,J4 h⟩
theorem Qri {n:Y} (h:0<=n/\n<=1000000000) (b1:N Y7) (b2:N Yj) (b3:Y) (b4:N Zj):Ji b1 b2 b3 b4 ((⟨#[110,101,120,116,32]⟩:W)++Qz n)=(Q,b1,b2,n,b4):=by
 rw[MJ];unfold Ji;rw[XA (λe=>by cases e) λy hy=>(Qpj h y hy).1];refine Eq.trans (b:=((Qg (Qz n)).2,b1,b2,(Qg (Qz n)).1,b4)) (by kernel_rfl) ?_;rw[QV h]
theorem Qrj {n:Y} (h:0<=n/\n<=1000000000) (x:Qq):Zt x ((⟨#[110,101,120,116,32]⟩:W)++Qz n)=((x.1.1,x.1.2.1,n),x.2):=by
 have hw:=Qpj h;have hs:=W0 (s:=SP) (m:=10) (n:=2) rfl (λy hy=>(hw y hy).2) (yI _);rw[MJ];unfold Zt;rw[XB (λy hy=>(hw y hy).1) (zQ rfl) (zT hs (by decide))];refine Eq.trans (b:=((x.1.1,x.1.2.1,(Xf (Qz n)).1),x.2)) (by kernel_rfl) ?_;rw[Ed,QV h]
def Qb1 (l:N Ui):N W:=l.flatMap λa=> [a.1,Xv a.2]
def Qq4 (l:N Ui):Prop:=∀a,a∈l->Q1 a.1=Q/\Q6 a.2=Q/\a.2.1≠0
theorem ZH (a:Ui) (l:N Ui):Qb1 (a::l)=a.1::Xv a.2::Qb1 l:=rfl
theorem MK (l:N Ui):(Qb1 l).length=2*l.length:=by
 induction l with
 | nil=>rfl
 | cons a l ih=>rw[ZH];simp only[zG,ih];omega
theorem Qaj {w r:N W} {i:K} {a b:W} (h:w.drop i=a::b::r):nth w i=a/\nth w (i+1)=b/\w.drop (i+2)=r/\i+1<w.length:=by
 obtain ⟨h1,h2,_⟩:=Gm h;obtain ⟨h3,h4,h5⟩:=Gm h2;refine ⟨?_, ?_,h4,h5⟩
 . unfold nth;rw[zY,h1];rfl
 unfold nth;rw[zY,h3];rfl
theorem JG {w:N W} {i:K} (h:w.drop i= []):w.length<=i:=by
 have:=F zF h;rw[yF] at this;simp only[zK] at this;omega
theorem CS {w:N W} (hw:w.length<=1000):∀(l:N Ui) (i n:K) (A:N Ui),Qq4 l->w.drop i=Qb1 l->l.length<n->whl (Vo w) n (Q,(i:Y),A)=uB (.brk (Q,A++l))
 | [],i,n,A,_,h,hn=>by
   obtain ⟨m,rfl⟩:∃m,n=m+1:=⟨n-1,by omega⟩;have hl:=JG h
   have hf:Vo w (Q,(i:Y),A)= .brk (Q,A):=by
    unfold Vo;rw[uA (show¬(i:Y)<(w.length:Y) by omega),J]
   rw[whl,hf,zW]
 | a ::l,i,n,A,ho,h,hn=>by
   obtain ⟨m,rfl⟩:∃m,n=m+1:=⟨n-1,by omega⟩;rw[ZH] at h;obtain ⟨h1,h2,h3,h4⟩:=Qaj h;have ha:=ho a (zO ..)
   have hf:Vo w (Q,(i:Y),A)= .next (Q,((i+2:K):Y),A++ [a]):=by
    unfold Vo;rw[uE (show (i:Y)<(w.length:Y) by omega),I];dsimp only;rw[IntWalk.i64_in ((i:Y)+1) (by omega),IntWalk.i64_in ((i:Y)+2) (by omega),show ((i:Y)+1)=((i+1:K):Y) from rfl,yD,yD,h1,h2,MH ha.2.1 ha.2.2];rfl
   rw[zG] at hn;rw[whl,hf];show whl (Vo w) m (Q,((i+2:K):Y),A++ [a])=_;rw[CS hw l (i+2) m (A++ [a]) (λb hb=>ho b (zN _ hb)) h3 (by omega),zL,List.singleton_append]
theorem CT {line:W} {w:N W} (hS:(Qc line).1=w) (hw:w.length<=1000):∀(l:N Ui) (i n:K) (A:N Ui),Qq4 l->w.drop i=Qb1 l->l.length<n->whl (J0 line) n ((i:Y),A)=uB (.brk (A++l))
 | [],i,n,A,_,h,hn=>by
   obtain ⟨m,rfl⟩:∃m,n=m+1:=⟨n-1,by omega⟩;have hl:=JG h
   have hf:J0 line ((i:Y),A)= .brk A:=by
    unfold J0;rw[hS,uA (show¬(i:Y)<(w.length:Y) by omega),J]
   rw[whl,hf,zW]
 | a ::l,i,n,A,ho,h,hn=>by
   obtain ⟨m,rfl⟩:∃m,n=m+1:=⟨n-1,by omega⟩;rw[ZH] at h;obtain ⟨h1,h2,h3,h4⟩:=Qaj h;have ha:=ho a (zO ..)
   have hf:J0 line ((i:Y),A)= .next (((i+2:K):Y),A++ [a]):=by
    unfold J0;rw[hS,uE (show (i:Y)<(w.length:Y) by omega),I];dsimp only;rw[IntWalk.i64_in ((i:Y)+1) (by omega),IntWalk.i64_in ((i:Y)+2) (by omega)]
    have hp:Qh w ((i:Y)+1)=Xv a.2:=by
     unfold Qh;rw[uA (show¬((i:Y)+1)>=(w.length:Y) by omega),J,show ((i:Y)+1)=((i+1:K):Y) from rfl,yD,h2]
    rw[hp,yD,h1,QW,MH ha.2.1 ha.2.2];rfl
   rw[zG] at hn;rw[whl,hf];show whl (J0 line) m (((i+2:K):Y),A++ [a])=_;rw[CT hS hw l (i+2) m (A++ [a]) (λb hb=>ho b (zN _ hb)) h3 (by omega),zL,List.singleton_append]
theorem Qf7 {R S T:Type} [Inhabited T] {f:S->Rd R S T} {n:K} {s:S} {o:Out R T} (h:whl f n s=uB o):Oo f n s=o:=by unfold Oo;rw[h];rfl
theorem XC (f:Yj):C0 f=FIL::Qz f.1::Qz f.2.1::(bif f.2.2.1 then (⟨#[115]⟩:W) else ⟨#[111]⟩)::Qz f.2.2.2.1::Qb1 f.2.2.2.2:=rfl
theorem Qak {f:Yj} (h:FBd f):∀y,y∈C0 f->Word y:=λy hy=>by
 rw[XC] at hy;have h1:=h.1;have h2:=h.2.1;have h3:=h.2.2.1;simp only[yA] at hy;rcases hy with rfl | rfl | rfl | rfl | rfl | hy
 . exact Nv (by decide)
 . exact QY (by omega)
 . exact QY (by omega)
 . cases f.2.2.1<;>exact Nv (by decide)
 . exact QY (by omega)
 obtain ⟨a,ha,hy⟩:=List.mem_flatMap.1 hy;have hv:=h.2.2.2.2 a ha;simp only[yA,List.mem_nil_iff,uK] at hy;rcases hy with rfl | rfl
 . exact HD hv.1
 exact Qai hv.2.1 hv.2.2
theorem MM {f:Yj} (h:FBd f):Zx ((C0 f).drop 1)=(f,Q):=by
 have h1:=h.1;have h2:=h.2.1;have h3:=h.2.2.1;have h4:=h.2.2.2.1;have hlen:((C0 f).drop 1).length=4+2*f.2.2.2.2.length:=by rw[XC];simp only[yT,List.drop_zero,zG,MK];omega
 unfold Zx;rw[hlen,uA (show¬((4+2*f.2.2.2.2.length:K):Y)<4 by omega),Bool.false_or];rw[show (yP ((4+2*f.2.2.2.2.length:K):Y) 2 !=(0:Y))=L from bne_eq_false_iff_eq.2 (by rw[Int.tmod_eq_emod_of_nonneg (by omega)];omega),J];have n0:nth ((C0 f).drop 1) 0=Qz f.1:=rfl;have n1:nth ((C0 f).drop 1) 1=Qz f.2.1:=rfl;have n2:nth ((C0 f).drop 1) 2=(bif f.2.2.1 then (⟨#[115]⟩:W) else ⟨#[111]⟩):=rfl;have n3:nth ((C0 f).drop 1) 3=Qz f.2.2.2.1:=rfl;rw[n0,n1,n2,n3,QV (n:=f.1) (by omega),QV (n:=f.2.1) (by omega),QV (n:=f.2.2.2.1) (by omega)];have hl:=CS (w:=(C0 f).drop 1) (by rw[hlen];omega) f.2.2.2.2 4 (4+2*f.2.2.2.2.length+1) [] h.2.2.2.2 rfl (by omega);have hl2:=Qf7 hl;rw[show (Q&&(Q&&Q))=Q from rfl,show (4:Y)=((4:K):Y) from rfl];simp only[];rw[hl2];obtain ⟨i,o,s,l,z⟩:=f;cases s<;>(show _=_;kernel_rfl)
theorem Qrk {f:Yj} (h:FBd f) (b1:N Y7) (b2:N Yj) (b3:Y) (b4:N Zj):Ji b1 b2 b3 b4 (Zu f)=(Q,b1,b2++ [f],b3,b4):=by
 rw[KT];unfold Ji;rw[XA (by rw[XC];exact List.cons_ne_nil _ _) (Qak h)];refine Eq.trans (b:=((Zx ((C0 f).drop 1)).2,b1,b2++ [(Zx ((C0 f).drop 1)).1],b3,b4)) (by kernel_rfl) ?_;rw[MM h]
theorem Qrl {f:Yj} (h:FBd f) (x:Qq):Zt x (Zu f)=((x.1.1,x.1.2.1++ [f],x.1.2.2),x.2):=by
 have h1:=h.1;have h2:=h.2.1;have h3:=h.2.2.1;have hb:=MD h;have hs:=W0 (s:=SP) (m:=10) (n:=15) rfl hb.2 hb.1;rw[KT];have hS:=XB (Qak h) (by omega) (zT hs (by decide));have hl:=CT (line:=Xl SP (C0 f)) (w:=C0 f) (by rw[hS]) (by omega) f.2.2.2.2 5 ((C0 f).length+1) [] h.2.2.2.2 rfl (by rw[XC];simp only[zG,MK];omega);have hl2:=Qf7 hl;unfold Zt;rw[hS];refine Eq.trans (b:=(Out.on (Oo (J0 (Xl SP (C0 f))) ((C0 f).length+1) (((5:K):Y), [])) (λy0=>((x.1.1,x.1.2.1++ [((Xf (Qz f.1)).1,(Xf (Qz f.2.1)).1,((bif f.2.2.1 then (⟨#[115]⟩:W) else ⟨#[111]⟩).toList==(⟨#[115]⟩:W).toList),(Xf (Qz f.2.2.2.1)).1,y0)],x.1.2.2),x.2)):Qq)) (by kernel_rfl) ?_;rw[hl2,Ed,Ed,Ed,QV (n:=f.1) (by omega),QV (n:=f.2.1) (by omega),QV (n:=f.2.2.2.1) (by omega)];obtain ⟨i,o,s,l,z⟩:=f;cases s<;>(show _=_;kernel_rfl)
theorem XD {d:Zj} (hq:Qk d.2=Q):U4 d=Xl SP (DIR::d.1::qws d.2):=by
 obtain ⟨h1,h2,_⟩:=JF hq;unfold U4;rw[h1,show (DIR::d.1::qws d.2)= [DIR,d.1]++qws d.2 from rfl,Fl _ (λe=>by cases e) h2,K2];simp only[ByteArray.append_assoc];rfl
theorem Qjl {d:Zj} (hn:Xc d.1=Q) (hq:Qk d.2=Q):∀y,y∈DIR::d.1::qws d.2->Word y/\y.size<=10:=λy hy=>by
 simp only[yA] at hy;rcases hy with rfl | rfl | hy
 . exact ⟨Nv (by decide),by decide⟩
 . exact ⟨FG hn,by have:=Lp hn;omega⟩
 exact (JF hq).2.2 y hy
theorem Qqt {d:Zj} (hn:Xc d.1=Q) (hq:Qk d.2=Q) (b1:N Y7) (b2:N Yj) (b3:Y) (b4:N Zj):Ji b1 b2 b3 b4 (U4 d)=((Yi (Xa d.2)).2,b1,b2,b3,b4++ [(d.1,(Yi (Xa d.2)).1)]):=by
 obtain ⟨h1,h2,_⟩:=JF hq;rw[XD hq,h1];unfold Ji;rw[XA (List.cons_ne_nil _ _) λy hy=>(Qjl hn hq y hy).1];have hl:decide (((DIR::d.1::qws d.2).length:Y)>(2:Y))=Q:=uE (by have:=List.length_pos_iff.2 h2;simp only[zG];omega);rw[hl];show _=_
 kernel_rfl
theorem FK {d:Zj} (hn:Xc d.1=Q) (hq:Qk d.2=Q) (hs:(DIR::d.1::qws d.2).length<=24/\(U4 d).size<=600) (x:Qq):Zt x (U4 d)=(x.1,x.2++ [(d.1,(Y8 (Xa d.2)).1)]):=by
 obtain ⟨h1,h2,_⟩:=JF hq;rw[XD hq] at hs⊢;rw[h1];unfold Zt;rw[XB (λy hy=>(Qjl hn hq y hy).1) hs.1 hs.2];have hl:decide (((DIR::d.1::qws d.2).length:Y)>(2:Y))=Q:=uE (by have:=List.length_pos_iff.2 h2;simp only[zG];omega);have p0:Qh (DIR::d.1::qws d.2) 0=DIR:=(Hs (a:=0) rfl).1;have p1:Qh (DIR::d.1::qws d.2) 1=d.1:=(Hs (a:=1) rfl).1;have k1:(DIR.toList==(⟨#[102,105,101,108,100]⟩:W).toList)=L:=by kernel_rfl
 have k2:(DIR.toList==(⟨#[110,101,120,116]⟩:W).toList)=L:=by kernel_rfl
 have k3:(DIR.toList==(⟨#[102,105,108,101]⟩:W).toList)=L:=by kernel_rfl
 dsimp only;rw[p0,p1,hl,k1,k2,k3,uH];simp only[I,J,yT,List.drop_zero];rw[CO]
theorem Qf8 {d:Zj} (hn:Xc d.1=Q) (hq:Qk d.2=Q) (hs:¬((DIR::d.1::qws d.2).length<=24/\(U4 d).size<=600)) (x:Qq):Zt x (U4 d)=x:=by
 rw[XD hq] at hs⊢;unfold Zt;rw[Qfu,RH (λy hy=>(Qjl hn hq y hy).1) hs]
 kernel_rfl
theorem RI {α:Type} [Inhabited α]:∀{a b:N α},a.length=b.length->(∀i,i<a.length->nth a i=nth b i)->a=b
 | [], [],_,_=>rfl
 | [],_::_,h,_=>by cases h
 | _::_, [],h,_=>by cases h
 | x::a,y::b,h,hi=>by
   have h0:=hi 0 (Nat.zero_lt_succ _);have:a=b:=RI (by simpa using h) λi hlt=>hi (i+1) (Nat.succ_lt_succ hlt)
   rw[this,show x=y from h0]
theorem FL {R:Type} (b:N W) (f:K->W->uD->Rd G uD uD) (e:K->uD->uD) (hf:∀k a,f k a ()=(bif (!(a.toList==(nth b k).toList)) then (.ret L) else (.next ()))):∀(l:N W) (k:K),Out.on (X4 f e l k ()) (λ_=>Q)=decide (∀i,i<l.length->nth l i=nth b (k+i))
 | [],k=>by simp[X4,Out.on]
 | a :: l,k=>by
   simp only[X4];rw[hf];cases hz:(a.toList==(nth b k).toList) with
   | false=>
     simp only[yK,I,Out.on];refine (uA λh=> ?_).symm;have h0:a=nth b k:=h 0 (Nat.zero_lt_succ _);rw[h0,uH] at hz;cases hz
   | true=>
     simp only[yB,J];have h0:a=nth b k:=Dj hz;have ih:=FL (R:=R) b f e hf l (k+1);rw[ih];refine uL.2 ⟨λh i hi=> ?_,λh i hi=> ?_⟩
     . cases i with
       | zero=>exact h0
       | succ i=>have:=h i (Nat.lt_of_succ_lt_succ hi);rw[show k+(i+1)=k+1+i by omega];exact this
     have:=h (i+1) (Nat.succ_lt_succ hi);rw[show k+1+i=k+(i+1) by omega];exact this
theorem Qk2 (a b:N W):K8 a b=decide (a=b):=by
 unfold K8;by_cases hl:a.length=b.length
 . rw[show ((a.length:Y) !=(b.length:Y))=L from bne_eq_false_iff_eq.2 (by omega),J,FL (R:=uD) b _ _ λ_ _=>rfl];refine uL.2 ⟨λh=>RI hl λi hi=>by have:=h i hi;rwa [yN] at this,λh i _=>by rw[h,yN]⟩
 rw[show ((a.length:Y) !=(b.length:Y))=Q from bne_iff_ne.2 (by omega),I];exact (uA λh=>hl (by rw[h])).symm
theorem Qk3 (a b:N W):Ah a b=decide (a=b):=by
 unfold Ah;by_cases hl:a.length=b.length
 . rw[show ((a.length:Y) !=(b.length:Y))=L from bne_eq_false_iff_eq.2 (by omega),J,FL (R:=uD) b _ _ λ_ _=>rfl];refine uL.2 ⟨λh=>RI hl λi hi=>by have:=h i hi;rwa [yN] at this,λh i _=>by rw[h,yN]⟩
 rw[show ((a.length:Y) !=(b.length:Y))=Q from bne_iff_ne.2 (by omega),I];exact (uA λh=>hl (by rw[h])).symm
def Gy:N W->Qq->Option Qq
 | [],s=>uB s
 | a::l,s=>bif (Ji s.1.1 s.1.2.1 s.1.2.2 s.2 a).1 then Gy l (((Ji s.1.1 s.1.2.1 s.1.2.2 s.2 a).2.1,(Ji s.1.1 s.1.2.1 s.1.2.2 s.2 a).2.2.1,(Ji s.1.1 s.1.2.1 s.1.2.2 s.2 a).2.2.2.1),(Ji s.1.1 s.1.2.1 s.1.2.2 s.2 a).2.2.2.2) else uF
def Fp:N W->Qq->Qq
 | [],s=>s
 | a::l,s=>Fp l (Zt s a)
theorem XE:∀(a b:N W) (s:Qq),Gy (a++b) s=(Gy a s).bind (Gy b)
 | [],_,_=>rfl
 | x::a,b,s=>by
   simp only[List.cons_append,Gy];cases (Ji s.1.1 s.1.2.1 s.1.2.2 s.2 x).1 with
   | true=>exact XE a b _
   | false=>rfl
theorem MN:∀(a b:N W) (s:Qq),Fp (a++b) s=Fp b (Fp a s)
 | [],_,_=>rfl
 | _::a,b,s=>MN a b _
theorem CU:∀(l:N W) (k:K) (s:Qq),X4 Wu Hq l k s=(match Gy l s with | some y=> .brk y | none=> .ret ((([], [],0), []),L))
 | [],_,_=>rfl
 | a ::l,k,s=>by
   have hf:Wu k a s=bif (!(Ji s.1.1 s.1.2.1 s.1.2.2 s.2 a).1) then .ret ((([], [],0), []),L) else .next (((Ji s.1.1 s.1.2.1 s.1.2.2 s.2 a).2.1,(Ji s.1.1 s.1.2.1 s.1.2.2 s.2 a).2.2.1,(Ji s.1.1 s.1.2.1 s.1.2.2 s.2 a).2.2.2.1),(Ji s.1.1 s.1.2.1 s.1.2.2 s.2 a).2.2.2.2):=rfl
   simp only[X4,Gy];rw[hf];cases (Ji s.1.1 s.1.2.1 s.1.2.2 s.2 a).1 with
   | true=>
     simp only[yB,J,I];exact CU l (k+1) _
   | false=>rfl
theorem CV:∀(l:N W) (k:K) (s:Qq),X4 Hr B7 l k s= .brk (Fp l s)
 | [],_,_=>rfl
 | a::l,k,s=>by
   simp only[X4,Fp];unfold Hr lt;exact CV l (k+1) _
abbrev ZS:Qq:=(([], [],0), [])
theorem Qq5 (lines:N W):Xb lines=match Gy lines ZS with
 | some y=>bif Ql y&&decide (Q3 y=lines) then (y,Q) else (ZS,L)
 | none=>(ZS,L):=by
 unfold Xb;rw[CU];cases Gy lines ZS with
 | none=>rfl
 | some y=>
   simp only[Out.on];rw[Qk2];cases Ql y<;>cases decide (Q3 y=lines)<;>rfl
theorem Qrm (lines:N W):Xq lines=bif Ql (Fp lines ZS)&&decide (Q3 (Fp lines ZS)=lines) then (Fp lines ZS,Q) else (ZS,L):=by
 unfold Xq;rw[CV];simp only[Out.on];rw[Qk3,Fy,enc_eq];cases Ql (Fp lines ZS)<;>cases decide (Q3 (Fp lines ZS)=lines)<;>rfl
theorem MO:∀(l:N Y7) (s:Qq),(∀f,f∈l->Q1 f.1=Q/\(f.2=1\/f.2=2))->Gy (l.map Yx) s=uB ((s.1.1++l,s.1.2.1,s.1.2.2),s.2)
 | [],s,_=>by rw[zW];rfl
 | f::l,s,h=>by
   have hf:=h f (zO ..);rw[yC,Gy,Qrg hf.1 hf.2];simp only[I];rw[MO l _ λg hg=>h g (zN _ hg)];simp only[zL,List.singleton_append]
theorem MP:∀(l:N Y7) (s:Qq),(∀f,f∈l->Q1 f.1=Q/\(f.2=1\/f.2=2))->Fp (l.map Yx) s=((s.1.1++l,s.1.2.1,s.1.2.2),s.2)
 | [],s,_=>by rw[zW];rfl
 | f::l,s,h=>by
   have hf:=h f (zO ..);rw[yC,Fp,Qrh hf.1 hf.2,MP l _ λg hg=>h g (zN _ hg)];simp only[zL,List.singleton_append]
theorem MQ:∀(l:N Yj) (s:Qq),(∀f,f∈l->FBd f)->Gy (l.map Zu) s=uB ((s.1.1,s.1.2.1++l,s.1.2.2),s.2)
 | [],s,_=>by rw[zW];rfl
 | f::l,s,h=>by
   rw[yC,Gy,Qrk (h f (zO ..))];simp only[I];rw[MQ l _ λg hg=>h g (zN _ hg)];simp only[zL,List.singleton_append]
theorem MR:∀(l:N Yj) (s:Qq),(∀f,f∈l->FBd f)->Fp (l.map Zu) s=((s.1.1,s.1.2.1++l,s.1.2.2),s.2)
 | [],s,_=>by rw[zW];rfl
 | f::l,s,h=>by
   rw[yC,Fp,Qrl (h f (zO ..)),MR l _ λg hg=>h g (zN _ hg)];simp only[zL,List.singleton_append]
abbrev DOk (d:Zj):Prop:=Xc d.1=Q/\Qk d.2=Q
def RdI (d:Zj):Prop:=Yi (Xa d.2)=(d.2,Q)
def RdS (d:Zj):Prop:=((DIR::d.1::qws d.2).length<=24/\(U4 d).size<=600)/\(Y8 (Xa d.2)).1=d.2
theorem MS:∀(l:N Zj) (s:Qq),(∀d,d∈l->DOk d)->(∀d,d∈l->RdI d)->Gy (l.map U4) s=uB (s.1,s.2++l)
 | [],s,_,_=>by rw[zW];rfl
 | d::l,s,h,hr=>by
   have hd:=h d (zO ..);have hp:=hr d (zO ..);unfold RdI at hp;rw[yC,Gy,Qqt hd.1 hd.2,hp];simp only[I];rw[MS l _ (λg hg=>h g (zN _ hg)) λg hg=>hr g (zN _ hg)];simp only[zL,List.singleton_append]
theorem HF : ∀(l m:N Zj) (s t:Qq),(∀d,d∈l->DOk d)->Gy (l.map U4) s=uB t->t.2=s.2++m->m.length=l.length->∀(i:K) d,l[i]? =uB d->∃g,m[i]? =uB g/\g.1=d.1/\Yi (Xa d.2)=(g.2,Q)
 | [],_,_,_,_,_,_,_,i,d,hi=>by simp at hi
 | a :: l, m,s,t,h,hf,ht,hm,i,d,hi=>by
   have ha:=h a (zO ..);rw[yC,Gy,Qqt ha.1 ha.2] at hf;cases hp:(Yi (Xa a.2)).2 with
   | false=>rw[hp] at hf;cases hf
   | true =>
     rw[hp] at hf;simp only[I] at hf;cases m with
     | nil=>simp at hm
     | cons g m=>
       have hmono:∀(l:N Zj) (s t:Qq),(∀d,d∈l->DOk d)->Gy (l.map U4) s=uB t->∃u,t.2=s.2++u:=by
        intro l
        induction l with
        | nil=>intro s t _ h;obtain rfl:=yM (show uB s=uB t from h);exact ⟨[],(zW _).symm⟩
        | cons b l ih=>
          intro s t hb h;have hb1:=hb b (zO ..);rw[yC,Gy,Qqt hb1.1 hb1.2] at h;cases hq:(Yi (Xa b.2)).2 with
          | false=>rw[hq] at h;cases h
          | true=>
            rw[hq] at h;obtain ⟨u,hu⟩:=ih _ t (λd hd=>hb d (zN _ hd)) h;exact ⟨_::u,by rw[hu];simp only[zL,List.singleton_append];rfl⟩
       obtain ⟨u,hu⟩:=hmono l _ t (λd hd=>h d (zN _ hd)) hf
       have e: [(a.1,(Yi (Xa a.2)).1)]++u=g::m:=by
        have:=hu.symm.trans ht;simp only[zL] at this;exact List.append_cancel_left this
       obtain ⟨rfl,rfl⟩:(a.1,(Yi (Xa a.2)).1)=g/\u=m:=by simpa using e
       cases i with
       | zero=>
         obtain rfl:a=d:=by simpa using hi
         exact ⟨_,rfl,rfl,by rw[←hp]⟩
       | succ i=>
         exact HF l u _ t (λd hd=>h d (zN _ hd)) hf hu (by simpa using hm) i d (by simpa using hi)
theorem MT:∀(l:N Zj) (s:Qq),(∀d,d∈l->DOk d)->(∀d,d∈l->RdS d)->Fp (l.map U4) s=(s.1,s.2++l)
 | [],s,_,_=>by rw[zW];rfl
 | d::l,s,h,hr=>by
   have hd:=h d (zO ..);have hp:=hr d (zO ..);rw[yC,Fp,FK hd.1 hd.2 hp.1,hp.2,MT l _ (λg hg=>h g (zN _ hg)) λg hg=>hr g (zN _ hg)];simp only[zL,List.singleton_append]
theorem KV:∀(l:N Zj) (s:Qq),(∀d,d∈l->DOk d)->∃u,(Fp (l.map U4) s).2=s.2++u/\u.length<=l.length
 | [],s,_=>⟨[],(zW _).symm,yI _⟩
 | d ::l,s,h=>by
   have hd:=h d (zO ..);rw[yC,Fp];by_cases hs:(DIR::d.1::qws d.2).length<=24/\(U4 d).size<=600
   . rw[FK hd.1 hd.2 hs];obtain ⟨u,h1,h2⟩:=KV l (s.1,s.2++ [(d.1,(Y8 (Xa d.2)).1)]) λg hg=>h g (zN _ hg)
     exact ⟨_::u,by rw[h1];simp only[zL,List.singleton_append];rfl,Nat.succ_le_succ h2⟩
   rw[Qf8 hd.1 hd.2 hs];obtain ⟨u,h1,h2⟩:=KV l s λg hg=>h g (zN _ hg)
   exact ⟨u,h1,Nat.le_succ_of_le h2⟩
theorem HG:∀(l:N Zj) (s:Qq),(∀d,d∈l->DOk d)->(Fp (l.map U4) s).2=s.2++l->∀d,d∈l->RdS d
 | [],_,_,_,d,hd=>by cases hd
 | a ::l,s,h,hf,d,hd=>by
   have ha:=h a (zO ..);have hl:=λg hg=>h g (zN _ hg)
   rw[yC,Fp] at hf;by_cases hs:(DIR::a.1::qws a.2).length<=24/\(U4 a).size<=600
   . rw[FK ha.1 ha.2 hs] at hf;obtain ⟨u,h1,_⟩:=KV l (s.1,s.2++ [(a.1,(Y8 (Xa a.2)).1)]) hl
     have e: [(a.1,(Y8 (Xa a.2)).1)]++u=a::l:=by
      have:=h1.symm.trans hf;simp only[zL] at this;exact List.append_cancel_left this
     obtain ⟨e1,rfl⟩:(a.1,(Y8 (Xa a.2)).1)=a/\u=l:=by simpa using e
     have hq:(Y8 (Xa a.2)).1=a.2:=F Prod.snd e1;rcases yA.1 hd with rfl | hd
     . exact ⟨hs,hq⟩
     exact HG u (s.1,s.2++ [(a.1,(Y8 (Xa a.2)).1)]) hl h1 d hd
   rw[Qf8 ha.1 ha.2 hs] at hf;obtain ⟨u,h1,h2⟩:=KV l s hl;have e:u=a::l:=List.append_cancel_left (h1.symm.trans hf);rw[e] at h2;simp only[zG] at h2;omega
theorem Qk4 {d:Zj} (h:DOk d):RdI d↔RdS d:=by
 unfold RdI RdS;refine ⟨λhi=> ?_,λhs=> ?_⟩
 . obtain ⟨hP,hs⟩:=Qqr h.2 hi;have hl:=hP.len;have hq:=Gf h.2;simp only[zK] at hl;refine ⟨⟨by simp only[zG];omega, ?_⟩,by rw[Qpg h.2 hP hs]⟩;have hb:=W0 (s:=SP) (m:=10) (n:=21) (l:=DIR::d.1::qws d.2) rfl (λy hy=>(Qjl h.1 h.2 y hy).2) (by simp only[zG];omega);rw[XD h.2];exact zT hb (by decide)
 obtain ⟨hP,hq⟩:=Qph h.2 hs.2;exact Qqs h.2 hP hq
theorem JH {x:Qq} (hv:Ql x=Q):Q3 x=(x.1.1.map Yx++ [((⟨#[110,101,120,116,32]⟩:W)++(Qz x.1.2.2))])++(x.1.2.1.map Zu++x.2.map U4):=by
 rw[UZ,hv];simp only[yB,J,zL]
theorem Qnb {x:Qq} (hv:Ql x=Q):Gy (Q3 x) ZS=Gy (x.2.map U4) ((x.1.1,x.1.2.1,x.1.2.2), []):=by
 have hb:=Mb hv;have hf:=(KQ (RA (YX hv)).1).2;rw[JH hv,XE,XE,MO _ _ hf];simp only[Option.bind_some,Gy];rw[Qri (by omega)];simp only[I];rw[Option.bind_some,XE,MQ _ _ hb.2.2.2];rfl
theorem Qnc {x:Qq} (hv:Ql x=Q):Fp (Q3 x) ZS=Fp (x.2.map U4) ((x.1.1,x.1.2.1,x.1.2.2), []):=by
 have hb:=Mb hv;have hf:=(KQ (RA (YX hv)).1).2;rw[JH hv];simp only[MN];rw[MP _ _ hf];simp only[Fp];rw[Qrj (by omega),MR _ _ hb.2.2.2];rfl
theorem Qjm {x:Qq} (hv:Ql x=Q):∀d,d∈x.2->DOk d:=λd hd=>(KS hv hd).2
theorem Qal {x:Qq} (hv:Ql x=Q):Gy (Q3 x) ZS=uB x↔Fp (Q3 x) ZS=x:=by
 have hd:=Qjm hv;rw[Qnb hv,Qnc hv];refine ⟨λh=> ?_,λh=> ?_⟩
 . have hr:∀d,d∈x.2->RdI d:=λd hm=>by
    obtain ⟨i,hi⟩:=yH hm;obtain ⟨g,h1,h2,h3⟩:=HF x.2 x.2 _ x hd h rfl rfl i d hi;obtain rfl:d=g:=yM (hi.symm.trans h1);exact h3
   rw[MT _ _ hd λd hm=>(Qk4 (hd d hm)).1 (hr d hm)];rfl
 have hr:=HG x.2 ((x.1.1,x.1.2.1,x.1.2.2), []) hd (by rw[h];rfl);rw[MS _ _ hd λd hm=>(Qk4 (hd d hm)).2 (hr d hm)];rfl
theorem Qf9 (lines:N W):Xq lines=Xb lines:=by
 rw[Qq5,Qrm];cases hS:(Ql (Fp lines ZS)&&decide (Q3 (Fp lines ZS)=lines)) with
 | true=>
   simp only[zS,uJ] at hS;have hb:=(Qal hS.1).2 (by rw[hS.2]);rw[hS.2] at hb;rw[hb];simp only[hS.1,hS.2,decide_true,Bool.and_true,I]
 | false=>
   simp only[J];cases hI:Gy lines ZS with
   | none=>rfl
   | some y=>
     simp only[];cases hc:(Ql y&&decide (Q3 y=lines)) with
     | false=>rfl
     | true=>
       exfalso;simp only[zS,uJ] at hc;have hb:=(Qal hc.1).1 (by rw[hc.2];exact hI);rw[hc.2] at hb;rw[hb] at hS;simp only[hc.1,hc.2,decide_true,Bool.and_true] at hS;cases hS
theorem HH:∀(l:N W) (k:K) (s:W),X4 Cq Fo l k s=X4 Ad Cp l k s/\∃y,X4 Ad Cp l k s= .brk y
 | [],k,s=>⟨rfl,s,rfl⟩
 | a::l,k,s=>by
   simp only[X4,Cq,Ad];rw[ByteArray.append_assoc];exact HH l (k+1) _
theorem Qb2 (n:Y) (x:Qq):A3 n x=Wm n x:=by
 unfold A3 Wm;have e:∀n,Q0 n 1 1000000000=Xo n 1 1000000000:=λn=>rfl
 rw[Fy,enc_eq,e,(HH _ _ _).1];cases ((!(Ql x))|| (!(Xo n 1 1000000000))) with
 | true=>rfl
 | false=>
   obtain ⟨y,hy⟩:=(HH (Q3 x) 0 ((Qz n)++(⟨#[10]⟩:W))).2;rw[hy];simp only[J,Out.on];rw[Qab]
theorem HI {n:Y} (x:Qq) (h:¬(1<=n/\n<=1000000000)):Wm n x=⟨#[]⟩:=by
 unfold Wm
 have e:Xo n 1 1000000000=L:=by
  cases hz:Xo n 1 1000000000 with
  | false=>rfl
  | true=>exact absurd (Ki.1 hz) h
 rw[e];simp only[yK,Bool.or_true,I]
theorem XF (s:W):Q8 s=Qr s:=by
 unfold Q8 Qr;rw[Qah];have hpos:=ZC 10 s;have hlen:((Qt 10 s).dropLast).length=(Qt 10 s).length-1:=List.length_dropLast ..;by_cases h1:(Qt 10 s).length=1
 . rw[hlen,h1];rfl
 rw[show ((((Qt 10 s).dropLast).length:Y)==(0:Y))=L from by
  cases hz:((((Qt 10 s).dropLast).length:Y)==(0:Y)) with
  | false=>rfl
  | true=>have:=eq_of_beq hz;omega,uA (show¬((Qt 10 s).length:Y)<2 by omega),J,J]
 have hn:nth ((Qt 10 s).dropLast) 0=nth (Qt 10 s) 0:=by
  unfold nth;rw[zY,zY,List.getElem?_dropLast,if_pos (by omega)]
 have ht:zX (zR (((Qt 10 s).length:Y)-1)) (Qt 10 s)=(Qt 10 s).dropLast:=by
  rw[List.dropLast_eq_take,show zR (((Qt 10 s).length:Y)-1)=(Qt 10 s).length-1 by omega]
 rw[hn,ht,Qf9,Ed,Qb2];cases hu:(Qg (nth (Qt 10 s) 0)).2 with
 | true=>rfl
 | false=>
   have hz:(Qg (nth (Qt 10 s) 0)).1=0:=by
    unfold Qg at hu⊢;cases hp:Gl (nth (Qt 10 s) 0) with
    | none=>rfl
    | some n=>rw[hp] at hu;cases hu
   rw[hz,HI _ (by omega)]
   have hs:((⟨#[]⟩:W).toList==s.toList)=L:=by
    cases hz:((⟨#[]⟩:W).toList==s.toList) with
    | false=>rfl
    | true=>rw[←Dj hz] at h1;exact absurd rfl h1
   rw[hs];simp only[yK,Bool.or_true,Bool.true_or,I]
theorem Qga {c:G} {n:Y} {x:Qq} (h:(bif c then ((0,ZS,L):Y×Qq×G) else (n,x,Q)).2.2=L):(bif c then ((0,ZS,L):Y×Qq×G) else (n,x,Q))=(0,ZS,L):=by
 cases c with
 | true=>rfl
 | false=>cases h
theorem Qgb (d:Nh):Zn d=Yz d:=by
 unfold Zn Yz;rw[XF,XF]
 have hz:∀s,(Qr s).2.2=L->Qr s=(0,ZS,L):=λs h=>by
  unfold Qr at h⊢;cases h1:decide (((Qt 10 s).length:Y)<(2:Y)) with
  | true=>rfl
  | false=>
    rw[h1] at h;simp only[J] at h⊢;exact Qga h
 have h1:=hz d.1;have h2:=hz d.2;generalize Qr d.1=a at h1⊢;generalize Qr d.2=b at h2⊢;obtain ⟨n,x,p⟩:=a;obtain ⟨m,y,q⟩:=b;cases p with
 | true=>
   cases q with
   | true=>
     by_cases h:m>n
     . simp[h,show¬n>=m by omega]
     simp[h,show n>=m by omega]
   | false=>rfl
 | false=>
   cases q with
   | true=>rfl
   | false=>
     have e1:=h1 rfl;have e2:=h2 rfl;rw[e1,e2];rfl
open GoE (enc wide)
def Y4 (d:Nh):Y×Qq×G:=(((Yz d)).1,(((Yz d)).2.1),((Yz d)).2.2.1)
theorem Rt (d:Nh) (ha:zD d.1<=1073741000) (hb:zD d.2<=1073741000):ACalls Tryz.prog 48 [.a [.s d.1,.s d.2]] (.tup [(L, [.i (((Y4 d)).1)]),(Q, [.o 0 ((((Y4 d)).2.1).1.1),.o 1 ((((Y4 d)).2.1).1.2.1),.i ((((Y4 d)).2.1).1.2.2),.o 2 ((((Y4 d)).2.1).2)]),(L, [.b (((Y4 d)).2.2)])]):=by
 refine en Qa Tryz.func48 λw0 F0 hG=> ?_
 exact sn Qa [1,2,3,4] [1,3] p0 <| tn Qa [2,3,4,5,6,7] [3,6] (pc 1 (JU d (by assumption) (by assumption)) p0) <| tU Qa Yo [(2,.i (((Yz d)).1)),(3,.p 3 0),(4,.b (((Yz d)).2.2.1))] [0] [(3, [.o 704 ((((Yz d)).2.1).1.1),.o 705 ((((Yz d)).2.1).1.2.1),.i ((((Yz d)).2.1).1.2.2),.o 706 ((((Yz d)).2.1).2)])] [] p0 <| Qd <| pz [] (show Y4 d=(((Yz d)).1,(((Yz d)).2.1),((Yz d)).2.2.1) from rfl) (λz=> .tup [(L, [.i z.1]),(Q, [.o 0 z.2.1.1.1,.o 1 z.2.1.1.2.1,.i z.2.1.1.2.2,.o 2 z.2.1.2]),(L, [.b z.2.2])])
def Jv (d:Nh):Y×Qq×G:=(((Zn d)).1,(((Zn d)).2.1),((Zn d)).2.2.1)
theorem Ru (d:Nh) (ha:zD d.1<=1073741000) (hb:zD d.2<=1073741000):ACalls Tryz.prog 36 [.a [.s d.1,.s d.2]] (.tup [(L, [.i (((Jv d)).1)]),(Q, [.o 0 ((((Jv d)).2.1).1.1),.o 1 ((((Jv d)).2.1).1.2.1),.i ((((Jv d)).2.1).1.2.2),.o 2 ((((Jv d)).2.1).2)]),(L, [.b (((Jv d)).2.2)])]):=by
 refine en Qa Tryz.func36 λw0 F0 hG=> ?_
 exact sn Qa [1,2,3,4] [1,3] p0 <| tn Qa [2,3,4,5,6,7] [3,6] (pc 1 (HC d (by assumption) (by assumption)) p0) <| tU Qa Yo [(2,.i (((Zn d)).1)),(3,.p 3 0),(4,.b (((Zn d)).2.2.1))] [0] [(3, [.o 704 ((((Zn d)).2.1).1.1),.o 705 ((((Zn d)).2.1).1.2.1),.i ((((Zn d)).2.1).1.2.2),.o 706 ((((Zn d)).2.1).2)])] [] p0 <| Qd <| pz [] (show Jv d=(((Zn d)).1,(((Zn d)).2.1),((Zn d)).2.2.1) from rfl) (λz=> .tup [(L, [.i z.1]),(Q, [.o 0 z.2.1.1.1,.o 1 z.2.1.1.2.1,.i z.2.1.1.2.2,.o 2 z.2.1.2]),(L, [.b z.2.2])])
def Dk (_:K) (a0:Yj) (s0:N Yj):Rd (N Yj) (N Yj) (N Yj):=(.next (s0++ [(Ye a0)]))
def Oi (_:K) (s0:N Yj):(N Yj):=s0
def An (l:N Yj):(N Yj):=(Out.on (X4 Dk Oi l 0 []) (λy0=>y0))
theorem HJ (l:N Yj):ACalls Tryz.prog 105 [.h l] (.o 0 (An l)):=by
 refine en Qa Tryz.func105 λw0 F0 hG=> ?_
 refine sn Qa [0,2] [] p0 <| tn Qa [0,2,3] [] p0 <| Qb <| tu Qa [(2,.e 0),(3,.one (.slc (.own Q 384) 5 [])),(7,.h l),(8,.i (l.length:Y)),(9,.i 0)] [0] [] [] (pl 1 l p0) <| wT 7 0 .sh l (λhw1 hl2=> ?_)
 refine AB Dk Oi l [] (λk0 s0=> [(3,.o 147201 s0),(9,.i (k0:Y))]) [3,9] (λy0=> [(3,.o 147351 y0)]) [3,7,8,9] (λk0 s0=>zF s0<=k0) (Xg [(384,147201)] (by kernel_rfl)) (by simp) (λk0 s0 O U=> ?_) (λk0 s0 O U=> ?_) (λy0 hD0=> ?_)
 ·have hA0_0:=U.2;obtain ⟨a0,V⟩:=Xh (l:=l) (i:=k0) O;refine sn Qa [2,3,7,8,9,10] [] (pe 0 (zB ((k0:Y)<(l.length:Y))) p0) <| Qb <| ckT <| Qf <| Qb <| Qo <| tn Qa [2,3,5,7,8,9] [5] (pn 0 V p0) <| wT 3 0 (.own Q 147201) s0 (λhw3 hl4=> ?_)
  refine qu Qa [(3,.one (.slc (.own Q 1088) 5 ((eL s0)++ [[.i ((Ye a0).1),.i ((Ye a0).2.1),.b ((Ye a0).2.2.1),.i ((Ye a0).2.2.2.1),.h ((Ye a0).2.2.2.2)]])))] [3] [] [] (pc 2 (Sc a0) (pa s0 [(Ye a0)] p0)) ?_;refine eqn [(3,.o 1088 (s0++ [(Ye a0)]))] [3] [] [] (by rw[show ((eL s0)++ [[.i ((Ye a0).1),.i ((Ye a0).2.1),.b ((Ye a0).2.2.1),.i ((Ye a0).2.2.2.1),.h ((Ye a0).2.2.2.2)]])=(eL (s0++ [(Ye a0)])) from Jc (rfl) (rfl)];first | done | kernel_rfl) ?_;refine rn Qa [2,3,7,8,9] [] (pe 0 (Jl (Qn k0 (by omega))) p0) ?_;exact zM (s0++ [(Ye a0)]) (zP (Xg [(1088,147201)] (by kernel_rfl)) ⟨Qs V (rfl) U.1,by first|omega|(simp;omega) | simp⟩)
 ·have hA0_0:=U.2;exact sn Qa [2,3,7,8,9,10] [] (pe 0 (zC ((k0:Y)<(l.length:Y))) p0) <| Qb <| ckF <| Q4 <| zM _ (zP (Xg [(147201,147351)] (by kernel_rfl)) (Xj O (rfl) U.1))
 exact sn Qa [2] [] p0 <| Qd <| po0 [] (Vp hD0 (rfl))
def Kd (s_:Yk):Yk:=(s_.1,(An s_.2.1),s_.2.2)
theorem E4 (s_:Yk):ACalls Tryz.prog 55 [.a [.h s_.1,.h s_.2.1,.i s_.2.2]] (.a [.o 0 ((Kd s_).1),.o 1 ((Kd s_).2.1),.i ((Kd s_).2.2)]):=by
 refine en Qa Tryz.func55 λw0 F0 hG=> ?_
 exact sn Qa [1,2] [1,2] p0 <| tN Qa Yo [2] [2] (pc 2 (ZZ s_.1) (pc 5 (HJ s_.2.1) p0)) <| Qd <| pz [] (show Kd s_=(s_.1,(An s_.2.1),s_.2.2) from rfl) (λz=> .a [.o 0 z.1,.o 1 z.2.1,.i z.2.2])
def W9 (x:Zj):Zj:=x
theorem FM (x:Zj):ACalls Tryz.prog 106 [.a [.s x.1,.h x.2]] (.a [.s ((W9 x).1),.o 0 ((W9 x).2)]):=by
 refine en Qa Tryz.func106 λw0 F0 hG=> ?_
 exact sn Qa [1,2] [1,2] p0 <| tn Qa [1,2] [1,2] (pc 2 (PA x.2) p0) <| tu Qa [(2,.p 2 0)] [0] [(2, [.s x.1,.o 320 x.2])] [] p0 <| Qd <| pz [] (show W9 x=x from rfl) (λz=> .a [.s z.1,.o 0 z.2])
def E5 (_:K) (a0:Zj) (s0:N Zj):Rd (N Zj) (N Zj) (N Zj):=(.next (s0++ [(W9 a0)]))
def P1 (_:K) (s0:N Zj):(N Zj):=s0
def Wb (d:N Zj):(N Zj):=(Out.on (X4 E5 P1 d 0 []) (λy0=>y0))
theorem F2 (d:N Zj):ACalls Tryz.prog 56 [.h d] (.o 0 (Wb d)):=by
 refine en Qa Tryz.func56 λw0 F0 hG=> ?_
 refine sn Qa [0,2] [] p0 <| tn Qa [0,2,3] [] p0 <| Qb <| tu Qa [(2,.e 0),(3,.one (.slc (.own Q 384) 2 [])),(7,.h d),(8,.i (d.length:Y)),(9,.i 0)] [0] [] [] (pl 1 d p0) <| wT 7 0 .sh d (λhw1 hl2=> ?_)
 refine AB E5 P1 d [] (λk0 s0=> [(3,.o 147201 s0),(9,.i (k0:Y))]) [3,9] (λy0=> [(3,.o 147351 y0)]) [3,7,8,9] (λk0 s0=>zF s0<=k0) (Xg [(384,147201)] (by kernel_rfl)) (by simp) (λk0 s0 O U=> ?_) (λk0 s0 O U=> ?_) (λy0 hD0=> ?_)
 ·have hA0_0:=U.2;obtain ⟨a0,V⟩:=Xh (l:=d) (i:=k0) O;refine sn Qa [2,3,7,8,9,10] [] (pe 0 (zB ((k0:Y)<(d.length:Y))) p0) <| Qb <| ckT <| Qf <| Qb <| Qo <| tn Qa [2,3,5,7,8,9] [5] (pn 0 V p0) <| wT 3 0 (.own Q 147201) s0 (λhw3 hl4=> ?_)
  refine qu Qa [(3,.one (.slc (.own Q 1088) 2 ((eL s0)++ [[.s ((W9 a0).1),.h ((W9 a0).2)]])))] [3] [] [] (pc 2 (FM a0) (pa s0 [(W9 a0)] p0)) ?_;refine eqn [(3,.o 1088 (s0++ [(W9 a0)]))] [3] [] [] (by rw[show ((eL s0)++ [[.s ((W9 a0).1),.h ((W9 a0).2)]])=(eL (s0++ [(W9 a0)])) from Jc (rfl) (rfl)];first | done | kernel_rfl) ?_;refine rn Qa [2,3,7,8,9] [] (pe 0 (Jl (Qn k0 (by omega))) p0) ?_;exact zM (s0++ [(W9 a0)]) (zP (Xg [(1088,147201)] (by kernel_rfl)) ⟨Qs V (rfl) U.1,by first|omega|(simp;omega) | simp⟩)
 ·have hA0_0:=U.2;exact sn Qa [2,3,7,8,9,10] [] (pe 0 (zC ((k0:Y)<(d.length:Y))) p0) <| Qb <| ckF <| Q4 <| zM _ (zP (Xg [(147201,147351)] (by kernel_rfl)) (Xj O (rfl) U.1))
 exact sn Qa [2] [] p0 <| Qd <| po0 [] (Vp hD0 (rfl))
def Zo (x:Jd):Qq:=((Kd x.1.1),(Wb x.1.2.1))
theorem G4 (x:Jd):ACalls Tryz.prog 24 [.a [.h x.1.1.1,.h x.1.1.2.1,.i x.1.1.2.2,.h x.1.2.1,.h x.1.2.2,.s x.2.1.1,.s x.2.1.2,.i x.2.2.1,.h x.2.2.2.1,.h x.2.2.2.2.1,.h x.2.2.2.2.2]] (.a [.o 0 ((Zo x).1.1),.o 1 ((Zo x).1.2.1),.i ((Zo x).1.2.2),.o 2 ((Zo x).2)]):=by
 refine en Qa Tryz.func24 λw0 F0 hG=> ?_
 exact sn Qa [1,2] [1,2] p0 <| tN Qa Yo [2] [2] (pc 3 (E4 x.1.1) (pc 7 (F2 x.1.2.1) p0)) <| Qd <| pz [] (show Zo x=((Kd x.1.1),(Wb x.1.2.1)) from rfl) (λz=> .a [.o 0 z.1.1,.o 1 z.1.2.1,.i z.1.2.2,.o 2 z.2])
def F3 (_:K) (a0:Yj) (s0:N Yj):Rd (Yk) (N Yj) (N Yj):=(.next (s0++ [(Yq a0)]))
def Si (_:K) (s0:N Yj):(N Yj):=s0
def Wf (s_:Yk):Yk:=(Out.on (X4 F3 Si s_.2.1 0 []) (λy0=>(s_.1,y0,s_.2.2)))
theorem Nw (s_:Yk):ACalls Tryz.prog 73 [.a [.h s_.1,.h s_.2.1,.i s_.2.2]] (.a [.o 0 ((Wf s_).1),.o 1 ((Wf s_).2.1),.i ((Wf s_).2.2)]):=by
 refine en Qa Tryz.func73 λw0 F0 hG=> ?_
 refine sn Qa [1,2] [1,2] p0 <| wB 1 0 .sh s_.1 (λhw1 hl2=> ?_)
 refine tN Qa Yo [1,2,3] [1,2,3] (po 3 (.flat) (px (Ct (n:=(([]:N (N PV)).length+((eL s_.1):N (N PV)).length)) (Eb (rfl) (Yr s_.1) (by first|omega|(simp only[zG,zK];omega) | (simp;omega) | simp))) (px (Hx (Uh s_.1)) p0))) <| Qb <| tu Qa [(1,.p 1 0),(2,.p 2 0),(3,.p 3 0),(4,.i 0)] [0] [(1, [.h s_.1,.h s_.2.1,.i s_.2.2]),(2, [.e 2,.e 5,.i 0]),(3, [.o 512 s_.1,.e 5,.i s_.2.2])] [] p0 <| wB 1 1 .sh s_.2.1 (λhw3 hl4=> ?_)
 refine JM F3 Si s_.2.1 [] (λk0 _=> [(4,.i (k0:Y))]) [4] (λ_ s0=> [(3, [.o 512 s_.1,.o 147211 s0,.i s_.2.2])]) [3] (λ_=> []) [1,4] (λy0=> [(3, [.o 512 s_.1,.o 147361 y0,.i s_.2.2])]) [1,3] (λk0 s0=>zF s0<=k0) (L5 [(Q,3,1,Q,320008,5)] [] [] [(320008,147211)] (by kernel_rfl)) (by simp) (λk0 s0 O U=> ?_) (λk0 s0 O U=> ?_) (λy0 hD0=> ?_)
 ·have hA0_0:=U.2;obtain ⟨a0,V⟩:=Xh (l:=s_.2.1) (i:=k0) O;refine Qb <| su Qa [(16,.b Q)] [] [] [] (pl 3 s_.2.1 (pe 4 (zB ((k0:Y)<(s_.2.1.length:Y))) p0)) <| ckT <| Qf <| Qb <| Qo <| wB 3 1 (.own Q 147211) s0 (λhw5 hl6=> ?_)
  refine rU Qa Yo [] [16] [(3, [.o 512 s_.1,.slc (.own Q 1792) 5 ((eL s0)++ [[.i ((Yq a0).1),.i ((Yq a0).2.1),.b ((Yq a0).2.2.1),.i ((Yq a0).2.2.2.1),.h ((Yq a0).2.2.2.2)]]),.i s_.2.2])] [3] (pn 5 V (pc 7 (QK a0) (pa s0 [(Yq a0)] p0))) ?_;refine eqn [] [] [(3, [.o 512 s_.1,.o 1792 (s0++ [(Yq a0)]),.i s_.2.2])] [3] (by rw[show ((eL s0)++ [[.i ((Yq a0).1),.i ((Yq a0).2.1),.b ((Yq a0).2.2.1),.i ((Yq a0).2.2.2.1),.h ((Yq a0).2.2.2.2)]])=(eL (s0++ [(Yq a0)])) from Jc (rfl) (rfl)];first | done | kernel_rfl) ?_;refine rn Qa [1,2,3,4] [1,2,3] (pe 1 (Jl (Qn k0 (by omega))) p0) ?_;exact zM (s0++ [(Yq a0)]) (zP (Xg [(1792,147211)] (by kernel_rfl)) ⟨Qs V (rfl) U.1,by first|omega|(simp;omega) | simp⟩)
 ·have hA0_0:=U.2;exact Qb <| su Qa [(16,.b L)] [] [] [] (pl 3 s_.2.1 (pe 4 (zC ((k0:Y)<(s_.2.1.length:Y))) p0)) <| ckF <| Q4 <| zM _ (zP (Xg [(147211,147361)] (by kernel_rfl)) (Xj O (rfl) U.1))
 exact sn Qa [2] [2] p0 <| Qd <| pz [] (show Wf s_=_ from Vp hD0 (rfl)) (λz=> .a [.o 0 z.1,.o 1 z.2.1,.i z.2.2])
def F4 (_:K) (a0:Zj) (s0:N Zj):Rd (N Zj) (N Zj) (N Zj):=(.next (s0++ [a0]))
def Sj (_:K) (s0:N Zj):(N Zj):=s0
def H0 (d:N Zj):(N Zj):=(Out.on (X4 F4 Sj d 0 []) (λy0=>y0))
theorem Nx (d:N Zj):ACalls Tryz.prog 74 [.h d] (.o 0 (H0 d)):=by
 refine en Qa Tryz.func74 λw0 F0 hG=> ?_
 refine sn Qa [0,2] [] p0 <| tn Qa [0,2,3] [] p0 <| Qb <| tu Qa [(2,.e 0),(3,.one (.slc (.own Q 320) 2 [])),(4,.i 0)] [] [] [] p0 <| wT 0 0 .sh d (λhw1 hl2=> ?_)
 refine AB F4 Sj d [] (λk0 s0=> [(3,.o 147202 s0),(4,.i (k0:Y))]) [3,4] (λy0=> [(3,.o 147352 y0)]) [0,3,4] (λk0 s0=>zF s0<=k0) (Xg [(320,147202)] (by kernel_rfl)) (by simp) (λk0 s0 O U=> ?_) (λk0 s0 O U=> ?_) (λy0 hD0=> ?_)
 ·have hA0_0:=U.2;obtain ⟨a0,V⟩:=Xh (l:=d) (i:=k0) O;refine Qb <| sn Qa [0,2,3,4,9] [] (pl 2 d (pe 3 (zB ((k0:Y)<(d.length:Y))) p0)) <| ckT <| Qf <| Qb <| Qo ?_
  have hl3:zF a0.2<=1073741824:=Dc (Ia (Rf V (hw1)));refine wT 3 0 (.own Q 147202) s0 (λhw4 hl5=> ?_);refine qU Qa Yo [(3,.one (.slc (.own Q 1728) 2 ((eL s0)++ [[.s a0.1,.slc 7 ([]++(eL a0.2))]])))] [3] [] [] (pn 3 V (pn 9 V (po 12 (.flat) (px (Ct (n:=(([]:N (N PV)).length+((eL a0.2):N (N PV)).length)) (Eb (rfl) (Yr a0.2) (by first|omega|(simp only[zG,zK];omega) | (simp;omega) | simp))) (px (Hx (Uh a0.2)) (px (Ct (n:=(((eL s0):N (N PV)).length+([[.s a0.1,.slc 7 ([]++(eL a0.2))]]:N (N PV)).length)) (Eb (Yr s0) (rfl) (by first|omega|(simp only[zG,zK];omega) | (simp;omega) | simp))) p0)))))) ?_;refine eqn [(3,.o 1728 (s0++ [a0]))] [3] [] [] (by rw[show ((eL s0)++ [[.s a0.1,.slc 7 ([]++(eL a0.2))]])=(eL (s0++ [a0])) from Jc (rfl) (rfl)];first | done | kernel_rfl) ?_;refine rn Qa [0,2,3,4] [] (pe 1 (Jl (Qn k0 (by omega))) p0) ?_;exact zM (s0++ [a0]) (zP (Xg [(1728,147202)] (by kernel_rfl)) ⟨Qs V (rfl) U.1,by first|omega|(simp;omega) | simp⟩)
 ·have hA0_0:=U.2;exact Qb <| sn Qa [0,2,3,4,9] [] (pl 2 d (pe 3 (zC ((k0:Y)<(d.length:Y))) p0)) <| ckF <| Q4 <| zM _ (zP (Xg [(147202,147352)] (by kernel_rfl)) (Xj O (rfl) U.1))
 exact sn Qa [2] [] p0 <| Qd <| po0 [] (Vp hD0 (rfl))
def X3 (x:Qq):Qq:=((Wf x.1),(H0 x.2))
theorem Md (x:Qq):ACalls Tryz.prog 42 [.a [.h x.1.1,.h x.1.2.1,.i x.1.2.2,.h x.2]] (.a [.o 0 ((X3 x).1.1),.o 1 ((X3 x).1.2.1),.i ((X3 x).1.2.2),.o 2 ((X3 x).2)]):=by
 refine en Qa Tryz.func42 λw0 F0 hG=> ?_
 exact sn Qa [1,2] [1,2] p0 <| tN Qa Yo [2] [2] (pc 2 (Nw x.1) (pc 5 (Nx x.2) p0)) <| Qd <| pz [] (show X3 x=((Wf x.1),(H0 x.2)) from rfl) (λz=> .a [.o 0 z.1.1,.o 1 z.1.2.1,.i z.1.2.2,.o 2 z.2])
def Zp (x:Jd):Qq:=(X3 (x.1.1,x.1.2.1))
theorem G5 (x:Jd):ACalls Tryz.prog 16 [.a [.h x.1.1.1,.h x.1.1.2.1,.i x.1.1.2.2,.h x.1.2.1,.h x.1.2.2,.s x.2.1.1,.s x.2.1.2,.i x.2.2.1,.h x.2.2.2.1,.h x.2.2.2.2.1,.h x.2.2.2.2.2]] (.a [.o 0 ((Zp x).1.1),.o 1 ((Zp x).1.2.1),.i ((Zp x).1.2.2),.o 2 ((Zp x).2)]):=by
 refine en Qa Tryz.func16 λw0 F0 hG=> ?_
 exact sn Qa [1,2] [1,2] p0 <| tn Qa [2] [2] (pc 7 (Md (x.1.1,x.1.2.1)) p0) <| Qd <| pz [] (show Zp x=(X3 (x.1.1,x.1.2.1)) from rfl) (λz=> .a [.o 0 z.1.1,.o 1 z.1.2.1,.i z.1.2.2,.o 2 z.2])
def B8 (a_:Qq) (b:Qq):G:=(K8 (Q3 a_) (Q3 b))
theorem AO (a_:Qq) (b:Qq):ACalls Tryz.prog 23 [.a [.h a_.1.1,.h a_.1.2.1,.i a_.1.2.2,.h a_.2],.a [.h b.1.1,.h b.1.2.1,.i b.1.2.2,.h b.2]] (.b (B8 a_ b)):=by
 refine en Qa Tryz.func23 λw0 F0 hG=> ?_
 exact sn Qa [2,3,4] [2,3] p0 <| tN Qa Yo [4] [] (pc 1 (H7 a_) (pc 3 (H7 b) (pc 4 (G3 (Q3 a_) (Q3 b)) p0))) <| Qd <| pb [] (show B8 a_ b=(K8 (Q3 a_) (Q3 b)) from rfl)
def B9 (a_:Qq) (b:Qq):G:=(Ah (Xz a_) (Xz b))
theorem AP (a_:Qq) (b:Qq):ACalls Tryz.prog 15 [.a [.h a_.1.1,.h a_.1.2.1,.i a_.1.2.2,.h a_.2],.a [.h b.1.1,.h b.1.2.1,.i b.1.2.2,.h b.2]] (.b (B9 a_ b)):=by
 refine en Qa Tryz.func15 λw0 F0 hG=> ?_
 exact sn Qa [2,3,4] [2,3] p0 <| tN Qa Yo [4] [] (pc 1 (H8 a_) (pc 3 (H8 b) (pc 4 (Sf (Xz a_) (Xz b)) p0))) <| Qd <| pb [] (show B9 a_ b=(Ah (Xz a_) (Xz b)) from rfl)
theorem Qb3 (l:N Yj):An l=l:=by
 unfold An;rw[Vi (f:=Dk) (g:=id) (λ_ _ _=>rfl),yS];rfl
theorem Qgc (d:N Zj):Wb d=d:=by
 unfold Wb;rw[Vi (f:=E5) (g:=id) (λ_ _ _=>rfl),yS];rfl
theorem Qb4 (s:Yk):Kd s=s:=by
 unfold Kd;rw[Qb3]
theorem Qnd (s:Yk):Wf s=s:=by
 unfold Wf;rw[Vi (f:=F3) (g:=id) (λ_ _ _=>rfl),yS];rfl
theorem Qne (d:N Zj):H0 d=d:=by
 unfold H0;rw[Vi (f:=F4) (g:=id) (λ_ _ _=>rfl),yS];rfl
theorem CW (x:Jd):Zp x=Zo x:=by
 unfold Zp Zo X3;rw[Qnd,Qne,Qb4,Qgc]
theorem Qjn (a b:Qq):B9 a b=B8 a b:=by
 unfold B9 B8;rw[enc_eq,enc_eq,Qk2,Qk3]
theorem Qgd (d:Nh):Jv d=Y4 d:=by
 unfold Jv Y4;rw[Qgb]
end Go.Proofs.YteleondjndkpbaaGreatDoor
