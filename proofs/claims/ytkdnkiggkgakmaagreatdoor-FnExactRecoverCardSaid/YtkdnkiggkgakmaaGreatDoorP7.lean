/- Texts of this proof, put together by a program: Rca, Rcb, Rcc, Rcd, Rce, Ma, He, Lw, Sz, Fam. -/
import Derived.Test.YtkdnkiggkgakmaaGreatDoorP6
import Derived.KernelRfl
import Derived.Test.YtkdnkiggkgakmaaGreatDoorProg
import Derived.Laws.IdiomStrings
set_option linter.unusedVariables false
set_option linter.unusedSimpArgs false
namespace Go.Proofs.YtkdnkiggkgakmaaGreatDoor
open _root_ renaming Int → Y, Nat → W, List → S, Bool → uA, cond_false → uB, cond_true → uC, Unit → uD, ByteArray → uE, if_neg → uF, decide_eq_false → uG, decide_eq_true → uH, if_pos → uI, of_decide_eq_false → uK, of_decide_eq_true → uL, Inhabited → uM
open _root_.Bool renaming false → I, true → H
open _root_.Go renaming World → E, Value → D, maxLen → A, Program → uJ
open _root_.Option renaming some → T, none → G
open _root_.Go.Proofs.Tryz renaming prog → uN
open _root_.Go.Proofs.Tryz
open _root_.And renaming intro → zY
open _root_.Bool renaming and_eq_true → zQ
open _root_.ByteArray renaming size → yB
open _root_.Exists renaming intro → zU
open _root_.List renaming mem_append → zD, nodup_append → zE, getElem?_eq_getElem → zF, take_length → zG, nil_append → zL, cons_append → zM, drop_eq_getElem_cons → zN, append_assoc → zO, append_nil → zP, length → zR, mem_cons → zS, length_set → zT, set → zW, mem_cons_of_mem → zZ, getD_eq_getElem?_getD → yA, mem_cons_self → yC, map_cons → yE, sum_cons → yF, map_id → yG, nodup_nil → yH, replicate → yI
open _root_.Nat renaming le_trans → zJ, zero_le → zK, le_refl → zX, lt_of_lt_of_le → yD, beq → yJ
open _root_.Option renaming map_eq_some_iff → zV
open _root_.Option.some renaming inj → zH
open _root_.UInt8 renaming ofNat → yK
section
open Go.RowKit
open GoE (enc wide)
def Fo(_:W)(a:Qo)(b:S Qo):Rd (S Qo) (S Qo) (S Qo):=(.next (b++ [a]))
def Fp(_:W)(a:S Qo):(S Qo):=a
def Cv(r:S Qo):(S Qo):=(Out.on (X8 Fo Fp r 0 []) (λa=>a))
theorem KB(r:S Qo):ACalls uN 120 [.h r] (.o 0 (Cv r)):=by
 refine en func120 λ_ _ _=>sn [0,2] [] p0 ?_
 refine tn [0,2,3] [] p0<|Qa<|tu [(2,.e 0),(3,.one (.slc (.own H 384) 2 [])),(7,.h r),(8,.i (r.length:Y)),(9,.i 0)] [0] [] [] (pl 1 r p0)<|wT 7 0 .sh r (λg h=>?_)
 refine CA Fo Fp r [] (λb a=> [(3,.o 147201 a),(9,.i (b:Y))]) [3,9] (λf=> [(3,.o 147351 f)]) [3,7,8,9] (λb a=>zR a<=b) (wsf [(384,147201)]) (by simp) (λb a O U=>?_) (λb a O U=>?_) (λf e=>?_)
 ·have d:=U.2;obtain⟨c,V⟩:=Xo (l:=r) (i:=b) O;refine sn [2,3,7,8,9,10] [] (pe 0 (zB ((b:Y)<(r.length:Y))) p0)<|Qa<|ckT<|Qd<|Qa<|Qp<|tn [2,3,5,7,8,9] [5] (pn 0 V p0)<|wT 3 0 (.own H 147201) a (λj k=>?_)
  refine qU [(3,.one (.slc (.own H 1344) 2 ((eL a)++ [[.s c.1,.h c.2]])))] [3] [] [] (pc 5 (Ep c.2) (pa a [c] p0)) ?_;refine eqn [(3,.o 1344 (a++ [c]))] [3] [] [] (by rw[show((eL a)++ [[.s c.1,.h c.2]])=(eL (a++ [c])) from Jg rfl (rfl)]<;>kernel_rfl) ?_;refine rn [2,3,7,8,9] [] (pw 0 b p0) ?_;exact zU (a++ [c]) (zY (wsf [(1344,147201)]) ⟨Qr V rfl U.1,by first|omega|(simp;omega) | simp⟩)
 ·have d:=U.2;exact sn [2,3,7,8,9,10] [] (pe 0 (zC ((b:Y)<(r.length:Y))) p0)<|Qa<|ckF<|Xa<|zU _ (zY (wsf [(147201,147351)]) (Xq O rfl U.1))
 exact sn [2] [] p0<|Qc<|po0 [] (Vx e rfl)
def J5(c:Wq):Wq:=((Wh c.1),(A0 c.2.1),(Cv c.2.2))
theorem KC(c:Wq):ACalls uN 68 [.a [.h c.1.1,.h c.1.2.1,.i c.1.2.2,.h c.2.1,.h c.2.2]] (.a [.o 0 ((J5 c).1.1),.o 1 ((J5 c).1.2.1),.i ((J5 c).1.2.2),.o 2 ((J5 c).2.1),.o 3 ((J5 c).2.2)]):=by
 refine en func68 λ_ _ _=>sn [1,2] [1,2] p0 ?_
 exact tN [2] [2] (pc 2 (L4 c.1) (pc 5 (M1 c.2.1) (pc 8 (KB c.2.2) p0)))<|Qc<|pz [] (show J5 c=((Wh c.1),(A0 c.2.1),(Cv c.2.2)) from rfl) (λz=> .a [.o 0 z.1.1,.o 1 z.1.2.1,.i z.1.2.2,.o 2 z.2.1,.o 3 z.2.2])
def C9(_:W)(a:Zz)(b:S Zz):Rd (Jy) (S Zz) (S Zz):=(.next (b++ [(Xp a)]))
def F7(_:W)(a:S Zz):(S Zz):=a
def Z8(x:Jy):Jy:=(Out.on (X8 C9 F7 x.2.2.2.2.1 0 []) (λa=>((J5 x.1),x.2.1,x.2.2.1,(Bg x.2.2.2.1),a,x.2.2.2.2.2)))
theorem Pn(x:Jy):ACalls uN 27 [.a [.h x.1.1.1,.h x.1.1.2.1,.i x.1.1.2.2,.h x.1.2.1,.h x.1.2.2,.s x.2.1.1,.s x.2.1.2,.i x.2.2.1,.h x.2.2.2.1,.h x.2.2.2.2.1,.h x.2.2.2.2.2]] (.a [.o 0 ((Z8 x).1.1.1),.o 1 ((Z8 x).1.1.2.1),.i ((Z8 x).1.1.2.2),.o 2 ((Z8 x).1.2.1),.o 3 ((Z8 x).1.2.2),.s ((Z8 x).2.1.1),.s ((Z8 x).2.1.2),.i ((Z8 x).2.2.1),.o 4 ((Z8 x).2.2.2.1),.o 5 ((Z8 x).2.2.2.2.1),.o 6 ((Z8 x).2.2.2.2.2)]):=by
 refine en func27 λ_ _ _=>sn [1,2] [1,2] p0 ?_
 refine tn [1,2,3] [1,2] p0<|Qa<|tu [(1,.p 1 0),(2,.p 2 0),(3,.one (.slc (.own H 384) 4 [])),(8,.h x.2.2.2.2.1),(9,.i (x.2.2.2.2.1.length:Y)),(10,.i 0)] [0] [(1, [.h x.1.1.1,.h x.1.1.2.1,.i x.1.1.2.2,.h x.1.2.1,.h x.1.2.2,.s x.2.1.1,.s x.2.1.2,.i x.2.2.1,.h x.2.2.2.1,.h x.2.2.2.2.1,.h x.2.2.2.2.2]),(2, [.e 2,.e 5,.i 0,.e 2,.e 2,.s ⟨#[]⟩,.s ⟨#[]⟩,.i 0,.e 6,.e 4,.e 1])] [] (pl 2 x.2.2.2.2.1 p0)<|wT 8 0 .sh x.2.2.2.2.1 (λg h=>?_)
 refine CA C9 F7 x.2.2.2.2.1 [] (λc b=> [(3,.o 147202 b),(10,.i (c:Y))]) [3,10] (λe=> [(3,.o 147352 e)]) [3,8,9,10] (λc b=>zR b<=c) (wsf [(384,147202)]) (by simp) (λc b O U=>?_) (λc b O U=>?_) (λe f=>?_)
 ·have d:=U.2;obtain⟨a,V⟩:=Xo (l:=x.2.2.2.2.1) (i:=c) O;refine su [(11,.b H)] [] [] [] (pe 0 (zB ((c:Y)<(x.2.2.2.2.1.length:Y))) p0)<|Qa<|ckT<|Qd<|Qa<|Qp<|sn [1,2,3,5,8,9,10] [1,2,5] (pn 0 V p0)<|wT 3 0 (.own H 147202) b (λj k=>?_)
  refine qu [(3,.one (.slc (.own H 1152) 4 ((eL b)++ [[.i ((Xp a).1),.s ((Xp a).2.1),.h ((Xp a).2.2.1),.h ((Xp a).2.2.2)]])))] [3,11] [] [] (pc 2 (Rx a) (pa b [(Xp a)] p0)) ?_;refine eqn [(3,.o 1152 (b++ [(Xp a)]))] [3] [] [] (by rw[show((eL b)++ [[.i ((Xp a).1),.s ((Xp a).2.1),.h ((Xp a).2.2.1),.h ((Xp a).2.2.2)]])=(eL (b++ [(Xp a)])) from Jg rfl (rfl)]<;>kernel_rfl) ?_;refine rn [1,2,3,8,9,10] [1,2] (pw 0 c p0) ?_;exact zU (b++ [(Xp a)]) (zY (wsf [(1152,147202)]) ⟨Qr V rfl U.1,by first|omega|(simp;omega) | simp⟩)
 ·have d:=U.2;exact su [(11,.b I)] [] [] [] (pe 0 (zC ((c:Y)<(x.2.2.2.2.1.length:Y))) p0)<|Qa<|ckF<|Xa<|zU _ (zY (wsf [(147202,147352)]) (Xq O rfl U.1))
 exact sn [1,2,3] [1,2] (pc 2 (KC x.1) p0)<|tn [1,2,3] [1,2] (pc 2 (YZ x.2.2.2.1) p0)<|tu [] [3] [(1, [.o 1408 ((J5 x.1).1.1),.o 1409 ((J5 x.1).1.2.1),.i ((J5 x.1).1.2.2),.o 1410 ((J5 x.1).2.1),.o 1411 ((J5 x.1).2.2),.s x.2.1.1,.s x.2.1.2,.i x.2.2.1,.o 1664 (Bg x.2.2.2.1),.o 147352 e,.h x.2.2.2.2.2])] [1] p0<|sn [1,2] [1,2] (pc 2 (Ep x.2.2.2.2.2) p0)<|tn [2] [2] p0<|Qc<|pz [] (show Z8 x=_ from Vx f rfl) (λz=> .a [.o 0 z.1.1.1,.o 1 z.1.1.2.1,.i z.1.1.2.2,.o 2 z.1.2.1,.o 3 z.1.2.2,.s z.2.1.1,.s z.2.1.2,.i z.2.2.1,.o 4 z.2.2.2.1,.o 5 z.2.2.2.2.1,.o 6 z.2.2.2.2.2])
def F8(_:W)(a:Qo)(b:S Qo):Rd (S Qo) (S Qo) (S Qo):=(.next (b++ [a]))
def F9(_:W)(a:S Qo):(S Qo):=a
def Dp(a:S Qo):(S Qo):=(Out.on (X8 F8 F9 a 0 []) (λb=>b))
theorem VL(c:S Qo):ACalls uN 101 [.h c] (.o 0 (Dp c)):=by
 refine en func101 λ_ _ _=>sn [0,2] [] p0 ?_
 refine tn [0,2,3] [] p0<|Qa<|tu [(2,.e 0),(3,.one (.slc (.own H 320) 2 [])),(4,.i 0)] [] [] [] p0<|wT 0 0 .sh c (λf j=>?_)
 refine CA F8 F9 c [] (λd a=> [(3,.o 147202 a),(4,.i (d:Y))]) [3,4] (λh=> [(3,.o 147352 h)]) [0,3,4] (λd a=>zR a<=d) (wsf [(320,147202)]) (by simp) (λd a O U=>?_) (λd a O U=>?_) (λh g=>?_)
 ·have e:=U.2;obtain⟨b,V⟩:=Xo (l:=c) (i:=d) O;refine Qa<|sn [0,2,3,4,9] [] (pl 2 c (pe 3 (zB ((d:Y)<(c.length:Y))) p0))<|ckT<|Qd<|Qa<|Qp ?_
  have k:zR b.2<=1073741824:=Du (Is (Sa V (f)));refine wT 3 0 (.own H 147202) a (λm o=>?_);refine qU [(3,.one (.slc (.own H 1728) 2 ((eL a)++ [[.s b.1,.slc 1 ([]++(eL b.2))]])))] [3] [] [] (pn 3 V (pn 9 V (po 12 (.flat) (px (Db (n:=(([]:S (S PV)).length+((eL b.2):S (S PV)).length)) (Eo rfl (Yu b.2) (by first|omega|(simp only[List.length_cons,List.length_nil];omega) | (simp;omega) | simp))) (px (Ae (Uz b.2)) (px (Db (n:=(((eL a):S (S PV)).length+([[.s b.1,.slc 1 ([]++(eL b.2))]]:S (S PV)).length)) (Eo (Yu a) rfl (by first|omega|(simp only[List.length_cons,List.length_nil];omega) | (simp;omega) | simp))) p0)))))) ?_;refine eqn [(3,.o 1728 (a++ [b]))] [3] [] [] (by rw[show((eL a)++ [[.s b.1,.slc 1 ([]++(eL b.2))]])=(eL (a++ [b])) from Jg rfl (rfl)]<;>kernel_rfl) ?_;refine rn [0,2,3,4] [] (pw 1 d p0) ?_;exact zU (a++ [b]) (zY (wsf [(1728,147202)]) ⟨Qr V rfl U.1,by first|omega|(simp;omega) | simp⟩)
 ·have e:=U.2;exact Qa<|sn [0,2,3,4,9] [] (pl 2 c (pe 3 (zC ((d:Y)<(c.length:Y))) p0))<|ckF<|Xa<|zU _ (zY (wsf [(147202,147352)]) (Xq O rfl U.1))
 exact sn [2] [] p0<|Qc<|po0 [] (Vx g rfl)
def Y3(l:Wq):Wq:=((Hm l.1),(Cu l.2.1),(Dp l.2.2))
theorem IW(l:Wq):ACalls uN 49 [.a [.h l.1.1,.h l.1.2.1,.i l.1.2.2,.h l.2.1,.h l.2.2]] (.a [.o 0 ((Y3 l).1.1),.o 1 ((Y3 l).1.2.1),.i ((Y3 l).1.2.2),.o 2 ((Y3 l).2.1),.o 3 ((Y3 l).2.2)]):=by
 refine en func49 λ_ _ _=>sn [1,2] [1,2] p0 ?_
 exact tN [2] [2] (pc 2 (Oq l.1) (pc 5 (Ot l.2.1) (pc 8 (VL l.2.2) p0)))<|Qc<|pz [] (show Y3 l=((Hm l.1),(Cu l.2.1),(Dp l.2.2)) from rfl) (λz=> .a [.o 0 z.1.1,.o 1 z.1.2.1,.i z.1.2.2,.o 2 z.2.1,.o 3 z.2.2])
def Gm(_:W)(a:Zz)(b:S Zz):Rd (Jy) (S Zz) (S Zz):=(.next (b++ [(Qh a)]))
def M4(_:W)(a:S Zz):(S Zz):=a
def Ve(x:Jy):Jy:=(Out.on (X8 Gm M4 x.2.2.2.2.1 0 []) (λa=>((Y3 x.1),x.2.1,x.2.2.1,(Ka x.2.2.2.1),a,x.2.2.2.2.2)))
theorem IX(x:Jy):ACalls uN 16 [.a [.h x.1.1.1,.h x.1.1.2.1,.i x.1.1.2.2,.h x.1.2.1,.h x.1.2.2,.s x.2.1.1,.s x.2.1.2,.i x.2.2.1,.h x.2.2.2.1,.h x.2.2.2.2.1,.h x.2.2.2.2.2]] (.a [.o 0 ((Ve x).1.1.1),.o 1 ((Ve x).1.1.2.1),.i ((Ve x).1.1.2.2),.o 2 ((Ve x).1.2.1),.o 3 ((Ve x).1.2.2),.s ((Ve x).2.1.1),.s ((Ve x).2.1.2),.i ((Ve x).2.2.1),.o 4 ((Ve x).2.2.2.1),.o 5 ((Ve x).2.2.2.2.1),.o 6 ((Ve x).2.2.2.2.2)]):=by
 refine en func16 λ_ _ _=>sn [1,2] [1,2] p0 ?_
 refine wB 1 10 .sh x.2.2.2.2.2 (λg h=>?_);refine tN [1,2,3] [1,2,3] (pc 2 (IW x.1) (pc 9 (Ou x.2.2.2.1) (po 13 (.flat) (px (Db (n:=(([]:S (S PV)).length+((eL x.2.2.2.2.2):S (S PV)).length)) (Eo rfl (Yu x.2.2.2.2.2) (by first|omega|(simp only[List.length_cons,List.length_nil];omega) | (simp;omega) | simp))) (px (Ae (Uz x.2.2.2.2.2)) p0)))))<|Qa<|tu [(1,.p 1 0),(2,.p 2 0),(3,.p 3 0),(4,.i 0)] [0] [(1, [.h x.1.1.1,.h x.1.1.2.1,.i x.1.1.2.2,.h x.1.2.1,.h x.1.2.2,.s x.2.1.1,.s x.2.1.2,.i x.2.2.1,.h x.2.2.2.1,.h x.2.2.2.2.1,.h x.2.2.2.2.2]),(2, [.e 2,.e 5,.i 0,.e 2,.e 2,.s ⟨#[]⟩,.s ⟨#[]⟩,.i 0,.e 6,.e 4,.e 1]),(3, [.o 448 ((Y3 x.1).1.1),.o 449 ((Y3 x.1).1.2.1),.i ((Y3 x.1).1.2.2),.o 450 ((Y3 x.1).2.1),.o 451 ((Y3 x.1).2.2),.s x.2.1.1,.s x.2.1.2,.i x.2.2.1,.o 896 (Ka x.2.2.2.1),.e 4,.o 1152 x.2.2.2.2.2])] [] p0<|wB 1 9 .sh x.2.2.2.2.1 (λj k=>?_)
 refine VB Gm M4 x.2.2.2.2.1 [] (λc _=> [(4,.i (c:Y))]) [4] (λ_ b=> [(3, [.o 448 ((Y3 x.1).1.1),.o 449 ((Y3 x.1).1.2.1),.i ((Y3 x.1).1.2.2),.o 450 ((Y3 x.1).2.1),.o 451 ((Y3 x.1).2.2),.s x.2.1.1,.s x.2.1.2,.i x.2.2.1,.o 896 (Ka x.2.2.2.1),.o 147235 b,.o 1152 x.2.2.2.2.2])]) [3] (λ_=> []) [1,4] (λf=> [(3, [.o 448 ((Y3 x.1).1.1),.o 449 ((Y3 x.1).1.2.1),.i ((Y3 x.1).1.2.2),.o 450 ((Y3 x.1).2.1),.o 451 ((Y3 x.1).2.2),.s x.2.1.1,.s x.2.1.2,.i x.2.2.1,.o 896 (Ka x.2.2.2.1),.o 147385 f,.o 1152 x.2.2.2.2.2])]) [1,3] (λc b=>zR b<=c) (wgf [(H,3,9,H,320008,4)] [] [] [(320008,147235)]) (by simp) (λc b O U=>?_) (λc b O U=>?_) (λf e=>?_)
 ·have d:=U.2;obtain⟨a,V⟩:=Xo (l:=x.2.2.2.2.1) (i:=c) O;refine Qa<|su [(24,.b H)] [] [] [] (pl 3 x.2.2.2.2.1 (pe 4 (zB ((c:Y)<(x.2.2.2.2.1.length:Y))) p0))<|ckT<|Qd<|Qa<|Qp<|wB 3 9 (.own H 147235) b (λm o=>?_)
  refine rU [] [24] [(3, [.o 448 ((Y3 x.1).1.1),.o 449 ((Y3 x.1).1.2.1),.i ((Y3 x.1).1.2.2),.o 450 ((Y3 x.1).2.1),.o 451 ((Y3 x.1).2.2),.s x.2.1.1,.s x.2.1.2,.i x.2.2.1,.o 896 (Ka x.2.2.2.1),.slc (.own H 2304) 4 ((eL b)++ [[.i ((Qh a).1),.s ((Qh a).2.1),.h ((Qh a).2.2.1),.h ((Qh a).2.2.2)]]),.o 1152 x.2.2.2.2.2])] [3] (pn 5 V (pc 7 (YX a) (pa b [(Qh a)] p0))) ?_;refine eqn [] [] [(3, [.o 448 ((Y3 x.1).1.1),.o 449 ((Y3 x.1).1.2.1),.i ((Y3 x.1).1.2.2),.o 450 ((Y3 x.1).2.1),.o 451 ((Y3 x.1).2.2),.s x.2.1.1,.s x.2.1.2,.i x.2.2.1,.o 896 (Ka x.2.2.2.1),.o 2304 (b++ [(Qh a)]),.o 1152 x.2.2.2.2.2])] [3] (by rw[show((eL b)++ [[.i ((Qh a).1),.s ((Qh a).2.1),.h ((Qh a).2.2.1),.h ((Qh a).2.2.2)]])=(eL (b++ [(Qh a)])) from Jg rfl (rfl)]<;>kernel_rfl) ?_;refine rn [1,2,3,4] [1,2,3] (pw 1 c p0) ?_;exact zU (b++ [(Qh a)]) (zY (wsf [(2304,147235)]) ⟨Qr V rfl U.1,by first|omega|(simp;omega) | simp⟩)
 ·have d:=U.2;exact Qa<|su [(24,.b I)] [] [] [] (pl 3 x.2.2.2.2.1 (pe 4 (zC ((c:Y)<(x.2.2.2.2.1.length:Y))) p0))<|ckF<|Xa<|zU _ (zY (wsf [(147235,147385)]) (Xq O rfl U.1))
 exact sn [2] [2] p0<|Qc<|pz [] (show Ve x=_ from Vx e rfl) (λz=> .a [.o 0 z.1.1.1,.o 1 z.1.1.2.1,.i z.1.1.2.2,.o 2 z.1.2.1,.o 3 z.1.2.2,.s z.2.1.1,.s z.2.1.2,.i z.2.2.1,.o 4 z.2.2.2.1,.o 5 z.2.2.2.2.1,.o 6 z.2.2.2.2.2])
def Xj(a:Yl)(d:S Zo):Wq×uA:=(bif (!(((Zv a d)).2)) then((([], [],0), [], []),I) else(((Wh a),(A0 d),((Zv a d)).1),H))
theorem VM(a:Yl)(d:S Zo):ACalls uN 28 [.a [.h a.1,.h a.2.1,.i a.2.2],.h d] (.tup [(H, [.o 0 ((((Xj a d)).1).1.1),.o 1 ((((Xj a d)).1).1.2.1),.i ((((Xj a d)).1).1.2.2),.o 2 ((((Xj a d)).1).2.1),.o 3 ((((Xj a d)).1).2.2)]),(I, [.b (((Xj a d)).2)])]):=by
 refine en func28 λ_ _ _=>sn [1,2,4,5] [2,4] p0 ?_
 refine tn [1,2,4,5,6,7] [2,4] (pc 2 (Tf a d) p0)<|Qa<|tu [(2,.p 2 0),(4,.p 4 0),(5,.b I),(6,.o 704 (((Zv a d)).1)),(15,.b (!(((Zv a d)).2)))] [0] [(2, [.h a.1,.h a.2.1,.i a.2.2]),(4, [.e 2,.e 5,.i 0,.e 2,.e 2])] [] p0<|ck (!(((Zv a d)).2)) (λb=>?_) (λb=>?_)
 ·refine su [] [15] [] [] p0<|opn [(H,4,0,H,384000,2),(H,4,1,H,384001,5),(H,4,3,H,384002,2),(H,4,4,H,384003,2)] ?_
  exact Qc<|pz [] (show Xj a d=_ from Xg b rfl) (λz=> .tup [(H, [.o 0 z.1.1.1,.o 1 z.1.1.2.1,.i z.1.1.2.2,.o 2 z.1.2.1,.o 3 z.1.2.2]),(I, [.b z.2])])
 exact Qd<|sn [4,5] [4] (pc 1 (L4 a) (pc 3 (M1 d) p0))<|Qc<|pz [] (show Xj a d=_ from Qi b rfl) (λz=> .tup [(H, [.o 0 z.1.1.1,.o 1 z.1.1.2.1,.i z.1.1.2.2,.o 2 z.1.2.1,.o 3 z.1.2.2]),(I, [.b z.2])])
def Xc(a:Yl)(d:S Zo):Wq×uA:=(bif (!(((Wn a d)).2)) then((([], [],0), [], []),I) else(((Hm a),(Cu d),((Wn a d)).1),H))
theorem VN(a:Yl)(d:S Zo):ACalls uN 18 [.a [.h a.1,.h a.2.1,.i a.2.2],.h d] (.tup [(H, [.o 0 ((((Xc a d)).1).1.1),.o 1 ((((Xc a d)).1).1.2.1),.i ((((Xc a d)).1).1.2.2),.o 2 ((((Xc a d)).1).2.1),.o 3 ((((Xc a d)).1).2.2)]),(I, [.b (((Xc a d)).2)])]):=by
 refine en func18 λ_ _ _=>sn [1,2,4,5] [2,4] p0 ?_
 refine tn [1,2,4,5,6,7] [2,4] (pc 2 (Tg a d) p0)<|Qa<|tu [(2,.p 2 0),(4,.p 4 0),(5,.b I),(6,.o 704 (((Wn a d)).1)),(15,.b (!(((Wn a d)).2)))] [0] [(2, [.h a.1,.h a.2.1,.i a.2.2]),(4, [.e 2,.e 5,.i 0,.e 2,.e 2])] [] p0<|ck (!(((Wn a d)).2)) (λb=>?_) (λb=>?_)
 ·refine su [] [15] [] [] p0<|opn [(H,4,0,H,384000,2),(H,4,1,H,384001,5),(H,4,3,H,384002,2),(H,4,4,H,384003,2)] ?_
  exact Qc<|pz [] (show Xc a d=_ from Xg b rfl) (λz=> .tup [(H, [.o 0 z.1.1.1,.o 1 z.1.1.2.1,.i z.1.1.2.2,.o 2 z.1.2.1,.o 3 z.1.2.2]),(I, [.b z.2])])
 exact Qd<|sn [4,5] [4] (pc 1 (Oq a) (pc 3 (Ot d) p0))<|Qc<|pz [] (show Xc a d=_ from Qi b rfl) (λz=> .tup [(H, [.o 0 z.1.1.1,.o 1 z.1.1.2.1,.i z.1.1.2.2,.o 2 z.1.2.1,.o 3 z.1.2.2]),(I, [.b z.2])])
def U2(c:S Ya)(b:W)(a:Ya)(_:uD):Rd (uA) (uD) (uD):=(bif ((!(Q8 a.1 1 1000000000))|| ((!(Xe a.2.1))|| ((!(Q8 a.2.2 0 99))|| (decide ((b:Y)>(0:Y))&&decide ((nth c ((b:Y)-1).toNat).1>=a.1))))) then(.ret I) else(.next ()))
def Bb(_:W)(_:uD):uD:=()
def Zh(a:S Ya):uA:=(Out.on (X8 (U2 a) Bb a 0 ()) (λ_=>decide ((a.length:Y)<=(6:Y))))
theorem Bp(c:S Ya):ACalls uN 57 [.h c] (.b (Zh c)):=by
 refine en func57 λ_ _ _=>sn [0,2] [] p0 ?_
 refine Qa<|tn [0,2,3] [] p0<|mz [(2,.b I),(3,.i 0)] [] [] []<|wT 0 0 .sh c (λa1 a2=>?_)
 refine S7 (U2 c) Bb c () (λb _=> [(3,.i (b:Y))]) [3] (λ_=> []) [3] wf0 (λb s0 O U=>?_) (λb s0 O U=>?_) (λy0 v=>?_)
 ·obtain⟨a,V⟩:=Xo (l:=c) (i:=b) O;refine Qa<|sn [0,2,3,7] [] (pl 2 c (pe 3 (zB ((b:Y)<(c.length:Y))) p0))<|ckT<|Qd<|Qa<|Qp<|Qa<|mz [(7,.b H)] [] [] []<|jn [(52,.b ((!(Q8 a.1 1 1000000000))|| ((!(Xe a.2.1))|| ((!(Q8 a.2.2 0 99))|| (decide ((b:Y)>(0:Y))&&decide ((nth c ((b:Y)-1).toNat).1>=a.1))))))] [7] [] [] (!(Q8 a.1 1 1000000000)) (λj=>?_) (λj=>?_) ?_
  ·have d:(Q8 a.1 1 1000000000)=I:=V1 j;refine rN [0,2,3,52] [] (pn 2 V (pc 5 (cb d (Yw a.1 1 1000000000)) (pe 6 (show .b (!I)= .b H from rfl) p0))) ?_;exact zA (by rw[j]<;>kernel_rfl)
  ·have d:(Q8 a.1 1 1000000000)=H:=Z5 j;have r:=Vb.1 d;have r:=Vb.1 d;refine X4 (!(Xe a.2.1)) (λm=>?_) (λm=>?_)
   ·have g:(Xe a.2.1)=I:=V1 m;refine rN [0,2,3,52] [] (pn 2 V (pc 5 (cb d (Yw a.1 1 1000000000)) (pe 6 (show .b (!H)= .b I from rfl) (pn 10 V (pc 13 (cb g (J3 a.2.1)) (pe 14 (show .b (!I)= .b H from rfl) p0)))))) ?_;exact zA (by rw[j,m]<;>kernel_rfl)
   have g:(Xe a.2.1)=H:=Z5 m;refine X4 (!(Q8 a.2.2 0 99)) (λp=>?_) (λp=>?_)
   ·have f:(Q8 a.2.2 0 99)=I:=V1 p;refine rN [0,2,3,52] [] (pn 2 V (pc 5 (cb d (Yw a.1 1 1000000000)) (pe 6 (show .b (!H)= .b I from rfl) (pn 10 V (pc 13 (cb g (J3 a.2.1)) (pe 14 (show .b (!H)= .b I from rfl) (pn 19 V (pc 22 (cb f (Yw a.2.2 0 99)) (pe 23 (show .b (!I)= .b H from rfl) p0))))))))) ?_;exact zA (by rw[j,m,p]<;>kernel_rfl)
   have f:(Q8 a.2.2 0 99)=H:=Z5 p;have s:=Vb.1 f;have s:=Vb.1 f;refine X4 (decide ((b:Y)>(0:Y))) (λq=>?_) (λq=>?_)
   ·have a3:=uL q;have w:=ng c ((b:Y)-1).toNat;refine rN [0,2,3,52] [] (pn 2 V (pc 5 (cb d (Yw a.1 1 1000000000)) (pe 6 (show .b (!H)= .b I from rfl) (pn 10 V (pc 13 (cb g (J3 a.2.1)) (pe 14 (show .b (!H)= .b I from rfl) (pn 19 V (pc 22 (cb f (Yw a.2.2 0 99)) (pe 23 (show .b (!H)= .b I from rfl) (pt 27 q (pe 31 (G6 (IntWalk.i64_in ((b:Y)-1) (by omega))) (pg 32 ((b:Y)-1) w (pn 37 V p0))))))))))))) ?_;exact zA (by rw[j,m,p,q]<;>kernel_rfl)
   refine rN [0,2,3,52] [] (pn 2 V (pc 5 (cb d (Yw a.1 1 1000000000)) (pe 6 (show .b (!H)= .b I from rfl) (pn 10 V (pc 13 (cb g (J3 a.2.1)) (pe 14 (show .b (!H)= .b I from rfl) (pn 19 V (pc 22 (cb f (Yw a.2.2 0 99)) (pe 23 (show .b (!H)= .b I from rfl) (pf 27 q p0)))))))))) ?_;exact zA (by rw[j,m,p,q]<;>kernel_rfl)
  refine ck ((!(Q8 a.1 1 1000000000))|| ((!(Xe a.2.1))|| ((!(Q8 a.2.2 0 99))|| (decide ((b:Y)>(0:Y))&&decide ((nth c ((b:Y)-1).toNat).1>=a.1))))) (λt=>?_) (λt=>?_)
  ·refine sn [0,2,3] [] p0<|Qc ?_
   have x:(X8 (U2 c) Bb c 0 ())= .ret I:=Kj V (Xg t rfl) U;exact pb [] (Pq x)
  have y:((!(Q8 a.1 1 1000000000)))=I:=CG t;have k:(Q8 a.1 1 1000000000)=H:=Z5 y;have n:=Vb.1 k;have n:=Vb.1 k;have z:(((!(Xe a.2.1))|| ((!(Q8 a.2.2 0 99))|| (decide ((b:Y)>(0:Y))&&decide ((nth c ((b:Y)-1).toNat).1>=a.1)))))=I:=FW t;have u:(((!(Q8 a.2.2 0 99))|| (decide ((b:Y)>(0:Y))&&decide ((nth c ((b:Y)-1).toNat).1>=a.1))))=I:=FW z;have o:((!(Q8 a.2.2 0 99)))=I:=CG u;have e:(Q8 a.2.2 0 99)=H:=Z5 o;have h:=Vb.1 e;have h:=Vb.1 e;refine Qd<|rn [0,2,3] [] (pw 1 b p0) ?_
  exact xw _ (Qr V (Qi t rfl) U)
 ·exact Qa<|sn [0,2,3,7] [] (pl 2 c (pe 3 (zC ((b:Y)<(c.length:Y))) p0))<|ckF<|Xa<|xw _ (Xq O rfl U)
 exact sn [2] [] (pl 1 c p0)<|Qc<|pb [] (Vx v rfl)
def Z7(b:S Ya)(a:Y)(x:Qw):(S Ya)×uA:=(bif ((!(Zh b))|| (!(Zh (Ka b++ [((a,(Yh x),0):Ya)])))) then((Ka b),I) else(Ka b++ [((a,(Yh x),0):Ya)],H))
theorem QF(b:S Ya)(a:Y)(x:Qw)(g:(b.length:Y)<1073741824):ACalls uN 19 [.h b,.i a,.a [.h x.1.1,.h x.1.2.1,.i x.1.2.2,.h x.2]] (.tup [(I, [.o 0 (((Z7 b a x)).1)]),(I, [.b (((Z7 b a x)).2)])]):=by
 refine en func19 λ_ _ _=>?_
 have f:=Qae b;refine sn [0,1,5,6,7] [5] p0<|tU [(6,.e 0),(7,.b I),(8,.one (.slc (.own H 1024) 6 ((eL (Ka b))++ [[.i a,.h ((Yh x).1.1),.h ((Yh x).1.2.1),.i ((Yh x).1.2.2),.h ((Yh x).2),.i 0]])))] [1,2] [] [] (pc 1 (Ou b) (pc 4 (To x) (pa (Ka b) [((a,(Yh x),0):Ya)] p0)))<|eqn [(8,.o 1024 (Ka b++ [((a,(Yh x),0):Ya)]))] [8] [] [] (by rw[show((eL (Ka b))++ [[.i a,.h ((Yh x).1.1),.h ((Yh x).1.2.1),.i ((Yh x).1.2.2),.h ((Yh x).2),.i 0]])=(eL (Ka b++ [((a,(Yh x),0):Ya)])) from Jg rfl (rfl)]<;>kernel_rfl) ?_
 refine Qa<|Qa<|jn [(24,.b ((!(Zh b))|| (!(Zh (Ka b++ [((a,(Yh x),0):Ya)])))))] [] [] [] (!(Zh b)) (λd=>?_) (λd=>?_) ?_
 ·have c:(Zh b)=I:=V1 d;refine rn [0,6,7,8,24] [] (pc 1 (cb c (Bp b)) (pe 2 (show .b (!I)= .b H from rfl) p0)) ?_;exact zA (by rw[d]<;>kernel_rfl)
 ·have c:(Zh b)=H:=Z5 d;refine rn [0,6,7,8,24] [] (pc 1 (cb c (Bp b)) (pe 2 (show .b (!H)= .b I from rfl) (pc 5 (Bp (Ka b++ [((a,(Yh x),0):Ya)])) p0))) ?_;exact zA (by rw[d]<;>kernel_rfl)
 refine ck ((!(Zh b))|| (!(Zh (Ka b++ [((a,(Yh x),0):Ya)])))) (λe=>?_) (λe=>?_)
 ·exact sn [6,7,8] [] (pc 1 (Ou b) p0)<|Qc<|pz [] (show Z7 b a x=_ from Xg e rfl) (λz=> .tup [(I, [.o 0 z.1]),(I, [.b z.2])])
 exact Qd<|sn [6,7] [] p0<|Qc<|pz [] (show Z7 b a x=_ from Qi e rfl) (λz=> .tup [(I, [.o 0 z.1]),(I, [.b z.2])])
def Aw(w:Zz):Y:=(bif ((w.2.2.2.length:Y)==(0:Y)) then 0 else(nth w.2.2.2 ((w.2.2.2.length:Y)-1).toNat).1)
theorem KD(w:Zz):ACalls uN 29 [.a [.i w.1,.s w.2.1,.h w.2.2.1,.h w.2.2.2]] (.i (Aw w)):=by
 refine en func29 λ_ _ _=>sn [1,2] [1] p0 ?_
 refine Qa<|tn [1,2,6] [1] (pl 2 w.2.2.2 p0)<|ck ((w.2.2.2.length:Y)==(0:Y)) (λa=>?_) (λa=>?_)
 ·exact tu [(1,.p 1 0),(2,.i 0)] [0] [(1, [.i w.1,.s w.2.1,.h w.2.2.1,.h w.2.2.2])] [] p0<|Qc<|pi [] (Xg a rfl)
 have c:=Yi a;refine Qd<|wB 1 3 .sh w.2.2.2 (λd e=>?_)
 have b:=ng w.2.2.2 ((w.2.2.2.length:Y)-1).toNat;exact tu [(2,.i ((nth w.2.2.2 ((w.2.2.2.length:Y)-1).toNat).1))] [0] [] [] (pl 4 w.2.2.2 (pe 5 (G6 (IntWalk.i64_in ((w.2.2.2.length:Y)-1) (by omega))) (pg 6 ((w.2.2.2.length:Y)-1) b p0)))<|Qc<|pi [] (Qi a rfl)
theorem CU(r:S Qo):Cv r=r:=by
 unfold Cv;rw[Wu (f:=Fo) (e:=Fp) (g:=id) (λ_ _ _=>rfl),yG];rfl
theorem IY(r:S Qo):Dp r=r:=by
 unfold Dp;rw[Wu (f:=F8) (e:=F9) (g:=id) (λ_ _ _=>rfl),yG];rfl
theorem CV(c:Wq):J5 c=c:=by
 unfold J5;rw[Mh,Ov,CU]
theorem Qeh(c:Wq):Y3 c=c:=by
 unfold Y3;rw[JY,JZ,IY]
theorem I2(x:Jy):Z8 x=x:=by
 unfold Z8;rw[Wu (f:=C9) (e:=F7) (g:=id) (λ_ a _=>by unfold C9;rw[Mg];rfl),yG,CV,BT];rfl
theorem EW(x:Jy):Ve x=x:=by
 unfold Ve;rw[Wu (f:=Gm) (e:=M4) (g:=id) (λ_ a _=>by unfold Gm;rw[Nl];rfl),yG,Qeh,KA];rfl
theorem Qcv{α:Type}[GoD α][uM α]:∀(l:S α) (k:W),k<l.length->GoD.size (nth l k)<=GoD.size l
 | [],k,h=>by simp at h
 | a::l,0,_=>by
   have b:GoD.size (a::l)=GoD.size [a]+GoD.size l:=So [a] l;rw[WO] at b;show GoD.size a<=_;omega
 | a::l,k+1,h=>by
   have b:GoD.size (a::l)=GoD.size [a]+GoD.size l:=So [a] l;have:=Qcv l k (by simpa using h);show GoD.size (nth l k)<=_;omega
theorem IZ{x:Jy}(a:GoD.size x<=536870912){k:W}(b:k<x.2.2.2.2.1.length):GoD.size (nth x.2.2.2.2.1 k)<=536870912:=
 zJ (Qcv _ _ b) (S6 (M8 (M8 (M8 (M8 a)))))
theorem Ui{α:Type}[uM α](l:S α)(y:α){i j:W}(h:i<j):nth (zW l i y) j=nth l j:=by
 unfold nth;rw[yA,yA,List.getElem?_set_ne (by omega)]
open GoE (enc wide)
def W2(a:Y×Qw×uA)(c:W)(_:Zz)(b:S Zz):Rd (Jy×uA) (S Zz) (S Zz):=(bif decide ((Aw (nth b c))<a.1) then(.next (zW b c (Jx (nth b c) a.1 a.2.1.1 a.2.1.2))) else(.next b))
def Gn(_:W)(a:S Zz):(S Zz):=a
def Qk(x:Jy):Jy×uA:=(lt (Y1 x.2.1) (λa=>(bif (!a.2.2) then(lt (Z8 x) (λc=>(c,I))) else(lt (Z8 x) (λb=>(Out.on (X8 (W2 a) Gn b.2.2.2.2.1 0 b.2.2.2.2.1) (λd=>(((((Xj a.2.1.1 a.2.1.2)).1),b.2.1,a.1, [((a.1,a.2.1,0):Ya)],d,b.2.2.2.2.2),H))))))))
theorem ZA(x:Jy)(hp:GoD.size x<=536870912)(ha:yB x.2.1.1<=1073741000)(hb:yB x.2.1.2<=1073741000):ACalls uN 7 [.a [.h x.1.1.1,.h x.1.1.2.1,.i x.1.1.2.2,.h x.1.2.1,.h x.1.2.2,.s x.2.1.1,.s x.2.1.2,.i x.2.2.1,.h x.2.2.2.1,.h x.2.2.2.2.1,.h x.2.2.2.2.2]] (.tup [(H, [.o 0 ((((Qk x)).1).1.1.1),.o 1 ((((Qk x)).1).1.1.2.1),.i ((((Qk x)).1).1.1.2.2),.o 2 ((((Qk x)).1).1.2.1),.o 3 ((((Qk x)).1).1.2.2),.s ((((Qk x)).1).2.1.1),.s ((((Qk x)).1).2.1.2),.i ((((Qk x)).1).2.2.1),.o 4 ((((Qk x)).1).2.2.2.1),.o 5 ((((Qk x)).1).2.2.2.2.1),.o 6 ((((Qk x)).1).2.2.2.2.2)]),(I, [.b (((Qk x)).2)])]):=by
 refine en func7 λ_ _ _=>sn [1,2,3] [1,2] p0 ?_
 obtain⟨a,k⟩:=nm (Y1 x.2.1);refine tn [1,2,3,4,5,6] [1,2,5] (pc 2 (k▸Sw x.2.1 (by first | assumption | (rw[hcx1];assumption)) (by first | assumption | (rw[hcx1];assumption))) p0)<|Qa<|tu [(1,.p 1 0),(2,.p 2 0),(3,.b I),(4,.i a.1),(5,.p 5 0),(18,.b (!a.2.2))] [0] [(1, [.h x.1.1.1,.h x.1.1.2.1,.i x.1.1.2.2,.h x.1.2.1,.h x.1.2.2,.s x.2.1.1,.s x.2.1.2,.i x.2.2.1,.h x.2.2.2.1,.h x.2.2.2.2.1,.h x.2.2.2.2.2]),(2, [.e 2,.e 5,.i 0,.e 2,.e 2,.s ⟨#[]⟩,.s ⟨#[]⟩,.i 0,.e 6,.e 4,.e 1]),(5, [.o 832 a.2.1.1.1,.o 833 a.2.1.1.2.1,.i a.2.1.1.2.2,.o 834 a.2.1.2])] [] p0<|ck (!a.2.2) (λq=>?_) (λq=>?_)
 ·have t:(a.2.2)=I:=V1 q;obtain⟨x3,m⟩:=nm (Z8 x);have a1:x3=x:=m.symm.trans (I2 x);exact sn [1,2,3,4,5] [1,2,5] (pc 1 (m▸Pn x) p0)<|Qc<|pz [] (show Qk x=_ from Mq k (Xg q (Mq m rfl))) (λz=> .tup [(H, [.o 0 z.1.1.1.1,.o 1 z.1.1.1.2.1,.i z.1.1.1.2.2,.o 2 z.1.1.2.1,.o 3 z.1.1.2.2,.s z.1.2.1.1,.s z.1.2.1.2,.i z.1.2.2.1,.o 4 z.1.2.2.2.1,.o 5 z.1.2.2.2.2.1,.o 6 z.1.2.2.2.2.2]),(I, [.b z.2])])
 have t:(a.2.2)=H:=Z5 q;refine Qd ?_;obtain⟨c,n⟩:=nm (Z8 x);have h:c=x:=n.symm.trans (I2 x);refine sn [2,3,4,5,7] [2,5,7] (pc 1 (n▸Pn x) p0)<|tn [2,3,4,5,7] [2,5,7] (pc 4 (VM a.2.1.1 a.2.1.2) p0)<|tu [(7,.p 7 0)] [1,18] [(7, [.o 1792 ((((Xj a.2.1.1 a.2.1.2)).1).1.1),.o 1793 ((((Xj a.2.1.1 a.2.1.2)).1).1.2.1),.i ((((Xj a.2.1.1 a.2.1.2)).1).1.2.2),.o 1794 ((((Xj a.2.1.1 a.2.1.2)).1).2.1),.o 1795 ((((Xj a.2.1.1 a.2.1.2)).1).2.2),.s c.2.1.1,.s c.2.1.2,.i a.1,.o 1412 c.2.2.2.1,.o 1413 c.2.2.2.2.1,.o 1414 c.2.2.2.2.2])] [1] p0<|sn [2,3,4,5,7] [2,5,7] p0<|Qa<|tn [2,3,4,5,7,40,41,42] [2,5,7] (pl 2 c.2.2.2.2.1 p0)<|mz [(40,.o 1413 c.2.2.2.2.1),(41,.i (c.2.2.2.2.1.length:Y)),(42,.i 0)] [] [(5, [.v 2368 a.2.1.1.1,.v 2368 a.2.1.1.2.1,.i a.2.1.1.2.2,.v 2368 a.2.1.2]),(7, [.o 1792 ((((Xj a.2.1.1 a.2.1.2)).1).1.1),.o 1793 ((((Xj a.2.1.1 a.2.1.2)).1).1.2.1),.i ((((Xj a.2.1.1 a.2.1.2)).1).1.2.2),.o 1794 ((((Xj a.2.1.1 a.2.1.2)).1).2.1),.o 1795 ((((Xj a.2.1.1 a.2.1.2)).1).2.2),.s c.2.1.1,.s c.2.1.2,.i a.1,.o 2368 [((a.1,a.2.1,0):Ya)],.o 1413 c.2.2.2.2.1,.o 1414 c.2.2.2.2.2])] [5,7]<|wT 40 0 (.own H 1413) c.2.2.2.2.1 (λa2 a3=>?_)
 refine VB (W2 a) Gn c.2.2.2.2.1 c.2.2.2.2.1 (λb d=> [(40,.o 1413 d),(42,.i (b:Y))]) [40,42] (λ_ d=> [(7, [.o 1792 ((((Xj a.2.1.1 a.2.1.2)).1).1.1),.o 1793 ((((Xj a.2.1.1 a.2.1.2)).1).1.2.1),.i ((((Xj a.2.1.1 a.2.1.2)).1).1.2.2),.o 1794 ((((Xj a.2.1.1 a.2.1.2)).1).2.1),.o 1795 ((((Xj a.2.1.1 a.2.1.2)).1).2.2),.s c.2.1.1,.s c.2.1.2,.i a.1,.o 2368 [((a.1,a.2.1,0):Ya)],.o 1413 d,.o 1414 c.2.2.2.2.2])]) [7] (λ_=> []) [4,5,40,41,42] (λy0=> [(7, [.o 1792 ((((Xj a.2.1.1 a.2.1.2)).1).1.1),.o 1793 ((((Xj a.2.1.1 a.2.1.2)).1).1.2.1),.i ((((Xj a.2.1.1 a.2.1.2)).1).1.2.2),.o 1794 ((((Xj a.2.1.1 a.2.1.2)).1).2.1),.o 1795 ((((Xj a.2.1.1 a.2.1.2)).1).2.2),.s c.2.1.1,.s c.2.1.2,.i a.1,.o 2368 [((a.1,a.2.1,0):Ya)],.o 1413 y0,.o 1414 c.2.2.2.2.2])]) [5,7] (λb d=>zR d=zR c.2.2.2.2.1/\(∀j:W,b<=j->nth d j=nth x.2.2.2.2.1 j)) wf0 ⟨(by simp),(by(intro j _;rw[h]))⟩ (λb d O U=>?_) (λb d O U=>?_) (λy0 u=>?_)
 ·have e:=U.2.1;have f:=U.2.2;obtain⟨a0,V⟩:=Xo (l:=c.2.2.2.2.1) (i:=b) O;have v:b<x.2.2.2.2.1.length:=(by have r:=O;rw[h] at r;exact r);have w:=IZ hp v;rw[←(by first | exact e b (zX _) | exact f b (zX _):nth d b=nth x.2.2.2.2.1 b)] at w;refine su [(43,.b H)] [] [] [] (pe 0 (zB ((b:Y)<(c.2.2.2.2.1.length:Y))) p0)<|Qa<|ckT<|Qd<|Qa<|Qp<|wT 40 0 (.own H 1413) d (λa4 a5=>?_)
  have o:=ng d b;refine sn [2,3,4,5,7,8,9,40,41,42] [2,5,7,9] (pN 1 o p0)<|tn [2,3,4,5,7,8,9,40,41,42,50] [2,5,7,9] (pc 1 (KD (nth d b)) p0)<|ck (decide ((Aw (nth d b))<a.1)) (λg=>?_) (λg=>?_)
  ·have s:=uL g;refine qU [(40,.one (.slc (.own H 1413) 4 (setRow (eL d) b 0 [.i ((Jx (nth d b) a.1 a.2.1.1 a.2.1.2).1),.s ((Jx (nth d b) a.1 a.2.1.1 a.2.1.2).2.1),.h ((Jx (nth d b) a.1 a.2.1.1 a.2.1.2).2.2.1),.h ((Jx (nth d b) a.1 a.2.1.1 a.2.1.2).2.2.2)])))] [40,43] [(7, [.o 1792 ((((Xj a.2.1.1 a.2.1.2)).1).1.1),.o 1793 ((((Xj a.2.1.1 a.2.1.2)).1).1.2.1),.i ((((Xj a.2.1.1 a.2.1.2)).1).1.2.2),.o 1794 ((((Xj a.2.1.1 a.2.1.2)).1).2.1),.o 1795 ((((Xj a.2.1.1 a.2.1.2)).1).2.2),.s c.2.1.1,.s c.2.1.2,.i a.1,.o 2368 [((a.1,a.2.1,0):Ya)],.slc (.own H 1413) 4 (setRow (eL d) b 0 [.i ((Jx (nth d b) a.1 a.2.1.1 a.2.1.2).1),.s ((Jx (nth d b) a.1 a.2.1.1 a.2.1.2).2.1),.h ((Jx (nth d b) a.1 a.2.1.1 a.2.1.2).2.2.1),.h ((Jx (nth d b) a.1 a.2.1.1 a.2.1.2).2.2.2)]),.o 1414 c.2.2.2.2.2])] [7] (pc 9 (PJ (nth d b) a.1 a.2.1.1 a.2.1.2 (by omega)) (pN 10 o p0)) ?_;refine eqn [(40,.o 1413 (zW d b (Jx (nth d b) a.1 a.2.1.1 a.2.1.2)))] [40] [(7, [.o 1792 ((((Xj a.2.1.1 a.2.1.2)).1).1.1),.o 1793 ((((Xj a.2.1.1 a.2.1.2)).1).1.2.1),.i ((((Xj a.2.1.1 a.2.1.2)).1).1.2.2),.o 1794 ((((Xj a.2.1.1 a.2.1.2)).1).2.1),.o 1795 ((((Xj a.2.1.1 a.2.1.2)).1).2.2),.s c.2.1.1,.s c.2.1.2,.i a.1,.o 2368 [((a.1,a.2.1,0):Ya)],.o 1413 (zW d b (Jx (nth d b) a.1 a.2.1.1 a.2.1.2)),.o 1414 c.2.2.2.2.2])] [7] (by rw[Km (y:=(Jx (nth d b) a.1 a.2.1.1 a.2.1.2)) o rfl]<;>kernel_rfl) ?_;refine rn [2,3,4,5,7,40,41,42] [2,5,7] (pw 0 b p0) ?_;exact xw (zW d b (Jx (nth d b) a.1 a.2.1.1 a.2.1.2)) ⟨Qr V (Xg g rfl) U.1,(by first|omega|(simp only[zT];omega)),(by first | exact λj p=>e j (by omega) | exact λj p=>(Ui _ _ (by omega)).trans (e j (by omega)) | exact λj p=>(Ui _ _ (by omega)).trans (f j (by omega)) | exact λj p=>f j (by omega))⟩
  have s:=uK g;refine Qd<|qu [(42,.i ((b+1:W):Y))] [42,43] [] [] (pw 0 b p0) ?_
  exact xw d ⟨Qr V (Qi g rfl) U.1,(by first|omega|(simp only[zT];omega)),(by first | exact λj p=>e j (by omega) | exact λj p=>(Ui _ _ (by omega)).trans (e j (by omega)) | exact λj p=>(Ui _ _ (by omega)).trans (f j (by omega)) | exact λj p=>f j (by omega))⟩
 ·have e:=U.2.1;have f:=U.2.2;exact su [(43,.b I)] [] [] [] (pe 0 (zC ((b:Y)<(c.2.2.2.2.1.length:Y))) p0)<|Qa<|ckF<|Xa<|xw _ (Xq O rfl U.1)
 exact sn [2,3] [2] p0<|Qc<|pz [] (show Qk x=_ from Mq k (Qi q (Mq n (Vx u rfl)))) (λz=> .tup [(H, [.o 0 z.1.1.1.1,.o 1 z.1.1.1.2.1,.i z.1.1.1.2.2,.o 2 z.1.1.2.1,.o 3 z.1.1.2.2,.s z.1.2.1.1,.s z.1.2.1.2,.i z.1.2.2.1,.o 4 z.1.2.2.2.1,.o 5 z.1.2.2.2.2.1,.o 6 z.1.2.2.2.2.2]),(I, [.b z.2])])
def Dq(b:Y×Qw×uA)(c:W)(a:S Zz):Rd (Jy×uA) (S Zz) (S Zz):=(bif decide ((((nth a c).2.2.2).length:Y)>(0:Y)) then(bif decide ((nth ((nth a c).2.2.2) ((((nth a c).2.2.2).length:Y)-1).toNat).1<b.1) then(.next (zW a c (Kc (nth a c) b.1 b.2.1.1 b.2.1.2))) else(.next a)) else(bif decide ((0:Y)<b.1) then(.next (zW a c (Kc (nth a c) b.1 b.2.1.1 b.2.1.2))) else(.next a)))
def M5(_:W)(a:S Zz):(S Zz):=a
def Vf(x:Jy):Jy×uA:=(lt (Ve x) (λb=>(lt (J4 b.2.1) (λa=>(bif (!a.2.2) then(b,I) else(Out.on (K0 (Dq a) M5 (zR b.2.2.2.2.1) 0 b.2.2.2.2.1) (λc=>(((((Xc a.2.1.1 a.2.1.2)).1),b.2.1,a.1,((Z7 [] a.1 a.2.1)).1,c,b.2.2.2.2.2),H))))))))
theorem LA(x:Jy)(hp:GoD.size x<=536870912)(ha:yB x.2.1.1<=1073741000)(hb:yB x.2.1.2<=1073741000):ACalls uN 5 [.a [.h x.1.1.1,.h x.1.1.2.1,.i x.1.1.2.2,.h x.1.2.1,.h x.1.2.2,.s x.2.1.1,.s x.2.1.2,.i x.2.2.1,.h x.2.2.2.1,.h x.2.2.2.2.1,.h x.2.2.2.2.2]] (.tup [(H, [.o 0 ((((Vf x)).1).1.1.1),.o 1 ((((Vf x)).1).1.1.2.1),.i ((((Vf x)).1).1.1.2.2),.o 2 ((((Vf x)).1).1.2.1),.o 3 ((((Vf x)).1).1.2.2),.s ((((Vf x)).1).2.1.1),.s ((((Vf x)).1).2.1.2),.i ((((Vf x)).1).2.2.1),.o 4 ((((Vf x)).1).2.2.2.1),.o 5 ((((Vf x)).1).2.2.2.2.1),.o 6 ((((Vf x)).1).2.2.2.2.2)]),(I, [.b (((Vf x)).2)])]):=by
 refine en func5 λ_ _ _=>sn [1,2,3] [1,2] p0 ?_
 obtain⟨d,m⟩:=nm (Ve x);have i:d=x:=m.symm.trans (EW x);refine tn [1,2,3] [1,2] (pc 1 (m▸IX x) p0) ?_;obtain⟨a,n⟩:=nm (J4 d.2.1);refine tu [(1,.p 1 0),(2,.p 2 0),(3,.b I),(4,.i a.1),(5,.p 5 0),(6,.b a.2.2)] [0] [(1, [.o 704 d.1.1.1,.o 705 d.1.1.2.1,.i d.1.1.2.2,.o 706 d.1.2.1,.o 707 d.1.2.2,.s d.2.1.1,.s d.2.1.2,.i d.2.2.1,.o 708 d.2.2.2.1,.o 709 d.2.2.2.2.1,.o 710 d.2.2.2.2.2]),(2, [.e 2,.e 5,.i 0,.e 2,.e 2,.s ⟨#[]⟩,.s ⟨#[]⟩,.i 0,.e 6,.e 4,.e 1]),(5, [.o 960 a.2.1.1.1,.o 961 a.2.1.1.2.1,.i a.2.1.1.2.2,.o 962 a.2.1.2])] [] (pc 2 (n▸Sx d.2.1 (by first | assumption | (rw[i];assumption)) (by first | assumption | (rw[i];assumption))) p0)<|Qa<|sn [1,2,3,4,5,20] [1,2,5] p0<|ck (!a.2.2) (λp=>?_) (λp=>?_)
 ·have v:(a.2.2)=I:=V1 p;exact tn [1,2,3,4,5] [1,2,5] p0<|Qc<|pz [] (show Vf x=_ from Mq m (Mq n (Xg p rfl))) (λz=> .tup [(H, [.o 0 z.1.1.1.1,.o 1 z.1.1.1.2.1,.i z.1.1.1.2.2,.o 2 z.1.1.2.1,.o 3 z.1.1.2.2,.s z.1.2.1.1,.s z.1.2.1.2,.i z.1.2.2.1,.o 4 z.1.2.2.2.1,.o 5 z.1.2.2.2.2.1,.o 6 z.1.2.2.2.2.2]),(I, [.b z.2])])
 have v:(a.2.2)=H:=Z5 p;refine Qd<|tn [1,2,3,4,5] [1,2,5] (pc 4 (VN a.2.1.1 a.2.1.2) p0)<|tu [] [6] [(1, [.o 1728 ((((Xc a.2.1.1 a.2.1.2)).1).1.1),.o 1729 ((((Xc a.2.1.1 a.2.1.2)).1).1.2.1),.i ((((Xc a.2.1.1 a.2.1.2)).1).1.2.2),.o 1730 ((((Xc a.2.1.1 a.2.1.2)).1).2.1),.o 1731 ((((Xc a.2.1.1 a.2.1.2)).1).2.2),.s d.2.1.1,.s d.2.1.2,.i a.1,.o 708 d.2.2.2.1,.o 709 d.2.2.2.2.1,.o 710 d.2.2.2.2.2])] [1] p0<|sn [1,2,3,4,5] [1,2,5] (pc 2 (AH (.cons (ArgLe.nil 6) (.cons (ArgLe.rfl _) (.cons (ArgLe.rfl _) (.nil)))) (QF [] a.1 a.2.1 (by decide))) p0)<|Qa<|tn [1,2,3,4,5,7] [1,2,5] p0<|mz [(7,.i 0)] [] [(1, [.o 1728 ((((Xc a.2.1.1 a.2.1.2)).1).1.1),.o 1729 ((((Xc a.2.1.1 a.2.1.2)).1).1.2.1),.i ((((Xc a.2.1.1 a.2.1.2)).1).1.2.2),.o 1730 ((((Xc a.2.1.1 a.2.1.2)).1).2.1),.o 1731 ((((Xc a.2.1.1 a.2.1.2)).1).2.2),.s d.2.1.1,.s d.2.1.2,.i a.1,.o 2304 (((Z7 [] a.1 a.2.1)).1),.o 709 d.2.2.2.2.1,.o 710 d.2.2.2.2.2])] [1]<|Qom (Dq a) M5 (zR d.2.2.2.2.1) d.2.2.2.2.1 (λb _=> [(7,.i (b:Y))]) [7] (λ_ c=> [(1, [.o 1728 ((((Xc a.2.1.1 a.2.1.2)).1).1.1),.o 1729 ((((Xc a.2.1.1 a.2.1.2)).1).1.2.1),.i ((((Xc a.2.1.1 a.2.1.2)).1).1.2.2),.o 1730 ((((Xc a.2.1.1 a.2.1.2)).1).2.1),.o 1731 ((((Xc a.2.1.1 a.2.1.2)).1).2.2),.s d.2.1.1,.s d.2.1.2,.i a.1,.o 2304 (((Z7 [] a.1 a.2.1)).1),.o 709 c,.o 710 d.2.2.2.2.2])]) [1] (λ_=> []) [4,5,7] (λu=> [(1, [.o 1728 ((((Xc a.2.1.1 a.2.1.2)).1).1.1),.o 1729 ((((Xc a.2.1.1 a.2.1.2)).1).1.2.1),.i ((((Xc a.2.1.1 a.2.1.2)).1).1.2.2),.o 1730 ((((Xc a.2.1.1 a.2.1.2)).1).2.1),.o 1731 ((((Xc a.2.1.1 a.2.1.2)).1).2.2),.s d.2.1.1,.s d.2.1.2,.i a.1,.o 2304 (((Z7 [] a.1 a.2.1)).1),.o 709 u,.o 710 d.2.2.2.2.2])]) [1,5] (λb c=>zR c=zR d.2.2.2.2.1/\(∀j:W,b<=j->nth c j=nth x.2.2.2.2.1 j)) (λu=>zR u=zR d.2.2.2.2.1) wf0 ⟨(by simp),(by(intro j _;rw[i]))⟩ (λb c O U=>?_) (λb c O U=>?_) (λu q=>?_)
 ·have e:=U.2.1;have f:=U.2.2;have w:b<x.2.2.2.2.1.length:=(by have r:=O;rw[i] at r;exact r);have V:=IZ hp w;rw[←(by first | exact e b (zX _) | exact f b (zX _):nth c b=nth x.2.2.2.2.1 b)] at V;refine Qa<|su [(44,.b H)] [] [] [] (pl 3 c (pe 4 (zB ((b:Y)<(c.length:Y))) p0))<|ckT<|Qd<|Qa<|Qp<|su [(8,.i 0)] [44] [] [] p0<|Qa<|wB 1 9 (.own H 709) c (λa1 a5=>?_)
  have g:=ng c b;refine sn [1,2,3,4,5,7,8,9] [1,2,5] (pN 3 g (pl 6 ((nth c b).2.2.2) p0))<|tn [1,2,3,4,5,7,8,9,55] [1,2,5] p0<|ck (decide ((((nth c b).2.2.2).length:Y)>(0:Y))) (λo=>?_) (λo=>?_)
  ·have a2:=uL o;have a6:zR ((nth c b).2.2.2)<=1073741824:=Du (Is (Is (Is (Sa g (a1)))));have a3:=ng ((nth c b).2.2.2) ((((nth c b).2.2.2).length:Y)-1).toNat;refine qu [(8,.i ((nth ((nth c b).2.2.2) ((((nth c b).2.2.2).length:Y)-1).toNat).1))] [8] [] [] (pN 3 g (pe 7 (G6 (IntWalk.i64_in ((((nth c b).2.2.2).length:Y)-1) (by omega))) (pg 8 ((((nth c b).2.2.2).length:Y)-1) a3 p0))) ?_;refine sn [1,2,3,4,5,7,69] [1,2,5] p0<|ck (decide ((nth ((nth c b).2.2.2) ((((nth c b).2.2.2).length:Y)-1).toNat).1<a.1)) (λk=>?_) (λk=>?_)
   ·have s:=uL k;refine qU [] [8] [(1, [.o 1728 ((((Xc a.2.1.1 a.2.1.2)).1).1.1),.o 1729 ((((Xc a.2.1.1 a.2.1.2)).1).1.2.1),.i ((((Xc a.2.1.1 a.2.1.2)).1).1.2.2),.o 1730 ((((Xc a.2.1.1 a.2.1.2)).1).2.1),.o 1731 ((((Xc a.2.1.1 a.2.1.2)).1).2.2),.s d.2.1.1,.s d.2.1.2,.i a.1,.o 2304 (((Z7 [] a.1 a.2.1)).1),.slc (.own H 709) 4 (setRow (eL c) b 0 [.i ((Kc (nth c b) a.1 a.2.1.1 a.2.1.2).1),.s ((Kc (nth c b) a.1 a.2.1.1 a.2.1.2).2.1),.h ((Kc (nth c b) a.1 a.2.1.1 a.2.1.2).2.2.1),.h ((Kc (nth c b) a.1 a.2.1.1 a.2.1.2).2.2.2)]),.o 710 d.2.2.2.2.2])] [1] (pN 6 g (pc 13 (KV (nth c b) a.1 a.2.1.1 a.2.1.2 (by omega)) (pN 14 g p0))) ?_;refine eqn [] [] [(1, [.o 1728 ((((Xc a.2.1.1 a.2.1.2)).1).1.1),.o 1729 ((((Xc a.2.1.1 a.2.1.2)).1).1.2.1),.i ((((Xc a.2.1.1 a.2.1.2)).1).1.2.2),.o 1730 ((((Xc a.2.1.1 a.2.1.2)).1).2.1),.o 1731 ((((Xc a.2.1.1 a.2.1.2)).1).2.2),.s d.2.1.1,.s d.2.1.2,.i a.1,.o 2304 (((Z7 [] a.1 a.2.1)).1),.o 709 (zW c b (Kc (nth c b) a.1 a.2.1.1 a.2.1.2)),.o 710 d.2.2.2.2.2])] [1] (by rw[Km (y:=(Kc (nth c b) a.1 a.2.1.1 a.2.1.2)) g rfl]<;>kernel_rfl) ?_;refine rn [1,2,3,4,5,7] [1,2,5] (pw 1 b p0) ?_;exact xw (zW c b (Kc (nth c b) a.1 a.2.1.1 a.2.1.2)) ⟨Jd O (Xg o (Xg k rfl)) U.1,(by first|omega|(simp only[zT];omega)),(by first | exact λj h=>e j (by omega) | exact λj h=>(Ui _ _ (by omega)).trans (e j (by omega)) | exact λj h=>(Ui _ _ (by omega)).trans (f j (by omega)) | exact λj h=>f j (by omega))⟩
   have s:=uK k;refine Qd<|qn [1,2,3,4,5,7] [1,2,5] (pw 1 b p0) ?_
   exact xw c ⟨Jd O (Xg o (Qi k rfl)) U.1,(by first|omega|(simp only[zT];omega)),(by first | exact λj h=>e j (by omega) | exact λj h=>(Ui _ _ (by omega)).trans (e j (by omega)) | exact λj h=>(Ui _ _ (by omega)).trans (f j (by omega)) | exact λj h=>f j (by omega))⟩
  have a2:=uK o;refine Qd<|tu [(69,.b (decide ((0:Y)<a.1)))] [8] [] [] p0<|ck (decide ((0:Y)<a.1)) (λl=>?_) (λl=>?_)
  ·have t:=uL l;refine rU [] [69] [(1, [.o 1728 ((((Xc a.2.1.1 a.2.1.2)).1).1.1),.o 1729 ((((Xc a.2.1.1 a.2.1.2)).1).1.2.1),.i ((((Xc a.2.1.1 a.2.1.2)).1).1.2.2),.o 1730 ((((Xc a.2.1.1 a.2.1.2)).1).2.1),.o 1731 ((((Xc a.2.1.1 a.2.1.2)).1).2.2),.s d.2.1.1,.s d.2.1.2,.i a.1,.o 2304 (((Z7 [] a.1 a.2.1)).1),.slc (.own H 709) 4 (setRow (eL c) b 0 [.i ((Kc (nth c b) a.1 a.2.1.1 a.2.1.2).1),.s ((Kc (nth c b) a.1 a.2.1.1 a.2.1.2).2.1),.h ((Kc (nth c b) a.1 a.2.1.1 a.2.1.2).2.2.1),.h ((Kc (nth c b) a.1 a.2.1.1 a.2.1.2).2.2.2)]),.o 710 d.2.2.2.2.2])] [1] (pN 6 g (pc 13 (KV (nth c b) a.1 a.2.1.1 a.2.1.2 (by omega)) (pN 14 g p0))) ?_;refine eqn [] [] [(1, [.o 1728 ((((Xc a.2.1.1 a.2.1.2)).1).1.1),.o 1729 ((((Xc a.2.1.1 a.2.1.2)).1).1.2.1),.i ((((Xc a.2.1.1 a.2.1.2)).1).1.2.2),.o 1730 ((((Xc a.2.1.1 a.2.1.2)).1).2.1),.o 1731 ((((Xc a.2.1.1 a.2.1.2)).1).2.2),.s d.2.1.1,.s d.2.1.2,.i a.1,.o 2304 (((Z7 [] a.1 a.2.1)).1),.o 709 (zW c b (Kc (nth c b) a.1 a.2.1.1 a.2.1.2)),.o 710 d.2.2.2.2.2])] [1] (by rw[Km (y:=(Kc (nth c b) a.1 a.2.1.1 a.2.1.2)) g rfl]<;>kernel_rfl) ?_;refine rn [1,2,3,4,5,7] [1,2,5] (pw 1 b p0) ?_;exact xw (zW c b (Kc (nth c b) a.1 a.2.1.1 a.2.1.2)) ⟨Jd O (Qi o (Xg l rfl)) U.1,(by first|omega|(simp only[zT];omega)),(by first | exact λj h=>e j (by omega) | exact λj h=>(Ui _ _ (by omega)).trans (e j (by omega)) | exact λj h=>(Ui _ _ (by omega)).trans (f j (by omega)) | exact λj h=>f j (by omega))⟩
  have t:=uK l;refine Qd<|rn [1,2,3,4,5,7] [1,2,5] (pw 1 b p0) ?_
  exact xw c ⟨Jd O (Qi o (Qi l rfl)) U.1,(by first|omega|(simp only[zT];omega)),(by first | exact λj h=>e j (by omega) | exact λj h=>(Ui _ _ (by omega)).trans (e j (by omega)) | exact λj h=>(Ui _ _ (by omega)).trans (f j (by omega)) | exact λj h=>f j (by omega))⟩
 ·have e:=U.2.1;have f:=U.2.2;exact Qa<|su [(44,.b I)] [] [] [] (pl 3 c (pe 4 (zC ((b:Y)<(c.length:Y))) p0))<|ckF<|Xa<|xw c ⟨Hn O rfl U.1,by first|omega|(simp only[zT];omega)⟩
 have a4:=q.2;exact sn [2,3] [2] p0<|Qc<|pz [] (show Vf x=_ from Mq m (Mq n (Qi p (Vx q.1 rfl)))) (λz=> .tup [(H, [.o 0 z.1.1.1.1,.o 1 z.1.1.1.2.1,.i z.1.1.1.2.2,.o 2 z.1.1.2.1,.o 3 z.1.1.2.2,.s z.1.2.1.1,.s z.1.2.1.2,.i z.1.2.2.1,.o 4 z.1.2.2.2.1,.o 5 z.1.2.2.2.2.1,.o 6 z.1.2.2.2.2.2]),(I, [.b z.2])])
theorem Qiw{a:S uE}(h:(Xk a).2=H):Qm (Xk a).1=H:=by
 rw[Qtf] at h⊢;cases c:Ie a ZS with
 | none=>rw[c] at h;cases h
 | some y=>
   rw[c] at h;simp only[] at h⊢;cases b:Qm y with
   | false=>rw[b] at h;cases h
   | true=>
     rw[b] at h;cases hd:decide (Xi y=a) with
     | false=>rw[hd] at h;cases h
     | true=>exact b
theorem Qix{s:uE}(h:(Qq s).2.2=H):Qm (Qq s).2.1=H/\(1<=(Qq s).1/\(Qq s).1<=1000000000):=by
 unfold Qq at h⊢;cases a:decide (((Qs 10 s).length:Y)<(2:Y)) with
 | true=>rw[a] at h;cases h
 | false=>
   rw[a] at h;have a:=uK a;simp only[uB] at h⊢;cases c:((!((Qf (nth (Qs 10 s) 0)).2))|| ((!(((Xk (List.drop 1 (List.take (Int.toNat (((Qs 10 s).length:Y)-1)) (Qs 10 s))))).2))|| (!((W1 ((Qf (nth (Qs 10 s) 0)).1) (((Xk (List.drop 1 (List.take (Int.toNat (((Qs 10 s).length:Y)-1)) (Qs 10 s))))).1)).toList==s.toList)))) with
   | true=>rw[c] at h;cases h
   | false=>
     obtain⟨_,d⟩:=bo c;obtain⟨e,f⟩:=bo d;refine⟨Qiw (bn e),Classical.byContradiction λb=>?_⟩;have hb:=bn f;have b:¬(1<=(Qf (nth (Qs 10 s) 0)).1/\(Qf (nth (Qs 10 s) 0)).1<=1000000000):=b;rw[BH _ b] at hb;rw[←Wd hb] at a;exact a (by decide)
theorem PM{d:N6}(h:(Y1 d).2.2=H):Qm (Y1 d).2.1=H/\(1<=(Y1 d).1/\(Y1 d).1<=1000000000):=by
 unfold Y1 Y8 at h⊢;have e:=Qix (s:=d.1);have f:=Qix (s:=d.2);generalize Qq d.1=a at h e⊢;generalize Qq d.2=b at h f⊢;cases c:(b.2.2&&((!(a.2.2))|| decide (b.1>a.1))) with
 | true=>
   simp only[zQ] at c;exact f c.1
 | false=>
   rw[c] at h;exact e h
theorem Qpp{n:Y}{x:Qw}(h:Qm x=H)(a:1<=n/\n<=1000000000):(Z7 [] n x).1= [((n,x,0):Ya)]:=by
 have e:Q8 n 1 1000000000=H:=Vb.2 a
 have b:Zh [((n,x,0):Ya)]=H:=by
  unfold Zh;simp only[X8];unfold U2;rw[e,Gi,h];rfl
 unfold Z7;rw[KA,BS];show(bif ((!(Zh []))|| (!(Zh [((n,x,0):Ya)]))) then _ else _:(S Ya)×uA).1=_;rw[b];rfl
theorem Qiy(s:Yl)(d:S Zo):Xc s d=Xj s d:=by
 unfold Xc Xj;rw[AN,JY,JZ,Mh,Ov]
theorem Qiz(z:Y×Qw×uA)(k:W)(a:Zz)(s:S Zz)(h:GoD.size (nth s k)<=536870912):Dq z k s=W2 z k a s:=by
 unfold Dq W2 Aw;rw[Qiv _ _ _ _ h];cases b:(((nth s k).2.2.2.length:Y)==(0:Y)) with
 | true=>
   have e:=eq_of_beq b;rw[uG (show¬((nth s k).2.2.2.length:Y)>0 by omega)];simp only[uC,uB]
 | false=>
   have e:=ne_of_beq_false b;rw[uH (show((nth s k).2.2.2.length:Y)>0 by omega)];simp only[uC,uB]
theorem Qcw{x:Jy}(f:GoD.size x<=536870912)(z:Y×Qw×uA):∀(b:S Zz) (k:W) (s:S Zz),x.2.2.2.2.1.drop k=b->(∀j:W,k<=j->nth s j=nth x.2.2.2.2.1 j)->K0 (Dq z) M5 b.length k s=X8 (W2 z) Gn b k s
 | [],k,s,_,_=>rfl
 | a :: b,k,s,hr,hs=>by
   obtain⟨i,hd,e⟩:=Fj hr;have g:=IZ f e;rw[←hs k (zX _)] at g;have d:=Qiz z k a s g;rw[List.length_cons];simp only[X8];cases c:W2 z k a s with
   | ret r=>rw[c] at d;exact EP d
   | brk t=>rw[K0,d,c]
   | next s'=>
     rw[c] at d;rw[Mw d];refine Qcw f z b (k+1) s' hd λj l=>?_
     unfold W2 at c;cases h:decide ((Aw (nth s k))<z.1) with
     | true=>
       rw[h,uC] at c;rw[←Rd.next.inj c,Ui _ _ (by omega)];exact hs j (by omega)
     | false=>
       rw[h,uB] at c;rw[←Rd.next.inj c];exact hs j (by omega)
theorem Qei(x:Jy)(b:GoD.size x<=536870912):Vf x=Qk x:=by
 unfold Vf Qk lt;dsimp only;rw[EW,I2,Qip];have a:=PM (d:=x.2.1);generalize Y1 x.2.1=z at a⊢;cases c:z.2.2 with
 | false=>rfl
 | true=>
   obtain⟨e,f⟩:=a c;simp only[Bool.not_true,uB];rw[Qcw b z x.2.2.2.2.1 0 x.2.2.2.2.1 rfl λ_ _=>rfl,Qiy,Qpp e f]
theorem Ow{α:Type}[GoD α]{K:W}:∀l:S α,(∀a,a∈l->GoD.size a<=K)->GoD.size l<=l.length*(K+1)
 | [],_=>zK _
 | a::l,h=>by
   have c:=Ow l λb hb=>h b (zZ _ hb)
   have d:=h a (yC ..);rw[An] at c⊢;rw[yE,yF,List.length_cons,Nat.add_mul,Nat.one_mul];omega
theorem PN{s:uE}(h:Qz s=H):s.size=1:=by
 unfold Qz at h;simp only[zQ] at h;have:=eq_of_beq h.1;omega
theorem Qaf{v:Va}(h:Xd v=H)(a:v.1≠0):v.2.2.size<=6:=by
 rcases BC h a with⟨_,_,e⟩ | ⟨_,_,e⟩
 . rw[e];exact zK _
 exact(Fi e).2
theorem Qrt{n:Q9}{k:Y}(h:Y5 n k=H):n.2.2.2.1.size<=6/\n.2.2.2.2.2.2.size<=6:=by
 obtain⟨b,c,d,f⟩:=WM h;have z:(⟨#[]⟩:uE).size<=6:=zK _;unfold Y5 at h;have hb:n.1=1\/n.1=2\/n.1=3\/n.1=4\/n.1=5\/n.1=6\/n.1=7\/n.1=8\/n.1=9:=by omega
 rcases hb with e | e | e | e | e | e | e | e | e
 all_goals rw[e] at h b c d
 . simp only[show((1:Y)==1)=H from rfl,uC,zQ] at h;rw[Wd h.2.2.2.1,Wd h.2.2.2.2.2.2.1];exact⟨z,z⟩
 . simp only[show((2:Y)==1)=I from rfl,show((2:Y)==2)=H from rfl,uC,uB,zQ] at h;have:=PN (b (.inl rfl));rw[Wd h.1.2.2.2.2.2.2.1];exact⟨by omega,z⟩
 . have:=PN (b (.inr (.inl rfl)));have a:=d (.inl rfl);exact⟨by omega,Qaf a.1 a.2⟩
 . have:=PN (b (.inr (.inr rfl)));have a:=d (.inr rfl);exact⟨by omega,Qaf a.1 a.2⟩
 . simp only[show((5:Y)==1)=I from rfl,show((5:Y)==2)=I from rfl,show((5:Y)==3)=I from rfl,show((5:Y)==4)=I from rfl,show((5:Y)==5)=H from rfl,uC,uB,zQ] at h;rw[Wd h.1.2.2.2.1,Wd h.1.2.2.2.2.2.2.1];exact⟨z,z⟩
 . simp only[show((6:Y)==1)=I from rfl,show((6:Y)==2)=I from rfl,show((6:Y)==3)=I from rfl,show((6:Y)==4)=I from rfl,show((6:Y)==5)=I from rfl,show((6:Y)==6)=H from rfl,uC,uB,zQ] at h;rw[Wd h.1.2.2.2.1,Wd h.1.2.2.2.2.2.2.1];exact⟨z,z⟩
 . simp only[show((7:Y)==1)=I from rfl,show((7:Y)==2)=I from rfl,show((7:Y)==3)=I from rfl,show((7:Y)==4)=I from rfl,show((7:Y)==5)=I from rfl,show((7:Y)==6)=I from rfl,show((7:Y)==7)=H from rfl,uC,uB,zQ] at h;rw[Wd h.1.2.2.2.1,Wd h.1.2.2.2.2.2.2.1];exact⟨z,z⟩
 . simp only[show((8:Y)==1)=I from rfl,show((8:Y)==2)=I from rfl,show((8:Y)==3)=I from rfl,show((8:Y)==4)=I from rfl,show((8:Y)==5)=I from rfl,show((8:Y)==6)=I from rfl,show((8:Y)==7)=I from rfl,show((8:Y)==8)=H from rfl,uC,uB,zQ] at h;rw[Wd h.1.2.2.2.2.2.2.1];exact⟨(Fi (c (.inl rfl))).2,z⟩
 simp only[show((9:Y)==1)=I from rfl,show((9:Y)==2)=I from rfl,show((9:Y)==3)=I from rfl,show((9:Y)==4)=I from rfl,show((9:Y)==5)=I from rfl,show((9:Y)==6)=I from rfl,show((9:Y)==7)=I from rfl,show((9:Y)==8)=I from rfl,show((9:Y)==9)=H from rfl,uC,uB,zQ] at h;rw[Wd h.1.2.2.2.2.2.2.1];exact⟨(Fi (c (.inr rfl))).2,z⟩
theorem EX{x:Qw}(c:Qm x=H):GoD.size x.1<=502/\GoD.size x.2<=620:=by
 have hb:=Lx c;have g:=(YD (IA (Sk c)).1).2;have p:=G2 c;constructor
 . have h:GoD.size x.1.1<=x.1.1.length*(1+1):=Ow _ λf b=>by
    have:=PN (g f b).1;show f.1.size+0<=1;omega
   have s:GoD.size x.1.2.1<=x.1.2.1.length*(40+1):=Ow _ λf b=>by
    obtain⟨_,_,_,q,r⟩:=hb.2.2.2 f b
    have j:GoD.size f.2.2.2.2<=f.2.2.2.2.length*(7+1):=Ow _ λa ha=>by
     obtain⟨k,l,m⟩:=r a ha;have t:=PN k;have u:=Qaf l m;show a.1.size+(0+(0+a.2.2.2.size))<=7;omega
    show 0+(0+(0+(0+GoD.size f.2.2.2.2)))<=40;omega
   show GoD.size x.1.1+(GoD.size x.1.2.1+0)<=502;omega
 have h:GoD.size x.2<=x.2.length*(123+1):=Ow _ λd hd=>by
  obtain⟨v,w,e⟩:=Sl c hd
  have j:GoD.size d.2<=d.2.length*(12+1):=Ow _ λn o=>by
   obtain⟨i,hi⟩:=List.getElem?_of_mem o;have:=Qrt (T1 e hi);show 0+(0+(0+(n.2.2.2.1.size+(0+(0+n.2.2.2.2.2.2.size)))))<=12;omega
  have y:=Fs e;show d.1.size+GoD.size d.2<=123;omega
 omega
theorem Qag{s:Yl}{d:S Zo}(b:Qm (s,d)=H):GoD.size (Xj s d).1<=2000:=by
 have c:=EX b;unfold Xj;rw[Mh,Ov];cases h:(Zv s d).2 with
 | false=>exact zK _
 | true=>
   obtain⟨n,i,f,j⟩:=AO h;have o:(Zv s d).1.length=d.length:=by have:=congrArg zR f;simpa using this
   have q:GoD.size (Zv s d).1<=(Zv s d).1.length*(18+1):=Ow _ λr g=>by
    obtain⟨p,k⟩:=j r g;have t:r.2.length<=12:=by rw[k];exact zJ (TJ ..) (Qhw i)
    have l:r.1∈d.map (·.1):=by rw[←f];exact List.mem_map_of_mem g
    obtain⟨a,ha,e⟩:=List.mem_map.1 l;have u:=(Sl b ha).1;have m:GoD.size r.2=r.2.length:=Rp _;show r.1.size+GoD.size r.2<=18;rw[←e,m];omega
   show GoD.size s+(GoD.size d+GoD.size (Zv s d).1)<=2000;have:=c.1;have:=c.2;simp only[] at*;omega
theorem Qcx{α:Type}[GoD α][uM α](v:α):∀(l:S α) (k:W),k<l.length->GoD.size (l.set k v)+GoD.size (nth l k)=GoD.size l+GoD.size v
 | [],k,h=>by cases h
 | a::l,0,_=>by
   show(GoD.size ((v::l):S α))+GoD.size a=GoD.size ((a::l):S α)+GoD.size v;rw[An,An];simp only[yE,yF,List.length_cons];omega
 | a::l,k+1,h=>by
   have b:=Qcx v l k (Nat.lt_of_succ_lt_succ h);show GoD.size ((a::l.set k v):S α)+GoD.size (nth l k)=GoD.size ((a::l):S α)+GoD.size v;rw[An] at b⊢;rw[An] at b⊢;simp only[yE,yF,List.length_cons,zT] at b⊢;omega
theorem Rz{w:S Zz}(z:Y×Qw×uA):∀(rest:S Zz) (k:W) (s:S Zz),w.drop k=rest->(∀j:W,k<=j->nth s j=nth w j)->s.length=w.length->
 ∃y,X8 (W2 z) Gn rest k s= .brk y/\GoD.size y<=GoD.size s+(GoD.size rest+13*rest.length)
 | [],k,s,_,_,_=>⟨s,rfl,Nat.le_add_right _ _⟩
 | a ::rest,k,s,hr,hs,hl=>by
   obtain⟨d,hd,f⟩:=Fj hr;have ha:nth s k=a:=(hs k (zX _)).trans (UX d)
   have e:GoD.size (a::rest)=1+GoD.size a+GoD.size rest:=by
    rw[An,An];simp only[yE,yF,List.length_cons];omega
   simp only[X8];unfold W2;cases l:decide ((Aw (nth s k))<z.1) with
   | true=>
     simp only[uC];obtain⟨y,b,c⟩:=Rz z rest (k+1) (s.set k (Jx (nth s k) z.1 z.2.1.1 z.2.1.2)) hd (λj g=>by rw[Ui _ _ (by omega)];exact hs j (by omega)) (by rw[zT];exact hl);refine⟨y,b, ?_⟩;have h:=Qcx (Jx (nth s k) z.1 z.2.1.1 z.2.1.2) s k (by omega);have i:=Qad (nth s k) z.1 z.2.1.1 z.2.1.2;rw[ha] at c h i;rw[e,List.length_cons];omega
   | false=>
     simp only[uB];obtain⟨y,b,c⟩:=Rz z rest (k+1) s hd (λj g=>hs j (by omega)) hl;refine⟨y,b, ?_⟩;rw[e,List.length_cons];omega
theorem Mi(x:Jy)(c:GoD.size x<=1048576):GoD.size (Qk x).1<=1073741824:=by
 unfold Qk lt;dsimp only;rw[I2];have a:=PM (d:=x.2.1);generalize Y1 x.2.1=z at a⊢;cases e:z.2.2 with
 | false=>exact zJ c (by decide)
 | true=>
   obtain⟨b,_⟩:=a e;simp only[Bool.not_true,uB];obtain⟨y,f,h⟩:=Rz (w:=x.2.2.2.2.1) z x.2.2.2.2.1 0 x.2.2.2.2.1 rfl (λ_ _=>rfl) rfl;rw[f];simp only[Out.on];have i:=EX b;have j:=Qag (s:=z.2.1.1) (d:=z.2.1.2) b;have k:GoD.size x=GoD.size x.1+(GoD.size x.2.1+(0+(GoD.size x.2.2.2.1+(GoD.size x.2.2.2.2.1+GoD.size x.2.2.2.2.2)))):=rfl;have g:GoD.size [((z.1,z.2.1,0):Ya)]=1+((0+((GoD.size z.2.1.1+GoD.size z.2.1.2)+0))+0):=rfl;have l:=QI x.2.2.2.2.1;show GoD.size (Xj z.2.1.1 z.2.1.2).1+(GoD.size x.2.1+(0+(GoD.size [((z.1,z.2.1,0):Ya)]+(GoD.size y+GoD.size x.2.2.2.2.2))))<=1073741824;rw[g];omega
open GoD (rd own)
set_option maxRecDepth 100000
set_option maxHeartbeats 1000000
theorem zSm:(∀(w:E) o,(w.alloc o).heap.size=w.heap.size+1)/\(∀(w:E) a v,(w.setCell a v).heap.size=w.heap.size)/\∀w:E,w.drew.heap.size=w.heap.size:=⟨λ_ _=>World.size_alloc ..,λ_ _ _=>World.size_setCell ..,λ_=>rfl⟩
theorem Qju{α:Type}[GoD α]{l:S α}{j:W}(h:j<l.length)(k:W):(Ql (l.take j) k).1.length=j:=by rw[Kh,List.length_take];omega
abbrev mI{α:Type}[GoD α](L:S W)(w:E)(b:Option Addr)(cap:W)(l:S α)(k:W)(q i:D)(a:E):Prop:=∃j:W,j<=l.length/\i= .int .i64 j/\q= .int .i64 ((Ql (l.take j) k).2:W)/\Hid (own L a [.slice b l.length cap] ((Ql (l.take j) k).1++l.drop j))/\Hid (Chg L w a)
theorem L7(f:W):Qc4 f 0= []:=by cases f<;>rfl
theorem PO:∀(f a k:W),k<=f->k<=a->Qc4 f k=Qc4 a k
 | 0,a,k,h,_=>by
   obtain rfl:k=0:=by omega
   rw[L7,L7]
 | f+1,0,k,_,h=>by
   obtain rfl:k=0:=by omega
   rw[L7,L7]
 | f+1,a+1,k,h,h'=>by
   unfold Qc4;by_cases b:k=0
   . rw[uI b,uI b]
   rw[uF b,uF b,PO f a (k / 10) (by omega) (by omega)]
theorem Qcy{k:W}(h:0<k):Qc4 k k=Qc4 (k / 10) (k / 10)++ [yK (48+k % 10)]:=by
 obtain⟨f,rfl⟩:∃f,k=f+1:=⟨k-1,by omega⟩;rw[Qc4,uF (by omega),PO f ((f+1) / 10) _ (by omega) (zX _)]
theorem Qcz:∀(n k:W),k<10^n->(Qc4 k k).length<=n
 | 0,k,h=>by
   obtain rfl:k=0:=by simpa using h
   simp[L7]
 | n+1,k,h=>by
   by_cases a:k=0
   . subst a;simp[L7]
   rw[Qcy (by omega)];have:=Qcz n (k / 10) (by rw[Nat.pow_succ] at h;omega);simp;omega
theorem EY{k:W}(h:k<=4611686018427387904):(Qc4 k k).length<=20:=Qcz 20 k (by omega)
theorem Et{k:W}(h:k<=4611686018427387904):(Ev k).size<=A:=by
 have a:=EY h;unfold Ev A;show(List.toArray _).size<=_;rw[List.size_toArray];split
 . simp
 simp;omega
theorem Wj(w:E)(K:Y)(k:W)(f:K=k)(r:1<=k)(b:k<=4611686018427387904):Calls uN 87 #[.int .i64 K] w (Ret w (.string (Ev k))):=by
 subst f;have O:¬(k:Y)<=0:=by omega
 have g:=Lib.hid (EY b);go_enter func87,ntmps87
 go_wp2
 go_loopw [0,3] (λq s l=>∃(j:W) (out:uE),q= .int .i64 j/\s= .string out/\j<=4611686018427387904/\Hid (Qc4 j j++out.data.toList=Qc4 k k)/\Below w.heap.size w l) (λq _ _=>(intOf q).toNat)
 case atStart=>exact⟨k,_,rfl,rfl,b,by show _=_;simp,Below.refl _ _⟩
 case round=>
  obtain⟨j,out,rfl,rfl,t,a,c⟩:=hrel
  have m:out.size<=20:=by
   have h:=g.out;rw[←a.out] at h;simp at h;have:out.size=out.data.size:=rfl;omega
  have n:=c.size;by_cases o:0<j
  . have p:∀w0:E,Sem.run uN (convert 191 9 (.slice (T ⟨w0.heap.size,0,G⟩) 1 1)) (w0.alloc (.cells #[.int .u8 (48+(j:Y) % 10)] 5))= .ok (.string ⟨#[yK (48+j % 10)]⟩) (w0.alloc (.cells #[.int .u8 (48+(j:Y) % 10)] 5)):=by
     intro w0;refine run_convert_bytes_back (P:=uN) _ 191 9 5 _ 1 [yK (48+j % 10)] underlying191 underlying5 underlying9 ?_;intro i hi;obtain rfl:i=0:=by simp at hi;omega
     simp[Addr.add];omega
    have d:1+out.size<=30:=by omega
    go_wp2
    go_roundw
    case rel=>exact⟨j / 10,_,by go_num,rfl,by omega,by
     show _=_;rw[←a.out,Qcy o];simp,by go_grown⟩
    case measure=>simp[intOf];omega
  obtain rfl:j=0:=by omega
  go_wp2
  go_ret
  refine⟨?_,c⟩;have h:=a.out;rw[L7] at h;simp only[zL] at h
  have e:Ev k=⟨#[109]⟩++out:=by
   unfold Ev;rw[uF (by omega),←h];apply ByteArray.ext;simp
  rw[e];rfl
theorem Nm(w:E)(v:D)(l:S Y)(L:S W)(K:Y)(k:W)(hK:K=k)(h1:1<=k)(hk:(Ql l k).2<=4611686018427387904)(ho:own L w [v] l):Calls uN 39 #[v,.int .i64 K] w (Pt L w [v] (Ql l k)):=by
 subst hK;obtain⟨oa,cap,rfl⟩:=Je ho;have a9:l.length<=9223372036854775807:=Bi ho;have HO:=Lib.hid ho;clear ho;go_enter func39,ntmps39
 go_wp2
 go_loopw [1,5] (mI L w oa cap l k) (λ_ i _=>l.length-(intOf i).toNat)
 case atStart=>exact⟨0,zK _,rfl,rfl,HO.out,Chg.refl _ _⟩
 case round=>
  obtain⟨j,hj,rfl,rfl,HW,HC⟩:=hrel;by_cases h:j<l.length
  . have hx:=zF h;have m:=Ki l k j _ hx;have n:=zJ (Jo l k j _ hx) hk;have o:=zN h;have p:=Qju h k;have aa:k<=(Ql (l.take j) k).2:=Yt _ _;have c:=HW.out;rw[o] at c;clear hx o HW;generalize(Ql (l.take j) k).2=kk at*;generalize(Ql (l.take j) k).1=xs at*;generalize l[j]=x at*;obtain⟨g,a6,cur,e,Li,hv,hg,d,a7,a1,r,f,a⟩:=Gf c;simp only[Value.slice.injEq] at hv;obtain⟨rfl,a2,rfl⟩:=hv;clear a2;rw[p] at d f a;clear p;rw[show GoD.n Y=1 from rfl] at d f a;rw[Nat.mul_one] at f a;generalize s:(cur.toList.drop j).take 1=ce at*;obtain⟨rfl,rfl,hh⟩:=f;have p0:wr.cell? ⟨g,j,G⟩=T _:=Jq hg s 0 _ rfl;have fz:=U3 hg;have a8:=Xb hg;clear s hg c;have a3:=Lib.hid a;clear a;have t:=Lib.hid m;clear m;have n:kk+1<=4611686018427387904:=n;have y:Hid (Upd g j 1 [] wr wr):=Upd.refl _ _ _ _ _;go_wp2
    go_roundw
    case measure=>simp[intOf];omega
    case rel=>
     refine⟨j+1,by omega,by go_num, ?_, ?_, ?_⟩
     . show Value.int _ _=_;rw[t.out];show Value.int .i64 _= .int .i64 ((kk+1:W):Y);first | go_num | (congr 1<;>omega)
     . show own _ _ _ _;rw[t.out];simp only[zO,List.singleton_append];refine a3.out _ [.int .i64 ((kk:W):Y)] _ (by repeat (first | (with_reducible exact y.out) | (with_reducible refine Upd.setCell ?_ _ (by omega) _))) (Ns _ (Gv (kk) (by omega))) ?_;intro q u z
       match q,z with
       | 0,z=>obtain rfl:=(zH z);simp[go_sem, *]
       | q+1,z=>simp at z
     exact HC.out.trans (((by repeat (first | (with_reducible exact y.out) | (with_reducible refine Upd.setCell ?_ _ (by omega) _))):Upd g j 1 [] wr _).chg.mono (λb hb=>(zS.1 hb).elim (λe=>e▸a1) (r b)))
  obtain rfl:j=l.length:=by omega
  have c:=HW.out;have V:=HC.out;rw[zG,List.drop_length,zP] at c;rw[zG] at*;have a4:=Lib.hid c;have a5:=Lib.hid V;clear c V;go_wp2
  go_ret
  exact⟨rfl,a4.out,a5.out⟩
theorem KW(w:E)(v:D)(l:S Y4)(L:S W)(K:Y)(k:W)(hK:K=k)(h1:1<=k)(hk:(Ql l k).2<=4611686018427387904)(ho:own L w [v] l):Calls uN 85 #[v,.int .i64 K] w (Pt L w [v] (Ql l k)):=by
 subst hK;obtain⟨oa,cap,rfl⟩:=Je ho;have ah:l.length<=9223372036854775807:=Bi ho;have HO:=Lib.hid ho;clear ho;go_enter func85,ntmps85
 go_wp2
 go_loopw [1,5] (mI L w oa cap l k) (λ_ i _=>l.length-(intOf i).toNat)
 case atStart=>exact⟨0,zK _,rfl,rfl,HO.out,Chg.refl _ _⟩
 case round=>
  obtain⟨j,hj,rfl,rfl,HW,HC⟩:=hrel;by_cases m:j<l.length
  . have s:=zF m;have t:=Ki l k j _ s;have y:=zJ (Jo l k j _ s) hk;have z:=zN m;have V:=Qju m k;have ai:k<=(Ql (l.take j) k).2:=Yt _ _;have c:=HW.out;rw[z] at c;clear s z HW;generalize(Ql (l.take j) k).2=kk at*;generalize(Ql (l.take j) k).1=xs at*;generalize l[j]=x at*;obtain⟨g,ad,cur,e,Li,hv,hg,d,ae,a5,f,n,a⟩:=Gf c;simp only[Value.slice.injEq] at hv;obtain⟨rfl,a6,rfl⟩:=hv;clear a6;rw[V] at d n a;clear V;rw[show GoD.n Y4=2 from rfl] at d n a;generalize p:(cur.toList.drop (j*2)).take 2=ce at*;obtain⟨v0,v1⟩:=x;obtain⟨a7,_,_,_,_,rfl,rfl,⟨rfl,rfl,h0⟩,⟨rfl,rfl,h1⟩⟩:=n;have p0:wr.cell? ⟨g,j*2,G⟩=T _:=Jq hg p 0 _ rfl;have p1:wr.cell? ⟨g,j*2+1,G⟩=T _:=Jq hg p 1 _ rfl;have fz:=U3 hg;have af:=Xb hg;clear p hg c;have a8:=Lib.hid a;clear a;have a1:=Lib.hid t;clear t;have y:kk+1+1<=4611686018427387904:=y;have a2:=Lib.hid f;clear f;have a9:Hid (Upd g (j*2) 2 ([]++ []) wr wr):=Upd.refl _ _ _ _ _;have h:True:=trivial;go_wp2_with (first | (go_at_call 87;have tk:=h;clear h;refine(Wj _ _ (kk) (by omega) (by omega) (by omega)).mono ?_;rintro e w1 ⟨rfl,hb⟩;have hz:=hb.size;have c1:=λo=>Ax hb g o (by go_size);have f1:=λo=>LP hb g o (by go_size);have a3:Hid (Upd g (j*2) 2 ([]++ []) wr w1):=Upd.below (by repeat (first | (with_reducible exact a9.out) | (with_reducible refine Upd.setCell ?_ _ (by omega) _))) hb (by go_size);(try simp only[zSm] at hz);have aj:=Lib.hid hb;clear hb))
    go_roundw
    case measure=>simp[intOf];omega
    case rel=>
     refine⟨j+1,by omega,by go_num, ?_, ?_, ?_⟩
     . show Value.int _ _=_;rw[a1.out];show Value.int .i64 _= .int .i64 ((kk+1+1:W):Y);first | go_num | (congr 1<;>omega)
     . show own _ _ _ _;rw[a1.out];simp only[zO,List.singleton_append];refine a8.out _ [.string (Ev (kk)),.int .i64 ((kk+1:W):Y)] _ (by repeat (first | (with_reducible exact a3.out) | (with_reducible refine Upd.setCell ?_ _ (by omega) _))) (Jp (LR _ (Et (by omega))) (Ns _ (Gv (kk+1) (by omega))) (λx s hy=>(zE.1 a7).2.2 x s x hy rfl)) ?_;intro q u r
       match q,r with
       | 0,r=>obtain rfl:=(zH r);simp[go_sem, *]
       | 1,r=>obtain rfl:=(zH r);simp[go_sem, *]
       | q+2,r=>simp at r
     exact HC.out.trans (((by repeat (first | (with_reducible exact a3.out) | (with_reducible refine Upd.setCell ?_ _ (by omega) _))):Upd g (j*2) 2 ([]++ []) wr _).chg.mono (λb hb=>(zS.1 hb).elim (λe=>e▸a5) (a2.out b)))
  obtain rfl:j=l.length:=by omega
  have c:=HW.out;have a4:=HC.out;rw[zG,List.drop_length,zP] at c;rw[zG] at*;have aa:=Lib.hid c;have ab:=Lib.hid a4;clear c a4;go_wp2
  go_ret
  exact⟨rfl,aa.out,ab.out⟩
theorem Qah(w:E)(v:D)(l:S Wv)(L:S W)(K:Y)(k:W)(hK:K=k)(h1:1<=k)(hk:(Ql l k).2<=4611686018427387904)(ho:own L w [v] l):Calls uN 138 #[v,.int .i64 K] w (Pt L w [v] (Ql l k)):=by
 subst hK;obtain⟨oa,cap,rfl⟩:=Je ho;have am:l.length<=9223372036854775807:=Bi ho;have HO:=Lib.hid ho;clear ho;go_enter func138,ntmps138
 go_wp2
 go_loopw [1,5] (mI L w oa cap l k) (λ_ i _=>l.length-(intOf i).toNat)
 case atStart=>exact⟨0,zK _,rfl,rfl,HO.out,Chg.refl _ _⟩
 case round=>
  obtain⟨j,hj,rfl,rfl,HW,HC⟩:=hrel;by_cases s:j<l.length
  . have m:=zF s;have z:=Ki l k j _ m;have V:=zJ (Jo l k j _ m) hk;have a1:=zN s;have a2:=Qju s k;have an:k<=(Ql (l.take j) k).2:=Yt _ _;have c:=HW.out;rw[a1] at c;clear m a1 HW;generalize(Ql (l.take j) k).2=kk at*;generalize(Ql (l.take j) k).1=xs at*;generalize l[j]=x at*;obtain⟨g,aj,cur,e,Li,hv,t,d,ak,a7,n,y,a⟩:=Gf c;simp only[Value.slice.injEq] at hv;obtain⟨rfl,a8,rfl⟩:=hv;clear a8;rw[a2] at d y a;clear a2;rw[show GoD.n Wv=4 from rfl] at d y a;generalize f:(cur.toList.drop (j*4)).take 4=ce at*;obtain⟨v0,⟨v1,v2,v3⟩⟩:=x;obtain⟨a9,_,_,_,_,rfl,rfl,⟨rfl,rfl,h0⟩,⟨aa,_,_,_,_,rfl,rfl,⟨rfl,rfl,h1⟩,⟨ab,_,_,_,_,rfl,rfl,⟨rfl,rfl,h2⟩,⟨rfl,rfl,h3⟩⟩⟩⟩:=y;have p0:wr.cell? ⟨g,j*4,G⟩=T _:=Jq t f 0 _ rfl;have p1:wr.cell? ⟨g,j*4+1,G⟩=T _:=Jq t f 1 _ rfl;have p2:wr.cell? ⟨g,j*4+2,G⟩=T _:=Jq t f 2 _ rfl;have p3:wr.cell? ⟨g,j*4+3,G⟩=T _:=Jq t f 3 _ rfl;have fz:=U3 t;have al:=Xb t;clear f t c;have ad:=Lib.hid a;clear a;have a3:=Lib.hid z;clear z;have V:kk+1+1+1+1<=4611686018427387904:=V;have a4:=Lib.hid n;clear n;have ae:Hid (Upd g (j*4) 4 ([]++([]++([]++ []))) wr wr):=Upd.refl _ _ _ _ _;have p:True:=trivial;have r:True:=trivial;go_wp2_with (first | (go_at_call 87;have tk:=p;clear p;refine(Wj _ _ (kk) (by omega) (by omega) (by omega)).mono ?_;rintro e w1 ⟨rfl,hb⟩;have hz:=hb.size;have c1:=λo=>Ax hb g o (by go_size);have f1:=λo=>LP hb g o (by go_size);have af:Hid (Upd g (j*4) 4 ([]++([]++([]++ []))) wr w1):=Upd.below (by repeat (first | (with_reducible exact ae.out) | (with_reducible refine Upd.setCell ?_ _ (by omega) _))) hb (by go_size);(try simp only[zSm] at hz);have ao:=Lib.hid hb;clear hb) | (go_at_call 87;have tk:=r;clear r;refine(Wj _ _ (kk+1+1+1) (by omega) (by omega) (by omega)).mono ?_;rintro e w2 ⟨rfl,hb⟩;have hz:=hb.size;have c2:=λo=>Ax hb g o (by go_size);have f2:=λo=>LP hb g o (by go_size);have a5:Hid (Upd g (j*4) 4 ([]++([]++([]++ []))) wr w2):=Upd.below (by repeat (first | (with_reducible exact af.out) | (with_reducible refine Upd.setCell ?_ _ (by omega) _))) hb (by go_size);(try simp only[zSm] at hz);have ap:=Lib.hid hb;clear hb))
    go_roundw
    case measure=>simp[intOf];omega
    case rel=>
     refine⟨j+1,by omega,by go_num, ?_, ?_, ?_⟩
     . show Value.int _ _=_;rw[a3.out];show Value.int .i64 _= .int .i64 ((kk+1+1+1+1:W):Y);first | go_num | (congr 1<;>omega)
     . show own _ _ _ _;rw[a3.out];simp only[zO,List.singleton_append];refine ad.out _ [.string (Ev (kk)),.int .i64 ((kk+1:W):Y),.int .i64 ((kk+1+1:W):Y),.string (Ev (kk+1+1+1))] _ (by repeat (first | (with_reducible exact a5.out) | (with_reducible refine Upd.setCell ?_ _ (by omega) _))) (Jp (LR _ (Et (by omega))) (Jp (Ns _ (Gv (kk+1) (by omega))) (Jp (Ns _ (Gv (kk+1+1) (by omega))) (LR _ (Et (by omega))) (λx m hy=>(zE.1 ab).2.2 x m x hy rfl)) (λx m hy=>(zE.1 aa).2.2 x m x hy rfl)) (λx m hy=>(zE.1 a9).2.2 x m x hy rfl)) ?_;intro q u h
       match q,h with
       | 0,h=>obtain rfl:=(zH h);simp[go_sem, *]
       | 1,h=>obtain rfl:=(zH h);simp[go_sem, *]
       | 2,h=>obtain rfl:=(zH h);simp[go_sem, *]
       | 3,h=>obtain rfl:=(zH h);simp[go_sem, *]
       | q+4,h=>simp at h
     exact HC.out.trans (((by repeat (first | (with_reducible exact a5.out) | (with_reducible refine Upd.setCell ?_ _ (by omega) _))):Upd g (j*4) 4 ([]++([]++([]++ []))) wr _).chg.mono (λb hb=>(zS.1 hb).elim (λe=>e▸a7) (a4.out b)))
  obtain rfl:j=l.length:=by omega
  have c:=HW.out;have a6:=HC.out;rw[zG,List.drop_length,zP] at c;rw[zG] at*;have ah:=Lib.hid c;have ai:=Lib.hid a6;clear c a6;go_wp2
  go_ret
  exact⟨rfl,ah.out,ai.out⟩
theorem BU(w:E)(v:D)(l:S Yn)(L:S W)(K:Y)(k:W)(hK:K=k)(h1:1<=k)(hk:(Ql l k).2<=4611686018427387904)(ho:own L w [v] l):Calls uN 86 #[v,.int .i64 K] w (Pt L w [v] (Ql l k)):=by
 subst hK;obtain⟨oa,cap,rfl⟩:=Je ho;have av:l.length<=9223372036854775807:=Bi ho;have HO:=Lib.hid ho;clear ho;go_enter func86,ntmps86
 go_wp2
 go_loopw [1,5] (mI L w oa cap l k) (λ_ i _=>l.length-(intOf i).toNat)
 case atStart=>exact⟨0,zK _,rfl,rfl,HO.out,Chg.refl _ _⟩
 case round=>
  obtain⟨j,hj,rfl,rfl,HW,HC⟩:=hrel;by_cases a1:j<l.length
  . have n:=zF a1;have a3:=Ki l k j _ n;have a4:=zJ (Jo l k j _ n) hk;have a5:=zN a1;have a6:=Qju a1 k;have aw:k<=(Ql (l.take j) k).2:=Yt _ _;have f:=HW.out;rw[a5] at f;clear n a5 HW;generalize(Ql (l.take j) k).2=kk at*;generalize(Ql (l.take j) k).1=xs at*;generalize l[j]=x at*;obtain⟨g,ar,cur,e,Li,hv,y,p,c,af,z,a2,a⟩:=Gf f;simp only[Value.slice.injEq] at hv;obtain⟨rfl,ah,rfl⟩:=hv;clear ah;rw[a6] at p a2 a;clear a6;rw[show GoD.n Yn=5 from rfl] at p a2 a;generalize h:(cur.toList.drop (j*5)).take 5=ce at*;obtain⟨v0,v1,v2,v3,v4⟩:=x;obtain⟨ai,_,_,_,_,rfl,rfl,⟨rfl,rfl,h0⟩,⟨aj,_,_,_,_,rfl,rfl,⟨rfl,rfl,h1⟩,⟨ak,_,_,_,_,rfl,rfl,⟨rfl,rfl⟩,⟨al,_,_,_,r,rfl,rfl,⟨rfl,rfl,h3⟩,t⟩⟩⟩⟩:=a2;obtain⟨ax,rfl⟩:=Bn (show _=1 from GoD.rd_len (GoD.own_rd t));obtain⟨a7,a8,rfl⟩:=Je t;have p0:wr.cell? ⟨g,j*5,G⟩=T _:=Jq y h 0 _ rfl;have p1:wr.cell? ⟨g,j*5+1,G⟩=T _:=Jq y h 1 _ rfl;have p2:wr.cell? ⟨g,j*5+2,G⟩=T _:=Jq y h 2 _ rfl;have p3:wr.cell? ⟨g,j*5+3,G⟩=T _:=Jq y h 3 _ rfl;have p4:wr.cell? ⟨g,j*5+4,G⟩=T _:=Jq y h 4 _ rfl;have fz:=U3 y;have au:=Xb y;clear h y f;have am:=Lib.hid a;clear a;have a9:=Lib.hid a3;clear a3;have a4:(Ql v4 (kk+1+1+1+1)).2<=4611686018427387904:=a4;have ay:=Qgv (kk+1+1) _ (show((kk:Y)+1+1:Y)=((kk+1+1:W):Y) by omega);have az:kk+1+1+1+1<=(Ql v4 (kk+1+1+1+1)).2:=Yt _ _;have aa:=Lib.hid t;clear t;have ab:=Lib.hid z;clear z;have an:Hid (Upd g (j*5) 5 ([]++([]++([]++([]++r)))) wr wr):=Upd.refl _ _ _ _ _;have V:True:=trivial;go_wp2_with (first | (go_at_call 138;have tk:=V;clear V;refine V5 (Qah _ _ v4 r _ (kk+1+1+1+1) (by omega) (by omega) (by omega) (by repeat (first | (with_reducible exact aa.out) | (refine Kd ?_ (λs=>c (zD.2 (.inr (zD.2 (.inr (zD.2 (.inr (zD.2 (.inr s))))))))))))) ?_;intro w1 ad d hz;have c1:=λo=>d.cell (b:=g) (by go_size) (λs=>c (zD.2 (.inr (zD.2 (.inr (zD.2 (.inr (zD.2 (.inr s))))))))) o;have f1:=λo=>d.frozen (b:=g) (by go_size) (λs=>c (zD.2 (.inr (zD.2 (.inr (zD.2 (.inr (zD.2 (.inr s))))))))) o;have ae:Hid (Upd g (j*5) 5 ([]++([]++([]++([]++r)))) wr w1):=Upd.mark (by repeat (first | (with_reducible exact an.out) | (with_reducible refine Upd.setCell ?_ _ (by omega) _))) d (λb s=>(zD.2 (.inr (zD.2 (.inr (zD.2 (.inr (zD.2 (.inr s))))))))) (λs=>c (zD.2 (.inr (zD.2 (.inr (zD.2 (.inr (zD.2 (.inr s))))))))) (by go_size);(try simp only[zSm] at hz);have b1:=Lib.hid d;clear d;have ao:=Lib.hid ad;clear ad))
    go_roundw
    case measure=>simp[intOf];omega
    case rel=>
     refine⟨j+1,by omega,by go_num, ?_, ?_, ?_⟩
     . show Value.int _ _=_;rw[a9.out];show Value.int .i64 _= .int .i64 (((Ql v4 (kk+1+1+1+1)).2:W):Y);first | go_num | (congr 1<;>omega)
     . show own _ _ _ _;rw[a9.out];simp only[zO,List.singleton_append];refine am.out _ [.int .i64 ((kk:W):Y),.int .i64 ((kk+1:W):Y),.bool ((kk+1+1) % 3==0),.int .i64 ((kk+1+1+1:W):Y),.slice a7 v4.length a8] _ (by repeat (first | (with_reducible exact ae.out) | (with_reducible refine Upd.setCell ?_ _ (by omega) _))) (Jp (Ns _ (Gv (kk) (by omega))) (Jp (Ns _ (Gv (kk+1) (by omega))) (Jp (Qse _ _) (Jp (Ns _ (Gv (kk+1+1+1) (by omega))) (show own r _ [.slice a7 v4.length a8] (Ql v4 (kk+1+1+1+1)).1 by repeat (first | (with_reducible exact ao.out) | (refine Kd ?_ (λs=>c (zD.2 (.inr (zD.2 (.inr (zD.2 (.inr (zD.2 (.inr s)))))))))))) (λx n hy=>(zE.1 al).2.2 x n x hy rfl)) (λx n hy=>(zE.1 ak).2.2 x n x hy rfl)) (λx n hy=>(zE.1 aj).2.2 x n x hy rfl)) (λx n hy=>(zE.1 ai).2.2 x n x hy rfl)) ?_;intro q u m
       match q,m with
       | 0,m=>obtain rfl:=(zH m);simp[go_sem, *]
       | 1,m=>obtain rfl:=(zH m);simp[go_sem, *]
       | 2,m=>obtain rfl:=(zH m);simp[go_sem, *]
       | 3,m=>obtain rfl:=(zH m);simp[go_sem, *]
       | 4,m=>obtain rfl:=(zH m);simp[go_sem, *]
       | q+5,m=>simp at m
     exact HC.out.trans (((by repeat (first | (with_reducible exact ae.out) | (with_reducible refine Upd.setCell ?_ _ (by omega) _))):Upd g (j*5) 5 ([]++([]++([]++([]++r)))) wr _).chg.mono (λb hb=>(zS.1 hb).elim (λe=>e▸af) (ab.out b)))
  obtain rfl:j=l.length:=by omega
  have f:=HW.out;have d:=HC.out;rw[zG,List.drop_length,zP] at f;rw[zG] at*;have ap:=Lib.hid f;have aq:=Lib.hid d;clear f d;go_wp2
  go_ret
  exact⟨rfl,ap.out,aq.out⟩
theorem Qai(w:E)(ca:S D)(a:Yl)(L:S W)(K:Y)(k:W)(hK:K=k)(h1:1<=k)(hk:(GoD.markT a k).2<=4611686018427387904)(ho:own L w ca a):Calls uN 82 #[.agg ca.toArray,.int .i64 K] w (Pt L w ca (GoD.markT a k)):=by
 subst hK;obtain⟨f,s,b3⟩:=a;have hk:(Ql s ((Ql f (k)).2)).2<=4611686018427387904:=hk;have t:=GoD.own_lt ho;obtain⟨l,_,_,g,_,rfl,rfl,m,⟨a3,_,_,h,_,rfl,rfl,n,⟨rfl,rfl,h2⟩⟩⟩:=ho;obtain⟨c,rfl⟩:=Bn (show _=1 from GoD.rd_len (GoD.own_rd m));have u:=Lib.hid m;clear m;have a6:k<=(Ql f (k)).2:=Yt _ _;obtain⟨d,rfl⟩:=Bn (show _=1 from GoD.rd_len (GoD.own_rd n));have v:=Lib.hid n;clear n;have a7:(Ql f (k)).2<=(Ql s ((Ql f (k)).2)).2:=Yt _ _;show Calls uN 82 #[.agg #[c,d,.int .i64 b3],.int .i64 (k:Y)] w (Pt (g++(h++ [])) w [c,d,.int .i64 b3] (GoD.markT ((f,s,b3):Yl) k));have y:=Lib.hid t;clear t;have i:True:=trivial;have j:True:=trivial;go_enter func82,ntmps82
 go_wp2_with (first | (go_at_call 85;have tk:=i;clear i;refine V5 (KW _ c f g _ (k) (by omega) (by omega) (show(Ql f (k)).2<=4611686018427387904 by omega) (by repeat (first | (with_reducible exact u.out) | (refine V3 ?_)))) ?_;intro w1 z e hz;have c1:=λo=>e.cell (b:=w.heap.size) (by go_size) (λp=>by have:=y.out _ (zD.2 (.inl p));omega) o;(try simp only[zSm] at hz);have V:=Lib.hid e;clear e;have a4:=Lib.hid z;clear z) | (go_at_call 86;have tk:=j;clear j;refine V5 (BU _ d s h _ ((Ql f (k)).2) (by omega) (by omega) (show(Ql s ((Ql f (k)).2)).2<=4611686018427387904 by omega) (by repeat (first | (with_reducible exact v.out) | (refine V3 ?_) | (refine K7 ?_ V.out (λb q r=>(zE.1 l).2.2 _ r _ (zD.2 (.inl q)) rfl))))) ?_;intro w2 a1 e hz;have c2:=λo=>e.cell (b:=w.heap.size) (by go_size) (λp=>by have:=y.out _ (zD.2 (.inr (zD.2 (.inl p))));omega) o;(try simp only[zSm] at hz);have a2:=Lib.hid e;clear e;have a5:=Lib.hid a1;clear a1))
 go_ret
 refine⟨rfl, ?_, ?_⟩
 . show own (g++(h++ [])) _ [c,d,.int .i64 b3] _;exact(Jp (show own g _ [c] (Ql f (k)).1 by repeat (first | (with_reducible exact a4.out) | (refine V3 ?_) | (refine K7 ?_ a2.out (λb q r=>(zE.1 l).2.2 _ q _ (zD.2 (.inl r)) rfl)))) (Jp (show own h _ [d] (Ql s ((Ql f (k)).2)).1 by repeat (first | (with_reducible exact a5.out) | (refine V3 ?_))) (Ns _ h2) (λx hx hy=>(zE.1 a3).2.2 x hx x hy rfl)) (λx hx hy=>(zE.1 l).2.2 x hx x hy rfl))
 show Chg (g++(h++ [])) w _;exact((Chg.of_below (show Below w.heap.size w _ by go_grown)).trans (V.out.mono (λb p=>(zD.2 (.inl p))))).trans (a2.out.mono (λb p=>(zD.2 (.inr (zD.2 (.inl p))))))
theorem Qaj(w:E)(v:D)(l:S Q9)(L:S W)(K:Y)(k:W)(hK:K=k)(h1:1<=k)(hk:(Ql l k).2<=4611686018427387904)(ho:own L w [v] l):Calls uN 137 #[v,.int .i64 K] w (Pt L w [v] (Ql l k)):=by
 subst hK;obtain⟨oa,cap,rfl⟩:=Je ho;have aq:l.length<=9223372036854775807:=Bi ho;have HO:=Lib.hid ho;clear ho;go_enter func137,ntmps137
 go_wp2
 go_loopw [1,5] (mI L w oa cap l k) (λ_ i _=>l.length-(intOf i).toNat)
 case atStart=>exact⟨0,zK _,rfl,rfl,HO.out,Chg.refl _ _⟩
 case round=>
  obtain⟨j,hj,rfl,rfl,HW,HC⟩:=hrel;by_cases y:j<l.length
  . have f:=zF y;have V:=Ki l k j _ f;have a1:=zJ (Jo l k j _ f) hk;have a2:=zN y;have a3:=Qju y k;have ar:k<=(Ql (l.take j) k).2:=Yt _ _;have h:=HW.out;rw[a2] at h;clear f a2 HW;generalize(Ql (l.take j) k).2=kk at*;generalize(Ql (l.take j) k).1=xs at*;generalize l[j]=x at*;obtain⟨g,an,cur,e,Li,hv,p,m,ao,a8,r,z,a⟩:=Gf h;simp only[Value.slice.injEq] at hv;obtain⟨rfl,a9,rfl⟩:=hv;clear a9;rw[a3] at m z a;clear a3;rw[show GoD.n Q9=7 from rfl] at m z a;generalize c:(cur.toList.drop (j*7)).take 7=ce at*;obtain⟨v0,v1,v2,v3,⟨v4,v5,v6⟩⟩:=x;obtain⟨aa,_,_,_,_,rfl,rfl,⟨rfl,rfl,h0⟩,⟨ab,_,_,_,_,rfl,rfl,⟨rfl,rfl,h1⟩,⟨ad,_,_,_,_,rfl,rfl,⟨rfl,rfl,h2⟩,⟨ae,_,_,_,_,rfl,rfl,⟨rfl,rfl,h3⟩,⟨af,_,_,_,_,rfl,rfl,⟨rfl,rfl,h4⟩,⟨ah,_,_,_,_,rfl,rfl,⟨rfl,rfl,h5⟩,⟨rfl,rfl,h6⟩⟩⟩⟩⟩⟩⟩:=z;have p0:wr.cell? ⟨g,j*7,G⟩=T _:=Jq p c 0 _ rfl;have p1:wr.cell? ⟨g,j*7+1,G⟩=T _:=Jq p c 1 _ rfl;have p2:wr.cell? ⟨g,j*7+2,G⟩=T _:=Jq p c 2 _ rfl;have p3:wr.cell? ⟨g,j*7+3,G⟩=T _:=Jq p c 3 _ rfl;have p4:wr.cell? ⟨g,j*7+4,G⟩=T _:=Jq p c 4 _ rfl;have p5:wr.cell? ⟨g,j*7+5,G⟩=T _:=Jq p c 5 _ rfl;have p6:wr.cell? ⟨g,j*7+6,G⟩=T _:=Jq p c 6 _ rfl;have fz:=U3 p;have ap:=Xb p;clear c p h;have ai:=Lib.hid a;clear a;have a4:=Lib.hid V;clear V;have a1:kk+1+1+1+1+1+1+1<=4611686018427387904:=a1;have a5:=Lib.hid r;clear r;have aj:Hid (Upd g (j*7) 7 ([]++([]++([]++([]++([]++([]++ [])))))) wr wr):=Upd.refl _ _ _ _ _;have s:True:=trivial;have t:True:=trivial;go_wp2_with (first | (go_at_call 87;have tk:=s;clear s;refine(Wj _ _ (kk+1+1+1) (by omega) (by omega) (by omega)).mono ?_;rintro e w1 ⟨rfl,hb⟩;have hz:=hb.size;have c1:=λo=>Ax hb g o (by go_size);have f1:=λo=>LP hb g o (by go_size);have ak:Hid (Upd g (j*7) 7 ([]++([]++([]++([]++([]++([]++ [])))))) wr w1):=Upd.below (by repeat (first | (with_reducible exact aj.out) | (with_reducible refine Upd.setCell ?_ _ (by omega) _))) hb (by go_size);(try simp only[zSm] at hz);have au:=Lib.hid hb;clear hb) | (go_at_call 87;have tk:=t;clear t;refine(Wj _ _ (kk+1+1+1+1+1+1) (by omega) (by omega) (by omega)).mono ?_;rintro e w2 ⟨rfl,hb⟩;have hz:=hb.size;have c2:=λo=>Ax hb g o (by go_size);have f2:=λo=>LP hb g o (by go_size);have a6:Hid (Upd g (j*7) 7 ([]++([]++([]++([]++([]++([]++ [])))))) wr w2):=Upd.below (by repeat (first | (with_reducible exact ak.out) | (with_reducible refine Upd.setCell ?_ _ (by omega) _))) hb (by go_size);(try simp only[zSm] at hz);have av:=Lib.hid hb;clear hb))
    go_roundw
    case measure=>simp[intOf];omega
    case rel=>
     refine⟨j+1,by omega,by go_num, ?_, ?_, ?_⟩
     . show Value.int _ _=_;rw[a4.out];show Value.int .i64 _= .int .i64 ((kk+1+1+1+1+1+1+1:W):Y);first | go_num | (congr 1<;>omega)
     . show own _ _ _ _;rw[a4.out];simp only[zO,List.singleton_append];refine ai.out _ [.int .i64 ((kk:W):Y),.int .i64 ((kk+1:W):Y),.int .i64 ((kk+1+1:W):Y),.string (Ev (kk+1+1+1)),.int .i64 ((kk+1+1+1+1:W):Y),.int .i64 ((kk+1+1+1+1+1:W):Y),.string (Ev (kk+1+1+1+1+1+1))] _ (by repeat (first | (with_reducible exact a6.out) | (with_reducible refine Upd.setCell ?_ _ (by omega) _))) (Jp (Ns _ (Gv (kk) (by omega))) (Jp (Ns _ (Gv (kk+1) (by omega))) (Jp (Ns _ (Gv (kk+1+1) (by omega))) (Jp (LR _ (Et (by omega))) (Jp (Ns _ (Gv (kk+1+1+1+1) (by omega))) (Jp (Ns _ (Gv (kk+1+1+1+1+1) (by omega))) (LR _ (Et (by omega))) (λx f n=>(zE.1 ah).2.2 x f x n rfl)) (λx f n=>(zE.1 af).2.2 x f x n rfl)) (λx f n=>(zE.1 ae).2.2 x f x n rfl)) (λx f n=>(zE.1 ad).2.2 x f x n rfl)) (λx f n=>(zE.1 ab).2.2 x f x n rfl)) (λx f n=>(zE.1 aa).2.2 x f x n rfl)) ?_;intro q u d
       match q,d with
       | 0,d=>obtain rfl:=(zH d);simp[go_sem, *]
       | 1,d=>obtain rfl:=(zH d);simp[go_sem, *]
       | 2,d=>obtain rfl:=(zH d);simp[go_sem, *]
       | 3,d=>obtain rfl:=(zH d);simp[go_sem, *]
       | 4,d=>obtain rfl:=(zH d);simp[go_sem, *]
       | 5,d=>obtain rfl:=(zH d);simp[go_sem, *]
       | 6,d=>obtain rfl:=(zH d);simp[go_sem, *]
       | q+7,d=>simp at d
     exact HC.out.trans (((by repeat (first | (with_reducible exact a6.out) | (with_reducible refine Upd.setCell ?_ _ (by omega) _))):Upd g (j*7) 7 ([]++([]++([]++([]++([]++([]++ [])))))) wr _).chg.mono (λb hb=>(zS.1 hb).elim (λe=>e▸a8) (a5.out b)))
  obtain rfl:j=l.length:=by omega
  have h:=HW.out;have a7:=HC.out;rw[zG,List.drop_length,zP] at h;rw[zG] at*;have al:=Lib.hid h;have am:=Lib.hid a7;clear h a7;go_wp2
  go_ret
  exact⟨rfl,al.out,am.out⟩
theorem EZ(w:E)(v:D)(l:S Zo)(L:S W)(K:Y)(k:W)(hK:K=k)(h1:1<=k)(hk:(Ql l k).2<=4611686018427387904)(ho:own L w [v] l):Calls uN 83 #[v,.int .i64 K] w (Pt L w [v] (Ql l k)):=by
 subst hK;obtain⟨oa,cap,rfl⟩:=Je ho;have aq:l.length<=9223372036854775807:=Bi ho;have HO:=Lib.hid ho;clear ho;go_enter func83,ntmps83
 go_wp2
 go_loopw [1,5] (mI L w oa cap l k) (λ_ i _=>l.length-(intOf i).toNat)
 case atStart=>exact⟨0,zK _,rfl,rfl,HO.out,Chg.refl _ _⟩
 case round=>
  obtain⟨j,hj,rfl,rfl,HW,HC⟩:=hrel;by_cases y:j<l.length
  . have hx:=zF y;have a1:=Ki l k j _ hx;have a2:=zJ (Jo l k j _ hx) hk;have a3:=zN y;have a4:=Qju y k;have ar:k<=(Ql (l.take j) k).2:=Yt _ _;have f:=HW.out;rw[a3] at f;clear hx a3 HW;generalize(Ql (l.take j) k).2=kk at*;generalize(Ql (l.take j) k).1=xs at*;generalize l[j]=x at*;obtain⟨g,ao,cur,e,Li,hv,hg,m,c,ad,r,z,a⟩:=Gf f;simp only[Value.slice.injEq] at hv;obtain⟨rfl,ae,rfl⟩:=hv;clear ae;rw[a4] at m z a;clear a4;rw[show GoD.n Zo=2 from rfl] at m z a;generalize V:(cur.toList.drop (j*2)).take 2=ce at*;obtain⟨v0,v1⟩:=x;obtain⟨af,_,_,_,h,rfl,rfl,⟨rfl,rfl,h0⟩,p⟩:=z;obtain⟨au,rfl⟩:=Bn (show _=1 from GoD.rd_len (GoD.own_rd p));obtain⟨a5,a6,rfl⟩:=Je p;have p0:wr.cell? ⟨g,j*2,G⟩=T _:=Jq hg V 0 _ rfl;have p1:wr.cell? ⟨g,j*2+1,G⟩=T _:=Jq hg V 1 _ rfl;have fz:=U3 hg;have ap:=Xb hg;clear V hg f;have ah:=Lib.hid a;clear a;have a7:=Lib.hid a1;clear a1;have a2:(Ql v1 (kk+1)).2<=4611686018427387904:=a2;have av:kk+1<=(Ql v1 (kk+1)).2:=Yt _ _;have a8:=Lib.hid p;clear p;have a9:=Lib.hid r;clear r;have ai:Hid (Upd g (j*2) 2 ([]++h) wr wr):=Upd.refl _ _ _ _ _;have s:True:=trivial;have t:True:=trivial;go_wp2_with (first | (go_at_call 87;have tk:=s;clear s;refine(Wj _ _ (kk) (by omega) (by omega) (by omega)).mono ?_;rintro e w1 ⟨rfl,hb⟩;have hz:=hb.size;have c1:=λo=>Ax hb g o (by go_size);have f1:=λo=>LP hb g o (by go_size);have aj:Hid (Upd g (j*2) 2 ([]++h) wr w1):=Upd.below (by repeat (first | (with_reducible exact ai.out) | (with_reducible refine Upd.setCell ?_ _ (by omega) _))) hb (by go_size);(try simp only[zSm] at hz);have ak:=Lib.hid hb;clear hb) | (go_at_call 137;have tk:=t;clear t;refine V5 (Qaj _ _ v1 h _ (kk+1) (by omega) (by omega) (by omega) (by repeat (first | (with_reducible exact a8.out) | (refine Kd ?_ (λn=>c (zD.2 (.inr n)))) | (with_reducible refine Pu ?_ ak.out)))) ?_;intro w2 aa d hz;have c2:=λo=>d.cell (b:=g) (by go_size) (λn=>c (zD.2 (.inr n))) o;have f2:=λo=>d.frozen (b:=g) (by go_size) (λn=>c (zD.2 (.inr n))) o;have ab:Hid (Upd g (j*2) 2 ([]++h) wr w2):=Upd.mark (by repeat (first | (with_reducible exact aj.out) | (with_reducible refine Upd.setCell ?_ _ (by omega) _))) d (λb n=>(zD.2 (.inr n))) (λn=>c (zD.2 (.inr n))) (by go_size);(try simp only[zSm] at hz);have aw:=Lib.hid d;clear d;have al:=Lib.hid aa;clear aa))
    go_roundw
    case measure=>simp[intOf];omega
    case rel=>
     refine⟨j+1,by omega,by go_num, ?_, ?_, ?_⟩
     . show Value.int _ _=_;rw[a7.out];show Value.int .i64 _= .int .i64 (((Ql v1 (kk+1)).2:W):Y);first | go_num | (congr 1<;>omega)
     . show own _ _ _ _;rw[a7.out];simp only[zO,List.singleton_append];refine ah.out _ [.string (Ev (kk)),.slice a5 v1.length a6] _ (by repeat (first | (with_reducible exact ab.out) | (with_reducible refine Upd.setCell ?_ _ (by omega) _))) (Jp (LR _ (Et (by omega))) (show own h _ [.slice a5 v1.length a6] (Ql v1 (kk+1)).1 by repeat (first | (with_reducible exact al.out) | (refine Kd ?_ (λn=>c (zD.2 (.inr n)))))) (λx hx hy=>(zE.1 af).2.2 x hx x hy rfl)) ?_;intro q u hq
       match q,hq with
       | 0,hq=>obtain rfl:=(zH hq);simp[go_sem, *]
       | 1,hq=>obtain rfl:=(zH hq);simp[go_sem, *]
       | q+2,hq=>simp at hq
     exact HC.out.trans (((by repeat (first | (with_reducible exact ab.out) | (with_reducible refine Upd.setCell ?_ _ (by omega) _))):Upd g (j*2) 2 ([]++h) wr _).chg.mono (λb hb=>(zS.1 hb).elim (λe=>e▸ad) (a9.out b)))
  obtain rfl:j=l.length:=by omega
  have f:=HW.out;have d:=HC.out;rw[zG,List.drop_length,zP] at f;rw[zG] at*;have am:=Lib.hid f;have an:=Lib.hid d;clear f d;go_wp2
  go_ret
  exact⟨rfl,am.out,an.out⟩
theorem CW(w:E)(v:D)(l:S Ya)(L:S W)(K:Y)(k:W)(hK:K=k)(h1:1<=k)(hk:(Ql l k).2<=4611686018427387904)(ho:own L w [v] l):Calls uN 37 #[v,.int .i64 K] w (Pt L w [v] (Ql l k)):=by
 subst hK;obtain⟨oa,cap,rfl⟩:=Je ho;have bm:l.length<=9223372036854775807:=Bi ho;have HO:=Lib.hid ho;clear ho;go_enter func37,ntmps37
 go_wp2
 go_loopw [1,5] (mI L w oa cap l k) (λ_ i _=>l.length-(intOf i).toNat)
 case atStart=>exact⟨0,zK _,rfl,rfl,HO.out,Chg.refl _ _⟩
 case round=>
  obtain⟨j,hj,rfl,rfl,HW,HC⟩:=hrel;by_cases aa:j<l.length
  . have hx:=zF aa;have ae:=Ki l k j _ hx;have af:=zJ (Jo l k j _ hx) hk;have ah:=zN aa;have ai:=Qju aa k;have bp:k<=(Ql (l.take j) k).2:=Yt _ _;have p:=HW.out;rw[ah] at p;clear hx ah HW;generalize(Ql (l.take j) k).2=kk at*;generalize(Ql (l.take j) k).1=xs at*;generalize l[j]=x at*;obtain⟨g,bj,cur,e,Li,hv,hg,a1,a,b4,a6,ab,m⟩:=Gf p;simp only[Value.slice.injEq] at hv;obtain⟨rfl,b5,rfl⟩:=hv;clear b5;rw[ai] at a1 ab m;clear ai;rw[show GoD.n Ya=6 from rfl] at a1 ab m;generalize r:(cur.toList.drop (j*6)).take 6=ce at*;obtain⟨v0,⟨⟨n,s,v3⟩,v4⟩,v5⟩:=x;obtain⟨b6,_,_,_,_,rfl,rfl,⟨rfl,rfl,h0⟩,⟨b7,_,_,_,_,rfl,rfl,⟨a2,_,_,_,t,rfl,rfl,⟨ad,_,_,y,_,rfl,rfl,a3,⟨b8,_,_,z,_,rfl,rfl,a4,⟨rfl,rfl,h3⟩⟩⟩,a5⟩,⟨rfl,rfl,h5⟩⟩⟩:=ab;obtain⟨bq,rfl⟩:=Bn (show _=1 from GoD.rd_len (GoD.own_rd a3));obtain⟨aj,ak,rfl⟩:=Je a3;obtain⟨br,rfl⟩:=Bn (show _=1 from GoD.rd_len (GoD.own_rd a4));obtain⟨al,am,rfl⟩:=Je a4;obtain⟨bs,rfl⟩:=Bn (show _=1 from GoD.rd_len (GoD.own_rd a5));obtain⟨an,ao,rfl⟩:=Je a5;have p0:wr.cell? ⟨g,j*6,G⟩=T _:=Jq hg r 0 _ rfl;have p1:wr.cell? ⟨g,j*6+1,G⟩=T _:=Jq hg r 1 _ rfl;have p2:wr.cell? ⟨g,j*6+2,G⟩=T _:=Jq hg r 2 _ rfl;have p3:wr.cell? ⟨g,j*6+3,G⟩=T _:=Jq hg r 3 _ rfl;have p4:wr.cell? ⟨g,j*6+4,G⟩=T _:=Jq hg r 4 _ rfl;have p5:wr.cell? ⟨g,j*6+5,G⟩=T _:=Jq hg r 5 _ rfl;have fz:=U3 hg;have bk:=Xb hg;clear r hg p;have b9:=Lib.hid m;clear m;have ap:=Lib.hid ae;clear ae;have af:(Ql v4 ((Ql s ((Ql n (kk+1)).2)).2+1)).2+1<=4611686018427387904:=af;have bt:kk+1<=(Ql n (kk+1)).2:=Yt _ _;have bu:(Ql n (kk+1)).2<=(Ql s ((Ql n (kk+1)).2)).2:=Yt _ _;have bv:(Ql s ((Ql n (kk+1)).2)).2+1<=(Ql v4 ((Ql s ((Ql n (kk+1)).2)).2+1)).2:=Yt _ _;have aq:=Lib.hid a3;clear a3;have ar:=Lib.hid a4;clear a4;have au:=Lib.hid a5;clear a5;have av:=Lib.hid a6;clear a6;have ba:Hid (Upd g (j*6) 6 ([]++(((y++(z++ []))++t)++ [])) wr wr):=Upd.refl _ _ _ _ _;have a7:True:=trivial;have a8:True:=trivial;have a9:True:=trivial
    go_wp2_with (first | (go_at_call 85;have tk:=a7;clear a7;refine V5 (KW _ _ n y _ (kk+1) (by omega) (by omega) (by omega) (by repeat (first | (with_reducible exact aq.out) | (refine Kd ?_ (λd=>a (zD.2 (.inr (zD.2 (.inl (zD.2 (.inl (zD.2 (.inl d))))))))))))) ?_;intro w1 aw c hz;have c1:=λo=>c.cell (b:=g) (by go_size) (λd=>a (zD.2 (.inr (zD.2 (.inl (zD.2 (.inl (zD.2 (.inl d))))))))) o;have f1:=λo=>c.frozen (b:=g) (by go_size) (λd=>a (zD.2 (.inr (zD.2 (.inl (zD.2 (.inl (zD.2 (.inl d))))))))) o;have bb:Hid (Upd g (j*6) 6 ([]++(((y++(z++ []))++t)++ [])) wr w1):=Upd.mark (by repeat (first | (with_reducible exact ba.out) | (with_reducible refine Upd.setCell ?_ _ (by omega) _))) c (λb d=>(zD.2 (.inr (zD.2 (.inl (zD.2 (.inl (zD.2 (.inl d))))))))) (λd=>a (zD.2 (.inr (zD.2 (.inl (zD.2 (.inl (zD.2 (.inl d))))))))) (by go_size);(try simp only[zSm] at hz);have ax:=Lib.hid c;clear c;have bc:=Lib.hid aw;clear aw) | (go_at_call 86;have tk:=a8;clear a8;refine V5 (BU _ _ s z _ ((Ql n (kk+1)).2) (by omega) (by omega) (by omega) (by repeat (first | (with_reducible exact ar.out) | (refine Kd ?_ (λd=>a (zD.2 (.inr (zD.2 (.inl (zD.2 (.inl (zD.2 (.inr (zD.2 (.inl d)))))))))))) | (refine K7 ?_ ax.out (λb f h=>(zE.1 ad).2.2 _ h _ (zD.2 (.inl f)) rfl))))) ?_;intro w2 ay c hz;have c2:=λo=>c.cell (b:=g) (by go_size) (λd=>a (zD.2 (.inr (zD.2 (.inl (zD.2 (.inl (zD.2 (.inr (zD.2 (.inl d))))))))))) o;have f2:=λo=>c.frozen (b:=g) (by go_size) (λd=>a (zD.2 (.inr (zD.2 (.inl (zD.2 (.inl (zD.2 (.inr (zD.2 (.inl d))))))))))) o;have bd:Hid (Upd g (j*6) 6 ([]++(((y++(z++ []))++t)++ [])) wr w2):=Upd.mark (by repeat (first | (with_reducible exact bb.out) | (with_reducible refine Upd.setCell ?_ _ (by omega) _))) c (λb d=>(zD.2 (.inr (zD.2 (.inl (zD.2 (.inl (zD.2 (.inr (zD.2 (.inl d))))))))))) (λd=>a (zD.2 (.inr (zD.2 (.inl (zD.2 (.inl (zD.2 (.inr (zD.2 (.inl d))))))))))) (by go_size);(try simp only[zSm] at hz);have az:=Lib.hid c;clear c;have be:=Lib.hid ay;clear ay) | (go_at_call 83;have tk:=a9;clear a9;refine V5 (EZ _ _ v4 t _ ((Ql s ((Ql n (kk+1)).2)).2+1) (by omega) (by omega) (by omega) (by repeat (first | (with_reducible exact au.out) | (refine Kd ?_ (λd=>a (zD.2 (.inr (zD.2 (.inl (zD.2 (.inr d)))))))) | (refine K7 ?_ az.out (λb f h=>(zE.1 a2).2.2 _ (zD.2 (.inr (zD.2 (.inl h)))) _ f rfl)) | (refine K7 ?_ ax.out (λb f h=>(zE.1 a2).2.2 _ (zD.2 (.inl h)) _ f rfl))))) ?_;intro w3 b1 c hz;have c3:=λo=>c.cell (b:=g) (by go_size) (λd=>a (zD.2 (.inr (zD.2 (.inl (zD.2 (.inr d))))))) o;have f3:=λo=>c.frozen (b:=g) (by go_size) (λd=>a (zD.2 (.inr (zD.2 (.inl (zD.2 (.inr d))))))) o;have b2:Hid (Upd g (j*6) 6 ([]++(((y++(z++ []))++t)++ [])) wr w3):=Upd.mark (by repeat (first | (with_reducible exact bd.out) | (with_reducible refine Upd.setCell ?_ _ (by omega) _))) c (λb d=>(zD.2 (.inr (zD.2 (.inl (zD.2 (.inr d))))))) (λd=>a (zD.2 (.inr (zD.2 (.inl (zD.2 (.inr d))))))) (by go_size);(try simp only[zSm] at hz);have b3:=Lib.hid c;clear c;have bf:=Lib.hid b1;clear b1))
    go_roundw
    case measure=>simp[intOf];omega
    case rel=>
     refine⟨j+1,by omega,by go_num, ?_, ?_, ?_⟩
     . show Value.int _ _=_;rw[ap.out];show Value.int .i64 _= .int .i64 (((Ql v4 ((Ql s ((Ql n (kk+1)).2)).2+1)).2+1:W):Y);first | go_num | (congr 1<;>omega)
     . show own _ _ _ _;rw[ap.out];simp only[zO,List.singleton_append];refine b9.out _ [.int .i64 ((kk:W):Y),.slice aj n.length ak,.slice al s.length am,.int .i64 (((Ql s ((Ql n (kk+1)).2)).2:W):Y),.slice an v4.length ao,.int .i64 (((Ql v4 ((Ql s ((Ql n (kk+1)).2)).2+1)).2:W):Y)] _ (by repeat (first | (with_reducible exact b2.out) | (with_reducible refine Upd.setCell ?_ _ (by omega) _))) (Jp (Ns _ (Gv (kk) (by omega))) (Jp (Jp (Jp (show own y _ [.slice aj n.length ak] (Ql n (kk+1)).1 by repeat (first | (with_reducible exact bc.out) | (refine Kd ?_ (λd=>a (zD.2 (.inr (zD.2 (.inl (zD.2 (.inl (zD.2 (.inl d)))))))))) | (refine K7 ?_ b3.out (λb f h=>(zE.1 a2).2.2 _ (zD.2 (.inl f)) _ h rfl)) | (refine K7 ?_ az.out (λb f h=>(zE.1 ad).2.2 _ f _ (zD.2 (.inl h)) rfl)))) (Jp (show own z _ [.slice al s.length am] (Ql s ((Ql n (kk+1)).2)).1 by repeat (first | (with_reducible exact be.out) | (refine Kd ?_ (λd=>a (zD.2 (.inr (zD.2 (.inl (zD.2 (.inl (zD.2 (.inr (zD.2 (.inl d)))))))))))) | (refine K7 ?_ b3.out (λb f h=>(zE.1 a2).2.2 _ (zD.2 (.inr (zD.2 (.inl f)))) _ h rfl)))) (Ns _ (Gv ((Ql s ((Ql n (kk+1)).2)).2) (by omega))) (λx hx hy=>(zE.1 b8).2.2 x hx x hy rfl)) (λx hx hy=>(zE.1 ad).2.2 x hx x hy rfl)) (show own t _ [.slice an v4.length ao] (Ql v4 ((Ql s ((Ql n (kk+1)).2)).2+1)).1 by repeat (first | (with_reducible exact bf.out) | (refine Kd ?_ (λd=>a (zD.2 (.inr (zD.2 (.inl (zD.2 (.inr d)))))))))) (λx hx hy=>(zE.1 a2).2.2 x hx x hy rfl)) (Ns _ (Gv ((Ql v4 ((Ql s ((Ql n (kk+1)).2)).2+1)).2) (by omega))) (λx hx hy=>(zE.1 b7).2.2 x hx x hy rfl)) (λx hx hy=>(zE.1 b6).2.2 x hx x hy rfl)) ?_;intro q u V
       match q,V with
       | 0,V=>obtain rfl:=(zH V);simp[go_sem, *]
       | 1,V=>obtain rfl:=(zH V);simp[go_sem, *]
       | 2,V=>obtain rfl:=(zH V);simp[go_sem, *]
       | 3,V=>obtain rfl:=(zH V);simp[go_sem, *]
       | 4,V=>obtain rfl:=(zH V);simp[go_sem, *]
       | 5,V=>obtain rfl:=(zH V);simp[go_sem, *]
       | q+6,V=>simp at V
     exact HC.out.trans (((by repeat (first | (with_reducible exact b2.out) | (with_reducible refine Upd.setCell ?_ _ (by omega) _))):Upd g (j*6) 6 ([]++(((y++(z++ []))++t)++ [])) wr _).chg.mono (λb hb=>(zS.1 hb).elim (λe=>e▸b4) (av.out b)))
  obtain rfl:j=l.length:=by omega
  have p:=HW.out;have c:=HC.out;rw[zG,List.drop_length,zP] at p;rw[zG] at*;have bg:=Lib.hid p;have bh:=Lib.hid c;clear p c;go_wp2
  go_ret
  exact⟨rfl,bg.out,bh.out⟩
theorem LB(w:E)(v:D)(l:S Qo)(L:S W)(K:Y)(k:W)(hK:K=k)(h1:1<=k)(hk:(Ql l k).2<=4611686018427387904)(ho:own L w [v] l):Calls uN 84 #[v,.int .i64 K] w (Pt L w [v] (Ql l k)):=by
 subst hK;obtain⟨oa,cap,rfl⟩:=Je ho;have aq:l.length<=9223372036854775807:=Bi ho;have HO:=Lib.hid ho;clear ho;go_enter func84,ntmps84
 go_wp2
 go_loopw [1,5] (mI L w oa cap l k) (λ_ i _=>l.length-(intOf i).toNat)
 case atStart=>exact⟨0,zK _,rfl,rfl,HO.out,Chg.refl _ _⟩
 case round=>
  obtain⟨j,hj,rfl,rfl,HW,HC⟩:=hrel;by_cases y:j<l.length
  . have hx:=zF y;have a1:=Ki l k j _ hx;have a2:=zJ (Jo l k j _ hx) hk;have a3:=zN y;have a4:=Qju y k;have ar:k<=(Ql (l.take j) k).2:=Yt _ _;have f:=HW.out;rw[a3] at f;clear hx a3 HW;generalize(Ql (l.take j) k).2=kk at*;generalize(Ql (l.take j) k).1=xs at*;generalize l[j]=x at*;obtain⟨g,ao,cur,e,Li,hv,hg,m,c,ad,r,z,a⟩:=Gf f;simp only[Value.slice.injEq] at hv;obtain⟨rfl,ae,rfl⟩:=hv;clear ae;rw[a4] at m z a;clear a4;rw[show GoD.n Qo=2 from rfl] at m z a;generalize V:(cur.toList.drop (j*2)).take 2=ce at*;obtain⟨v0,v1⟩:=x;obtain⟨af,_,_,_,h,rfl,rfl,⟨rfl,rfl,h0⟩,p⟩:=z;obtain⟨au,rfl⟩:=Bn (show _=1 from GoD.rd_len (GoD.own_rd p));obtain⟨a5,a6,rfl⟩:=Je p;have p0:wr.cell? ⟨g,j*2,G⟩=T _:=Jq hg V 0 _ rfl;have p1:wr.cell? ⟨g,j*2+1,G⟩=T _:=Jq hg V 1 _ rfl;have fz:=U3 hg;have ap:=Xb hg;clear V hg f;have ah:=Lib.hid a;clear a;have a7:=Lib.hid a1;clear a1;have a2:(Ql v1 (kk+1)).2<=4611686018427387904:=a2;have av:kk+1<=(Ql v1 (kk+1)).2:=Yt _ _;have a8:=Lib.hid p;clear p;have a9:=Lib.hid r;clear r;have ai:Hid (Upd g (j*2) 2 ([]++h) wr wr):=Upd.refl _ _ _ _ _;have s:True:=trivial;have t:True:=trivial;go_wp2_with (first | (go_at_call 87;have tk:=s;clear s;refine(Wj _ _ (kk) (by omega) (by omega) (by omega)).mono ?_;rintro e w1 ⟨rfl,hb⟩;have hz:=hb.size;have c1:=λo=>Ax hb g o (by go_size);have f1:=λo=>LP hb g o (by go_size);have aj:Hid (Upd g (j*2) 2 ([]++h) wr w1):=Upd.below (by repeat (first | (with_reducible exact ai.out) | (with_reducible refine Upd.setCell ?_ _ (by omega) _))) hb (by go_size);(try simp only[zSm] at hz);have ak:=Lib.hid hb;clear hb) | (go_at_call 39;have tk:=t;clear t;refine V5 (Nm _ _ v1 h _ (kk+1) (by omega) (by omega) (by omega) (by repeat (first | (with_reducible exact a8.out) | (refine Kd ?_ (λn=>c (zD.2 (.inr n)))) | (with_reducible refine Pu ?_ ak.out)))) ?_;intro w2 aa d hz;have c2:=λo=>d.cell (b:=g) (by go_size) (λn=>c (zD.2 (.inr n))) o;have f2:=λo=>d.frozen (b:=g) (by go_size) (λn=>c (zD.2 (.inr n))) o;have ab:Hid (Upd g (j*2) 2 ([]++h) wr w2):=Upd.mark (by repeat (first | (with_reducible exact aj.out) | (with_reducible refine Upd.setCell ?_ _ (by omega) _))) d (λb n=>(zD.2 (.inr n))) (λn=>c (zD.2 (.inr n))) (by go_size);(try simp only[zSm] at hz);have aw:=Lib.hid d;clear d;have al:=Lib.hid aa;clear aa))
    go_roundw
    case measure=>simp[intOf];omega
    case rel=>
     refine⟨j+1,by omega,by go_num, ?_, ?_, ?_⟩
     . show Value.int _ _=_;rw[a7.out];show Value.int .i64 _= .int .i64 (((Ql v1 (kk+1)).2:W):Y);first | go_num | (congr 1<;>omega)
     . show own _ _ _ _;rw[a7.out];simp only[zO,List.singleton_append];refine ah.out _ [.string (Ev (kk)),.slice a5 v1.length a6] _ (by repeat (first | (with_reducible exact ab.out) | (with_reducible refine Upd.setCell ?_ _ (by omega) _))) (Jp (LR _ (Et (by omega))) (show own h _ [.slice a5 v1.length a6] (Ql v1 (kk+1)).1 by repeat (first | (with_reducible exact al.out) | (refine Kd ?_ (λn=>c (zD.2 (.inr n)))))) (λx hx hy=>(zE.1 af).2.2 x hx x hy rfl)) ?_;intro q u hq
       match q,hq with
       | 0,hq=>obtain rfl:=(zH hq);simp[go_sem, *]
       | 1,hq=>obtain rfl:=(zH hq);simp[go_sem, *]
       | q+2,hq=>simp at hq
     exact HC.out.trans (((by repeat (first | (with_reducible exact ab.out) | (with_reducible refine Upd.setCell ?_ _ (by omega) _))):Upd g (j*2) 2 ([]++h) wr _).chg.mono (λb hb=>(zS.1 hb).elim (λe=>e▸ad) (a9.out b)))
  obtain rfl:j=l.length:=by omega
  have f:=HW.out;have d:=HC.out;rw[zG,List.drop_length,zP] at f;rw[zG] at*;have am:=Lib.hid f;have an:=Lib.hid d;clear f d;go_wp2
  go_ret
  exact⟨rfl,am.out,an.out⟩
theorem LC(w:E)(ca:S D)(a:Wq)(L:S W)(K:Y)(k:W)(hK:K=k)(h1:1<=k)(hk:(GoD.markT a k).2<=4611686018427387904)(ho:own L w ca a):Calls uN 36 #[.agg ca.toArray,.int .i64 K] w (Pt L w ca (GoD.markT a k)):=by
 subst hK;obtain⟨l,m,b3⟩:=a;have hk:(Ql b3 ((Ql m ((GoD.markT l (k)).2)).2)).2<=4611686018427387904:=hk;have a6:=GoD.own_lt ho;obtain⟨n,_,_,p,_,rfl,rfl,y,⟨z,_,_,q,r,rfl,rfl,V,a1⟩⟩:=ho;obtain⟨c,d,e,rfl⟩:=Qoo (show _=3 from GoD.rd_len (GoD.own_rd y));have a7:=Lib.hid y;clear y;have ai:k<=(GoD.markT l (k)).2:=GoD.mkT_le _ _;obtain⟨f,rfl⟩:=Bn (show _=1 from GoD.rd_len (GoD.own_rd V));have a8:=Lib.hid V;clear V;have aj:(GoD.markT l (k)).2<=(Ql m ((GoD.markT l (k)).2)).2:=Yt _ _;obtain⟨g,rfl⟩:=Bn (show _=1 from GoD.rd_len (GoD.own_rd a1));have a9:=Lib.hid a1;clear a1;have ak:(Ql m ((GoD.markT l (k)).2)).2<=(Ql b3 ((Ql m ((GoD.markT l (k)).2)).2)).2:=Yt _ _;show Calls uN 36 #[.agg #[c,d,e,f,g],.int .i64 (k:Y)] w (Pt (p++(q++r)) w [c,d,e,f,g] (GoD.markT ((l,m,b3):Wq) k));have a2:=Lib.hid a6;clear a6;have t:True:=trivial;have u:True:=trivial;have v:True:=trivial;go_enter func36,ntmps36
 go_wp2_with (first | (go_at_call 82;have tk:=t;clear t;refine V5 (Qai _ [c,d,e] l p _ (k) (by omega) (by omega) (show(GoD.markT l (k)).2<=4611686018427387904 by omega) (by repeat (first | (with_reducible exact a7.out) | (refine V3 ?_)))) ?_;intro w1 aa h hz;have c1:=λo=>h.cell (b:=w.heap.size) (by go_size) (λs=>by have:=a2.out _ (zD.2 (.inl s));omega) o;(try simp only[zSm] at hz);have a3:=Lib.hid h;clear h;have ae:=Lib.hid aa;clear aa) | (go_at_call 83;have tk:=u;clear u;refine V5 (EZ _ f m q _ ((GoD.markT l (k)).2) (by omega) (by omega) (show(Ql m ((GoD.markT l (k)).2)).2<=4611686018427387904 by omega) (by repeat (first | (with_reducible exact a8.out) | (refine V3 ?_) | (refine K7 ?_ a3.out (λb i j=>(zE.1 n).2.2 _ j _ (zD.2 (.inl i)) rfl))))) ?_;intro w2 ab h hz;have c2:=λo=>h.cell (b:=w.heap.size) (by go_size) (λs=>by have:=a2.out _ (zD.2 (.inr (zD.2 (.inl s))));omega) o;(try simp only[zSm] at hz);have a4:=Lib.hid h;clear h;have af:=Lib.hid ab;clear ab) | (go_at_call 84;have tk:=v;clear v;refine V5 (LB _ g b3 r _ ((Ql m ((GoD.markT l (k)).2)).2) (by omega) (by omega) (show(Ql b3 ((Ql m ((GoD.markT l (k)).2)).2)).2<=4611686018427387904 by omega) (by repeat (first | (with_reducible exact a9.out) | (refine V3 ?_) | (refine K7 ?_ a4.out (λb i j=>(zE.1 z).2.2 _ j _ i rfl)) | (refine K7 ?_ a3.out (λb i j=>(zE.1 n).2.2 _ j _ (zD.2 (.inr i)) rfl))))) ?_;intro w3 ad h hz;have c3:=λo=>h.cell (b:=w.heap.size) (by go_size) (λs=>by have:=a2.out _ (zD.2 (.inr (zD.2 (.inr s))));omega) o;(try simp only[zSm] at hz);have a5:=Lib.hid h;clear h;have ah:=Lib.hid ad;clear ad))
 go_ret
 refine⟨rfl, ?_, ?_⟩
 . show own (p++(q++r)) _ [c,d,e,f,g] _;exact(Jp (show own p _ [c,d,e] (GoD.markT l (k)).1 by repeat (first | (with_reducible exact ae.out) | (refine V3 ?_) | (refine K7 ?_ a5.out (λb i j=>(zE.1 n).2.2 _ i _ (zD.2 (.inr j)) rfl)) | (refine K7 ?_ a4.out (λb i j=>(zE.1 n).2.2 _ i _ (zD.2 (.inl j)) rfl)))) (Jp (show own q _ [f] (Ql m ((GoD.markT l (k)).2)).1 by repeat (first | (with_reducible exact af.out) | (refine V3 ?_) | (refine K7 ?_ a5.out (λb i j=>(zE.1 z).2.2 _ i _ j rfl)))) (show own r _ [g] (Ql b3 ((Ql m ((GoD.markT l (k)).2)).2)).1 by repeat (first | (with_reducible exact ah.out) | (refine V3 ?_))) (λx hx hy=>(zE.1 z).2.2 x hx x hy rfl)) (λx hx hy=>(zE.1 n).2.2 x hx x hy rfl))
 show Chg (p++(q++r)) w _;exact(((Chg.of_below (show Below w.heap.size w _ by go_grown)).trans (a3.out.mono (λb s=>(zD.2 (.inl s))))).trans (a4.out.mono (λb s=>(zD.2 (.inr (zD.2 (.inl s))))))).trans (a5.out.mono (λb s=>(zD.2 (.inr (zD.2 (.inr s))))))
theorem PP(w:E)(v:D)(l:S Kn)(L:S W)(K:Y)(k:W)(hK:K=k)(h1:1<=k)(hk:(Ql l k).2<=4611686018427387904)(ho:own L w [v] l):Calls uN 88 #[v,.int .i64 K] w (Pt L w [v] (Ql l k)):=by
 subst hK;obtain⟨oa,cap,rfl⟩:=Je ho;have b6:l.length<=9223372036854775807:=Bi ho;have HO:=Lib.hid ho;clear ho;go_enter func88,ntmps88
 go_wp2
 go_loopw [1,5] (mI L w oa cap l k) (λ_ i _=>l.length-(intOf i).toNat)
 case atStart=>exact⟨0,zK _,rfl,rfl,HO.out,Chg.refl _ _⟩
 case round=>
  obtain⟨j,hj,rfl,rfl,HW,HC⟩:=hrel;by_cases a3:j<l.length
  . have hx:=zF a3;have a8:=Ki l k j _ hx;have a9:=zJ (Jo l k j _ hx) hk;have aa:=zN a3;have ab:=Qju a3 k;have b7:k<=(Ql (l.take j) k).2:=Yt _ _;have h:=HW.out;rw[aa] at h;clear hx aa HW;generalize(Ql (l.take j) k).2=kk at*;generalize(Ql (l.take j) k).1=xs at*;generalize l[j]=x at*;obtain⟨g,b4,cur,e,Li,hv,hg,p,a,ap,V,a4,f⟩:=Gf h;simp only[Value.slice.injEq] at hv;obtain⟨rfl,aq,rfl⟩:=hv;clear aq;rw[ab] at p a4 f;clear ab;rw[show GoD.n Kn=3 from rfl] at p a4 f;generalize s:(cur.toList.drop (j*3)).take 3=ce at*;obtain⟨v0,r,v2⟩:=x;obtain⟨ar,_,_,_,_,rfl,rfl,⟨rfl,rfl,h0⟩,⟨a5,_,_,m,n,rfl,rfl,t,y⟩⟩:=a4;obtain⟨b8,rfl⟩:=Bn (show _=1 from GoD.rd_len (GoD.own_rd t));obtain⟨ad,ae,rfl⟩:=Je t;obtain⟨b9,rfl⟩:=Bn (show _=1 from GoD.rd_len (GoD.own_rd y));obtain⟨af,ah,rfl⟩:=Je y;have p0:wr.cell? ⟨g,j*3,G⟩=T _:=Jq hg s 0 _ rfl;have p1:wr.cell? ⟨g,j*3+1,G⟩=T _:=Jq hg s 1 _ rfl;have p2:wr.cell? ⟨g,j*3+2,G⟩=T _:=Jq hg s 2 _ rfl;have fz:=U3 hg;have b5:=Xb hg;clear s hg h;have au:=Lib.hid f;clear f;have ai:=Lib.hid a8;clear a8;have a9:(Ql v2 ((Ql r (kk+1)).2)).2<=4611686018427387904:=a9;have ba:kk+1<=(Ql r (kk+1)).2:=Yt _ _;have bb:(Ql r (kk+1)).2<=(Ql v2 ((Ql r (kk+1)).2)).2:=Yt _ _;have aj:=Lib.hid t;clear t;have ak:=Lib.hid y;clear y;have al:=Lib.hid V;clear V;have av:Hid (Upd g (j*3) 3 ([]++(m++n)) wr wr):=Upd.refl _ _ _ _ _;have a1:True:=trivial;have a2:True:=trivial;go_wp2_with (first | (go_at_call 39;have tk:=a1;clear a1;refine V5 (Nm _ _ r m _ (kk+1) (by omega) (by omega) (by omega) (by repeat (first | (with_reducible exact aj.out) | (refine Kd ?_ (λd=>a (zD.2 (.inr (zD.2 (.inl d))))))))) ?_;intro w1 am c hz;have c1:=λo=>c.cell (b:=g) (by go_size) (λd=>a (zD.2 (.inr (zD.2 (.inl d))))) o;have f1:=λo=>c.frozen (b:=g) (by go_size) (λd=>a (zD.2 (.inr (zD.2 (.inl d))))) o;have aw:Hid (Upd g (j*3) 3 ([]++(m++n)) wr w1):=Upd.mark (by repeat (first | (with_reducible exact av.out) | (with_reducible refine Upd.setCell ?_ _ (by omega) _))) c (λb d=>(zD.2 (.inr (zD.2 (.inl d))))) (λd=>a (zD.2 (.inr (zD.2 (.inl d))))) (by go_size);(try simp only[zSm] at hz);have ax:=Lib.hid c;clear c;have ay:=Lib.hid am;clear am) | (go_at_call 39;have tk:=a2;clear a2;refine V5 (Nm _ _ v2 n _ ((Ql r (kk+1)).2) (by omega) (by omega) (by omega) (by repeat (first | (with_reducible exact ak.out) | (refine Kd ?_ (λd=>a (zD.2 (.inr (zD.2 (.inr d)))))) | (refine K7 ?_ ax.out (λb a6 a7=>(zE.1 a5).2.2 _ a7 _ a6 rfl))))) ?_;intro w2 an c hz;have c2:=λo=>c.cell (b:=g) (by go_size) (λd=>a (zD.2 (.inr (zD.2 (.inr d))))) o;have f2:=λo=>c.frozen (b:=g) (by go_size) (λd=>a (zD.2 (.inr (zD.2 (.inr d))))) o;have ao:Hid (Upd g (j*3) 3 ([]++(m++n)) wr w2):=Upd.mark (by repeat (first | (with_reducible exact aw.out) | (with_reducible refine Upd.setCell ?_ _ (by omega) _))) c (λb d=>(zD.2 (.inr (zD.2 (.inr d))))) (λd=>a (zD.2 (.inr (zD.2 (.inr d))))) (by go_size);(try simp only[zSm] at hz);have az:=Lib.hid c;clear c;have b1:=Lib.hid an;clear an))
    go_roundw
    case measure=>simp[intOf];omega
    case rel=>
     refine⟨j+1,by omega,by go_num, ?_, ?_, ?_⟩
     . show Value.int _ _=_;rw[ai.out];show Value.int .i64 _= .int .i64 (((Ql v2 ((Ql r (kk+1)).2)).2:W):Y);first | go_num | (congr 1<;>omega)
     . show own _ _ _ _;rw[ai.out];simp only[zO,List.singleton_append];refine au.out _ [.int .i64 ((kk:W):Y),.slice ad r.length ae,.slice af v2.length ah] _ (by repeat (first | (with_reducible exact ao.out) | (with_reducible refine Upd.setCell ?_ _ (by omega) _))) (Jp (Ns _ (Gv (kk) (by omega))) (Jp (show own m _ [.slice ad r.length ae] (Ql r (kk+1)).1 by repeat (first | (with_reducible exact ay.out) | (refine Kd ?_ (λd=>a (zD.2 (.inr (zD.2 (.inl d)))))) | (refine K7 ?_ az.out (λb a6 a7=>(zE.1 a5).2.2 _ a6 _ a7 rfl)))) (show own n _ [.slice af v2.length ah] (Ql v2 ((Ql r (kk+1)).2)).1 by repeat (first | (with_reducible exact b1.out) | (refine Kd ?_ (λd=>a (zD.2 (.inr (zD.2 (.inr d)))))))) (λx hx hy=>(zE.1 a5).2.2 x hx x hy rfl)) (λx hx hy=>(zE.1 ar).2.2 x hx x hy rfl)) ?_;intro q u z
       match q,z with
       | 0,z=>obtain rfl:=(zH z);simp[go_sem, *]
       | 1,z=>obtain rfl:=(zH z);simp[go_sem, *]
       | 2,z=>obtain rfl:=(zH z);simp[go_sem, *]
       | q+3,z=>simp at z
     exact HC.out.trans (((by repeat (first | (with_reducible exact ao.out) | (with_reducible refine Upd.setCell ?_ _ (by omega) _))):Upd g (j*3) 3 ([]++(m++n)) wr _).chg.mono (λb hb=>(zS.1 hb).elim (λe=>e▸ap) (al.out b)))
  obtain rfl:j=l.length:=by omega
  have h:=HW.out;have c:=HC.out;rw[zG,List.drop_length,zP] at h;rw[zG] at*;have b2:=Lib.hid h;have b3:=Lib.hid c;clear h c;go_wp2
  go_ret
  exact⟨rfl,b2.out,b3.out⟩
theorem PQ(w:E)(v:D)(l:S Zz)(L:S W)(K:Y)(k:W)(hK:K=k)(h1:1<=k)(hk:(Ql l k).2<=4611686018427387904)(ho:own L w [v] l):Calls uN 38 #[v,.int .i64 K] w (Pt L w [v] (Ql l k)):=by
 subst hK;obtain⟨oa,cap,rfl⟩:=Je ho;have bb:l.length<=9223372036854775807:=Bi ho;have HO:=Lib.hid ho;clear ho;go_enter func38,ntmps38
 go_wp2
 go_loopw [1,5] (mI L w oa cap l k) (λ_ i _=>l.length-(intOf i).toNat)
 case atStart=>exact⟨0,zK _,rfl,rfl,HO.out,Chg.refl _ _⟩
 case round=>
  obtain⟨j,hj,rfl,rfl,HW,HC⟩:=hrel;by_cases a5:j<l.length
  . have y:=zF a5;have aa:=Ki l k j _ y;have ab:=zJ (Jo l k j _ y) hk;have ad:=zN a5;have ae:=Qju a5 k;have bc:k<=(Ql (l.take j) k).2:=Yt _ _;have h:=HW.out;rw[ad] at h;clear y ad HW;generalize(Ql (l.take j) k).2=kk at*;generalize(Ql (l.take j) k).1=xs at*;generalize l[j]=x at*;obtain⟨g,b9,cur,e,Li,hv,hg,p,a,au,a1,a6,f⟩:=Gf h;simp only[Value.slice.injEq] at hv;obtain⟨rfl,av,rfl⟩:=hv;clear av;rw[ae] at p a6 f;clear ae;rw[show GoD.n Zz=4 from rfl] at p a6 f;generalize r:(cur.toList.drop (j*4)).take 4=ce at*;obtain⟨v0,v1,s,v3⟩:=x;obtain⟨aw,_,_,_,_,rfl,rfl,⟨rfl,rfl,h0⟩,⟨ax,_,_,_,_,rfl,rfl,⟨rfl,rfl,h1⟩,⟨a7,_,_,m,n,rfl,rfl,z,V⟩⟩⟩:=a6;obtain⟨bd,rfl⟩:=Bn (show _=1 from GoD.rd_len (GoD.own_rd z));obtain⟨af,ah,rfl⟩:=Je z;obtain⟨be,rfl⟩:=Bn (show _=1 from GoD.rd_len (GoD.own_rd V));obtain⟨ai,aj,rfl⟩:=Je V;have p0:wr.cell? ⟨g,j*4,G⟩=T _:=Jq hg r 0 _ rfl;have p1:wr.cell? ⟨g,j*4+1,G⟩=T _:=Jq hg r 1 _ rfl;have p2:wr.cell? ⟨g,j*4+2,G⟩=T _:=Jq hg r 2 _ rfl;have p3:wr.cell? ⟨g,j*4+3,G⟩=T _:=Jq hg r 3 _ rfl;have fz:=U3 hg;have ba:=Xb hg;clear r hg h;have ay:=Lib.hid f;clear f;have ak:=Lib.hid aa;clear aa;have ab:(Ql v3 ((Ql s (kk+1+1)).2)).2<=4611686018427387904:=ab;have bf:kk+1+1<=(Ql s (kk+1+1)).2:=Yt _ _;have bg:(Ql s (kk+1+1)).2<=(Ql v3 ((Ql s (kk+1+1)).2)).2:=Yt _ _;have al:=Lib.hid z;clear z;have am:=Lib.hid V;clear V;have an:=Lib.hid a1;clear a1;have az:Hid (Upd g (j*4) 4 ([]++([]++(m++n))) wr wr):=Upd.refl _ _ _ _ _;have a2:True:=trivial;have a3:True:=trivial;have a4:True:=trivial;go_wp2_with (first | (go_at_call 87;have tk:=a2;clear a2;refine(Wj _ _ (kk+1) (by omega) (by omega) (by omega)).mono ?_;rintro e w1 ⟨rfl,hb⟩;have hz:=hb.size;have c1:=λo=>Ax hb g o (by go_size);have f1:=λo=>LP hb g o (by go_size);have b1:Hid (Upd g (j*4) 4 ([]++([]++(m++n))) wr w1):=Upd.below (by repeat (first | (with_reducible exact az.out) | (with_reducible refine Upd.setCell ?_ _ (by omega) _))) hb (by go_size);(try simp only[zSm] at hz);have ao:=Lib.hid hb;clear hb) | (go_at_call 39;have tk:=a3;clear a3;refine V5 (Nm _ _ s m _ (kk+1+1) (by omega) (by omega) (by omega) (by repeat (first | (with_reducible exact al.out) | (refine Kd ?_ (λd=>a (zD.2 (.inr (zD.2 (.inr (zD.2 (.inl d)))))))) | (with_reducible refine Pu ?_ ao.out)))) ?_;intro w2 ap c hz;have c2:=λo=>c.cell (b:=g) (by go_size) (λd=>a (zD.2 (.inr (zD.2 (.inr (zD.2 (.inl d))))))) o;have f2:=λo=>c.frozen (b:=g) (by go_size) (λd=>a (zD.2 (.inr (zD.2 (.inr (zD.2 (.inl d))))))) o;have b2:Hid (Upd g (j*4) 4 ([]++([]++(m++n))) wr w2):=Upd.mark (by repeat (first | (with_reducible exact b1.out) | (with_reducible refine Upd.setCell ?_ _ (by omega) _))) c (λb d=>(zD.2 (.inr (zD.2 (.inr (zD.2 (.inl d))))))) (λd=>a (zD.2 (.inr (zD.2 (.inr (zD.2 (.inl d))))))) (by go_size);(try simp only[zSm] at hz);have b3:=Lib.hid c;clear c;have b4:=Lib.hid ap;clear ap) | (go_at_call 88;have tk:=a4;clear a4;refine V5 (PP _ _ v3 n _ ((Ql s (kk+1+1)).2) (by omega) (by omega) (by omega) (by repeat (first | (with_reducible exact am.out) | (refine Kd ?_ (λd=>a (zD.2 (.inr (zD.2 (.inr (zD.2 (.inr d)))))))) | (refine K7 ?_ b3.out (λb a8 a9=>(zE.1 a7).2.2 _ a9 _ a8 rfl)) | (with_reducible refine Pu ?_ ao.out)))) ?_;intro w3 aq c hz;have c3:=λo=>c.cell (b:=g) (by go_size) (λd=>a (zD.2 (.inr (zD.2 (.inr (zD.2 (.inr d))))))) o;have f3:=λo=>c.frozen (b:=g) (by go_size) (λd=>a (zD.2 (.inr (zD.2 (.inr (zD.2 (.inr d))))))) o;have ar:Hid (Upd g (j*4) 4 ([]++([]++(m++n))) wr w3):=Upd.mark (by repeat (first | (with_reducible exact b2.out) | (with_reducible refine Upd.setCell ?_ _ (by omega) _))) c (λb d=>(zD.2 (.inr (zD.2 (.inr (zD.2 (.inr d))))))) (λd=>a (zD.2 (.inr (zD.2 (.inr (zD.2 (.inr d))))))) (by go_size);(try simp only[zSm] at hz);have b5:=Lib.hid c;clear c;have b6:=Lib.hid aq;clear aq))
    go_roundw
    case measure=>simp[intOf];omega
    case rel=>
     refine⟨j+1,by omega,by go_num, ?_, ?_, ?_⟩
     . show Value.int _ _=_;rw[ak.out];show Value.int .i64 _= .int .i64 (((Ql v3 ((Ql s (kk+1+1)).2)).2:W):Y);first | go_num | (congr 1<;>omega)
     . show own _ _ _ _;rw[ak.out];simp only[zO,List.singleton_append];refine ay.out _ [.int .i64 ((kk:W):Y),.string (Ev (kk+1)),.slice af s.length ah,.slice ai v3.length aj] _ (by repeat (first | (with_reducible exact ar.out) | (with_reducible refine Upd.setCell ?_ _ (by omega) _))) (Jp (Ns _ (Gv (kk) (by omega))) (Jp (LR _ (Et (by omega))) (Jp (show own m _ [.slice af s.length ah] (Ql s (kk+1+1)).1 by repeat (first | (with_reducible exact b4.out) | (refine Kd ?_ (λd=>a (zD.2 (.inr (zD.2 (.inr (zD.2 (.inl d)))))))) | (refine K7 ?_ b5.out (λb a8 a9=>(zE.1 a7).2.2 _ a8 _ a9 rfl)))) (show own n _ [.slice ai v3.length aj] (Ql v3 ((Ql s (kk+1+1)).2)).1 by repeat (first | (with_reducible exact b6.out) | (refine Kd ?_ (λd=>a (zD.2 (.inr (zD.2 (.inr (zD.2 (.inr d)))))))))) (λx y hy=>(zE.1 a7).2.2 x y x hy rfl)) (λx y hy=>(zE.1 ax).2.2 x y x hy rfl)) (λx y hy=>(zE.1 aw).2.2 x y x hy rfl)) ?_;intro q u t
       match q,t with
       | 0,t=>obtain rfl:=(zH t);simp[go_sem, *]
       | 1,t=>obtain rfl:=(zH t);simp[go_sem, *]
       | 2,t=>obtain rfl:=(zH t);simp[go_sem, *]
       | 3,t=>obtain rfl:=(zH t);simp[go_sem, *]
       | q+4,t=>simp at t
     exact HC.out.trans (((by repeat (first | (with_reducible exact ar.out) | (with_reducible refine Upd.setCell ?_ _ (by omega) _))):Upd g (j*4) 4 ([]++([]++(m++n))) wr _).chg.mono (λb hb=>(zS.1 hb).elim (λe=>e▸au) (an.out b)))
  obtain rfl:j=l.length:=by omega
  have h:=HW.out;have c:=HC.out;rw[zG,List.drop_length,zP] at h;rw[zG] at*;have b7:=Lib.hid h;have b8:=Lib.hid c;clear h c;go_wp2
  go_ret
  exact⟨rfl,b7.out,b8.out⟩
theorem PR(w:E)(ca:S D)(a:Jy)(L:S W)(K:Y)(k:W)(hK:K=k)(h1:1<=k)(hk:(GoD.markT a k).2<=4611686018427387904)(ho:own L w ca a):Calls uN 9 #[.agg ca.toArray,.int .i64 K] w (Pt L w ca (GoD.markT a k)):=by
 subst hK;obtain⟨p,b2,b3,t,v,b6⟩:=a;have hk:(Ql b6 ((Ql v ((Ql t ((GoD.markT p (k)).2)).2)).2)).2<=4611686018427387904:=hk;have am:=GoD.own_lt ho;obtain⟨s,_,_,y,_,rfl,rfl,af,⟨a7,_,_,a8,_,rfl,rfl,ah,⟨ay,_,_,_,_,rfl,rfl,⟨rfl,rfl,h2⟩,⟨z,_,_,V,_,rfl,rfl,ai,⟨aj,_,_,a1,a2,rfl,rfl,ak,al⟩⟩⟩⟩⟩:=ho;obtain⟨f,g,h,i,j,rfl⟩:=Qsa (show _=5 from GoD.rd_len (GoD.own_rd af));have an:=Lib.hid af;clear af;have ba:k<=(GoD.markT p (k)).2:=GoD.mkT_le _ _;obtain⟨q,r,rfl⟩:=CB (show _=2 from GoD.rd_len (GoD.own_rd ah));have ao:=Lib.hid ah;clear ah;obtain⟨l,rfl⟩:=Bn (show _=1 from GoD.rd_len (GoD.own_rd ai));have ap:=Lib.hid ai;clear ai;have bb:(GoD.markT p (k)).2<=(Ql t ((GoD.markT p (k)).2)).2:=Yt _ _;obtain⟨m,rfl⟩:=Bn (show _=1 from GoD.rd_len (GoD.own_rd ak));have aq:=Lib.hid ak;clear ak;have bc:(Ql t ((GoD.markT p (k)).2)).2<=(Ql v ((Ql t ((GoD.markT p (k)).2)).2)).2:=Yt _ _;obtain⟨n,rfl⟩:=Bn (show _=1 from GoD.rd_len (GoD.own_rd al));have ar:=Lib.hid al;clear al;have bd:(Ql v ((Ql t ((GoD.markT p (k)).2)).2)).2<=(Ql b6 ((Ql v ((Ql t ((GoD.markT p (k)).2)).2)).2)).2:=Yt _ _;show Calls uN 9 #[.agg #[f,g,h,i,j,q,r,.int .i64 b3,l,m,n],.int .i64 (k:Y)] w (Pt (y++(a8++([]++(V++(a1++a2))))) w [f,g,h,i,j,q,r,.int .i64 b3,l,m,n] (GoD.markT ((p,b2,b3,t,v,b6):Jy) k));have a9:=Lib.hid am;clear am;have aa:True:=trivial;have ab:True:=trivial;have ad:True:=trivial;have ae:True:=trivial;go_enter func9,ntmps9
 go_wp2_with (first | (go_at_call 36;have tk:=aa;clear aa;refine V5 (LC _ [f,g,h,i,j] p y _ (k) (by omega) (by omega) (show(GoD.markT p (k)).2<=4611686018427387904 by omega) (by repeat (first | (with_reducible exact an.out) | (refine V3 ?_)))) ?_;intro w1 au e hz;have c1:=λo=>e.cell (b:=w.heap.size) (by go_size) (λu=>by have:=a9.out _ (zD.2 (.inl u));omega) o;(try simp only[zSm] at hz);have a3:=Lib.hid e;clear e;have az:=Lib.hid au;clear au) | (go_at_call 37;have tk:=ab;clear ab;refine V5 (CW _ l t V _ ((GoD.markT p (k)).2) (by omega) (by omega) (show(Ql t ((GoD.markT p (k)).2)).2<=4611686018427387904 by omega) (by repeat (first | (with_reducible exact ap.out) | (refine V3 ?_) | (refine K7 ?_ a3.out (λb c d=>(zE.1 s).2.2 _ d _ (zD.2 (.inr (zD.2 (.inr (zD.2 (.inl c)))))) rfl))))) ?_;intro w2 av e hz;have c2:=λo=>e.cell (b:=w.heap.size) (by go_size) (λu=>by have:=a9.out _ (zD.2 (.inr (zD.2 (.inr (zD.2 (.inr (zD.2 (.inl u))))))));omega) o;(try simp only[zSm] at hz);have a4:=Lib.hid e;clear e;have b7:=Lib.hid av;clear av) | (go_at_call 38;have tk:=ad;clear ad;refine V5 (PQ _ m v a1 _ ((Ql t ((GoD.markT p (k)).2)).2) (by omega) (by omega) (show(Ql v ((Ql t ((GoD.markT p (k)).2)).2)).2<=4611686018427387904 by omega) (by repeat (first | (with_reducible exact aq.out) | (refine V3 ?_) | (refine K7 ?_ a4.out (λb c d=>(zE.1 z).2.2 _ d _ (zD.2 (.inl c)) rfl)) | (refine K7 ?_ a3.out (λb c d=>(zE.1 s).2.2 _ d _ (zD.2 (.inr (zD.2 (.inr (zD.2 (.inr (zD.2 (.inl c)))))))) rfl))))) ?_;intro w3 aw e hz;have c3:=λo=>e.cell (b:=w.heap.size) (by go_size) (λu=>by have:=a9.out _ (zD.2 (.inr (zD.2 (.inr (zD.2 (.inr (zD.2 (.inr (zD.2 (.inl u))))))))));omega) o;(try simp only[zSm] at hz);have a5:=Lib.hid e;clear e;have b8:=Lib.hid aw;clear aw) | (go_at_call 39;have tk:=ae;clear ae;refine V5 (Nm _ n b6 a2 _ ((Ql v ((Ql t ((GoD.markT p (k)).2)).2)).2) (by omega) (by omega) (show(Ql b6 ((Ql v ((Ql t ((GoD.markT p (k)).2)).2)).2)).2<=4611686018427387904 by omega) (by repeat (first | (with_reducible exact ar.out) | (refine V3 ?_) | (refine K7 ?_ a5.out (λb c d=>(zE.1 aj).2.2 _ d _ c rfl)) | (refine K7 ?_ a4.out (λb c d=>(zE.1 z).2.2 _ d _ (zD.2 (.inr c)) rfl)) | (refine K7 ?_ a3.out (λb c d=>(zE.1 s).2.2 _ d _ (zD.2 (.inr (zD.2 (.inr (zD.2 (.inr (zD.2 (.inr c)))))))) rfl))))) ?_;intro w4 ax e hz;have c4:=λo=>e.cell (b:=w.heap.size) (by go_size) (λu=>by have:=a9.out _ (zD.2 (.inr (zD.2 (.inr (zD.2 (.inr (zD.2 (.inr (zD.2 (.inr u))))))))));omega) o;(try simp only[zSm] at hz);have a6:=Lib.hid e;clear e;have b9:=Lib.hid ax;clear ax))
 go_ret
 refine⟨rfl, ?_, ?_⟩
 . show own (y++(a8++([]++(V++(a1++a2))))) _ [f,g,h,i,j,q,r,.int .i64 b3,l,m,n] _;exact(Jp (show own y _ [f,g,h,i,j] (GoD.markT p (k)).1 by repeat (first | (with_reducible exact az.out) | (refine V3 ?_) | (refine K7 ?_ a6.out (λb c d=>(zE.1 s).2.2 _ c _ (zD.2 (.inr (zD.2 (.inr (zD.2 (.inr (zD.2 (.inr d)))))))) rfl)) | (refine K7 ?_ a5.out (λb c d=>(zE.1 s).2.2 _ c _ (zD.2 (.inr (zD.2 (.inr (zD.2 (.inr (zD.2 (.inl d)))))))) rfl)) | (refine K7 ?_ a4.out (λb c d=>(zE.1 s).2.2 _ c _ (zD.2 (.inr (zD.2 (.inr (zD.2 (.inl d)))))) rfl)))) (Jp (show own a8 _ [q,r] b2 by repeat (first | (with_reducible exact ao.out) | (refine V3 ?_) | (refine K7 ?_ a6.out (λb c d=>(zE.1 a7).2.2 _ c _ (zD.2 (.inr (zD.2 (.inr (zD.2 (.inr d)))))) rfl)) | (refine K7 ?_ a5.out (λb c d=>(zE.1 a7).2.2 _ c _ (zD.2 (.inr (zD.2 (.inr (zD.2 (.inl d)))))) rfl)) | (refine K7 ?_ a4.out (λb c d=>(zE.1 a7).2.2 _ c _ (zD.2 (.inr (zD.2 (.inl d)))) rfl)) | (refine K7 ?_ a3.out (λb c d=>(zE.1 s).2.2 _ d _ (zD.2 (.inl c)) rfl)))) (Jp (Ns _ h2) (Jp (show own V _ [l] (Ql t ((GoD.markT p (k)).2)).1 by repeat (first | (with_reducible exact b7.out) | (refine V3 ?_) | (refine K7 ?_ a6.out (λb c d=>(zE.1 z).2.2 _ c _ (zD.2 (.inr d)) rfl)) | (refine K7 ?_ a5.out (λb c d=>(zE.1 z).2.2 _ c _ (zD.2 (.inl d)) rfl)))) (Jp (show own a1 _ [m] (Ql v ((Ql t ((GoD.markT p (k)).2)).2)).1 by repeat (first | (with_reducible exact b8.out) | (refine V3 ?_) | (refine K7 ?_ a6.out (λb c d=>(zE.1 aj).2.2 _ c _ d rfl)))) (show own a2 _ [n] (Ql b6 ((Ql v ((Ql t ((GoD.markT p (k)).2)).2)).2)).1 by repeat (first | (with_reducible exact b9.out) | (refine V3 ?_))) (λx hx hy=>(zE.1 aj).2.2 x hx x hy rfl)) (λx hx hy=>(zE.1 z).2.2 x hx x hy rfl)) (λx hx hy=>(zE.1 ay).2.2 x hx x hy rfl)) (λx hx hy=>(zE.1 a7).2.2 x hx x hy rfl)) (λx hx hy=>(zE.1 s).2.2 x hx x hy rfl))
 show Chg (y++(a8++([]++(V++(a1++a2))))) w _;exact((((Chg.of_below (show Below w.heap.size w _ by go_grown)).trans (a3.out.mono (λb u=>(zD.2 (.inl u))))).trans (a4.out.mono (λb u=>(zD.2 (.inr (zD.2 (.inr (zD.2 (.inr (zD.2 (.inl u))))))))))).trans (a5.out.mono (λb u=>(zD.2 (.inr (zD.2 (.inr (zD.2 (.inr (zD.2 (.inr (zD.2 (.inl u))))))))))))).trans (a6.out.mono (λb u=>(zD.2 (.inr (zD.2 (.inr (zD.2 (.inr (zD.2 (.inr (zD.2 (.inr u))))))))))))
end
section
open Go.RowKit
open GoD (rd own)
set_option maxRecDepth 100000
set_option maxHeartbeats 1000000
theorem cBh{w v:E}{a:Addr}{x:D}(b:Below w.heap.size w v)(h:w.cell? a=T x):v.cell? a=T x:=(b.cell (World.block_lt_of_cell? w _ h)).trans h
theorem zSh:(∀(w:E) o,(w.alloc o).heap.size=w.heap.size+1)/\(∀(w:E) a v,(w.setCell a v).heap.size=w.heap.size)/\∀w:E,w.drew.heap.size=w.heap.size:=⟨λ_ _=>World.size_alloc ..,λ_ _ _=>World.size_setCell ..,λ_=>rfl⟩
theorem KX(w:E)(v:D)(l l':S Y4)(K:Y)(k:W)(hK:K=k)(h1:1<=k)(hk:(Ql l k).2<=4611686018427387904)(a1:l'=(Ql l k).1)(ha:rd w [v] l'):Calls uN 92 #[v,.int .i64 K] w (Ret w (.int .i64 ((Ql l k).2:W))):=by
 subst hK a1;obtain⟨oa,cap,e1,hl,hm,h⟩:=ha;obtain rfl:v=_:=by simpa using e1
 clear e1;have HE:=Lib.hid h;clear h;rw[Kh] at hl⊢;unfold A at hm;have a9:l.length<=9223372036854775807:=by omega
 generalize b:(Ql l k).2=aa at*;have HF:=Lib.hid b;clear b;go_enter func92,ntmps92
 go_wp2
 go_loopw [1,5] (λq i wr=>∃j:W,j<=l.length/\i= .int .i64 j/\q= .int .i64 ((Ql (l.take j) k).2:W)/\Below w.heap.size w wr) (λ_ i _=>l.length-(intOf i).toNat)
 case atStart=>exact⟨0,zK _,rfl,rfl,Below.refl _ _⟩
 case round=>
  obtain⟨j,hj,rfl,rfl,m⟩:=hrel;by_cases a2:j<l.length
  . have V:=zF a2;have n:=Ki l k j _ V;have o:=zJ (Jo l k j _ V) (zJ (Nat.le_of_eq HF.out) hk);have ab:k<=(Ql (l.take j) k).2:=Yt _ _;obtain⟨eb,eo,ee,rfl,a3,e,f⟩:=HE.out j _ (Dg l k j _ V);clear V;generalize(Ql (l.take j) k).2=kk at*;generalize(Ql (l.take j) k).1=xs at*;generalize l[j]=x at*;obtain⟨v0,v1⟩:=x;have p:Hid (_=(xs++ [(((Ev (kk),((kk+1:W):Y)):Y4))],kk+1+1)):=n;clear n;have o:kk+1+1<=4611686018427387904:=o;have f:rd w ee ((Ev (kk),((kk+1:W):Y)):Y4):=f;obtain⟨_,_,rfl,⟨rfl,_⟩,⟨rfl,_⟩⟩:=f;have q0:w.cell? ⟨eb,eo+j*2,G⟩=T _:=e 0 _ rfl;have q1:w.cell? ⟨eb,eo+j*2+1,G⟩=T _:=e 1 _ rfl;have HQ:=Lib.hid (show True from trivial);have Q0:=Lib.hid q0;clear q0;have Q1:=Lib.hid q1;clear q1;have r:=cBh m Q0.out;have s:=cBh m Q1.out;have a5:=λd os=>cell_regrown r d os
    have a6:=λd os=>cell_regrown s d os
    clear e a3;have ad:=m.size;have c:True:=trivial;go_wp2_with (first | (with_reducible refine wp_region_quiet_below (by kernel_rfl) (by kernel_rfl) ?_;have tk:=c;clear c;(repeat (quiet_step (exact Calls.regrown_of (Wj _ _ (kk) (by omega) (by omega) (by omega)))));refine wpQuiet_nil ?_;intro _ a4;obtain⟨⟨dq,t⟩,u⟩:=a4;subst u;have g:=below_regrown wr dq t;generalize Go.Sort.grow (redrawn wr dq) t=w1 at g⊢;have a:=Us m g;have ae:=a.size;clear g;have y:=cBh a Q0.out;have z:=cBh a Q1.out;have a7:=λd os=>cell_regrown y d os;have a8:=λd os=>cell_regrown z d os))
    first
    | exact⟨⟨j+1,by omega,by go_num,by(show Value.int _ _=_;rw[p.out];try (show Value.int .i64 _= .int .i64 ((kk+1+1:W):Y);first | go_num | (congr 1<;>omega))),a⟩,by simp[intOf];omega⟩
    | (go_roundw;(case measure=>simp[intOf];omega);(case rel=>exact⟨j+1,by omega,by go_num,by(show Value.int _ _=_;rw[p.out];try (show Value.int .i64 _= .int .i64 ((kk+1+1:W):Y);first | go_num | (congr 1<;>omega))),a⟩))
  obtain rfl:j=l.length:=by omega
  have hf:=HF.out;rw[zG] at*;rw[hf] at*;have af:=Lib.hid hf;clear hf;go_wp2
  go_ret
  exact⟨rfl,m⟩
theorem Qak(w:E)(v:D)(l l':S Wv)(K:Y)(k:W)(hK:K=k)(h1:1<=k)(hk:(Ql l k).2<=4611686018427387904)(ab:l'=(Ql l k).1)(ha:rd w [v] l'):Calls uN 140 #[v,.int .i64 K] w (Ret w (.int .i64 ((Ql l k).2:W))):=by
 subst hK ab;obtain⟨oa,cap,e1,hl,hm,s⟩:=ha;obtain rfl:v=_:=by simpa using e1
 clear e1;have HE:=Lib.hid s;clear s;rw[Kh] at hl⊢;unfold A at hm;have au:l.length<=9223372036854775807:=by omega
 generalize h:(Ql l k).2=av at*;have HF:=Lib.hid h;clear h;go_enter func140,ntmps140
 go_wp2
 go_loopw [1,5] (λq i wr=>∃j:W,j<=l.length/\i= .int .i64 j/\q= .int .i64 ((Ql (l.take j) k).2:W)/\Below w.heap.size w wr) (λ_ i _=>l.length-(intOf i).toNat)
 case atStart=>exact⟨0,zK _,rfl,rfl,Below.refl _ _⟩
 case round=>
  obtain⟨j,hj,rfl,rfl,o⟩:=hrel;by_cases ad:j<l.length
  . have hx:=zF ad;have t:=Ki l k j _ hx;have u:=zJ (Jo l k j _ hx) (zJ (Nat.le_of_eq HF.out) hk);have aw:k<=(Ql (l.take j) k).2:=Yt _ _;obtain⟨eb,eo,ee,rfl,ae,e,p⟩:=HE.out j _ (Dg l k j _ hx);clear hx;generalize(Ql (l.take j) k).2=kk at*;generalize(Ql (l.take j) k).1=xs at*;generalize l[j]=x at*;obtain⟨v0,⟨v1,v2,v3⟩⟩:=x;have y:Hid (_=(xs++ [(((Ev (kk),(((kk+1:W):Y),((kk+1+1:W):Y),Ev (kk+1+1+1))):Wv))],kk+1+1+1+1)):=t;clear t;have u:kk+1+1+1+1<=4611686018427387904:=u;have p:rd w ee ((Ev (kk),(((kk+1:W):Y),((kk+1+1:W):Y),Ev (kk+1+1+1))):Wv):=p;obtain⟨_,_,rfl,⟨rfl,_⟩,⟨_,_,rfl,⟨rfl,_⟩,⟨_,_,rfl,⟨rfl,_⟩,⟨rfl,_⟩⟩⟩⟩:=p;have q0:w.cell? ⟨eb,eo+j*4,G⟩=T _:=e 0 _ rfl;have q1:w.cell? ⟨eb,eo+j*4+1,G⟩=T _:=e 1 _ rfl;have q2:w.cell? ⟨eb,eo+j*4+2,G⟩=T _:=e 2 _ rfl;have q3:w.cell? ⟨eb,eo+j*4+3,G⟩=T _:=e 3 _ rfl;have HQ:=Lib.hid (show True from trivial);have Q0:=Lib.hid q0;clear q0;have Q1:=Lib.hid q1;clear q1;have Q2:=Lib.hid q2;clear q2;have Q3:=Lib.hid q3;clear q3;have z:=cBh o Q0.out;have V:=cBh o Q1.out;have a1:=cBh o Q2.out;have a2:=cBh o Q3.out;have af:=λd os=>cell_regrown z d os
    have ah:=λd os=>cell_regrown V d os
    have ai:=λd os=>cell_regrown a1 d os
    have aj:=λd os=>cell_regrown a2 d os
    clear e ae;have ax:=o.size;have m:True:=trivial;have n:True:=trivial;go_wp2_with (first | (with_reducible refine wp_region_quiet_below (by kernel_rfl) (by kernel_rfl) ?_;have tk:=m;clear m;(repeat (quiet_step (exact Calls.regrown_of (Wj _ _ (kk) (by omega) (by omega) (by omega)))));refine wpQuiet_nil ?_;intro _ r;obtain⟨⟨dq,f⟩,g⟩:=r;subst g;have a:=below_regrown wr dq f;generalize Go.Sort.grow (redrawn wr dq) f=w1 at a⊢;have c:=Us o a;have ay:=c.size;clear a;have a3:=cBh c Q0.out;have a4:=cBh c Q1.out;have a5:=cBh c Q2.out;have a6:=cBh c Q3.out;have ak:=λd os=>cell_regrown a3 d os;have al:=λd os=>cell_regrown a4 d os;have am:=λd os=>cell_regrown a5 d os;have an:=λd os=>cell_regrown a6 d os) | (with_reducible refine wp_region_quiet_below (by kernel_rfl) (by kernel_rfl) ?_;have tk:=n;clear n;(repeat (quiet_step (exact Calls.regrown_of (Wj _ _ (kk+1+1+1) (by omega) (by omega) (by omega)))));refine wpQuiet_nil ?_;intro _ r;obtain⟨⟨dq,f⟩,g⟩:=r;subst g;have a:=below_regrown w1 dq f;generalize Go.Sort.grow (redrawn w1 dq) f=w2 at a⊢;have b:=Us c a;have az:=b.size;clear a;have a7:=cBh b Q0.out;have a8:=cBh b Q1.out;have a9:=cBh b Q2.out;have aa:=cBh b Q3.out;have ao:=λd os=>cell_regrown a7 d os;have ap:=λd os=>cell_regrown a8 d os;have aq:=λd os=>cell_regrown a9 d os;have ar:=λd os=>cell_regrown aa d os))
    first
    | exact⟨⟨j+1,by omega,by go_num,by(show Value.int _ _=_;rw[y.out];try (show Value.int .i64 _= .int .i64 ((kk+1+1+1+1:W):Y);first | go_num | (congr 1<;>omega))),b⟩,by simp[intOf];omega⟩
    | (go_roundw;(case measure=>simp[intOf];omega);(case rel=>exact⟨j+1,by omega,by go_num,by(show Value.int _ _=_;rw[y.out];try (show Value.int .i64 _= .int .i64 ((kk+1+1+1+1:W):Y);first | go_num | (congr 1<;>omega))),b⟩))
  obtain rfl:j=l.length:=by omega
  have hf:=HF.out;rw[zG] at*;rw[hf] at*;have b1:=Lib.hid hf;clear hf;go_wp2
  go_ret
  exact⟨rfl,o⟩
theorem BV(w:E)(v:D)(l l':S Yn)(K:Y)(k:W)(hK:K=k)(h1:1<=k)(hk:(Ql l k).2<=4611686018427387904)(u:l'=(Ql l k).1)(ha:rd w [v] l'):Calls uN 93 #[v,.int .i64 K] w (Ret w (.int .i64 ((Ql l k).2:W))):=by
 subst hK u;obtain⟨oa,cap,e1,hl,hm,m⟩:=ha;obtain rfl:v=_:=by simpa using e1
 clear e1;have HE:=Lib.hid m;clear m;rw[Kh] at hl⊢;unfold A at hm;have ae:l.length<=9223372036854775807:=by omega
 generalize e:(Ql l k).2=af at*;have HF:=Lib.hid e;clear e;go_enter func93,ntmps93
 go_wp2
 go_loopw [1,5] (λq i wr=>∃j:W,j<=l.length/\i= .int .i64 j/\q= .int .i64 ((Ql (l.take j) k).2:W)/\Below w.heap.size w wr) (λ_ i _=>l.length-(intOf i).toNat)
 case atStart=>exact⟨0,zK _,rfl,rfl,Below.refl _ _⟩
 case round=>
  obtain⟨j,hj,rfl,rfl,d⟩:=hrel;by_cases y:j<l.length
  . have t:=zF y;have n:=Ki l k j _ t;have o:=zJ (Jo l k j _ t) (zJ (Nat.le_of_eq HF.out) hk);have ah:k<=(Ql (l.take j) k).2:=Yt _ _;obtain⟨p,r,ee,rfl,z,a,h⟩:=HE.out j _ (Dg l k j _ t);clear t;generalize(Ql (l.take j) k).2=kk at*;generalize(Ql (l.take j) k).1=xs at*;generalize l[j]=x at*;obtain⟨v0,v1,v2,v3,f⟩:=x;have s:Hid (_=(xs++ [(((((kk:W):Y),((kk+1:W):Y),((kk+1+1) % 3==0),((kk+1+1+1:W):Y),(Ql f (kk+1+1+1+1)).1):Yn))],(Ql f (kk+1+1+1+1)).2)):=n;clear n;have o:(Ql f (kk+1+1+1+1)).2<=4611686018427387904:=o;have h:rd w ee ((((kk:W):Y),((kk+1:W):Y),((kk+1+1) % 3==0),((kk+1+1+1:W):Y),(Ql f (kk+1+1+1+1)).1):Yn):=h;obtain⟨_,_,rfl,⟨rfl,_⟩,⟨_,_,rfl,⟨rfl,_⟩,⟨_,_,rfl,rfl,⟨_,_,rfl,⟨rfl,_⟩,c⟩⟩⟩⟩:=h;obtain⟨ai,rfl⟩:=Bn (show _=1 from GoD.rd_len c);obtain⟨aj,ak,rfl⟩:=Uj c;simp only[Kh] at a c;have al:=Qgv (kk+1+1) _ (show((kk:Y)+1+1:Y)=((kk+1+1:W):Y) by omega);have am:kk+1+1+1+1<=(Ql f (kk+1+1+1+1)).2:=Yt _ _;have V:=Lib.hid c;clear c;have q0:w.cell? ⟨p,r+j*5,G⟩=T _:=a 0 _ rfl;have q1:w.cell? ⟨p,r+j*5+1,G⟩=T _:=a 1 _ rfl;have q2:w.cell? ⟨p,r+j*5+2,G⟩=T _:=a 2 _ rfl;have q3:w.cell? ⟨p,r+j*5+3,G⟩=T _:=a 3 _ rfl;have q4:w.cell? ⟨p,r+j*5+4,G⟩=T _:=a 4 _ rfl;have HQ:=Lib.hid (show True from trivial);have Q0:=Lib.hid q0;clear q0;have Q1:=Lib.hid q1;clear q1;have Q2:=Lib.hid q2;clear q2;have Q3:=Lib.hid q3;clear q3;have Q4:=Lib.hid q4;clear q4;have a3:=cBh d Q0.out;have a4:=cBh d Q1.out;have a5:=cBh d Q2.out;have a6:=cBh d Q3.out;have a7:=cBh d Q4.out;clear a z;have an:=d.size;have g:True:=trivial;go_wp2_with (first | (go_at_call 140;have tk:=g;clear g;refine Vq (w:=w) (Qak _ _ f _ _ (kk+1+1+1+1) (by omega) (by omega) (by omega) rfl (Yv V.out d)) d ?_;intro w1 b a1 ao a2;clear a1 a2;have a8:=cBh b Q0.out;have a9:=cBh b Q1.out;have aa:=cBh b Q2.out;have ab:=cBh b Q3.out;have ad:=cBh b Q4.out))
    first
    | exact⟨⟨j+1,by omega,by go_num,by(show Value.int _ _=_;rw[s.out];try (show Value.int .i64 _= .int .i64 (((Ql f (kk+1+1+1+1)).2:W):Y);first | go_num | (congr 1<;>omega))),b⟩,by simp[intOf];omega⟩
    | (go_roundw;(case measure=>simp[intOf];omega);(case rel=>exact⟨j+1,by omega,by go_num,by(show Value.int _ _=_;rw[s.out];try (show Value.int .i64 _= .int .i64 (((Ql f (kk+1+1+1+1)).2:W):Y);first | go_num | (congr 1<;>omega))),b⟩))
  obtain rfl:j=l.length:=by omega
  have hf:=HF.out;rw[zG] at*;rw[hf] at*;have ap:=Lib.hid hf;clear hf;go_wp2
  go_ret
  exact⟨rfl,d⟩
theorem Qal(w:E)(n:S D)(a t:Yl)(K:Y)(k:W)(x:K=k)(h1:1<=k)(u:(GoD.markT a k).2<=4611686018427387904)(p:t=(GoD.markT a k).1)(q:rd w n t):Calls uN 89 #[.agg n.toArray,.int .i64 K] w (Ret w (.int .i64 ((GoD.markT a k).2:W))):=by
 subst x p;obtain⟨c,f,v⟩:=a;have u:(Ql f ((Ql c (k)).2)).2<=4611686018427387904:=u;have q:rd w n ((Ql c (k)).1,(Ql f ((Ql c (k)).2)).1,v):=q;generalize b:(GoD.markT ((c,f,v):Yl) k).2=fin;have b:(Ql f ((Ql c (k)).2)).2=fin:=b;obtain⟨_,_,rfl,g,_,_,rfl,h,i⟩:=q;obtain⟨j,rfl⟩:=Bn (show _=1 from GoD.rd_len g);have r:=Lib.hid g;clear g;have y:k<=(Ql c (k)).2:=Yt _ _;obtain⟨l,rfl⟩:=Bn (show _=1 from GoD.rd_len h);have s:=Lib.hid h;clear h;have z:(Ql c (k)).2<=(Ql f ((Ql c (k)).2)).2:=Yt _ _;obtain⟨rfl,i⟩:=i;clear i;dsimp only[zM,zL] at*;have d:True:=trivial;have e:True:=trivial;have V:=Lib.hid b;clear b;go_enter func89,ntmps89
 go_wp2_with (first | (go_at_call 92;have tk:=d;clear d;refine Vq (w:=w) (KX _ j c _ _ (k) (by omega) (by omega) (show(Ql c (k)).2<=4611686018427387904 by omega) rfl (Yv r.out (by go_grown))) (by go_grown) ?_;intro w1 hB hb hz m;(try simp only[zSh] at m);have c0:=λo=>Ax hb (w.heap.size) o (by go_size);clear hb) | (go_at_call 93;have tk:=e;clear e;refine Vq (w:=w) (BV _ l f _ _ ((Ql c (k)).2) (by omega) (by omega) (show(Ql f ((Ql c (k)).2)).2<=4611686018427387904 by omega) rfl (Yv s.out (by go_grown))) (by go_grown) ?_;intro w2 hB hb hz m;(try simp only[zSh] at m);have c0:=λo=>Ax hb (w.heap.size) o (by go_size);clear hb))
 go_ret
 refine⟨?_,by go_grown⟩;rw[←V.out];rfl
theorem Qam(w:E)(v:D)(l l':S Q9)(K:Y)(k:W)(hK:K=k)(h1:1<=k)(hk:(Ql l k).2<=4611686018427387904)(ao:l'=(Ql l k).1)(ha:rd w [v] l'):Calls uN 139 #[v,.int .i64 K] w (Ret w (.int .i64 ((Ql l k).2:W))):=by
 subst hK ao;obtain⟨oa,cap,e1,hl,hm,u⟩:=ha;obtain rfl:v=_:=by simpa using e1
 clear e1;have HE:=Lib.hid u;clear u;rw[Kh] at hl⊢;unfold A at hm;have bf:l.length<=9223372036854775807:=by omega
 generalize m:(Ql l k).2=bg at*;have HF:=Lib.hid m;clear m;go_enter func139,ntmps139
 go_wp2
 go_loopw [1,5] (λq i wr=>∃j:W,j<=l.length/\i= .int .i64 j/\q= .int .i64 ((Ql (l.take j) k).2:W)/\Below w.heap.size w wr) (λ_ i _=>l.length-(intOf i).toNat)
 case atStart=>exact⟨0,zK _,rfl,rfl,Below.refl _ _⟩
 case round=>
  obtain⟨j,hj,rfl,rfl,h⟩:=hrel;by_cases ap:j<l.length
  . have hx:=zF ap;have y:=Ki l k j _ hx;have z:=zJ (Jo l k j _ hx) (zJ (Nat.le_of_eq HF.out) hk);have bh:k<=(Ql (l.take j) k).2:=Yt _ _;obtain⟨p,r,ee,rfl,aq,c,s⟩:=HE.out j _ (Dg l k j _ hx);clear hx;generalize(Ql (l.take j) k).2=kk at*;generalize(Ql (l.take j) k).1=xs at*;generalize l[j]=x at*;obtain⟨v0,v1,v2,v3,⟨v4,v5,v6⟩⟩:=x;have V:Hid (_=(xs++ [(((((kk:W):Y),((kk+1:W):Y),((kk+1+1:W):Y),Ev (kk+1+1+1),(((kk+1+1+1+1:W):Y),((kk+1+1+1+1+1:W):Y),Ev (kk+1+1+1+1+1+1))):Q9))],kk+1+1+1+1+1+1+1)):=y;clear y;have z:kk+1+1+1+1+1+1+1<=4611686018427387904:=z;have s:rd w ee ((((kk:W):Y),((kk+1:W):Y),((kk+1+1:W):Y),Ev (kk+1+1+1),(((kk+1+1+1+1:W):Y),((kk+1+1+1+1+1:W):Y),Ev (kk+1+1+1+1+1+1))):Q9):=s;obtain⟨_,_,rfl,⟨rfl,_⟩,⟨_,_,rfl,⟨rfl,_⟩,⟨_,_,rfl,⟨rfl,_⟩,⟨_,_,rfl,⟨rfl,_⟩,⟨_,_,rfl,⟨rfl,_⟩,⟨_,_,rfl,⟨rfl,_⟩,⟨rfl,_⟩⟩⟩⟩⟩⟩⟩:=s;have q0:w.cell? ⟨p,r+j*7,G⟩=T _:=c 0 _ rfl;have q1:w.cell? ⟨p,r+j*7+1,G⟩=T _:=c 1 _ rfl;have q2:w.cell? ⟨p,r+j*7+2,G⟩=T _:=c 2 _ rfl;have q3:w.cell? ⟨p,r+j*7+3,G⟩=T _:=c 3 _ rfl;have q4:w.cell? ⟨p,r+j*7+4,G⟩=T _:=c 4 _ rfl;have q5:w.cell? ⟨p,r+j*7+5,G⟩=T _:=c 5 _ rfl;have q6:w.cell? ⟨p,r+j*7+6,G⟩=T _:=c 6 _ rfl;have HQ:=Lib.hid (show True from trivial);have Q0:=Lib.hid q0;clear q0;have Q1:=Lib.hid q1;clear q1;have Q2:=Lib.hid q2;clear q2;have Q3:=Lib.hid q3;clear q3;have Q4:=Lib.hid q4;clear q4;have Q5:=Lib.hid q5;clear q5;have Q6:=Lib.hid q6;clear q6;have a1:=cBh h Q0.out;have a2:=cBh h Q1.out;have a3:=cBh h Q2.out;have a4:=cBh h Q3.out;have a5:=cBh h Q4.out;have a6:=cBh h Q5.out;have a7:=cBh h Q6.out;have ar:=λd os=>cell_regrown a1 d os
    have au:=λd os=>cell_regrown a2 d os
    have av:=λd os=>cell_regrown a3 d os
    have aw:=λd os=>cell_regrown a4 d os
    have ax:=λd os=>cell_regrown a5 d os
    have ay:=λd os=>cell_regrown a6 d os
    have az:=λd os=>cell_regrown a7 d os
    clear c aq;have bj:=h.size;have n:True:=trivial;have o:True:=trivial;go_wp2_with (first | (with_reducible refine wp_region_quiet_below (by kernel_rfl) (by kernel_rfl) ?_;have tk:=n;clear n;(repeat (quiet_step (exact Calls.regrown_of (Wj _ _ (kk+1+1+1) (by omega) (by omega) (by omega)))));refine wpQuiet_nil ?_;intro _ t;obtain⟨⟨dq,f⟩,g⟩:=t;subst g;have e:=below_regrown wr dq f;generalize Go.Sort.grow (redrawn wr dq) f=w1 at e⊢;have b:=Us h e;have bk:=b.size;clear e;have a8:=cBh b Q0.out;have a9:=cBh b Q1.out;have aa:=cBh b Q2.out;have ab:=cBh b Q3.out;have ad:=cBh b Q4.out;have ae:=cBh b Q5.out;have af:=cBh b Q6.out;have b1:=λd os=>cell_regrown a8 d os;have b2:=λd os=>cell_regrown a9 d os;have b3:=λd os=>cell_regrown aa d os;have b4:=λd os=>cell_regrown ab d os;have b5:=λd os=>cell_regrown ad d os;have b6:=λd os=>cell_regrown ae d os;have b7:=λd os=>cell_regrown af d os) | (with_reducible refine wp_region_quiet_below (by kernel_rfl) (by kernel_rfl) ?_;have tk:=o;clear o;(repeat (quiet_step (exact Calls.regrown_of (Wj _ _ (kk+1+1+1+1+1+1) (by omega) (by omega) (by omega)))));refine wpQuiet_nil ?_;intro _ t;obtain⟨⟨dq,f⟩,g⟩:=t;subst g;have e:=below_regrown w1 dq f;generalize Go.Sort.grow (redrawn w1 dq) f=w2 at e⊢;have a:=Us b e;have bm:=a.size;clear e;have ah:=cBh a Q0.out;have ai:=cBh a Q1.out;have aj:=cBh a Q2.out;have ak:=cBh a Q3.out;have al:=cBh a Q4.out;have am:=cBh a Q5.out;have an:=cBh a Q6.out;have b8:=λd os=>cell_regrown ah d os;have b9:=λd os=>cell_regrown ai d os;have ba:=λd os=>cell_regrown aj d os;have bb:=λd os=>cell_regrown ak d os;have bc:=λd os=>cell_regrown al d os;have bd:=λd os=>cell_regrown am d os;have be:=λd os=>cell_regrown an d os))
    first
    | exact⟨⟨j+1,by omega,by go_num,by(show Value.int _ _=_;rw[V.out];try (show Value.int .i64 _= .int .i64 ((kk+1+1+1+1+1+1+1:W):Y);first | go_num | (congr 1<;>omega))),a⟩,by simp[intOf];omega⟩
    | (go_roundw;(case measure=>simp[intOf];omega);(case rel=>exact⟨j+1,by omega,by go_num,by(show Value.int _ _=_;rw[V.out];try (show Value.int .i64 _= .int .i64 ((kk+1+1+1+1+1+1+1:W):Y);first | go_num | (congr 1<;>omega))),a⟩))
  obtain rfl:j=l.length:=by omega
  have hf:=HF.out;rw[zG] at*;rw[hf] at*;have bp:=Lib.hid hf;clear hf;go_wp2
  go_ret
  exact⟨rfl,h⟩
theorem FA(w:E)(v:D)(l l':S Zo)(K:Y)(k:W)(hK:K=k)(h1:1<=k)(hk:(Ql l k).2<=4611686018427387904)(a7:l'=(Ql l k).1)(ha:rd w [v] l'):Calls uN 90 #[v,.int .i64 K] w (Ret w (.int .i64 ((Ql l k).2:W))):=by
 subst hK a7;obtain⟨oa,cap,e1,hl,hm,p⟩:=ha;obtain rfl:v=_:=by simpa using e1
 clear e1;have HE:=Lib.hid p;clear p;rw[Kh] at hl⊢;unfold A at hm;have ak:l.length<=9223372036854775807:=by omega
 generalize g:(Ql l k).2=al at*;have HF:=Lib.hid g;clear g;go_enter func90,ntmps90
 go_wp2
 go_loopw [1,5] (λq i wr=>∃j:W,j<=l.length/\i= .int .i64 j/\q= .int .i64 ((Ql (l.take j) k).2:W)/\Below w.heap.size w wr) (λ_ i _=>l.length-(intOf i).toNat)
 case atStart=>exact⟨0,zK _,rfl,rfl,Below.refl _ _⟩
 case round=>
  obtain⟨j,hj,rfl,rfl,r⟩:=hrel;by_cases a8:j<l.length
  . have hx:=zF a8;have s:=Ki l k j _ hx;have t:=zJ (Jo l k j _ hx) (zJ (Nat.le_of_eq HF.out) hk);have am:k<=(Ql (l.take j) k).2:=Yt _ _;obtain⟨eb,eo,ee,rfl,a9,e,o⟩:=HE.out j _ (Dg l k j _ hx);clear hx;generalize(Ql (l.take j) k).2=kk at*;generalize(Ql (l.take j) k).1=xs at*;generalize l[j]=x at*;obtain⟨v0,h⟩:=x;have u:Hid (_=(xs++ [(((Ev (kk),(Ql h (kk+1)).1):Zo))],(Ql h (kk+1)).2)):=s;clear s;have t:(Ql h (kk+1)).2<=4611686018427387904:=t;have o:rd w ee ((Ev (kk),(Ql h (kk+1)).1):Zo):=o;obtain⟨_,_,rfl,⟨rfl,_⟩,a⟩:=o;obtain⟨an,rfl⟩:=Bn (show _=1 from GoD.rd_len a);obtain⟨ao,ap,rfl⟩:=Uj a;simp only[Kh] at e a;have aq:kk+1<=(Ql h (kk+1)).2:=Yt _ _;have aa:=Lib.hid a;clear a;have q0:w.cell? ⟨eb,eo+j*2,G⟩=T _:=e 0 _ rfl;have q1:w.cell? ⟨eb,eo+j*2+1,G⟩=T _:=e 1 _ rfl;have HQ:=Lib.hid (show True from trivial);have Q0:=Lib.hid q0;clear q0;have Q1:=Lib.hid q1;clear q1;have y:=cBh r Q0.out;have z:=cBh r Q1.out;have ad:=λd os=>cell_regrown y d os
    have ae:=λd os=>cell_regrown z d os
    clear e a9;have ar:=r.size;have m:True:=trivial;have n:True:=trivial;go_wp2_with (first | (with_reducible refine wp_region_quiet_below (by kernel_rfl) (by kernel_rfl) ?_;have tk:=m;clear m;(repeat (quiet_step (exact Calls.regrown_of (Wj _ _ (kk) (by omega) (by omega) (by omega)))));refine wpQuiet_nil ?_;intro _ ab;obtain⟨⟨dq,V⟩,a1⟩:=ab;subst a1;have b:=below_regrown wr dq V;generalize Go.Sort.grow (redrawn wr dq) V=w1 at b⊢;have c:=Us r b;have au:=c.size;clear b;have a2:=cBh c Q0.out;have a3:=cBh c Q1.out;have af:=λd os=>cell_regrown a2 d os;have ah:=λd os=>cell_regrown a3 d os) | (go_at_call 139;have tk:=n;clear n;refine Vq (w:=w) (Qam _ _ h _ _ (kk+1) (by omega) (by omega) (by omega) rfl (Yv aa.out c)) c ?_;intro w2 f b a4 a4;clear b a4;have a5:=cBh f Q0.out;have a6:=cBh f Q1.out;have ai:=λd os=>cell_regrown a5 d os;have aj:=λd os=>cell_regrown a6 d os))
    first
    | exact⟨⟨j+1,by omega,by go_num,by(show Value.int _ _=_;rw[u.out];try (show Value.int .i64 _= .int .i64 (((Ql h (kk+1)).2:W):Y);first | go_num | (congr 1<;>omega))),f⟩,by simp[intOf];omega⟩
    | (go_roundw;(case measure=>simp[intOf];omega);(case rel=>exact⟨j+1,by omega,by go_num,by(show Value.int _ _=_;rw[u.out];try (show Value.int .i64 _= .int .i64 (((Ql h (kk+1)).2:W):Y);first | go_num | (congr 1<;>omega))),f⟩))
  obtain rfl:j=l.length:=by omega
  have hf:=HF.out;rw[zG] at*;rw[hf] at*;have av:=Lib.hid hf;clear hf;go_wp2
  go_ret
  exact⟨rfl,r⟩
theorem Nn(w:E)(v:D)(l l':S Y)(K:Y)(k:W)(V:K=k)(h1:1<=k)(hk:(Ql l k).2<=4611686018427387904)(n:l'=(Ql l k).1)(ha:rd w [v] l'):Calls uN 43 #[v,.int .i64 K] w (Ret w (.int .i64 ((Ql l k).2:W))):=by
 subst V n;obtain⟨oa,cap,s,hl,hm,c⟩:=ha;obtain rfl:v=_:=by simpa using s
 clear s;have HE:=Lib.hid c;clear c;rw[Kh] at hl⊢;unfold A at hm;have a1:l.length<=9223372036854775807:=by omega
 generalize a:(Ql l k).2=a2 at*;have t:=Lib.hid a;clear a;go_enter func43,ntmps43
 go_wp2
 go_loopw [1,5] (λq i wr=>∃j:W,j<=l.length/\i= .int .i64 j/\q= .int .i64 ((Ql (l.take j) k).2:W)/\Below w.heap.size w wr) (λ_ i _=>l.length-(intOf i).toNat)
 case atStart=>exact⟨0,zK _,rfl,rfl,Below.refl _ _⟩
 case round=>
  obtain⟨j,hj,rfl,rfl,d⟩:=hrel;by_cases o:j<l.length
  . have m:=zF o;have e:=Ki l k j _ m;have f:=zJ (Jo l k j _ m) (zJ (Nat.le_of_eq t.out) hk);have a3:k<=(Ql (l.take j) k).2:=Yt _ _;obtain⟨eb,eo,ee,rfl,p,g,b⟩:=HE.out j _ (Dg l k j _ m);clear m;generalize(Ql (l.take j) k).2=kk at*;generalize(Ql (l.take j) k).1=xs at*;generalize l[j]=x at*;have h:Hid (_=(xs++ [((((kk:W):Y):Y))],kk+1)):=e;clear e;have f:kk+1<=4611686018427387904:=f;have b:rd w ee (((kk:W):Y):Y):=b;obtain⟨rfl,_⟩:=b;have u:w.cell? ⟨eb,eo+j,G⟩=T (.int .i64 ((kk:W):Y)):=by have y:=g 0 _ rfl;simp only[GoD.n,Nat.mul_one,Nat.add_zero] at y;exact y
    have HQ:=Lib.hid (show True from trivial);have Q0:=Lib.hid u;clear u;have z:=cBh d Q0.out;clear g p;have a4:=d.size;go_wp2
    first
    | exact⟨⟨j+1,by omega,by go_num,by(show Value.int _ _=_;rw[h.out];try (show Value.int .i64 _= .int .i64 ((kk+1:W):Y);first | go_num | (congr 1<;>omega))),d⟩,by simp[intOf];omega⟩
    | (go_roundw;(case measure=>simp[intOf];omega);(case rel=>exact⟨j+1,by omega,by go_num,by(show Value.int _ _=_;rw[h.out];try (show Value.int .i64 _= .int .i64 ((kk+1:W):Y);first | go_num | (congr 1<;>omega))),d⟩))
  obtain rfl:j=l.length:=by omega
  have r:=t.out;rw[zG] at*;rw[r] at*;have a5:=Lib.hid r;clear r;go_wp2
  go_ret
  exact⟨rfl,d⟩
theorem LD(w:E)(v:D)(l l':S Qo)(K:Y)(k:W)(hK:K=k)(h1:1<=k)(hk:(Ql l k).2<=4611686018427387904)(a7:l'=(Ql l k).1)(ha:rd w [v] l'):Calls uN 91 #[v,.int .i64 K] w (Ret w (.int .i64 ((Ql l k).2:W))):=by
 subst hK a7;obtain⟨oa,cap,e1,hl,hm,p⟩:=ha;obtain rfl:v=_:=by simpa using e1
 clear e1;have HE:=Lib.hid p;clear p;rw[Kh] at hl⊢;unfold A at hm;have ak:l.length<=9223372036854775807:=by omega
 generalize g:(Ql l k).2=al at*;have HF:=Lib.hid g;clear g;go_enter func91,ntmps91
 go_wp2
 go_loopw [1,5] (λq i wr=>∃j:W,j<=l.length/\i= .int .i64 j/\q= .int .i64 ((Ql (l.take j) k).2:W)/\Below w.heap.size w wr) (λ_ i _=>l.length-(intOf i).toNat)
 case atStart=>exact⟨0,zK _,rfl,rfl,Below.refl _ _⟩
 case round=>
  obtain⟨j,hj,rfl,rfl,r⟩:=hrel;by_cases a8:j<l.length
  . have hx:=zF a8;have s:=Ki l k j _ hx;have t:=zJ (Jo l k j _ hx) (zJ (Nat.le_of_eq HF.out) hk);have am:k<=(Ql (l.take j) k).2:=Yt _ _;obtain⟨eb,eo,ee,rfl,a9,e,o⟩:=HE.out j _ (Dg l k j _ hx);clear hx;generalize(Ql (l.take j) k).2=kk at*;generalize(Ql (l.take j) k).1=xs at*;generalize l[j]=x at*;obtain⟨v0,h⟩:=x;have u:Hid (_=(xs++ [(((Ev (kk),(Ql h (kk+1)).1):Qo))],(Ql h (kk+1)).2)):=s;clear s;have t:(Ql h (kk+1)).2<=4611686018427387904:=t;have o:rd w ee ((Ev (kk),(Ql h (kk+1)).1):Qo):=o;obtain⟨_,_,rfl,⟨rfl,_⟩,a⟩:=o;obtain⟨an,rfl⟩:=Bn (show _=1 from GoD.rd_len a);obtain⟨ao,ap,rfl⟩:=Uj a;simp only[Kh] at e a;have aq:kk+1<=(Ql h (kk+1)).2:=Yt _ _;have aa:=Lib.hid a;clear a;have q0:w.cell? ⟨eb,eo+j*2,G⟩=T _:=e 0 _ rfl;have q1:w.cell? ⟨eb,eo+j*2+1,G⟩=T _:=e 1 _ rfl;have HQ:=Lib.hid (show True from trivial);have Q0:=Lib.hid q0;clear q0;have Q1:=Lib.hid q1;clear q1;have y:=cBh r Q0.out;have z:=cBh r Q1.out;have ad:=λd os=>cell_regrown y d os
    have ae:=λd os=>cell_regrown z d os
    clear e a9;have ar:=r.size;have m:True:=trivial;have n:True:=trivial;go_wp2_with (first | (with_reducible refine wp_region_quiet_below (by kernel_rfl) (by kernel_rfl) ?_;have tk:=m;clear m;(repeat (quiet_step (exact Calls.regrown_of (Wj _ _ (kk) (by omega) (by omega) (by omega)))));refine wpQuiet_nil ?_;intro _ ab;obtain⟨⟨dq,V⟩,a1⟩:=ab;subst a1;have b:=below_regrown wr dq V;generalize Go.Sort.grow (redrawn wr dq) V=w1 at b⊢;have c:=Us r b;have au:=c.size;clear b;have a2:=cBh c Q0.out;have a3:=cBh c Q1.out;have af:=λd os=>cell_regrown a2 d os;have ah:=λd os=>cell_regrown a3 d os) | (go_at_call 43;have tk:=n;clear n;refine Vq (w:=w) (Nn _ _ h _ _ (kk+1) (by omega) (by omega) (by omega) rfl (Yv aa.out c)) c ?_;intro w2 f b a4 a4;clear b a4;have a5:=cBh f Q0.out;have a6:=cBh f Q1.out;have ai:=λd os=>cell_regrown a5 d os;have aj:=λd os=>cell_regrown a6 d os))
    first
    | exact⟨⟨j+1,by omega,by go_num,by(show Value.int _ _=_;rw[u.out];try (show Value.int .i64 _= .int .i64 (((Ql h (kk+1)).2:W):Y);first | go_num | (congr 1<;>omega))),f⟩,by simp[intOf];omega⟩
    | (go_roundw;(case measure=>simp[intOf];omega);(case rel=>exact⟨j+1,by omega,by go_num,by(show Value.int _ _=_;rw[u.out];try (show Value.int .i64 _= .int .i64 (((Ql h (kk+1)).2:W):Y);first | go_num | (congr 1<;>omega))),f⟩))
  obtain rfl:j=l.length:=by omega
  have hf:=HF.out;rw[zG] at*;rw[hf] at*;have av:=Lib.hid hf;clear hf;go_wp2
  go_ret
  exact⟨rfl,r⟩
theorem LE(w:E)(t:S D)(a V:Wq)(K:Y)(k:W)(hK:K=k)(h1:1<=k)(hk:(GoD.markT a k).2<=4611686018427387904)(u:V=(GoD.markT a k).1)(v:rd w t V):Calls uN 40 #[.agg t.toArray,.int .i64 K] w (Ret w (.int .i64 ((GoD.markT a k).2:W))):=by
 subst hK u;obtain⟨b,d,i⟩:=a;have hk:(Ql i ((Ql d ((GoD.markT b (k)).2)).2)).2<=4611686018427387904:=hk;have v:rd w t ((GoD.markT b (k)).1,(Ql d ((GoD.markT b (k)).2)).1,(Ql i ((Ql d ((GoD.markT b (k)).2)).2)).1):=v;generalize c:(GoD.markT ((b,d,i):Wq) k).2=fin;have c:(Ql i ((Ql d ((GoD.markT b (k)).2)).2)).2=fin:=c;obtain⟨_,_,rfl,j,_,_,rfl,l,m⟩:=v;obtain⟨n,p,q,rfl⟩:=Qoo (show _=3 from GoD.rd_len j);have x:=Lib.hid j;clear j;have a1:k<=(GoD.markT b (k)).2:=GoD.mkT_le _ _;obtain⟨r,rfl⟩:=Bn (show _=1 from GoD.rd_len l);have y:=Lib.hid l;clear l;have a2:(GoD.markT b (k)).2<=(Ql d ((GoD.markT b (k)).2)).2:=Yt _ _;obtain⟨s,rfl⟩:=Bn (show _=1 from GoD.rd_len m);have z:=Lib.hid m;clear m;have a3:(Ql d ((GoD.markT b (k)).2)).2<=(Ql i ((Ql d ((GoD.markT b (k)).2)).2)).2:=Yt _ _;dsimp only[zM,zL] at*;have f:True:=trivial;have g:True:=trivial;have h:True:=trivial;have HF:=Lib.hid c;clear c;go_enter func40,ntmps40
 go_wp2_with (first | (go_at_call 89;have tk:=f;clear f;refine Vq (w:=w) (Qal _ [n,p,q] b _ _ (k) (by omega) (by omega) (show(GoD.markT b (k)).2<=4611686018427387904 by omega) rfl (Yv x.out (by go_grown))) (by go_grown) ?_;intro w1 hB hb hz e;(try simp only[zSh] at e);have c0:=λo=>Ax hb (w.heap.size) o (by go_size);clear hb) | (go_at_call 90;have tk:=g;clear g;refine Vq (w:=w) (FA _ r d _ _ ((GoD.markT b (k)).2) (by omega) (by omega) (show(Ql d ((GoD.markT b (k)).2)).2<=4611686018427387904 by omega) rfl (Yv y.out (by go_grown))) (by go_grown) ?_;intro w2 hB hb hz e;(try simp only[zSh] at e);have c0:=λo=>Ax hb (w.heap.size) o (by go_size);clear hb) | (go_at_call 91;have tk:=h;clear h;refine Vq (w:=w) (LD _ s i _ _ ((Ql d ((GoD.markT b (k)).2)).2) (by omega) (by omega) (show(Ql i ((Ql d ((GoD.markT b (k)).2)).2)).2<=4611686018427387904 by omega) rfl (Yv z.out (by go_grown))) (by go_grown) ?_;intro w3 hB hb hz e;(try simp only[zSh] at e);have c0:=λo=>Ax hb (w.heap.size) o (by go_size);clear hb))
 go_ret
 refine⟨?_,by go_grown⟩;rw[←HF.out];rfl
theorem CX(w:E)(v:D)(l l':S Ya)(K:Y)(k:W)(hK:K=k)(h1:1<=k)(hk:(Ql l k).2<=4611686018427387904)(a5:l'=(Ql l k).1)(ha:rd w [v] l'):Calls uN 41 #[v,.int .i64 K] w (Ret w (.int .i64 ((Ql l k).2:W))):=by
 subst hK a5;obtain⟨oa,cap,e1,hl,hm,a1⟩:=ha;obtain rfl:v=_:=by simpa using e1
 clear e1;have HE:=Lib.hid a1;clear a1;rw[Kh] at hl⊢;unfold A at hm;have b4:l.length<=9223372036854775807:=by omega
 generalize s:(Ql l k).2=b5 at*;have HF:=Lib.hid s;clear s;go_enter func41,ntmps41
 go_wp2
 go_loopw [1,5] (λq i wr=>∃j:W,j<=l.length/\i= .int .i64 j/\q= .int .i64 ((Ql (l.take j) k).2:W)/\Below w.heap.size w wr) (λ_ i _=>l.length-(intOf i).toNat)
 case atStart=>exact⟨0,zK _,rfl,rfl,Below.refl _ _⟩
 case round=>
  obtain⟨j,hj,rfl,rfl,p⟩:=hrel;by_cases a6:j<l.length
  . have hx:=zF a6;have a2:=Ki l k j _ hx;have a3:=zJ (Jo l k j _ hx) (zJ (Nat.le_of_eq HF.out) hk);have b6:k<=(Ql (l.take j) k).2:=Yt _ _;obtain⟨V,eo,ee,rfl,a7,b,z⟩:=HE.out j _ (Dg l k j _ hx);clear hx;generalize(Ql (l.take j) k).2=kk at*;generalize(Ql (l.take j) k).1=xs at*;generalize l[j]=x at*;obtain⟨v0,⟨⟨a,c,v3⟩,r⟩,v5⟩:=x;have a4:Hid (_=(xs++ [(((((kk:W):Y),(((Ql a (kk+1)).1,(Ql c ((Ql a (kk+1)).2)).1,(((Ql c ((Ql a (kk+1)).2)).2:W):Y)),(Ql r ((Ql c ((Ql a (kk+1)).2)).2+1)).1),(((Ql r ((Ql c ((Ql a (kk+1)).2)).2+1)).2:W):Y)):Ya))],(Ql r ((Ql c ((Ql a (kk+1)).2)).2+1)).2+1)):=a2;clear a2;have a3:(Ql r ((Ql c ((Ql a (kk+1)).2)).2+1)).2+1<=4611686018427387904:=a3;have z:rd w ee ((((kk:W):Y),(((Ql a (kk+1)).1,(Ql c ((Ql a (kk+1)).2)).1,(((Ql c ((Ql a (kk+1)).2)).2:W):Y)),(Ql r ((Ql c ((Ql a (kk+1)).2)).2+1)).1),(((Ql r ((Ql c ((Ql a (kk+1)).2)).2+1)).2:W):Y)):Ya):=z;obtain⟨_,_,rfl,⟨rfl,_⟩,⟨_,_,rfl,⟨_,_,rfl,⟨_,_,rfl,h,⟨_,_,rfl,m,⟨rfl,_⟩⟩⟩,n⟩,⟨rfl,_⟩⟩⟩:=z;obtain⟨b7,rfl⟩:=Bn (show _=1 from GoD.rd_len h);obtain⟨b8,b9,rfl⟩:=Uj h;obtain⟨ba,rfl⟩:=Bn (show _=1 from GoD.rd_len m);obtain⟨bb,bc,rfl⟩:=Uj m;obtain⟨bd,rfl⟩:=Bn (show _=1 from GoD.rd_len n);obtain⟨be,bf,rfl⟩:=Uj n;simp only[Kh] at b h m n;have bg:kk+1<=(Ql a (kk+1)).2:=Yt _ _;have a8:=Lib.hid h;clear h;have bh:(Ql a (kk+1)).2<=(Ql c ((Ql a (kk+1)).2)).2:=Yt _ _;have a9:=Lib.hid m;clear m;have bj:(Ql c ((Ql a (kk+1)).2)).2+1<=(Ql r ((Ql c ((Ql a (kk+1)).2)).2+1)).2:=Yt _ _;have aa:=Lib.hid n;clear n;have q0:w.cell? ⟨V,eo+j*6,G⟩=T _:=b 0 _ rfl;have q1:w.cell? ⟨V,eo+j*6+1,G⟩=T _:=b 1 _ rfl;have q2:w.cell? ⟨V,eo+j*6+2,G⟩=T _:=b 2 _ rfl;have q3:w.cell? ⟨V,eo+j*6+3,G⟩=T _:=b 3 _ rfl;have q4:w.cell? ⟨V,eo+j*6+4,G⟩=T _:=b 4 _ rfl;have q5:w.cell? ⟨V,eo+j*6+5,G⟩=T _:=b 5 _ rfl;have HQ:=Lib.hid (show True from trivial);have Q0:=Lib.hid q0;clear q0;have Q1:=Lib.hid q1;clear q1;have Q2:=Lib.hid q2;clear q2;have Q3:=Lib.hid q3;clear q3;have Q4:=Lib.hid q4;clear q4;have Q5:=Lib.hid q5;clear q5;have ab:=cBh p Q0.out;have ad:=cBh p Q1.out;have ae:=cBh p Q2.out;have af:=cBh p Q3.out;have ah:=cBh p Q4.out;have ai:=cBh p Q5.out;clear b a7;have bk:=p.size;have t:True:=trivial;have u:True:=trivial;have y:True:=trivial;go_wp2_with (first | (go_at_call 92;have tk:=t;clear t;refine Vq (w:=w) (KX _ _ a _ _ (kk+1) (by omega) (by omega) (by omega) rfl (Yv a8.out p)) p ?_;intro w1 d o bm g;clear o g;have aj:=cBh d Q0.out;have ak:=cBh d Q1.out;have al:=cBh d Q2.out;have am:=cBh d Q3.out;have an:=cBh d Q4.out;have ao:=cBh d Q5.out) | (go_at_call 93;have tk:=u;clear u;refine Vq (w:=w) (BV _ _ c _ _ ((Ql a (kk+1)).2) (by omega) (by omega) (by omega) rfl (Yv a9.out d)) d ?_;intro w2 e o g g;clear o g;have ap:=cBh e Q0.out;have aq:=cBh e Q1.out;have ar:=cBh e Q2.out;have au:=cBh e Q3.out;have av:=cBh e Q4.out;have aw:=cBh e Q5.out) | (go_at_call 90;have tk:=y;clear y;refine Vq (w:=w) (FA _ _ r _ _ ((Ql c ((Ql a (kk+1)).2)).2+1) (by omega) (by omega) (by omega) rfl (Yv aa.out e)) e ?_;intro w3 f o bp g;clear o g;have ax:=cBh f Q0.out;have ay:=cBh f Q1.out;have az:=cBh f Q2.out;have b1:=cBh f Q3.out;have b2:=cBh f Q4.out;have b3:=cBh f Q5.out))
    first
    | exact⟨⟨j+1,by omega,by go_num,by(show Value.int _ _=_;rw[a4.out];try (show Value.int .i64 _= .int .i64 (((Ql r ((Ql c ((Ql a (kk+1)).2)).2+1)).2+1:W):Y);first | go_num | (congr 1<;>omega))),f⟩,by simp[intOf];omega⟩
    | (go_roundw;(case measure=>simp[intOf];omega);(case rel=>exact⟨j+1,by omega,by go_num,by(show Value.int _ _=_;rw[a4.out];try (show Value.int .i64 _= .int .i64 (((Ql r ((Ql c ((Ql a (kk+1)).2)).2+1)).2+1:W):Y);first | go_num | (congr 1<;>omega))),f⟩))
  obtain rfl:j=l.length:=by omega
  have hf:=HF.out;rw[zG] at*;rw[hf] at*;have bq:=Lib.hid hf;clear hf;go_wp2
  go_ret
  exact⟨rfl,p⟩
theorem PS(w:E)(v:D)(l l':S Kn)(K:Y)(k:W)(hK:K=k)(h1:1<=k)(hk:(Ql l k).2<=4611686018427387904)(a1:l'=(Ql l k).1)(ha:rd w [v] l'):Calls uN 94 #[v,.int .i64 K] w (Ret w (.int .i64 ((Ql l k).2:W))):=by
 subst hK a1;obtain⟨oa,cap,e1,hl,hm,t⟩:=ha;obtain rfl:v=_:=by simpa using e1
 clear e1;have HE:=Lib.hid t;clear t;rw[Kh] at hl⊢;unfold A at hm;have ah:l.length<=9223372036854775807:=by omega
 generalize h:(Ql l k).2=ai at*;have HF:=Lib.hid h;clear h;go_enter func94,ntmps94
 go_wp2
 go_loopw [1,5] (λq i wr=>∃j:W,j<=l.length/\i= .int .i64 j/\q= .int .i64 ((Ql (l.take j) k).2:W)/\Below w.heap.size w wr) (λ_ i _=>l.length-(intOf i).toNat)
 case atStart=>exact⟨0,zK _,rfl,rfl,Below.refl _ _⟩
 case round=>
  obtain⟨j,hj,rfl,rfl,p⟩:=hrel;by_cases a2:j<l.length
  . have V:=zF a2;have u:=Ki l k j _ V;have y:=zJ (Jo l k j _ V) (zJ (Nat.le_of_eq HF.out) hk);have aj:k<=(Ql (l.take j) k).2:=Yt _ _;obtain⟨eb,eo,ee,rfl,a3,b,r⟩:=HE.out j _ (Dg l k j _ V);clear V;generalize(Ql (l.take j) k).2=kk at*;generalize(Ql (l.take j) k).1=xs at*;generalize l[j]=x at*;obtain⟨v0,a,m⟩:=x;have z:Hid (_=(xs++ [(((((kk:W):Y),(Ql a (kk+1)).1,(Ql m ((Ql a (kk+1)).2)).1):Kn))],(Ql m ((Ql a (kk+1)).2)).2)):=u;clear u;have y:(Ql m ((Ql a (kk+1)).2)).2<=4611686018427387904:=y;have r:rd w ee ((((kk:W):Y),(Ql a (kk+1)).1,(Ql m ((Ql a (kk+1)).2)).1):Kn):=r;obtain⟨_,_,rfl,⟨rfl,_⟩,⟨_,_,rfl,c,d⟩⟩:=r;obtain⟨ak,rfl⟩:=Bn (show _=1 from GoD.rd_len c);obtain⟨al,am,rfl⟩:=Uj c;obtain⟨an,rfl⟩:=Bn (show _=1 from GoD.rd_len d);obtain⟨ao,ap,rfl⟩:=Uj d;simp only[Kh] at b c d;have aq:kk+1<=(Ql a (kk+1)).2:=Yt _ _;have a4:=Lib.hid c;clear c;have ar:(Ql a (kk+1)).2<=(Ql m ((Ql a (kk+1)).2)).2:=Yt _ _;have a5:=Lib.hid d;clear d;have q0:w.cell? ⟨eb,eo+j*3,G⟩=T _:=b 0 _ rfl;have q1:w.cell? ⟨eb,eo+j*3+1,G⟩=T _:=b 1 _ rfl;have q2:w.cell? ⟨eb,eo+j*3+2,G⟩=T _:=b 2 _ rfl;have HQ:=Lib.hid (show True from trivial);have Q0:=Lib.hid q0;clear q0;have Q1:=Lib.hid q1;clear q1;have Q2:=Lib.hid q2;clear q2;have a6:=cBh p Q0.out;have a7:=cBh p Q1.out;have a8:=cBh p Q2.out;clear b a3;have au:=p.size;have n:True:=trivial;have o:True:=trivial;go_wp2_with (first | (go_at_call 43;have tk:=n;clear n;refine Vq (w:=w) (Nn _ _ a _ _ (kk+1) (by omega) (by omega) (by omega) rfl (Yv a4.out p)) p ?_;intro w1 e s av g;clear s g;have a9:=cBh e Q0.out;have aa:=cBh e Q1.out;have ab:=cBh e Q2.out) | (go_at_call 43;have tk:=o;clear o;refine Vq (w:=w) (Nn _ _ m _ _ ((Ql a (kk+1)).2) (by omega) (by omega) (by omega) rfl (Yv a5.out e)) e ?_;intro w2 f s g g;clear s g;have ad:=cBh f Q0.out;have ae:=cBh f Q1.out;have af:=cBh f Q2.out))
    first
    | exact⟨⟨j+1,by omega,by go_num,by(show Value.int _ _=_;rw[z.out];try (show Value.int .i64 _= .int .i64 (((Ql m ((Ql a (kk+1)).2)).2:W):Y);first | go_num | (congr 1<;>omega))),f⟩,by simp[intOf];omega⟩
    | (go_roundw;(case measure=>simp[intOf];omega);(case rel=>exact⟨j+1,by omega,by go_num,by(show Value.int _ _=_;rw[z.out];try (show Value.int .i64 _= .int .i64 (((Ql m ((Ql a (kk+1)).2)).2:W):Y);first | go_num | (congr 1<;>omega))),f⟩))
  obtain rfl:j=l.length:=by omega
  have hf:=HF.out;rw[zG] at*;rw[hf] at*;have aw:=Lib.hid hf;clear hf;go_wp2
  go_ret
  exact⟨rfl,p⟩
theorem PT(w:E)(v:D)(l l':S Zz)(K:Y)(k:W)(hK:K=k)(h1:1<=k)(hk:(Ql l k).2<=4611686018427387904)(an:l'=(Ql l k).1)(ha:rd w [v] l'):Calls uN 42 #[v,.int .i64 K] w (Ret w (.int .i64 ((Ql l k).2:W))):=by
 subst hK an;obtain⟨oa,cap,e1,hl,hm,z⟩:=ha;obtain rfl:v=_:=by simpa using e1
 clear e1;have HE:=Lib.hid z;clear z;rw[Kh] at hl⊢;unfold A at hm;have bc:l.length<=9223372036854775807:=by omega
 generalize o:(Ql l k).2=bd at*;have HF:=Lib.hid o;clear o;go_enter func42,ntmps42
 go_wp2
 go_loopw [1,5] (λq i wr=>∃j:W,j<=l.length/\i= .int .i64 j/\q= .int .i64 ((Ql (l.take j) k).2:W)/\Below w.heap.size w wr) (λ_ i _=>l.length-(intOf i).toNat)
 case atStart=>exact⟨0,zK _,rfl,rfl,Below.refl _ _⟩
 case round=>
  obtain⟨j,hj,rfl,rfl,u⟩:=hrel;by_cases ao:j<l.length
  . have hx:=zF ao;have V:=Ki l k j _ hx;have a1:=zJ (Jo l k j _ hx) (zJ (Nat.le_of_eq HF.out) hk);have be:k<=(Ql (l.take j) k).2:=Yt _ _;obtain⟨eb,eo,ee,rfl,ap,c,y⟩:=HE.out j _ (Dg l k j _ hx);clear hx;generalize(Ql (l.take j) k).2=kk at*;generalize(Ql (l.take j) k).1=xs at*;generalize l[j]=x at*;obtain⟨v0,v1,e,p⟩:=x;have a2:Hid (_=(xs++ [(((((kk:W):Y),Ev (kk+1),(Ql e (kk+1+1)).1,(Ql p ((Ql e (kk+1+1)).2)).1):Zz))],(Ql p ((Ql e (kk+1+1)).2)).2)):=V;clear V;have a1:(Ql p ((Ql e (kk+1+1)).2)).2<=4611686018427387904:=a1;have y:rd w ee ((((kk:W):Y),Ev (kk+1),(Ql e (kk+1+1)).1,(Ql p ((Ql e (kk+1+1)).2)).1):Zz):=y;obtain⟨_,_,rfl,⟨rfl,_⟩,⟨_,_,rfl,⟨rfl,_⟩,⟨_,_,rfl,h,m⟩⟩⟩:=y;obtain⟨bf,rfl⟩:=Bn (show _=1 from GoD.rd_len h);obtain⟨bg,bh,rfl⟩:=Uj h;obtain⟨bj,rfl⟩:=Bn (show _=1 from GoD.rd_len m);obtain⟨bk,bm,rfl⟩:=Uj m;simp only[Kh] at c h m;have bp:kk+1+1<=(Ql e (kk+1+1)).2:=Yt _ _;have aq:=Lib.hid h;clear h;have bq:(Ql e (kk+1+1)).2<=(Ql p ((Ql e (kk+1+1)).2)).2:=Yt _ _;have ar:=Lib.hid m;clear m;have q0:w.cell? ⟨eb,eo+j*4,G⟩=T _:=c 0 _ rfl;have q1:w.cell? ⟨eb,eo+j*4+1,G⟩=T _:=c 1 _ rfl;have q2:w.cell? ⟨eb,eo+j*4+2,G⟩=T _:=c 2 _ rfl;have q3:w.cell? ⟨eb,eo+j*4+3,G⟩=T _:=c 3 _ rfl;have HQ:=Lib.hid (show True from trivial);have Q0:=Lib.hid q0;clear q0;have Q1:=Lib.hid q1;clear q1;have Q2:=Lib.hid q2;clear q2;have Q3:=Lib.hid q3;clear q3;have a3:=cBh u Q0.out;have a4:=cBh u Q1.out;have a5:=cBh u Q2.out;have a6:=cBh u Q3.out;have av:=λd os=>cell_regrown a3 d os
    have aw:=λd os=>cell_regrown a4 d os
    have ax:=λd os=>cell_regrown a5 d os
    have ay:=λd os=>cell_regrown a6 d os
    clear c ap;have br:=u.size;have r:True:=trivial;have s:True:=trivial;have t:True:=trivial;go_wp2_with (first | (with_reducible refine wp_region_quiet_below (by kernel_rfl) (by kernel_rfl) ?_;have tk:=r;clear r;(repeat (quiet_step (exact Calls.regrown_of (Wj _ _ (kk+1) (by omega) (by omega) (by omega)))));refine wpQuiet_nil ?_;intro _ au;obtain⟨⟨dq,a7⟩,a8⟩:=au;subst a8;have a:=below_regrown wr dq a7;generalize Go.Sort.grow (redrawn wr dq) a7=w1 at a⊢;have b:=Us u a;have bs:=b.size;clear a;have a9:=cBh b Q0.out;have aa:=cBh b Q1.out;have ab:=cBh b Q2.out;have ad:=cBh b Q3.out;have az:=λd os=>cell_regrown a9 d os;have b1:=λd os=>cell_regrown aa d os;have b2:=λd os=>cell_regrown ab d os;have b3:=λd os=>cell_regrown ad d os) | (go_at_call 43;have tk:=s;clear s;refine Vq (w:=w) (Nn _ _ e _ _ (kk+1+1) (by omega) (by omega) (by omega) rfl (Yv aq.out b)) b ?_;intro w2 f a n n;clear a n;have ae:=cBh f Q0.out;have af:=cBh f Q1.out;have ah:=cBh f Q2.out;have ai:=cBh f Q3.out;have b4:=λd os=>cell_regrown ae d os;have b5:=λd os=>cell_regrown af d os;have b6:=λd os=>cell_regrown ah d os;have b7:=λd os=>cell_regrown ai d os) | (go_at_call 94;have tk:=t;clear t;refine Vq (w:=w) (PS _ _ p _ _ ((Ql e (kk+1+1)).2) (by omega) (by omega) (by omega) rfl (Yv ar.out f)) f ?_;intro w3 g a bt n;clear a n;have aj:=cBh g Q0.out;have ak:=cBh g Q1.out;have al:=cBh g Q2.out;have am:=cBh g Q3.out;have b8:=λd os=>cell_regrown aj d os;have b9:=λd os=>cell_regrown ak d os;have ba:=λd os=>cell_regrown al d os;have bb:=λd os=>cell_regrown am d os))
    first
    | exact⟨⟨j+1,by omega,by go_num,by(show Value.int _ _=_;rw[a2.out];try (show Value.int .i64 _= .int .i64 (((Ql p ((Ql e (kk+1+1)).2)).2:W):Y);first | go_num | (congr 1<;>omega))),g⟩,by simp[intOf];omega⟩
    | (go_roundw;(case measure=>simp[intOf];omega);(case rel=>exact⟨j+1,by omega,by go_num,by(show Value.int _ _=_;rw[a2.out];try (show Value.int .i64 _= .int .i64 (((Ql p ((Ql e (kk+1+1)).2)).2:W):Y);first | go_num | (congr 1<;>omega))),g⟩))
  obtain rfl:j=l.length:=by omega
  have hf:=HF.out;rw[zG] at*;rw[hf] at*;have bu:=Lib.hid hf;clear hf;go_wp2
  go_ret
  exact⟨rfl,u⟩
theorem PU(w:E)(ca:S D)(a a':Jy)(K:Y)(k:W)(hK:K=k)(h1:1<=k)(hk:(GoD.markT a k).2<=4611686018427387904)(a2:a'=(GoD.markT a k).1)(ha:rd w ca a'):Calls uN 10 #[.agg ca.toArray,.int .i64 K] w (Ret w (.int .i64 ((GoD.markT a k).2:W))):=by
 subst hK a2;obtain⟨b,b2,b3,c,f,l⟩:=a;have hk:(Ql l ((Ql f ((Ql c ((GoD.markT b (k)).2)).2)).2)).2<=4611686018427387904:=hk;have ha:rd w ca ((GoD.markT b (k)).1,b2,b3,(Ql c ((GoD.markT b (k)).2)).1,(Ql f ((Ql c ((GoD.markT b (k)).2)).2)).1,(Ql l ((Ql f ((Ql c ((GoD.markT b (k)).2)).2)).2)).1):=ha;generalize e:(GoD.markT ((b,b2,b3,c,f,l):Jy) k).2=fin;have e:(Ql l ((Ql f ((Ql c ((GoD.markT b (k)).2)).2)).2)).2=fin:=e;obtain⟨_,_,rfl,m,_,_,rfl,a1,_,_,rfl,n,_,_,rfl,p,_,_,rfl,q,r⟩:=ha;obtain⟨s,t,u,v,x,rfl⟩:=Qsa (show _=5 from GoD.rd_len m);have a3:=Lib.hid m;clear m;have a9:k<=(GoD.markT b (k)).2:=GoD.mkT_le _ _;obtain⟨a4,a5,rfl⟩:=CB (show _=2 from GoD.rd_len a1);clear a1;obtain⟨rfl,n⟩:=n;clear n;obtain⟨y,rfl⟩:=Bn (show _=1 from GoD.rd_len p);have a6:=Lib.hid p;clear p;have aa:(GoD.markT b (k)).2<=(Ql c ((GoD.markT b (k)).2)).2:=Yt _ _;obtain⟨z,rfl⟩:=Bn (show _=1 from GoD.rd_len q);have a7:=Lib.hid q;clear q;have ab:(Ql c ((GoD.markT b (k)).2)).2<=(Ql f ((Ql c ((GoD.markT b (k)).2)).2)).2:=Yt _ _;obtain⟨V,rfl⟩:=Bn (show _=1 from GoD.rd_len r);have a8:=Lib.hid r;clear r;have ad:(Ql f ((Ql c ((GoD.markT b (k)).2)).2)).2<=(Ql l ((Ql f ((Ql c ((GoD.markT b (k)).2)).2)).2)).2:=Yt _ _;dsimp only[zM,zL] at*;have g:True:=trivial;have h:True:=trivial;have i:True:=trivial;have j:True:=trivial;have HF:=Lib.hid e;clear e;go_enter func10,ntmps10
 go_wp2_with (first | (go_at_call 40;have tk:=g;clear g;refine Vq (w:=w) (LE _ [s,t,u,v,x] b _ _ (k) (by omega) (by omega) (show(GoD.markT b (k)).2<=4611686018427387904 by omega) rfl (Yv a3.out (by go_grown))) (by go_grown) ?_;intro w1 hB hb hz d;(try simp only[zSh] at d);have c0:=λo=>Ax hb (w.heap.size) o (by go_size);clear hb) | (go_at_call 41;have tk:=h;clear h;refine Vq (w:=w) (CX _ y c _ _ ((GoD.markT b (k)).2) (by omega) (by omega) (show(Ql c ((GoD.markT b (k)).2)).2<=4611686018427387904 by omega) rfl (Yv a6.out (by go_grown))) (by go_grown) ?_;intro w2 hB hb hz d;(try simp only[zSh] at d);have c0:=λo=>Ax hb (w.heap.size) o (by go_size);clear hb) | (go_at_call 42;have tk:=i;clear i;refine Vq (w:=w) (PT _ z f _ _ ((Ql c ((GoD.markT b (k)).2)).2) (by omega) (by omega) (show(Ql f ((Ql c ((GoD.markT b (k)).2)).2)).2<=4611686018427387904 by omega) rfl (Yv a7.out (by go_grown))) (by go_grown) ?_;intro w3 hB hb hz d;(try simp only[zSh] at d);have c0:=λo=>Ax hb (w.heap.size) o (by go_size);clear hb) | (go_at_call 43;have tk:=j;clear j;refine Vq (w:=w) (Nn _ V l _ _ ((Ql f ((Ql c ((GoD.markT b (k)).2)).2)).2) (by omega) (by omega) (show(Ql l ((Ql f ((Ql c ((GoD.markT b (k)).2)).2)).2)).2<=4611686018427387904 by omega) rfl (Yv a8.out (by go_grown))) (by go_grown) ?_;intro w4 hB hb hz d;(try simp only[zSh] at d);have c0:=λo=>Ax hb (w.heap.size) o (by go_size);clear hb))
 go_ret
 refine⟨?_,by go_grown⟩;rw[←HF.out];rfl
end
section
open Go.RowKit
open GoD (rd own)
open GoE (enc wide)
def szI(t:W)(left:Y):Y:=bif decide ((t:Y)<=left) then left-t else-1
theorem Qru{t:W}{left r:Y}(h:szq t left r):r=szI t left:=by
 unfold szq at h;unfold szI;by_cases a:(t:Y)<=left
 . rw[uH a];simp only[uC];omega
 rw[uG a];simp only[uB];omega
theorem Qrv(t:W)(left:Y):szI t left<0\/(0<=szI t left/\szI t left=left-t/\(t:Y)<=left):=by
 by_cases a:(t:Y)<=left
 . have:szI t left=left-t:=by unfold szI;rw[uH a];rfl
   omega
 have:szI t left= -1:=by unfold szI;rw[uG a];rfl
 omega
theorem Qrw(t:W){left:Y}(b:0<=left)(c:left<=1048576):InR .i64 (szI t left):=by
 rw[Mj];unfold I64;by_cases a:(t:Y)<=left
 . have:szI t left=left-t:=by unfold szI;rw[uH a];rfl
   omega
 have:szI t left= -1:=by unfold szI;rw[uG a];rfl
 omega
section
variable {α:Type} [GoE α] {P:uJ} {f:W}
theorem Qi0{F:W->Prop}{w:E}{v:D}{a:α}(h:AR (LL F) w v (Aj a)):∃cs:S D,v= .agg cs.toArray/\rd w cs a:=by
 obtain⟨vs,rfl,b⟩:=h;exact⟨vs,rfl,GoE.vc_rd (Qqn b λ_=>GoE.no_any)⟩
theorem PW{F:W->Prop}{w w':E}{v:D}{r:AV}(a:Below w.heap.size w w')(b:∀J,AR J w' v r):Qj5 F w r (.returned v) w':=
 ⟨v,λ_=> [],rfl,a,λ_=>yH,(λ_ _ h=>by simp at h),(λ_ _ _ h=>by simp at h),b _⟩
theorem Qej(c:Fr P f){a:α}{left:Y}(i:0<=left)(j:left<=1048576)(h:∀w (cs:S D),rd w cs a->Calls P f #[.agg cs.toArray,.int .i64 left] w (Fu w (GoD.size a) left)):ACalls P f [Aj a,Qmu left] (Qmu (szI (GoD.size a) left)):=by
 refine⟨c,λw _ F g o b=>?_⟩;cases b with
 | cons k d=>cases d with
   | cons d l=>
     cases l
     obtain⟨cs,rfl,m⟩:=Qi0 k;obtain⟨rfl,_⟩:=d;refine(h w cs m).mono ?_
     rintro e w' ⟨r,rfl,n,hb⟩
     exact PW hb λJ=>⟨by rw[Qru n],Qrw _ i j⟩
theorem Qek(c:Fr P f){a:α}{K R:Y}(i:InR .i64 R)(h:∀w (cs:S D),rd w cs a->Calls P f #[.agg cs.toArray,.int .i64 K] w (Ret w (.int .i64 R))):ACalls P f [Aj a,Qmu K] (Qmu R):=by
 refine⟨c,λw _ F g m b=>?_⟩;cases b with
 | cons j d=>cases d with
   | cons d k=>
     cases k
     obtain⟨cs,rfl,l⟩:=Qi0 j;obtain⟨rfl,_⟩:=d;refine(h w cs l).mono ?_
     rintro e w' ⟨rfl,hb⟩
     exact PW hb λJ=>⟨rfl,i⟩
end
section
variable {α:Type} [GoE α] {P:uJ} {f:W}
end
def Qrx(P:uJ)(f:W){α:Type}[GoE α](a:α)(K:Y)(r:α×W):Prop:=Fr P f/\∀(w:E) (L:S W) (cs:S D),own L w cs a->Calls P f #[.agg cs.toArray,.int .i64 K] w (Pt L w cs r)
def nmC:S W->S PV->Option (S C)
 | [], []=>T []
 | _, []=>G
 | k::ks,.slc n l::r=>(nmC ks r).map (C.slc (.own H k) n l:: ·)
 | [],.slc _ _::_=>G
 | ks,.int a b::r=>(nmC ks r).map (C.int a b:: ·)
 | ks,.bool b::r=>(nmC ks r).map (C.bool b:: ·)
 | ks,.str s::r=>(nmC ks r).map (C.str s:: ·)
 | [],.any::_=>G
 | _::_,.any::_=>G
 | [],.raw _::_=>G
 | _::_,.raw _::_=>G
theorem Qi1{J:Inj}{w:E}(hd:∀k q b,b∈J.L k->b∈J.L q->k=q):∀{ps:S PV} {ks:S W} {cs:S C} {vs:S D},nmC ks ps=T cs->ks.Nodup->All2 (CR J w) vs cs->∃L,OC w L vs ps/\L.Nodup/\∀b,b∈L->∃k,k∈ks/\b∈J.L k
 | [], [],cs,vs,h,_,ha=>by
   obtain rfl: []=cs:=by simpa [nmC] using h
   cases ha
   exact⟨[],.nil,yH,λ_ h=>by simp at h⟩
 | [],k::ks,cs,vs,h,_,ha=>by simp[nmC] at h
 | .int a b::ps,ks,cs,vs,h,d,ha=>by
   have h:(nmC ks ps).map (C.int a b:: ·)=T cs:=by cases ks<;>exact h
   obtain⟨g,i,rfl⟩:=zV.1 h;cases ha with
   | cons c j=>obtain⟨rfl,c⟩:=c;obtain⟨L,m,o,f⟩:=Qi1 hd i d j;exact⟨L,OC.cons (L1:= []) (.int c) m,o,f⟩
 | .bool b::ps,ks,cs,vs,h,d,ha=>by
   have h:(nmC ks ps).map (C.bool b:: ·)=T cs:=by cases ks<;>exact h
   obtain⟨g,i,rfl⟩:=zV.1 h;cases ha with
   | cons c j=>obtain rfl:=c;obtain⟨L,m,o,f⟩:=Qi1 hd i d j;exact⟨L,OC.cons (L1:= []) (.bool _) m,o,f⟩
 | .str s::ps,ks,cs,vs,h,d,ha=>by
   have h:(nmC ks ps).map (C.str s:: ·)=T cs:=by cases ks<;>exact h
   obtain⟨g,i,rfl⟩:=zV.1 h;cases ha with
   | cons c j=>obtain⟨rfl,c⟩:=c;obtain⟨L,m,o,f⟩:=Qi1 hd i d j;exact⟨L,OC.cons (L1:= []) (.str c) m,o,f⟩
 | .slc n l::ps, [],cs,vs,h,_,ha=>by simp[nmC] at h
 | .any::ps, [],cs,vs,h,_,ha=>by simp[nmC] at h
 | .any::ps,k::ks,cs,vs,h,_,ha=>by simp[nmC] at h
 | .raw _::ps, [],cs,vs,h,_,ha=>by simp[nmC] at h
 | .raw _::ps,k::ks,cs,vs,h,_,ha=>by simp[nmC] at h
 | .slc n l::ps,k::ks,cs,vs,h,d,ha=>by
   simp only[nmC] at h;obtain⟨g,i,rfl⟩:=zV.1 h;obtain⟨v,d⟩:=List.nodup_cons.1 d;cases ha with
   | cons c j=>
     obtain⟨L,m,o,f⟩:=Qi1 hd i d j;obtain⟨x,y,z,u,_⟩:=c;refine⟨x++L,OC.cons y m,zE.2 ⟨z,o,λb hb V r e=>?_⟩,λb hb=>?_⟩
     . subst e;obtain⟨q,p,t⟩:=f b r;exact v (hd _ _ b (u b hb) t▸p)
     rcases zD.1 hb with hb | hb
     . exact⟨k,yC,u b hb⟩
     obtain⟨q,p,t⟩:=f b hb;exact⟨q,zZ _ p,t⟩
section
variable {P:uJ} {N:W} {w0:Base} {F0:W->Prop} {J:Inj} {a:Act} {w w':E} {s:St}
theorem Rel.mark(h:Rel N w0 F0 J a w s)(ks:S W){L:S W}(hL:∀b,b∈L->∃k,k∈ks/\b∈J.L k)(v:Chg L w w')(d:W)(hd:d<N)(n:Y)(hn:InR .i64 n)(bx:Option (W×S C))
 (hb:∀k c,bx=T (k,c)->∃c0,get s.bx k=T c0/\∃p e,w.heap[J.B k]? =T (.cells p e (0,0))/\∀J':Inj,(∀b,J'.F b↔J.F b\/b∈L)->All2 (CR J' w') p.toList c):
 ∃J',(∀b,J'.F b↔J.F b\/b∈L)/\(∀k,J'.B k=J.B k)/\Rel N w0 F0 J' (a.put (T d) (.int .i64 n)) w' (s.step (T d) ⟨.one (.int .i64 n),Vc ks,G,bx⟩):=by
 let J':Inj:=⟨λb=>J.F b\/b∈L,λk=>if k∈ks then [] else J.L k,J.B⟩
 have u:∀b,b∈L->w0.lo (b)/\b<w.heap.size/\¬J.F b:=λb hb=>by
  obtain⟨k,_,g⟩:=hL b hb;exact h.lo k b g
 have q:∀b,b<w.heap.size->b∉L->w'.heap[b]? =w.heap[b]? :=v.block
 have r:∀k b,b∈J'.L k->k∉ks/\b∈J.L k:=λk b g=>by
  have g:b∈(if k∈ks then [] else J.L k):=g;split at g
  . simp at g
  rename_i f;exact⟨f,g⟩
 have x:∀k b,k∉ks->b∈J.L k->b∉L:=λk b f g y=>by
  obtain⟨l,z,V⟩:=hL b y;exact f (h.dj k l b g V▸z)
 have j:∀k c,get s.bx k=T c->J.B k∉L:=λk c f y=>by
  obtain⟨l,_,g⟩:=hL _ y;exact(h.bo k c f).2.2.1 l g
 refine⟨J',λb=>Iff.rfl,λ_=>rfl, ?_⟩;refine h.upd (w':=w') (J':=J') (T d) (λd' e=>by cases e;exact hd) _ _ (h.below.step v.os v.tape v.output v.size λb hb a2=>q b hb λy=>a2 (u b y).1) ?_ ?_ (λ_=>⟨rfl,hn⟩) ?_ ?_
 . constructor
   . exact λb hb=>⟨.inl hb,q b (h.fl b hb).1 λy=>(u b y).2.2 hb⟩
   . intro k f;rw[A3] at f;split at f
     . cases f
     rename_i hn;exact⟨uF hn,λb hb=>q b (h.lo k b hb).2.1 (x k b hn hb)⟩
   . intro k f;rw[A3] at f;split at f<;>cases f
   . intro k l f;rw[A3] at f;split at f<;>cases f
   . intro k t f;rw[A3] at f;split at f<;>cases f
   . exact λ_ _=>rfl
   intro k d m i o cs f;rw[A3] at f;split at f<;>cases f
 . constructor
   . intro b hb;rcases hb with hb | hb
     . exact⟨yD (h.fl b hb).1 v.size,(h.fl b hb).2⟩
     exact⟨yD (u b hb).2.1 v.size,.inr (u b hb).1⟩
   . exact λb hb=> .inl (h.f0 b hb)
   . intro k;show(if _ then _ else _:S W).Nodup;split
     . exact yH
     exact h.nd k
   . intro k b g;obtain⟨f,g⟩:=r k b g;obtain⟨h1,h2,h3⟩:=h.lo k b g;exact⟨h1,yD h2 v.size,λhF=>hF.elim h3 (x k b f g)⟩
   intro k l b g V;exact h.dj k l b (r k b g).2 (r l b V).2
 . intro k c f _;obtain⟨h1,h2,h3,p,e,h4,_⟩:=h.bo k c f;refine⟨by simp,λhF=>hF.elim h2 (j k c f),λl g=>h3 l (r l _ g).2,q _ ?_ (j k c f)⟩;exact Xb h4
 intro k c f;obtain⟨c0,hg,p,e,hh,a1⟩:=hb k c f;obtain⟨h1,h2,h3,a5,e',h4,_⟩:=h.bo k c0 hg;have a3:J.B k<w.heap.size:=Xb h4;exact⟨h1,λhF=>hF.elim h2 (j k c0 hg),λl g=>h3 l (r l _ g).2,⟨p,e,(q _ a3 (j k c0 hg)).trans hh,a1 J' λ_=>Iff.rfl⟩,λl c' z a4 e=>a4 (h.bi l k c' c0 z hg e)⟩
theorem Qan{f:TI}{t:W}(a:TiOk P t f){vs:S D}(g:f.agg=H)(h:vs.length=f.size){b off:W}(i:∀(j:W) (u:D),vs[j]? =T u->w.cell? ⟨b,off+j,G⟩=T u):(loadVar t ⟨b,off,G⟩).run P w= .ok (.agg vs.toArray) w:=by
 obtain⟨d,hd,c⟩:=a.agg;have e:=run_loadCells_list (P:=P) w ⟨b,off,G⟩ vs (λj u k=>by rw[Addr.add_lit];exact i j u k);rw[h] at e;simp[loadVar,B0 hd,c,g,Cw a,e]
theorem ZB{a:Act}{t u:W}{v:D}(b:t<a.tmps.size):(a.put (T t) v).tmps.getD u undef=if u=t then v else a.tmps.getD u undef:=by
 simp only[Act.put,Array.getD_eq_getD_getElem?,Array.getElem?_setIfInBounds];by_cases h:u=t
 . subst h;simp[b]
 simp[h,Ne.symm h]
end
class GoM (α:Type) [GoE α]:Prop where
 mkw:∀{a:α} {k:W},wide a->wide (GoD.mark a k).1
 mkT:∀{a:α} {k:W},wide a->wide (GoD.markT a k).1
instance:GoM Y:=⟨λ_=>trivial,λ_=>trivial⟩
instance:GoM uA:=⟨λ_=>trivial,λ_=>trivial⟩
instance:GoM uE:=⟨λ_=>trivial,λ_=>trivial⟩
instance {α β:Type} [GoE α] [GoE β] [GoM α] [GoM β]:GoM (α×β):=⟨λh=>⟨GoM.mkw h.1,GoM.mkw h.2⟩,λh=>⟨GoM.mkT h.1,GoM.mkT h.2⟩⟩
theorem KE{α:Type}[GoE α][GoM α]:∀{l:S α} {k:W},(∀a,a∈l->wide a)->∀a,a∈(Ql l k).1->wide a
 | [],k,_,a,ha=>by simp[Ql] at ha
 | x::l,k,h,a,ha=>by
   simp only[Ql,zS] at ha;rcases ha with rfl | ha
   . exact GoM.mkw (h x yC)
   exact KE (λa ha=>h a (zZ _ ha)) a ha
instance {α:Type} [GoE α] [GoM α]:GoM (S α):=⟨λ{l k} h=>⟨by rw[show(GoD.mark l k).1=(Ql l k).1 from rfl,N5];exact h.1,KE h.2⟩,λ{l k} h=>⟨by rw[show(GoD.markT l k).1=(Ql l k).1 from rfl,N5];exact h.1,KE h.2⟩⟩
section
variable {P:uJ} {N:W} {w0:Base} {F0:W->Prop} {s s':St} {Q:Exit->St->Prop}
theorem ZC{c:Array Oper}{Q:Exit->Act->E->Prop}{i:W}{b:S W}{o:Oper}{a:Act}{w:E}(hi:c[i]? =T o)(d:o.guard=G)(h:o.wp P a w (wpOps P c Q b) Q):wpOps P c Q (i::b) a w:=by
 rw[wpOps_cons];unfold wpOp;simp only[hi];rw[uI (by simp[Region.wanted,d])];exact .inl h
theorem Qao{a:Act}{t:W}{v:D}:(a.put (T t) v).tmps.size=a.tmps.size:=by simp[Act.put]
def PX(N x y d z p a:W):uA:=Nat.blt x N&&Nat.blt y N&&Nat.blt d N&&Nat.blt z N&& !yJ a x&& !yJ x y&& !yJ p x
theorem FB{a b:W}(h:(!yJ a b)=H):a≠b:=λe=>by subst e;simp at h
theorem PY{tt:S (W×TI)}(a7:Nq P tt=H){α:Type}[GoE α][GoM α]{a:α}{K:Y}{r:α×W}{f:W}(hm:Qrx P f a K r)(hr:InR .i64 (r.2:Y))(a8:wide a->wide r.1)(ks:S W){id x y d z p q V t:W}{o0 o1 o2 o3:Oper}{a9:Array TypeId}{ti:TI}{cs:S C}(ts bs:S W)
 (p0:o0.op= .load t (.tmp p)) (d0:o0.dst=T x) (g0:o0.guard=G) (p1:o1.op= .move (.tmp V)) (d1:o1.dst=T y) (g1:o1.guard=G)
 (p2:o2.op= .call ⟨.value (.func f), #[.tmp x,.tmp y],a9⟩) (d2:o2.dst=T d) (g2:o2.guard=G) (p3:o3.op= .assign (.tmp d)) (d3:o3.dst=T z) (g3:o3.guard=G) (hN:PX N x y d z p V=H)
 (ht:get tt t=T ti) (aa:ti.agg=H) (ab:yJ ti.size (enc a).length=H) (hp:get s.tm p=T (.one (.ptr q 0))) (hb:get s.bx q=T cs) (ad:nmC ks (enc a)=T cs) (ae:Ao ks=H) (hk:get s.tm V=T (.one (.int .i64 K)))
 (hs:((((s.step (T x) ⟨.one .dead, [],G,G⟩).step (T y) ⟨.one .dead, [],G,G⟩).step (T d) ⟨.one (.int .i64 (r.2:Y)),Vc ks,G,T (q,(enc r.1).map shC)⟩).step (T z) ⟨.one (.int .i64 (r.2:Y)), [],G,G⟩).keep ts bs=s')
 (hQ:Q .normal s'):AWP P N w0 F0 (.region id #[o0,o1,o2,o3] I) Q s:=λJ i w g=>by
 simp only[PX,zQ,Nat.blt_eq] at hN;obtain⟨⟨⟨⟨⟨⟨n1,n2⟩,n3⟩,n4⟩,n5⟩,n6⟩,n7⟩:=hN;have n5:=FB n5;have n6:=FB n6;obtain⟨_,_,_,arr,e,l,a1⟩:=g.bo q cs hb;have af:i.tmps.getD p undef= .pointer (T ⟨J.B q,0,G⟩):=g.tm p _ hp;obtain⟨hkv,hKr⟩:i.tmps.getD V undef= .int .i64 K/\InR .i64 K:=g.tm V _ hk;obtain⟨L,m,ah,a2⟩:=Qi1 g.dj ad (Bh.1 ae) a1;have a3:own L w arr.toList a:=GoE.oc_own m ah;have ai:wide a:=GoE.vc_wide (m.vc (X:=λb=>b∈L) λ_ h=>h);have a4:arr.toList.length=ti.size:=by rw[m.length];exact(Nat.eq_of_beq_eq_true ab).symm
 have aj:(loadVar t ⟨J.B q,0,G⟩).run P w= .ok (.agg arr) w:=by
  have:=Qan (P:=P) (w:=w) (Jc a7 ht) aa a4 (b:=J.B q) (off:=0) (λj u hj=>by
   rw[Array.getElem?_toList] at hj;simp[World.cell?,l,hj])
  simpa using this
 have a5:x<i.tmps.size:=by rw[g.size];exact n1
 have a6:y<(i.put (T x) (.agg arr)).tmps.size:=by rw[Qao,g.size];exact n2
 have R1:=g.pure (T x) (λd' e=>by cases e;exact n1) (.one .dead) (.agg arr) (λ_=>trivial);have R2:=R1.pure (T y) (λd' e=>by cases e;exact n2) (.one .dead) (.int .i64 K) (λ_=>trivial);refine wp_region ?_;show wpOps P _ _ [0,1,2,3] i w;refine ZC (o:=o0) rfl g0 (V4 (v:= .agg arr) (w':=w) ?_ ?_)
 . have e1:i.eval (.tmp p)= .pointer (T ⟨J.B q,0,G⟩):=af;simp[execOp,p0,e1,Instr.loadAt,Instr.sureAddr,aj]
 rw[d0];refine ZC (o:=o1) rfl g1 (V4 (v:= .int .i64 K) (w':=w) ?_ ?_)
 . have e1:(i.put (T x) (.agg arr)).eval (.tmp V)= .int .i64 K:=(ZB a5).trans ((uF n5).trans hkv);simp[execOp,p1,e1]
 rw[d1];refine ZC (o:=o2) rfl g2 (L9 (caps:= #[]) p2 rfl hm.1 ?_);have ex:((i.put (T x) (.agg arr)).put (T y) (.int .i64 K)).eval (.tmp x)= .agg arr:=(ZB a6).trans ((uF n6).trans ((ZB a5).trans (uI rfl)));have ey:((i.put (T x) (.agg arr)).put (T y) (.int .i64 K)).eval (.tmp y)= .int .i64 K:=(ZB a6).trans (uI rfl);have n:(#[Operand.tmp x,Operand.tmp y].map ((i.put (T x) (.agg arr)).put (T y) (.int .i64 K)).eval++ #[])= #[.agg arr.toList.toArray,.int .i64 K]:=by simp[ex,ey]
 rw[n];refine(hm.2 w L arr.toList a3).mono ?_
 rintro en w' ⟨rfl,ho,hc⟩
 have ak:=a8 ai
 obtain⟨J',hF,hB,R3⟩:=R2.mark ks a2 hc d n3 (r.2:Y) hr (T (q,(enc r.1).map shC)) (λk c hk=>by
  cases hk
  refine⟨cs,hb,arr,e,l,λJ' hF=>?_⟩;exact Qf6 ((GoE.own_oc ho ak).vc λb hb=>(hF b).2 (.inr hb)))
 have R4:=R3.pure (T z) (λd' e=>by cases e;exact n4) (.one (.int .i64 (r.2:Y))) (.int .i64 (r.2:Y)) (λ_=>⟨rfl,hr⟩);rw[d2];refine ZC (o:=o3) rfl g3 (V4 (v:= .int .i64 (r.2:Y)) (w':=w') ?_ ?_)
 . have al:d<((i.put (T x) (.agg arr)).put (T y) (.int .i64 K)).tmps.size:=by rw[Qao,Qao,g.size];exact n3
   have e1:(((i.put (T x) (.agg arr)).put (T y) (.int .i64 K)).put (T d) (.int .i64 (r.2:Y))).eval (.tmp d)= .int .i64 (r.2:Y):=(ZB al).trans (uI rfl);simp[execOp,p3,e1]
 rw[d3];subst hs;exact⟨J',_,R4.less (λt v hv=>Gc hv) (λk c hc=>Gc hc),hQ⟩
end
end
section
open Go.RowKit
open GoD (rd own)
set_option maxRecDepth 100000
set_option maxHeartbeats 1000000
theorem cBz{w v:E}{a:Addr}{x:D}(b:Below w.heap.size w v)(h:w.cell? a=T x):v.cell? a=T x:=(b.cell (World.block_lt_of_cell? w _ h)).trans h
theorem zSz:(∀(w:E) o,(w.alloc o).heap.size=w.heap.size+1)/\(∀(w:E) a v,(w.setCell a v).heap.size=w.heap.size)/\∀w:E,w.drew.heap.size=w.heap.size:=⟨λ_ _=>World.size_alloc ..,λ_ _ _=>World.size_setCell ..,λ_=>rfl⟩
abbrev zI{α:Type}[GoD α](l:S α)(left:Y)(w:E)(q i:D)(a:E):Prop:=∃(k:W) (r:Y),k<=l.length/\i= .int .i64 k/\q= .int .i64 r/\0<=r/\r<=1048576/\Hid (r=left-l.length-((l.take k).map GoD.size).sum)/\Below w.heap.size w a
theorem PZ(w:E)(h:S D)(a:Va)(left:Y)(i:rd w h a)(p:0<=left)(q:left<=1048576):Calls uN 228 #[.agg h.toArray,.int .i64 left] w (Fu w (GoD.size a) left):=by
 obtain⟨j,k,f⟩:=a;obtain⟨l,m,rfl,c,n,o,rfl,d,b⟩:=i;obtain⟨rfl,c⟩:=c;obtain⟨rfl,d⟩:=d;obtain⟨rfl,b⟩:=b;dsimp only[zM,zL] at*;clear c;clear d;unfold A at b;have b:f.size<=9223372036854775807:=by omega
 have e:GoD.size (j,k,f)=(0+(0+f.size)):=rfl;have g:=Lib.hid e;clear e;go_enter func228,ntmps228
 go_wp2
 all_goals
  go_ret
  refine⟨_,rfl, ?_,by go_grown⟩;rw[g.out];unfold szq
  (try unfold szq at*)
  go_light
  omega
theorem Ql0(w:E)(s:S D)(a:Q9)(left:Y)(u:rd w s a)(h0:0<=left)(h1:left<=1048576):Calls uN 184 #[.agg s.toArray,.int .i64 left] w (Fu w (GoD.size a) left):=by
 obtain⟨v,x,y,m,n⟩:=a;obtain⟨z,V,rfl,d,a6,a7,rfl,e,a8,a9,rfl,f,aa,ab,rfl,b,g⟩:=u;obtain⟨rfl,d⟩:=d;obtain⟨rfl,e⟩:=e;obtain⟨rfl,f⟩:=f;obtain⟨rfl,b⟩:=b;obtain⟨h,i,j,rfl⟩:=Qoo (show _=3 from GoD.rd_len g);dsimp only[zM,zL] at*;clear d;clear e;clear f;unfold A at b;have b:m.size<=9223372036854775807:=by omega
 have k:=Lib.hid g;clear g;have c:True:=trivial;have l:GoD.size (v,x,y,m,n)=(0+(0+(0+(m.size+GoD.size n)))):=rfl;have p:=Lib.hid l;clear l;go_enter func184,ntmps184
 go_wp2_with (first | (go_at_call 228;have tk:=c;clear c;refine Vi (w:=w) (PZ _ [h,i,j] n _ (Yv k.out (by go_grown)) (by omega) (by omega)) (by go_grown) ?_;intro w1 r1 hB hb hz q t hs;have r:=Lib.hid t;clear t;(try simp only[zSz] at q);have c0:=λo=>Ax hb (w.heap.size) o (by go_size);clear hb))
 all_goals
  go_ret
  refine⟨_,rfl, ?_,by go_grown⟩;rw[p.out];unfold szq
  (try have u1:=r.out)
  (try unfold szq at*)
  go_light
  omega
theorem Qi2(w:E)(v:D)(l:S Q9)(left:Y)(V:rd w [v] l)(h0:0<=left)(h1:left<=1048576):Calls uN 143 #[v,.int .i64 left] w (Fu w (GoD.size l) left):=by
 obtain⟨oa,cap,u,hl,hm,f⟩:=V;obtain rfl:v=_:=by simpa using u
 clear u;have HE:=Lib.hid f;clear f;unfold A at hm;have a1:l.length<=9223372036854775807:=by omega
 have g:GoD.size l=l.length+(l.map GoD.size).sum:=rfl;have c:=Lib.hid g;clear g;by_cases y:left-l.length<0
 . go_enter func143,ntmps143
   go_wp2
   go_ret
   refine⟨_,rfl, ?_,Below.refl _ _⟩;rw[c.out];unfold szq;omega
 go_enter func143,ntmps143
 go_wp2
 go_loopw [1,5] (zI l left w) (λ_ i _=>l.length-(intOf i).toNat)
 case atStart=>exact⟨0,_,zK _,rfl,rfl,by omega,by omega,by show _=_;simp,Below.refl _ _⟩
 case round=>
  obtain⟨k,r,hk,rfl,rfl,a2,a3,p,b⟩:=hrel;by_cases q:k<l.length
  . have o:=zF q;obtain⟨d,e,ee,rfl,h,a,j⟩:=HE.out k _ o;have HT:=Lib.hid (Ga o);have HU:=Lib.hid (Ac o);clear o;generalize l[k]=x at*;obtain⟨x0,x1,x2,x3,x4,x5,x6,rfl⟩:=Qtm (show _=7 from h);have p0:wr.cell? ⟨d,e+k*7,G⟩=T x0:=cBz b (a 0 _ rfl);have p1:wr.cell? ⟨d,e+k*7+1,G⟩=T x1:=cBz b (a 1 _ rfl);have p2:wr.cell? ⟨d,e+k*7+2,G⟩=T x2:=cBz b (a 2 _ rfl);have p3:wr.cell? ⟨d,e+k*7+3,G⟩=T x3:=cBz b (a 3 _ rfl);have p4:wr.cell? ⟨d,e+k*7+4,G⟩=T x4:=cBz b (a 4 _ rfl);have p5:wr.cell? ⟨d,e+k*7+5,G⟩=T x5:=cBz b (a 5 _ rfl);have p6:wr.cell? ⟨d,e+k*7+6,G⟩=T x6:=cBz b (a 6 _ rfl);have s:=Lib.hid j;clear j a h;go_wp2_with (go_at_call 184;refine Vi (w:=w) (Ql0 _ [x0,x1,x2,x3,x4,x5,x6] x _ (Yv s.out b) (by omega) (by omega)) (by go_grown) ?_;intro w2 r2 a4 hb hz a5 m hs;have n:=Lib.hid m;clear m hb)
    . go_ret
      refine⟨_,rfl, ?_,by go_grown⟩;have z:=HU.out;have u2:=n.out;have t:=p.out;rw[c.out];unfold szq at*;go_light
      omega
    go_roundw
    case rel=>exact⟨k+1,_,by omega,by go_num,rfl,by omega,by omega,by
    show _=_;have z:=HT.out;have u2:=n.out;have t:=p.out;unfold szq at*;rw[z];omega,by go_grown⟩
    case measure=>simp[intOf];omega
  obtain rfl:k=l.length:=by omega
  go_wp2
  go_ret
  refine⟨_,rfl, ?_,b⟩;have t:=p.out;rw[zG] at t;rw[c.out];unfold szq;omega
theorem Qi3(w:E)(g:S D)(a:Y4)(left:Y)(h:rd w g a)(l:0<=left)(m:left<=1048576):Calls uN 141 #[.agg g.toArray,.int .i64 left] w (Fu w (GoD.size a) left):=by
 obtain⟨e,i⟩:=a;obtain⟨j,k,rfl,b,c⟩:=h;obtain⟨rfl,b⟩:=b;obtain⟨rfl,c⟩:=c;dsimp only[zM,zL] at*;unfold A at b;have b:e.size<=9223372036854775807:=by omega
 clear c;have d:GoD.size (e,i)=(e.size+0):=rfl;have f:=Lib.hid d;clear d;go_enter func141,ntmps141
 go_wp2
 all_goals
  go_ret
  refine⟨_,rfl, ?_,by go_grown⟩;rw[f.out];unfold szq
  (try unfold szq at*)
  go_light
  omega
theorem Qel(w:E)(v:D)(l:S Y4)(left:Y)(V:rd w [v] l)(h0:0<=left)(h1:left<=1048576):Calls uN 95 #[v,.int .i64 left] w (Fu w (GoD.size l) left):=by
 obtain⟨oa,cap,s,hl,hm,c⟩:=V;obtain rfl:v=_:=by simpa using s
 clear s;have HE:=Lib.hid c;clear c;unfold A at hm;have a1:l.length<=9223372036854775807:=by omega
 have d:GoD.size l=l.length+(l.map GoD.size).sum:=rfl;have a:=Lib.hid d;clear d;by_cases t:left-l.length<0
 . go_enter func95,ntmps95
   go_wp2
   go_ret
   refine⟨_,rfl, ?_,Below.refl _ _⟩;rw[a.out];unfold szq;omega
 go_enter func95,ntmps95
 go_wp2
 go_loopw [1,5] (zI l left w) (λ_ i _=>l.length-(intOf i).toNat)
 case atStart=>exact⟨0,_,zK _,rfl,rfl,by omega,by omega,by show _=_;simp,Below.refl _ _⟩
 case round=>
  obtain⟨k,r,hk,rfl,rfl,a2,a3,n,j⟩:=hrel;by_cases o:k<l.length
  . have m:=zF o;obtain⟨u,y,ee,rfl,e,b,f⟩:=HE.out k _ m;have HT:=Lib.hid (Ga m);have HU:=Lib.hid (Ac m);clear m;generalize l[k]=x at*;obtain⟨x0,x1,rfl⟩:=CB (show _=2 from e);have p0:wr.cell? ⟨u,y+k*2,G⟩=T x0:=cBz j (b 0 _ rfl);have p1:wr.cell? ⟨u,y+k*2+1,G⟩=T x1:=cBz j (b 1 _ rfl);have p:=Lib.hid f;clear f b e;go_wp2_with (go_at_call 141;refine Vi (w:=w) (Qi3 _ [x0,x1] x _ (Yv p.out j) (by omega) (by omega)) (by go_grown) ?_;intro w2 r2 a4 hb hz a5 g hs;have h:=Lib.hid g;clear g hb)
    . go_ret
      refine⟨_,rfl, ?_,by go_grown⟩;have z:=HU.out;have u2:=h.out;have q:=n.out;rw[a.out];unfold szq at*;go_light
      omega
    go_roundw
    case rel=>exact⟨k+1,_,by omega,by go_num,rfl,by omega,by omega,by
    show _=_;have z:=HT.out;have u2:=h.out;have q:=n.out;unfold szq at*;rw[z];omega,by go_grown⟩
    case measure=>simp[intOf];omega
  obtain rfl:k=l.length:=by omega
  go_wp2
  go_ret
  refine⟨_,rfl, ?_,j⟩;have q:=n.out;rw[zG] at q;rw[a.out];unfold szq;omega
theorem Ql1(w:E)(p:S D)(a:Wv)(left:Y)(r:rd w p a)(u:0<=left)(v:left<=1048576):Calls uN 227 #[.agg p.toArray,.int .i64 left] w (Fu w (GoD.size a) left):=by
 obtain⟨j,k⟩:=a;obtain⟨s,t,rfl,b,d⟩:=r;obtain⟨rfl,b⟩:=b;obtain⟨e,f,g,rfl⟩:=Qoo (show _=3 from GoD.rd_len d);dsimp only[zM,zL] at*;unfold A at b;have b:j.size<=9223372036854775807:=by omega
 have h:=Lib.hid d;clear d;have c:True:=trivial;have i:GoD.size (j,k)=(j.size+GoD.size k):=rfl;have l:=Lib.hid i;clear i;go_enter func227,ntmps227
 go_wp2_with (first | (go_at_call 228;have x:=c;clear c;refine Vi (w:=w) (PZ _ [e,f,g] k _ (Yv h.out (by go_grown)) (by omega) (by omega)) (by go_grown) ?_;intro y z V hb hz m q hs;have n:=Lib.hid q;clear q;(try simp only[zSz] at m);have c0:=λo=>Ax hb (w.heap.size) o (by go_size);clear hb))
 all_goals
  go_ret
  refine⟨_,rfl, ?_,by go_grown⟩;rw[l.out];unfold szq
  (try have u1:=n.out)
  (try unfold szq at*)
  go_light
  omega
theorem Qi4(w:E)(v:D)(l:S Wv)(left:Y)(V:rd w [v] l)(h0:0<=left)(h1:left<=1048576):Calls uN 183 #[v,.int .i64 left] w (Fu w (GoD.size l) left):=by
 obtain⟨oa,cap,u,hl,hm,d⟩:=V;obtain rfl:v=_:=by simpa using u
 clear u;have HE:=Lib.hid d;clear d;unfold A at hm;have a1:l.length<=9223372036854775807:=by omega
 have e:GoD.size l=l.length+(l.map GoD.size).sum:=rfl;have b:=Lib.hid e;clear e;by_cases y:left-l.length<0
 . go_enter func183,ntmps183
   go_wp2
   go_ret
   refine⟨_,rfl, ?_,Below.refl _ _⟩;rw[b.out];unfold szq;omega
 go_enter func183,ntmps183
 go_wp2
 go_loopw [1,5] (zI l left w) (λ_ i _=>l.length-(intOf i).toNat)
 case atStart=>exact⟨0,_,zK _,rfl,rfl,by omega,by omega,by show _=_;simp,Below.refl _ _⟩
 case round=>
  obtain⟨k,r,hk,rfl,rfl,a2,a3,p,c⟩:=hrel;by_cases q:k<l.length
  . have m:=zF q;obtain⟨n,o,ee,rfl,f,a,g⟩:=HE.out k _ m;have HT:=Lib.hid (Ga m);have HU:=Lib.hid (Ac m);clear m;generalize l[k]=x at*;obtain⟨x0,x1,x2,x3,rfl⟩:=Qsu (show _=4 from f);have p0:wr.cell? ⟨n,o+k*4,G⟩=T x0:=cBz c (a 0 _ rfl);have p1:wr.cell? ⟨n,o+k*4+1,G⟩=T x1:=cBz c (a 1 _ rfl);have p2:wr.cell? ⟨n,o+k*4+2,G⟩=T x2:=cBz c (a 2 _ rfl);have p3:wr.cell? ⟨n,o+k*4+3,G⟩=T x3:=cBz c (a 3 _ rfl);have s:=Lib.hid g;clear g a f;go_wp2_with (go_at_call 227;refine Vi (w:=w) (Ql1 _ [x0,x1,x2,x3] x _ (Yv s.out c) (by omega) (by omega)) (by go_grown) ?_;intro w2 r2 a4 hb hz a5 h hs;have j:=Lib.hid h;clear h hb)
    . go_ret
      refine⟨_,rfl, ?_,by go_grown⟩;have z:=HU.out;have u2:=j.out;have t:=p.out;rw[b.out];unfold szq at*;go_light
      omega
    go_roundw
    case rel=>exact⟨k+1,_,by omega,by go_num,rfl,by omega,by omega,by
    show _=_;have z:=HT.out;have u2:=j.out;have t:=p.out;unfold szq at*;rw[z];omega,by go_grown⟩
    case measure=>simp[intOf];omega
  obtain rfl:k=l.length:=by omega
  go_wp2
  go_ret
  refine⟨_,rfl, ?_,c⟩;have t:=p.out;rw[zG] at t;rw[b.out];unfold szq;omega
theorem Ql2(w:E)(p:S D)(a:Yn)(left:Y)(r:rd w p a)(h0:0<=left)(h1:left<=1048576):Calls uN 142 #[.agg p.toArray,.int .i64 left] w (Fu w (GoD.size a) left):=by
 obtain⟨s,t,u,v,j⟩:=a;obtain⟨x,y,rfl,c,z,V,rfl,d,a6,a7,rfl,k,a8,a9,rfl,e,f⟩:=r;obtain⟨rfl,c⟩:=c;obtain⟨rfl,d⟩:=d;obtain rfl:=k;obtain⟨rfl,e⟩:=e;obtain⟨g,rfl⟩:=Bn (show _=1 from GoD.rd_len f);dsimp only[zM,zL] at*;clear c;clear d;clear e;have h:=Lib.hid f;clear f;have b:True:=trivial;have i:GoD.size (s,t,u,v,j)=(0+(0+(0+(0+GoD.size j)))):=rfl;have l:=Lib.hid i;clear i;go_enter func142,ntmps142
 go_wp2_with (first | (go_at_call 183;have tk:=b;clear b;refine Vi (w:=w) (Qi4 _ g j _ (Yv h.out (by go_grown)) (by omega) (by omega)) (by go_grown) ?_;intro w1 r1 hB hb hz m q hs;have n:=Lib.hid q;clear q;(try simp only[zSz] at m);have c0:=λo=>Ax hb (w.heap.size) o (by go_size);clear hb))
 all_goals
  go_ret
  refine⟨_,rfl, ?_,by go_grown⟩;rw[l.out];unfold szq
  (try have u1:=n.out)
  (try unfold szq at*)
  go_light
  omega
theorem Qi5(w:E)(v:D)(l:S Yn)(left:Y)(V:rd w [v] l)(h0:0<=left)(h1:left<=1048576):Calls uN 96 #[v,.int .i64 left] w (Fu w (GoD.size l) left):=by
 obtain⟨oa,cap,u,hl,hm,d⟩:=V;obtain rfl:v=_:=by simpa using u
 clear u;have HE:=Lib.hid d;clear d;unfold A at hm;have a1:l.length<=9223372036854775807:=by omega
 have e:GoD.size l=l.length+(l.map GoD.size).sum:=rfl;have b:=Lib.hid e;clear e;by_cases y:left-l.length<0
 . go_enter func96,ntmps96
   go_wp2
   go_ret
   refine⟨_,rfl, ?_,Below.refl _ _⟩;rw[b.out];unfold szq;omega
 go_enter func96,ntmps96
 go_wp2
 go_loopw [1,5] (zI l left w) (λ_ i _=>l.length-(intOf i).toNat)
 case atStart=>exact⟨0,_,zK _,rfl,rfl,by omega,by omega,by show _=_;simp,Below.refl _ _⟩
 case round=>
  obtain⟨k,r,hk,rfl,rfl,a2,a3,p,c⟩:=hrel;by_cases q:k<l.length
  . have o:=zF q;obtain⟨f,g,ee,rfl,h,a,j⟩:=HE.out k _ o;have HT:=Lib.hid (Ga o);have HU:=Lib.hid (Ac o);clear o;generalize l[k]=x at*;obtain⟨x0,x1,x2,x3,x4,rfl⟩:=Qsa (show _=5 from h);have p0:wr.cell? ⟨f,g+k*5,G⟩=T x0:=cBz c (a 0 _ rfl);have p1:wr.cell? ⟨f,g+k*5+1,G⟩=T x1:=cBz c (a 1 _ rfl);have p2:wr.cell? ⟨f,g+k*5+2,G⟩=T x2:=cBz c (a 2 _ rfl);have p3:wr.cell? ⟨f,g+k*5+3,G⟩=T x3:=cBz c (a 3 _ rfl);have p4:wr.cell? ⟨f,g+k*5+4,G⟩=T x4:=cBz c (a 4 _ rfl);have s:=Lib.hid j;clear j a h;go_wp2_with (go_at_call 142;refine Vi (w:=w) (Ql2 _ [x0,x1,x2,x3,x4] x _ (Yv s.out c) (by omega) (by omega)) (by go_grown) ?_;intro w2 r2 a4 hb hz a5 m hs;have n:=Lib.hid m;clear m hb)
    . go_ret
      refine⟨_,rfl, ?_,by go_grown⟩;have z:=HU.out;have u2:=n.out;have t:=p.out;rw[b.out];unfold szq at*;go_light
      omega
    go_roundw
    case rel=>exact⟨k+1,_,by omega,by go_num,rfl,by omega,by omega,by
    show _=_;have z:=HT.out;have u2:=n.out;have t:=p.out;unfold szq at*;rw[z];omega,by go_grown⟩
    case measure=>simp[intOf];omega
  obtain rfl:k=l.length:=by omega
  go_wp2
  go_ret
  refine⟨_,rfl, ?_,c⟩;have t:=p.out;rw[zG] at t;rw[b.out];unfold szq;omega
theorem RA(w:E)(t:S D)(a:Yl)(left:Y)(u:rd w t a)(h0:0<=left)(h1:left<=1048576):Calls uN 44 #[.agg t.toArray,.int .i64 left] w (Fu w (GoD.size a) left):=by
 obtain⟨n,p,v⟩:=a;obtain⟨x,y,rfl,d,z,V,rfl,e,f⟩:=u;obtain⟨g,rfl⟩:=Bn (show _=1 from GoD.rd_len d);obtain⟨h,rfl⟩:=Bn (show _=1 from GoD.rd_len e);obtain⟨rfl,f⟩:=f;dsimp only[zM,zL] at*;have j:=Lib.hid d;clear d;have k:=Lib.hid e;clear e;clear f;have b:True:=trivial;have c:True:=trivial;have l:GoD.size (n,p,v)=(GoD.size n+(GoD.size p+0)):=rfl;have q:=Lib.hid l;clear l;go_enter func44,ntmps44
 go_wp2_with (first | (go_at_call 95;have tk:=b;clear b;refine Vi (w:=w) (Qel _ g n _ (Yv j.out (by go_grown)) (by omega) (by omega)) (by go_grown) ?_;intro w1 r1 hB hb hz i m hs;have r:=Lib.hid m;clear m;(try simp only[zSz] at i);have c0:=λo=>Ax hb (w.heap.size) o (by go_size);clear hb) | (go_at_call 96;have tk:=c;clear c;refine Vi (w:=w) (Qi5 _ h p _ (Yv k.out (by go_grown)) (by omega) (by omega)) (by go_grown) ?_;intro w2 r2 hB hb hz i m hs;have s:=Lib.hid m;clear m;(try simp only[zSz] at i);have c0:=λo=>Ax hb (w.heap.size) o (by go_size);clear hb))
 all_goals
  go_ret
  refine⟨_,rfl, ?_,by go_grown⟩;rw[q.out];unfold szq
  (try have u1:=r.out)
  (try have u2:=s.out)
  (try unfold szq at*)
  go_light
  omega
theorem Qpq(w:E)(m:S D)(a:Zo)(left:Y)(p:rd w m a)(s:0<=left)(t:left<=1048576):Calls uN 97 #[.agg m.toArray,.int .i64 left] w (Fu w (GoD.size a) left):=by
 obtain⟨h,i⟩:=a;obtain⟨q,r,rfl,b,d⟩:=p;obtain⟨rfl,b⟩:=b;obtain⟨e,rfl⟩:=Bn (show _=1 from GoD.rd_len d);dsimp only[zM,zL] at*;unfold A at b;have b:h.size<=9223372036854775807:=by omega
 have f:=Lib.hid d;clear d;have c:True:=trivial;have g:GoD.size (h,i)=(h.size+GoD.size i):=rfl;have j:=Lib.hid g;clear g;go_enter func97,ntmps97
 go_wp2_with (first | (go_at_call 143;have u:=c;clear c;refine Vi (w:=w) (Qi2 _ e i _ (Yv f.out (by go_grown)) (by omega) (by omega)) (by go_grown) ?_;intro v x y hb z k n V;have l:=Lib.hid n;clear n;(try simp only[zSz] at k);have c0:=λo=>Ax hb (w.heap.size) o (by go_size);clear hb))
 all_goals
  go_ret
  refine⟨_,rfl, ?_,by go_grown⟩;rw[j.out];unfold szq
  (try have u1:=l.out)
  (try unfold szq at*)
  go_light
  omega
theorem Qc0(w:E)(v:D)(l:S Zo)(left:Y)(V:rd w [v] l)(h0:0<=left)(h1:left<=1048576):Calls uN 45 #[v,.int .i64 left] w (Fu w (GoD.size l) left):=by
 obtain⟨oa,cap,s,hl,hm,c⟩:=V;obtain rfl:v=_:=by simpa using s
 clear s;have HE:=Lib.hid c;clear c;unfold A at hm;have a1:l.length<=9223372036854775807:=by omega
 have d:GoD.size l=l.length+(l.map GoD.size).sum:=rfl;have a:=Lib.hid d;clear d;by_cases t:left-l.length<0
 . go_enter func45,ntmps45
   go_wp2
   go_ret
   refine⟨_,rfl, ?_,Below.refl _ _⟩;rw[a.out];unfold szq;omega
 go_enter func45,ntmps45
 go_wp2
 go_loopw [1,5] (zI l left w) (λ_ i _=>l.length-(intOf i).toNat)
 case atStart=>exact⟨0,_,zK _,rfl,rfl,by omega,by omega,by show _=_;simp,Below.refl _ _⟩
 case round=>
  obtain⟨k,r,hk,rfl,rfl,a2,a3,n,j⟩:=hrel;by_cases o:k<l.length
  . have m:=zF o;obtain⟨u,y,ee,rfl,e,b,f⟩:=HE.out k _ m;have HT:=Lib.hid (Ga m);have HU:=Lib.hid (Ac m);clear m;generalize l[k]=x at*;obtain⟨x0,x1,rfl⟩:=CB (show _=2 from e);have p0:wr.cell? ⟨u,y+k*2,G⟩=T x0:=cBz j (b 0 _ rfl);have p1:wr.cell? ⟨u,y+k*2+1,G⟩=T x1:=cBz j (b 1 _ rfl);have p:=Lib.hid f;clear f b e;go_wp2_with (go_at_call 97;refine Vi (w:=w) (Qpq _ [x0,x1] x _ (Yv p.out j) (by omega) (by omega)) (by go_grown) ?_;intro w2 r2 a4 hb hz a5 g hs;have h:=Lib.hid g;clear g hb)
    . go_ret
      refine⟨_,rfl, ?_,by go_grown⟩;have z:=HU.out;have u2:=h.out;have q:=n.out;rw[a.out];unfold szq at*;go_light
      omega
    go_roundw
    case rel=>exact⟨k+1,_,by omega,by go_num,rfl,by omega,by omega,by
    show _=_;have z:=HT.out;have u2:=h.out;have q:=n.out;unfold szq at*;rw[z];omega,by go_grown⟩
    case measure=>simp[intOf];omega
  obtain rfl:k=l.length:=by omega
  go_wp2
  go_ret
  refine⟨_,rfl, ?_,j⟩;have q:=n.out;rw[zG] at q;rw[a.out];unfold szq;omega
theorem ZD(w:E)(v:D)(l:S Y)(left:Y)(g:rd w [v] l)(j:0<=left)(k:left<=1048576):Calls uN 15 #[v,.int .i64 left] w (Fu w (GoD.size l) left):=by
 obtain⟨oa,cap,f,m,h,a⟩:=g;obtain rfl:v=_:=by simpa using f
 clear f;have n:=Lib.hid a;clear a;unfold A at h;have i:l.length<=9223372036854775807:=by omega
 have b:GoD.size l=l.length+(l.map GoD.size).sum:=rfl;have d:=Lib.hid b;clear b;have c:(l.map GoD.size).sum=0:=Qa0 l (λ_=>rfl);have e:=Lib.hid c;clear c;go_enter func15,ntmps15
 go_wp2
 all_goals
  go_ret
  refine⟨_,rfl, ?_,by go_grown⟩;rw[d.out,e.out];unfold szq;go_light
  omega
theorem Qem(w:E)(m:S D)(a:Qo)(left:Y)(p:rd w m a)(s:0<=left)(t:left<=1048576):Calls uN 98 #[.agg m.toArray,.int .i64 left] w (Fu w (GoD.size a) left):=by
 obtain⟨h,i⟩:=a;obtain⟨q,r,rfl,b,d⟩:=p;obtain⟨rfl,b⟩:=b;obtain⟨e,rfl⟩:=Bn (show _=1 from GoD.rd_len d);dsimp only[zM,zL] at*;unfold A at b;have b:h.size<=9223372036854775807:=by omega
 have f:=Lib.hid d;clear d;have c:True:=trivial;have g:GoD.size (h,i)=(h.size+GoD.size i):=rfl;have j:=Lib.hid g;clear g;go_enter func98,ntmps98
 go_wp2_with (first | (go_at_call 15;have u:=c;clear c;refine Vi (w:=w) (ZD _ e i _ (Yv f.out (by go_grown)) (by omega) (by omega)) (by go_grown) ?_;intro v x y hb z k n V;have l:=Lib.hid n;clear n;(try simp only[zSz] at k);have c0:=λo=>Ax hb (w.heap.size) o (by go_size);clear hb))
 all_goals
  go_ret
  refine⟨_,rfl, ?_,by go_grown⟩;rw[j.out];unfold szq
  (try have u1:=l.out)
  (try unfold szq at*)
  go_light
  omega
theorem Qap(w:E)(v:D)(l:S Qo)(left:Y)(V:rd w [v] l)(h0:0<=left)(h1:left<=1048576):Calls uN 46 #[v,.int .i64 left] w (Fu w (GoD.size l) left):=by
 obtain⟨oa,cap,s,hl,hm,c⟩:=V;obtain rfl:v=_:=by simpa using s
 clear s;have HE:=Lib.hid c;clear c;unfold A at hm;have a1:l.length<=9223372036854775807:=by omega
 have d:GoD.size l=l.length+(l.map GoD.size).sum:=rfl;have a:=Lib.hid d;clear d;by_cases t:left-l.length<0
 . go_enter func46,ntmps46
   go_wp2
   go_ret
   refine⟨_,rfl, ?_,Below.refl _ _⟩;rw[a.out];unfold szq;omega
 go_enter func46,ntmps46
 go_wp2
 go_loopw [1,5] (zI l left w) (λ_ i _=>l.length-(intOf i).toNat)
 case atStart=>exact⟨0,_,zK _,rfl,rfl,by omega,by omega,by show _=_;simp,Below.refl _ _⟩
 case round=>
  obtain⟨k,r,hk,rfl,rfl,a2,a3,n,j⟩:=hrel;by_cases o:k<l.length
  . have m:=zF o;obtain⟨u,y,ee,rfl,e,b,f⟩:=HE.out k _ m;have HT:=Lib.hid (Ga m);have HU:=Lib.hid (Ac m);clear m;generalize l[k]=x at*;obtain⟨x0,x1,rfl⟩:=CB (show _=2 from e);have p0:wr.cell? ⟨u,y+k*2,G⟩=T x0:=cBz j (b 0 _ rfl);have p1:wr.cell? ⟨u,y+k*2+1,G⟩=T x1:=cBz j (b 1 _ rfl);have p:=Lib.hid f;clear f b e;go_wp2_with (go_at_call 98;refine Vi (w:=w) (Qem _ [x0,x1] x _ (Yv p.out j) (by omega) (by omega)) (by go_grown) ?_;intro w2 r2 a4 hb hz a5 g hs;have h:=Lib.hid g;clear g hb)
    . go_ret
      refine⟨_,rfl, ?_,by go_grown⟩;have z:=HU.out;have u2:=h.out;have q:=n.out;rw[a.out];unfold szq at*;go_light
      omega
    go_roundw
    case rel=>exact⟨k+1,_,by omega,by go_num,rfl,by omega,by omega,by
    show _=_;have z:=HT.out;have u2:=h.out;have q:=n.out;unfold szq at*;rw[z];omega,by go_grown⟩
    case measure=>simp[intOf];omega
  obtain rfl:k=l.length:=by omega
  go_wp2
  go_ret
  refine⟨_,rfl, ?_,j⟩;have q:=n.out;rw[zG] at q;rw[a.out];unfold szq;omega
theorem Qaq(w:E)(ca:S D)(a:Wq)(left:Y)(ha:rd w ca a)(h0:0<=left)(h1:left<=1048576):Calls uN 11 #[.agg ca.toArray,.int .i64 left] w (Fu w (GoD.size a) left):=by
 obtain⟨t,u,v⟩:=a;obtain⟨a4,a5,rfl,g,a6,a7,rfl,h,i⟩:=ha;obtain⟨j,k,l,rfl⟩:=Qoo (show _=3 from GoD.rd_len g);obtain⟨m,rfl⟩:=Bn (show _=1 from GoD.rd_len h);obtain⟨n,rfl⟩:=Bn (show _=1 from GoD.rd_len i);dsimp only[zM,zL] at*;have p:=Lib.hid g;clear g;have q:=Lib.hid h;clear h;have r:=Lib.hid i;clear i;have c:True:=trivial;have d:True:=trivial;have e:True:=trivial;have s:GoD.size (t,u,v)=(GoD.size t+(GoD.size u+GoD.size v)):=rfl;have x:=Lib.hid s;clear s;go_enter func11,ntmps11
 go_wp2_with (first | (go_at_call 44;have tk:=c;clear c;refine Vi (w:=w) (RA _ [j,k,l] t _ (Yv p.out (by go_grown)) (by omega) (by omega)) (by go_grown) ?_;intro w1 r1 hB hb hz b f hs;have y:=Lib.hid f;clear f;(try simp only[zSz] at b);have c0:=λo=>Ax hb (w.heap.size) o (by go_size);clear hb) | (go_at_call 45;have tk:=d;clear d;refine Vi (w:=w) (Qc0 _ m u _ (Yv q.out (by go_grown)) (by omega) (by omega)) (by go_grown) ?_;intro w2 r2 hB hb hz b f hs;have z:=Lib.hid f;clear f;(try simp only[zSz] at b);have c0:=λo=>Ax hb (w.heap.size) o (by go_size);clear hb) | (go_at_call 46;have tk:=e;clear e;refine Vi (w:=w) (Qap _ n v _ (Yv r.out (by go_grown)) (by omega) (by omega)) (by go_grown) ?_;intro w3 r3 hB hb hz b f hs;have V:=Lib.hid f;clear f;(try simp only[zSz] at b);have c0:=λo=>Ax hb (w.heap.size) o (by go_size);clear hb))
 all_goals
  go_ret
  refine⟨_,rfl, ?_,by go_grown⟩;rw[x.out];unfold szq
  (try have u1:=y.out)
  (try have u2:=z.out)
  (try have u3:=V.out)
  (try unfold szq at*)
  go_light
  omega
theorem Qi6(w:E)(t:S D)(a:Kn)(left:Y)(u:rd w t a)(h0:0<=left)(h1:left<=1048576):Calls uN 144 #[.agg t.toArray,.int .i64 left] w (Fu w (GoD.size a) left):=by
 obtain⟨v,n,p⟩:=a;obtain⟨x,y,rfl,d,z,V,rfl,e,f⟩:=u;obtain⟨rfl,d⟩:=d;obtain⟨g,rfl⟩:=Bn (show _=1 from GoD.rd_len e);obtain⟨h,rfl⟩:=Bn (show _=1 from GoD.rd_len f);dsimp only[zM,zL] at*;clear d;have j:=Lib.hid e;clear e;have k:=Lib.hid f;clear f;have b:True:=trivial;have c:True:=trivial;have l:GoD.size (v,n,p)=(0+(GoD.size n+GoD.size p)):=rfl;have q:=Lib.hid l;clear l;go_enter func144,ntmps144
 go_wp2_with (first | (go_at_call 15;have tk:=b;clear b;refine Vi (w:=w) (ZD _ g n _ (Yv j.out (by go_grown)) (by omega) (by omega)) (by go_grown) ?_;intro w1 r1 hB hb hz i m hs;have r:=Lib.hid m;clear m;(try simp only[zSz] at i);have c0:=λo=>Ax hb (w.heap.size) o (by go_size);clear hb) | (go_at_call 15;have tk:=c;clear c;refine Vi (w:=w) (ZD _ h p _ (Yv k.out (by go_grown)) (by omega) (by omega)) (by go_grown) ?_;intro w2 r2 hB hb hz i m hs;have s:=Lib.hid m;clear m;(try simp only[zSz] at i);have c0:=λo=>Ax hb (w.heap.size) o (by go_size);clear hb))
 all_goals
  go_ret
  refine⟨_,rfl, ?_,by go_grown⟩;rw[q.out];unfold szq
  (try have u1:=r.out)
  (try have u2:=s.out)
  (try unfold szq at*)
  go_light
  omega
theorem RB(w:E)(u:S D)(a:Qw)(left:Y)(v:rd w u a)(h0:0<=left)(h1:left<=1048576):Calls uN 99 #[.agg u.toArray,.int .i64 left] w (Fu w (GoD.size a) left):=by
 obtain⟨p,q⟩:=a;obtain⟨x,y,rfl,d,e⟩:=v;obtain⟨f,g,h,rfl⟩:=Qoo (show _=3 from GoD.rd_len d);obtain⟨i,rfl⟩:=Bn (show _=1 from GoD.rd_len e);dsimp only[zM,zL] at*;have k:=Lib.hid d;clear d;have l:=Lib.hid e;clear e;have b:True:=trivial;have c:True:=trivial;have m:GoD.size (p,q)=(GoD.size p+GoD.size q):=rfl;have r:=Lib.hid m;clear m;go_enter func99,ntmps99
 go_wp2_with (first | (go_at_call 44;have z:=b;clear b;refine Vi (w:=w) (RA _ [f,g,h] p _ (Yv k.out (by go_grown)) (by omega) (by omega)) (by go_grown) ?_;intro w1 r1 V hb hz j n hs;have s:=Lib.hid n;clear n;(try simp only[zSz] at j);have c0:=λo=>Ax hb (w.heap.size) o (by go_size);clear hb) | (go_at_call 45;have z:=c;clear c;refine Vi (w:=w) (Qc0 _ i q _ (Yv l.out (by go_grown)) (by omega) (by omega)) (by go_grown) ?_;intro w2 r2 V hb hz j n hs;have t:=Lib.hid n;clear n;(try simp only[zSz] at j);have c0:=λo=>Ax hb (w.heap.size) o (by go_size);clear hb))
 all_goals
  go_ret
  refine⟨_,rfl, ?_,by go_grown⟩;rw[r.out];unfold szq
  (try have u1:=s.out)
  (try have u2:=t.out)
  (try unfold szq at*)
  go_light
  omega
theorem Qar(w:E)(q:S D)(a:Ya)(left:Y)(s:rd w q a)(V:0<=left)(h1:left<=1048576):Calls uN 47 #[.agg q.toArray,.int .i64 left] w (Fu w (GoD.size a) left):=by
 obtain⟨t,l,u⟩:=a;obtain⟨v,x,rfl,c,y,z,rfl,d,e⟩:=s;obtain⟨rfl,c⟩:=c;obtain⟨f,g,h,i,rfl⟩:=Qsu (show _=4 from GoD.rd_len d);obtain⟨rfl,e⟩:=e;dsimp only[zM,zL] at*;clear c;have j:=Lib.hid d;clear d;clear e;have b:True:=trivial;have k:GoD.size (t,l,u)=(0+(GoD.size l+0)):=rfl;have m:=Lib.hid k;clear k;go_enter func47,ntmps47
 go_wp2_with (first | (go_at_call 99;have tk:=b;clear b;refine Vi (w:=w) (RB _ [f,g,h,i] l _ (Yv j.out (by go_grown)) (by omega) (by omega)) (by go_grown) ?_;intro w1 r1 hB hb hz n r hs;have p:=Lib.hid r;clear r;(try simp only[zSz] at n);have c0:=λo=>Ax hb (w.heap.size) o (by go_size);clear hb))
 all_goals
  go_ret
  refine⟨_,rfl, ?_,by go_grown⟩;rw[m.out];unfold szq
  (try have u1:=p.out)
  (try unfold szq at*)
  go_light
  omega
theorem Qen(w:E)(v:D)(l:S Kn)(left:Y)(V:rd w [v] l)(h0:0<=left)(h1:left<=1048576):Calls uN 100 #[v,.int .i64 left] w (Fu w (GoD.size l) left):=by
 obtain⟨oa,cap,u,hl,hm,c⟩:=V;obtain rfl:v=_:=by simpa using u
 clear u;have HE:=Lib.hid c;clear c;unfold A at hm;have a1:l.length<=9223372036854775807:=by omega
 have d:GoD.size l=l.length+(l.map GoD.size).sum:=rfl;have b:=Lib.hid d;clear d;by_cases y:left-l.length<0
 . go_enter func100,ntmps100
   go_wp2
   go_ret
   refine⟨_,rfl, ?_,Below.refl _ _⟩;rw[b.out];unfold szq;omega
 go_enter func100,ntmps100
 go_wp2
 go_loopw [1,5] (zI l left w) (λ_ i _=>l.length-(intOf i).toNat)
 case atStart=>exact⟨0,_,zK _,rfl,rfl,by omega,by omega,by show _=_;simp,Below.refl _ _⟩
 case round=>
  obtain⟨k,r,hk,rfl,rfl,a2,a3,n,e⟩:=hrel;by_cases o:k<l.length
  . have m:=zF o;obtain⟨p,q,ee,rfl,f,a,g⟩:=HE.out k _ m;have HT:=Lib.hid (Ga m);have HU:=Lib.hid (Ac m);clear m;generalize l[k]=x at*;obtain⟨x0,x1,x2,rfl⟩:=Qoo (show _=3 from f);have p0:wr.cell? ⟨p,q+k*3,G⟩=T x0:=cBz e (a 0 _ rfl);have p1:wr.cell? ⟨p,q+k*3+1,G⟩=T x1:=cBz e (a 1 _ rfl);have p2:wr.cell? ⟨p,q+k*3+2,G⟩=T x2:=cBz e (a 2 _ rfl);have s:=Lib.hid g;clear g a f;go_wp2_with (go_at_call 144;refine Vi (w:=w) (Qi6 _ [x0,x1,x2] x _ (Yv s.out e) (by omega) (by omega)) (by go_grown) ?_;intro w2 r2 a4 hb hz a5 h hs;have j:=Lib.hid h;clear h hb)
    . go_ret
      refine⟨_,rfl, ?_,by go_grown⟩;have z:=HU.out;have u2:=j.out;have t:=n.out;rw[b.out];unfold szq at*;go_light
      omega
    go_roundw
    case rel=>exact⟨k+1,_,by omega,by go_num,rfl,by omega,by omega,by
    show _=_;have z:=HT.out;have u2:=j.out;have t:=n.out;unfold szq at*;rw[z];omega,by go_grown⟩
    case measure=>simp[intOf];omega
  obtain rfl:k=l.length:=by omega
  go_wp2
  go_ret
  refine⟨_,rfl, ?_,e⟩;have t:=n.out;rw[zG] at t;rw[b.out];unfold szq;omega
theorem Qi7(w:E)(v:S D)(a:Zz)(left:Y)(x:rd w v a)(h0:0<=left)(h1:left<=1048576):Calls uN 48 #[.agg v.toArray,.int .i64 left] w (Fu w (GoD.size a) left):=by
 obtain⟨y,p,q,r⟩:=a;obtain⟨z,V,rfl,e,a5,a6,rfl,b,a7,a8,rfl,f,g⟩:=x;obtain⟨rfl,e⟩:=e;obtain⟨rfl,b⟩:=b;obtain⟨h,rfl⟩:=Bn (show _=1 from GoD.rd_len f);obtain⟨i,rfl⟩:=Bn (show _=1 from GoD.rd_len g);dsimp only[zM,zL] at*;clear e;unfold A at b;have b:p.size<=9223372036854775807:=by omega
 have k:=Lib.hid f;clear f;have l:=Lib.hid g;clear g;have c:True:=trivial;have d:True:=trivial;have m:GoD.size (y,p,q,r)=(0+(p.size+(GoD.size q+GoD.size r))):=rfl;have s:=Lib.hid m;clear m;go_enter func48,ntmps48
 go_wp2_with (first | (go_at_call 15;have tk:=c;clear c;refine Vi (w:=w) (ZD _ h q _ (Yv k.out (by go_grown)) (by omega) (by omega)) (by go_grown) ?_;intro w1 r1 hB hb hz j n hs;have t:=Lib.hid n;clear n;(try simp only[zSz] at j);have c0:=λo=>Ax hb (w.heap.size) o (by go_size);clear hb) | (go_at_call 100;have tk:=d;clear d;refine Vi (w:=w) (Qen _ i r _ (Yv l.out (by go_grown)) (by omega) (by omega)) (by go_grown) ?_;intro w2 r2 hB hb hz j n hs;have u:=Lib.hid n;clear n;(try simp only[zSz] at j);have c0:=λo=>Ax hb (w.heap.size) o (by go_size);clear hb))
 all_goals
  go_ret
  refine⟨_,rfl, ?_,by go_grown⟩;rw[s.out];unfold szq
  (try have u1:=t.out)
  (try have u2:=u.out)
  (try unfold szq at*)
  go_light
  omega
theorem Qeo(w:E)(v:D)(l:S Zz)(left:Y)(V:rd w [v] l)(h0:0<=left)(h1:left<=1048576):Calls uN 14 #[v,.int .i64 left] w (Fu w (GoD.size l) left):=by
 obtain⟨oa,cap,u,hl,hm,d⟩:=V;obtain rfl:v=_:=by simpa using u
 clear u;have HE:=Lib.hid d;clear d;unfold A at hm;have a1:l.length<=9223372036854775807:=by omega
 have e:GoD.size l=l.length+(l.map GoD.size).sum:=rfl;have b:=Lib.hid e;clear e;by_cases y:left-l.length<0
 . go_enter func14,ntmps14
   go_wp2
   go_ret
   refine⟨_,rfl, ?_,Below.refl _ _⟩;rw[b.out];unfold szq;omega
 go_enter func14,ntmps14
 go_wp2
 go_loopw [1,5] (zI l left w) (λ_ i _=>l.length-(intOf i).toNat)
 case atStart=>exact⟨0,_,zK _,rfl,rfl,by omega,by omega,by show _=_;simp,Below.refl _ _⟩
 case round=>
  obtain⟨k,r,hk,rfl,rfl,a2,a3,p,c⟩:=hrel;by_cases q:k<l.length
  . have m:=zF q;obtain⟨n,o,ee,rfl,f,a,g⟩:=HE.out k _ m;have HT:=Lib.hid (Ga m);have HU:=Lib.hid (Ac m);clear m;generalize l[k]=x at*;obtain⟨x0,x1,x2,x3,rfl⟩:=Qsu (show _=4 from f);have p0:wr.cell? ⟨n,o+k*4,G⟩=T x0:=cBz c (a 0 _ rfl);have p1:wr.cell? ⟨n,o+k*4+1,G⟩=T x1:=cBz c (a 1 _ rfl);have p2:wr.cell? ⟨n,o+k*4+2,G⟩=T x2:=cBz c (a 2 _ rfl);have p3:wr.cell? ⟨n,o+k*4+3,G⟩=T x3:=cBz c (a 3 _ rfl);have s:=Lib.hid g;clear g a f;go_wp2_with (go_at_call 48;refine Vi (w:=w) (Qi7 _ [x0,x1,x2,x3] x _ (Yv s.out c) (by omega) (by omega)) (by go_grown) ?_;intro w2 r2 a4 hb hz a5 h hs;have j:=Lib.hid h;clear h hb)
    . go_ret
      refine⟨_,rfl, ?_,by go_grown⟩;have z:=HU.out;have u2:=j.out;have t:=p.out;rw[b.out];unfold szq at*;go_light
      omega
    go_roundw
    case rel=>exact⟨k+1,_,by omega,by go_num,rfl,by omega,by omega,by
    show _=_;have z:=HT.out;have u2:=j.out;have t:=p.out;unfold szq at*;rw[z];omega,by go_grown⟩
    case measure=>simp[intOf];omega
  obtain rfl:k=l.length:=by omega
  go_wp2
  go_ret
  refine⟨_,rfl, ?_,c⟩;have t:=p.out;rw[zG] at t;rw[b.out];unfold szq;omega
theorem Ql3(w:E)(h:S D)(a:N6)(left:Y)(i:rd w h a)(l:0<=left)(m:left<=1048576):Calls uN 12 #[.agg h.toArray,.int .i64 left] w (Fu w (GoD.size a) left):=by
 obtain⟨e,f⟩:=a;obtain⟨j,k,rfl,b,c⟩:=i;obtain⟨rfl,b⟩:=b;obtain⟨rfl,c⟩:=c;dsimp only[zM,zL] at*;unfold A at b;have b:e.size<=9223372036854775807:=by omega
 unfold A at c;have c:f.size<=9223372036854775807:=by omega
 have d:GoD.size (e,f)=(e.size+f.size):=rfl;have g:=Lib.hid d;clear d;go_enter func12,ntmps12
 go_wp2
 all_goals
  go_ret
  refine⟨_,rfl, ?_,by go_grown⟩;rw[g.out];unfold szq
  (try unfold szq at*)
  go_light
  omega
theorem RC(w:E)(v:D)(l:S Ya)(left:Y)(V:rd w [v] l)(h0:0<=left)(h1:left<=1048576):Calls uN 13 #[v,.int .i64 left] w (Fu w (GoD.size l) left):=by
 obtain⟨oa,cap,u,hl,hm,f⟩:=V;obtain rfl:v=_:=by simpa using u
 clear u;have HE:=Lib.hid f;clear f;unfold A at hm;have a1:l.length<=9223372036854775807:=by omega
 have g:GoD.size l=l.length+(l.map GoD.size).sum:=rfl;have c:=Lib.hid g;clear g;by_cases y:left-l.length<0
 . go_enter func13,ntmps13
   go_wp2
   go_ret
   refine⟨_,rfl, ?_,Below.refl _ _⟩;rw[c.out];unfold szq;omega
 go_enter func13,ntmps13
 go_wp2
 go_loopw [1,5] (zI l left w) (λ_ i _=>l.length-(intOf i).toNat)
 case atStart=>exact⟨0,_,zK _,rfl,rfl,by omega,by omega,by show _=_;simp,Below.refl _ _⟩
 case round=>
  obtain⟨k,r,hk,rfl,rfl,a2,a3,p,b⟩:=hrel;by_cases q:k<l.length
  . have o:=zF q;obtain⟨d,e,ee,rfl,h,a,j⟩:=HE.out k _ o;have HT:=Lib.hid (Ga o);have HU:=Lib.hid (Ac o);clear o;generalize l[k]=x at*;obtain⟨x0,x1,x2,x3,x4,x5,rfl⟩:=Qtl (show _=6 from h);have p0:wr.cell? ⟨d,e+k*6,G⟩=T x0:=cBz b (a 0 _ rfl);have p1:wr.cell? ⟨d,e+k*6+1,G⟩=T x1:=cBz b (a 1 _ rfl);have p2:wr.cell? ⟨d,e+k*6+2,G⟩=T x2:=cBz b (a 2 _ rfl);have p3:wr.cell? ⟨d,e+k*6+3,G⟩=T x3:=cBz b (a 3 _ rfl);have p4:wr.cell? ⟨d,e+k*6+4,G⟩=T x4:=cBz b (a 4 _ rfl);have p5:wr.cell? ⟨d,e+k*6+5,G⟩=T x5:=cBz b (a 5 _ rfl);have s:=Lib.hid j;clear j a h;go_wp2_with (go_at_call 47;refine Vi (w:=w) (Qar _ [x0,x1,x2,x3,x4,x5] x _ (Yv s.out b) (by omega) (by omega)) (by go_grown) ?_;intro w2 r2 a4 hb hz a5 m hs;have n:=Lib.hid m;clear m hb)
    . go_ret
      refine⟨_,rfl, ?_,by go_grown⟩;have z:=HU.out;have u2:=n.out;have t:=p.out;rw[c.out];unfold szq at*;go_light
      omega
    go_roundw
    case rel=>exact⟨k+1,_,by omega,by go_num,rfl,by omega,by omega,by
    show _=_;have z:=HT.out;have u2:=n.out;have t:=p.out;unfold szq at*;rw[z];omega,by go_grown⟩
    case measure=>simp[intOf];omega
  obtain rfl:k=l.length:=by omega
  go_wp2
  go_ret
  refine⟨_,rfl, ?_,b⟩;have t:=p.out;rw[zG] at t;rw[c.out];unfold szq;omega
theorem FC(w:E)(ca:S D)(a:Jy)(left:Y)(ha:rd w ca a)(h0:0<=left)(h1:left<=1048576):Calls uN 4 #[.agg ca.toArray,.int .i64 left] w (Fu w (GoD.size a) left):=by
 obtain⟨a1,a2,a3,a4,a5,a6⟩:=a;obtain⟨ak,al,rfl,i,am,an,rfl,j,ao,ap,rfl,k,aq,ar,rfl,l,au,av,rfl,m,n⟩:=ha;obtain⟨p,q,r,s,t,rfl⟩:=Qsa (show _=5 from GoD.rd_len i);obtain⟨u,v,rfl⟩:=CB (show _=2 from GoD.rd_len j);obtain⟨rfl,k⟩:=k;obtain⟨x,rfl⟩:=Bn (show _=1 from GoD.rd_len l);obtain⟨y,rfl⟩:=Bn (show _=1 from GoD.rd_len m);obtain⟨z,rfl⟩:=Bn (show _=1 from GoD.rd_len n);dsimp only[zM,zL] at*;have V:=Lib.hid i;clear i;have a7:=Lib.hid j;clear j;clear k;have a8:=Lib.hid l;clear l;have a9:=Lib.hid m;clear m;have aa:=Lib.hid n;clear n;have d:True:=trivial;have e:True:=trivial;have f:True:=trivial;have g:True:=trivial;have h:True:=trivial;have ab:GoD.size (a1,a2,a3,a4,a5,a6)=(GoD.size a1+(GoD.size a2+(0+(GoD.size a4+(GoD.size a5+GoD.size a6))))):=rfl;have ad:=Lib.hid ab;clear ab;go_enter func4,ntmps4
 go_wp2_with (first | (go_at_call 11;have tk:=d;clear d;refine Vi (w:=w) (Qaq _ [p,q,r,s,t] a1 _ (Yv V.out (by go_grown)) (by omega) (by omega)) (by go_grown) ?_;intro w1 r1 hB hb hz b c hs;have ae:=Lib.hid c;clear c;(try simp only[zSz] at b);have c0:=λo=>Ax hb (w.heap.size) o (by go_size);clear hb) | (go_at_call 12;have tk:=e;clear e;refine Vi (w:=w) (Ql3 _ [u,v] a2 _ (Yv a7.out (by go_grown)) (by omega) (by omega)) (by go_grown) ?_;intro w2 r2 hB hb hz b c hs;have af:=Lib.hid c;clear c;(try simp only[zSz] at b);have c0:=λo=>Ax hb (w.heap.size) o (by go_size);clear hb) | (go_at_call 13;have tk:=f;clear f;refine Vi (w:=w) (RC _ x a4 _ (Yv a8.out (by go_grown)) (by omega) (by omega)) (by go_grown) ?_;intro w3 r3 hB hb hz b c hs;have ah:=Lib.hid c;clear c;(try simp only[zSz] at b);have c0:=λo=>Ax hb (w.heap.size) o (by go_size);clear hb) | (go_at_call 14;have tk:=g;clear g;refine Vi (w:=w) (Qeo _ y a5 _ (Yv a9.out (by go_grown)) (by omega) (by omega)) (by go_grown) ?_;intro w4 r4 hB hb hz b c hs;have ai:=Lib.hid c;clear c;(try simp only[zSz] at b);have c0:=λo=>Ax hb (w.heap.size) o (by go_size);clear hb) | (go_at_call 15;have tk:=h;clear h;refine Vi (w:=w) (ZD _ z a6 _ (Yv aa.out (by go_grown)) (by omega) (by omega)) (by go_grown) ?_;intro w5 r5 hB hb hz b c hs;have aj:=Lib.hid c;clear c;(try simp only[zSz] at b);have c0:=λo=>Ax hb (w.heap.size) o (by go_size);clear hb))
 all_goals
  go_ret
  refine⟨_,rfl, ?_,by go_grown⟩;rw[ad.out];unfold szq
  (try have u1:=ae.out)
  (try have u2:=af.out)
  (try have u3:=ah.out)
  (try have u4:=ai.out)
  (try have u5:=aj.out)
  (try unfold szq at*)
  go_light
  omega
end
section
open Go.RowKit
open GoE (enc)
section
variable {α:Type} [GoE α] {P:uJ} {tt:S (W×TI)} {f g t6:W} {fn:Func} {i0 i1 i2 i3 i4 i5 i6 i7 i8 B B1:W} {O0 O1 O2 O3 O4 O5 O6 O7 O8:Array Oper}
theorem eqS(c:Nq P tt=H)(n:P.follows .mixedOrders=H)(q:P.funcs[f]? =T fn)(j:uA)(o:α->Ob)(r:∀(w0:Base) [GoodAt P w0] (a:α),(o a).holds (Zp P w0) (V0 P w0))(l:S α)
 (t:fn.body=T (.seq (.region i0 O0 I) (.seq (.seq (.region i1 O1 I) (.cond (.tmp 10) (.seq (.region i2 O2 I) .ret) .skip)) (.seq (.seq (.region i3 O3 I) (.block B (.loop (.seq (.seq (.region i4 O4 I) (.cond (.tmp 14) .skip (.exit B))) (.seq (.block B1 (.seq (.region i6 O6 H) (.cond (.tmp t6) (.seq (.region i7 O7 I) .ret) .skip))) (.region i5 O5 I)))))) (.seq (.region i8 O8 I) .ret)))):=by exact rfl)
 (d:Fr P f:=by unfold Fr;kernel_rfl) (u:2<=fn.ntmps:=by exact Nat.le_of_ble_eq_true rfl)
 (v:Wr tt fn.ntmps [] O0.toList [0,1,4] [] (ZQ [.h l,.h l])=T (⟨[(0,.h l),(1,.h l),(4,.b I)], []⟩, []):=by kernel_rfl)
 (w:Wr tt fn.ntmps [(1,.val (.i (l.length:Y))),(3,.val (.i (l.length:Y))),(4,.val (.b I))] O1.toList [0,1,4,10] [] ⟨[(0,.h l),(1,.h l),(4,.b I)], []⟩=T (⟨[(0,.h l),(1,.h l),(4,.b I),(10,.b I)], []⟩, [.eq (.i ((eL l).length:Y)) (.i (l.length:Y)),.eq (.i ((eL l).length:Y)) (.i (l.length:Y)),.eq (.b ((l.length:Y) !=(l.length:Y))) (.b I)]):=by kernel_rfl)
 (x:Wr tt fn.ntmps [] O3.toList [5,0,1,4] [] ⟨[(0,.h l),(1,.h l),(4,.b I),(10,.b I)], []⟩=T (⟨[(5,.i 0),(0,.h l),(1,.h l),(4,.b I)], []⟩, []):=by kernel_rfl)
 (m:∀(k:W) (b:uA),Wr tt fn.ntmps [(2,.val (.i (l.length:Y))),(3,.val (.b b))] O4.toList [5,0,1,4,14] [] ⟨[(5,.i (k:Y)),(0,.h l),(1,.h l),(4,.b I)], []⟩=T (⟨[(5,.i (k:Y)),(0,.h l),(1,.h l),(4,.b I),(14,.b b)], []⟩, [.eq (.i ((eL l).length:Y)) (.i (l.length:Y)),.eq (.b (decide ((k:Y)<(l.length:Y)))) (.b b)]):=by intro k b;kernel_rfl)
 (z:∀(k:W) (a:α),Ey tt fn.ntmps [(2,.row (enc a)),(6,.row (enc a)),(8,.val (.b j))] O6.toList [5,0,1,4,t6] [] ⟨[(5,.i (k:Y)),(0,.h l),(1,.h l),(4,.b I),(14,.b H)], []⟩=T (⟨[(5,.i (k:Y)),(0,.h l),(1,.h l),(4,.b I),(t6,.b I)], []⟩, [.elem (eL l) (k:Y) (enc a),.elem (eL l) (k:Y) (enc a),o a]):=by intro k a;kernel_rfl)
 (V:∀k:W,get [(5,AV.i (k:Y)),(0,.h l),(1,.h l),(4,.b I),(t6,.b I)] t6=T (.b I):=by intro k;kernel_rfl)
 (h5:∀k:W,Wr tt fn.ntmps [(1,.val (.i ((k+1:W):Y)))] O5.toList [5,0,1,4] [] ⟨[(5,.i (k:Y)),(0,.h l),(1,.h l),(4,.b I),(t6,.b I)], []⟩=T (⟨[(5,.i ((k+1:W):Y)),(0,.h l),(1,.h l),(4,.b I)], []⟩, [.eq (.i (IntKind.i64.wrap ((k:Y)+1))) (.i ((k+1:W):Y))]):=by intro k;kernel_rfl)
 (h8:Wr tt fn.ntmps [] O8.toList [4] [] ⟨[(4,.b I)], []⟩=T (⟨[(4,.b H)], []⟩, []):=by kernel_rfl)
 (hr:Ml tt fn.results.toList ⟨[(4,.b H)], []⟩=T (.b H):=by kernel_rfl):ACalls P f [.h l,.h l] (.b H):=by
 refine QW c q t d u λw0 F0 hG=>?_
 refine Qa (Jr c [] _ _ v p0 ?_);refine Qa (Qa (Jr c _ _ _ w (pl 1 l (pl 3 l (pf 4 (by simp) p0))) ?_));refine ckF (Qd ?_);refine Qa (Qa (Jr c [] _ _ x p0 ?_));refine wT 0 0 .sh l (λhw hl=>?_) rfl;refine S7 (R:=uA) (τ:=uD) (λ_ _ (_:uD)=> .next ()) (λ_ _=>()) l () (λk _=> [(5,.i (k:Y))]) [5] (λ_=> []) [0,1,5] (Qe rfl) (λk s e g=>?_) (λk s e g=>?_) (λy _=>?_)
 . obtain⟨a,h⟩:=Xo (l:=l) (i:=k) e;refine Qa (Qa (Jr c _ _ _ (m k H) (pl 2 l (pt 3 (uH (p:=(k:Y)<(l.length:Y)) (by omega)) p0)) ?_));refine ckT (Qd ?_);refine Qa (Qp (Qa (VX c n _ _ _ (z k a) (pn 2 h (pn 6 h (po 8 (.val (.b j)) (px (r w0 a) p0)))) ?_)));refine XD (V k) (Qd ?_);refine Jr c _ _ _ (h5 k) (pe 1 (G6 (UO k (by omega))) p0) ?_;exact⟨(),Qe rfl,Qr h rfl g⟩
 . refine Qa (Qa (Jr c _ _ _ (m k I) (pl 2 l (pf 3 (uG (p:=(k:Y)<(l.length:Y)) (by omega)) p0)) ?_));refine ckF (Xa ?_);show(bif yJ B B then _ else _:Prop);rw[Nat.beq_refl];exact⟨(),Qe rfl,Xq e rfl g⟩
 refine Qa (Jr c [] _ _ h8 p0 (Qc ?_));exact Ir [] hr rfl
def eqZ(a:α):St:=⟨[(2,.p 2 0),(3,.p 3 0),(4,.b I)], [(2,(enc a).map shC),(3,(enc a).map shC)]⟩
variable {N:W} {w0:Base} {F0:W->Prop} {c y:Code} {rs:S ResultVar} {t:W}
theorem eqA(b:Nq P tt=H)(e:P.funcs[f]? =T fn)(a:α)(k:∀(w0:Base) (F0:W->Prop) (_:GoodAt P w0),AWP P fn.ntmps w0 F0 c (Qe5 tt fn.results.toList (.b H)) (eqZ a))
 (g:fn.body=T (.seq (.region i0 O0 I) c):=by exact rfl) (d:Fr P f:=by unfold Fr;kernel_rfl) (h:2<=fn.ntmps:=by exact Nat.le_of_ble_eq_true rfl)
 (i:Wr tt fn.ntmps [] O0.toList [2,3,4] [2,3] (ZQ [Aj a,Aj a])=T (eqZ a, []):=by kernel_rfl):ACalls P f [Aj a,Aj a] (.b H):=
 QW b e g d h λw0 F0 j=>Qa (Jr b [] _ _ i p0 (k w0 F0 j))
def eqY(a:α)(t:W)(b:uA):St:=⟨[(2,.p 2 0),(3,.p 3 0),(4,.b I),(t,.b b)], [(2,(enc a).map shC),(3,(enc a).map shC)]⟩
theorem eqF(c:Nq P tt=H){a:α}{b:uA}{Q:Exit->St->Prop}(k:AWP P N w0 F0 y Q (eqZ a))(d:b=I:=by simp)
 (h:Wr tt N [(O1.size-1,.val (.b I))] O1.toList [2,3,4,t] [2,3] (eqZ a)=T (eqY a t I, [.eq (.b b) (.b I)]):=by kernel_rfl) (e:get (eqY a t I).tm t=T (.b I):=by kernel_rfl) (f:(eqY a t I).keep [2,3,4] [2,3]=eqZ a:=by kernel_rfl):AWP P N w0 F0 (.seq (.seq (.region i1 O1 I) (.cond (.tmp t) (.seq (.region i2 O2 I) .ret) .skip)) y) Q (eqZ a):=
 Qa (Qa (Jr c _ _ _ h (pf (O1.size-1) d p0) (XD e (Qd (Ex (UK _ _ f) k)))))
theorem eqG(b:Nq P tt=H){a:α}{v:AV}{Q:Exit->St->Prop}[GoodAt P w0](c:ACalls P g [v,v] (.b H))(k:AWP P N w0 F0 y Q (eqZ a))
 (h:Wr tt N [(O1.size-2,.val (.b H))] O1.toList [2,3,4,t] [2,3] (eqZ a)=T (eqY a t I, [.call g [v,v] (.b H)]):=by kernel_rfl) (d:get (eqY a t I).tm t=T (.b I):=by kernel_rfl) (e:(eqY a t I).keep [2,3,4] [2,3]=eqZ a:=by kernel_rfl):AWP P N w0 F0 (.seq (.seq (.region i1 O1 I) (.cond (.tmp t) (.seq (.region i2 O2 I) .ret) .skip)) y) Q (eqZ a):=
 Qa (Qa (Jr b _ _ _ h (pc (O1.size-2) c p0) (XD d (Qd (Ex (UK _ _ e) k)))))
theorem eqE(b:Nq P tt=H){a:α}(h:Wr tt N [] O1.toList [4] [] (eqZ a)=T (⟨[(4,.b H)], []⟩, []):=by kernel_rfl)(c:Ml tt rs ⟨[(4,.b H)], []⟩=T (.b H):=by kernel_rfl):AWP P N w0 F0 (.seq (.region i1 O1 I) .ret) (Qe5 tt rs (.b H)) (eqZ a):=
 Qa (Jr b [] _ _ h p0 (Qc (Ir [] c rfl)))
theorem eqI(b:Nq P tt=H){a:α}(x:Y){Q:Exit->St->Prop}(k:AWP P N w0 F0 y Q (eqZ a))
 (h:Wr tt N [(O1.size-1,.val (.b I))] O1.toList [2,3,4,t] [2,3] (eqZ a)=T (eqY a t I, [.eq (.b (x !=x)) (.b I)]):=by kernel_rfl) (c:get (eqY a t I).tm t=T (.b I):=by kernel_rfl) (d:(eqY a t I).keep [2,3,4] [2,3]=eqZ a:=by kernel_rfl):AWP P N w0 F0 (.seq (.seq (.region i1 O1 I) (.cond (.tmp t) (.seq (.region i2 O2 I) .ret) .skip)) y) Q (eqZ a):=eqF b k (by simp) h c d
theorem eqB(b:Nq P tt=H){a:α}(x:uA){Q:Exit->St->Prop}(k:AWP P N w0 F0 y Q (eqZ a))
 (h:Wr tt N [(O1.size-1,.val (.b I))] O1.toList [2,3,4,t] [2,3] (eqZ a)=T (eqY a t I, [.eq (.b (!(x==x))) (.b I)]):=by kernel_rfl) (c:get (eqY a t I).tm t=T (.b I):=by kernel_rfl) (d:(eqY a t I).keep [2,3,4] [2,3]=eqZ a:=by kernel_rfl):AWP P N w0 F0 (.seq (.seq (.region i1 O1 I) (.cond (.tmp t) (.seq (.region i2 O2 I) .ret) .skip)) y) Q (eqZ a):=eqF b k (by simp) h c d
theorem eqT(b:Nq P tt=H){a:α}(x:uE){Q:Exit->St->Prop}(k:AWP P N w0 F0 y Q (eqZ a))
 (h:Wr tt N [(O1.size-1,.val (.b I))] O1.toList [2,3,4,t] [2,3] (eqZ a)=T (eqY a t I, [.eq (.b (!(x.toList==x.toList))) (.b I)]):=by kernel_rfl) (c:get (eqY a t I).tm t=T (.b I):=by kernel_rfl) (d:(eqY a t I).keep [2,3,4] [2,3]=eqZ a:=by kernel_rfl):AWP P N w0 F0 (.seq (.seq (.region i1 O1 I) (.cond (.tmp t) (.seq (.region i2 O2 I) .ret) .skip)) y) Q (eqZ a):=eqF b k (by simp) h c d
def toM{β:Type}(l:S β)(d:β)(k:W):S β:=l.take k++yI (l.length-k) d
theorem Qnf{β:Type}(l:S β)(d:β){k:W}(h:k<l.length):(toM l d k)[k]? =T d:=by
 unfold toM;rw[List.getElem?_append_right (by simp;omega),List.getElem?_replicate];simp;omega
theorem Qpr{β:Type}{l:S β}(d:β){k:W}{a:β}(h:l[k]? =T a):(toM l d k).set k a=toM l d (k+1):=by
 have b:k<l.length:=(List.getElem?_eq_some_iff.1 h).1;obtain⟨m,hm⟩:∃m,l.length-k=m+1:=⟨l.length-k-1,by omega⟩;unfold toM;rw[hm,show l.length-(k+1)=m by omega,List.replicate_succ,List.set_append_right _ _ (by simp;omega),List.take_add_one,h];simp[Nat.min_eq_left (Nat.le_of_lt b)]
theorem toS(d:α)(c:Nq P tt=H)(s:P.funcs[f]? =T fn)(j:W)(e:α->S (W×Orc))(o:α->S Ob)(t:∀(w0:Base) [GoodAt P w0] (a:α) (orcs:S (W×Orc)) (obs:S Ob),PL (Zp P w0) (V0 P w0) orcs obs->PL (Zp P w0) (V0 P w0) (e a++orcs) (o a++obs))(l:S α)
 (u:fn.body=T (.seq (.region i0 O0 I) (.seq (.region i1 O1 I) (.seq (.seq (.region i2 O2 I) (.block B (.loop (.seq (.seq (.region i3 O3 I) (.cond (.tmp 11) .skip (.exit B))) (.seq (.block B1 (.region i5 O5 I)) (.region i4 O4 I)))))) (.seq (.region i6 O6 I) .ret)))):=by exact rfl)
 (n:Fr P f:=by unfold Fr;kernel_rfl) (v:1<=fn.ntmps:=by exact Nat.le_of_ble_eq_true rfl)
 (w:Wr tt fn.ntmps [] O0.toList [0] [] (ZQ [.h l])=T (⟨[(0,.h l)], []⟩, []):=by kernel_rfl)
 (z:Wr tt fn.ntmps [(1,.val (.i (l.length:Y)))] O1.toList [3,0] [] ⟨[(0,.h l)], []⟩=T (⟨[(3,.one (.slc (.own H 448) (GoD.n α) (yI l.length (enc d)))),(0,.h l)], []⟩, [.eq (.i ((eL l).length:Y)) (.i (l.length:Y)),.rng 0 (l.length:Y) 1073741824]):=by kernel_rfl)
 (V:∀m:S α,Wr tt fn.ntmps [] O2.toList [4,3,0] [] ⟨[(3,.one (.slc (.own H 448) (GoD.n α) (eL m))),(0,.h l)], []⟩=T (⟨[(4,.i 0),(3,.one (.slc (.own H 448) (GoD.n α) (eL m))),(0,.h l)], []⟩, []):=by intro m;kernel_rfl)
 (q:∀(k:W) (m:S α) (b:uA),Wr tt fn.ntmps [(2,.val (.i (l.length:Y))),(3,.val (.b b))] O3.toList [4,3,0,11] [] ⟨[(4,.i (k:Y)),(3,.one (.slc (.own H 448) (GoD.n α) (eL m))),(0,.h l)], []⟩=T (⟨[(4,.i (k:Y)),(3,.one (.slc (.own H 448) (GoD.n α) (eL m))),(0,.h l),(11,.b b)], []⟩, [.eq (.i ((eL l).length:Y)) (.i (l.length:Y)),.eq (.b (decide ((k:Y)<(l.length:Y)))) (.b b)]):=by intro k m b;kernel_rfl)
 (h5:∀(k:W) (m:S α) (a x:α),Wr tt fn.ntmps ((4,.row (enc a))::(e a++ [(j,.rowE (enc x))])) O5.toList [4,3,0] [] ⟨[(4,.i (k:Y)),(3,.one (.slc (.own H 448) (GoD.n α) (eL m))),(0,.h l),(11,.b H)], []⟩=T (⟨[(4,.i (k:Y)),(3,.one (.slc (.own H 448) (GoD.n α) (setRow (eL m) k 0 (enc a)))),(0,.h l)], []⟩,(.elem (eL l) (k:Y) (enc a)::(o a++ [.elem (eL m) (k:Y) (enc x)]))):=by intro k m a x;kernel_rfl)
 (h4:∀(k:W) (m:S α),Wr tt fn.ntmps [(1,.val (.i ((k+1:W):Y)))] O4.toList [4,3,0] [] ⟨[(4,.i (k:Y)),(3,.one (.slc (.own H 448) (GoD.n α) (eL m))),(0,.h l)], []⟩=T (⟨[(4,.i ((k+1:W):Y)),(3,.one (.slc (.own H 448) (GoD.n α) (eL m))),(0,.h l)], []⟩, [.eq (.i (IntKind.i64.wrap ((k:Y)+1))) (.i ((k+1:W):Y))]):=by intro k m;kernel_rfl)
 (h6:∀m:S α,Wr tt fn.ntmps [] O6.toList [2] [] ⟨[(3,.one (.slc (.own H 448) (GoD.n α) (eL m)))], []⟩=T (⟨[(2,.one (.slc (.own H 448) (GoD.n α) (eL m)))], []⟩, []):=by intro m;kernel_rfl)
 (hr:∀m:S α,Ml tt fn.results.toList ⟨[(2,.one (.slc (.own H 448) (GoD.n α) (eL m)))], []⟩=T (LM m):=by intro m;kernel_rfl)
 (g:∀a b:α,(enc a).length=(enc b).length:=by intro a b;rfl):ACalls P f [.h l] (LM l):=by
 refine QW c s u n v λw0 F0 hG=>?_
 refine Qa (Jr c [] _ _ w p0 ?_);refine wT 0 0 .sh l (λhw hl=>?_) rfl;refine Qa (Jr c _ _ _ z (pl 1 l (px (show(0:Y)<=0/\(0:Y)<=(l.length:Y)/\(l.length:Y)<=((1073741824:W):Y) by omega) p0)) ?_);have e0:yI l.length (enc d)=eL (toM l d 0):=by simp[toM,eL]
 rw[e0];refine Qa (Qa (Jr c [] _ _ (V _) p0 ?_));refine Ub (σ:=uD) (τ:=uD) (λk _=>⟨[(4,.i (k:Y)),(3,.one (.slc (.own H 448) (GoD.n α) (eL (toM l d k)))),(0,.h l)], []⟩) (λ_=>⟨[(3,.one (.slc (.own H 448) (GoD.n α) (eL l)))], []⟩) (λ_ _=>True) (λ_=>True) l.length () (Qgn rfl) trivial (λk _ h _=>?_) (λk _ h _=>?_) (λ_ _=>?_)
 . obtain⟨a,r⟩:=Xo (l:=l) (i:=k) h;refine Qa (Qa (Jr c _ _ _ (q k _ H) (pl 2 l (pt 3 (uH (p:=(k:Y)<(l.length:Y)) (by omega)) p0)) ?_));refine ckT (Qd ?_);refine Qa (Qp (Jr c _ _ _ (h5 k _ a d) (pn 4 r (t w0 a _ _ (pN j (Qnf l d h) p0))) ?_));rw[Km (y:=a) (Qnf l d h) (by rw[Nat.zero_add,List.take_zero,zL,List.drop_eq_nil_of_le (Nat.le_of_eq (g d a)),zP]),Qpr d r];exact Jr c _ _ _ (h4 k _) (pe 1 (G6 (UO k (by omega))) p0) ⟨(),Qgn rfl,trivial⟩
 . subst h;refine Qa (Qa (Jr c _ _ _ (q _ _ I) (pl 2 l (pf 3 (uG (p:=(l.length:Y)<(l.length:Y)) (by omega)) p0)) ?_));refine ckF (Xa ?_);show(bif yJ B B then _ else _:Prop);rw[Nat.beq_refl];refine⟨(), ?_,trivial⟩;rw[show toM l d l.length=l by simp[toM]];exact Qe rfl
 exact Qa (Jr c [] _ _ (h6 _) p0 (Qc (Ir [] (hr _) rfl)))
end
end
end Go.Proofs.YtkdnkiggkgakmaaGreatDoor
