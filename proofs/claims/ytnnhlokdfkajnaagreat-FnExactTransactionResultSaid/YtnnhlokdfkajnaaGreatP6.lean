/- Texts of this proof, put together by a program: Cza, Su, Drl, Td, Cta, Ctb, Ctc, Tra, Trb, Ma. -/
import Derived.Test.YtnnhlokdfkajnaaGreatP5
import Derived.KernelRfl
import Derived.Test.YtnnhlokdfkajnaaGreatProg
import Derived.Laws.IdiomStrings
set_option linter.unusedVariables false
set_option linter.unusedSimpArgs false
namespace Go.Proofs.YtnnhlokdfkajnaaGreat
open _root_.And renaming intro → zT
open _root_.Bool renaming not_true → zR, not_false → zU, false_and → yG, false_eq_true → yH, true_and → yL, and_false → yR, true_or → yZ, eq_iff_iff → xA, false_or → xI, or_false → xJ, and_self → xK, and_true → xL, or_self → xM
open _root_.Classical renaming byContradiction → yI
open _root_.Exists renaming intro → zK
open _root_.Int renaming toNat → zP, toNat_natCast → zW, natCast_add → xB
open _root_.List renaming mem_append → zD, nodup_append → zE, length → zG, take_length → zH, mem_cons → zJ, getElem?_eq_getElem → zL, drop_eq_getElem_cons → zM, mem_cons_of_mem → zN, length_cons → zO, append_assoc → zQ, mem_of_getElem? → zS, mem_cons_self → zV, length_set → zX, append_nil → zY, length_nil → yA, mem_map_of_mem → yC, getElem?_eq_some_iff → yD, filter_cons → yE, mem_append_left → yF, mem_append_right → yK, map → yM, getElem?_of_mem → yN, length_map → yO, nil_append → yP, length_append → yQ, map_id → yT, map_cons → yU, set → yV, any_eq_true → yW, filter_cons_of_pos → yX, filter_cons_of_neg → yY, nodup_cons → xC, foldl_cons → xD, mem_of_mem_take → xE, mem_of_mem_drop → xF, any_cons → xH, getD → xN
open _root_.List.Pairwise renaming nil → yS
open _root_.Nat renaming zero_le → zZ, le_trans → yB, zero_add → yJ, mul_le_mul_right → xG, le_refl → xO
open _root_.Option.some renaming inj → zF
open _root_.UInt8 renaming ofNat → xP
section
open Go.RowKit
open GoE (enc wide)
def D8 (_:Nat) (a0:Yz) (s0:Z):Rd Z Z Z:=(bif (Xk a0.1 8 9) then (.next (Kg s0 a0.2.2.2.1)) else (.next s0))
def Ip (_:Nat) (s0:Z):Z:=s0
def V9 (q:List Yz):Z:=(Out.on (X7 D8 Ip q 0 []) (λy0=>y0))
theorem WP (q:List Yz):ACalls Tryz.prog 209 [.h q] (.o 0 (V9 q)):=by
 refine en Qa Tryz.func209 λw0 F0 hG=> ?_
 refine sn Qa [0,2] [] p0 <| tn Qa [0,2,3] [] p0 <| Qc <| tu Qa [(2,.e 0),(3,.one (.slc (.own true 320) 1 [])),(4,.i 0)] [] [] [] p0 <| wT 0 0 .sh q (λhw1 hl2=> ?_)
 refine ZQ D8 Ip q [] (λk0 s0=> [(3,.h s0),(4,.i (k0:Int))]) [3,4] (λy0=> [(3,.h y0)]) [0,3,4] (λk0 s0=>zG s0<=k0) (Oe [] [320] [] [] (by kernel_rfl)) (by simp) (λk0 s0 hk0 U=> ?_) (λk0 s0 hk0 U=> ?_) (λy0 hD0=> ?_)
 ·have hA0_0:=U.2;obtain ⟨a0,V⟩:=Xs (l:=q) (i:=k0) hk0;refine Qc <| sn Qa [0,2,3,4,9] [] (pl 2 q (pe 3 (zB ((k0:Int)<(q.length:Int))) p0)) <| ckT <| Qe <| Qc <| Qt <| tn Qa [0,2,3,4,17] [] (pn 2 V (pc 5 (Z9 a0.1 8 9) p0)) <| ck (Xk a0.1 8 9) (λh3=> ?_) (λh3=> ?_)
  ·have h3w:=Fh.1 h3;refine qu Qa [(3,.h (Kg s0 a0.2.2.2.1))] [3] [] [] (pn 3 V (pc 6 (Ex s0 a0.2.2.2.1 (by omega)) p0)) ?_;refine rn Qa [0,2,3,4] [] (pe 1 (J6 (Ql k0 (by omega))) p0) ?_;exact xw (Kg s0 a0.2.2.2.1) ⟨Qp V (Xm h3 (rfl)) U.1,(by first|omega|(have hz:=Ra s0 a0.2.2.2.1;omega))⟩
  refine Qe <| qu Qa [(4,.i ((k0+1:Nat):Int))] [4] [] [] (pe 1 (J6 (Ql k0 (by omega))) p0) ?_
  exact xw s0 ⟨Qp V (Qn h3 (rfl)) U.1,(by first|omega|(have hz:=Ra s0 a0.2.2.2.1;omega))⟩
 ·have hA0_0:=U.2;exact Qc <| sn Qa [0,2,3,4,9] [] (pl 2 q (pe 3 (zC ((k0:Int)<(q.length:Int))) p0)) <| ckF <| Q9 <| xw _ (Xt hk0 (rfl) U.1)
 refine wT 3 0 .sh y0 (λhw4 hl5=> ?_);exact sn Qa [2] [] (po 2 (.flat) (px (Ga (n:=(([]:List (List PV)).length+((eL y0):List (List PV)).length)) (Iu (rfl) (Zs y0) (by first|omega|(simp only[zO,yA];omega) | (simp;omega) | simp))) (px (Ec (Df y0)) p0))) <| Qh <| po0 [] (Uc hD0 (rfl))
def C5 (_:Nat) (a0:Yz) (s0:Z):Rd Z Z Z:=(bif (Xk a0.1 2 4) then (.next (Kg s0 a0.2.2.2.1)) else (.next s0))
def Gm (_:Nat) (s0:Z):Z:=s0
def K2 (q:List Yz):Z:=(Out.on (X7 C5 Gm q 0 []) (λy0=>y0))
theorem JA (q:List Yz):ACalls Tryz.prog 244 [.h q] (.o 0 (K2 q)):=by
 refine en Qa Tryz.func244 λw0 F0 hG=> ?_
 refine sn Qa [0,2] [] p0 <| tn Qa [0,2,3] [] p0 <| Qc <| tu Qa [(2,.e 0),(3,.one (.slc (.own true 320) 1 [])),(4,.i 0)] [] [] [] p0 <| wT 0 0 .sh q (λhw1 hl2=> ?_)
 refine ZQ C5 Gm q [] (λk0 s0=> [(3,.h s0),(4,.i (k0:Int))]) [3,4] (λy0=> [(3,.h y0)]) [0,3,4] (λk0 s0=>zG s0<=k0) (Oe [] [320] [] [] (by kernel_rfl)) (by simp) (λk0 s0 hk0 U=> ?_) (λk0 s0 hk0 U=> ?_) (λy0 hD0=> ?_)
 ·have hA0_0:=U.2;obtain ⟨a0,V⟩:=Xs (l:=q) (i:=k0) hk0;refine Qc <| sn Qa [0,2,3,4,9] [] (pl 2 q (pe 3 (zB ((k0:Int)<(q.length:Int))) p0)) <| ckT <| Qe <| Qc <| Qt <| tn Qa [0,2,3,4,17] [] (pn 2 V (pc 5 (Z9 a0.1 2 4) p0)) <| ck (Xk a0.1 2 4) (λh3=> ?_) (λh3=> ?_)
  ·have h3w:=Fh.1 h3;refine qu Qa [(3,.h (Kg s0 a0.2.2.2.1))] [3] [] [] (pn 3 V (pc 6 (Ex s0 a0.2.2.2.1 (by omega)) p0)) ?_;refine rn Qa [0,2,3,4] [] (pe 1 (J6 (Ql k0 (by omega))) p0) ?_;exact xw (Kg s0 a0.2.2.2.1) ⟨Qp V (Xm h3 (rfl)) U.1,(by first|omega|(have hz:=Ra s0 a0.2.2.2.1;omega))⟩
  refine Qe <| qu Qa [(4,.i ((k0+1:Nat):Int))] [4] [] [] (pe 1 (J6 (Ql k0 (by omega))) p0) ?_
  exact xw s0 ⟨Qp V (Qn h3 (rfl)) U.1,(by first|omega|(have hz:=Ra s0 a0.2.2.2.1;omega))⟩
 ·have hA0_0:=U.2;exact Qc <| sn Qa [0,2,3,4,9] [] (pl 2 q (pe 3 (zC ((k0:Int)<(q.length:Int))) p0)) <| ckF <| Q9 <| xw _ (Xt hk0 (rfl) U.1)
 refine wT 3 0 .sh y0 (λhw4 hl5=> ?_);exact sn Qa [2] [] (po 2 (.flat) (px (Ga (n:=(([]:List (List PV)).length+((eL y0):List (List PV)).length)) (Iu (rfl) (Zs y0) (by first|omega|(simp only[zO,yA];omega) | (simp;omega) | simp))) (px (Ec (Df y0)) p0))) <| Qh <| po0 [] (Uc hD0 (rfl))
def D9 (_:Nat) (a0:Ee) (s0:Z):Rd Z Z Z:=(.next (s0++ [a0.1]))
def Iq (_:Nat) (s0:Z):Z:=s0
def Yt (f:Xx):Z:=(Out.on (X7 D9 Iq f.2.2.2.2 0 []) (λy0=>y0))
theorem Sq (f:Xx):(Yt f).length=f.2.2.2.2.length:=by
 unfold Yt;rw[A7 (f:=D9) (g:=λa:Ee=>a.1) (λ_ _ _=>rfl)];simp[Out.on,Iq]
theorem Rk (f:Xx):ACalls Tryz.prog 275 [.a [.i f.1,.i f.2.1,.b f.2.2.1,.i f.2.2.2.1,.h f.2.2.2.2]] (.o 0 (Yt f)):=by
 refine en Qa Tryz.func275 λw0 F0 hG=> ?_
 refine sn Qa [1,2] [1] p0 <| tn Qa [1,2,3] [1] p0 <| Qc <| tu Qa [(1,.p 1 0),(2,.e 0),(3,.one (.slc (.own true 320) 1 [])),(4,.i 0)] [0] [(1, [.i f.1,.i f.2.1,.b f.2.2.1,.i f.2.2.2.1,.h f.2.2.2.2])] [] p0 <| wB 1 4 .sh f.2.2.2.2 (λhw1 hl2=> ?_)
 refine SK D9 Iq f.2.2.2.2 [] (λk0 s0=> [(3,.o 147202 s0),(4,.i (k0:Int))]) [3,4] (λ_ _=> []) [] (λy0=> [(3,.o 147352 y0)]) [1,3,4] (λ_=> []) [1] (λk0 s0=>zG s0<=k0) (X4 [(320,147202)] (by kernel_rfl)) (by simp) (λk0 s0 hk0 U=> ?_) (λk0 s0 hk0 U=> ?_) (λy0 hD0=> ?_)
 ·have hA0_0:=U.2;obtain ⟨a0,V⟩:=Xs (l:=f.2.2.2.2) (i:=k0) hk0;refine Qc <| sn Qa [1,2,3,4,10] [1] (pl 3 f.2.2.2.2 (pe 4 (zB ((k0:Int)<(f.2.2.2.2.length:Int))) p0)) <| ckT <| Qe <| Qc <| Qt <| wT 3 0 (.own true 147202) s0 (λhw3 hl4=> ?_)
  refine qu Qa [(3,.one (.slc (.own true 1344) 1 ((eL s0)++ [[.s a0.1]])))] [3] [] [] (pn 4 V (pa s0 [a0.1] p0)) ?_;refine eqn [(3,.o 1344 (s0++ [a0.1]))] [3] [] [] (by rw[show ((eL s0)++ [[.s a0.1]])=(eL (s0++ [a0.1])) from We (rfl) (rfl)];first | done | kernel_rfl) ?_;refine rn Qa [1,2,3,4] [1] (pe 1 (J6 (Ql k0 (by omega))) p0) ?_;exact zK (s0++ [a0.1]) (zT (X4 [(1344,147202)] (by kernel_rfl)) ⟨Qp V (rfl) U.1,by first|omega|(simp;omega) | simp⟩)
 ·have hA0_0:=U.2;exact Qc <| sn Qa [1,2,3,4,10] [1] (pl 3 f.2.2.2.2 (pe 4 (zC ((k0:Int)<(f.2.2.2.2.length:Int))) p0)) <| ckF <| Q9 <| zK _ (zT (X4 [(147202,147352)] (by kernel_rfl)) (Xt hk0 (rfl) U.1))
 exact sn Qa [2] [] p0 <| Qh <| po0 [] (Uc hD0 (rfl))
def Er (a_:Xx) (b:Xx) (_:Nat) (a0:ByteArray) (s0:Z):Rd Z Z Z:=(bif (!(((Yb a_ a0).1==(Yb b a0).1)&&(((Yb a_ a0).2.1==(Yb b a0).2.1)&&((((Yb a_ a0).2.2).toList==((Yb b a0).2.2).toList)&&true)))) then (.next (Kg s0 a0)) else (.next s0))
def Es (_:Nat) (s0:Z):Z:=s0
def W9 (a_:Xx) (b:Xx):Z:=(Out.on (X7 (Er a_ b) Es (Yt a_++(Yt b)) 0 []) (λy0=>y0))
theorem XD (a_:Xx) (b:Xx) (hp:(zG a_.2.2.2.2:Int)+zG b.2.2.2.2<=1073741000):ACalls Tryz.prog 242 [.a [.i a_.1,.i a_.2.1,.b a_.2.2.1,.i a_.2.2.2.1,.h a_.2.2.2.2],.a [.i b.1,.i b.2.1,.b b.2.2.1,.i b.2.2.2.1,.h b.2.2.2.2]] (.o 0 (W9 a_ b)):=by
 refine en Qa Tryz.func242 λw0 F0 hG=> ?_
 have hn1:=Sq a_;have hn2:=Sq b;refine sn Qa [2,3,4] [2,3] p0 <| tn Qa [2,3,4,5] [2,3] p0 <| tU Qa Zt [(2,.p 2 0),(3,.p 3 0),(4,.e 0),(5,.one (.slc (.own true 512) 1 [])),(6,.one (.slc (.own true 832) 1 ((eL (Yt a_))++(eL (Yt b)))))] [0,1] [(2, [.i a_.1,.i a_.2.1,.b a_.2.2.1,.i a_.2.2.2.1,.h a_.2.2.2.2]),(3, [.i b.1,.i b.2.1,.b b.2.2.1,.i b.2.2.2.1,.h b.2.2.2.2])] [] (pc 1 (Rk a_) (pc 3 (Rk b) (pa (Yt a_) (Yt b) p0))) <| eqn [(6,.o 832 (Yt a_++(Yt b)))] [6] [] [] (by rw[show ((eL (Yt a_))++(eL (Yt b)))=(eL (Yt a_++(Yt b))) from We (rfl) (rfl)]<;>kernel_rfl) ?_
 refine Qc <| su Qa [(7,.i 0)] [] [] [] p0 <| wT 6 0 (.own true 832) (Yt a_++(Yt b)) (λhw1 hl2=> ?_)
 refine SK (Er a_ b) Es (Yt a_++(Yt b)) [] (λk0 s0=> [(5,.h s0),(7,.i (k0:Int))]) [5,7] (λ_ _=> []) [] (λy0=> [(5,.h y0)]) [2,3,5,6,7] (λ_=> []) [2,3] (λk0 s0=>zG s0<=k0) (Oe [] [512] [] [] (by kernel_rfl)) (by simp) (λk0 s0 hk0 U=> ?_) (λk0 s0 hk0 U=> ?_) (λy0 hD0=> ?_)
 ·have hA0_0:=U.2;obtain ⟨a0,V⟩:=Xs (l:=Yt a_++(Yt b)) (i:=k0) hk0;refine Qc <| su Qa [(17,.b true)] [] [] [] (pl 2 (Yt a_++(Yt b)) (pe 3 (zB ((k0:Int)<((Yt a_++(Yt b)).length:Int))) p0)) <| ckT <| Qe <| Qc <| Qt <| sN Qa Zt [2,3,4,5,6,7,32] [2,3] (pN 3 V (pc 5 (On a_ a0) (pN 9 V (pc 11 (On b a0) p0)))) <| ck (!(((Yb a_ a0).1==(Yb b a0).1)&&(((Yb a_ a0).2.1==(Yb b a0).2.1)&&((((Yb a_ a0).2.2).toList==((Yb b a0).2.2).toList)&&true)))) (λh3=> ?_) (λh3=> ?_)
  ·refine qn Qa [2,3,4,5,6,7] [2,3] (pN 3 V (pc 5 (Ex s0 a0 (by omega)) p0)) ?_;refine qu Qa [(5,.h (Kg s0 a0)),(7,.i ((k0+1:Nat):Int))] [5,7,17] [] [] (pe 1 (J6 (Ql k0 (by omega))) p0) ?_;exact xw (Kg s0 a0) ⟨Qp V (Xm h3 (rfl)) U.1,(by first|omega|(have hz:=Ra s0 a0;omega))⟩
  have h3n:(((Yb a_ a0).1==(Yb b a0).1)&&(((Yb a_ a0).2.1==(Yb b a0).2.1)&&((((Yb a_ a0).2.2).toList==((Yb b a0).2.2).toList)&&true)))=true:=Zc h3;have h3nl:(((Yb a_ a0).1==(Yb b a0).1))=true:=UV h3n;have h3nld:=eq_of_beq h3nl;have h3nr:((((Yb a_ a0).2.1==(Yb b a0).2.1)&&((((Yb a_ a0).2.2).toList==((Yb b a0).2.2).toList)&&true)))=true:=CY h3n;have h3nrl:(((Yb a_ a0).2.1==(Yb b a0).2.1))=true:=UV h3nr;have h3nrld:=eq_of_beq h3nrl;refine Qe <| qn Qa [2,3,4,5,6,7] [2,3] (pe 1 (J6 (Ql k0 (by omega))) p0) ?_
  exact xw s0 ⟨Qp V (Qn h3 (rfl)) U.1,(by first|omega|(have hz:=Ra s0 a0;omega))⟩
 ·have hA0_0:=U.2;exact Qc <| su Qa [(17,.b false)] [] [] [] (pl 2 (Yt a_++(Yt b)) (pe 3 (zC ((k0:Int)<((Yt a_++(Yt b)).length:Int))) p0)) <| ckF <| Q9 <| xw _ (Xt hk0 (rfl) U.1)
 refine wT 5 0 .sh y0 (λhw4 hl5=> ?_);exact sn Qa [4] [] (po 2 (.flat) (px (Ga (n:=(([]:List (List PV)).length+((eL y0):List (List PV)).length)) (Iu (rfl) (Zs y0) (by first|omega|(simp only[zO,yA];omega) | (simp;omega) | simp))) (px (Ec (Df y0)) p0))) <| Qh <| po0 [] (Uc hD0 (rfl))
def Bt (_:Nat) (a0:Yz) (_:Unit):Rd (Bool) (Unit) (Unit):=(bif (a0.1==(9:Int)) then (.ret true) else (.next ()))
def Ea (_:Nat) (_:Unit):Unit:=()
def C6 (q:List Yz):Bool:=(Out.on (X7 Bt Ea q 0 ()) (λ_=>false))
theorem WQ (q:List Yz):ACalls Tryz.prog 243 [.h q] (.b (C6 q)):=by
 refine en Qa Tryz.func243 λw0 F0 hG=> ?_
 refine sn Qa [0,2] [] p0 <| Qc <| tn Qa [0,2,3] [] p0 <| mz [(2,.b false),(3,.i 0)] [] [] [] <| wT 0 0 .sh q (λhw1 hl2=> ?_)
 refine Pa Bt Ea q () (λk0 _=> [(3,.i (k0:Int))]) [3] (λ_=> []) [0,3] wf0 (λk0 s0 hk0 U=> ?_) (λk0 s0 hk0 U=> ?_) (λy0 hD0=> ?_)
 ·obtain ⟨a0,V⟩:=Xs (l:=q) (i:=k0) hk0;refine Qc <| sn Qa [0,2,3,7] [] (pl 2 q (pe 3 (zB ((k0:Int)<(q.length:Int))) p0)) <| ckT <| Qe <| Qc <| Qt <| tn Qa [0,2,3,15] [] (pn 2 V p0) <| ck (a0.1==(9:Int)) (λh3=> ?_) (λh3=> ?_)
  ·refine tu Qa [(2,.b true)] [2] [] [] p0 <| Qh ?_
   have hr4:(X7 Bt Ea q 0 ())= .ret true:=Jr V (Xm h3 (rfl)) U;exact pb [] (Nk hr4)
  have h3d:=Z7 h3;refine Qe <| qu Qa [(3,.i ((k0+1:Nat):Int))] [3] [] [] (pe 1 (J6 (Ql k0 (by omega))) p0) ?_
  exact xw _ (Qp V (Qn h3 (rfl)) U)
 ·exact Qc <| sn Qa [0,2,3,7] [] (pl 2 q (pe 3 (zC ((k0:Int)<(q.length:Int))) p0)) <| ckF <| Q9 <| xw _ (Xt hk0 (rfl) U)
 exact sn Qa [2] [] p0 <| Qh <| pb [] (Uc hD0 (rfl))
def F3 (_:Nat) (a0:Yc) (s0:Z):Rd Z Z Z:=(.next (s0++ [a0.1]))
def F4 (_:Nat) (s0:Z):Z:=s0
def Ua (d:List Yc):Z:=(Out.on (X7 F3 F4 d 0 []) (λy0=>y0))
theorem Nc (d:List Yc):ACalls Tryz.prog 153 [.h d] (.o 0 (Ua d)):=by
 refine en Qa Tryz.func153 λw0 F0 hG=> ?_
 refine sn Qa [0,2] [] p0 <| tn Qa [0,2,3] [] p0 <| Qc <| tu Qa [(2,.e 0),(3,.one (.slc (.own true 320) 1 [])),(4,.i 0)] [] [] [] p0 <| wT 0 0 .sh d (λhw1 hl2=> ?_)
 refine ZQ F3 F4 d [] (λk0 s0=> [(3,.o 147202 s0),(4,.i (k0:Int))]) [3,4] (λy0=> [(3,.o 147352 y0)]) [0,3,4] (λk0 s0=>zG s0<=k0) (X4 [(320,147202)] (by kernel_rfl)) (by simp) (λk0 s0 hk0 U=> ?_) (λk0 s0 hk0 U=> ?_) (λy0 hD0=> ?_)
 ·have hA0_0:=U.2;obtain ⟨a0,V⟩:=Xs (l:=d) (i:=k0) hk0;refine Qc <| sn Qa [0,2,3,4,9] [] (pl 2 d (pe 3 (zB ((k0:Int)<(d.length:Int))) p0)) <| ckT <| Qe <| Qc <| Qt <| wT 3 0 (.own true 147202) s0 (λhw3 hl4=> ?_)
  refine qu Qa [(3,.one (.slc (.own true 1216) 1 ((eL s0)++ [[.s a0.1]])))] [3] [] [] (pn 3 V (pa s0 [a0.1] p0)) ?_;refine eqn [(3,.o 1216 (s0++ [a0.1]))] [3] [] [] (by rw[show ((eL s0)++ [[.s a0.1]])=(eL (s0++ [a0.1])) from We (rfl) (rfl)];first | done | kernel_rfl) ?_;refine rn Qa [0,2,3,4] [] (pe 1 (J6 (Ql k0 (by omega))) p0) ?_;exact zK (s0++ [a0.1]) (zT (X4 [(1216,147202)] (by kernel_rfl)) ⟨Qp V (rfl) U.1,by first|omega|(simp;omega) | simp⟩)
 ·have hA0_0:=U.2;exact Qc <| sn Qa [0,2,3,4,9] [] (pl 2 d (pe 3 (zC ((k0:Int)<(d.length:Int))) p0)) <| ckF <| Q9 <| zK _ (zT (X4 [(147202,147352)] (by kernel_rfl)) (Xt hk0 (rfl) U.1))
 exact sn Qa [2] [] p0 <| Qh <| po0 [] (Uc hD0 (rfl))
def F5 (s_:ByteArray) (_:Nat) (a0:ByteArray) (_:Unit):Rd (Bool) (Unit) (Unit):=(bif (a0.toList==s_.toList) then (.ret true) else (.next ()))
def Lb (_:Nat) (_:Unit):Unit:=()
def Wg (list:Z) (s_:ByteArray):Bool:=(Out.on (X7 (F5 s_) Lb list 0 ()) (λ_=>false))
theorem Qdm (s:ByteArray):∀(l:Z) (k:Nat),(Out.on (X7 (F5 s) Lb l k ()) (λ_=>false))=true↔s∈l
 | [],k=>by simp[X7,Out.on]
 | a::l,k=>by
   simp only[X7,F5,Hm];by_cases h:a=s
   . subst h;simp[Out.on]
   rw[decide_eq_false h];simp only[cond_false];refine (Qdm s l (k+1)).trans ?_;simp[Ne.symm h]
theorem WR (l:Z) (s:ByteArray):Wg l s=true↔s∈l:=Qdm s l 0
theorem Mt (list:Z) (s_:ByteArray):ACalls Tryz.prog 210 [.h list,.s s_] (.b (Wg list s_)):=by
 refine en Qa Tryz.func210 λw0 F0 hG=> ?_
 refine sn Qa [0,1,4] [] p0 <| Qc <| tn Qa [0,1,4,5] [] p0 <| mz [(4,.b false),(5,.i 0)] [] [] [] <| wT 0 0 .sh list (λhw1 hl2=> ?_)
 refine Pa (F5 s_) Lb list () (λk0 _=> [(5,.i (k0:Int))]) [5] (λ_=> []) [0,1,5] wf0 (λk0 s0 hk0 U=> ?_) (λk0 s0 hk0 U=> ?_) (λy0 hD0=> ?_)
 ·obtain ⟨a0,V⟩:=Xs (l:=list) (i:=k0) hk0;refine Qc <| sn Qa [0,1,4,5,9] [] (pl 2 list (pe 3 (zB ((k0:Int)<(list.length:Int))) p0)) <| ckT <| Qe <| Qc <| Qt <| tn Qa [0,1,4,5,17] [] (pn 2 V p0) <| ck (a0.toList==s_.toList) (λh3=> ?_) (λh3=> ?_)
  ·refine tu Qa [(4,.b true)] [4] [] [] p0 <| Qh ?_
   have hr4:(X7 (F5 s_) Lb list 0 ())= .ret true:=Jr V (Xm h3 (rfl)) U;exact pb [] (Nk hr4)
  refine Qe <| qu Qa [(5,.i ((k0+1:Nat):Int))] [5] [] [] (pe 1 (J6 (Ql k0 (by omega))) p0) ?_
  exact xw _ (Qp V (Qn h3 (rfl)) U)
 ·exact Qc <| sn Qa [0,1,4,5,9] [] (pl 2 list (pe 3 (zC ((k0:Int)<(list.length:Int))) p0)) <| ckF <| Q9 <| xw _ (Xt hk0 (rfl) U)
 exact sn Qa [4] [] p0 <| Qh <| pb [] (Uc hD0 (rfl))
def Hg (a_:Xx) (b:Xx) (_:Nat) (a1:ByteArray) (s1:Bool):Rd (Rd Z Z Z) (Bool) (Bool):=(.next (s1|| (Wg (W9 a_ b) a1)))
def Hh (_:Nat) (s1:Bool):Bool:=s1
def Kr (a_:Xx) (b:Xx) (_:Nat) (a0:Yc) (s0:Z):Rd Z Z Z:=(Out.on (X7 (Hg a_ b) Hh (K2 a0.2) 0 ((a_.2.2.2.1 !=b.2.2.2.1)&&(C6 a0.2))) (λy1=>(bif y1 then (.next (s0++ [a0.1])) else (.next s0))))
def Wt (_:Nat) (s0:Z):Z:=s0
def K7 (d:List Yc) (a_:Xx) (b:Xx):Z:=(bif (a_.1 !=b.1) then (Ua d) else (Out.on (X7 (Kr a_ b) Wt d 0 []) (λy0=>y0)))
theorem Rl (a b:Xx):∀(l:List Yc) (k:Nat) (s:Z),(∃s',X7 (Kr a b) Wt l k s= .brk s'/\s'.length<=s.length+l.length)\/∃r,X7 (Kr a b) Wt l k s= .ret r/\r= []
 | [],k,s=> .inl ⟨s,rfl,by simp⟩
 | x ::l,k,s=>by
   have hin:∀(l:Z) (k:Nat) (s:Bool),∃y,X7 (Hg a b) Hh l k s= .brk y:=by
    intro l
    induction l with
    | nil=>exact λk s=>⟨s,rfl⟩
    | cons c l ih=>exact λk s=>ih (k+1) _
   obtain ⟨y,hy⟩:=hin (K2 x.2) 0 ((a.2.2.2.1 !=b.2.2.2.1)&&(C6 x.2));simp only[X7,Kr,hy,Out.on];cases y with
   | true=>
     rcases Rl a b l (k+1) (s++ [x.1]) with ⟨s',h1,h2⟩ | h
     . exact .inl ⟨s',h1,by simp at h2⊢;omega⟩
     exact .inr h
   | false=>
     rcases Rl a b l (k+1) s with ⟨s',h1,h2⟩ | h
     . exact .inl ⟨s',h1,by simp at h2⊢;omega⟩
     exact .inr h
theorem DU (d:List Yc) (a b:Xx):(K7 d a b).length<=d.length:=by
 unfold K7;generalize (a.1 !=b.1)=c;cases c with
 | true=>
   simp only[cond_true];unfold Ua;rw[A7 (f:=F3) (g:=λa:Yc=>a.1) (λ_ _ _=>rfl)];simp[Out.on,F4]
 | false=>
   simp only[cond_false];rcases Rl a b d 0 [] with ⟨s',h1,h2⟩ | ⟨r,h1,rfl⟩
   . rw[h1];exact (by simpa using h2:s'.length<=d.length)
   rw[h1];exact zZ _
theorem Pn (d:List Yc) (a_:Xx) (b:Xx) (hp:(zG a_.2.2.2.2:Int)+zG b.2.2.2.2<=1073741000):ACalls Tryz.prog 206 [.h d,.a [.i a_.1,.i a_.2.1,.b a_.2.2.1,.i a_.2.2.2.1,.h a_.2.2.2.2],.a [.i b.1,.i b.2.1,.b b.2.2.1,.i b.2.2.2.1,.h b.2.2.2.2]] (.o 0 (K7 d a_ b)):=by
 refine en Qa Tryz.func206 λw0 F0 hG=> ?_
 refine sn Qa [0,4,5,6] [4,5] p0 <| Qc <| tn Qa [0,4,5,6,17] [4,5] p0 <| ck (a_.1 !=b.1) (λh1=> ?_) (λh1=> ?_)
 ·exact tu Qa [(4,.p 4 0),(5,.p 5 0),(6,.o 1216 (Ua d))] [1,2] [(4, [.i a_.1,.i a_.2.1,.b a_.2.2.1,.i a_.2.2.2.1,.h a_.2.2.2.2]),(5, [.i b.1,.i b.2.1,.b b.2.2.1,.i b.2.2.2.1,.h b.2.2.2.2])] [] (pc 1 (Nc d) p0) <| Qh <| po0 [] (Xm h1 (rfl))
 have h1d:=U8 h1;refine Qe <| tu Qa [(4,.p 4 0),(5,.p 5 0),(6,.e 0),(7,.one (.slc (.own true 1280) 1 []))] [1,2] [(4, [.i a_.1,.i a_.2.1,.b a_.2.2.1,.i a_.2.2.2.1,.h a_.2.2.2.2]),(5, [.i b.1,.i b.2.1,.b b.2.2.1,.i b.2.2.2.1,.h b.2.2.2.2])] [] p0 <| sn Qa [0,4,5,6,7,8] [4,5] (pc 2 (XD a_ b (by first|omega|(simp;omega))) p0) <| Qc <| tn Qa [0,4,5,6,7,8,9] [4,5] p0 <| mz [(8,.o 1472 (W9 a_ b)),(9,.i 0)] [] [] [] <| wT 0 0 .sh d (λhw2 hl3=> ?_)
 refine SK (Kr a_ b) Wt d [] (λk0 s0=> [(7,.o 147204 s0),(9,.i (k0:Int))]) [7,9] (λ_ _=> []) [] (λy0=> [(7,.o 147354 y0)]) [0,4,5,7,8,9] (λ_=> []) [4,5] (λk0 s0=>zG s0<=k0) (X4 [(1280,147204)] (by kernel_rfl)) (by simp) (λk0 s0 hk0 U=> ?_) (λk0 s0 hk0 U=> ?_) (λy0 hD0=> ?_)
 ·have hA0_0:=U.2;obtain ⟨a0,V⟩:=Xs (l:=d) (i:=k0) hk0;refine Qc <| su Qa [(27,.b true)] [] [] [] (pl 2 d (pe 3 (zB ((k0:Int)<(d.length:Int))) p0)) <| ckT <| Qe <| Qc <| Qt <| Qc <| jn [(10,.b ((a_.2.2.2.1 !=b.2.2.2.1)&&(C6 a0.2)))] [27] [] [] (a_.2.2.2.1 !=b.2.2.2.1) (λh4=> ?_) (λh4=> ?_) ?_
  ·refine rn Qa [0,4,5,6,7,8,9,10] [4,5] (pt 4 h4 (pn 8 V (pc 11 (WQ a0.2) p0))) ?_;exact zA (by rw[h4]<;>kernel_rfl)
  ·refine ru Qa [(10,.b false)] [27] [] [] (pf 4 h4 p0) ?_;exact zA (by rw[h4]<;>kernel_rfl)
  refine sn Qa [0,4,5,6,7,8,9,10,11] [4,5] (pn 2 V (pc 5 (JA a0.2) p0)) <| Qc <| tn Qa [0,4,5,6,7,8,9,10,11,12] [4,5] p0 <| mz [(11,.o 3072 (K2 a0.2)),(12,.i 0)] [] [] [] <| wT 11 0 (.own true 3072) (K2 a0.2) (λhw5 hl6=> ?_)
  refine Pa (Hg a_ b) Hh (K2 a0.2) ((a_.2.2.2.1 !=b.2.2.2.1)&&(C6 a0.2)) (λk1 s1=> [(10,.b s1),(12,.i (k1:Int))]) [10,12] (λy1=> [(10,.b y1)]) [10,11,12] wf0 (λk1 s1 hk1 hI1=> ?_) (λk1 s1 hk1 hI1=> ?_) (λy1 hD1=> ?_)
  ·obtain ⟨a1,hx1⟩:=Xs (l:=K2 a0.2) (i:=k1) hk1;refine Qc <| su Qa [(52,.b true)] [] [] [] (pl 2 (K2 a0.2) (pe 3 (zB ((k1:Int)<((K2 a0.2).length:Int))) p0)) <| ckT <| Qe <| Qc <| Qt <| jn [(10,.b (s1|| (Wg (W9 a_ b) a1)))] [10,52] [] [] s1 (λh7=> ?_) (λh7=> ?_) ?_
   ·refine ru Qa [(10,.b true)] [10,52] [] [] (pt 0 h7 p0) ?_;exact zA (by rw[h7]<;>kernel_rfl)
   ·refine rn Qa [0,4,5,6,7,8,9,10,11,12] [4,5] (pf 0 h7 (pN 5 hx1 (pc 7 (Mt (W9 a_ b) a1) p0))) ?_;exact zA (by rw[h7]<;>kernel_rfl)
   refine rn Qa [0,4,5,6,7,8,9,10,11,12] [4,5] (pe 1 (J6 (Ql k1 (by omega))) p0) ?_;exact xw _ (Qp hx1 (rfl) hI1)
  ·exact Qc <| su Qa [(52,.b false)] [] [] [] (pl 2 (K2 a0.2) (pe 3 (zC ((k1:Int)<((K2 a0.2).length:Int))) p0)) <| ckF <| Q9 <| xw _ (Xt hk1 (rfl) hI1)
  refine su Qa [(64,.b y1)] [10] [] [] p0 <| ck y1 (λh8=> ?_) (λh8=> ?_)
  ·refine wT 7 0 (.own true 147204) s0 (λhw9 hl10=> ?_);refine ru Qa [(7,.one (.slc (.own true 4608) 1 ((eL s0)++ [[.s a0.1]])))] [7,64] [] [] (pn 3 V (pa s0 [a0.1] p0)) ?_;refine eqn [(7,.o 4608 (s0++ [a0.1]))] [7] [] [] (by rw[show ((eL s0)++ [[.s a0.1]])=(eL (s0++ [a0.1])) from We (rfl) (rfl)];first | done | kernel_rfl) ?_;refine rn Qa [0,4,5,6,7,8,9] [4,5] (pe 1 (J6 (Ql k0 (by omega))) p0) ?_;exact zK (s0++ [a0.1]) (zT (X4 [(4608,147204)] (by kernel_rfl)) ⟨Qp V (Uc hD1 (Xm h8 (rfl))) U.1,by first|omega|(simp;omega) | simp⟩)
  refine Qe <| rn Qa [0,4,5,6,7,8,9] [4,5] (pe 1 (J6 (Ql k0 (by omega))) p0) ?_
  exact xw s0 ⟨Qp V (Uc hD1 (Qn h8 (rfl))) U.1,by first|omega|(simp;omega) | simp⟩
 ·have hA0_0:=U.2;exact Qc <| su Qa [(27,.b false)] [] [] [] (pl 2 d (pe 3 (zC ((k0:Int)<(d.length:Int))) p0)) <| ckF <| Q9 <| zK _ (zT (X4 [(147204,147354)] (by kernel_rfl)) (Xt hk0 (rfl) U.1))
 exact sn Qa [6] [] p0 <| Qh <| po0 [] (Qn h1 (Uc hD0 (rfl)))
def H2 (_:Nat) (a0:ByteArray) (s0:Z):Rd Z Z Z:=(.next (Kg s0 a0))
def H3 (_:Nat) (s0:Z):Z:=s0
def Wu (a2:Yc) (_:Nat) (a3:ByteArray) (s3:Z):Rd (Rd (Rd Z Z Z) Z Z) Z Z:=(bif (Wg s3 a3) then (.next (Kg s3 a2.1)) else (.next s3))
def H4 (_:Nat) (s3:Z):Z:=s3
def Wv (_:Nat) (a2:Yc) (s2:Z):Rd (Rd Z Z Z) Z Z:=(Out.on (X7 (Wu a2) H4 (V9 a2.2) 0 s2) (λy3=>(.next y3)))
def H5 (_:Nat) (s2:Z):Z:=s2
def Ww (d:List Yc) (_:Nat) (s1:Z):Rd Z Z Z:=(Out.on (X7 Wv H5 d 0 s1) (λy2=>(.next y2)))
def H6 (_:Nat) (s1:Z):Z:=s1
def Y3 (d:List Yc) (names:Z):Z:=(Out.on (X7 H2 H3 names 0 []) (λy0=>(Out.on (U1 (Ww d) H6 ((d.length:Int)+1).toNat 0 y0) (λy1=>y1))))
def WS (N s:Z):Prop:=YG s/\∀x,x∈s->x∈N
theorem WT {N s:Z} {x:ByteArray} (h:WS N s) (hx:x∈N):WS N (Kg s x):=by
 rw[P9];exact ⟨QE _ _ h.1,λy hy=>((Ml _ _ _).1 hy).elim (λe=>e▸hx) (h.2 y)⟩
theorem GR {names:Z} {d:List Yc} {s:Z} (h:WS (names++yM (·.1) d) s):zG s<=zG names+zG d:=by
 have:=JV (WK h.1) h.2;simpa using this
theorem Ad (d:List Yc) (names:Z) (hp:(zG names:Int)+zG d<=1000000):ACalls Tryz.prog 160 [.h d,.h names] (.o 0 (Y3 d names)):=by
 refine en Qa Tryz.func160 λw0 F0 hG=> ?_
 refine sn Qa [0,1,4] [] p0 <| tn Qa [0,1,4,5] [] p0 <| Qc <| tu Qa [(4,.e 0),(5,.one (.slc (.own true 704) 1 [])),(6,.i 0)] [] [] [] p0 <| wT 1 0 .sh names (λhw1 hl2=> ?_)
 refine Qcc H2 H3 names [] (λk0 s0=> [(5,.h s0),(6,.i (k0:Int))]) [5,6] (λy0=> [(5,.h y0)]) [1,5,6] (λ_ s0=>WS (names++yM (·.1) d) s0) (λy0=>WS (names++yM (·.1) d) y0) (Oe [] [704] [] [] (by kernel_rfl)) (by exact ⟨yS,λx hx=>by cases hx⟩) (λk0 s0 hk0 U=> ?_) (λk0 s0 hk0 U=> ?_) (λy0 hD0=> ?_)
 ·have hA0_0:=U.2;obtain ⟨a0,V⟩:=Xs (l:=names) (i:=k0) hk0;have hpl0:=GR hA0_0;refine Qc <| sn Qa [0,1,4,5,6,15] [] (pl 2 names (pe 3 (zB ((k0:Int)<(names.length:Int))) p0)) <| ckT <| Qe <| Qc <| Qt <| qn Qa [0,1,4,5,6] [] (pn 3 V (pc 5 (Ex s0 a0 (by omega)) p0)) ?_
  refine qu Qa [(5,.h (Kg s0 a0)),(6,.i ((k0+1:Nat):Int))] [5,6] [] [] (pe 1 (J6 (Ql k0 (by omega))) p0) ?_;exact xw (Kg s0 a0) ⟨Qp V (rfl) U.1,(by exact WT (by assumption) (yF _ (zS V)))⟩
 ·have hA0_0:=U.2;exact Qc <| sn Qa [0,1,4,5,6,15] [] (pl 2 names (pe 3 (zC ((k0:Int)<(names.length:Int))) p0)) <| ckF <| Q9 <| xw s0 ⟨Xt hk0 (rfl) U.1,by first|omega|(simp only[zX];omega)⟩
 have hD0_0:=hD0.2;refine Qc <| sn Qa [0,4,5,7] [] p0 <| mz [(7,.i 0)] [] [] [] <| wT 0 0 .sh d (λhw3 hl4=> ?_)
 refine Qlu (Ww d) H6 ((d.length:Int)+1).toNat y0 (λk1 s1=> [(5,.h s1),(7,.i (k1:Int))]) [5,7] (λy1=> [(5,.h y1)]) [0,5,7] (λ_ s1=>WS (names++yM (·.1) d) s1) (λy1=>WS (names++yM (·.1) d) y1) wf0 (by assumption) (λk1 s1 hk1 hI1=> ?_) (λk1 s1 hk1 hI1=> ?_) (λy1 hD1=> ?_)
 ·have hA1_0:=hI1.2;refine Qc <| sn Qa [0,4,5,7,27] [] (pl 2 d (pe 3 (zB ((k1:Int)<=(d.length:Int))) p0)) <| ckT <| Qe <| Qc <| Qt <| tn Qa [0,4,5,7,8] [] p0 <| mz [(8,.i 0)] [] [] [] <| Qcc Wv H5 d s1 (λk2 s2=> [(5,.h s2),(8,.i (k2:Int))]) [5,8] (λy2=> [(5,.h y2)]) [5,8] (λ_ s2=>WS (names++yM (·.1) d) s2) (λy2=>WS (names++yM (·.1) d) y2) wf0 (by assumption) (λk2 s2 hk2 hI2=> ?_) (λk2 s2 hk2 hI2=> ?_) (λy2 hD2=> ?_)
  ·have hA2_0:=hI2.2;obtain ⟨a2,hx2⟩:=Xs (l:=d) (i:=k2) hk2;refine Qc <| sn Qa [0,4,5,7,8,33] [] (pl 2 d (pe 3 (zB ((k2:Int)<(d.length:Int))) p0)) <| ckT <| Qe <| Qc <| Qt <| tn Qa [0,4,5,7,8,9] [] (pn 2 hx2 (pc 5 (WP a2.2) p0)) <| tu Qa [(9,.o 2624 (V9 a2.2)),(10,.i 0)] [] [] [] p0 <| wT 9 0 (.own true 2624) (V9 a2.2) (λhw5 hl6=> ?_)
   refine Qcc (Wu a2) H4 (V9 a2.2) s2 (λk3 s3=> [(5,.h s3),(10,.i (k3:Int))]) [5,10] (λy3=> [(5,.h y3)]) [5,9,10] (λ_ s3=>WS (names++yM (·.1) d) s3) (λy3=>WS (names++yM (·.1) d) y3) wf0 (by assumption) (λk3 s3 hk3 hI3=> ?_) (λk3 s3 hk3 hI3=> ?_) (λy3 hD3=> ?_)
   ·have hA3_0:=hI3.2;obtain ⟨a3,hx3⟩:=Xs (l:=V9 a2.2) (i:=k3) hk3;have hpl3:=GR hA3_0;refine Qc <| su Qa [(45,.b true)] [] [] [] (pl 2 (V9 a2.2) (pe 3 (zB ((k3:Int)<((V9 a2.2).length:Int))) p0)) <| ckT <| Qe <| Qc <| Qt <| sn Qa [0,4,5,7,8,9,10,53] [] (pN 3 hx3 (pc 5 (Mt s3 a3) p0)) <| ck (Wg s3 a3) (λh7=> ?_) (λh7=> ?_)
    ·refine qn Qa [0,4,5,7,8,9,10] [] (pn 3 hx2 (pc 6 (Ex s3 a2.1 (by omega)) p0)) ?_;refine qu Qa [(5,.h (Kg s3 a2.1)),(10,.i ((k3+1:Nat):Int))] [5,10,45] [] [] (pe 1 (J6 (Ql k3 (by omega))) p0) ?_;exact xw (Kg s3 a2.1) ⟨Qp hx3 (Xm h7 (rfl)) hI3.1,(by first | exact WT (by assumption) (yK _ (yC (zS hx2))) | assumption)⟩
    refine Qe <| qn Qa [0,4,5,7,8,9,10] [] (pe 1 (J6 (Ql k3 (by omega))) p0) ?_
    exact xw s3 ⟨Qp hx3 (Qn h7 (rfl)) hI3.1,(by first | exact WT (by assumption) (yK _ (yC (zS hx2))) | assumption)⟩
   ·have hA3_0:=hI3.2;exact Qc <| su Qa [(45,.b false)] [] [] [] (pl 2 (V9 a2.2) (pe 3 (zC ((k3:Int)<((V9 a2.2).length:Int))) p0)) <| ckF <| Q9 <| xw s3 ⟨Xt hk3 (rfl) hI3.1,by first|omega|(simp only[zX];omega)⟩
   have hD3_0:=hD3.2;refine rn Qa [0,4,5,7,8] [] (pe 1 (J6 (Ql k2 (by omega))) p0) ?_;exact xw y3 ⟨Qp hx2 (Uc hD3.1 (rfl)) hI2.1,(by assumption)⟩
  ·have hA2_0:=hI2.2;exact Qc <| sn Qa [0,4,5,7,8,33] [] (pl 2 d (pe 3 (zC ((k2:Int)<(d.length:Int))) p0)) <| ckF <| Q9 <| xw s2 ⟨Xt hk2 (rfl) hI2.1,by first|omega|(simp only[zX];omega)⟩
  have hD2_0:=hD2.2;refine rn Qa [0,4,5,7] [] (pe 1 (J6 (Ql k1 (by omega))) p0) ?_;exact xw y2 ⟨Wf hk1 (Uc hD2.1 (rfl)) hI1.1,(by assumption)⟩
 ·have hA1_0:=hI1.2;exact Qc <| sn Qa [0,4,5,7,27] [] (pl 2 d (pe 3 (zC ((k1:Int)<=(d.length:Int))) p0)) <| ckF <| Q9 <| xw s1 ⟨Cx hk1 (rfl) hI1.1,by first|omega|(simp only[zX];omega)⟩
 have hD1_0:=hD1.2;refine wT 5 0 .sh y1 (λhw8 hl9=> ?_);exact sn Qa [4] [] (po 2 (.flat) (px (Ga (n:=(([]:List (List PV)).length+((eL y1):List (List PV)).length)) (Iu (rfl) (Zs y1) (by first|omega|(simp only[zO,yA];omega) | (simp;omega) | simp))) (px (Ec (Df y1)) p0))) <| Qh <| po0 [] (Uc hD0.1 (Uc hD1.1 (rfl)))
def U5 (d:List Yc) (a_:Xx) (b:Xx):Z:=(Y3 d (K7 d a_ b))
theorem XE (d:List Yc) (a_:Xx) (b:Xx) (hp:(zG a_.2.2.2.2:Int)+zG b.2.2.2.2<=1073741000) (hd:zG d<=1000):ACalls Tryz.prog 156 [.h d,.a [.i a_.1,.i a_.2.1,.b a_.2.2.1,.i a_.2.2.2.1,.h a_.2.2.2.2],.a [.i b.1,.i b.2.1,.b b.2.2.1,.i b.2.2.2.1,.h b.2.2.2.2]] (.o 0 (U5 d a_ b)):=by
 refine en Qa Tryz.func156 λw0 F0 hG=> ?_
 have hdl:=DU d a_ b;exact sn Qa [0,4,5,6] [4,5] p0 <| tn Qa [6] [] (pc 4 (Pn d a_ b (by first|omega|(simp;omega))) (pc 5 (Ad d (K7 d a_ b) (by first|omega|(simp;omega))) p0)) <| Qh <| po0 [] (show U5 d a_ b=(Y3 d (K7 d a_ b)) from rfl)
def Uf (a_:List Qj) (names:Z) (_:Nat) (a0:Yc) (s0:List Qj):Rd ((List Qj)×Bool) (List Qj) (List Qj):=(bif (Wg names a0.1) then (.next (s0++ [((a0.1, []):Qj)])) else (.next (s0++ [(a0.1,(Xq a_ a0.1))])))
def Ht (_:Nat) (s0:List Qj):(List Qj):=s0
def C7 (s_:Xr) (d:List Yc) (names:Z) (k1:Nat) (k3:Nat) (a3:Yc) (s3:(List Qj)×Bool):Rd (Rd (Rd ((List Qj)×Bool) (List Qj) (List Qj)) ((List Qj)×Bool) (List Qj)) ((List Qj)×Bool) ((List Qj)×Bool):=(bif (((nth (((Xe d)).1) k3) !=(k1:Int))|| (!(Wg names a3.1))) then (.next (s3.1,s3.2)) else (bif (!(Kp (Yw s_ a3.2 s3.1) ((nth s3.1 k3).2))) then (.next (yV s3.1 k3 ((nth s3.1 k3).1,(Yw s_ a3.2 s3.1)),true)) else (.next (s3.1,s3.2))))
def Gn (_:Nat) (s3:(List Qj)×Bool):(List Qj)×Bool:=(s3.1,s3.2)
def Vt (s_:Xr) (d:List Yc) (names:Z) (k1:Nat) (s2:(List Qj)×Bool):Rd (Rd ((List Qj)×Bool) (List Qj) (List Qj)) ((List Qj)×Bool) (List Qj):=(bif s2.2 then (Out.on (X7 (C7 s_ d names k1) Gn d 0 (s2.1,false)) (λy3=>(.next (y3.1,y3.2)))) else (.brk s2.1))
def C8 (s_:Xr) (d:List Yc) (names:Z) (k1:Nat) (s1:List Qj):Rd ((List Qj)×Bool) (List Qj) (List Qj):=(Out.on (N1 (Vt s_ d names k1) (zG d*zG s_.2.1+2) (s1,true)) (λy2=>(.next y2)))
def Gp (_:Nat) (s1:List Qj):(List Qj):=s1
def K3 (s_:Xr) (d:List Yc) (a_:List Qj) (names:Z):(List Qj)×Bool:=(bif ((!(((Xe d)).2))|| (!(Xf s_))) then ([],false) else (Out.on (X7 (Uf a_ names) Ht d 0 []) (λy0=>(Out.on (U1 (C8 s_ d names) Gp ((K1 d)+1).toNat 0 y0) (λy1=>(y1,true))))))
theorem Qid (l:Z) (s:ByteArray):Wg l s=Qu l s:=by rw[xA,WR,Cm]
section
variable {s_:Xr} {d:List Yc} {a_:List Qj} {names:Z} {k1:Nat} {o:List Qj}
theorem Qdn (s_:Xr) (d:List Yc) (names:Z) (k1:Nat):Qc9 s_ d (Qq d).1 (onD d names) (k1:Int) (C7 s_ d names k1):=by
 intro k a o c hk;have ha:nth d k=a:=O9 hk;unfold C7 GI onD;rw[ha,JT,W5,←VZ,Qid];simp only[bne];cases (nth (Qq d).1 k==(k1:Int))<;>cases Qu names a.1<;>rfl
theorem GS (s_:Xr) (d:List Yc) (names:Z) (k1:Nat) (o:List Qj) (p:Int) (c:Bool):Qmm (Ky s_ d names k1 (o,p,c)) (Vt s_ d names k1 (o,c)):=by
 unfold Ky Vt;cases c with
 | false=>rfl
 | true=>
  simp only[cond_true];rw[YL (e:=Bs) (So s_ d names k1) (λ_ _=>rfl) d 0 o false rfl,YL (e:=Gn) (Qdn s_ d names k1) (λ_ _=>rfl) d 0 o false rfl];rfl
theorem RB (hS:((Xe d)).2=true) (h:EvS d ((Xe d)).1 (onD d names) s_.2.1 (k1:Int) o):∃o',whl (Vt s_ d names k1) (zG d*zG s_.2.1+2) (o,true)=some (.brk o')/\EvS d ((Xe d)).1 (onD d names) s_.2.1 ((k1:Int)+1) o':=by
 rw[W5] at hS h⊢;obtain ⟨o',p',h1,h2⟩:=Fv (p:=0) hS h;exact ⟨o',DT (GS s_ d names k1) _ o 0 true (o',p') h1,h2⟩
theorem Qli (hS:((Xe d)).2=true) (h:EvS d ((Xe d)).1 (onD d names) s_.2.1 (((k1:Nat)):Int) o):(whl (Vt s_ d names k1) (zG d*zG s_.2.1+2) (o,true)).isSome=true:=by
 obtain ⟨o',h1,_⟩:=RB hS h;rw[h1];rfl
theorem XF {y:List Qj} (hS:((Xe d)).2=true) (h:EvS d ((Xe d)).1 (onD d names) s_.2.1 (((k1:Nat)):Int) o) (hy:N1 (Vt s_ d names k1) (zG d*zG s_.2.1+2) (o,true)= .brk y):EvS d ((Xe d)).1 (onD d names) s_.2.1 ((((k1+1):Nat)):Int) y:=by
 obtain ⟨o',h1,h2⟩:=RB hS h;unfold N1 at hy;rw[h1] at hy;have e:o'=y:=by simpa using hy
 rw[←e,xB];exact h2
theorem Qdo:(∀k (a:Yc) s,Uf a_ names k a s= .next (s++ [(a.1,G9 a_ names a)])):=λk a s=>by
 unfold Uf G9;rw[Qid,←Qc0];cases Qu names a.1<;>rfl
theorem E3 (hy:X7 (Uf a_ names) Ht d 0 []= .brk o):EvS d ((Xe d)).1 (onD d names) s_.2.1 (((0:Nat)):Int) o:=by
 obtain ⟨h1,h2⟩:=R8 (L:=((Xe d)).1) (on:=onD d names) (fs:=s_.2.1) (g:=G9 a_ names) (f:=Uf a_ names) (e:=Ht) (d:=d) Qdo (λj _ hj=>by unfold onD at hj;unfold G9;rw[hj];rfl);rw[h1] at hy;have e:(d.map λa=>((a.1,G9 a_ names a):Qj))=o:=Out.brk.inj hy;rw[←e];exact h2
end
theorem JB (s_:Xr) (d:List Yc) (a_:List Qj) (names:Z):ACalls Tryz.prog 205 [.a [.h s_.1,.h s_.2.1,.i s_.2.2],.h d,.h a_,.h names] (.tup [(false, [.o 0 (((K3 s_ d a_ names)).1)]),(false, [.b (((K3 s_ d a_ names)).2)])]):=by
 refine en Qa Tryz.func205 λw0 F0 hG=> ?_
 refine sn Qa [1,2,3,4,8,9] [4] p0 <| tn Qa [1,2,3,4,8,9,10,11] [4] (pc 1 (Mn d) p0) <| Qc <| Qc <| mz [(4,.p 4 0),(8,.e 0),(9,.b false),(10,.o 1344 (((Xe d)).1)),(11,.b (((Xe d)).2))] [0] [(4, [.h s_.1,.h s_.2.1,.i s_.2.2])] [] <| jn [(30,.b ((!(((Xe d)).2))|| (!(Xf s_))))] [11] [] [] (!(((Xe d)).2)) (λh1=> ?_) (λh1=> ?_) ?_
 ·have h1n:(((Xe d)).2)=false:=Vp h1;refine ru Qa [(30,.b true)] [11] [] [] (pf 0 h1n (pe 1 (show .b (!false)= .b true from rfl) p0)) ?_;exact zA (by rw[h1]<;>kernel_rfl)
 ·have h1n:(((Xe d)).2)=true:=Zc h1;have h1nsf:=I7 h1n;refine rn Qa [1,2,3,4,8,9,10,30] [4] (pt 0 h1n (pe 1 (show .b (!true)= .b false from rfl) (pc 4 (Kk s_) p0))) ?_;exact zA (by rw[h1]<;>kernel_rfl)
 refine ck ((!(((Xe d)).2))|| (!(Xf s_))) (λh2=> ?_) (λh2=> ?_)
 ·exact sn Qa [1,2,3,4,8,9,10] [4] p0 <| Qh <| pz [] (show K3 s_ d a_ names=_ from Xm h2 (rfl)) (λz=> .tup [(false, [.o 0 z.1]),(false, [.b z.2])])
 have h2l:((!(((Xe d)).2)))=false:=Rw h2;have h2ln:(((Xe d)).2)=true:=Zc h2l;have h2lnsf:=I7 h2ln;have h2r:((!(Xf s_)))=false:=Pr h2;have h2rn:(Xf s_)=true:=Zc h2r;refine Qe <| sn Qa [1,2,3,4,8,9,10,12] [4] p0 <| Qc <| tn Qa [1,2,3,4,8,9,10,12,13] [4] p0 <| mz [(12,.one (.slc (.own true 2048) 2 [])),(13,.i 0)] [30] [] [] <| wT 1 0 .sh d (λhw3 hl4=> ?_)
 refine ZQ (Uf a_ names) Ht d [] (λk0 s0=> [(12,.o 147207 s0),(13,.i (k0:Int))]) [12,13] (λy0=> [(12,.o 147357 y0)]) [2,12,13] (λk0 s0=>zG s0<=k0) (X4 [(2048,147207)] (by kernel_rfl)) (by simp) (λk0 s0 hk0 U=> ?_) (λk0 s0 hk0 U=> ?_) (λy0 hD0=> ?_)
 ·have hA0_0:=U.2;obtain ⟨a0,V⟩:=Xs (l:=d) (i:=k0) hk0;refine Qc <| su Qa [(36,.b true)] [] [] [] (pl 2 d (pe 3 (zB ((k0:Int)<(d.length:Int))) p0)) <| ckT <| Qe <| Qc <| Qt <| sN Qa Zt [1,2,3,4,8,9,10,12,13,14] [4,14] (pn 2 V (pn 8 V (pc 11 (Ft a_ a0.1) p0))) <| Qc <| tn Qa [1,2,3,4,8,9,10,12,13,14,55] [4,14] (pc 3 (Mt names a0.1) p0) <| ck (Wg names a0.1) (λh5=> ?_) (λh5=> ?_)
  ·refine qu Qa [(14,.p 14 0)] [36] [(14, [.s a0.1,.slc (.own true 3584) 1 []])] [] p0 ?_;refine wT 12 0 (.own true 147207) s0 (λhw6 hl7=> ?_);refine ru Qa [(12,.one (.slc (.own true 3904) 2 ((eL s0)++ [[.s a0.1,.slc 1 []]])))] [12,14] [] [14] (pa s0 [((a0.1, []):Qj)] p0) ?_;refine eqn [(12,.o 3904 (s0++ [((a0.1, []):Qj)]))] [12] [] [] (by rw[show ((eL s0)++ [[.s a0.1,.slc 1 []]])=(eL (s0++ [((a0.1, []):Qj)])) from We (rfl) (rfl)];first | done | kernel_rfl) ?_;refine rn Qa [1,2,3,4,8,9,10,12,13] [4] (pe 1 (J6 (Ql k0 (by omega))) p0) ?_;exact zK (s0++ [((a0.1, []):Qj)]) (zT (X4 [(3904,147207)] (by kernel_rfl)) ⟨Qp V (Xm h5 (rfl)) U.1,by first|omega|(simp;omega) | simp⟩)
  refine Qe <| wT 12 0 (.own true 147207) s0 (λhw8 hl9=> ?_)
  refine qu Qa [(12,.one (.slc (.own true 3904) 2 ((eL s0)++ [[.s a0.1,.h (Xq a_ a0.1)]])))] [12,36] [] [] (pa s0 [(a0.1,(Xq a_ a0.1))] p0) ?_;refine eqn [(12,.o 3904 (s0++ [(a0.1,(Xq a_ a0.1))]))] [12] [] [] (by rw[show ((eL s0)++ [[.s a0.1,.h (Xq a_ a0.1)]])=(eL (s0++ [(a0.1,(Xq a_ a0.1))])) from We (rfl) (rfl)];first | done | kernel_rfl) ?_;refine rn Qa [1,2,3,4,8,9,10,12,13] [4] (pe 1 (J6 (Ql k0 (by omega))) p0) ?_;exact zK (s0++ [(a0.1,(Xq a_ a0.1))]) (zT (X4 [(3904,147207)] (by kernel_rfl)) ⟨Qp V (Qn h5 (rfl)) U.1,by first|omega|(simp;omega) | simp⟩)
 ·have hA0_0:=U.2;exact Qc <| su Qa [(36,.b false)] [] [] [] (pl 2 d (pe 3 (zC ((k0:Int)<(d.length:Int))) p0)) <| ckF <| Q9 <| zK _ (zT (X4 [(147207,147357)] (by kernel_rfl)) (Xt hk0 (rfl) U.1))
 refine Qc <| su Qa [(15,.i 0)] [] [] [] p0 <| Qf2 (C8 s_ d names) Gp ((K1 d)+1).toNat y0 (λk1 s1=> [(12,.o 147357 s1),(15,.i (k1:Int))]) [12,15] (λ_ _=> []) [] (λy1=> [(12,.o 147357 y1)]) [1,3,4,10,12,15] (λ_=> []) [4] (λk1 s1=>EvS d ((Xe d)).1 (onD d names) s_.2.1 (((k1:Nat)):Int) s1/\zG s1=zG d) wf0 ⟨(by first | exact E3 hD0 | exact E3 hD0.1 | exact Bx (fs:=s_.2.1) (E3 hD0) | exact Bx (fs:=s_.2.1) (E3 hD0.1)),(by first | exact E3 hD0 | exact E3 hD0.1 | exact Bx (fs:=s_.2.1) (E3 hD0) | exact Bx (fs:=s_.2.1) (E3 hD0.1))⟩ (λk1 s1 hk1 hI1=> ?_) (λk1 s1 hk1 hI1=> ?_) (λy1 hD1=> ?_)
 ·have hA1_0:=hI1.2.1;have hA1_1:=hI1.2.2;refine Qc <| su Qa [(65,.b true)] [] [] [] (pc 2 (D5 d) (pe 3 (zB ((k1:Int)<=(K1 d))) p0)) <| ckT <| Qe <| Qc <| Qt <| su Qa [(16,.b true)] [65] [] [] p0 <| blw (λ(s2:(List Qj)×Bool)=> [(12,.o 147357 s2.1),(16,.b s2.2)]) [12,16] (λs2=> []) [] (λ(y2:List Qj)=> [(12,.o 147357 y2)]) [12,16] (λy2=> []) [] (λ(k2:Nat) (s2:(List Qj)×Bool)=>whl (Vt s_ d names k1) k2 s2=some (N1 (Vt s_ d names k1) (zG d*zG s_.2.1+2) (s1,true))/\zG s2.1=zG d) (λ(y2:List Qj)=>(N1 (Vt s_ d names k1) (zG d*zG s_.2.1+2) (s1,true))= .brk y2) (zG d*zG s_.2.1+2) (s1,true) wf0 ⟨Oc (Qli (by assumption) (by assumption)),(by assumption)⟩ (λ_ h=>Rv h.1) (λk2 s2 hI2=> ?_) (λy2 hD2=> ?_)
  ·have hA2_0:=hI2.2;refine Qc <| su Qa [(68,.b s2.2)] [] [] [] p0 <| ck s2.2 (λh10=> ?_) (λh10=> ?_)
   ·refine Qe <| Qt <| su Qa [(16,.b false)] [16,68] [] [] p0 <| su Qa [(17,.i 0)] [] [] [] p0 <| Qcc (C7 s_ d names k1) Gn d (s2.1,false) (λk3 s3=> [(12,.o 147357 s3.1),(16,.b s3.2),(17,.i (k3:Int))]) [12,16,17] (λy3=> [(12,.o 147357 y3.1),(16,.b y3.2)]) [12,16,17] (λ_ s3=>zG s3.1=zG s2.1) (λy3=>zG y3.1=zG s2.1) wf0 (by simp) (λk3 s3 hk3 hI3=> ?_) (λk3 s3 hk3 hI3=> ?_) (λy3 hD3=> ?_)
    ·have hA3_0:=hI3.2;obtain ⟨a3,hx3⟩:=Xs (l:=d) (i:=k3) hk3;refine Qc <| su Qa [(72,.b true)] [] [] [] (pl 2 d (pe 3 (zB ((k3:Int)<(d.length:Int))) p0)) <| ckT <| Qe <| Qc <| Qt <| Qc <| Qc <| jn [(90,.b (((nth (((Xe d)).1) k3) !=(k1:Int))|| (!(Wg names a3.1))))] [72] [] [] ((nth (((Xe d)).1) k3) !=(k1:Int)) (λh11=> ?_) (λh11=> ?_) ?_
     ·have h11d:=T8 h11;refine wT 10 0 (.own true 1344) (((Xe d)).1) (λhw13 hl14=> ?_);have hx12:=ng (((Xe d)).1) k3;refine ru Qa [(90,.b true)] [72] [] [] (pN 2 hx12 (pt 5 h11 p0)) ?_;exact zA (by rw[h11]<;>kernel_rfl)
     ·have h11d:=U8 h11;refine wT 10 0 (.own true 1344) (((Xe d)).1) (λhw16 hl17=> ?_);have hx15:=ng (((Xe d)).1) k3;refine rn Qa [1,3,4,8,9,10,12,15,16,17,90] [4] (pN 2 hx15 (pf 5 h11 (pn 10 hx3 (pc 13 (Mt names a3.1) p0)))) ?_;exact zA (by rw[h11]<;>kernel_rfl)
     refine ck (((nth (((Xe d)).1) k3) !=(k1:Int))|| (!(Wg names a3.1))) (λh18=> ?_) (λh18=> ?_)
     ·refine Q9 <| rn Qa [1,3,4,8,9,10,12,15,16,17] [4] (pe 1 (J6 (Ql k3 (by omega))) p0) ?_
      exact xw (s3.1,s3.2) ⟨Qp hx3 (Xm h18 (rfl)) hI3.1,(by first|omega|(simp only[zX];omega))⟩
     have h18l:(((nth (((Xe d)).1) k3) !=(k1:Int)))=false:=Rw h18;have h18ld:=U8 h18l;have h18r:((!(Wg names a3.1)))=false:=Pr h18;have h18rn:(Wg names a3.1)=true:=Zc h18r;refine Qe <| sN Qa Zt [1,3,4,8,9,10,12,15,16,17,18] [4] (pn 3 hx3 (pc 7 (Ns s_ a3.2 s3.1) p0)) <| wT 12 0 (.own true 147357) s3.1 (λhw20 hl21=> ?_)
     have hx19:=ng s3.1 k3;refine tn Qa [1,3,4,8,9,10,12,15,16,17,18,106] [4] (pN 3 hx19 (pc 6 (I2 (Yw s_ a3.2 s3.1) ((nth s3.1 k3).2)) p0)) <| ck (!(Kp (Yw s_ a3.2 s3.1) ((nth s3.1 k3).2))) (λh22=> ?_) (λh22=> ?_)
     ·have h22n:(Kp (Yw s_ a3.2 s3.1) ((nth s3.1 k3).2))=false:=Vp h22;refine tu Qa [(12,.one (.slc (.own true 147357) 2 (setRow (eL s3.1) k3 1 [.h (Yw s_ a3.2 s3.1)])))] [12,90] [] [] (pN 3 hx19 p0) <| eqn [(12,.o 147357 (yV s3.1 k3 ((nth s3.1 k3).1,(Yw s_ a3.2 s3.1))))] [12] [] [] (by rw[Vg (y:=((nth s3.1 k3).1,(Yw s_ a3.2 s3.1))) hx19 rfl]<;>kernel_rfl) ?_
      refine ru Qa [(16,.b true)] [16] [] [] p0 ?_;refine rn Qa [1,3,4,8,9,10,12,15,16,17] [4] (pe 1 (J6 (Ql k3 (by omega))) p0) ?_;exact xw (yV s3.1 k3 ((nth s3.1 k3).1,(Yw s_ a3.2 s3.1)),true) ⟨Qp hx3 (Qn h18 (Xm h22 (rfl))) hI3.1,(by first|omega|(simp only[zX];omega))⟩
     have h22n:(Kp (Yw s_ a3.2 s3.1) ((nth s3.1 k3).2))=true:=Zc h22;refine Qe <| qu Qa [(17,.i ((k3+1:Nat):Int))] [17,90] [] [] (pe 1 (J6 (Ql k3 (by omega))) p0) ?_
     exact xw (s3.1,s3.2) ⟨Qp hx3 (Qn h18 (Qn h22 (rfl))) hI3.1,(by first|omega|(simp only[zX];omega))⟩
    ·have hA3_0:=hI3.2;exact Qc <| su Qa [(72,.b false)] [] [] [] (pl 2 d (pe 3 (zC ((k3:Int)<(d.length:Int))) p0)) <| ckF <| Q9 <| xw (s3.1,s3.2) ⟨Xt hk3 (rfl) hI3.1,by first|omega|(simp only[zX];omega)⟩
    have hD3_0:=hD3.2;exact xw (y3.1,y3.2) ⟨wn hI2.1 (Xm h10 (Uc hD3.1 (rfl))),(by first|omega|(simp only[zX];omega))⟩
   exact Q9 <| xw _ (wb hI2.1 (Qn h10 (rfl)))
  refine rn Qa [1,3,4,8,9,10,12,15] [4] (pe 1 (J6 (Ql k1 (by omega))) p0) ?_;exact xw y2 ⟨Wf hk1 (Uc hD2 (rfl)) hI1.1,(by first | exact XF (by assumption) (by assumption) (by assumption) | exact Bx (fs:=s_.2.1) (XF (by assumption) (by assumption) (by assumption))),(by first | exact XF (by assumption) (by assumption) (by assumption) | exact Bx (fs:=s_.2.1) (XF (by assumption) (by assumption) (by assumption)))⟩
 ·have hA1_0:=hI1.2.1;have hA1_1:=hI1.2.2;exact Qc <| su Qa [(65,.b false)] [] [] [] (pc 2 (D5 d) (pe 3 (zC ((k1:Int)<=(K1 d))) p0)) <| ckF <| Q9 <| xw _ (Cx hk1 (rfl) hI1.1)
 exact sn Qa [8,9] [] p0 <| Qh <| pz [] (show K3 s_ d a_ names=_ from Qn h2 (Uc hD0 (Uc hD1 (rfl)))) (λz=> .tup [(false, [.o 0 z.1]),(false, [.b z.2])])
def Zb (s_:Xr) (f:Xx):Xr×Bool:=(bif ((!(Xf (Qf s_)))|| (decide ((Xc (Qf s_) f.1)<(0:Int))|| (!(X9 ((Qf s_).1) f)))) then ((Qf s_),false) else (((Qf s_).1,yV ((Qf s_).2.1) (Xc (Qf s_) f.1).toNat (Qr f),(Qf s_).2.2),true))
theorem MZ {s:Xr} {f:Xx} (h:(Zb s f).2=true):Xf s=true/\zG f.2.2.2.2<=5:=by
 unfold Zb at h;rw[Qgw] at h;cases hv:Xf s with
 | false=>rw[hv] at h;simp at h
 | true=>
  refine ⟨rfl, ?_⟩;cases hf:X9 s.1 f with
  | true=>exact Tm ((VX s.1 f).symm.trans hf)
  | false=>
   rw[hv,hf] at h;simp at h
theorem NA {s:Xr} (h:Xf s=true) (id:Int):zG (Xp s id).1.2.2.2.2<=5:=by
 unfold Xp;by_cases hc:Xc s id<(0:Int)
 . rw[decide_eq_true hc,cond_true];exact zZ _
 rw[decide_eq_false hc,cond_false];have hl:=YM s id;exact ZH ((Cz s).symm.trans h) (zS (Hb (l:=s.2.1) (i:=zP (Xc s id)) (by omega)))
theorem YR (s_:Xr) (f:Xx):ACalls Tryz.prog 155 [.a [.h s_.1,.h s_.2.1,.i s_.2.2],.a [.i f.1,.i f.2.1,.b f.2.2.1,.i f.2.2.2.1,.h f.2.2.2.2]] (.tup [(true, [.o 0 ((((Zb s_ f)).1).1),.o 1 ((((Zb s_ f)).1).2.1),.i ((((Zb s_ f)).1).2.2)]),(false, [.b (((Zb s_ f)).2)])]):=by
 refine en Qa Tryz.func155 λw0 F0 hG=> ?_
 refine sn Qa [2,3,4,5] [2,3,4] p0 <| tn Qa [2,3,4,5] [2,3,4] (pc 1 (La s_) p0) <| tu Qa [(2,.p 2 0),(3,.p 3 0),(4,.p 4 0),(5,.b false),(6,.i (Xc (Qf s_) f.1))] [0,1] [(2, [.o 512 ((Qf s_).1),.o 513 ((Qf s_).2.1),.i ((Qf s_).2.2)]),(3, [.i f.1,.i f.2.1,.b f.2.2.1,.i f.2.2.2.1,.h f.2.2.2.2]),(4, [.e 2,.e 5,.i 0])] [] (pc 3 (M8 (Qf s_) f.1) p0) <| Qc <| Qc <| jn [(26,.b ((!(Xf (Qf s_)))|| (decide ((Xc (Qf s_) f.1)<(0:Int))|| (!(X9 ((Qf s_).1) f)))))] [] [] [] (!(Xf (Qf s_))) (λh1=> ?_) (λh1=> ?_) ?_
 ·have h1n:(Xf (Qf s_))=false:=Vp h1;refine ru Qa [(26,.b true)] [] [] [] (pc 1 (cb h1n (Kk (Qf s_))) (pe 2 (show .b (!false)= .b true from rfl) p0)) ?_;exact zA (by rw[h1]<;>kernel_rfl)
 ·have h1n:(Xf (Qf s_))=true:=Zc h1;refine Yj (decide ((Xc (Qf s_) f.1)<(0:Int))) (λh2=> ?_) (λh2=> ?_)
  ·refine ru Qa [(26,.b true)] [] [] [] (pc 1 (cb h1n (Kk (Qf s_))) (pe 2 (show .b (!true)= .b false from rfl) (pt 5 h2 p0))) ?_;exact zA (by rw[h1,h2]<;>kernel_rfl)
  have h2p:=YM (Qf s_) f.1;refine rn Qa [2,3,4,5,6,26] [2,3,4] (pc 1 (cb h1n (Kk (Qf s_))) (pe 2 (show .b (!true)= .b false from rfl) (pf 5 h2 (pc 11 (Hp ((Qf s_).1) f) p0)))) ?_;exact zA (by rw[h1,h2]<;>kernel_rfl)
 refine ck ((!(Xf (Qf s_)))|| (decide ((Xc (Qf s_) f.1)<(0:Int))|| (!(X9 ((Qf s_).1) f)))) (λh3=> ?_) (λh3=> ?_)
 ·exact sn Qa [2,3,4,5,6] [2,3,4] p0 <| Qh <| pz [] (show Zb s_ f=_ from Xm h3 (rfl)) (λz=> .tup [(true, [.o 0 z.1.1,.o 1 z.1.2.1,.i z.1.2.2]),(false, [.b z.2])])
 have h3r:((decide ((Xc (Qf s_) f.1)<(0:Int))|| (!(X9 ((Qf s_).1) f))))=false:=Pr h3;have h3rl:(decide ((Xc (Qf s_) f.1)<(0:Int)))=false:=Rw h3r;have h3rlp:=YM (Qf s_) f.1;have h3rld:=of_decide_eq_false h3rl;refine Qe <| wB 2 1 (.own true 513) ((Qf s_).2.1) (λhw5 hl6=> ?_)
 have hx4:=ng ((Qf s_).2.1) (Xc (Qf s_) f.1).toNat;refine sU Qa Zt [] [3,6,26] [(2, [.o 512 ((Qf s_).1),.slc (.own true 513) 5 (setRow (eL ((Qf s_).2.1)) (Xc (Qf s_) f.1).toNat 0 [.i ((Qr f).1),.i ((Qr f).2.1),.b ((Qr f).2.2.1),.i ((Qr f).2.2.2.1),.h ((Qr f).2.2.2.2)]),.i ((Qf s_).2.2)])] [2,3] (pc 4 (I9 f) (pG 5 (Xc (Qf s_) f.1) hx4 p0)) <| eqn [] [] [(2, [.o 512 ((Qf s_).1),.o 513 (yV ((Qf s_).2.1) (Xc (Qf s_) f.1).toNat (Qr f)),.i ((Qf s_).2.2)])] [2] (by rw[Vg (y:=(Qr f)) hx4 rfl]<;>kernel_rfl) ?_
 exact sn Qa [4,5] [4] p0 <| Qh <| pz [] (show Zb s_ f=_ from Qn h3 (rfl)) (λz=> .tup [(true, [.o 0 z.1.1,.o 1 z.1.2.1,.i z.1.2.2]),(false, [.b z.2])])
def Nd (_:Nat) (a0:Yc) (s0:List Yc):Rd (List Yc) (List Yc) (List Yc):=(.next (s0++ [a0]))
def Nf (_:Nat) (s0:List Yc):(List Yc):=s0
def Wd (d:List Yc):(List Yc):=(Out.on (X7 Nd Nf d 0 []) (λy0=>y0))
theorem Aw (d:List Yc):ACalls Tryz.prog 96 [.h d] (.o 0 (Wd d)):=by
 refine en Qa Tryz.func96 λw0 F0 hG=> ?_
 refine sn Qa [0,2] [] p0 <| tn Qa [0,2,3] [] p0 <| Qc <| tu Qa [(2,.e 0),(3,.one (.slc (.own true 320) 2 [])),(4,.i 0)] [] [] [] p0 <| wT 0 0 .sh d (λhw1 hl2=> ?_)
 refine ZQ Nd Nf d [] (λk0 s0=> [(3,.o 147202 s0),(4,.i (k0:Int))]) [3,4] (λy0=> [(3,.o 147352 y0)]) [0,3,4] (λk0 s0=>zG s0<=k0) (X4 [(320,147202)] (by kernel_rfl)) (by simp) (λk0 s0 hk0 U=> ?_) (λk0 s0 hk0 U=> ?_) (λy0 hD0=> ?_)
 ·have hA0_0:=U.2;obtain ⟨a0,V⟩:=Xs (l:=d) (i:=k0) hk0;refine Qc <| sn Qa [0,2,3,4,9] [] (pl 2 d (pe 3 (zB ((k0:Int)<(d.length:Int))) p0)) <| ckT <| Qe <| Qc <| Qt ?_
  have hl3:zG a0.2<=1073741824:=Iz (CX (CW V (hw1)));refine wT 3 0 (.own true 147202) s0 (λhw4 hl5=> ?_);refine qU Qa Zt [(3,.one (.slc (.own true 1728) 2 ((eL s0)++ [[.s a0.1,.slc 7 ([]++(eL a0.2))]])))] [3] [] [] (pn 3 V (pn 9 V (po 12 (.flat) (px (Ga (n:=(([]:List (List PV)).length+((eL a0.2):List (List PV)).length)) (Iu (rfl) (Zs a0.2) (by first|omega|(simp only[zO,yA];omega) | (simp;omega) | simp))) (px (Ec (Df a0.2)) (px (Ga (n:=(((eL s0):List (List PV)).length+([[.s a0.1,.slc 7 ([]++(eL a0.2))]]:List (List PV)).length)) (Iu (Zs s0) (rfl) (by first|omega|(simp only[zO,yA];omega) | (simp;omega) | simp))) p0)))))) ?_;refine eqn [(3,.o 1728 (s0++ [a0]))] [3] [] [] (by rw[show ((eL s0)++ [[.s a0.1,.slc 7 ([]++(eL a0.2))]])=(eL (s0++ [a0])) from We (rfl) (rfl)];first | done | kernel_rfl) ?_;refine rn Qa [0,2,3,4] [] (pe 1 (J6 (Ql k0 (by omega))) p0) ?_;exact zK (s0++ [a0]) (zT (X4 [(1728,147202)] (by kernel_rfl)) ⟨Qp V (rfl) U.1,by first|omega|(simp;omega) | simp⟩)
 ·have hA0_0:=U.2;exact Qc <| sn Qa [0,2,3,4,9] [] (pl 2 d (pe 3 (zC ((k0:Int)<(d.length:Int))) p0)) <| ckF <| Q9 <| zK _ (zT (X4 [(147202,147352)] (by kernel_rfl)) (Xt hk0 (rfl) U.1))
 exact sn Qa [2] [] p0 <| Qh <| po0 [] (Uc hD0 (rfl))
def C9 (x:Yc) (_:Nat) (a0:Yc) (s0:(List Yc)×Bool):Rd ((List Yc)×Bool) ((List Yc)×Bool) ((List Yc)×Bool):=(bif ((!s0.2)&&(!(Op.bytesLess a0.1.toList x.1.toList))) then (bif (!(a0.1.toList==x.1.toList)) then (.next (s0.1++ [x]++ [a0],true)) else (.next (s0.1++ [x],true))) else (bif (!(a0.1.toList==x.1.toList)) then (.next (s0.1++ [a0],s0.2)) else (.next (s0.1,s0.2))))
def F6 (_:Nat) (s0:(List Yc)×Bool):(List Yc)×Bool:=(s0.1,s0.2)
def Zv (d:List Yc) (x:Yc):(List Yc)×Bool:=(bif (!(Yo d)) then ((Wd d),false) else (Out.on (X7 (C9 x) F6 d 0 ([],false)) (λy0=>(bif (!y0.2) then (bif (!(Yo (y0.1++ [x]))) then ((Wd d),false) else ((Wd (y0.1++ [x])),true)) else (bif (!(Yo y0.1)) then ((Wd d),false) else ((Wd y0.1),true))))))
theorem GT (d:List Yc) (x:Yc):ACalls Tryz.prog 158 [.h d,.a [.s x.1,.h x.2]] (.tup [(false, [.o 0 (((Zv d x)).1)]),(false, [.b (((Zv d x)).2)])]):=by
 refine en Qa Tryz.func158 λw0 F0 hG=> ?_
 refine sn Qa [0,3,4,5] [3] p0 <| Qc <| tn Qa [0,3,4,5,11] [3] (pc 1 (Hn d) p0) <| ck (!(Yo d)) (λh1=> ?_) (λh1=> ?_)
 ·exact tu Qa [(3,.p 3 0),(4,.o 832 (Wd d)),(5,.b false)] [1] [(3, [.s x.1,.h x.2])] [] (pc 1 (Aw d) p0) <| Qh <| pz [] (show Zv d x=_ from Xm h1 (rfl)) (λz=> .tup [(false, [.o 0 z.1]),(false, [.b z.2])])
 have h1n:(Yo d)=true:=Zc h1;have h1nv:=Qcu h1n;have h1nl:=Ub ((B2 _).trans h1n);refine Qe <| tu Qa [(3,.p 3 0),(4,.e 0),(5,.b false),(6,.one (.slc (.own true 896) 2 []))] [1] [(3, [.s x.1,.h x.2])] [] p0 <| sn Qa [0,3,4,5,6,7] [3] p0 <| Qc <| tn Qa [0,3,4,5,6,7,8] [3] p0 <| mz [(7,.b false),(8,.i 0)] [] [] [] <| wT 0 0 .sh d (λhw2 hl3=> ?_)
 refine Qcc (C9 x) F6 d ([],false) (λk0 s0=> [(6,.q 147204 s0.1),(7,.b s0.2),(8,.i (k0:Int))]) [6,7,8] (λy0=> [(6,.q 147354 y0.1),(7,.b y0.2)]) [6,7,8] (λk0 s0=>zG s0.1<=2*k0) (λy0=>zG y0.1<=10) (Oe [] [] [896] [(896,147204)] (by kernel_rfl)) (by simp) (λk0 s0 hk0 U=> ?_) (λk0 s0 hk0 U=> ?_) (λy0 hD0=> ?_)
 ·have hA0_0:=U.2;obtain ⟨a0,V⟩:=Xs (l:=d) (i:=k0) hk0;refine Qc <| su Qa [(18,.b true)] [] [] [] (pl 2 d (pe 3 (zB ((k0:Int)<(d.length:Int))) p0)) <| ckT <| Qe <| Qc <| Qt <| Qc <| Qc <| jn [(32,.b ((!s0.2)&&(!(Op.bytesLess a0.1.toList x.1.toList))))] [18] [] [] (!s0.2) (λh4=> ?_) (λh4=> ?_) ?_
  ·have h4n:(s0.2)=false:=Vp h4;refine rN Qa Zt [0,3,4,5,6,7,8,32] [3] (pf 0 h4n (pe 1 (show .b (!false)= .b true from rfl) (pn 5 V p0))) ?_;exact zA (by rw[h4]<;>kernel_rfl)
  ·have h4n:(s0.2)=true:=Zc h4;refine rU Qa Zt [(32,.b false)] [18] [] [] (pt 0 h4n (pe 1 (show .b (!true)= .b false from rfl) p0)) ?_;exact zA (by rw[h4]<;>kernel_rfl)
  refine ck ((!s0.2)&&(!(Op.bytesLess a0.1.toList x.1.toList))) (λh5=> ?_) (λh5=> ?_)
  ·refine wT 6 0 (.own false 147204) s0.1 (λhw6 hl7=> ?_);refine su Qa [(6,.one (.slc (.own false 2304) 2 ((eL s0.1)++ [[.s x.1,.h x.2]])))] [6,32] [] [] (pa s0.1 [x] p0) <| eqn [(6,.q 2304 (s0.1++ [x]))] [6] [] [] (by rw[show ((eL s0.1)++ [[.s x.1,.h x.2]])=(eL (s0.1++ [x])) from We (rfl) (rfl)];first | done | kernel_rfl) ?_
   refine ru Qa [(7,.b true)] [7] [] [] p0 ?_;refine sN Qa Zt [0,3,4,5,6,7,8,44] [3] (pn 2 V p0) <| ck (!(a0.1.toList==x.1.toList)) (λh8=> ?_) (λh8=> ?_)
   ·refine wT 6 0 (.own false 2304) (s0.1++ [x]) (λhw9 hl10=> ?_);refine qu Qa [(6,.one (.slc (.own false 3264) 2 ((eL (s0.1++ [x]))++ [[.s a0.1,.h a0.2]])))] [6] [] [] (pn 3 V (pa (s0.1++ [x]) [a0] p0)) ?_;refine eqn [(6,.q 3264 (s0.1++ [x]++ [a0]))] [6] [] [] (by rw[show ((eL (s0.1++ [x]))++ [[.s a0.1,.h a0.2]])=(eL (s0.1++ [x]++ [a0])) from We (rfl) (rfl)];first | done | kernel_rfl) ?_;refine rn Qa [0,3,4,5,6,7,8] [3] (pe 1 (J6 (Ql k0 (by omega))) p0) ?_;exact zK (s0.1++ [x]++ [a0],true) (zT (X4 [(3264,147204)] (by kernel_rfl)) ⟨Qp V (Xm h5 (Xm h8 (rfl))) U.1,(by first|omega|(simp;omega))⟩)
   refine Qe <| qn Qa [0,3,4,5,6,7,8] [3] (pe 1 (J6 (Ql k0 (by omega))) p0) ?_
   exact zK (s0.1++ [x],true) (zT (X4 [(2304,147204)] (by kernel_rfl)) ⟨Qp V (Xm h5 (Qn h8 (rfl))) U.1,(by first|omega|(simp;omega))⟩)
  refine Qe <| sN Qa Zt [0,3,4,5,6,7,8,44] [3] (pn 2 V p0) <| ck (!(a0.1.toList==x.1.toList)) (λh11=> ?_) (λh11=> ?_)
  ·refine wT 6 0 (.own false 147204) s0.1 (λhw12 hl13=> ?_);refine qu Qa [(6,.one (.slc (.own false 3264) 2 ((eL s0.1)++ [[.s a0.1,.h a0.2]])))] [6,32] [] [] (pn 3 V (pa s0.1 [a0] p0)) ?_;refine eqn [(6,.q 3264 (s0.1++ [a0]))] [6] [] [] (by rw[show ((eL s0.1)++ [[.s a0.1,.h a0.2]])=(eL (s0.1++ [a0])) from We (rfl) (rfl)];first | done | kernel_rfl) ?_;refine rn Qa [0,3,4,5,6,7,8] [3] (pe 1 (J6 (Ql k0 (by omega))) p0) ?_;exact zK (s0.1++ [a0],s0.2) (zT (X4 [(3264,147204)] (by kernel_rfl)) ⟨Qp V (Qn h5 (Xm h11 (rfl))) U.1,(by first|omega|(simp;omega))⟩)
  refine Qe <| qn Qa [0,3,4,5,6,7,8] [3] (pe 1 (J6 (Ql k0 (by omega))) p0) ?_
  exact xw (s0.1,s0.2) ⟨Qp V (Qn h5 (Qn h11 (rfl))) U.1,(by first|omega|(simp;omega))⟩
 ·have hA0_0:=U.2;exact Qc <| su Qa [(18,.b false)] [] [] [] (pl 2 d (pe 3 (zC ((k0:Int)<(d.length:Int))) p0)) <| ckF <| Q9 <| zK (s0.1,s0.2) (zT (X4 [(147204,147354)] (by kernel_rfl)) ⟨Xt hk0 (rfl) U.1,by first|omega|(simp only[zX];omega)⟩)
 have hD0_0:=hD0.2;refine Qc <| sn Qa [0,3,4,5,6,53] [3] p0 <| ck (!y0.2) (λh14=> ?_) (λh14=> ?_)
 ·refine wT 6 0 (.own false 147354) y0.1 (λhw15 hl16=> ?_);refine qu Qa [(6,.one (.slc (.own false 3648) 2 ((eL y0.1)++ [[.s x.1,.h x.2]])))] [3,6,7] [] [3] (pa y0.1 [x] p0) ?_;refine eqn [(6,.q 3648 (y0.1++ [x]))] [6] [] [] (by rw[show ((eL y0.1)++ [[.s x.1,.h x.2]])=(eL (y0.1++ [x])) from We (rfl) (rfl)];first | done | kernel_rfl) ?_;refine Qc <| sn Qa [0,4,5,6,60] [] (pc 1 (Hn (y0.1++ [x])) p0) <| ck (!(Yo (y0.1++ [x]))) (λh17=> ?_) (λh17=> ?_)
  ·exact tn Qa [4,5,6] [] (pc 1 (Aw d) p0) <| Qh <| pz [] (show Zv d x=_ from Qn h1 (Uc hD0.1 (Xm h14 (Xm h17 (rfl))))) (λz=> .tup [(false, [.o 0 z.1]),(false, [.b z.2])])
  have h17n:(Yo (y0.1++ [x]))=true:=Zc h17;have h17nl:=Ub ((B2 _).trans h17n);exact Qe <| tn Qa [4,5] [] (pc 1 (Aw (y0.1++ [x])) p0) <| Qh <| pz [] (show Zv d x=_ from Qn h1 (Uc hD0.1 (Xm h14 (Qn h17 (rfl))))) (λz=> .tup [(false, [.o 0 z.1]),(false, [.b z.2])])
 refine Qe <| Qc <| tn Qa [0,4,5,6,60] [] (pc 1 (Hn y0.1) p0) <| ck (!(Yo y0.1)) (λh18=> ?_) (λh18=> ?_)
 ·exact tu Qa [(4,.o 3968 (Wd d))] [0,3,4,7] [] [3] (pc 1 (Aw d) p0) <| Qh <| pz [] (show Zv d x=_ from Qn h1 (Uc hD0.1 (Qn h14 (Xm h18 (rfl))))) (λz=> .tup [(false, [.o 0 z.1]),(false, [.b z.2])])
 have h18n:(Yo y0.1)=true:=Zc h18;have h18nl:=Ub ((B2 _).trans h18n);exact Qe <| tu Qa [(4,.o 4096 (Wd y0.1)),(5,.b true)] [0,3,4,5,6,7] [] [3] (pc 1 (Aw y0.1) p0) <| Qh <| pz [] (show Zv d x=_ from Qn h1 (Uc hD0.1 (Qn h14 (Qn h18 (rfl))))) (λz=> .tup [(false, [.o 0 z.1]),(false, [.b z.2])])
def Ir (name:ByteArray) (_:Nat) (a0:Yc) (s0:List Yc):Rd ((List Yc)×Bool) (List Yc) (List Yc):=(bif (!(a0.1.toList==name.toList)) then (.next (s0++ [a0])) else (.next s0))
def Is (_:Nat) (s0:List Yc):(List Yc):=s0
def Ka (d:List Yc) (name:ByteArray):(List Yc)×Bool:=(bif ((!(Yo d))|| decide ((Xn d name)<(0:Int))) then ((Wd d),false) else (Out.on (X7 (Ir name) Is d 0 []) (λy0=>((Wd y0),true))))
theorem Qgx {d:List Yc} {nm:ByteArray} (h:(Ka d nm).2=true):zG d<=5:=by
 unfold Ka at h;cases hv:Yo d with
 | false=>rw[hv] at h;simp at h
 | true=>exact Ub ((B2 d).trans hv)
theorem WU (d:List Yc) (name:ByteArray):ACalls Tryz.prog 161 [.h d,.s name] (.tup [(false, [.o 0 (((Ka d name)).1)]),(false, [.b (((Ka d name)).2)])]):=by
 refine en Qa Tryz.func161 λw0 F0 hG=> ?_
 refine sn Qa [0,1,4,5] [] p0 <| Qc <| Qc <| mz [(4,.e 0),(5,.b false)] [] [] [] <| jn [(16,.b ((!(Yo d))|| decide ((Xn d name)<(0:Int))))] [] [] [] (!(Yo d)) (λh1=> ?_) (λh1=> ?_) ?_
 ·have h1n:(Yo d)=false:=Vp h1;refine rn Qa [0,1,4,5,16] [] (pc 1 (cb h1n (Hn d)) (pe 2 (show .b (!false)= .b true from rfl) p0)) ?_;exact zA (by rw[h1]<;>kernel_rfl)
 ·have h1n:(Yo d)=true:=Zc h1;have h1nv:=Qcu h1n;have h1nl:=Ub ((B2 _).trans h1n);refine rn Qa [0,1,4,5,16] [] (pc 1 (cb h1n (Hn d)) (pe 2 (show .b (!true)= .b false from rfl) (pc 6 (M3 d name) p0))) ?_;exact zA (by rw[h1]<;>kernel_rfl)
 refine ck ((!(Yo d))|| decide ((Xn d name)<(0:Int))) (λh2=> ?_) (λh2=> ?_)
 ·exact sn Qa [0,1,4,5] [] (pc 1 (Aw d) p0) <| Qh <| pz [] (show Ka d name=_ from Xm h2 (rfl)) (λz=> .tup [(false, [.o 0 z.1]),(false, [.b z.2])])
 have h2l:((!(Yo d)))=false:=Rw h2;have h2ln:(Yo d)=true:=Zc h2l;have h2lnv:=Qcu h2ln;have h2lnl:=Ub ((B2 _).trans h2ln);have h2r:(decide ((Xn d name)<(0:Int)))=false:=Pr h2;have h2rd:=of_decide_eq_false h2r;refine Qe <| sn Qa [0,1,4,5,6] [] p0 <| Qc <| tn Qa [0,1,4,5,6,7] [] p0 <| mz [(6,.one (.slc (.own true 1216) 2 [])),(7,.i 0)] [16] [] [] <| wT 0 0 .sh d (λhw3 hl4=> ?_)
 refine ZQ (Ir name) Is d [] (λk0 s0=> [(6,.q 147204 s0),(7,.i (k0:Int))]) [6,7] (λy0=> [(6,.q 147354 y0)]) [0,1,6,7] (λk0 s0=>zG s0<=k0) (Oe [] [] [1216] [(1216,147204)] (by kernel_rfl)) (by simp) (λk0 s0 hk0 U=> ?_) (λk0 s0 hk0 U=> ?_) (λy0 hD0=> ?_)
 ·have hA0_0:=U.2;obtain ⟨a0,V⟩:=Xs (l:=d) (i:=k0) hk0;refine Qc <| su Qa [(23,.b true)] [] [] [] (pl 2 d (pe 3 (zB ((k0:Int)<(d.length:Int))) p0)) <| ckT <| Qe <| Qc <| Qt <| sn Qa [0,1,4,5,6,7,32] [] (pn 2 V p0) <| ck (!(a0.1.toList==name.toList)) (λh5=> ?_) (λh5=> ?_)
  ·refine wT 6 0 (.own false 147204) s0 (λhw6 hl7=> ?_);refine qu Qa [(6,.one (.slc (.own false 2496) 2 ((eL s0)++ [[.s a0.1,.h a0.2]])))] [6,23] [] [] (pn 3 V (pa s0 [a0] p0)) ?_;refine eqn [(6,.q 2496 (s0++ [a0]))] [6] [] [] (by rw[show ((eL s0)++ [[.s a0.1,.h a0.2]])=(eL (s0++ [a0])) from We (rfl) (rfl)];first | done | kernel_rfl) ?_;refine rn Qa [0,1,4,5,6,7] [] (pe 1 (J6 (Ql k0 (by omega))) p0) ?_;exact zK (s0++ [a0]) (zT (X4 [(2496,147204)] (by kernel_rfl)) ⟨Qp V (Xm h5 (rfl)) U.1,by first|omega|(simp;omega) | simp⟩)
  refine Qe <| qn Qa [0,1,4,5,6,7] [] (pe 1 (J6 (Ql k0 (by omega))) p0) ?_
  exact xw s0 ⟨Qp V (Qn h5 (rfl)) U.1,by first|omega|(simp;omega) | simp⟩
 ·have hA0_0:=U.2;exact Qc <| su Qa [(23,.b false)] [] [] [] (pl 2 d (pe 3 (zC ((k0:Int)<(d.length:Int))) p0)) <| ckF <| Q9 <| zK _ (zT (X4 [(147204,147354)] (by kernel_rfl)) (Xt hk0 (rfl) U.1))
 exact sn Qa [4,5] [] (pc 1 (Aw y0) p0) <| Qh <| pz [] (show Ka d name=_ from Qn h2 (Uc hD0 (rfl))) (λz=> .tup [(false, [.o 0 z.1]),(false, [.b z.2])])
def Sr (a_:List Int) (_:Nat) (a0:Int) (s0:List Int):Rd ((List Int)×(List Int)) (List Int) (List Int):=(bif (!(Wi a_ a0)) then (.next (s0++ [a0])) else (.next s0))
def Ss (_:Nat) (s0:List Int):(List Int):=s0
def Su (b:List Int) (_:Nat) (a1:Int) (s1:List Int):Rd ((List Int)×(List Int)) (List Int) (List Int):=(bif (!(Wi b a1)) then (.next (s1++ [a1])) else (.next s1))
def Sv (_:Nat) (s1:List Int):(List Int):=s1
def Zm (a_:List Int) (b:List Int):(List Int)×(List Int):=(Out.on (X7 (Sr a_) Ss b 0 []) (λy0=>(Out.on (X7 (Su b) Sv a_ 0 []) (λy1=>(y0,y1)))))
theorem DV (a_:List Int) (b:List Int):ACalls Tryz.prog 110 [.h a_,.h b] (.tup [(false, [.o 0 (((Zm a_ b)).1)]),(false, [.o 1 (((Zm a_ b)).2)])]):=by
 refine en Qa Tryz.func110 λw0 F0 hG=> ?_
 refine sn Qa [0,1,4,5] [] p0 <| tn Qa [0,1,4,5,6] [] p0 <| tu Qa [(4,.e 0),(5,.e 0),(6,.one (.slc (.own true 640) 1 [])),(7,.one (.slc (.own true 704) 1 []))] [] [] [] p0 <| Qc <| su Qa [(8,.i 0)] [] [] [] p0 <| wT 1 0 .sh b (λhw1 hl2=> ?_)
 refine ZQ (Sr a_) Ss b [] (λk0 s0=> [(6,.o 147204 s0),(8,.i (k0:Int))]) [6,8] (λy0=> [(6,.o 147354 y0)]) [6,8] (λk0 s0=>zG s0<=k0) (X4 [(640,147204)] (by kernel_rfl)) (by simp) (λk0 s0 hk0 U=> ?_) (λk0 s0 hk0 U=> ?_) (λy0 hD0=> ?_)
 ·have hA0_0:=U.2;obtain ⟨a0,V⟩:=Xs (l:=b) (i:=k0) hk0;refine Qc <| su Qa [(15,.b true)] [] [] [] (pl 2 b (pe 3 (zB ((k0:Int)<(b.length:Int))) p0)) <| ckT <| Qe <| Qc <| Qt <| sn Qa [0,1,4,5,6,7,8,24] [] (pn 3 V (pc 5 (D2 a_ a0) p0)) <| ck (!(Wi a_ a0)) (λh3=> ?_) (λh3=> ?_)
  ·refine wT 6 0 (.own true 147204) s0 (λhw4 hl5=> ?_);refine qu Qa [(6,.one (.slc (.own true 1984) 1 ((eL s0)++ [[.i a0]])))] [6,15] [] [] (pn 3 V (pa s0 [a0] p0)) ?_;refine eqn [(6,.o 1984 (s0++ [a0]))] [6] [] [] (by rw[show ((eL s0)++ [[.i a0]])=(eL (s0++ [a0])) from We (rfl) (rfl)];first | done | kernel_rfl) ?_;refine rn Qa [0,1,4,5,6,7,8] [] (pe 1 (J6 (Ql k0 (by omega))) p0) ?_;exact zK (s0++ [a0]) (zT (X4 [(1984,147204)] (by kernel_rfl)) ⟨Qp V (Xm h3 (rfl)) U.1,by first|omega|(simp;omega) | simp⟩)
  refine Qe <| qn Qa [0,1,4,5,6,7,8] [] (pe 1 (J6 (Ql k0 (by omega))) p0) ?_
  exact xw s0 ⟨Qp V (Qn h3 (rfl)) U.1,by first|omega|(simp;omega) | simp⟩
 ·have hA0_0:=U.2;exact Qc <| su Qa [(15,.b false)] [] [] [] (pl 2 b (pe 3 (zC ((k0:Int)<(b.length:Int))) p0)) <| ckF <| Q9 <| zK _ (zT (X4 [(147204,147354)] (by kernel_rfl)) (Xt hk0 (rfl) U.1))
 refine Qc <| su Qa [(9,.i 0)] [] [] [] p0 <| wT 0 0 .sh a_ (λhw6 hl7=> ?_)
 refine ZQ (Su b) Sv a_ [] (λk1 s1=> [(7,.o 147205 s1),(9,.i (k1:Int))]) [7,9] (λy1=> [(7,.o 147355 y1)]) [0,1,7,9] (λk1 s1=>zG s1<=k1) (X4 [(704,147205)] (by kernel_rfl)) (by simp) (λk1 s1 hk1 hI1=> ?_) (λk1 s1 hk1 hI1=> ?_) (λy1 hD1=> ?_)
 ·have hA1_0:=hI1.2;obtain ⟨a1,hx1⟩:=Xs (l:=a_) (i:=k1) hk1;refine Qc <| su Qa [(35,.b true)] [] [] [] (pl 2 a_ (pe 3 (zB ((k1:Int)<(a_.length:Int))) p0)) <| ckT <| Qe <| Qc <| Qt <| sn Qa [0,1,4,5,6,7,9,44] [] (pn 3 hx1 (pc 5 (D2 b a1) p0)) <| ck (!(Wi b a1)) (λh8=> ?_) (λh8=> ?_)
  ·refine wT 7 0 (.own true 147205) s1 (λhw9 hl10=> ?_);refine qu Qa [(7,.one (.slc (.own true 3264) 1 ((eL s1)++ [[.i a1]])))] [7,35] [] [] (pn 3 hx1 (pa s1 [a1] p0)) ?_;refine eqn [(7,.o 3264 (s1++ [a1]))] [7] [] [] (by rw[show ((eL s1)++ [[.i a1]])=(eL (s1++ [a1])) from We (rfl) (rfl)];first | done | kernel_rfl) ?_;refine rn Qa [0,1,4,5,6,7,9] [] (pe 1 (J6 (Ql k1 (by omega))) p0) ?_;exact zK (s1++ [a1]) (zT (X4 [(3264,147205)] (by kernel_rfl)) ⟨Qp hx1 (Xm h8 (rfl)) hI1.1,by first|omega|(simp;omega) | simp⟩)
  refine Qe <| qn Qa [0,1,4,5,6,7,9] [] (pe 1 (J6 (Ql k1 (by omega))) p0) ?_
  exact xw s1 ⟨Qp hx1 (Qn h8 (rfl)) hI1.1,by first|omega|(simp;omega) | simp⟩
 ·have hA1_0:=hI1.2;exact Qc <| su Qa [(35,.b false)] [] [] [] (pl 2 a_ (pe 3 (zC ((k1:Int)<(a_.length:Int))) p0)) <| ckF <| Q9 <| zK _ (zT (X4 [(147205,147355)] (by kernel_rfl)) (Xt hk1 (rfl) hI1.1))
 exact sn Qa [4,5] [] p0 <| Qh <| pz [] (show Zm a_ b=_ from Uc hD0 (Uc hD1 (rfl))) (λz=> .tup [(false, [.o 0 z.1]),(false, [.o 1 z.2])])
def Mu (a_:List Qj) (_:Nat) (a0:Qj) (s0:List Ef):Rd (List Ef) (List Ef) (List Ef):=(bif (decide (((((Zm (Xq a_ a0.1) a0.2)).1).length:Int)>(0:Int))|| decide (((((Zm (Xq a_ a0.1) a0.2)).2).length:Int)>(0:Int))) then (.next (s0++ [(a0.1,((Zm (Xq a_ a0.1) a0.2)).1,((Zm (Xq a_ a0.1) a0.2)).2)])) else (.next s0))
def Mv (_:Nat) (s0:List Ef):(List Ef):=s0
def Cq (a_:List Qj) (b:List Qj):(List Ef):=(Out.on (X7 (Mu a_) Mv b 0 []) (λy0=>y0))
theorem Ny (a_:List Qj) (b:List Qj):ACalls Tryz.prog 61 [.h a_,.h b] (.o 0 (Cq a_ b)):=by
 refine en Qa Tryz.func61 λw0 F0 hG=> ?_
 refine sn Qa [0,1,4] [] p0 <| tn Qa [0,1,4,5] [] p0 <| Qc <| tu Qa [(4,.e 0),(5,.one (.slc (.own true 576) 3 [])),(6,.i 0)] [] [] [] p0 <| wT 1 0 .sh b (λhw1 hl2=> ?_)
 refine ZQ (Mu a_) Mv b [] (λk0 s0=> [(5,.o 147203 s0),(6,.i (k0:Int))]) [5,6] (λy0=> [(5,.o 147353 y0)]) [0,1,5,6] (λk0 s0=>zG s0<=k0) (X4 [(576,147203)] (by kernel_rfl)) (by simp) (λk0 s0 hk0 U=> ?_) (λk0 s0 hk0 U=> ?_) (λy0 hD0=> ?_)
 ·have hA0_0:=U.2;obtain ⟨a0,V⟩:=Xs (l:=b) (i:=k0) hk0;refine Qc <| sn Qa [0,1,4,5,6,13] [] (pl 2 b (pe 3 (zB ((k0:Int)<(b.length:Int))) p0)) <| ckT <| Qe <| Qc <| Qt <| tN Qa Zt [0,1,4,5,6,7,8] [] (pn 3 V (pc 6 (Ft a_ a0.1) (pn 9 V (pc 12 (DV (Xq a_ a0.1) a0.2) p0)))) <| Qc <| mz [(7,.o 1856 (((Zm (Xq a_ a0.1) a0.2)).1)),(8,.o 1857 (((Zm (Xq a_ a0.1) a0.2)).2))] [] [] [] <| jn [(39,.b (decide (((((Zm (Xq a_ a0.1) a0.2)).1).length:Int)>(0:Int))|| decide (((((Zm (Xq a_ a0.1) a0.2)).2).length:Int)>(0:Int))))] [] [] [] (decide (((((Zm (Xq a_ a0.1) a0.2)).1).length:Int)>(0:Int))) (λh3=> ?_) (λh3=> ?_) ?_
  ·refine ru Qa [(39,.b true)] [] [] [] (pl 1 (((Zm (Xq a_ a0.1) a0.2)).1) (pt 2 h3 p0)) ?_;exact zA (by rw[h3]<;>kernel_rfl)
  ·refine rn Qa [0,1,4,5,6,7,8,39] [] (pl 1 (((Zm (Xq a_ a0.1) a0.2)).1) (pf 2 h3 (pl 5 (((Zm (Xq a_ a0.1) a0.2)).2) p0))) ?_;exact zA (by rw[h3]<;>kernel_rfl)
  refine ck (decide (((((Zm (Xq a_ a0.1) a0.2)).1).length:Int)>(0:Int))|| decide (((((Zm (Xq a_ a0.1) a0.2)).2).length:Int)>(0:Int))) (λh4=> ?_) (λh4=> ?_)
  ·refine wT 5 0 (.own true 147203) s0 (λhw5 hl6=> ?_);refine ru Qa [(5,.one (.slc (.own true 3200) 3 ((eL s0)++ [[.s a0.1,.h (((Zm (Xq a_ a0.1) a0.2)).1),.h (((Zm (Xq a_ a0.1) a0.2)).2)]])))] [5,7,8,39] [] [] (pn 3 V (pa s0 [(a0.1,((Zm (Xq a_ a0.1) a0.2)).1,((Zm (Xq a_ a0.1) a0.2)).2)] p0)) ?_;refine eqn [(5,.o 3200 (s0++ [(a0.1,((Zm (Xq a_ a0.1) a0.2)).1,((Zm (Xq a_ a0.1) a0.2)).2)]))] [5] [] [] (by rw[show ((eL s0)++ [[.s a0.1,.h (((Zm (Xq a_ a0.1) a0.2)).1),.h (((Zm (Xq a_ a0.1) a0.2)).2)]])=(eL (s0++ [(a0.1,((Zm (Xq a_ a0.1) a0.2)).1,((Zm (Xq a_ a0.1) a0.2)).2)])) from We (rfl) (rfl)];first | done | kernel_rfl) ?_;refine rn Qa [0,1,4,5,6] [] (pe 1 (J6 (Ql k0 (by omega))) p0) ?_;exact zK (s0++ [(a0.1,((Zm (Xq a_ a0.1) a0.2)).1,((Zm (Xq a_ a0.1) a0.2)).2)]) (zT (X4 [(3200,147203)] (by kernel_rfl)) ⟨Qp V (Xm h4 (rfl)) U.1,by first|omega|(simp;omega) | simp⟩)
  have h4l:(decide (((((Zm (Xq a_ a0.1) a0.2)).1).length:Int)>(0:Int)))=false:=Rw h4;have h4ld:=of_decide_eq_false h4l;have h4r:(decide (((((Zm (Xq a_ a0.1) a0.2)).2).length:Int)>(0:Int)))=false:=Pr h4;have h4rd:=of_decide_eq_false h4r;refine Qe <| rn Qa [0,1,4,5,6] [] (pe 1 (J6 (Ql k0 (by omega))) p0) ?_
  exact xw s0 ⟨Qp V (Qn h4 (rfl)) U.1,by first|omega|(simp;omega) | simp⟩
 ·have hA0_0:=U.2;exact Qc <| sn Qa [0,1,4,5,6,13] [] (pl 2 b (pe 3 (zC ((k0:Int)<(b.length:Int))) p0)) <| ckF <| Q9 <| zK _ (zT (X4 [(147203,147353)] (by kernel_rfl)) (Xt hk0 (rfl) U.1))
 exact sn Qa [4] [] p0 <| Qh <| po0 [] (Uc hD0 (rfl))
def H7 (b:List Qj) (k0:Nat) (a0:Qj) (_:Unit):Rd (Bool) (Unit) (Unit):=(bif ((!(a0.1.toList==((nth b k0).1).toList))|| (!(Kp a0.2 ((nth b k0).2)))) then (.ret false) else (.next ()))
def Bp (_:Nat) (_:Unit):Unit:=()
def Ak (a_:List Qj) (b:List Qj):Bool:=(bif ((a_.length:Int) !=(b.length:Int)) then false else (Out.on (X7 (H7 b) Bp a_ 0 ()) (λ_=>true)))
theorem XG (a_:List Qj) (b:List Qj):ACalls Tryz.prog 99 [.h a_,.h b] (.b (Ak a_ b)):=by
 refine en Qa Tryz.func99 λw0 F0 hG=> ?_
 refine sn Qa [0,1,4] [] p0 <| Qc <| tn Qa [0,1,4,10] [] (pl 1 a_ (pl 3 b p0)) <| ck ((a_.length:Int) !=(b.length:Int)) (λh1=> ?_) (λh1=> ?_)
 ·exact tu Qa [(4,.b false)] [] [] [] p0 <| Qh <| pb [] (Xm h1 (rfl))
 have h1d:=U8 h1;refine Qe <| Qc <| tu Qa [(4,.b false),(5,.i 0)] [] [] [] p0 <| wT 0 0 .sh a_ (λhw2 hl3=> ?_)
 refine Pa (H7 b) Bp a_ () (λk0 _=> [(5,.i (k0:Int))]) [5] (λ_=> []) [0,1,5] wf0 (λk0 s0 hk0 U=> ?_) (λk0 s0 hk0 U=> ?_) (λy0 hD0=> ?_)
 ·obtain ⟨a0,V⟩:=Xs (l:=a_) (i:=k0) hk0;refine Qc <| sn Qa [0,1,4,5,14] [] (pl 2 a_ (pe 3 (zB ((k0:Int)<(a_.length:Int))) p0)) <| ckT <| Qe <| Qc <| Qt <| Qc <| mz [(14,.b true)] [] [] [] <| jn [(41,.b ((!(a0.1.toList==((nth b k0).1).toList))|| (!(Kp a0.2 ((nth b k0).2)))))] [14] [] [] (!(a0.1.toList==((nth b k0).1).toList)) (λh4=> ?_) (λh4=> ?_) ?_
  ·refine wT 1 0 .sh b (λhw6 hl7=> ?_);have hx5:=ng b k0;refine rN Qa Zt [0,1,4,5,41] [] (pn 2 V (pn 7 hx5 (pt 10 h4 p0))) ?_;exact zA (by rw[h4]<;>kernel_rfl)
  ·refine wT 1 0 .sh b (λhw9 hl10=> ?_);have hx8:=ng b k0;refine rN Qa Zt [0,1,4,5,41] [] (pn 2 V (pn 7 hx8 (pf 10 h4 (pn 14 V (pn 19 hx8 (pc 22 (I2 a0.2 ((nth b k0).2)) p0)))))) ?_;exact zA (by rw[h4]<;>kernel_rfl)
  refine ck ((!(a0.1.toList==((nth b k0).1).toList))|| (!(Kp a0.2 ((nth b k0).2)))) (λh11=> ?_) (λh11=> ?_)
  ·refine su Qa [] [41] [] [] p0 <| Qh ?_
   have hr12:(X7 (H7 b) Bp a_ 0 ())= .ret false:=Jr V (Xm h11 (rfl)) U;exact pb [] (Qn h1 (Nk hr12))
  refine Qe <| rn Qa [0,1,4,5] [] (pe 1 (J6 (Ql k0 (by omega))) p0) ?_
  exact xw _ (Qp V (Qn h11 (rfl)) U)
 ·exact Qc <| sn Qa [0,1,4,5,14] [] (pl 2 a_ (pe 3 (zC ((k0:Int)<(a_.length:Int))) p0)) <| ckF <| Q9 <| xw _ (Xt hk0 (rfl) U)
 exact sn Qa [4] [] p0 <| Qh <| pb [] (Qn h1 (Uc hD0 (rfl)))
def Xb (l:Xj):Bool:=(((Vl l.1 l.2.1)).2&&(Ak (((Vl l.1 l.2.1)).1) l.2.2))
theorem U6 {c:Xj} (h:Xb c=true):zG c.2.1<=5/\Xf c.1=true:=by
 unfold Xb at h;rw[WF] at h;cases he:(Jd c.1 c.2.1).2 with
 | false=>rw[he] at h;simp at h
 | true=>obtain ⟨h1,h2,_⟩:=WG he;exact ⟨h1,(Cz _).trans h2⟩
theorem Kj (l:Xj):ACalls Tryz.prog 58 [.a [.h l.1.1,.h l.1.2.1,.i l.1.2.2,.h l.2.1,.h l.2.2]] (.b (Xb l)):=by
 refine en Qa Tryz.func58 λw0 F0 hG=> ?_
 refine sn Qa [1,2] [1] p0 <| tn Qa [1,2,3,4] [1] (pc 4 (UZ l.1 l.2.1) p0) <| Qc <| mz [(1,.p 1 0),(2,.b false),(3,.o 640 (((Vl l.1 l.2.1)).1)),(4,.b (((Vl l.1 l.2.1)).2))] [0] [(1, [.h l.1.1,.h l.1.2.1,.i l.1.2.2,.h l.2.1,.h l.2.2])] [] <| jn [(2,.b (((Vl l.1 l.2.1)).2&&(Ak (((Vl l.1 l.2.1)).1) l.2.2)))] [1,2,3,4] [] [1] (((Vl l.1 l.2.1)).2) (λh1=> ?_) (λh1=> ?_) ?_
 ·refine rn Qa [2] [] (pt 0 h1 (pc 5 (XG (((Vl l.1 l.2.1)).1) l.2.2) p0)) ?_;exact zA (by rw[h1]<;>kernel_rfl)
 ·refine rn Qa [2] [] (pf 0 h1 p0) ?_;exact zA (by rw[h1]<;>kernel_rfl)
 exact Qh <| pb [] (show Xb l=(((Vl l.1 l.2.1)).2&&(Ak (((Vl l.1 l.2.1)).1) l.2.2)) from rfl)
def Gq (_:Nat) (a0:Qj) (s0:List Qj):Rd (List Qj) (List Qj) (List Qj):=(.next (s0++ [a0]))
def Gr (_:Nat) (s0:List Qj):(List Qj):=s0
def Dy (a_:List Qj):(List Qj):=(Out.on (X7 Gq Gr a_ 0 []) (λy0=>y0))
theorem JC (a_:List Qj):ACalls Tryz.prog 97 [.h a_] (.o 0 (Dy a_)):=by
 refine en Qa Tryz.func97 λw0 F0 hG=> ?_
 refine sn Qa [0,2] [] p0 <| tn Qa [0,2,3] [] p0 <| Qc <| tu Qa [(2,.e 0),(3,.one (.slc (.own true 320) 2 [])),(4,.i 0)] [] [] [] p0 <| wT 0 0 .sh a_ (λhw1 hl2=> ?_)
 refine ZQ Gq Gr a_ [] (λk0 s0=> [(3,.o 147202 s0),(4,.i (k0:Int))]) [3,4] (λy0=> [(3,.o 147352 y0)]) [0,3,4] (λk0 s0=>zG s0<=k0) (X4 [(320,147202)] (by kernel_rfl)) (by simp) (λk0 s0 hk0 U=> ?_) (λk0 s0 hk0 U=> ?_) (λy0 hD0=> ?_)
 ·have hA0_0:=U.2;obtain ⟨a0,V⟩:=Xs (l:=a_) (i:=k0) hk0;refine Qc <| sn Qa [0,2,3,4,9] [] (pl 2 a_ (pe 3 (zB ((k0:Int)<(a_.length:Int))) p0)) <| ckT <| Qe <| Qc <| Qt ?_
  have hl3:zG a0.2<=1073741824:=Iz (CX (CW V (hw1)));refine wT 3 0 (.own true 147202) s0 (λhw4 hl5=> ?_);refine qU Qa Zt [(3,.one (.slc (.own true 1728) 2 ((eL s0)++ [[.s a0.1,.slc 1 ([]++(eL a0.2))]])))] [3] [] [] (pn 3 V (pn 9 V (po 12 (.flat) (px (Ga (n:=(([]:List (List PV)).length+((eL a0.2):List (List PV)).length)) (Iu (rfl) (Zs a0.2) (by first|omega|(simp only[zO,yA];omega) | (simp;omega) | simp))) (px (Ec (Df a0.2)) (px (Ga (n:=(((eL s0):List (List PV)).length+([[.s a0.1,.slc 1 ([]++(eL a0.2))]]:List (List PV)).length)) (Iu (Zs s0) (rfl) (by first|omega|(simp only[zO,yA];omega) | (simp;omega) | simp))) p0)))))) ?_;refine eqn [(3,.o 1728 (s0++ [a0]))] [3] [] [] (by rw[show ((eL s0)++ [[.s a0.1,.slc 1 ([]++(eL a0.2))]])=(eL (s0++ [a0])) from We (rfl) (rfl)];first | done | kernel_rfl) ?_;refine rn Qa [0,2,3,4] [] (pe 1 (J6 (Ql k0 (by omega))) p0) ?_;exact zK (s0++ [a0]) (zT (X4 [(1728,147202)] (by kernel_rfl)) ⟨Qp V (rfl) U.1,by first|omega|(simp;omega) | simp⟩)
 ·have hA0_0:=U.2;exact Qc <| sn Qa [0,2,3,4,9] [] (pl 2 a_ (pe 3 (zC ((k0:Int)<(a_.length:Int))) p0)) <| ckF <| Q9 <| zK _ (zT (X4 [(147202,147352)] (by kernel_rfl)) (Xt hk0 (rfl) U.1))
 exact sn Qa [2] [] p0 <| Qh <| po0 [] (Uc hD0 (rfl))
def Qb (l:Xj):Xj:=((Qf l.1),(Wd l.2.1),(Dy l.2.2))
theorem Vc (l:Xj):ACalls Tryz.prog 57 [.a [.h l.1.1,.h l.1.2.1,.i l.1.2.2,.h l.2.1,.h l.2.2]] (.a [.o 0 ((Qb l).1.1),.o 1 ((Qb l).1.2.1),.i ((Qb l).1.2.2),.o 2 ((Qb l).2.1),.o 3 ((Qb l).2.2)]):=by
 refine en Qa Tryz.func57 λw0 F0 hG=> ?_
 exact sn Qa [1,2] [1,2] p0 <| tN Qa Zt [2] [2] (pc 2 (La l.1) (pc 5 (Aw l.2.1) (pc 8 (JC l.2.2) p0))) <| Qh <| pz [] (show Qb l=((Qf l.1),(Wd l.2.1),(Dy l.2.2)) from rfl) (λz=> .a [.o 0 z.1.1,.o 1 z.1.2.1,.i z.1.2.2,.o 2 z.2.1,.o 3 z.2.2])
def Ks (l:Xj) (s_:Xr) (d:List Yc) (names:Z):Xj×(List Ef):=((s_,d,((K3 s_ d l.2.2 names)).1),(Cq l.2.2 (((K3 s_ d l.2.2 names)).1)))
theorem F7 (l:Xj) (s_:Xr) (d:List Yc) (names:Z):ACalls Tryz.prog 152 [.a [.h l.1.1,.h l.1.2.1,.i l.1.2.2,.h l.2.1,.h l.2.2],.a [.h s_.1,.h s_.2.1,.i s_.2.2],.h d,.h names] (.tup [(true, [.h ((((Ks l s_ d names)).1).1.1),.h ((((Ks l s_ d names)).1).1.2.1),.i ((((Ks l s_ d names)).1).1.2.2),.h ((((Ks l s_ d names)).1).2.1),.h ((((Ks l s_ d names)).1).2.2)]),(false, [.h (((Ks l s_ d names)).2)])]):=by
 refine en Qa Tryz.func152 λw0 F0 hG=> ?_
 exact sn Qa [2,3,4,5,8,9] [4,5,8] p0 <| tn Qa [2,4,5,8,9,10] [4,5,8] (pc 5 (JB s_ d l.2.2 names) p0) <| tU Qa Zt [(8,.p 8 0),(9,.o 1792 (Cq l.2.2 (((K3 s_ d l.2.2 names)).1)))] [0,1,2,3] [(8, [.h s_.1,.h s_.2.1,.i s_.2.2,.h d,.o 1152 (((K3 s_ d l.2.2 names)).1)])] [] (pc 7 (Ny l.2.2 (((K3 s_ d l.2.2 names)).1)) p0) <| Qh <| pz [1152,1792] (show Ks l s_ d names=((s_,d,((K3 s_ d l.2.2 names)).1),(Cq l.2.2 (((K3 s_ d l.2.2 names)).1))) from rfl) (λz=> .tup [(true, [.h z.1.1.1,.h z.1.1.2.1,.i z.1.1.2.2,.h z.1.2.1,.h z.1.2.2]),(false, [.h z.2])])
def Zu (l:Xj) (f:Xx):Xj×Int×(List Ef)×Bool:=(bif ((!(Xb (Qb l)))|| (!(((Yl ((Qb l).1.1,(Qb l).1.2.1,(Qb l).1.2.2) f)).2.2))) then ((Qb l),0, [],false) else ((((Ks (Qb l) (((Yl ((Qb l).1.1,(Qb l).1.2.1,(Qb l).1.2.2) f)).1) ((Qb l).2.1) (Ua ((Qb l).2.1)))).1),((Yl ((Qb l).1.1,(Qb l).1.2.1,(Qb l).1.2.2) f)).2.1,((Ks (Qb l) (((Yl ((Qb l).1.1,(Qb l).1.2.1,(Qb l).1.2.2) f)).1) ((Qb l).2.1) (Ua ((Qb l).2.1)))).2,true))
theorem DW (l:Xj) (f:Xx):ACalls Tryz.prog 101 [.a [.h l.1.1,.h l.1.2.1,.i l.1.2.2,.h l.2.1,.h l.2.2],.a [.i f.1,.i f.2.1,.b f.2.2.1,.i f.2.2.2.1,.h f.2.2.2.2]] (.tup [(true, [.h ((((Zu l f)).1).1.1),.h ((((Zu l f)).1).1.2.1),.i ((((Zu l f)).1).1.2.2),.h ((((Zu l f)).1).2.1),.h ((((Zu l f)).1).2.2)]),(false, [.i (((Zu l f)).2.1)]),(false, [.h (((Zu l f)).2.2.1)]),(false, [.b (((Zu l f)).2.2.2)])]):=by
 refine en Qa Tryz.func101 λw0 F0 hG=> ?_
 refine sn Qa [2,3,4,5,6,7] [2,3,4] p0 <| tn Qa [2,3,4,5,6,7] [2,3,4] (pc 1 (Vc l) p0) <| tu Qa [(2,.p 2 0),(4,.p 4 0),(5,.i 0),(6,.e 0),(7,.b false),(8,.p 8 0),(9,.i (((Yl ((Qb l).1.1,(Qb l).1.2.1,(Qb l).1.2.2) f)).2.1)),(10,.b (((Yl ((Qb l).1.1,(Qb l).1.2.1,(Qb l).1.2.2) f)).2.2))] [0,1] [(2, [.o 896 ((Qb l).1.1),.o 897 ((Qb l).1.2.1),.i ((Qb l).1.2.2),.o 898 ((Qb l).2.1),.o 899 ((Qb l).2.2)]),(4, [.e 2,.e 5,.i 0,.e 2,.e 2]),(8, [.o 1216 ((((Yl ((Qb l).1.1,(Qb l).1.2.1,(Qb l).1.2.2) f)).1).1),.o 1217 ((((Yl ((Qb l).1.1,(Qb l).1.2.1,(Qb l).1.2.2) f)).1).2.1),.i ((((Yl ((Qb l).1.1,(Qb l).1.2.1,(Qb l).1.2.2) f)).1).2.2)])] [] (pc 3 (ZY ((Qb l).1.1,(Qb l).1.2.1,(Qb l).1.2.2) f) p0) <| Qc <| Qc <| jn [(29,.b ((!(Xb (Qb l)))|| (!(((Yl ((Qb l).1.1,(Qb l).1.2.1,(Qb l).1.2.2) f)).2.2))))] [10] [] [] (!(Xb (Qb l))) (λh1=> ?_) (λh1=> ?_) ?_
 ·have h1n:(Xb (Qb l))=false:=Vp h1;refine ru Qa [(29,.b true)] [10] [] [] (pc 1 (cb h1n (Kj (Qb l))) (pe 2 (show .b (!false)= .b true from rfl) p0)) ?_;exact zA (by rw[h1]<;>kernel_rfl)
 ·have h1n:(Xb (Qb l))=true:=Zc h1;have h1nc:=U6 h1n;refine rn Qa [2,4,5,6,7,8,9,29] [2,4,8] (pc 1 (cb h1n (Kj (Qb l))) (pe 2 (show .b (!true)= .b false from rfl) p0)) ?_;exact zA (by rw[h1]<;>kernel_rfl)
 refine ck ((!(Xb (Qb l)))|| (!(((Yl ((Qb l).1.1,(Qb l).1.2.1,(Qb l).1.2.2) f)).2.2))) (λh2=> ?_) (λh2=> ?_)
 ·exact sn Qa [2,4,5,6,7,8,9] [2,4,8] p0 <| Qh <| pz [896,897,898,899,1984] (show Zu l f=_ from Xm h2 (rfl)) (λz=> .tup [(true, [.h z.1.1.1,.h z.1.1.2.1,.i z.1.1.2.2,.h z.1.2.1,.h z.1.2.2]),(false, [.i z.2.1]),(false, [.h z.2.2.1]),(false, [.b z.2.2.2])])
 have h2l:((!(Xb (Qb l))))=false:=Rw h2;have h2ln:(Xb (Qb l))=true:=Zc h2l;have h2lnc:=U6 h2ln;exact Qe <| sN Qa Zt [4,5,6,7,9,11,12] [4,11] (pc 6 (Nc ((Qb l).2.1)) (pc 7 (F7 (Qb l) (((Yl ((Qb l).1.1,(Qb l).1.2.1,(Qb l).1.2.2) f)).1) ((Qb l).2.1) (Ua ((Qb l).2.1))) p0)) <| tn Qa [4,5,6,7] [4] p0 <| Qh <| pz [] (show Zu l f=_ from Qn h2 (rfl)) (λz=> .tup [(true, [.h z.1.1.1,.h z.1.1.2.1,.i z.1.1.2.2,.h z.1.2.1,.h z.1.2.2]),(false, [.i z.2.1]),(false, [.h z.2.2.1]),(false, [.b z.2.2.2])])
def Y7 (l:Xj) (f:Xx):Xj×(List Ef)×Bool:=(bif ((!(Xb (Qb l)))|| (!(((Zb ((Qb l).1.1,(Qb l).1.2.1,(Qb l).1.2.2) f)).2))) then ((Qb l), [],false) else ((((Ks (Qb l) (((Zb ((Qb l).1.1,(Qb l).1.2.1,(Qb l).1.2.2) f)).1) ((Qb l).2.1) (U5 ((Qb l).2.1) (((Xp ((Qb l).1.1,(Qb l).1.2.1,(Qb l).1.2.2) f.1)).1) f))).1),((Ks (Qb l) (((Zb ((Qb l).1.1,(Qb l).1.2.1,(Qb l).1.2.2) f)).1) ((Qb l).2.1) (U5 ((Qb l).2.1) (((Xp ((Qb l).1.1,(Qb l).1.2.1,(Qb l).1.2.2) f.1)).1) f))).2,true))
theorem JD (l:Xj) (f:Xx):ACalls Tryz.prog 103 [.a [.h l.1.1,.h l.1.2.1,.i l.1.2.2,.h l.2.1,.h l.2.2],.a [.i f.1,.i f.2.1,.b f.2.2.1,.i f.2.2.2.1,.h f.2.2.2.2]] (.tup [(true, [.h ((((Y7 l f)).1).1.1),.h ((((Y7 l f)).1).1.2.1),.i ((((Y7 l f)).1).1.2.2),.h ((((Y7 l f)).1).2.1),.h ((((Y7 l f)).1).2.2)]),(false, [.h (((Y7 l f)).2.1)]),(false, [.b (((Y7 l f)).2.2)])]):=by
 refine en Qa Tryz.func103 λw0 F0 hG=> ?_
 refine sn Qa [2,3,4,5,6] [2,3,4] p0 <| tn Qa [2,3,4,5,6] [2,3,4] (pc 1 (Vc l) p0) <| tu Qa [(2,.p 2 0),(3,.p 3 0),(4,.p 4 0),(5,.e 0),(6,.b false),(7,.p 7 0)] [0,1] [(2, [.o 896 ((Qb l).1.1),.o 897 ((Qb l).1.2.1),.i ((Qb l).1.2.2),.o 898 ((Qb l).2.1),.o 899 ((Qb l).2.2)]),(3, [.i f.1,.i f.2.1,.b f.2.2.1,.i f.2.2.2.1,.h f.2.2.2.2]),(4, [.e 2,.e 5,.i 0,.e 2,.e 2]),(7, [.i ((((Xp ((Qb l).1.1,(Qb l).1.2.1,(Qb l).1.2.2) f.1)).1).1),.i ((((Xp ((Qb l).1.1,(Qb l).1.2.1,(Qb l).1.2.2) f.1)).1).2.1),.b ((((Xp ((Qb l).1.1,(Qb l).1.2.1,(Qb l).1.2.2) f.1)).1).2.2.1),.i ((((Xp ((Qb l).1.1,(Qb l).1.2.1,(Qb l).1.2.2) f.1)).1).2.2.2.1),.o 1280 ((((Xp ((Qb l).1.1,(Qb l).1.2.1,(Qb l).1.2.2) f.1)).1).2.2.2.2)])] [] (pc 4 (Nb ((Qb l).1.1,(Qb l).1.2.1,(Qb l).1.2.2) f.1) p0) <| sn Qa [2,3,4,5,6,7,9,10] [2,3,4,7,9] (pc 3 (YR ((Qb l).1.1,(Qb l).1.2.1,(Qb l).1.2.2) f) p0) <| Qc <| Qc <| mz [(9,.p 9 0),(10,.b (((Zb ((Qb l).1.1,(Qb l).1.2.1,(Qb l).1.2.2) f)).2))] [] [(9, [.o 1728 ((((Zb ((Qb l).1.1,(Qb l).1.2.1,(Qb l).1.2.2) f)).1).1),.o 1729 ((((Zb ((Qb l).1.1,(Qb l).1.2.1,(Qb l).1.2.2) f)).1).2.1),.i ((((Zb ((Qb l).1.1,(Qb l).1.2.1,(Qb l).1.2.2) f)).1).2.2)])] [] <| jn [(36,.b ((!(Xb (Qb l)))|| (!(((Zb ((Qb l).1.1,(Qb l).1.2.1,(Qb l).1.2.2) f)).2))))] [10] [] [] (!(Xb (Qb l))) (λh1=> ?_) (λh1=> ?_) ?_
 ·have h1n:(Xb (Qb l))=false:=Vp h1;refine ru Qa [(36,.b true)] [10] [] [] (pc 1 (cb h1n (Kj (Qb l))) (pe 2 (show .b (!false)= .b true from rfl) p0)) ?_;exact zA (by rw[h1]<;>kernel_rfl)
 ·have h1n:(Xb (Qb l))=true:=Zc h1;have h1nc:=U6 h1n;refine rn Qa [2,3,4,5,6,7,9,36] [2,3,4,7,9] (pc 1 (cb h1n (Kj (Qb l))) (pe 2 (show .b (!true)= .b false from rfl) p0)) ?_;exact zA (by rw[h1]<;>kernel_rfl)
 refine ck ((!(Xb (Qb l)))|| (!(((Zb ((Qb l).1.1,(Qb l).1.2.1,(Qb l).1.2.2) f)).2))) (λh2=> ?_) (λh2=> ?_)
 ·exact sn Qa [2,3,4,5,6,7,9] [2,3,4,7,9] p0 <| Qh <| pz [896,897,898,899,2432] (show Y7 l f=_ from Xm h2 (rfl)) (λz=> .tup [(true, [.h z.1.1.1,.h z.1.1.2.1,.i z.1.1.2.2,.h z.1.2.1,.h z.1.2.2]),(false, [.h z.2.1]),(false, [.b z.2.2])])
 have h2l:((!(Xb (Qb l))))=false:=Rw h2;have h2ln:(Xb (Qb l))=true:=Zc h2l;have h2lnc:=U6 h2ln;have h2r:((!(((Zb ((Qb l).1.1,(Qb l).1.2.1,(Qb l).1.2.2) f)).2)))=false:=Pr h2;have h2rn:(((Zb ((Qb l).1.1,(Qb l).1.2.1,(Qb l).1.2.2) f)).2)=true:=Zc h2r;have h2rnr:=MZ h2rn;have h2rnf:=NA h2rnr.1 f.1;exact Qe <| sN Qa Zt [4,5,6,11,12] [4,11] (pc 8 (XE ((Qb l).2.1) (((Xp ((Qb l).1.1,(Qb l).1.2.1,(Qb l).1.2.2) f.1)).1) f (by omega) (by omega)) (pc 9 (F7 (Qb l) (((Zb ((Qb l).1.1,(Qb l).1.2.1,(Qb l).1.2.2) f)).1) ((Qb l).2.1) (U5 ((Qb l).2.1) (((Xp ((Qb l).1.1,(Qb l).1.2.1,(Qb l).1.2.2) f.1)).1) f)) p0)) <| tn Qa [4,5,6] [4] p0 <| Qh <| pz [] (show Y7 l f=_ from Qn h2 (rfl)) (λz=> .tup [(true, [.h z.1.1.1,.h z.1.1.2.1,.i z.1.1.2.2,.h z.1.2.1,.h z.1.2.2]),(false, [.h z.2.1]),(false, [.b z.2.2])])
def Y8 (l:Xj) (id:Int):Xj×(List Ef)×Bool:=(bif ((!(Xb (Qb l)))|| (!(((Zi ((Qb l).1.1,(Qb l).1.2.1,(Qb l).1.2.2) id)).2))) then ((Qb l), [],false) else ((((Ks (Qb l) (((Zi ((Qb l).1.1,(Qb l).1.2.1,(Qb l).1.2.2) id)).1) ((Qb l).2.1) (Ua ((Qb l).2.1)))).1),((Ks (Qb l) (((Zi ((Qb l).1.1,(Qb l).1.2.1,(Qb l).1.2.2) id)).1) ((Qb l).2.1) (Ua ((Qb l).2.1)))).2,true))
theorem JE (l:Xj) (id:Int):ACalls Tryz.prog 105 [.a [.h l.1.1,.h l.1.2.1,.i l.1.2.2,.h l.2.1,.h l.2.2],.i id] (.tup [(true, [.h ((((Y8 l id)).1).1.1),.h ((((Y8 l id)).1).1.2.1),.i ((((Y8 l id)).1).1.2.2),.h ((((Y8 l id)).1).2.1),.h ((((Y8 l id)).1).2.2)]),(false, [.h (((Y8 l id)).2.1)]),(false, [.b (((Y8 l id)).2.2)])]):=by
 refine en Qa Tryz.func105 λw0 F0 hG=> ?_
 refine sn Qa [1,2,4,5,6] [2,4] p0 <| tn Qa [1,2,4,5,6] [2,4] (pc 1 (Vc l) p0) <| tu Qa [(2,.p 2 0),(4,.p 4 0),(5,.e 0),(6,.b false),(7,.p 7 0),(8,.b (((Zi ((Qb l).1.1,(Qb l).1.2.1,(Qb l).1.2.2) id)).2))] [0,1] [(2, [.h ((Qb l).1.1),.h ((Qb l).1.2.1),.i ((Qb l).1.2.2),.o 770 ((Qb l).2.1),.o 771 ((Qb l).2.2)]),(4, [.e 2,.e 5,.i 0,.e 2,.e 2]),(7, [.h ((((Zi ((Qb l).1.1,(Qb l).1.2.1,(Qb l).1.2.2) id)).1).1),.h ((((Zi ((Qb l).1.1,(Qb l).1.2.1,(Qb l).1.2.2) id)).1).2.1),.i ((((Zi ((Qb l).1.1,(Qb l).1.2.1,(Qb l).1.2.2) id)).1).2.2)])] [] (pc 3 (ZZ ((Qb l).1.1,(Qb l).1.2.1,(Qb l).1.2.2) id) p0) <| Qc <| Qc <| jn [(26,.b ((!(Xb (Qb l)))|| (!(((Zi ((Qb l).1.1,(Qb l).1.2.1,(Qb l).1.2.2) id)).2))))] [8] [] [] (!(Xb (Qb l))) (λh1=> ?_) (λh1=> ?_) ?_
 ·have h1n:(Xb (Qb l))=false:=Vp h1;refine ru Qa [(26,.b true)] [8] [] [] (pc 1 (cb h1n (Kj (Qb l))) (pe 2 (show .b (!false)= .b true from rfl) p0)) ?_;exact zA (by rw[h1]<;>kernel_rfl)
 ·have h1n:(Xb (Qb l))=true:=Zc h1;have h1nc:=U6 h1n;refine rn Qa [2,4,5,6,7,26] [2,4,7] (pc 1 (cb h1n (Kj (Qb l))) (pe 2 (show .b (!true)= .b false from rfl) p0)) ?_;exact zA (by rw[h1]<;>kernel_rfl)
 refine ck ((!(Xb (Qb l)))|| (!(((Zi ((Qb l).1.1,(Qb l).1.2.1,(Qb l).1.2.2) id)).2))) (λh2=> ?_) (λh2=> ?_)
 ·exact sn Qa [2,4,5,6,7] [2,4,7] p0 <| Qh <| pz [770,771,1792] (show Y8 l id=_ from Xm h2 (rfl)) (λz=> .tup [(true, [.h z.1.1.1,.h z.1.1.2.1,.i z.1.1.2.2,.h z.1.2.1,.h z.1.2.2]),(false, [.h z.2.1]),(false, [.b z.2.2])])
 have h2l:((!(Xb (Qb l))))=false:=Rw h2;have h2ln:(Xb (Qb l))=true:=Zc h2l;have h2lnc:=U6 h2ln;exact Qe <| sN Qa Zt [4,5,6,9,10] [4,9] (pc 6 (Nc ((Qb l).2.1)) (pc 7 (F7 (Qb l) (((Zi ((Qb l).1.1,(Qb l).1.2.1,(Qb l).1.2.2) id)).1) ((Qb l).2.1) (Ua ((Qb l).2.1))) p0)) <| tn Qa [4,5,6] [4] p0 <| Qh <| pz [] (show Y8 l id=_ from Qn h2 (rfl)) (λz=> .tup [(true, [.h z.1.1.1,.h z.1.1.2.1,.i z.1.1.2.2,.h z.1.2.1,.h z.1.2.2]),(false, [.h z.2.1]),(false, [.b z.2.2])])
def Ke (d:List Yc):Bool:=((Xe d)).2
theorem TM {d:List Yc} (h:Ke d=true):zG d<=5:=by
 unfold Ke at h;rw[W5] at h;exact (Ez h).2.1
theorem XH (d:List Yc):ACalls Tryz.prog 159 [.h d] (.b (Ke d)):=by
 refine en Qa Tryz.func159 λw0 F0 hG=> ?_
 exact sn Qa [0,2] [] p0 <| tn Qa [2,4] [] (pc 1 (Mn d) p0) <| tu Qa [(2,.b (((Xe d)).2))] [0] [] [] p0 <| Qh <| pb [] (show Ke d=((Xe d)).2 from rfl)
def Y5 (l:Xj) (x:Yc):Xj×(List Ef)×Bool:=(bif ((!(Xb (Qb l)))|| ((!(((Zv ((Qb l).2.1) x)).2))|| (!(Ke (((Zv ((Qb l).2.1) x)).1))))) then ((Qb l), [],false) else ((((Ks (Qb l) ((Qb l).1.1,(Qb l).1.2.1,(Qb l).1.2.2) (((Zv ((Qb l).2.1) x)).1) (Y3 (((Zv ((Qb l).2.1) x)).1) [x.1]))).1),((Ks (Qb l) ((Qb l).1.1,(Qb l).1.2.1,(Qb l).1.2.2) (((Zv ((Qb l).2.1) x)).1) (Y3 (((Zv ((Qb l).2.1) x)).1) [x.1]))).2,true))
theorem WV (l:Xj) (x:Yc):ACalls Tryz.prog 106 [.a [.h l.1.1,.h l.1.2.1,.i l.1.2.2,.h l.2.1,.h l.2.2],.a [.s x.1,.h x.2]] (.tup [(true, [.h ((((Y5 l x)).1).1.1),.h ((((Y5 l x)).1).1.2.1),.i ((((Y5 l x)).1).1.2.2),.h ((((Y5 l x)).1).2.1),.h ((((Y5 l x)).1).2.2)]),(false, [.h (((Y5 l x)).2.1)]),(false, [.b (((Y5 l x)).2.2)])]):=by
 refine en Qa Tryz.func106 λw0 F0 hG=> ?_
 refine sn Qa [2,3,4,5,6] [2,3,4] p0 <| tn Qa [2,3,4,5,6] [2,3,4] (pc 1 (Vc l) p0) <| tu Qa [(2,.p 2 0),(3,.p 3 0),(4,.p 4 0),(5,.e 0),(6,.b false),(7,.o 1088 (((Zv ((Qb l).2.1) x)).1)),(8,.b (((Zv ((Qb l).2.1) x)).2))] [0,1] [(2, [.o 768 ((Qb l).1.1),.o 769 ((Qb l).1.2.1),.i ((Qb l).1.2.2),.o 770 ((Qb l).2.1),.o 771 ((Qb l).2.2)]),(3, [.s x.1,.h x.2]),(4, [.e 2,.e 5,.i 0,.e 2,.e 2])] [] (pc 3 (GT ((Qb l).2.1) x) p0) <| Qc <| Qc <| jn [(31,.b ((!(Xb (Qb l)))|| ((!(((Zv ((Qb l).2.1) x)).2))|| (!(Ke (((Zv ((Qb l).2.1) x)).1))))))] [8] [] [] (!(Xb (Qb l))) (λh1=> ?_) (λh1=> ?_) ?_
 ·have h1n:(Xb (Qb l))=false:=Vp h1;refine ru Qa [(31,.b true)] [8] [] [] (pc 1 (cb h1n (Kj (Qb l))) (pe 2 (show .b (!false)= .b true from rfl) p0)) ?_;exact zA (by rw[h1]<;>kernel_rfl)
 ·have h1n:(Xb (Qb l))=true:=Zc h1;have h1nc:=U6 h1n;refine Yj (!(((Zv ((Qb l).2.1) x)).2)) (λh2=> ?_) (λh2=> ?_)
  ·have h2n:(((Zv ((Qb l).2.1) x)).2)=false:=Vp h2;refine ru Qa [(31,.b true)] [8] [] [] (pc 1 (cb h1n (Kj (Qb l))) (pe 2 (show .b (!true)= .b false from rfl) (pf 4 h2n (pe 5 (show .b (!false)= .b true from rfl) p0)))) ?_;exact zA (by rw[h1,h2]<;>kernel_rfl)
  have h2n:(((Zv ((Qb l).2.1) x)).2)=true:=Zc h2;refine rn Qa [2,3,4,5,6,7,31] [2,3,4] (pc 1 (cb h1n (Kj (Qb l))) (pe 2 (show .b (!true)= .b false from rfl) (pt 4 h2n (pe 5 (show .b (!true)= .b false from rfl) (pc 9 (XH (((Zv ((Qb l).2.1) x)).1)) p0))))) ?_;exact zA (by rw[h1,h2]<;>kernel_rfl)
 refine ck ((!(Xb (Qb l)))|| ((!(((Zv ((Qb l).2.1) x)).2))|| (!(Ke (((Zv ((Qb l).2.1) x)).1))))) (λh3=> ?_) (λh3=> ?_)
 ·exact sn Qa [2,3,4,5,6,7] [2,3,4] p0 <| Qh <| pz [768,769,770,771,2112] (show Y5 l x=_ from Xm h3 (rfl)) (λz=> .tup [(true, [.h z.1.1.1,.h z.1.1.2.1,.i z.1.1.2.2,.h z.1.2.1,.h z.1.2.2]),(false, [.h z.2.1]),(false, [.b z.2.2])])
 have h3l:((!(Xb (Qb l))))=false:=Rw h3;have h3ln:(Xb (Qb l))=true:=Zc h3l;have h3lnc:=U6 h3ln;have h3r:(((!(((Zv ((Qb l).2.1) x)).2))|| (!(Ke (((Zv ((Qb l).2.1) x)).1)))))=false:=Pr h3;have h3rr:((!(Ke (((Zv ((Qb l).2.1) x)).1))))=false:=Pr h3r;have h3rrn:(Ke (((Zv ((Qb l).2.1) x)).1))=true:=Zc h3rr;have h3rrnc:=TM h3rrn;exact Qe <| sN Qa Zt [4,5,6,9,10] [4,9] (pc 8 (Ad (((Zv ((Qb l).2.1) x)).1) [x.1] (by first|omega|(simp;omega))) (pc 9 (F7 (Qb l) ((Qb l).1.1,(Qb l).1.2.1,(Qb l).1.2.2) (((Zv ((Qb l).2.1) x)).1) (Y3 (((Zv ((Qb l).2.1) x)).1) [x.1])) p0)) <| tn Qa [4,5,6] [4] p0 <| Qh <| pz [] (show Y5 l x=_ from Qn h3 (rfl)) (λz=> .tup [(true, [.h z.1.1.1,.h z.1.1.2.1,.i z.1.1.2.2,.h z.1.2.1,.h z.1.2.2]),(false, [.h z.2.1]),(false, [.b z.2.2])])
def Zf (l:Xj) (name:ByteArray):Xj×(List Ef)×Bool:=(bif (!(((Ka l.2.1 name)).2)) then (l, [],false) else ((((Ks l l.1 (((Ka l.2.1 name)).1) (Y3 l.2.1 [name]))).1),((Ks l l.1 (((Ka l.2.1 name)).1) (Y3 l.2.1 [name]))).2,true))
theorem WW (l:Xj) (name:ByteArray):ACalls Tryz.prog 107 [.a [.h l.1.1,.h l.1.2.1,.i l.1.2.2,.h l.2.1,.h l.2.2],.s name] (.tup [(true, [.h ((((Zf l name)).1).1.1),.h ((((Zf l name)).1).1.2.1),.i ((((Zf l name)).1).1.2.2),.h ((((Zf l name)).1).2.1),.h ((((Zf l name)).1).2.2)]),(false, [.h (((Zf l name)).2.1)]),(false, [.b (((Zf l name)).2.2)])]):=by
 refine en Qa Tryz.func107 λw0 F0 hG=> ?_
 refine sn Qa [1,2,4,5,6] [2,4] p0 <| tn Qa [1,2,4,5,6,7,8] [2,4] (pc 3 (WU l.2.1 name) p0) <| Qc <| tu Qa [(2,.p 2 0),(4,.p 4 0),(5,.e 0),(6,.b false),(7,.o 960 (((Ka l.2.1 name)).1)),(19,.b (!(((Ka l.2.1 name)).2)))] [0] [(2, [.h l.1.1,.h l.1.2.1,.i l.1.2.2,.h l.2.1,.h l.2.2]),(4, [.e 2,.e 5,.i 0,.e 2,.e 2])] [] p0 <| ck (!(((Ka l.2.1 name)).2)) (λh1=> ?_) (λh1=> ?_)
 ·exact sn Qa [1,2,4,5,6,7] [2,4] p0 <| Qh <| pz [1344] (show Zf l name=_ from Xm h1 (rfl)) (λz=> .tup [(true, [.h z.1.1.1,.h z.1.1.2.1,.i z.1.1.2.2,.h z.1.2.1,.h z.1.2.2]),(false, [.h z.2.1]),(false, [.b z.2.2])])
 have h1n:(((Ka l.2.1 name)).2)=true:=Zc h1;have h1nc:=Qgx h1n;exact Qe <| sN Qa Zt [4,5,6,9,10] [4,9] (pc 8 (Ad l.2.1 [name] (by first|omega|(simp;omega))) (pc 9 (F7 l l.1 (((Ka l.2.1 name)).1) (Y3 l.2.1 [name])) p0)) <| tn Qa [4,5,6] [4] p0 <| Qh <| pz [] (show Zf l name=_ from Qn h1 (rfl)) (λz=> .tup [(true, [.h z.1.1.1,.h z.1.1.2.1,.i z.1.1.2.2,.h z.1.2.1,.h z.1.2.2]),(false, [.h z.2.1]),(false, [.b z.2.2])])
def Ax (f:Xx) (u:Int):Bool:=((Xk u 0 2)&&(f.2.1==u))
theorem Sw (f:Xx) (u:Int):ACalls Tryz.prog 104 [.a [.i f.1,.i f.2.1,.b f.2.2.1,.i f.2.2.2.1,.h f.2.2.2.2],.i u] (.b (Ax f u)):=by
 refine en Qa Tryz.func104 λw0 F0 hG=> ?_
 refine sn Qa [1,2,4] [2] p0 <| Qc <| mz [(2,.p 2 0),(4,.b false)] [0] [(2, [.i f.1,.i f.2.1,.b f.2.2.1,.i f.2.2.2.1,.h f.2.2.2.2])] [] <| jn [(4,.b ((Xk u 0 2)&&(f.2.1==u)))] [1,2,4] [] [2] (Xk u 0 2) (λh1=> ?_) (λh1=> ?_) ?_
 ·have h1w:=Fh.1 h1;refine rn Qa [4] [] (pc 1 (cb h1 (Z9 u 0 2)) p0) ?_;exact zA (by rw[h1]<;>kernel_rfl)
 ·refine rn Qa [4] [] (pc 1 (cb h1 (Z9 u 0 2)) p0) ?_;exact zA (by rw[h1]<;>kernel_rfl)
 exact Qh <| pb [] (show Ax f u=((Xk u 0 2)&&(f.2.1==u)) from rfl)
def Xu (l:Xj) (u:Int) (o:Kf):Xj×(List Ef)×Bool:=(bif (!((Xb l)&&(Xk u 0 2))) then ((Qb l), [],false) else (bif ((o.1==(1:Int))&&(o.2.1.2.1==u)) then (bif (!(((Zu l o.2.1)).2.2.2)) then ((Qb l), [],false) else ((((Zu l o.2.1)).1),((Zu l o.2.1)).2.2.1,true)) else (bif ((o.1==(2:Int))&&(o.2.1.2.1==u)) then (bif (!(((Y7 l o.2.1)).2.2&&(((Xp l.1 o.2.1.1)).2&&(Ax (((Xp l.1 o.2.1.1)).1) u)))) then ((Qb l), [],false) else ((((Y7 l o.2.1)).1),((Y7 l o.2.1)).2.1,true)) else (bif (o.1==(3:Int)) then (bif (!(((Y8 l o.2.2.1)).2.2&&(((Xp l.1 o.2.2.1)).2&&(Ax (((Xp l.1 o.2.2.1)).1) u)))) then ((Qb l), [],false) else ((((Y8 l o.2.2.1)).1),((Y8 l o.2.2.1)).2.1,true)) else (bif (o.1==(4:Int)) then (bif (!(((Y5 l o.2.2.2)).2.2)) then ((Qb l), [],false) else ((((Y5 l o.2.2.2)).1),((Y5 l o.2.2.2)).2.1,true)) else (bif (o.1==(5:Int)) then (bif (!(((Zf (Qb l) o.2.2.2.1)).2.2)) then ((Qb l), [],false) else ((((Zf (Qb l) o.2.2.2.1)).1),((Zf (Qb l) o.2.2.2.1)).2.1,true)) else ((Qb l), [],false)))))))
theorem YS (l:Xj) (u:Int) (o:Kf):ACalls Tryz.prog 59 [.a [.h l.1.1,.h l.1.2.1,.i l.1.2.2,.h l.2.1,.h l.2.2],.i u,.a [.i o.1,.i o.2.1.1,.i o.2.1.2.1,.b o.2.1.2.2.1,.i o.2.1.2.2.2.1,.h o.2.1.2.2.2.2,.i o.2.2.1,.s o.2.2.2.1,.h o.2.2.2.2]] (.tup [(true, [.h ((((Xu l u o)).1).1.1),.h ((((Xu l u o)).1).1.2.1),.i ((((Xu l u o)).1).1.2.2),.h ((((Xu l u o)).1).2.1),.h ((((Xu l u o)).1).2.2)]),(false, [.h (((Xu l u o)).2.1)]),(false, [.b (((Xu l u o)).2.2)])]):=by
 refine en Qa Tryz.func59 λw0 F0 hG=> ?_
 refine sn Qa [1,3,5,6,7,8] [3,5,6] p0 <| tn Qa [1,3,5,6,7,8,9] [3,5,6,9] (pc 1 (Vc l) p0) <| tu Qa [(3,.p 3 0),(5,.p 5 0),(6,.p 6 0),(7,.e 0),(8,.b false),(9,.p 9 0),(10,.p 10 0)] [0,2] [(3, [.h l.1.1,.h l.1.2.1,.i l.1.2.2,.h l.2.1,.h l.2.2]),(5, [.i o.1,.i o.2.1.1,.i o.2.1.2.1,.b o.2.1.2.2.1,.i o.2.1.2.2.2.1,.h o.2.1.2.2.2.2,.i o.2.2.1,.s o.2.2.2.1,.h o.2.2.2.2]),(6, [.e 2,.e 5,.i 0,.e 2,.e 2]),(9, [.o 1152 ((Qb l).1.1),.o 1153 ((Qb l).1.2.1),.i ((Qb l).1.2.2),.o 1154 ((Qb l).2.1),.o 1155 ((Qb l).2.2)]),(10, [.o 1152 ((Qb l).1.1),.o 1153 ((Qb l).1.2.1),.i ((Qb l).1.2.2),.o 1154 ((Qb l).2.1),.o 1155 ((Qb l).2.2)])] [] p0 <| sn Qa [1,3,5,6,7,8,9,10,11] [3,5,6,9,10] p0 <| Qc <| mz [(11,.one (.slc (.own true 1280) 3 []))] [] [] [] <| jn [(12,.b ((Xb l)&&(Xk u 0 2)))] [] [] [] (Xb l) (λh1=> ?_) (λh1=> ?_) ?_
 ·have h1c:=U6 h1;refine ru Qa [(12,.b (Xk u 0 2))] [] [] [] (pc 1 (cb h1 (Kj l)) (pc 4 (Z9 u 0 2) p0)) ?_;exact zA (by rw[h1]<;>kernel_rfl)
 ·refine ru Qa [(12,.b false)] [] [] [] (pc 1 (cb h1 (Kj l)) p0) ?_;exact zA (by rw[h1]<;>kernel_rfl)
 refine Qc <| Qt <| sn Qa [1,3,5,6,7,8,9,10,11,12,27] [3,5,6,9,10] p0 <| ck (!((Xb l)&&(Xk u 0 2))) (λh2=> ?_) (λh2=> ?_)
 ·have h2n:((Xb l)&&(Xk u 0 2))=false:=Vp h2;exact Qe <| Qc <| tn Qa [3,6,7,8,10,11,142] [3,6,10] (pf 0 h2n (pe 1 (show .b (!false)= .b true from rfl) p0)) <| ckT <| tu Qa [(7,.one (.slc (.own true 9280) 3 []))] [1,3,5,7,9,12] [(6, [.o 9216 ((Qb l).1.1),.o 9217 ((Qb l).1.2.1),.i ((Qb l).1.2.2),.o 9218 ((Qb l).2.1),.o 9219 ((Qb l).2.2)])] [3,5,6,9] (pc 1 (Vc l) p0) <| Qh <| pz [9216,9217,9218,9219,9280] (show Xu l u o=_ from Xm h2 (rfl)) (λz=> .tup [(true, [.h z.1.1.1,.h z.1.1.2.1,.i z.1.1.2.2,.h z.1.2.1,.h z.1.2.2]),(false, [.h z.2.1]),(false, [.b z.2.2])])
 have h2n:((Xb l)&&(Xk u 0 2))=true:=Zc h2;have h2nl:((Xb l))=true:=UV h2n;have h2nlc:=U6 h2nl;have h2nr:((Xk u 0 2))=true:=CY h2n;have h2nrw:=Fh.1 h2nr;refine Qc <| mz [(27,.b (!((Xb l)&&(Xk u 0 2))))] [] [] [] <| jn [(30,.b ((o.1==(1:Int))&&(o.2.1.2.1==u)))] [27] [] [] (o.1==(1:Int)) (λh3=> ?_) (λh3=> ?_) ?_
 ·refine ru Qa [(30,.b (o.2.1.2.1==u))] [27] [] [] (pt 2 h3 p0) ?_;exact zA (by rw[h3]<;>kernel_rfl)
 ·refine ru Qa [(30,.b false)] [27] [] [] (pf 2 h3 p0) ?_;exact zA (by rw[h3]<;>kernel_rfl)
 refine ck ((o.1==(1:Int))&&(o.2.1.2.1==u)) (λh4=> ?_) (λh4=> ?_)
 ·refine rn Qa [3,6,7,8,10,11,12] [3,6,10] (pc 3 (DW l o.2.1) p0) ?_;refine Qc <| tn Qa [3,6,7,8,10,11,142] [3,6,10] p0 <| ck (!(((Zu l o.2.1)).2.2.2)) (λh5=> ?_) (λh5=> ?_)
  ·exact tu Qa [(7,.one (.slc (.own true 9280) 3 [])),(11,.h (((Zu l o.2.1)).2.2.1))] [1,3,5,7,9,11,12,30] [(6, [.o 9216 ((Qb l).1.1),.o 9217 ((Qb l).1.2.1),.i ((Qb l).1.2.2),.o 9218 ((Qb l).2.1),.o 9219 ((Qb l).2.2)]),(10, [.h ((((Zu l o.2.1)).1).1.1),.h ((((Zu l o.2.1)).1).1.2.1),.i ((((Zu l o.2.1)).1).1.2.2),.h ((((Zu l o.2.1)).1).2.1),.h ((((Zu l o.2.1)).1).2.2)])] [3,5,6,9,10] (pc 1 (Vc l) p0) <| Qh <| pz [9216,9217,9218,9219,9280] (show Xu l u o=_ from Qn h2 (Xm h4 (Xm h5 (rfl)))) (λz=> .tup [(true, [.h z.1.1.1,.h z.1.1.2.1,.i z.1.1.2.2,.h z.1.2.1,.h z.1.2.2]),(false, [.h z.2.1]),(false, [.b z.2.2])])
  exact Qe <| tu Qa [(7,.h (((Zu l o.2.1)).2.2.1)),(8,.b true)] [1,3,5,7,8,9,10,11,12,30] [(6, [.h ((((Zu l o.2.1)).1).1.1),.h ((((Zu l o.2.1)).1).1.2.1),.i ((((Zu l o.2.1)).1).1.2.2),.h ((((Zu l o.2.1)).1).2.1),.h ((((Zu l o.2.1)).1).2.2)])] [3,5,6,9,10] p0 <| Qh <| pz [] (show Xu l u o=_ from Qn h2 (Xm h4 (Qn h5 (rfl)))) (λz=> .tup [(true, [.h z.1.1.1,.h z.1.1.2.1,.i z.1.1.2.2,.h z.1.2.1,.h z.1.2.2]),(false, [.h z.2.1]),(false, [.b z.2.2])])
 refine Qc <| jn [(50,.b ((o.1==(2:Int))&&(o.2.1.2.1==u)))] [30] [] [] (o.1==(2:Int)) (λh6=> ?_) (λh6=> ?_) ?_
 ·refine ru Qa [(50,.b (o.2.1.2.1==u))] [30] [] [] (pt 2 h6 p0) ?_;exact zA (by rw[h6]<;>kernel_rfl)
 ·refine ru Qa [(50,.b false)] [30] [] [] (pf 2 h6 p0) ?_;exact zA (by rw[h6]<;>kernel_rfl)
 refine ck ((o.1==(2:Int))&&(o.2.1.2.1==u)) (λh7=> ?_) (λh7=> ?_)
 ·refine sn Qa [1,3,5,6,7,8,10,11,12,13,14] [3,5,6,10,13] (pc 5 (Nb l.1 o.2.1.1) p0) <| tn Qa [1,3,6,7,8,10,11,12,13,14] [3,6,10,13] (pc 3 (JD l o.2.1) p0) <| mz [(11,.h (((Y7 l o.2.1)).2.1)),(12,.b (((Y7 l o.2.1)).2.2)),(13,.p 13 0),(14,.b (((Xp l.1 o.2.1.1)).2))] [5,9,11,12,50] [(10, [.h ((((Y7 l o.2.1)).1).1.1),.h ((((Y7 l o.2.1)).1).1.2.1),.i ((((Y7 l o.2.1)).1).1.2.2),.h ((((Y7 l o.2.1)).1).2.1),.h ((((Y7 l o.2.1)).1).2.2)]),(13, [.i ((((Xp l.1 o.2.1.1)).1).1),.i ((((Xp l.1 o.2.1.1)).1).2.1),.b ((((Xp l.1 o.2.1.1)).1).2.2.1),.i ((((Xp l.1 o.2.1.1)).1).2.2.2.1),.o 4288 ((((Xp l.1 o.2.1.1)).1).2.2.2.2)])] [5,9,10] <| jn [(12,.b (((Y7 l o.2.1)).2.2&&(((Xp l.1 o.2.1.1)).2&&(Ax (((Xp l.1 o.2.1.1)).1) u))))] [1,12,13,14] [] [13] (((Y7 l o.2.1)).2.2) (λh8=> ?_) (λh8=> ?_) ?_
  ·refine Yj (((Xp l.1 o.2.1.1)).2) (λh9=> ?_) (λh9=> ?_)
   ·refine rn Qa [3,6,7,8,10,11,12] [3,6,10] (pt 0 h8 (pt 2 h9 (pc 7 (Sw (((Xp l.1 o.2.1.1)).1) u) p0))) ?_;exact zA (by rw[h8,h9]<;>kernel_rfl)
   refine rn Qa [3,6,7,8,10,11,12] [3,6,10] (pt 0 h8 (pf 2 h9 p0)) ?_;exact zA (by rw[h8,h9]<;>kernel_rfl)
  ·refine rn Qa [3,6,7,8,10,11,12] [3,6,10] (pf 0 h8 p0) ?_;exact zA (by rw[h8]<;>kernel_rfl)
  refine Qc <| sn Qa [3,6,7,8,10,11,142] [3,6,10] p0 <| ck (!(((Y7 l o.2.1)).2.2&&(((Xp l.1 o.2.1.1)).2&&(Ax (((Xp l.1 o.2.1.1)).1) u)))) (λh10=> ?_) (λh10=> ?_)
  ·exact tn Qa [6,7,8,10,11] [6,10] (pc 1 (Vc l) p0) <| Qh <| pz [9216,9217,9218,9219,9280] (show Xu l u o=_ from Qn h2 (Qn h4 (Xm h7 (Xm h10 (rfl))))) (λz=> .tup [(true, [.h z.1.1.1,.h z.1.1.2.1,.i z.1.1.2.2,.h z.1.2.1,.h z.1.2.2]),(false, [.h z.2.1]),(false, [.b z.2.2])])
  exact Qe <| tn Qa [6,7,8] [6] p0 <| Qh <| pz [] (show Xu l u o=_ from Qn h2 (Qn h4 (Xm h7 (Qn h10 (rfl))))) (λz=> .tup [(true, [.h z.1.1.1,.h z.1.1.2.1,.i z.1.1.2.2,.h z.1.2.1,.h z.1.2.2]),(false, [.h z.2.1]),(false, [.b z.2.2])])
 refine su Qa [(87,.b (o.1==(3:Int)))] [50] [] [] p0 <| ck (o.1==(3:Int)) (λh11=> ?_) (λh11=> ?_)
 ·refine sn Qa [1,3,5,6,7,8,10,11,12,15,16] [3,5,6,10,15] (pc 4 (Nb l.1 o.2.2.1) p0) <| tn Qa [1,3,6,7,8,10,11,12,15,16] [3,6,10,15] (pc 3 (JE l o.2.2.1) p0) <| mz [(11,.h (((Y8 l o.2.2.1)).2.1)),(12,.b (((Y8 l o.2.2.1)).2.2)),(15,.p 15 0),(16,.b (((Xp l.1 o.2.2.1)).2))] [5,9,11,12,87] [(10, [.h ((((Y8 l o.2.2.1)).1).1.1),.h ((((Y8 l o.2.2.1)).1).1.2.1),.i ((((Y8 l o.2.2.1)).1).1.2.2),.h ((((Y8 l o.2.2.1)).1).2.1),.h ((((Y8 l o.2.2.1)).1).2.2)]),(15, [.i ((((Xp l.1 o.2.2.1)).1).1),.i ((((Xp l.1 o.2.2.1)).1).2.1),.b ((((Xp l.1 o.2.2.1)).1).2.2.1),.i ((((Xp l.1 o.2.2.1)).1).2.2.2.1),.o 6144 ((((Xp l.1 o.2.2.1)).1).2.2.2.2)])] [5,9,10] <| jn [(12,.b (((Y8 l o.2.2.1)).2.2&&(((Xp l.1 o.2.2.1)).2&&(Ax (((Xp l.1 o.2.2.1)).1) u))))] [1,12,15,16] [] [15] (((Y8 l o.2.2.1)).2.2) (λh12=> ?_) (λh12=> ?_) ?_
  ·refine Yj (((Xp l.1 o.2.2.1)).2) (λh13=> ?_) (λh13=> ?_)
   ·refine rn Qa [3,6,7,8,10,11,12] [3,6,10] (pt 0 h12 (pt 2 h13 (pc 7 (Sw (((Xp l.1 o.2.2.1)).1) u) p0))) ?_;exact zA (by rw[h12,h13]<;>kernel_rfl)
   refine rn Qa [3,6,7,8,10,11,12] [3,6,10] (pt 0 h12 (pf 2 h13 p0)) ?_;exact zA (by rw[h12,h13]<;>kernel_rfl)
  ·refine rn Qa [3,6,7,8,10,11,12] [3,6,10] (pf 0 h12 p0) ?_;exact zA (by rw[h12]<;>kernel_rfl)
  refine Qc <| sn Qa [3,6,7,8,10,11,142] [3,6,10] p0 <| ck (!(((Y8 l o.2.2.1)).2.2&&(((Xp l.1 o.2.2.1)).2&&(Ax (((Xp l.1 o.2.2.1)).1) u)))) (λh14=> ?_) (λh14=> ?_)
  ·exact tn Qa [6,7,8,10,11] [6,10] (pc 1 (Vc l) p0) <| Qh <| pz [9216,9217,9218,9219,9280] (show Xu l u o=_ from Qn h2 (Qn h4 (Qn h7 (Xm h11 (Xm h14 (rfl)))))) (λz=> .tup [(true, [.h z.1.1.1,.h z.1.1.2.1,.i z.1.1.2.2,.h z.1.2.1,.h z.1.2.2]),(false, [.h z.2.1]),(false, [.b z.2.2])])
  exact Qe <| tn Qa [6,7,8] [6] p0 <| Qh <| pz [] (show Xu l u o=_ from Qn h2 (Qn h4 (Qn h7 (Xm h11 (Qn h14 (rfl)))))) (λz=> .tup [(true, [.h z.1.1.1,.h z.1.1.2.1,.i z.1.1.2.2,.h z.1.2.1,.h z.1.2.2]),(false, [.h z.2.1]),(false, [.b z.2.2])])
 refine su Qa [(116,.b (o.1==(4:Int)))] [1,87] [] [] p0 <| ck (o.1==(4:Int)) (λh15=> ?_) (λh15=> ?_)
 ·refine rn Qa [3,6,7,8,10,11,12] [3,6,10] (pc 3 (WV l o.2.2.2) p0) ?_;refine Qc <| tn Qa [3,6,7,8,10,11,142] [3,6,10] p0 <| ck (!(((Y5 l o.2.2.2)).2.2)) (λh16=> ?_) (λh16=> ?_)
  ·exact tu Qa [(7,.one (.slc (.own true 9280) 3 [])),(11,.h (((Y5 l o.2.2.2)).2.1))] [3,5,7,9,11,12,116] [(6, [.o 9216 ((Qb l).1.1),.o 9217 ((Qb l).1.2.1),.i ((Qb l).1.2.2),.o 9218 ((Qb l).2.1),.o 9219 ((Qb l).2.2)]),(10, [.h ((((Y5 l o.2.2.2)).1).1.1),.h ((((Y5 l o.2.2.2)).1).1.2.1),.i ((((Y5 l o.2.2.2)).1).1.2.2),.h ((((Y5 l o.2.2.2)).1).2.1),.h ((((Y5 l o.2.2.2)).1).2.2)])] [3,5,6,9,10] (pc 1 (Vc l) p0) <| Qh <| pz [9216,9217,9218,9219,9280] (show Xu l u o=_ from Qn h2 (Qn h4 (Qn h7 (Qn h11 (Xm h15 (Xm h16 (rfl))))))) (λz=> .tup [(true, [.h z.1.1.1,.h z.1.1.2.1,.i z.1.1.2.2,.h z.1.2.1,.h z.1.2.2]),(false, [.h z.2.1]),(false, [.b z.2.2])])
  exact Qe <| tu Qa [(7,.h (((Y5 l o.2.2.2)).2.1)),(8,.b true)] [3,5,7,8,9,10,11,12,116] [(6, [.h ((((Y5 l o.2.2.2)).1).1.1),.h ((((Y5 l o.2.2.2)).1).1.2.1),.i ((((Y5 l o.2.2.2)).1).1.2.2),.h ((((Y5 l o.2.2.2)).1).2.1),.h ((((Y5 l o.2.2.2)).1).2.2)])] [3,5,6,9,10] p0 <| Qh <| pz [] (show Xu l u o=_ from Qn h2 (Qn h4 (Qn h7 (Qn h11 (Xm h15 (Qn h16 (rfl))))))) (λz=> .tup [(true, [.h z.1.1.1,.h z.1.1.2.1,.i z.1.1.2.2,.h z.1.2.1,.h z.1.2.2]),(false, [.h z.2.1]),(false, [.b z.2.2])])
 refine su Qa [(128,.b (o.1==(5:Int)))] [116] [] [] p0 <| ck (o.1==(5:Int)) (λh17=> ?_) (λh17=> ?_)
 ·refine rn Qa [3,6,7,8,10,11,12] [3,6,10] (pc 4 (WW (Qb l) o.2.2.2.1) p0) ?_;refine Qc <| tn Qa [3,6,7,8,10,11,142] [3,6,10] p0 <| ck (!(((Zf (Qb l) o.2.2.2.1)).2.2)) (λh18=> ?_) (λh18=> ?_)
  ·exact tu Qa [(7,.one (.slc (.own true 9280) 3 [])),(11,.h (((Zf (Qb l) o.2.2.2.1)).2.1))] [3,5,7,9,11,12,128] [(6, [.o 9216 ((Qb l).1.1),.o 9217 ((Qb l).1.2.1),.i ((Qb l).1.2.2),.o 9218 ((Qb l).2.1),.o 9219 ((Qb l).2.2)]),(10, [.h ((((Zf (Qb l) o.2.2.2.1)).1).1.1),.h ((((Zf (Qb l) o.2.2.2.1)).1).1.2.1),.i ((((Zf (Qb l) o.2.2.2.1)).1).1.2.2),.h ((((Zf (Qb l) o.2.2.2.1)).1).2.1),.h ((((Zf (Qb l) o.2.2.2.1)).1).2.2)])] [3,5,6,9,10] (pc 1 (Vc l) p0) <| Qh <| pz [9216,9217,9218,9219,9280] (show Xu l u o=_ from Qn h2 (Qn h4 (Qn h7 (Qn h11 (Qn h15 (Xm h17 (Xm h18 (rfl)))))))) (λz=> .tup [(true, [.h z.1.1.1,.h z.1.1.2.1,.i z.1.1.2.2,.h z.1.2.1,.h z.1.2.2]),(false, [.h z.2.1]),(false, [.b z.2.2])])
  exact Qe <| tu Qa [(7,.h (((Zf (Qb l) o.2.2.2.1)).2.1)),(8,.b true)] [3,5,7,8,9,10,11,12,128] [(6, [.h ((((Zf (Qb l) o.2.2.2.1)).1).1.1),.h ((((Zf (Qb l) o.2.2.2.1)).1).1.2.1),.i ((((Zf (Qb l) o.2.2.2.1)).1).1.2.2),.h ((((Zf (Qb l) o.2.2.2.1)).1).2.1),.h ((((Zf (Qb l) o.2.2.2.1)).1).2.2)])] [3,5,6,9,10] p0 <| Qh <| pz [] (show Xu l u o=_ from Qn h2 (Qn h4 (Qn h7 (Qn h11 (Qn h15 (Xm h17 (Qn h18 (rfl)))))))) (λz=> .tup [(true, [.h z.1.1.1,.h z.1.1.2.1,.i z.1.1.2.2,.h z.1.2.1,.h z.1.2.2]),(false, [.h z.2.1]),(false, [.b z.2.2])])
 refine rn Qa [3,6,7,8,10,11,12] [3,6,10] p0 ?_;exact Qc <| tn Qa [3,6,7,8,10,11,142] [3,6,10] (pe 1 (show .b (!false)= .b true from rfl) p0) <| ckT <| tu Qa [(7,.one (.slc (.own true 9280) 3 []))] [3,5,7,9,12,128] [(6, [.o 9216 ((Qb l).1.1),.o 9217 ((Qb l).1.2.1),.i ((Qb l).1.2.2),.o 9218 ((Qb l).2.1),.o 9219 ((Qb l).2.2)])] [3,5,6,9] (pc 1 (Vc l) p0) <| Qh <| pz [9216,9217,9218,9219,9280] (show Xu l u o=_ from Qn h2 (Qn h4 (Qn h7 (Qn h11 (Qn h15 (Qn h17 (rfl))))))) (λz=> .tup [(true, [.h z.1.1.1,.h z.1.1.2.1,.i z.1.1.2.2,.h z.1.2.1,.h z.1.2.2]),(false, [.h z.2.1]),(false, [.b z.2.2])])
end
section
open Go.RowKit
theorem XI {d:List Yc} (h:Qk d=true):∀(i:Nat) (a:Yc),d[i]? =some a->Y9 d i a ()= .next ():=by
 unfold Qk at h;cases hf:X7 (Y9 d) Vv d 0 () with
 | brk t=>
   intro i a ha;have:=Og (λk a t=>by unfold Y9;generalize (_|| _:Bool)=c;cases c<;>simp) hf i a ha
   rwa [yJ] at this
 | ret r=>
   rw[hf] at h;obtain rfl:r=true:=h;exfalso
   have key:∀(l:List Yc) k,X7 (Y9 d) Vv l k ()≠ .ret true:=by
    intro l
    induction l with
    | nil=>intro k h;simp[X7] at h
    | cons a l ih=>
      intro k h;simp only[X7] at h;unfold Y9 at h;split at h
      . rename_i hf;exact ih _ h
      . cases h
      rename_i r hf;cases h;revert hf;generalize (_|| _:Bool)=c;cases c<;>simp
   exact key _ _ hf
theorem Qdp {d:List Yc} (h:Qk d=true) {a:Yc} (ha:a∈d):Zg a.1=true:=by
 obtain ⟨i,hi⟩:=yN ha;have:=XI h i a hi;unfold Y9 at this;cases hv:Zg a.1 with
 | true=>rfl
 | false=>rw[hv] at this;cases this
theorem To {d:List Yc} (h:Qk d=true):(d.map (·.1)).Nodup:=by
 refine WK (DQ λi hi=> ?_);rw[yO] at hi;have e:∀j,j<d.length->nth (d.map (·.1)) j=(nth d j).1:=λj hj=>by simp[nth,xN,hj]
 rw[e i (by omega),e (i+1) hi];have:=XI h (i+1) _ (Hb hi);unfold Y9 at this;rw[decide_eq_true (show ((i+1:Nat):Int)>0 by omega),show zP (((i+1:Nat):Int)-1)=i by omega] at this;simp only[cond_true] at this;cases hb:bl (nth d i).1 (nth d (i+1)).1 with
 | true=>rfl
 | false=>
   unfold bl at hb;rw[hb] at this;simp at this
theorem GU:∀{d:List Yc},(d.map (·.1)).Nodup->∀{a b:Yc},a∈d->b∈d->a.1=b.1->a=b
 | [],_,_,_,ha,_,_=>by cases ha
 | x ::d,h,a,b,ha,hb,e=>by
   rw[yU] at h;obtain ⟨h1,h2⟩:=xC.1 h;rcases zJ.1 ha with ea | ha'
   . rcases zJ.1 hb with eb | hb'
     . rw[ea,eb]
     subst ea;exact (h1 (by rw[e];exact yC hb')).elim
   rcases zJ.1 hb with eb | hb'
   . subst eb;exact (h1 (by rw[←e];exact yC ha')).elim
   exact GU h2 ha' hb' e
theorem Qie (s:ByteArray):∀(l:List Yc) (k:Nat),(X7 (X3 s) Yy l k ()= .brk ()/\∀a,a∈l->a.1≠s)\/∃(i:Nat) (a:Yc),l[i]? =some a/\a.1=s/\X7 (X3 s) Yy l k ()= .ret (((k+i:Nat)):Int)
 | [],_=> .inl ⟨rfl,λa ha=>by cases ha⟩
 | x ::l,k=>by
   simp only[X7,X3];have hx:Ci x s=decide (x.1=s):=Hm;rw[hx];by_cases e:x.1=s
   . rw[decide_eq_true e];exact .inr ⟨0,x,rfl,e,rfl⟩
   simp only[decide_eq_false e,cond_false];rcases Qie s l (k+1) with ⟨h1,h2⟩ | ⟨i,a,h1,h2,h3⟩
   . refine .inl ⟨h1,λa ha=> ?_⟩;rcases zJ.1 ha with rfl | ha
     . exact e
     exact h2 a ha
   exact .inr ⟨i+1,a,by simpa using h1,h2,by rw[h3,show k+1+i=k+(i+1) by omega]⟩
theorem GV (d:List Yc) (s:ByteArray):(Qz d s= -1/\∀a,a∈d->a.1≠s)\/∃(i:Nat) (a:Yc),d[i]? =some a/\a.1=s/\Qz d s=((i:Nat):Int):=by
 unfold Qz Ji;rcases Qie s d 0 with ⟨h1,h2⟩ | ⟨i,a,h1,h2,h3⟩
 . rw[h1];exact .inl ⟨rfl,h2⟩
 rw[h3,yJ];exact .inr ⟨i,a,h1,h2,rfl⟩
theorem Qlj {d:List Yc} {a:Yc} (ha:a∈d):0<=Qz d a.1:=by
 rcases GV d a.1 with ⟨_,h2⟩ | ⟨i,b,_,_,h3⟩
 . exact (h2 a ha rfl).elim
 rw[h3];omega
theorem Qka {d:List Yc} (hn:(d.map (·.1)).Nodup) {a:Yc} (ha:a∈d):zP (Qz d a.1)<d.length/\nth d (zP (Qz d a.1))=a:=by
 rcases GV d a.1 with ⟨_,h2⟩ | ⟨i,b,h1,h2,h3⟩
 . exact (h2 a ha rfl).elim
 rw[h3,zW];exact ⟨(yD.1 h1).1,(O9 h1).trans (GU hn (zS h1) ha h2)⟩
theorem BU : ∀ g:List Int,∃B:Nat,∀j,nth g j<=(B:Int)
 | []=>⟨0,λj=>by rw[Te (by simp)];omega⟩
 | a::g=>by
   obtain ⟨B,hB⟩:=BU g;refine ⟨B+a.toNat,λj=> ?_⟩;cases j with
   | zero=>show a<=_;omega
   | succ j => have:nth (a::g) (j+1)=nth g j:=rfl
               rw[this];have:=hB j;omega
theorem DX {d:List Yc} {g:List Int} (hv:Qk d=true) (hs:Sat (Jq d) d.length g) (h0:∀j,0<=nth g j):(Qq d).2=true:=by
 have h5:=Ub hv;have hw:=L7 (d:=d) (f:=Hc d) (e:=Hd) (F:=Wo d) (λ_ _ _=>rfl) (λ_ _=>rfl) (λ_=>rfl) (by omega) (d.length*d.length+3) (List.replicate d.length 0) true (B4 _).1 (B4 _).2
 have hsome:(QG (Jq d) d.length d.length (d.length*d.length+3) (true,List.replicate d.length 0)).isSome=true:=by
  have:=Ey d h5;rw[zW,hw,Option.isSome_map] at this;exact this
 obtain ⟨r,hr⟩:=Option.isSome_iff_exists.1 hsome;have hw':∀i e,e∈Jq d i->e.2<=1/\e.1<d.length:=λi e he=>⟨(L6 d i e he).1,(L6 d i e he).2.1⟩
 obtain ⟨_,h2⟩:=QI hw' _ 0 true r (λe=>by cases e) hr
 have hrest:PJ (Jq d) d.length (after (Jq d) d.length (d.length*d.length+2)):=by
  obtain ⟨B,hB⟩:=BU g
  have hex:∃k,PJ (Jq d) d.length (after (Jq d) d.length k):=yI λhno=>by
   have h1:=Tf (E:=Jq d) (n:=d.length) (d.length*B+1) λj _ hr=>hno ⟨j,hr⟩
   have h2:=FY (after (Jq d) d.length (d.length*B+1)) B λx hx=>by
    obtain ⟨i,_,e⟩:=VM hx;have h3:=Lw hs h0 (d.length*B+1) i;have h4:=hB i;omega
   rw[Un] at h2;have h3:((d.length*B+1:Nat):Int)=(d.length:Int)*(B:Int)+1:=by rw[xB,Int.natCast_mul];rfl
   omega
  obtain ⟨k,hk⟩:=hex;exact GA hw' hk
 cases r with
 | none=>exact (h2 rfl hrest).elim
 | some L=>
   unfold Qq;rw[hv];simp only[zR,cond_false];unfold N1;rw[zW,hw,hr];rfl
theorem Rm {d:List Yc} {w:Int} {e:Nat×Int}:∀{l:List ByteArray},e∈Vf d w l->∃nm,nm∈l/\0<=Qz d nm/\e=(zP (Qz d nm),w)
 | [],h=>by cases h
 | x ::l,h=>by
   simp only[Vf] at h;split at h
   . rename_i h0;rcases zJ.1 h with rfl | h
     . exact ⟨x,zV ..,h0,rfl⟩
     obtain ⟨nm,h1,h2⟩:=Rm h;exact ⟨nm,zN _ h1,h2⟩
   obtain ⟨nm,h1,h2⟩:=Rm h;exact ⟨nm,zN _ h1,h2⟩
theorem TN {d d':List Yc} (h:(Qq d).2=true) (hv:Qk d'=true) (hsub:∀a,a∈d'->a∈d):(Qq d').2=true:=by
 obtain ⟨hvd,hl,hsat,h0⟩:=QR (Prod.ext rfl h:Qq d=((Qq d).1,true));generalize (Qq d).1=L at hl hsat h0;have hn:=To hvd;have hn':=To hv;have hg:∀j,j<d'.length->nth (d'.map λa=>nth L (zP (Qz d a.1))) j=nth L (zP (Qz d (nth d' j).1)):=λj hj=>by simp[nth,xN,hj]
 have key:∀(i:Nat) (w:Int) (deps:List Yz->List ByteArray) (e:Nat×Int),i<d'.length->e∈Vf d' w (deps (nth d' i).2)->(∀(k:Nat) (nm:ByteArray),k<d.length->nm∈deps (nth d k).2->0<=Qz d nm->(zP (Qz d nm),w)∈Jq d k)->
  nth (d'.map λa=>nth L (zP (Qz d a.1))) e.1+e.2<=nth (d'.map λa=>nth L (zP (Qz d a.1))) i:=λi w deps e hi he hin=>by
  obtain ⟨nm,h1,h2,rfl⟩:=Rm he;have hm:nth d' i∈d':=zS (Hb hi);obtain ⟨hk,hk2⟩:=Qka hn (hsub _ hm);rcases GV d' nm with ⟨h3,_⟩ | ⟨j,b,h3,h4,h5⟩
  . omega
  have hj:j<d'.length:=(yD.1 h3).1;have hb:b∈d:=hsub _ (zS h3);have h0':0<=Qz d nm:=by have:=Qlj hb;rwa [h4] at this
  have hed:=hin _ nm hk (by rw[hk2];exact h1) h0';have:=(Ce.1 (hsat _ hk)).2 _ hed;rw[hg i hi,h5,zW,hg j hj,O9 h3,h4];exact this
 refine DX (g:=d'.map λa=>nth L (zP (Qz d a.1))) hv (λi hi=>Ce.2 ⟨?_,λe he=> ?_⟩) λj=> ?_
 . rw[hg i hi];exact h0 _
 . unfold Jq at he;rw[if_pos hi] at he;rcases zD.1 he with he | he
   . exact key i 0 Y2 e hi he λk nm hk h1 h2=>by
      unfold Jq;rw[if_pos hk];exact yF _ (G8 h1 h2)
   exact key i 1 Yh e hi he λk nm hk h1 h2=>by
    unfold Jq;rw[if_pos hk];exact yK _ (G8 h1 h2)
 by_cases hj:j<d'.length
 . rw[hg j hj];exact h0 _
 rw[Te (by rw[yO];omega)];omega
theorem GW {R S T:Type} {f:S->Rd R S T} (hf:∀s r,f s≠ .ret r):∀n s r,whl f n s≠some (.ret r)
 | 0,_,_=>by simp[whl]
 | n+1,s,r=>by
   simp only[whl];cases h:f s with
   | next s'=>exact GW hf n s' r
   | brk t=>simp
   | ret r'=>exact absurd h (hf s r')
theorem Qgy {R S T:Type} [Inhabited T] {f:S->Rd R S T} (hf:∀s r,f s≠ .ret r) (n:Nat) (s:S):∃t,N1 f n s= .brk t:=by
 unfold N1;cases h:whl f n s with
 | none=>exact ⟨default,rfl⟩
 | some o=>
   cases o with
   | brk t=>exact ⟨t,rfl⟩
   | ret r=>exact absurd h (GW hf n s r)
theorem Qdq {R S T:Type} {f:S->Rd R S T} (I:S->Prop) (J:T->Prop) (hn:∀s s',I s->f s= .next s'->I s') (hb:∀s t,I s->f s= .brk t->J t):∀n s t,I s->whl f n s=some (.brk t)->J t
 | 0,_,_,_,h=>by simp[whl] at h
 | n +1,s,t,hi,h=>by
   simp only[whl] at h;cases hs:f s with
   | next s'=>rw[hs] at h;exact Qdq I J hn hb n s' t (hn s s' hi hs) h
   | brk t'=>
     rw[hs] at h;obtain rfl:t'=t:=by simpa using h
     exact hb s t' hi hs
   | ret r=>rw[hs] at h;simp at h
theorem Qgz {R S T:Type} [Inhabited T] {f:S->Rd R S T} (I:S->Prop) (J:T->Prop) (hn:∀s s',I s->f s= .next s'->I s') (hb:∀s t,I s->f s= .brk t->J t) {n:Nat} {s:S} {t:T} (hi:I s) (hw:(whl f n s).isSome=true) (h:N1 f n s= .brk t):J t:=
 Qdq I J hn hb n s t hi (by rw[Oc hw,h])
instance memDec (a:ByteArray) (S:List ByteArray):Decidable (a∈S):=decidable_of_iff (S.any (λx=>decide (x=a))=true) (by rw[yW];exact ⟨λ⟨x,h,e⟩=>of_decide_eq_true e▸h,λh=>⟨a,h,decide_eq_true rfl⟩⟩)
abbrev BV:=List (ByteArray×List ByteArray)
inductive Reach (E:BV) (N:List ByteArray):ByteArray->Prop
 | base {x:ByteArray}:x∈N->Reach E N x
 | step {e:ByteArray×List ByteArray} {a:ByteArray}:e∈E->a∈e.2->Reach E N a->Reach E N e.1
def Tp (E:BV) (S:List ByteArray):Prop:=∀e,e∈E->∀a,a∈e.2->a∈S->e.1∈S
theorem RC {E:BV} {N S:List ByteArray} (hN:∀x,x∈N->x∈S) (hc:Tp E S) {x:ByteArray} (h:Reach E N x):x∈S:=by
 induction h with
 | base h=>exact hN _ h
 | step he ha _ ih=>exact hc _ he _ ha ih
theorem Qg0 {S:List ByteArray} {x:ByteArray} (h:YG S) (hx:x∈S):DE S x=S:=
 DF _ _ (QE x S h) h λy=>by rw[Ml];exact ⟨λh=>h.elim (λe=>e▸hx) id,.inr⟩
def NB (e:ByteArray×List ByteArray) (S:List ByteArray) (a:ByteArray):List ByteArray:=if a∈S then DE S e.1 else S
def WX (S:List ByteArray) (e:ByteArray×List ByteArray):List ByteArray:=e.2.foldl (NB e) S
def Md (E:BV) (S:List ByteArray):List ByteArray:=E.foldl WX S
def Cr (E:BV) (S:List ByteArray):Nat->List ByteArray
 | 0=>S
 | k+1=>Md E (Cr E S k)
theorem Qdr {e:ByteArray×List ByteArray} {S:List ByteArray} {a x:ByteArray} (hx:x∈S):x∈NB e S a:=by
 unfold NB;split
 . exact (Ml _ _ _).2 (.inr hx)
 exact hx
theorem JW {e:ByteArray×List ByteArray} {x:ByteArray}:∀(l:List ByteArray) (S:List ByteArray),x∈S->x∈l.foldl (NB e) S
 | [],_,h=>h
 | _::l,_,h=>JW l _ (Qdr h)
theorem XJ {x:ByteArray}:∀(E:BV) (S:List ByteArray),x∈S->x∈Md E S
 | [],_,h=>h
 | e::E,S,h=>XJ E (WX S e) (JW e.2 S h)
theorem RD {e:ByteArray×List ByteArray}:∀(l:List ByteArray) (S:List ByteArray),YG S->YG (l.foldl (NB e) S)
 | [],_,h=>h
 | a::l,S,h=>RD l _ (by unfold NB;split;exact QE _ _ h;exact h)
theorem GX:∀(E:BV) (S:List ByteArray),YG S->YG (Md E S)
 | [],_,h=>h
 | e::E,S,h=>GX E (WX S e) (RD e.2 S h)
theorem BW {E:BV} {N:List ByteArray} {e:ByteArray×List ByteArray} (he:e∈E):∀(l:List ByteArray) (S:List ByteArray),(∀a,a∈l->a∈e.2)->(∀x,x∈S->Reach E N x)->∀x,x∈l.foldl (NB e) S->Reach E N x
 | [],_,_,h=>h
 | a ::l,S,hl,h=>BW he l _ (λb hb=>hl b (zN _ hb)) λx hx=>by
   unfold NB at hx;split at hx
   . rename_i ha;rcases (Ml _ _ _).1 hx with rfl | hx
     . exact .step he (hl a (zV ..)) (h a ha)
     exact h x hx
   exact h x hx
theorem WY {N:List ByteArray} {E0:BV}:∀(E:BV) (S:List ByteArray),(∀e,e∈E->e∈E0)->(∀x,x∈S->Reach E0 N x)->∀x,x∈Md E S->Reach E0 N x
 | [],_,_,h=>h
 | e::E,S,hE,h=>WY E (WX S e) (λf hf=>hE f (zN _ hf)) (BW (hE e (zV ..)) e.2 S (λ_ h=>h) h)
theorem RE {e:ByteArray×List ByteArray} {a:ByteArray}:∀(l:List ByteArray) (S:List ByteArray),a∈l->a∈S->e.1∈l.foldl (NB e) S
 | b::l,S,ha,hS=>by
   rw[xD];rcases zJ.1 ha with rfl | ha
   . refine JW l _ ?_;unfold NB;rw[if_pos hS];exact (Ml _ _ _).2 (.inl rfl)
   exact RE l _ ha (Qdr hS)
theorem GY:∀(E:BV) (S:List ByteArray) {e:ByteArray×List ByteArray} {a:ByteArray},e∈E->a∈e.2->a∈S->e.1∈Md E S
 | f::E,S,e,a,he,ha,hS=>by
   show e.1∈Md E (WX S f);rcases zJ.1 he with rfl | he
   . exact XJ E _ (RE _ S ha hS)
   exact GY E _ he ha (JW f.2 S hS)
theorem WZ {e:ByteArray×List ByteArray} {S:List ByteArray} (hs:YG S):∀l:List ByteArray,(∀a,a∈l->a∈S->e.1∈S)->l.foldl (NB e) S=S
 | [],_=>rfl
 | a ::l,h=>by
   have:NB e S a=S:=by
    unfold NB;split
    . rename_i ha;exact Qg0 hs (h a (zV ..) ha)
    rfl
   rw[xD,this];exact WZ hs l λb hb=>h b (zN _ hb)
theorem ZL {S:List ByteArray} (hs:YG S):∀E:BV,Tp E S->Md E S=S
 | [],_=>rfl
 | e::E,h=>by
   show Md E (WX S e)=S;rw[show WX S e=S from WZ hs e.2 (h e (zV ..))];exact ZL hs E λf hf=>h f (zN _ hf)
def HI (E:BV) (S:List ByteArray):Nat:=(E.filter λe=> !decide (e.1∈S)).length
theorem GZ {S T:List ByteArray} (h:∀x,x∈S->x∈T):∀E:BV,HI E T<=HI E S
 | []=>xO _
 | e::E=>by
   have ih:=GZ h E;unfold HI at ih⊢;by_cases h1:e.1∈S
   . have h2:=h _ h1;simp only[yE,h1,h2,decide_true,zR,yH,if_false];exact ih
   by_cases h2:e.1∈T
   . simp only[yE,h1,h2,decide_true,decide_false,zR,zU,yH,if_false,if_true,zO];omega
   simp only[yE,h1,h2,decide_false,zU,if_true,zO];omega
theorem IA {S T:List ByteArray} (h:∀x,x∈S->x∈T):∀{E:BV} {e:ByteArray×List ByteArray},e∈E->e.1∉S->e.1∈T->HI E T+1<=HI E S
 | f::E,e,he,h1,h2=>by
   rcases zJ.1 he with rfl | he
   . have ih:=GZ h E;unfold HI at ih⊢;simp only[yE,h1,h2,decide_true,decide_false,zR,zU,yH,if_false,if_true,zO];omega
   have ih:=IA h he h1 h2;unfold HI at ih⊢;by_cases h3:f.1∈S
   . have h4:=h _ h3;simp only[yE,h3,h4,decide_true,zR,yH,if_false];exact ih
   by_cases h4:f.1∈T
   . simp only[yE,h3,h4,decide_true,decide_false,zR,zU,yH,if_false,if_true,zO];omega
   simp only[yE,h3,h4,decide_false,zU,if_true,zO];omega
theorem YT {E:BV} {S:List ByteArray} (h:YG S):∀k,YG (Cr E S k)
 | 0=>h
 | k+1=>GX E _ (YT h k)
theorem UA {E:BV} {S:List ByteArray} (hs:YG S):∀k,Tp E (Cr E S k)\/HI E (Cr E S k)+k<=E.length
 | 0=> .inr (by unfold HI;exact List.length_filter_le _ _)
 | k+1=>by
   show Tp E (Md E (Cr E S k))\/HI E (Md E (Cr E S k))+(k+1)<=E.length;by_cases hc:Tp E (Cr E S k)
   . rw[ZL (YT hs k) E hc];exact .inl hc
   rcases UA hs k with h | h
   . exact (hc h).elim
   right
   have:∃e,e∈E/\∃a,a∈e.2/\a∈Cr E S k/\e.1∉Cr E S k:=yI λhno=>hc λe he a ha hS=>yI λhn=>hno ⟨e,he,a,ha,hS,hn⟩
   obtain ⟨e,he,a,ha,hS,hn⟩:=this;have:=IA (λx hx=>XJ E _ hx) he hn (GY E _ he ha hS);omega
theorem NC {E:BV} {S N:List ByteArray} (hs:YG S) (hN:∀x,x∈S↔x∈N) (x:ByteArray):x∈Cr E S (E.length+1)↔Reach E N x:=by
 have hsub:∀k x,x∈S->x∈Cr E S k:=λk=>by
  induction k with
  | zero=>exact λ_ h=>h
  | succ k ih=>exact λx h=>XJ E _ (ih x h)
 have hr:∀k x,x∈Cr E S k->Reach E N x:=λk=>by
  induction k with
  | zero=>exact λx h=> .base ((hN x).1 h)
  | succ k ih=>exact WY E _ (λ_ h=>h) ih
 refine ⟨hr _ x,λh=> ?_⟩;refine RC (λy hy=>hsub _ y ((hN y).2 hy)) ?_ h;rcases UA hs (E.length+1) with h | h
 . exact h
 omega
theorem Sa {α R:Type} {f:Nat->α->List ByteArray->Rd R (List ByteArray) (List ByteArray)} {e:Nat->List ByteArray->List ByteArray} {p:α->Bool} {g:α->ByteArray} (hf:∀k a s,f k a s=bif p a then .next (Kg s (g a)) else .next s) (he:∀k s,e k s=s):∀(l:List α) (k:Nat) (s:List ByteArray),X7 f e l k s= .brk (Di s ((l.filter p).map g))
 | [],k,s=>by simp[X7,he,Di]
 | a ::l,k,s=>by
   simp only[X7,hf];cases h:p a with
   | true=>
     simp only[cond_true];rw[Sa hf he l (k+1),P9,yX h];rfl
   | false=>
     simp only[cond_false];rw[Sa hf he l (k+1),yY (by simp[h])]
theorem IB (q:List Yz):V9 q=V8 q:=by
 unfold V9 V8;rw[Sa (f:=D8) (e:=Ip) (p:=Jp) (g:=λn:Yz=>n.2.2.2.1) (λk a s=>by unfold D8;rw[VO]) (λ_ _=>rfl),Cd (f:=Im) (p:=Jp) (g:=λn:Yz=>n.2.2.2.1) (λ_ _ _=>rfl)];rfl
theorem ND (n:Yz):Xk n.1 2 4=((n.1==(2:Int))|| ((n.1==(3:Int))|| (n.1==(4:Int)))):=by
 unfold Xk;rw[xA];simp;omega
theorem DY (q:List Yz):K2 q=V3 q:=by
 unfold K2 V3;rw[Sa (f:=C5) (e:=Gm) (p:=λn:Yz=>((n.1==(2:Int))|| ((n.1==(3:Int))|| (n.1==(4:Int))))) (g:=λn:Yz=>n.2.2.2.1) (λk a s=>by unfold C5;rw[ND]) (λ_ _=>rfl),Cd (f:=Gl) (p:=λn:Yz=>((n.1==(2:Int))|| ((n.1==(3:Int))|| (n.1==(4:Int))))) (g:=λn:Yz=>n.2.2.2.1) (λ_ _ _=>rfl)];rfl
theorem ZM (f:Xx):Yt f=Qi f:=by
 unfold Yt Qi;rw[A7 (f:=D9) (g:=λa:Ee=>a.1) (λ_ _ _=>rfl),A7 (f:=D7) (g:=λa:Ee=>a.1) (λ_ _ _=>rfl)];rfl
theorem IC {α R S T:Type} [Inhabited α] {L:List α} {f:Nat->α->S->Rd R S T} {g:Nat->S->Rd R S T} {e e':Nat->S->T} (hg:∀k s,g k s=f k (nth L k) s) (he:∀k s,e' k s=e k s):∀(n k:Nat) (s:S),k+n=L.length->U1 g e' n k s=X7 f e (L.drop k) k s
 | 0,k,s,h=>by rw[List.drop_eq_nil_of_le (by omega)];simp[X7,U1,he]
 | n+1,k,s,h=>by
   rw[VF (Hb (by omega:k<L.length))];simp only[X7,U1,hg];cases f k (nth L k) s with
   | next s'=>exact IC hg he n (k+1) s' (by omega)
   | brk t=>rfl
   | ret r=>rfl
def RF (a b:Xx) (x:ByteArray):Bool:=(!(((Xv a x).1==(Xv b x).1)&&(((Xv a x).2.1==(Xv b x).2.1)&&((((Xv a x).2.2).toList==((Xv b x).2.2).toList)&&true))))
theorem TO (a b:Xx):W9 a b=Kd a b:=by
 unfold W9 Kd;rw[ZM,ZM];have hn:zP (((Qi a).length+(Qi b).length):Int)=(Qi a++Qi b).length:=by rw[yQ];omega
 rw[hn,IC (L:=Qi a++Qi b) (f:=λ_ x s=>bif RF a b x then .next (s++ [x]) else .next s) (e:=λ_ s=>s) (g:=Eo a b) (e':=Ep) (λ_ _=>rfl) (λ_ _=>rfl) _ 0 [] (yJ _),List.drop_zero,
  Cd (f:=λ_ x s=>bif RF a b x then .next (s++ [x]) else .next s) (e:=λ_ s=>s) (p:=RF a b) (g:=λx:ByteArray=>x) (λ_ _ _=>rfl),Sa (f:=Er a b) (e:=Es) (p:=RF a b) (g:=λx:ByteArray=>x) (λ_ _ _=>rfl) (λ_ _=>rfl)]
 rfl
theorem NE {α R:Type} {p:α->Bool} {f:Nat->α->Unit->Rd Int Unit R} {e:Nat->Unit->R} (hf:∀k a,f k a ()=bif p a then .ret ((k:Nat):Int) else .next ()):∀(l:List α) (k:Nat),decide ((Out.on (X7 f e l k ()) (λ_=>(-1:Int)))>=0)=l.any p
 | [],k=>rfl
 | a::l,k=>by
   simp only[X7,hf,xH];cases p a with
   | true=>simp only[cond_true,Out.on,yZ];exact decide_eq_true (by omega)
   | false=>simp only[cond_false,xI];exact NE hf l (k+1)
theorem Qds {α R:Type} {p:α->Bool} {f:Nat->α->Bool->Rd R Bool Bool} {e:Nat->Bool->Bool} (hf:∀k a s,f k a s= .next (s|| p a)) (he:∀k s,e k s=s):∀(l:List α) (k:Nat) (s:Bool),X7 f e l k s= .brk (s|| l.any p)
 | [],k,s=>by simp[X7,he]
 | a::l,k,s=>by
   simp only[X7,hf,xH];rw[Qds hf he l (k+1),Bool.or_assoc]
theorem ID:∀(q:List Yz) (k:Nat),Out.on (X7 Bt Ea q k ()) (λ_=>false)=q.any Jn
 | [],k=>rfl
 | a::q,k=>by
   simp only[X7,Bt,xH];unfold Jn;cases (a.1==(9:Int)) with
   | true=>rfl
   | false=>simp only[cond_false,xI];exact ID q (k+1)
theorem Rn (d:List Yc):Ua d=Yv d:=by
 rw[Tk];unfold Ua;rw[A7 (f:=F3) (g:=λa:Yc=>a.1) (λ_ _ _=>rfl)];simp[Out.on,F4]
theorem Qg1 (l m:List ByteArray):(l.any λx=>Wg m x)=m.any λx=>K9 x l:=by
 rw[xA,yW,yW];constructor
 . rintro ⟨x,h1,h2⟩;exact ⟨x,(WR _ _).1 h2,(Cm x l).2 h1⟩
 rintro ⟨x,h1,h2⟩;exact ⟨x,(Cm x l).1 h2,(WR _ _).2 h1⟩
theorem NF (d:List Yc) (a b:Xx):K7 d a b=K6 d a b:=by
 unfold K7 K6
 rw[Rn,Gv (f:=Kr a b) (g:=Vs a b) (e:=Wt) (e':=Hf) (λk x s=>by
  unfold Kr Vs;rw[Qds (f:=Hg a b) (e:=Hh) (p:=λx=>Wg (W9 a b) x) (λ_ _ _=>rfl) (λ_ _=>rfl)];simp only[Out.on];rw[Qg1,TO,DY];have e1:X2 (Kd a b) (V3 x.2)=(Kd a b).any λy=>K9 y (V3 x.2):=NE (λ_ _=>rfl) _ 0
  have e2:X6 x.2=x.2.any Jn:=NE (λ_ _=>rfl) _ 0;have e3:C6 x.2=x.2.any Jn:=ID x.2 0;rw[e1,e2,e3,Bool.or_comm,Bool.and_comm (a.2.2.2.1 !=b.2.2.2.1)]) (λ_ _=>rfl)]
def UB (d:List Yc):BV:=d.map λa=>(a.1,V8 a.2)
theorem NG (a:Yc) (asks:List ByteArray):∀(l:List ByteArray) (k:Nat) (s:List ByteArray),X7 (Wu a) H4 l k s= .brk (l.foldl (NB (a.1,asks)) s)
 | [],k,s=>rfl
 | x ::l,k,s=>by
   simp only[X7,Wu,xD];unfold NB;cases h:Wg s x with
   | true=>
     rw[if_pos ((WR s x).1 h),P9];exact NG a asks l (k+1) _
   | false=>
     rw[if_neg (λhx=>by rw[(WR s x).2 hx] at h;cases h)];exact NG a asks l (k+1) s
theorem Qdt:∀(d:List Yc) (k:Nat) (s:List ByteArray),X7 Wv H5 d k s= .brk (Md (UB d) s)
 | [],k,s=>rfl
 | a::d,k,s=>by
   simp only[X7,Wv,IB];rw[NG a (V8 a.2)];simp only[Out.on];exact Qdt d (k+1) _
theorem ZN (E:BV) (s:List ByteArray):∀n,Cr E (Md E s) n=Cr E s (n+1)
 | 0=>rfl
 | n+1=>by show Md E (Cr E (Md E s) n)=Md E (Cr E s (n+1));rw[ZN E s n]
theorem Qdu (d:List Yc):∀(n k:Nat) (s:List ByteArray),U1 (Ww d) H6 n k s= .brk (Cr (UB d) s n)
 | 0,k,s=>rfl
 | n+1,k,s=>by
   simp only[U1,Ww];rw[Qdt];simp only[Out.on];rw[Qdu d n (k+1),ZN]
theorem TP (d:List Yc) (names:List ByteArray):YG (Y3 d names)/\∀x,x∈Y3 d names↔Reach (UB d) names x:=by
 unfold Y3;rw[Sa (f:=H2) (e:=H3) (p:=λ_=>true) (g:=id) (λ_ _ _=>rfl) (λ_ _=>rfl)];simp only[Out.on];rw[Qdu,show zP ((d.length:Int)+1)=(UB d).length+1 by unfold UB;rw[yO];omega];have h0:YG (Di [] ((names.filter λ_=>true).map id)):=Oj _ _ yS;exact ⟨YT h0 _,NC h0 λx=>by rw[Oi];simp⟩
theorem Qdv (d:List Yc) (nm x:ByteArray):x∈Zn d nm↔∃a,a∈d/\a.1=x/\nm∈V8 a.2:=by
 unfold Zn;rw[Cd (f:=Bd nm) (p:=λa:Yc=>Qu (V8 a.2) nm) (g:=λa:Yc=>a.1) (λ_ _ _=>rfl)];simp only[Out.on,C3,yP,List.mem_map,List.mem_filter,Cm];constructor
 . rintro ⟨a,⟨h1,h2⟩,h3⟩;exact ⟨a,h1,h3,h2⟩
 rintro ⟨a,h1,h3,h2⟩;exact ⟨a,⟨h1,h2⟩,h3⟩
theorem Ro:∀(l:List ByteArray) (k:Nat) (s:List ByteArray),∃new,X7 Jm Kh l k s= .brk (s++new)/\(∀x,x∈l->x∈s++new)/\∀x,x∈new->x∈l
 | [],k,s=>⟨[],by simp[X7,Kh],λx hx=>(by cases hx),λx hx=>(by cases hx)⟩
 | a :: l,k,s=>by
   simp only[X7,Jm];cases hc:Qu s a with
   | true=>
     simp only[zR,cond_false];obtain ⟨new,h1,h2,h3⟩:=Ro l (k+1) s;refine ⟨new,h1,λx hx=> ?_,λx hx=>zN _ (h3 x hx)⟩;rcases zJ.1 hx with rfl | hx
     . exact yF _ ((Cm _ _).1 hc)
     exact h2 x hx
   | false=>
     simp only[zU,cond_true];obtain ⟨new,h1,h2,h3⟩:=Ro l (k+1) (s++ [a]);refine ⟨a::new,by rw[h1,zQ];rfl,λx hx=> ?_,λx hx=> ?_⟩
     . rcases zJ.1 hx with rfl | hx
       . simp
       have:=h2 x hx;simpa using this
     rcases zJ.1 hx with rfl | hx
     . exact zV ..
     exact zN _ (h3 x hx)
structure WorkI (d:List Yc) (names:List ByteArray) (s:List ByteArray×Int):Prop where
 all:∀x,x∈names->x∈s.1
 reach:∀x,x∈s.1->Reach (UB d) names x
 pos:0<=s.2
 len:s.2<=(s.1.length:Int)
 done:∀j:Nat,(j:Int)<s.2->∀e,e∈UB d->nth s.1 j∈e.2->e.1∈s.1
theorem Qdw {d:List Yc} {names:List ByteArray} {s s':List ByteArray×Int} (h:WorkI d names s) (hs:Yp d s= .next s'):WorkI d names s':=by
 unfold Yp at hs;by_cases hc:s.2<(s.1.length:Int)
 . simp only[decide_eq_true hc,cond_true] at hs;obtain ⟨new,h1,h2,h3⟩:=Ro (Zn d (nth s.1 (zP s.2))) 0 s.1;rw[h1] at hs;simp only[Out.on] at hs;have hs:=Rd.next.inj hs;rw[←hs];have hp:=h.pos
   have hget:∀j:Nat,(j:Int)<s.1.length->nth (s.1++new) j=nth s.1 j:=λj hj=>by
    have hj':j<s.1.length:=by omega
    simp[nth,xN,List.getElem?_append,hj']
   have hmem:nth s.1 (zP s.2)∈s.1:=zS (Hb (by omega));refine ⟨λx hx=>yF _ (h.all x hx),λx hx=> ?_,by show 0<=s.2+1;omega,by show s.2+1<=((s.1++new).length:Int);rw[yQ];omega,λj hj e he hn=> ?_⟩
   . rcases zD.1 hx with hx | hx
     . exact h.reach x hx
     obtain ⟨a,ha,hax,hq⟩:=(Qdv d _ x).1 (h3 x hx);rw[←hax];exact Reach.step (e:=(a.1,V8 a.2)) (yC ha) hq (h.reach _ hmem)
   have hj:(j:Int)<s.2+1:=hj;have hn:nth (s.1++new) j∈e.2:=hn;rw[hget j (by omega)] at hn;by_cases hjs:(j:Int)<s.2
   . exact yF _ (h.done j hjs e he hn)
   have ej:j=zP s.2:=by omega
   subst ej;obtain ⟨a,ha,rfl⟩:=List.mem_map.1 he;exact h2 a.1 ((Qdv d _ _).2 ⟨a,ha,rfl,hn⟩)
 simp only[decide_eq_false hc,cond_false] at hs;cases hs
theorem DZ {d:List Yc} {names:List ByteArray} (hp:(zG names:Int)+zG d<=1000000):Y3 d names=X8 d names:=by
 obtain ⟨h1,h2⟩:=TP d names;unfold X8
 obtain ⟨t,ht⟩:=Qgy (f:=Yp d) (λs r=>by
  unfold Yp;by_cases hc:s.2<(s.1.length:Int)
  . simp only[decide_eq_true hc,cond_true];obtain ⟨new,h1,_,_⟩:=Ro (Zn d (nth s.1 (zP s.2))) 0 s.1;rw[h1];simp[Out.on]
  simp[decide_eq_false hc]) (zG names+zG d+1) (names,0)
 have hj:(∀x,x∈names->x∈t)/\(∀x,x∈t->Reach (UB d) names x)/\Tp (UB d) t:=Qgz (f:=Yp d) (I:=WorkI d names) (J:=λt=>(∀x,x∈names->x∈t)/\(∀x,x∈t->Reach (UB d) names x)/\Tp (UB d) t) (λs s' hi h=>Qdw hi h) (λs t hi h=>by
  unfold Yp at h;by_cases hc:s.2<(s.1.length:Int)
  . simp only[decide_eq_true hc,cond_true] at h;obtain ⟨new,h1,_,_⟩:=Ro (Zn d (nth s.1 (zP s.2))) 0 s.1;rw[h1] at h;simp[Out.on] at h
  simp only[decide_eq_false hc,cond_false] at h;have h:=Rd.brk.inj h;rw[←h];refine ⟨hi.all,hi.reach,λe he a ha hS=> ?_⟩;obtain ⟨j,hjl,hj⟩:=List.getElem_of_mem hS;exact hi.done j (by omega) e he (by rw[O9 (yD.2 ⟨hjl,hj⟩)];exact ha)) ⟨λx h=>h,λx h=> .base h,Int.le_refl 0,by show (0:Int)<=_;omega,λj hj=>by have hj:(j:Int)<0:=hj;omega⟩ (De d names hp) ht
 rw[ht];simp only[Out.on]
 exact DF _ _ h1 (Oj _ _ yS) λx=>by
  rw[h2,Oi];exact ⟨λh=> .inl (RC hj.1 hj.2.2 h),λh=>h.elim (hj.2.1 x) λh=>by cases h⟩
theorem NH {d:List Yc} (a b:Xx) (hd:zG d<=1000):U5 d a b=Vn d a b:=by
 unfold U5 Vn;rw[NF];have:=ZK d a b;exact DZ (by omega)
theorem Lc (s:Xr):Qf s=s:=by
 unfold Qf;rw[A7 (f:=Dw) (e:=Dx) (g:=id) (λ_ _ _=>rfl),yT];rfl
theorem Cs (d:List Yc):Wd d=d:=by
 unfold Wd;rw[A7 (f:=Nd) (e:=Nf) (g:=id) (λ_ _ _=>rfl),yT];rfl
theorem HJ (r:List Qj):Co r=r:=by
 unfold Co;rw[A7 (f:=F1) (e:=F2) (g:=id) (λ_ _ _=>rfl),yT];rfl
theorem TQ (r:List Qj):Dy r=r:=by
 unfold Dy;rw[A7 (f:=Gq) (e:=Gr) (g:=id) (λ_ _ _=>rfl),yT];rfl
theorem Ux (c:Xj):Xi c=c:=by
 unfold Xi;rw[Hl,A0,HJ]
theorem Et (c:Xj):Qb c=c:=by
 unfold Qb;rw[Lc,Cs,TQ]
theorem EA (s:Xr) (n:Int):Xp s n=Xh s n:=by
 unfold Xp Xh;rw[Qdf];by_cases h:Yf s n>=0
 . rw[decide_eq_true h,decide_eq_false (by omega)];rfl
 rw[decide_eq_false h,decide_eq_true (by omega)];rfl
theorem IE (s:Xr) (f:Xx):Yl s f=Yg s f:=by
 unfold Yl Yg;rw[Lc,Hl,Cz,VX];rfl
theorem TR (s:Xr) (f:Xx):Zb s f=Xy s f:=by
 unfold Zb Xy;rw[Lc,Hl,Cz,VX,Qdf];rfl
theorem IF (s:Xr) (id:Int):Zi s id=Yu s id:=by
 unfold Zi Yu;rw[Lc,Hl,Cz,Qdf];cases hv:Qs s with
 | false=>rfl
 | true=>
   by_cases h:Yf s id<0
   . rw[decide_eq_true h];rfl
   rw[decide_eq_false h];have h1:=WJ s id;have h2:=YN hv;have hw:IntKind.i64.wrap (Yf s id+1)=Yf s id+1:=IntWalk.i64_in _ (by omega);have ht:zP (Yf s id+1)=zP (Yf s id)+1:=by omega
   simp only[zR,xJ,cond_false]
   first
    | rw[hw,ht];rfl
    | rw[ht];rfl
abbrev Qlv (d:List Yc):Prop:=d.Pairwise λa b=>bl a.1 b.1=true
theorem UC {d:List Yc} (h:Qk d=true):Qlv d:=by
 have key:YG (d.map (·.1)):=by
  refine DQ λi hi=> ?_
  rw[yO] at hi;have e:∀j,j<d.length->nth (d.map (·.1)) j=(nth d j).1:=λj hj=>by simp[nth,xN,hj]
  rw[e i (by omega),e (i+1) hi];have:=XI h (i+1) _ (Hb hi);unfold Y9 at this;rw[decide_eq_true (show ((i+1:Nat):Int)>0 by omega),show zP (((i+1:Nat):Int)-1)=i by omega] at this;simp only[cond_true] at this;cases hb:bl (nth d i).1 (nth d (i+1)).1 with
  | true=>rfl
  | false=>
    unfold bl at hb;rw[hb] at this;simp at this
 exact List.pairwise_map.1 key
def BX (x:Yc):List Yc->List Yc
 | []=> [x]
 | a::l=>if bl a.1 x.1=true then a::BX x l else if a.1=x.1 then x::l else x::a::l
theorem Qkb {a b:ByteArray} (h:bl a b=true):a≠b:=λe=>by subst e;rw[PG] at h;cases h
theorem UD (x:Yc):∀(l:List Yc) (k:Nat) (s:List Yc),(∀a,a∈l->a.1≠x.1)->X7 (C9 x) F6 l k (s,true)= .brk (s++l,true)
 | [],k,s,_=>by simp[X7,F6]
 | a::l,k,s,h=>by
   have ha:(a.1.toList==x.1.toList)=false:=by rw[Hm];exact decide_eq_false (h a (zV ..))
   simp only[X7,C9,ha,zR,yG,cond_false,zU,cond_true];rw[UD x l (k+1) (s++ [a]) λb hb=>h b (zN _ hb),zQ];rfl
theorem IG (x:Yc):∀(l:List Yc) (k:Nat) (s:List Yc),Qlv l->∃y b,X7 (C9 x) F6 l k (s,false)= .brk (y,b)/\(bif !b then y++ [x] else y)=s++BX x l
 | [],k,s,_=>⟨s,false,rfl,rfl⟩
 | a :: l,k,s,h=>by
   obtain ⟨h1,h2⟩:=List.pairwise_cons.1 h;simp only[X7,C9];cases hb:Op.bytesLess a.1.toList x.1.toList with
   | true=>
     have hb':bl a.1 x.1=true:=hb;have ha:(a.1.toList==x.1.toList)=false:=by rw[Hm];exact decide_eq_false (Qkb hb')
     simp only[ha,zR,zU,yR,cond_false,cond_true];obtain ⟨y,b,h3,h4⟩:=IG x l (k+1) (s++ [a]) h2;refine ⟨y,b,h3, ?_⟩;rw[h4,BX,if_pos hb',zQ];rfl
   | false=>
     have hb':¬bl a.1 x.1=true:=by unfold bl;rw[hb];simp
     by_cases e:a.1=x.1
     . have ha:(a.1.toList==x.1.toList)=true:=by rw[Hm];exact decide_eq_true e
       simp only[ha,zR,zU,xK,cond_false,cond_true];refine ⟨_,_,UD x l (k+1) _ λc hc=> ?_, ?_⟩
       . have:=Qkb (h1 c hc);rw[e] at this;exact this.symm
       rw[BX,if_neg hb',if_pos e];simp
     have ha:(a.1.toList==x.1.toList)=false:=by rw[Hm];exact decide_eq_false e
     simp only[ha,zU,xK,cond_true];have hx:bl x.1 a.1=true:=Qh3 (by cases hq:bl a.1 x.1 with | true=>exact (hb' hq).elim | false=>rfl) (Ne.symm e);refine ⟨_,_,UD x l (k+1) _ λc hc=> ?_, ?_⟩
     . exact (Qkb (JN hx (h1 c hc))).symm
     rw[BX,if_neg hb',if_neg e];simp
theorem Qdx (x:Yc):∀(l:List Yc) (i:Nat) (a:Yc),Qlv l->l[i]? =some a->a.1=x.1->l.set i x=BX x l
 | [],i,a,_,h,_=>by simp at h
 | b::l,0,a,h,hi,e=>by
   obtain rfl:b=a:=by simpa using hi
   rw[BX,if_neg (by rw[e,PG];simp),if_pos e];rfl
 | b::l,i+1,a,h,hi,e=>by
   obtain ⟨h1,h2⟩:=List.pairwise_cons.1 h;have hi:l[i]? =some a:=by simpa using hi
   have hb:=h1 a (zS hi);rw[e] at hb;rw[BX,if_pos hb,List.set_cons_succ,Qdx x l i a h2 hi e]
theorem Qdy (x:Yc):∀(l:List Yc) (k:Nat),(∀a,a∈l->a.1≠x.1)->(X7 (Z3 x) Jl l k ()= .brk ()/\BX x l=l++ [x])\/∃j:Nat,j<l.length/\X7 (Z3 x) Jl l k ()= .ret (((k+j:Nat)):Int)/\BX x l=Mg l j x
 | [],k,_=> .inl ⟨rfl,rfl⟩
 | a :: l,k,h=>by
   have hn:=h a (zV ..)
   have hx:Bj a x= !(bl a.1 x.1):=by
    unfold Bj bl;rw[Hm,decide_eq_false hn,xJ]
   simp only[X7,Z3,hx];cases hb:bl a.1 x.1 with
   | false=>
     right
     refine ⟨0,by simp,rfl, ?_⟩;rw[BX,if_neg (by rw[hb];simp),if_neg hn];rfl
   | true=>
     simp only[zR,cond_false];rcases Qdy x l (k+1) λb hb=>h b (zN _ hb) with ⟨h1,h2⟩ | ⟨j,h1,h2,h3⟩
     . left
       refine ⟨h1, ?_⟩;rw[BX,if_pos hb,h2];rfl
     right
     refine ⟨j+1,by simpa using h1,by rw[h2,show k+1+j=k+(j+1) by omega], ?_⟩;rw[BX,if_pos hb,h3];simp[Mg]
theorem IH {d:List Yc} (x:Yc) (hv:Qk d=true):Yr d x=bif Qk (BX x d) then (BX x d,true) else (d,false):=by
 have ha:=UC hv
 have fin:∀y,(bif ((!(Qk d))|| (!(Qk y))) then (d,false) else (y,true))=bif Qk y then (y,true) else (d,false):=λy=>by
  rw[hv];cases Qk y<;>rfl
 unfold Yr;rw[A0];rcases GV d x.1 with ⟨h1,h2⟩ | ⟨i,a,h1,h2,h3⟩
 . rw [h1,decide_eq_false (show¬(-1:Int)>=0 by omega)];simp only[cond_false];rcases Qdy x d 0 h2 with ⟨h4,h5⟩ | ⟨j,h4,h5,h6⟩
   . have hidx:Qy d x= -1:=by unfold Qy;rw[h4];rfl
     rw[hidx,decide_eq_true (show (-1:Int)<0 by omega),cond_true,h5]
     have e:Mg d (zP (d.length:Int)) (Ys x)=d++ [x]:=by
      rw[zW];simp[Mg,Ys]
     rw[e];exact fin _
   have hidx:Qy d x=((j:Nat):Int):=by unfold Qy;rw[h5,yJ];rfl
   rw[hidx,decide_eq_false (show¬((j:Nat):Int)<0 by omega),cond_false,h6,zW];exact fin _
 rw[h3,decide_eq_true (show ((i:Nat):Int)>=0 by omega),cond_true,zW,←Qdx x d i a ha h1 h2];exact fin _
theorem Qdz (d:List Yc) (x:Yc):Zv d x=Yr d x:=by
 cases hv:Qk d with
 | false=>
   have hv':Yo d=false:=(B2 d).symm.trans hv;unfold Zv Yr;rw[hv',hv,Cs,A0];simp only[zU,cond_true,yZ];generalize decide (_>=(0:Int))=c1;generalize decide (_<(0:Int))=c2;cases c1<;>cases c2<;>rfl
 | true=>
   rw[IH x hv];have hv':Yo d=true:=(B2 d).symm.trans hv;unfold Zv;rw[hv',Cs];simp only[zR,cond_false];obtain ⟨y,b,h1,h2⟩:=IG x d 0 [] (UC hv);rw[h1];simp only[Out.on,yP] at h2⊢;cases b with
   | false=>
     simp only[zU,cond_true] at h2⊢;rw[Cs,h2,←B2];cases Qk (BX x d)<;>rfl
   | true=>
     simp only[zR,cond_false] at h2⊢;rw[Cs,h2,←B2];cases Qk (BX x d)<;>rfl
theorem BY (nm:ByteArray):∀(l:List Yc) (i:Nat) (a:Yc),(l.map (·.1)).Nodup->l[i]? =some a->a.1=nm->(l.filter λb=> !(b.1.toList==nm.toList))=Tl l i
 | [],i,a,_,h,_=>by simp at h
 | b ::l,0,a,h,hi,e=>by
   obtain rfl:b=a:=by simpa using hi
   rw[yU] at h;have hn:=(xC.1 h).1;have hb:(!(b.1.toList==nm.toList))=false:=by rw[Hm,decide_eq_true e];rfl
   rw[yY (by simp[hb])]
   have hall:∀c,c∈l->(!(c.1.toList==nm.toList))=true:=λc hc=>by
    rw[Hm,decide_eq_false (λe2=>hn (by rw[e,←e2];exact yC hc))];rfl
   rw[List.filter_eq_self.2 hall];rfl
 | b ::l,i+1,a,h,hi,e=>by
   have hi:l[i]? =some a:=by simpa using hi
   rw[yU] at h;obtain ⟨hn,h2⟩:=xC.1 h
   have hb:(!(b.1.toList==nm.toList))=true:=by
    rw[Hm,decide_eq_false (λe2=>hn (by rw[e2,←e];exact yC (zS hi)))];rfl
   rw[yX (p:=λb:Yc=> !(b.1.toList==nm.toList)) hb,BY nm l i a h2 hi e];rfl
theorem II (d:List Yc) (nm:ByteArray):Ka d nm=Zj d nm:=by
 unfold Ka Zj;rw[←B2,Qga,Cs,A0,Cd (f:=Ir nm) (p:=λb:Yc=> !(b.1.toList==nm.toList)) (g:=id) (λ_ _ _=>rfl)];cases hv:Qk d with
 | false=>rfl
 | true=>
   rcases GV d nm with ⟨h1,h2⟩ | ⟨i,a,h1,h2,h3⟩
   . rw[h1];rfl
   rw[h3,decide_eq_false (show¬((i:Nat):Int)<0 by omega),zW];simp only[zR,xJ,cond_false,Out.on,Is,yP,yT];rw[Cs,BY nm d i a (To hv) h1 h2]
theorem UE {d:List Yc} {nm:ByteArray} (h:(Zj d nm).2=true):Qk d=true/\∀a,a∈(Zj d nm).1->a∈d:=by
 unfold Zj at h⊢;rw[A0] at h⊢;generalize hc:((!(Qk d))|| decide ((Qz d nm)<(0:Int)))=c at h⊢;cases c with
 | true=>simp at h
 | false=>
   refine ⟨Zc (Rw hc),λa ha=> ?_⟩;rcases zD.1 ha with ha | ha
   . exact xE ha
   exact xF ha
theorem Qd0 {d d':List Yc} (hv:Qk d=true) (hs:d'.Sublist d):Qk d'=true:=by
 have ha:Qlv d':=List.Pairwise.sublist hs (UC hv);have hl:=Ub hv;have hl':=hs.length_le;unfold Qk;rw[S8 d' 0 (λi a hi=> ?_)]
 . exact decide_eq_true (show (d'.length:Int)<=5 by omega)
 have hm:a∈d:=hs.subset (zS hi);obtain ⟨j,hj⟩:=yN hm;have hr:=XI hv j a hj;rw[yJ];have hstr:Zg a.1=true:=Qdp hv hm
 have hq:Q8 a.2=true:=by
  cases hq:Q8 a.2 with
  | true=>rfl
  | false=>
    unfold Y9 at hr;rw[hq] at hr;cases decide (((j:Nat):Int)>(0:Int))<;>simp at hr
 unfold Y9;rw[hstr,hq];by_cases h0:0<i
 . have hlt:i-1<d'.length:=by have:=(yD.1 hi).1;omega
   have hb:bl (nth d' (i-1)).1 a.1=true:=by
    obtain ⟨h1,h2⟩:=yD.1 hi;have:=List.pairwise_iff_getElem.1 ha (i-1) i hlt h1 (by omega);rw[h2] at this;rw[O9 (zL hlt)];exact this
   unfold bl at hb;rw[show zP (((i:Nat):Int)-1)=i-1 by omega,hb,decide_eq_true (show ((i:Nat):Int)>0 by omega)];rfl
 obtain rfl:i=0:=by omega
 rfl
theorem HK {d:List Yc} {nm:ByteArray} (hs:(Qq d).2=true) (h:(Zj d nm).2=true):(Qq (Zj d nm).1).2=true:=by
 obtain ⟨hv,hsub⟩:=UE h;refine TN hs (Qd0 hv ?_) hsub;unfold Zj;rw[A0];generalize ((!(Qk d))|| _:Bool)=c;cases c with
 | true=>exact List.Sublist.refl d
 | false=>
   have h1:(List.drop (zP (Qz d nm)+1) d).Sublist (List.drop (zP (Qz d nm)) d):=by
    rw[←List.drop_drop];exact List.drop_sublist _ _
   have:=List.Sublist.append (List.Sublist.refl (List.take (zP (Qz d nm)) d)) h1;rw[List.take_append_drop] at this;exact this
theorem UF (a b:List Qj):Ak a b=U4 a b:=by
 unfold Ak U4 Jo
 rw[Gv (f:=H7 b) (g:=Zr b) (e:=Bp) (e':=Je) (λk x s=>by
  unfold H7 Zr Uw;rw[JT,MR,←Bool.not_and]) (λ_ _=>rfl)]
theorem Lh (c:Xj):Xb c=Xa c:=by
 unfold Xb Xa;rw[WF,UF]
theorem G2 {c:Xj} (h:Xa c=true):(Qq c.2.1).2=true:=by
 unfold Xa Jd Y4 at h;cases hS:(Qq c.2.1).2 with
 | true=>rfl
 | false=>rw[hS] at h;simp at h
theorem Qg2 {s:Xr} {d:List Yc} {r:List Qj} {names:List ByteArray} (hs:(Qq d).2=true) (hv:Qs s=true):∃o p,Y4 s d r names=(o,p,true)/\K3 s d r names=(o,true):=by
 obtain ⟨h1,h2⟩:=R8 (L:=((Qq d)).1) (on:=onD d names) (fs:=s.2.1) (g:=G9 r names) (f:=Kx r names) (e:=V6) (d:=d) (λk a s=>by
  unfold Kx G9;cases Qu names a.1<;>rfl) (λj _ hj=>by unfold onD at hj;unfold G9;rw[hj];rfl)
 obtain ⟨h3,_⟩:=R8 (L:=((Qq d)).1) (on:=onD d names) (fs:=s.2.1) (g:=G9 r names) (f:=Uf r names) (e:=Ht) (d:=d) Qdo (λj _ hj=>by unfold onD at hj;unfold G9;rw[hj];rfl)
 have key:∀(n k:Nat) (o:List Qj) (p:Int),EvS d ((Qq d)).1 (onD d names) s.2.1 (((k:Nat)):Int) o->∃o' p',U1 (W7 s d names) D4 n k (o,p)= .brk (o',p')/\U1 (C8 s d names) Gp n k o= .brk o':=by
  intro n
  induction n with
  | zero=>intro k o p _;exact ⟨o,p,rfl,rfl⟩
  | succ n ih=>
    intro k o p ho;obtain ⟨o1,p1,g1,g2⟩:=Fv (p:=p) hs ho;have g1':=DT (GS s d names k) _ o p true _ g1;obtain ⟨o2,p2,g3,g4⟩:=ih (k+1) o1 p1 (by rw[xB];exact g2);refine ⟨o2,p2, ?_, ?_⟩
    . simp only[U1];unfold W7 N1;rw[g1];exact g3
    simp only[U1];unfold C8 N1;rw[g1'];exact g4
 obtain ⟨o,p,g1,g2⟩:=key (zP (Vz d+1)) 0 _ 0 h2;refine ⟨o,p, ?_, ?_⟩
 . unfold Y4;rw[hs,hv,h1];simp only[zR,xM,cond_false,Out.on,V6];rw[g1]
 unfold K3;rw[W5,Cz,QU,hs,hv,h3];simp only[zR,xM,cond_false,Out.on,Ht];rw[g2]
theorem UG {c:Xj} {s:Xr} {d:List Yc} {names:List ByteArray} (hs:(Qq d).2=true) (hv:Qs s=true):(Ks c s d names).1=(Ya c s d names).1/\(Ya c s d names).2.2=true/\(Ya c s d names).1.1=s/\(Ya c s d names).1.2.1=d:=by
 obtain ⟨o,p,h1,h2⟩:=Qg2 (s:=s) (d:=d) (r:=c.2.2) (names:=names) hs hv;unfold Ya Ks Vo;rw[h1,h2,Hl,A0];exact ⟨rfl,rfl,rfl,rfl⟩
theorem EB {s:Xr} (f:Xx) (h:Qs s=true):Qs (Yg s f).1=true:=by
 rw[←Cz,←IE];exact R9 (Qdk f (Qj7 ((Cz s).trans h))).1
theorem EC {s:Xr} (id:Int) (h:Qs s=true):Qs (Yu s id).1=true:=by
 rw[←Cz,←IF];exact R9 (Qdl id (Qj7 ((Cz s).trans h))).1
theorem Qg3 {s:Xr} {n:Int} (h:0<=Yf s n):(nth s.2.1 (zP (Yf s n))).1=n:=by
 have key:∀(l:List Xx) (k:Nat),X7 (Yq n) Zh l k ()= .brk ()\/∃(i:Nat) (a:Xx),l[i]? =some a/\a.1=n/\X7 (Yq n) Zh l k ()= .ret (((k+i:Nat)):Int):=by
  intro l
  induction l with
  | nil=>exact λk=> .inl rfl
  | cons a l ih=>
    intro k;simp only[X7,Yq];by_cases ha:a.1=n
    . have e:Bi a n=true:=beq_iff_eq.2 ha;rw[e];exact .inr ⟨0,a,rfl,ha,rfl⟩
    have e:Bi a n=false:=beq_eq_false_iff_ne.2 ha;simp only[e,cond_false];rcases ih (k+1) with h | ⟨i,b,h1,h2,h3⟩
    . exact .inl h
    exact .inr ⟨i+1,b,by simpa using h1,h2,by rw[h3,show k+1+i=k+(i+1) by omega]⟩
 unfold Yf Jz at h⊢;rcases key s.2.1 0 with h1 | ⟨i,a,h1,h2,h3⟩
 . rw[h1] at h;have h:(0:Int)<=-1:=h;omega
 rw[h3,yJ];simp only[Out.on,zW];rw[O9 h1];exact h2
theorem HM {s:Xr} (f:Xx) (h:Qs s=true):Qs (Xy s f).1=true:=by
 have hvs:=Qj7 ((Cz s).trans h);unfold Xy;rw[Hl,h];by_cases hc:Yf s f.1<0
 . rw[decide_eq_true hc];exact h
 rw[decide_eq_false hc];cases hf:Y1 s.1 f with
 | false=>exact h
 | true=>
   have hid:=Qg3 (s:=s) (n:=f.1) (by omega);have hlt:=WJ s f.1;generalize Yf s f.1=p at hc hid hlt;obtain ⟨k,rfl⟩:∃k:Nat,p=(k:Int):=⟨p.toNat,by omega⟩;rw[zW] at hid;have hk:k<s.2.1.length:=by omega
   show Qs (s.1,yV s.2.1 (zP (k:Int)) f,s.2.2)=true;rw[zW,←Cz]
   have hget:∀(i:Nat) (a:Xx),(s.2.1.set k f)[i]? =some a->(i=k/\a=f)\/(i≠k/\s.2.1[i]? =some a):=λi a hi=>by
    rw[List.getElem?_set] at hi;by_cases e:k=i
    . subst e;rw[if_pos rfl,if_pos hk] at hi;exact .inl ⟨rfl,(zF hi).symm⟩
    rw[if_neg e] at hi;exact .inr ⟨Ne.symm e,hi⟩
   have hold:=Hb hk;have hoid:=hvs.file k _ hold;refine R9 ⟨hvs.sch,by show (s.2.1.set k f).length<=12;rw[zX];exact hvs.len,hvs.nx1,hvs.nx2,λi a hi=> ?_,λi a b ha hb=> ?_⟩
   . rcases hget i a hi with ⟨_,rfl⟩ | ⟨_,hi⟩
     . exact ⟨(VX s.1 a).trans hf,by show a.1<s.2.2;rw[←hid];exact hoid.2⟩
     exact hvs.file i a hi
   rcases hget i a ha with ⟨h1,e1⟩ | ⟨_,ha'⟩
   . rcases hget (i+1) b hb with ⟨h2,_⟩ | ⟨_,hb'⟩
     . omega
     rw[e1,←hid];exact hvs.asc i _ b (by rw[h1];exact hold) hb'
   rcases hget (i+1) b hb with ⟨h2,e2⟩ | ⟨_,hb'⟩
   . rw[e2,←hid];exact hvs.asc i a _ ha' (by rw[h2];exact hold)
   exact hvs.asc i a b ha' hb'
structure OpEq (x y:Xj) (a b:Bool) (c:Xj):Prop where
 cat:x=y
 ok:a=b
 no:b=false->y=c
theorem TS (c:Xj) (f:Xx):OpEq (Zu c f).1 (Jb c f).1 (Zu c f).2.2.2 (Jb c f).2.2.2 c:=by
 unfold Zu Jb;rw[Et,Ux,Lh,Rn];have e:((c.1.1,c.1.2.1,c.1.2.2):Xr)=c.1:=rfl;rw[e,IE];cases hc:Xa c with
 | false=>cases (Yg c.1 f).2.2<;>exact ⟨rfl,rfl,λ_=>rfl⟩
 | true=>
   cases hk:(Yg c.1 f).2.2 with
   | false=>exact ⟨rfl,rfl,λ_=>rfl⟩
   | true=>
     obtain ⟨t1,t2,_⟩:=UG (c:=c) (names:=Yv c.2.1) (G2 hc) (EB f (Wz hc).2);exact ⟨t1,t2.symm,λh=>by have h:(Ya c (Yg c.1 f).1 c.2.1 (Yv c.2.1)).2.2=false:=h;rw[t2] at h;cases h⟩
theorem ED (c:Xj) (f:Xx):OpEq (Y7 c f).1 (Jg c f).1 (Y7 c f).2.2 (Jg c f).2.2 c:=by
 unfold Y7 Jg;rw[Et,Ux,Lh];have e:((c.1.1,c.1.2.1,c.1.2.2):Xr)=c.1:=rfl;rw[e,TR,EA];cases hc:Xa c with
 | false=>cases (Xy c.1 f).2<;>exact ⟨rfl,rfl,λ_=>rfl⟩
 | true=>
   cases hk:(Xy c.1 f).2 with
   | false=>exact ⟨rfl,rfl,λ_=>rfl⟩
   | true=>
     rw[NH _ _ (by have:=(Wz hc).1;omega)];obtain ⟨t1,t2,_⟩:=UG (c:=c) (names:=Vn c.2.1 (Xh c.1 f.1).1 f) (G2 hc) (HM f (Wz hc).2);exact ⟨t1,t2.symm,λh=>by have h:(Ya c (Xy c.1 f).1 c.2.1 (Vn c.2.1 (Xh c.1 f.1).1 f)).2.2=false:=h;rw[t2] at h;cases h⟩
theorem EE (c:Xj) (id:Int):OpEq (Y8 c id).1 (Jh c id).1 (Y8 c id).2.2 (Jh c id).2.2 c:=by
 unfold Y8 Jh;rw[Et,Ux,Lh,Rn];have e:((c.1.1,c.1.2.1,c.1.2.2):Xr)=c.1:=rfl;rw[e,IF];cases hc:Xa c with
 | false=>cases (Yu c.1 id).2<;>exact ⟨rfl,rfl,λ_=>rfl⟩
 | true=>
   cases hk:(Yu c.1 id).2 with
   | false=>exact ⟨rfl,rfl,λ_=>rfl⟩
   | true=>
     obtain ⟨t1,t2,_⟩:=UG (c:=c) (names:=Yv c.2.1) (G2 hc) (EC id (Wz hc).2);exact ⟨t1,t2.symm,λh=>by have h:(Ya c (Yu c.1 id).1 c.2.1 (Yv c.2.1)).2.2=false:=h;rw[t2] at h;cases h⟩
theorem IJ (c:Xj) (x:Yc):OpEq (Y5 c x).1 (J4 c x).1 (Y5 c x).2.2 (J4 c x).2.2 c:=by
 unfold Y5 J4;rw[Et,Ux,Lh];have e:((c.1.1,c.1.2.1,c.1.2.2):Xr)=c.1:=rfl;have es:∀d,Ke d=Kc d:=λd=>by unfold Ke Kc;rw[W5]
 rw[e,Qdz,es];cases hc:Xa c with
 | false=>cases (Yr c.2.1 x).2<;>exact ⟨rfl,rfl,λ_=>rfl⟩
 | true =>
   cases hk:(Yr c.2.1 x).2 with
   | false=>exact ⟨rfl,rfl,λ_=>rfl⟩
   | true=>
     cases hst:Kc (Yr c.2.1 x).1 with
     | false=>exact ⟨rfl,rfl,λ_=>rfl⟩
     | true=>
       rw[DZ (by have:=GP hst;simp only[zO,yA];omega)];obtain ⟨t1,t2,_⟩:=UG (c:=c) (s:=c.1) (names:=X8 (Yr c.2.1 x).1 [x.1]) (d:=(Yr c.2.1 x).1) hst (Wz hc).2;exact ⟨t1,t2.symm,λh=>by have h:(Ya c c.1 (Yr c.2.1 x).1 (X8 (Yr c.2.1 x).1 [x.1])).2.2=false:=h;rw[t2] at h;cases h⟩
theorem UH (f:Xx) (u:Int):Ax f u=W8 f u:=rfl
theorem HN (c:Xj) (u:Int) (x:Kf):OpEq (Xu c u x).1 (Xz c u x).1 (Xu c u x).2.2 (Xz c u x).2.2 c:=by
 unfold Xu Xz;have hu:Xk u 0 2=Ve u:=rfl;have E:∀a b:Int,a≠b->(a==b)=false:=λa b h=>beq_eq_false_iff_ne.2 h
 rw[Et,Ux,Lh,hu];cases hc:Xa c with
 | false=>cases Ve u<;>exact ⟨rfl,rfl,λ_=>rfl⟩
 | true =>
   cases Ve u with
   | false=>exact ⟨rfl,rfl,λ_=>rfl⟩
   | true =>
     simp only[xK,zR,xM,cond_false];rw[EA,EA,UH,UH];obtain ⟨kd,f,id,dir⟩:=x;dsimp only;by_cases h1:kd=1
     . subst h1;have A:=TS c f;simp only[beq_self_eq_true,yL,cond_true,E 1 2 (by decide),E 1 3 (by decide),E 1 4 (by decide),E 1 5 (by decide),yG,cond_false];cases (f.2.1==u) with
       | false=>exact ⟨rfl,rfl,λ_=>rfl⟩
       | true=>
         simp only[cond_true];rw[A.ok];cases hb:(Jb c f).2.2.2 with
         | false=>exact ⟨(A.no hb).symm,rfl,λ_=>A.no hb⟩
         | true=>exact ⟨A.cat,rfl,λh=>by cases h⟩
     by_cases h2:kd=2
     . subst h2;have A:=ED c f;simp only[beq_self_eq_true,yL,cond_true,E 2 1 (by decide),E 2 3 (by decide),E 2 4 (by decide),E 2 5 (by decide),yG,cond_false];cases (f.2.1==u) with
       | false=>
         simp only[cond_false,yR];exact ⟨rfl,rfl,λ_=>rfl⟩
       | true=>
         simp only[cond_true,xL];rw[A.ok];cases ((Xh c.1 f.1).2&&W8 (Xh c.1 f.1).1 u) with
         | false=>
           simp only[yR,zU,cond_true,cond_false];exact ⟨rfl,rfl,λ_=>rfl⟩
         | true=>
           simp only[xL,cond_true];cases hb:(Jg c f).2.2 with
           | false=>exact ⟨(A.no hb).symm,rfl,λ_=>A.no hb⟩
           | true=>exact ⟨A.cat,rfl,λh=>by cases h⟩
     by_cases h3:kd=3
     . subst h3;have A:=EE c id;simp only[beq_self_eq_true,yL,cond_true,E 3 1 (by decide),E 3 2 (by decide),E 3 4 (by decide),E 3 5 (by decide),yG,cond_false];rw[A.ok];cases ((Xh c.1 id).2&&W8 (Xh c.1 id).1 u) with
       | false=>
         simp only[yR,zU,cond_true,cond_false];exact ⟨rfl,rfl,λ_=>rfl⟩
       | true=>
         simp only[xL,cond_true];cases hb:(Jh c id).2.2 with
         | false=>exact ⟨(A.no hb).symm,rfl,λ_=>A.no hb⟩
         | true=>exact ⟨A.cat,rfl,λh=>by cases h⟩
     by_cases h4:kd=4
     . subst h4;have A:=IJ c dir;simp only[beq_self_eq_true,yL,cond_true,E 4 1 (by decide),E 4 2 (by decide),E 4 3 (by decide),E 4 5 (by decide),yG,cond_false];rw[A.ok];cases hb:(J4 c dir).2.2 with
       | false=>exact ⟨(A.no hb).symm,rfl,λ_=>A.no hb⟩
       | true=>exact ⟨A.cat,rfl,λh=>by cases h⟩
     by_cases h5:kd=5
     . subst h5;simp only[beq_self_eq_true,yL,cond_true,E 5 1 (by decide),E 5 2 (by decide),E 5 3 (by decide),E 5 4 (by decide),yG,cond_false];unfold Zf;rw[II];cases hk:(Zj c.2.1 dir.1).2 with
       | false=>exact ⟨rfl,rfl,λ_=>rfl⟩
       | true=>
         rw[DZ (by have:=(Wz hc).1;simp only[zO,yA];omega)];obtain ⟨t1,t2,_⟩:=UG (c:=c) (s:=c.1) (names:=X8 c.2.1 [dir.1]) (d:=(Zj c.2.1 dir.1).1) (HK (G2 hc) hk) (Wz hc).2;exact ⟨t1,t2.symm,λh=>by have h:(Ya c c.1 (Zj c.2.1 dir.1).1 (X8 c.2.1 [dir.1])).2.2=false:=h;rw[t2] at h;cases h⟩
     simp only[E kd 1 h1,E kd 2 h2,E kd 3 h3,E kd 4 h4,E kd 5 h5,yG,cond_false];exact ⟨rfl,rfl,λ_=>rfl⟩
open GoE (enc wide)
def Mw (f:Xx):Int:=IntKind.i64.wrap (1+(f.2.2.2.2.length:Int))
theorem HP (f:Xx):ACalls Tryz.prog 194 [.a [.i f.1,.i f.2.1,.b f.2.2.1,.i f.2.2.2.1,.h f.2.2.2.2]] (.i (Mw f)):=by
 refine en Qa Tryz.func194 λw0 F0 hG=> ?_
 exact sn Qa [1,2] [1] p0 <| tn Qa [2] [] (pl 2 f.2.2.2.2 p0) <| Qh <| pi [] (show Mw f=IntKind.i64.wrap (1+(f.2.2.2.2.length:Int)) from rfl)
def Pf (user:Int) (_:Nat) (a0:Xx) (s0:Int):Rd (Int) (Int) (Int):=(bif (a0.2.1==user) then (.next (IntKind.i64.wrap (s0+(Mw a0)))) else (.next s0))
def Pg (_:Nat) (s0:Int):Int:=s0
def Ld (s_:Xr) (user:Int):Int:=(Out.on (X7 (Pf user) Pg s_.2.1 0 0) (λy0=>y0))
theorem UI (s_:Xr) (user:Int):ACalls Tryz.prog 134 [.a [.h s_.1,.h s_.2.1,.i s_.2.2],.i user] (.i (Ld s_ user)):=by
 refine en Qa Tryz.func134 λw0 F0 hG=> ?_
 refine sn Qa [1,2,4] [2] p0 <| tn Qa [1,2,4,5] [2] p0 <| Qc <| tu Qa [(4,.i 0),(5,.i 0),(9,.h s_.2.1),(10,.i (s_.2.1.length:Int)),(11,.i 0)] [0] [] [] (pl 2 s_.2.1 p0) <| wT 9 0 .sh s_.2.1 (λhw1 hl2=> ?_)
 refine Pa (Pf user) Pg s_.2.1 0 (λk0 s0=> [(5,.i s0),(11,.i (k0:Int))]) [5,11] (λy0=> [(5,.i y0)]) [1,5,9,10,11] wf0 (λk0 s0 hk0 U=> ?_) (λk0 s0 hk0 U=> ?_) (λy0 hD0=> ?_)
 ·obtain ⟨a0,V⟩:=Xs (l:=s_.2.1) (i:=k0) hk0;refine su Qa [(12,.b true)] [] [] [] (pe 0 (zB ((k0:Int)<(s_.2.1.length:Int))) p0) <| Qc <| ckT <| Qe <| Qc <| Qt <| sn Qa [1,4,5,7,9,10,11] [7] (pn 0 V p0) <| tn Qa [1,4,5,7,9,10,11,18] [7] p0 <| ck (a0.2.1==user) (λh3=> ?_) (λh3=> ?_)
  ·have h3d:=eq_of_beq h3;refine qu Qa [(5,.i (IntKind.i64.wrap (s0+(Mw a0))))] [5,12] [] [] (pc 2 (HP a0) p0) ?_;refine rn Qa [1,4,5,9,10,11] [] (pe 0 (J6 (Ql k0 (by omega))) p0) ?_;exact xw _ (Qp V (Xm h3 (rfl)) U)
  have h3d:=Z7 h3;refine Qe <| qu Qa [(11,.i ((k0+1:Nat):Int))] [11,12] [] [] (pe 0 (J6 (Ql k0 (by omega))) p0) ?_
  exact xw _ (Qp V (Qn h3 (rfl)) U)
 ·exact su Qa [(12,.b false)] [] [] [] (pe 0 (zC ((k0:Int)<(s_.2.1.length:Int))) p0) <| Qc <| ckF <| Q9 <| xw _ (Xt hk0 (rfl) U)
 exact sn Qa [4] [] p0 <| Qh <| pi [] (Uc hD0 (rfl))
def Ot (quota:List Int) (user:Int):Int:=(bif (!(Zk user 0 ((quota.length:Int)-1))) then 0 else (nth quota user.toNat))
theorem EF (quota:List Int) (user:Int):ACalls Tryz.prog 135 [.h quota,.i user] (.i (Ot quota user)):=by
 refine en Qa Tryz.func135 λw0 F0 hG=> ?_
 refine sn Qa [0,1,4] [] p0 <| Qc <| wT 0 0 .sh quota (λhw1 hl2=> ?_)
 refine tn Qa [0,1,4,10] [] (pl 2 quota (pe 3 (J6 (IntWalk.i64_in ((quota.length:Int)-1) (by omega))) (pc 4 (Kn user 0 ((quota.length:Int)-1)) p0))) <| ck (!(Zk user 0 ((quota.length:Int)-1))) (λh3=> ?_) (λh3=> ?_)
 ·exact tu Qa [(4,.i 0)] [] [] [] p0 <| Qh <| pi [] (Xm h3 (rfl))
 have h3n:(Zk user 0 ((quota.length:Int)-1))=true:=Zc h3;have h3nw:=Ry.1 h3n;refine Qe ?_;have hx4:=ng quota user.toNat;exact tu Qa [(4,.i (nth quota user.toNat))] [0,1] [] [] (pg 2 user hx4 p0) <| Qh <| pi [] (Qn h3 (rfl))
def Dm (s_:Xr) (quota:List Int) (k0:Nat) (_:Unit):Rd (Bool) (Unit) (Unit):=(bif decide ((Ld s_ (k0:Int))>(Ot quota (k0:Int))) then (.ret false) else (.next ()))
def Dn (_:Nat) (_:Unit):Unit:=()
def Hu (s_:Xr) (quota:List Int):Bool:=(Out.on (U1 (Dm s_ quota) Dn (3:Int).toNat 0 ()) (λ_=>true))
theorem Tq (s_:Xr) (quota:List Int):ACalls Tryz.prog 72 [.a [.h s_.1,.h s_.2.1,.i s_.2.2],.h quota] (.b (Hu s_ quota)):=by
 refine en Qa Tryz.func72 λw0 F0 hG=> ?_
 refine sn Qa [1,2,4] [2] p0 <| Qc <| tn Qa [1,2,4,6] [2] p0 <| mz [(2,.p 2 0),(4,.b false),(6,.i 0)] [0] [(2, [.h s_.1,.h s_.2.1,.i s_.2.2])] [] <| Qk5 (Dm s_ quota) Dn (3:Int).toNat () (λk0 _=> [(6,.i (k0:Int))]) [6] (λ_ _=> []) [] (λ_=> []) [1,2,6] (λ_=> []) [2] wf0 (λk0 s0 hk0 U=> ?_) (λk0 s0 hk0 U=> ?_) (λy0 hD0=> ?_)
 ·refine sn Qa [1,2,4,6,7] [2] (pe 0 (zB ((k0:Int)<(3:Int))) p0) <| Qc <| ckT <| Qe <| Qc <| Qt <| tn Qa [1,2,4,5,6] [2] p0 <| tu Qa [(15,.b (decide ((Ld s_ (k0:Int))>(Ot quota (k0:Int)))))] [] [] [] (pc 2 (UI s_ (k0:Int)) (pc 5 (EF quota (k0:Int)) p0)) <| ck (decide ((Ld s_ (k0:Int))>(Ot quota (k0:Int)))) (λh1=> ?_) (λh1=> ?_)
  ·refine su Qa [] [15] [] [] p0 <| Qh ?_
   have hr2:(U1 (Dm s_ quota) Dn (3:Int).toNat 0 ())= .ret false:=JM hk0 (Xm h1 (rfl)) U;exact pb [] (Nk hr2)
  have h1d:=of_decide_eq_false h1;refine Qe <| rn Qa [1,2,4,6] [2] (pe 0 (J6 (Ql k0 (by omega))) p0) ?_
  exact xw _ (Wf hk0 (Qn h1 (rfl)) U)
 ·exact sn Qa [1,2,4,6,7] [2] (pe 0 (zC ((k0:Int)<(3:Int))) p0) <| Qc <| ckF <| Q9 <| xw _ (Cx hk0 (rfl) U)
 exact sn Qa [4] [] p0 <| Qh <| pb [] (Uc hD0 (rfl))
def Jf (c:Xj) (user:Int) (_:Nat) (a0:Kf) (s0:Xj):Rd (Xj×(List Ef)×Bool) (Xj) (Xj):=(bif (!(((Xz s0 user a0)).2.2)) then (.ret ((Xi c), [],false)) else (.next (((Xz s0 user a0)).1)))
def Kt (_:Nat) (s0:Xj):Xj:=s0
def Xg (c:Xj) (user:Int) (changes:List Kf) (quota:List Int):Xj×(List Ef)×Bool:=(bif ((!(Xa c))|| decide ((changes.length:Int)>(6:Int))) then ((Xi c), [],false) else (Out.on (X7 (Jf c user) Kt changes 0 (Xi c)) (λy0=>(bif (!(Hu y0.1 quota)) then ((Xi c), [],false) else (y0,(Mc c.2.2 y0.2.2),true)))))
theorem Po (c:Xj) (user:Int) (changes:List Kf) (quota:List Int):ACalls Tryz.prog 30 [.a [.h c.1.1,.h c.1.2.1,.i c.1.2.2,.h c.2.1,.h c.2.2],.i user,.h changes,.h quota] (.tup [(true, [.o 0 ((((Xg c user changes quota)).1).1.1),.o 1 ((((Xg c user changes quota)).1).1.2.1),.i ((((Xg c user changes quota)).1).1.2.2),.o 2 ((((Xg c user changes quota)).1).2.1),.o 3 ((((Xg c user changes quota)).1).2.2)]),(false, [.o 4 (((Xg c user changes quota)).2.1)]),(false, [.b (((Xg c user changes quota)).2.2)])]):=by
 refine en Qa Tryz.func30 λw0 F0 hG=> ?_
 refine sn Qa [1,2,3,4,8,9,10] [4,8] p0 <| Qc <| Qc <| mz [(4,.p 4 0),(8,.p 8 0),(9,.e 0),(10,.b false)] [0] [(4, [.h c.1.1,.h c.1.2.1,.i c.1.2.2,.h c.2.1,.h c.2.2]),(8, [.e 2,.e 5,.i 0,.e 2,.e 2])] [] <| jn [(24,.b ((!(Xa c))|| decide ((changes.length:Int)>(6:Int))))] [] [] [] (!(Xa c)) (λh1=> ?_) (λh1=> ?_) ?_
 ·have h1n:(Xa c)=false:=Vp h1;refine ru Qa [(24,.b true)] [] [] [] (pc 1 (cb h1n (Ur c)) (pe 2 (show .b (!false)= .b true from rfl) p0)) ?_;exact zA (by rw[h1]<;>kernel_rfl)
 ·have h1n:(Xa c)=true:=Zc h1;have h1nc:=Wz h1n;refine rn Qa [1,2,3,4,8,9,10,24] [4,8] (pc 1 (cb h1n (Ur c)) (pe 2 (show .b (!true)= .b false from rfl) (pl 5 changes p0))) ?_;exact zA (by rw[h1]<;>kernel_rfl)
 refine ck ((!(Xa c))|| decide ((changes.length:Int)>(6:Int))) (λh2=> ?_) (λh2=> ?_)
 ·refine sn Qa [1,2,3,4,8,9,10] [4,8] (pc 1 (Z5 c) p0) <| opn [(false,9,0,true,384000,3)] ?_
  exact Qh <| pz [] (show Xg c user changes quota=_ from Xm h2 (rfl)) (λz=> .tup [(true, [.o 0 z.1.1.1,.o 1 z.1.1.2.1,.i z.1.1.2.2,.o 2 z.1.2.1,.o 3 z.1.2.2]),(false, [.o 4 z.2.1]),(false, [.b z.2.2])])
 have h2l:((!(Xa c)))=false:=Rw h2;have h2ln:(Xa c)=true:=Zc h2l;have h2lnc:=Wz h2ln;have h2r:(decide ((changes.length:Int)>(6:Int)))=false:=Pr h2;have h2rd:=of_decide_eq_false h2r;refine Qe <| sn Qa [1,2,3,4,8,9,10,11] [4,8,11] (pc 1 (Z5 c) p0) <| Qc <| tn Qa [1,3,4,8,9,10,11,29,30,31] [4,8,11] (pl 1 changes p0) <| mz [(11,.p 11 0),(29,.h changes),(30,.i (changes.length:Int)),(31,.i 0)] [2,24] [(11, [.o 1792 ((Xi c).1.1),.o 1793 ((Xi c).1.2.1),.i ((Xi c).1.2.2),.o 1794 ((Xi c).2.1),.o 1795 ((Xi c).2.2)])] [] <| wT 29 0 .sh changes (λhw3 hl4=> ?_)
 refine Qcd (Jf c user) Kt changes (Xi c) (λk0 _=> [(31,.i (k0:Int))]) [31] (λ_ s0=> [(11, [.o 147220 s0.1.1,.o 147221 s0.1.2.1,.i s0.1.2.2,.o 147223 s0.2.1,.o 147224 s0.2.2])]) [11] (λ_=> []) [1,29,30,31] (λy0=> [(11, [.o 147370 y0.1.1,.o 147371 y0.1.2.1,.i y0.1.2.2,.o 147373 y0.2.1,.o 147374 y0.2.2])]) [11] (X4 [(1792,147220),(1793,147221),(1794,147223),(1795,147224)] (by kernel_rfl)) (λk0 s0 hk0 U=> ?_) (λk0 s0 hk0 U=> ?_) (λy0 hD0=> ?_)
 ·obtain ⟨a0,V⟩:=Xs (l:=changes) (i:=k0) hk0;refine su Qa [(32,.b true)] [] [] [] (pe 0 (zB ((k0:Int)<(changes.length:Int))) p0) <| Qc <| ckT <| Qe <| Qc <| Qt <| sn Qa [1,3,4,8,9,10,11,13,29,30,31] [4,8,11,13] (pn 0 V p0) <| tn Qa [1,3,4,8,9,10,11,14,16,29,30,31] [4,8,11,14] (pc 3 (YQ s0 user a0) p0) <| Qc <| tu Qa [(14,.p 14 0),(44,.b (!(((Xz s0 user a0)).2.2)))] [32] [(14, [.o 2496 ((((Xz s0 user a0)).1).1.1),.o 2497 ((((Xz s0 user a0)).1).1.2.1),.i ((((Xz s0 user a0)).1).1.2.2),.o 2498 ((((Xz s0 user a0)).1).2.1),.o 2499 ((((Xz s0 user a0)).1).2.2)])] [] p0 <| ck (!(((Xz s0 user a0)).2.2)) (λh5=> ?_) (λh5=> ?_)
  ·refine sn Qa [1,3,4,8,9,10,11,14,29,30,31] [4,8,11,14] (pc 1 (Z5 c) p0) <| opn [(false,9,0,true,384000,3)] ?_
   refine Qh ?_;have hr6:(X7 (Jf c user) Kt changes 0 (Xi c))= .ret ((Xi c), [],false):=Jr V (Xm h5 (rfl)) U;exact pz [] (show Xg c user changes quota=_ from Qn h2 (Nk hr6)) (λz=> .tup [(true, [.o 0 z.1.1.1,.o 1 z.1.1.2.1,.i z.1.1.2.2,.o 2 z.1.2.1,.o 3 z.1.2.2]),(false, [.o 4 z.2.1]),(false, [.b z.2.2])])
  refine Qe <| rn Qa [1,3,4,8,9,10,11,29,30,31] [4,8,11] p0 ?_
  refine qn Qa [1,3,4,8,9,10,11,29,30,31] [4,8,11] (pe 0 (J6 (Ql k0 (by omega))) p0) ?_;exact zK _ (zT (X4 [(2496,147220),(2497,147221),(2498,147223),(2499,147224)] (by kernel_rfl)) (Qp V (Qn h5 (rfl)) U))
 ·exact su Qa [(32,.b false)] [] [] [] (pe 0 (zC ((k0:Int)<(changes.length:Int))) p0) <| Qc <| ckF <| Q9 <| zK _ (zT (X4 [(147220,147370),(147221,147371),(147223,147373),(147224,147374)] (by kernel_rfl)) (Xt hk0 (rfl) U))
 refine Qc <| sn Qa [4,8,9,10,11,53] [4,8,11] (pc 3 (Tq y0.1 quota) p0) <| ck (!(Hu y0.1 quota)) (λh7=> ?_) (λh7=> ?_)
 ·refine tn Qa [4,8,9,10,11] [4,8,11] (pc 1 (Z5 c) p0) <| opn [(false,9,0,true,384000,3)] ?_
  exact Qh <| pz [] (show Xg c user changes quota=_ from Qn h2 (Uc hD0 (Xm h7 (rfl)))) (λz=> .tup [(true, [.o 0 z.1.1.1,.o 1 z.1.1.2.1,.i z.1.1.2.2,.o 2 z.1.2.1,.o 3 z.1.2.2]),(false, [.o 4 z.2.1]),(false, [.b z.2.2])])
 exact Qe <| tN Qa Zt [8,9,10] [8] (pc 5 (Nx c.2.2 y0.2.2) p0) <| Qh <| pz [] (show Xg c user changes quota=_ from Qn h2 (Uc hD0 (Qn h7 (rfl)))) (λz=> .tup [(true, [.o 0 z.1.1.1,.o 1 z.1.1.2.1,.i z.1.1.2.2,.o 2 z.1.2.1,.o 3 z.1.2.2]),(false, [.o 4 z.2.1]),(false, [.b z.2.2])])
def Qg (x:Ab) (user:Int) (changes:List Kf):Um×Bool:=(bif (!(((Xg x.1 user changes x.2.2.2.2.2)).2.2)) then ((([], [],0), []),false) else ((((((Xg x.1 user changes x.2.2.2.2.2)).1).1.1,(((Xg x.1 user changes x.2.2.2.2.2)).1).1.2.1,(((Xg x.1 user changes x.2.2.2.2.2)).1).1.2.2),(((Xg x.1 user changes x.2.2.2.2.2)).1).2.1),true))
theorem F8 (x:Ab) (user:Int) (changes:List Kf):ACalls Tryz.prog 9 [.a [.h x.1.1.1,.h x.1.1.2.1,.i x.1.1.2.2,.h x.1.2.1,.h x.1.2.2,.s x.2.1.1,.s x.2.1.2,.i x.2.2.1,.h x.2.2.2.1,.h x.2.2.2.2.1,.h x.2.2.2.2.2],.i user,.h changes] (.tup [(true, [.o 0 ((((Qg x user changes)).1).1.1),.o 1 ((((Qg x user changes)).1).1.2.1),.i ((((Qg x user changes)).1).1.2.2),.o 2 ((((Qg x user changes)).1).2)]),(false, [.b (((Qg x user changes)).2)])]):=by
 refine en Qa Tryz.func9 λw0 F0 hG=> ?_
 refine sn Qa [1,2,3,6,7] [3,6] p0 <| tn Qa [6,7,8,10] [6,8] (pc 6 (Po x.1 user changes x.2.2.2.2.2) p0) <| Qc <| tu Qa [(6,.p 6 0),(7,.b false),(8,.p 8 0),(23,.b (!(((Xg x.1 user changes x.2.2.2.2.2)).2.2)))] [0,1,2] [(6, [.e 2,.e 5,.i 0,.e 2]),(8, [.o 1152 ((((Xg x.1 user changes x.2.2.2.2.2)).1).1.1),.o 1153 ((((Xg x.1 user changes x.2.2.2.2.2)).1).1.2.1),.i ((((Xg x.1 user changes x.2.2.2.2.2)).1).1.2.2),.o 1154 ((((Xg x.1 user changes x.2.2.2.2.2)).1).2.1),.o 1155 ((((Xg x.1 user changes x.2.2.2.2.2)).1).2.2)])] [] p0 <| ck (!(((Xg x.1 user changes x.2.2.2.2.2)).2.2)) (λh1=> ?_) (λh1=> ?_)
 ·refine su Qa [] [23] [] [] p0 <| opn [(true,6,0,true,384000,2),(true,6,1,true,384001,5),(true,6,3,true,384002,2)] ?_
  exact Qh <| pz [] (show Qg x user changes=_ from Xm h1 (rfl)) (λz=> .tup [(true, [.o 0 z.1.1.1,.o 1 z.1.1.2.1,.i z.1.1.2.2,.o 2 z.1.2]),(false, [.b z.2])])
 exact Qe <| sn Qa [6,7] [6] p0 <| Qh <| pz [] (show Qg x user changes=_ from Qn h1 (rfl)) (λz=> .tup [(true, [.o 0 z.1.1.1,.o 1 z.1.1.2.1,.i z.1.1.2.2,.o 2 z.1.2]),(false, [.b z.2])])
def Mx (f:Xx):Int:=IntKind.i64.wrap (1+(f.2.2.2.2.length:Int))
theorem HV (f:Xx):ACalls Tryz.prog 162 [.a [.i f.1,.i f.2.1,.b f.2.2.1,.i f.2.2.2.1,.h f.2.2.2.2]] (.i (Mx f)):=by
 refine en Qa Tryz.func162 λw0 F0 hG=> ?_
 exact sn Qa [1,2] [1] p0 <| tn Qa [2] [] (pl 2 f.2.2.2.2 p0) <| Qh <| pi [] (show Mx f=IntKind.i64.wrap (1+(f.2.2.2.2.length:Int)) from rfl)
def Ph (u:Int) (_:Nat) (a0:Xx) (s0:Int):Rd (Int) (Int) (Int):=(bif (a0.2.1==u) then (.next (IntKind.i64.wrap (s0+(Mx a0)))) else (.next s0))
def Pi (_:Nat) (s0:Int):Int:=s0
def Ou (s_:Xr) (u:Int):Int:=(Out.on (X7 (Ph u) Pi s_.2.1 0 0) (λy0=>y0))
theorem UJ (s_:Xr) (u:Int):ACalls Tryz.prog 108 [.a [.h s_.1,.h s_.2.1,.i s_.2.2],.i u] (.i (Ou s_ u)):=by
 refine en Qa Tryz.func108 λw0 F0 hG=> ?_
 refine sn Qa [1,2,4] [2] p0 <| tn Qa [1,2,4,5] [2] p0 <| Qc <| tu Qa [(2,.p 2 0),(4,.i 0),(5,.i 0),(6,.i 0)] [0] [(2, [.h s_.1,.h s_.2.1,.i s_.2.2])] [] p0 <| wB 2 1 .sh s_.2.1 (λhw1 hl2=> ?_)
 refine Qcd (Ph u) Pi s_.2.1 0 (λk0 s0=> [(5,.i s0),(6,.i (k0:Int))]) [5,6] (λ_ _=> []) [] (λy0=> [(5,.i y0)]) [1,2,5,6] (λ_=> []) [2] wf0 (λk0 s0 hk0 U=> ?_) (λk0 s0 hk0 U=> ?_) (λy0 hD0=> ?_)
 ·obtain ⟨a0,V⟩:=Xs (l:=s_.2.1) (i:=k0) hk0;refine Qc <| sn Qa [1,2,4,5,6,11] [2] (pl 3 s_.2.1 (pe 4 (zB ((k0:Int)<(s_.2.1.length:Int))) p0)) <| ckT <| Qe <| Qc <| Qt <| tn Qa [1,2,4,5,6,21] [2] (pn 3 V p0) <| ck (a0.2.1==u) (λh3=> ?_) (λh3=> ?_)
  ·have h3d:=eq_of_beq h3;refine qu Qa [(5,.i (IntKind.i64.wrap (s0+(Mx a0))))] [5] [] [] (pn 4 V (pc 6 (HV a0) p0)) ?_;refine rn Qa [1,2,4,5,6] [2] (pe 1 (J6 (Ql k0 (by omega))) p0) ?_;exact xw _ (Qp V (Xm h3 (rfl)) U)
  have h3d:=Z7 h3;refine Qe <| qu Qa [(6,.i ((k0+1:Nat):Int))] [6] [] [] (pe 1 (J6 (Ql k0 (by omega))) p0) ?_
  exact xw _ (Qp V (Qn h3 (rfl)) U)
 ·exact Qc <| sn Qa [1,2,4,5,6,11] [2] (pl 3 s_.2.1 (pe 4 (zC ((k0:Int)<(s_.2.1.length:Int))) p0)) <| ckF <| Q9 <| xw _ (Xt hk0 (rfl) U)
 exact sn Qa [4] [] p0 <| Qh <| pi [] (Uc hD0 (rfl))
def UK (quota:List Int) (u:Int):Int:=(bif (!(Xk u 0 ((quota.length:Int)-1))) then 0 else (nth quota u.toNat))
theorem NI (quota:List Int) (u:Int):ACalls Tryz.prog 109 [.h quota,.i u] (.i (UK quota u)):=by
 refine en Qa Tryz.func109 λw0 F0 hG=> ?_
 refine sn Qa [0,1,4] [] p0 <| Qc <| wT 0 0 .sh quota (λhw1 hl2=> ?_)
 refine tn Qa [0,1,4,10] [] (pl 2 quota (pe 3 (J6 (IntWalk.i64_in ((quota.length:Int)-1) (by omega))) (pc 4 (Z9 u 0 ((quota.length:Int)-1)) p0))) <| ck (!(Xk u 0 ((quota.length:Int)-1))) (λh3=> ?_) (λh3=> ?_)
 ·exact tu Qa [(4,.i 0)] [] [] [] p0 <| Qh <| pi [] (Xm h3 (rfl))
 have h3n:(Xk u 0 ((quota.length:Int)-1))=true:=Zc h3;have h3nw:=Fh.1 h3n;refine Qe ?_;have hx4:=ng quota u.toNat;exact tu Qa [(4,.i (nth quota u.toNat))] [0,1] [] [] (pg 2 u hx4 p0) <| Qh <| pi [] (Qn h3 (rfl))
def Dp (s_:Xr) (quota:List Int) (k0:Nat) (_:Unit):Rd (Bool) (Unit) (Unit):=(bif decide ((Ou s_ (k0:Int))>(UK quota (k0:Int))) then (.ret false) else (.next ()))
def Dq (_:Nat) (_:Unit):Unit:=()
def Da (s_:Xr) (quota:List Int):Bool:=(Out.on (U1 (Dp s_ quota) Dq (3:Int).toNat 0 ()) (λ_=>true))
theorem Tr (s_:Xr) (quota:List Int):ACalls Tryz.prog 60 [.a [.h s_.1,.h s_.2.1,.i s_.2.2],.h quota] (.b (Da s_ quota)):=by
 refine en Qa Tryz.func60 λw0 F0 hG=> ?_
 refine sn Qa [1,2,4] [2] p0 <| Qc <| tn Qa [1,2,4,5] [2] p0 <| mz [(2,.p 2 0),(4,.b false),(5,.i 0)] [0] [(2, [.h s_.1,.h s_.2.1,.i s_.2.2])] [] <| Qk5 (Dp s_ quota) Dq (3:Int).toNat () (λk0 _=> [(5,.i (k0:Int))]) [5] (λ_ _=> []) [] (λ_=> []) [1,2,5] (λ_=> []) [2] wf0 (λk0 s0 hk0 U=> ?_) (λk0 s0 hk0 U=> ?_) (λy0 hD0=> ?_)
 ·refine Qc <| sn Qa [1,2,4,5,7] [2] (pe 1 (zB ((k0:Int)<(3:Int))) p0) <| ckT <| Qe <| Qc <| Qt <| tn Qa [1,2,4,5,16] [2] (pc 2 (UJ s_ (k0:Int)) (pc 5 (NI quota (k0:Int)) p0)) <| ck (decide ((Ou s_ (k0:Int))>(UK quota (k0:Int)))) (λh1=> ?_) (λh1=> ?_)
  ·refine tu Qa [] [] [] [] p0 <| Qh ?_
   have hr2:(U1 (Dp s_ quota) Dq (3:Int).toNat 0 ())= .ret false:=JM hk0 (Xm h1 (rfl)) U;exact pb [] (Nk hr2)
  have h1d:=of_decide_eq_false h1;refine Qe <| qu Qa [(5,.i ((k0+1:Nat):Int))] [5] [] [] (pe 1 (J6 (Ql k0 (by omega))) p0) ?_
  exact xw _ (Wf hk0 (Qn h1 (rfl)) U)
 ·exact Qc <| sn Qa [1,2,4,5,7] [2] (pe 1 (zC ((k0:Int)<(3:Int))) p0) <| ckF <| Q9 <| xw _ (Cx hk0 (rfl) U)
 exact sn Qa [4] [] p0 <| Qh <| pb [] (Uc hD0 (rfl))
def Wx (l:Xj) (u:Int) (_:Nat) (a0:Kf) (s0:Xj):Rd (Xj×(List Ef)×Bool) (Xj) (Xj):=(bif (!(((Xu s0 u a0)).2.2)) then (.ret ((Qb l), [],false)) else (.next (((Xu s0 u a0)).1)))
def Hi (_:Nat) (s0:Xj):Xj:=s0
def Xo (l:Xj) (u:Int) (list:List Kf) (quota:List Int):Xj×(List Ef)×Bool:=(bif ((!(Xb l))|| decide ((list.length:Int)>(6:Int))) then ((Qb l), [],false) else (Out.on (X7 (Wx l u) Hi list 0 (Qb l)) (λy0=>(bif (!(Da y0.1 quota)) then ((Qb l), [],false) else (y0,(Cq l.2.2 y0.2.2),true)))))
theorem Pp (l:Xj) (u:Int) (list:List Kf) (quota:List Int):ACalls Tryz.prog 23 [.a [.h l.1.1,.h l.1.2.1,.i l.1.2.2,.h l.2.1,.h l.2.2],.i u,.h list,.h quota] (.tup [(true, [.h ((((Xo l u list quota)).1).1.1),.h ((((Xo l u list quota)).1).1.2.1),.i ((((Xo l u list quota)).1).1.2.2),.h ((((Xo l u list quota)).1).2.1),.h ((((Xo l u list quota)).1).2.2)]),(false, [.h (((Xo l u list quota)).2.1)]),(false, [.b (((Xo l u list quota)).2.2)])]):=by
 refine en Qa Tryz.func23 λw0 F0 hG=> ?_
 refine sn Qa [1,2,3,4,8,9,10] [4,8] p0 <| tn Qa [1,2,3,4,8,9,10,11] [4,8,11] (pc 1 (Vc l) p0) <| Qc <| Qc <| mz [(4,.p 4 0),(8,.p 8 0),(9,.e 0),(10,.b false),(11,.p 11 0)] [0] [(4, [.h l.1.1,.h l.1.2.1,.i l.1.2.2,.h l.2.1,.h l.2.2]),(8, [.e 2,.e 5,.i 0,.e 2,.e 2]),(11, [.o 1024 ((Qb l).1.1),.o 1025 ((Qb l).1.2.1),.i ((Qb l).1.2.2),.o 1026 ((Qb l).2.1),.o 1027 ((Qb l).2.2)])] [] <| jn [(24,.b ((!(Xb l))|| decide ((list.length:Int)>(6:Int))))] [] [] [] (!(Xb l)) (λh1=> ?_) (λh1=> ?_) ?_
 ·have h1n:(Xb l)=false:=Vp h1;refine ru Qa [(24,.b true)] [] [] [] (pc 1 (cb h1n (Kj l)) (pe 2 (show .b (!false)= .b true from rfl) p0)) ?_;exact zA (by rw[h1]<;>kernel_rfl)
 ·have h1n:(Xb l)=true:=Zc h1;have h1nc:=U6 h1n;refine rn Qa [1,2,3,4,8,9,10,11,24] [4,8,11] (pc 1 (cb h1n (Kj l)) (pe 2 (show .b (!true)= .b false from rfl) (pl 5 list p0))) ?_;exact zA (by rw[h1]<;>kernel_rfl)
 refine ck ((!(Xb l))|| decide ((list.length:Int)>(6:Int))) (λh2=> ?_) (λh2=> ?_)
 ·exact sn Qa [1,2,3,4,8,9,10,11] [4,8,11] p0 <| Qh <| pz [1024,1025,1026,1027,1664] (show Xo l u list quota=_ from Xm h2 (rfl)) (λz=> .tup [(true, [.h z.1.1.1,.h z.1.1.2.1,.i z.1.1.2.2,.h z.1.2.1,.h z.1.2.2]),(false, [.h z.2.1]),(false, [.b z.2.2])])
 have h2l:((!(Xb l)))=false:=Rw h2;have h2ln:(Xb l)=true:=Zc h2l;have h2lnc:=U6 h2ln;have h2r:(decide ((list.length:Int)>(6:Int)))=false:=Pr h2;have h2rd:=of_decide_eq_false h2r;refine Qe <| sn Qa [1,2,3,4,8,9,10,11,12] [4,8,11,12] (pc 1 (Vc l) p0) <| Qc <| tn Qa [1,2,3,4,8,9,10,11,12,13] [4,8,11,12] p0 <| mz [(12,.p 12 0),(13,.i 0)] [24] [(12, [.o 1792 ((Qb l).1.1),.o 1793 ((Qb l).1.2.1),.i ((Qb l).1.2.2),.o 1794 ((Qb l).2.1),.o 1795 ((Qb l).2.2)])] [] <| wT 2 0 .sh list (λhw3 hl4=> ?_)
 refine Qcd (Wx l u) Hi list (Qb l) (λk0 _=> [(13,.i (k0:Int))]) [13] (λ_ s0=> [(12, [.h s0.1.1,.h s0.1.2.1,.i s0.1.2.2,.h s0.2.1,.h s0.2.2])]) [12] (λ_=> []) [1,2,13] (λy0=> [(12, [.h y0.1.1,.h y0.1.2.1,.i y0.1.2.2,.h y0.2.1,.h y0.2.2])]) [12] (Oe [] [1792,1793,1794,1795] [] [] (by kernel_rfl)) (λk0 s0 hk0 U=> ?_) (λk0 s0 hk0 U=> ?_) (λy0 hD0=> ?_)
 ·obtain ⟨a0,V⟩:=Xs (l:=list) (i:=k0) hk0;refine Qc <| su Qa [(32,.b true)] [] [] [] (pl 2 list (pe 3 (zB ((k0:Int)<(list.length:Int))) p0)) <| ckT <| Qe <| Qc <| Qt <| su Qa [(14,.b false)] [32] [] [] p0 <| sN Qa Zt [1,2,3,4,8,9,10,11,12,13,14] [4,8,11,12] (pn 4 V (pc 6 (YS s0 u a0) p0)) <| tn Qa [1,2,3,4,8,9,10,11,12,13,47] [4,8,11,12] p0 <| ck (!(((Xu s0 u a0)).2.2)) (λh5=> ?_) (λh5=> ?_)
  ·refine tu Qa [(9,.one (.slc (.own true 3136) 3 []))] [9,14] [(8, [.o 1024 ((Qb l).1.1),.o 1025 ((Qb l).1.2.1),.i ((Qb l).1.2.2),.o 1026 ((Qb l).2.1),.o 1027 ((Qb l).2.2)]),(12, [.h ((((Xu s0 u a0)).1).1.1),.h ((((Xu s0 u a0)).1).1.2.1),.i ((((Xu s0 u a0)).1).1.2.2),.h ((((Xu s0 u a0)).1).2.1),.h ((((Xu s0 u a0)).1).2.2)])] [8,12] p0 <| Qh ?_
   have hr6:(X7 (Wx l u) Hi list 0 (Qb l))= .ret ((Qb l), [],false):=Jr V (Xm h5 (rfl)) U;exact pz [1024,1025,1026,1027,3136] (show Xo l u list quota=_ from Qn h2 (Nk hr6)) (λz=> .tup [(true, [.h z.1.1.1,.h z.1.1.2.1,.i z.1.1.2.2,.h z.1.2.1,.h z.1.2.2]),(false, [.h z.2.1]),(false, [.b z.2.2])])
  refine Qe <| qu Qa [(13,.i ((k0+1:Nat):Int))] [13,14] [(12, [.h ((((Xu s0 u a0)).1).1.1),.h ((((Xu s0 u a0)).1).1.2.1),.i ((((Xu s0 u a0)).1).1.2.2),.h ((((Xu s0 u a0)).1).2.1),.h ((((Xu s0 u a0)).1).2.2)])] [12] (pe 1 (J6 (Ql k0 (by omega))) p0) ?_
  exact xw _ (Qp V (Qn h5 (rfl)) U)
 ·exact Qc <| su Qa [(32,.b false)] [] [] [] (pl 2 list (pe 3 (zC ((k0:Int)<(list.length:Int))) p0)) <| ckF <| Q9 <| xw _ (Xt hk0 (rfl) U)
 refine Qc <| sn Qa [4,8,9,10,11,12,54] [4,8,11,12] (pc 3 (Tr y0.1 quota) p0) <| ck (!(Da y0.1 quota)) (λh7=> ?_) (λh7=> ?_)
 ·exact tn Qa [4,8,9,10,12] [4,8,12] p0 <| Qh <| pz [1024,1025,1026,1027,3584] (show Xo l u list quota=_ from Qn h2 (Uc hD0 (Xm h7 (rfl)))) (λz=> .tup [(true, [.h z.1.1.1,.h z.1.1.2.1,.i z.1.1.2.2,.h z.1.2.1,.h z.1.2.2]),(false, [.h z.2.1]),(false, [.b z.2.2])])
 exact Qe <| tN Qa Zt [8,9,10] [8] (pc 5 (Ny l.2.2 y0.2.2) p0) <| Qh <| pz [3968] (show Xo l u list quota=_ from Qn h2 (Uc hD0 (Qn h7 (rfl)))) (λz=> .tup [(true, [.h z.1.1.1,.h z.1.1.2.1,.i z.1.1.2.2,.h z.1.2.1,.h z.1.2.2]),(false, [.h z.2.1]),(false, [.b z.2.2])])
def J5 (x:Ab) (u:Int) (ops:List Kf):Um×Bool:=(bif (!(((Xo x.1 u ops x.2.2.2.2.2)).2.2)) then ((([], [],0), []),false) else ((((((Xo x.1 u ops x.2.2.2.2.2)).1).1.1,(((Xo x.1 u ops x.2.2.2.2.2)).1).1.2.1,(((Xo x.1 u ops x.2.2.2.2.2)).1).1.2.2),(((Xo x.1 u ops x.2.2.2.2.2)).1).2.1),true))
theorem Ov (x:Ab) (u:Int) (ops:List Kf):ACalls Tryz.prog 6 [.a [.h x.1.1.1,.h x.1.1.2.1,.i x.1.1.2.2,.h x.1.2.1,.h x.1.2.2,.s x.2.1.1,.s x.2.1.2,.i x.2.2.1,.h x.2.2.2.1,.h x.2.2.2.2.1,.h x.2.2.2.2.2],.i u,.h ops] (.tup [(true, [.h ((((J5 x u ops)).1).1.1),.h ((((J5 x u ops)).1).1.2.1),.i ((((J5 x u ops)).1).1.2.2),.h ((((J5 x u ops)).1).2)]),(false, [.b (((J5 x u ops)).2)])]):=by
 refine en Qa Tryz.func6 λw0 F0 hG=> ?_
 refine sn Qa [1,2,3,6,7] [3,6] p0 <| tn Qa [6,7,8,10] [6,8] (pc 6 (Pp x.1 u ops x.2.2.2.2.2) p0) <| Qc <| tu Qa [(6,.p 6 0),(7,.b false),(8,.p 8 0),(23,.b (!(((Xo x.1 u ops x.2.2.2.2.2)).2.2)))] [0,1,2] [(6, [.e 2,.e 5,.i 0,.e 2]),(8, [.h ((((Xo x.1 u ops x.2.2.2.2.2)).1).1.1),.h ((((Xo x.1 u ops x.2.2.2.2.2)).1).1.2.1),.i ((((Xo x.1 u ops x.2.2.2.2.2)).1).1.2.2),.h ((((Xo x.1 u ops x.2.2.2.2.2)).1).2.1),.h ((((Xo x.1 u ops x.2.2.2.2.2)).1).2.2)])] [] p0 <| ck (!(((Xo x.1 u ops x.2.2.2.2.2)).2.2)) (λh1=> ?_) (λh1=> ?_)
 ·refine su Qa [] [23] [] [] p0 <| opn [(true,6,0,true,384000,2),(true,6,1,true,384001,5),(true,6,3,true,384002,2)] ?_
  exact Qh <| pz [384000,384001,384002] (show J5 x u ops=_ from Xm h1 (rfl)) (λz=> .tup [(true, [.h z.1.1.1,.h z.1.1.2.1,.i z.1.1.2.2,.h z.1.2]),(false, [.b z.2])])
 exact Qe <| sn Qa [6,7] [6] p0 <| Qh <| pz [] (show J5 x u ops=_ from Qn h1 (rfl)) (λz=> .tup [(true, [.h z.1.1.1,.h z.1.1.2.1,.i z.1.1.2.2,.h z.1.2]),(false, [.b z.2])])
theorem Qg4 (s:Xr) (q:List Int):Da s q=Hu s q:=rfl
theorem EG (c:Xj) (u:Int) (l:List Kf) (q:List Int):(Xo c u l q).1=(Xg c u l q).1/\(Xo c u l q).2.2=(Xg c u l q).2.2:=by
 unfold Xo Xg
 rw[Et,Ux,Lh,Gv (f:=Wx c u) (g:=Jf c u) (e:=Hi) (e':=Kt) (λk x s=>by
  have A:=HN s u x;unfold Wx Jf;rw[Et,Ux,A.ok,A.cat]) (λ_ _=>rfl)]
 generalize X7 (Jf c u) Kt l 0 c=o;generalize ((!(Xa c))|| _:Bool)=k;cases k with
 | true=>exact ⟨rfl,rfl⟩
 | false=>
   cases o with
   | ret r=>exact ⟨rfl,rfl⟩
   | brk y=>
     simp only[cond_false,Out.on];rw[Qg4];cases Hu y.1 q<;>exact ⟨rfl,rfl⟩
theorem Qd1 (x:Ab) (u:Int) (l:List Kf):J5 x u l=Qg x u l:=by
 obtain ⟨h1,h2⟩:=EG x.1 u l x.2.2.2.2.2;unfold J5 Qg;rw[h1,h2]
theorem EH {α:Type} [GoD α] {K:Nat}:∀l:List α,(∀a,a∈l->GoD.size a<=K)->GoD.size l<=l.length*(K+1)
 | [],_=>zZ _
 | a::l,h=>by
   have h1:=EH l λb hb=>h b (zN _ hb)
   have h2:=h a (zV ..);rw[JX] at h1⊢;rw[yU,List.sum_cons,zO,Nat.add_mul,Nat.one_mul];omega
theorem EI {α:Type} [GoD α] {l:List α} {a:α} (h:a∈l):GoD.size a<=GoD.size l:=by
 obtain ⟨i,hi⟩:=yN h;exact Qk2 hi (xO _)
structure CK (K:Nat) (c:Xj):Prop where
 l12:c.1.2.1.length<=12
 l5:c.2.1.length<=5
 sch:GoD.size c.1.1<=K
 file:∀f,f∈c.1.2.1->GoD.size f<=K
 dir:∀a,a∈c.2.1->GoD.size a<=K
theorem Nz {K:Nat} {c:Xj} {s:Xr} {d:List Yc} {names:List ByteArray} (h:CK K c) (h':CK K (s,d, [])):CK K (Ya c s d names).1:=by
 unfold Ya;rw[Ux,Hl,A0];cases (Vo s d c.2.2 names).2 with
 | false=>exact h
 | true=>exact ⟨h'.l12,h'.l5,h'.sch,h'.file,h'.dir⟩
theorem Qd2 {x a:Yc}:∀{l:List Yc},a∈BX x l->a=x\/a∈l
 | [],h=> .inl (List.mem_singleton.1 h)
 | b ::l,h=>by
   unfold BX at h;split at h
   . rcases zJ.1 h with rfl | h
     . exact .inr (zV ..)
     exact (Qd2 h).imp id λh=>zN _ h
   split at h
   . rcases zJ.1 h with rfl | h
     . exact .inl rfl
     exact .inr (zN _ h)
   rcases zJ.1 h with rfl | h
   . exact .inl rfl
   exact .inr h
theorem Qg5 {K : Nat} {c:Xj} (u:Int) {x:Kf} (h:CK K c) (hf:GoD.size x.2.1<=K) (hd:GoD.size x.2.2.2<=K):CK K (Xz c u x).1:=by
 obtain ⟨kd,f,id,dir⟩:=x;unfold Xz;rw[Ux];generalize ((!(Ve u))|| (!(Xa c)))=b0;cases b0 with
 | true=>exact h
 | false =>
   simp only[cond_false];cases (kd==(1:Int)) with
   | true =>
     simp only[cond_true];cases (f.2.1==u) with
     | false=>exact h
     | true =>
       simp only[cond_true];unfold Jb;rw[Ux];generalize ((!((Yg c.1 f).2.2))|| _:Bool)=b1;cases b1 with
       | true=>exact h
       | false=>
         refine Nz h ?_;unfold Yg;rw[Hl];by_cases hl:(c.1.2.1.length:Int)>=12
         . rw[decide_eq_true hl,yZ,Bool.or_true];exact ⟨h.l12,h.l5,h.sch,h.file,h.dir⟩
         rw[decide_eq_false hl];generalize ((!(Qs c.1))|| _:Bool)=b2;cases b2 with
         | true=>exact ⟨h.l12,h.l5,h.sch,h.file,h.dir⟩
         | false=>
           refine ⟨?_,h.l5,h.sch,λg hg=> ?_,h.dir⟩
           . show (c.1.2.1++ [_]).length<=12;rw[yQ,List.length_singleton];omega
           rcases zD.1 hg with hg | hg
           . exact h.file g hg
           rw[List.mem_singleton.1 hg];exact hf
   | false =>
     simp only[cond_false];cases (kd==(2:Int)) with
     | true =>
       simp only[cond_true];generalize ((Xh c.1 f.1).2&&_:Bool)=b1;cases b1 with
       | false=>exact h
       | true =>
         simp only[cond_true];unfold Jg;rw[Ux];generalize ((!((Xy c.1 f).2))|| _:Bool)=b1;cases b1 with
         | true=>exact h
         | false=>
           refine Nz h ?_;unfold Xy;rw[Hl];generalize ((!(Qs c.1))|| _:Bool)=b2;cases b2 with
           | true=>exact ⟨h.l12,h.l5,h.sch,h.file,h.dir⟩
           | false=>
             refine ⟨by show (yV c.1.2.1 _ _).length<=12;rw[zX];exact h.l12,h.l5,h.sch,λg hg=> ?_,h.dir⟩;rcases List.mem_or_eq_of_mem_set hg with hg | hg
             . exact h.file g hg
             rw[hg];exact hf
     | false =>
       simp only[cond_false];cases (kd==(3:Int)) with
       | true =>
         simp only[cond_true];generalize ((Xh c.1 id).2&&_:Bool)=b1;cases b1 with
         | false=>exact h
         | true =>
           simp only[cond_true];unfold Jh;rw[Ux];generalize ((!((Yu c.1 id).2))|| _:Bool)=b1;cases b1 with
           | true=>exact h
           | false=>
             refine Nz h ?_;unfold Yu;rw[Hl];generalize ((!(Qs c.1))|| _:Bool)=b2;cases b2 with
             | true=>exact ⟨h.l12,h.l5,h.sch,h.file,h.dir⟩
             | false=>
               have hm:∀g,g∈Tl c.1.2.1 (zP (Yf c.1 id))->g∈c.1.2.1:=λg hg=>(zD.1 hg).elim xE xF
               have hl:(Tl c.1.2.1 (zP (Yf c.1 id))).length<=c.1.2.1.length:=by simp[Tl];omega
               exact ⟨yB hl h.l12,h.l5,h.sch,λg hg=>h.file g (hm g hg),h.dir⟩
       | false =>
         simp only[cond_false];cases (kd==(4:Int)) with
         | true =>
           simp only[cond_true];unfold J4;rw[Ux];cases hk:(Yr c.2.1 dir).2 with
           | false=>exact h
           | true =>
             generalize ((!(Xa c))|| _:Bool)=b1;cases b1 with
             | true=>exact h
             | false=>
               refine Nz h ?_
               have hv:Qk c.2.1=true:=by
                cases hv:Qk c.2.1 with
                | true=>rfl
                | false=>
                  exfalso;unfold Yr at hk;rw[hv] at hk;simp only[zU,yZ,cond_true] at hk;revert hk;generalize decide (_>=(0:Int))=c1;generalize decide (_<(0:Int))=c2;cases c1<;>cases c2<;>exact λh=>by cases h
               rw[IH dir hv];cases hp:Qk (BX dir c.2.1) with
               | false=>exact ⟨h.l12,h.l5,h.sch,h.file,h.dir⟩
               | true=>exact ⟨h.l12,Ub hp,h.sch,h.file,λa ha=>(Qd2 ha).elim (λe=>e▸hd) (h.dir a)⟩
         | false=>
           simp only[cond_false];cases (kd==(5:Int)) with
           | false=>exact h
           | true=>
             simp only[cond_true];cases hk:(Zj c.2.1 dir.1).2 with
             | false=>exact h
             | true=>
               refine Nz h ?_;obtain ⟨hv,hsub⟩:=UE hk;refine ⟨h.l12, ?_,h.sch,h.file,λa ha=>h.dir a (hsub a ha)⟩;unfold Zj;rw[A0];generalize ((!(Qk c.2.1))|| _:Bool)=b1;have h5:=h.l5;cases b1 with
               | true=>exact h5
               | false=>show (Tl c.2.1 _).length<=5;simp[Tl];omega
theorem RG {K:Nat} {c:Xj} {u:Int}:∀(l:List Kf) (k:Nat) (s:Xj),CK K s->(∀x,x∈l->GoD.size x<=K)->(∃r,X7 (Jf c u) Kt l k s= .ret r/\r.2.2=false)\/∃y,X7 (Jf c u) Kt l k s= .brk y/\CK K y
 | [],k,s,h,_=> .inr ⟨s,rfl,h⟩
 | x ::l,k,s,h,hx=>by
   simp only[X7,Jf];cases (Xz s u x).2.2 with
   | false=>exact .inl ⟨_,rfl,rfl⟩
   | true=>
     have h1:=hx x (zV ..);have e:GoD.size x=0+(GoD.size x.2.1+(0+GoD.size x.2.2.2)):=rfl;exact RG l (k+1) _ (Qg5 u h (by omega) (by omega)) λy hy=>hx y (zN _ hy)
theorem Qkc {K:Nat} {c:Xj} (h:CK K c):GoD.size ((c.1,c.2.1):Um)<=K+17*(K+1):=by
 have h1:=EH _ h.file;have h2:=EH _ h.dir;have h3:=h.l12;have h4:=h.l5;have h5:=h.sch;have e:GoD.size ((c.1,c.2.1):Um)=(GoD.size c.1.1+(GoD.size c.1.2.1+0))+GoD.size c.2.1:=rfl;have h6:c.1.2.1.length*(K+1)<=12*(K+1):=xG _ h3;have h7:c.2.1.length*(K+1)<=5*(K+1):=xG _ h4;omega
theorem Ow {K:Nat} (x:Ab) (u:Int) (l:List Kf) (hx:GoD.size x<=K) (hl:GoD.size l<=K):GoD.size (Qg x u l).1<=K+17*(K+1):=by
 unfold Qg;cases ho:(Xg x.1 u l x.2.2.2.2.2).2.2 with
 | false=>exact zZ _
 | true =>
   have key:CK K (Xg x.1 u l x.2.2.2.2.2).1:=by
    unfold Xg at ho⊢;rw[Ux] at ho⊢;cases hc:Xa x.1 with
    | false=>rw[hc] at ho;simp at ho
    | true=>
      have hx1:GoD.size x.1<=K:=Qk3 hx
      have hck:CK K x.1:=by
       obtain ⟨h5,hv⟩:=Wz hc;have e:GoD.size x.1=(GoD.size x.1.1.1+(GoD.size x.1.1.2.1+0))+(GoD.size x.1.2.1+GoD.size x.1.2.2):=rfl;exact ⟨YN hv,h5,by omega,λf hf=>by have:=EI hf;omega,λa ha=>by have:=EI ha;omega⟩
      rw[hc] at ho;simp only[zR,xI] at ho⊢;generalize decide (_>(6:Int))=b0 at ho⊢;cases b0 with
      | true=>simp at ho
      | false=>
        simp only[cond_false] at ho⊢;rcases RG (c:=x.1) (u:=u) l 0 x.1 hck (λy hy=>yB (EI hy) hl) with ⟨r,h1,h2⟩ | ⟨y,h1,h2⟩
        . rw[h1] at ho;simp only[Out.on] at ho;rw[h2] at ho;cases ho
        rw[h1] at ho⊢;simp only[Out.on] at ho⊢;cases hq:Hu y.1 x.2.2.2.2.2 with
        | false=>rw[hq] at ho;simp at ho
        | true=>exact h2
   exact Qkc key
open GoD (rd own)
set_option maxRecDepth 100000
set_option maxHeartbeats 1000000
theorem zSm:(∀(w:World) o,(w.alloc o).heap.size=w.heap.size+1)/\(∀(w:World) a v,(w.setCell a v).heap.size=w.heap.size)/\∀w:World,w.drew.heap.size=w.heap.size:=⟨λ_ _=>World.size_alloc ..,λ_ _ _=>World.size_setCell ..,λ_=>rfl⟩
theorem Qd3 {α:Type} [GoD α] {l:List α} {j:Nat} (h:j<l.length) (k:Nat):(Qx (l.take j) k).1.length=j:=by rw[Bg,List.length_take];omega
abbrev mI {α:Type} [GoD α] (L:List Nat) (w:World) (oa:Option Addr) (cap:Nat) (l:List α) (k:Nat) (q i:Value) (wr:World):Prop:=∃j:Nat,j<=l.length/\i= .int .i64 j/\q= .int .i64 ((Qx (l.take j) k).2:Nat)/\Hid (own L wr [.slice oa l.length cap] ((Qx (l.take j) k).1++l.drop j))/\Hid (Chg L w wr)
theorem Me (f:Nat):RP f 0= []:=by cases f<;>rfl
theorem IK:∀(f f' k:Nat),k<=f->k<=f'->RP f k=RP f' k
 | 0,f',k,h,_=>by
   obtain rfl:k=0:=by omega
   rw[Me,Me]
 | f+1,0,k,_,h=>by
   obtain rfl:k=0:=by omega
   rw[Me,Me]
 | f+1,f'+1,k,h,h'=>by
   unfold RP;by_cases hk:k=0
   . rw[if_pos hk,if_pos hk]
   rw[if_neg hk,if_neg hk,IK f f' (k / 10) (by omega) (by omega)]
theorem RH {k:Nat} (h:0<k):RP k k=RP (k / 10) (k / 10)++ [xP (48+k % 10)]:=by
 obtain ⟨f,rfl⟩:∃f,k=f+1:=⟨k-1,by omega⟩;rw[RP,if_neg (by omega),IK f ((f+1) / 10) _ (by omega) (xO _)]
theorem RI:∀(n k:Nat),k<10^n->(RP k k).length<=n
 | 0,k,h=>by
   obtain rfl:k=0:=by simpa using h
   simp[Me]
 | n+1,k,h=>by
   by_cases hk:k=0
   . subst hk;simp[Me]
   rw[RH (by omega)];have:=RI n (k / 10) (by rw[Nat.pow_succ] at h;omega);simp;omega
theorem BZ {k:Nat} (h:k<=4611686018427387904):(RP k k).length<=20:=RI 20 k (by omega)
theorem Db {k:Nat} (h:k<=4611686018427387904):(Gc k).size<=maxLen:=by
 have h1:=BZ h;unfold Gc maxLen;show (List.toArray _).size<=_;rw[List.size_toArray];split
 . simp
 simp;omega
theorem Ug (w:World) (K:Int) (k:Nat) (hK:K=k) (h1:1<=k) (hk:k<=4611686018427387904):Calls Tryz.prog 44 #[.int .i64 K] w (Ret w (.string (Gc k))):=by
 subst hK;have hk0:¬(k:Int)<=0:=by omega
 have HL:=Lib.hid (BZ hk);go_enter Tryz.func44,Tryz.ntmps44
 go_wp2
 go_loopw [0,3] (λq s wr=>∃(j:Nat) (out:ByteArray),q= .int .i64 j/\s= .string out/\j<=4611686018427387904/\Hid (RP j j++out.data.toList=RP k k)/\Below w.heap.size w wr) (λq _ _=>(intOf q).toNat)
 case atStart=>exact ⟨k,_,rfl,rfl,hk,by show _=_;simp,Below.refl _ _⟩
 case round=>
  obtain ⟨j,out,rfl,rfl,hj,HD,hB⟩:=hrel
  have hos:out.size<=20:=by
   have h:=HL.out;rw[←HD.out] at h;simp at h;have:out.size=out.data.size:=rfl;omega
  have hBs:=hB.size;by_cases hz:0<j
  . have hcv:∀w0:World,Sem.run Tryz.prog (convert 160 9 (.slice (some ⟨w0.heap.size,0,none⟩) 1 1)) (w0.alloc (.cells #[.int .u8 (48+(j:Int) % 10)] 5))= .ok (.string ⟨#[xP (48+j % 10)]⟩) (w0.alloc (.cells #[.int .u8 (48+(j:Int) % 10)] 5)):=by
     intro w0;refine run_convert_bytes_back (P:=Tryz.prog) _ 160 9 5 _ 1 [xP (48+j % 10)] Tryz.underlying160 Tryz.underlying5 Tryz.underlying9 ?_;intro i hi;obtain rfl:i=0:=by simp at hi;omega
     simp[Addr.add];omega
    have hos2:1+out.size<=30:=by omega
    go_wp2
    go_roundw
    case rel=>exact ⟨j / 10,_,by go_num,rfl,by omega,by
     show _=_;rw[←HD.out,RH hz];simp,by go_grown⟩
    case measure=>simp[intOf];omega
  obtain rfl:j=0:=by omega
  go_wp2
  go_ret
  refine ⟨?_,hB⟩;have h:=HD.out;rw[Me] at h;simp only[yP] at h
  have e:Gc k=⟨#[109]⟩++out:=by
   unfold Gc;rw[if_neg (by omega),←h];apply ByteArray.ext;simp
  rw[e];rfl
theorem ZO (w:World) (v:Value) (l:List Km) (L:List Nat) (K:Int) (k:Nat) (hK:K=k) (h1:1<=k) (hk:(Qx l k).2<=4611686018427387904) (ho:own L w [v] l):Calls Tryz.prog 82 #[v,.int .i64 K] w (Mf L w [v] (Qx l k)):=by
 subst hK;obtain ⟨oa,cap,rfl⟩:=Yd ho;have hlm:l.length<=9223372036854775807:=Ba ho;have HO:=Lib.hid ho;clear ho;go_enter Tryz.func82,Tryz.ntmps82
 go_wp2
 go_loopw [1,5] (mI L w oa cap l k) (λ_ i _=>l.length-(intOf i).toNat)
 case atStart=>exact ⟨0,zZ _,rfl,rfl,HO.out,Chg.refl _ _⟩
 case round=>
  obtain ⟨j,hj,rfl,rfl,HW,HC⟩:=hrel;by_cases hjl:j<l.length
  . have hx:=zL hjl;have hsp:=Vy l k j _ hx;have hle:=yB (K4 l k j _ hx) hk;have hdr:=zM hjl;have hxl:=Qd3 hjl k;have hkk:k<=(Qx (l.take j) k).2:=Zw _ _;have how:=HW.out;rw[hdr] at how;clear hx hdr HW;generalize (Qx (l.take j) k).2=kk at*;generalize (Qx (l.take j) k).1=xs at*;generalize l[j]=x at*;obtain ⟨g,cap',cur,e,Li,hv,hg,hroom,hgLi,hgL,hsub,hoe,hshut⟩:=Fe how;simp only[Value.slice.injEq] at hv;obtain ⟨rfl,hq0,rfl⟩:=hv;clear hq0;rw[hxl] at hroom hoe hshut;clear hxl;rw[show GoD.n Km=2 from rfl] at hroom hoe hshut;generalize hce:(cur.toList.drop (j*2)).take 2=ce at*;obtain ⟨v0,v1⟩:=x;obtain ⟨nd1,_,_,_,_,rfl,rfl,⟨rfl,rfl,h0⟩,⟨rfl,rfl,h1⟩⟩:=hoe;have p0:wr.cell? ⟨g,j*2,none⟩=some _:=Zy hg hce 0 _ rfl;have p1:wr.cell? ⟨g,j*2+1,none⟩=some _:=Zy hg hce 1 _ rfl;have fz:=Jc hg;have hglt:=Q7 hg;clear hce hg how;have HSH:=Lib.hid hshut;clear hshut;have HSP:=Lib.hid hsp;clear hsp;have hle:kk+1+1<=4611686018427387904:=hle;have HSUB:=Lib.hid hsub;clear hsub;have HU0:Hid (Upd g (j*2) 2 ([]++ []) wr wr):=Upd.refl _ _ _ _ _;have tok1:True:=trivial;go_wp2_with (first | (go_at_call 44;have tk:=tok1;clear tok1;refine (Ug _ _ (kk) (by omega) (by omega) (by omega)).mono ?_;rintro e w1 ⟨rfl,hb⟩;have hz:=hb.size;have c1:=λo=>Z0 hb g o (by go_size);have f1:=λo=>Kl hb g o (by go_size);have HU1:Hid (Upd g (j*2) 2 ([]++ []) wr w1):=Upd.below (by repeat (first | (with_reducible exact HU0.out) | (with_reducible refine Upd.setCell ?_ _ (by omega) _))) hb (by go_size);(try simp only[zSm] at hz);have HB1:=Lib.hid hb;clear hb))
    go_roundw
    case measure=>simp[intOf];omega
    case rel=>
     refine ⟨j+1,by omega,by go_num, ?_, ?_, ?_⟩
     . show Value.int _ _=_;rw[HSP.out];show Value.int .i64 _= .int .i64 ((kk+1+1:Nat):Int);first | go_num | (congr 1<;>omega)
     . show own _ _ _ _;rw[HSP.out];simp only[zQ,List.singleton_append];refine HSH.out _ [.string (Gc (kk)),.int .i64 ((kk+1:Nat):Int)] _ (by repeat (first | (with_reducible exact HU1.out) | (with_reducible refine Upd.setCell ?_ _ (by omega) _))) (X0 (Pj _ (Db (by omega))) (A5 _ (Dd (kk+1) (by omega))) (λx hx hy=>(zE.1 nd1).2.2 x hx x hy rfl)) ?_;intro q u hq
       match q,hq with
       | 0,hq=>obtain rfl:=(zF hq);simp[go_sem, *]
       | 1,hq=>obtain rfl:=(zF hq);simp[go_sem, *]
       | q+2,hq=>simp at hq
     exact HC.out.trans (((by repeat (first | (with_reducible exact HU1.out) | (with_reducible refine Upd.setCell ?_ _ (by omega) _))):Upd g (j*2) 2 ([]++ []) wr _).chg.mono (λb hb=>(zJ.1 hb).elim (λe=>e▸hgL) (HSUB.out b)))
  obtain rfl:j=l.length:=by omega
  have how:=HW.out;have hch:=HC.out;rw[zH,List.drop_length,zY] at how;rw[zH] at*;have HW2:=Lib.hid how;have HC2:=Lib.hid hch;clear how hch;go_wp2
  go_ret
  exact ⟨rfl,HW2.out,HC2.out⟩
theorem UL (w:World) (v:Value) (l:List Ee) (L:List Nat) (K:Int) (k:Nat) (hK:K=k) (h1:1<=k) (hk:(Qx l k).2<=4611686018427387904) (ho:own L w [v] l):Calls Tryz.prog 43 #[v,.int .i64 K] w (Mf L w [v] (Qx l k)):=by
 subst hK;obtain ⟨oa,cap,rfl⟩:=Yd ho;have hlm:l.length<=9223372036854775807:=Ba ho;have HO:=Lib.hid ho;clear ho;go_enter Tryz.func43,Tryz.ntmps43
 go_wp2
 go_loopw [1,5] (mI L w oa cap l k) (λ_ i _=>l.length-(intOf i).toNat)
 case atStart=>exact ⟨0,zZ _,rfl,rfl,HO.out,Chg.refl _ _⟩
 case round=>
  obtain ⟨j,hj,rfl,rfl,HW,HC⟩:=hrel;by_cases hjl:j<l.length
  . have hx:=zL hjl;have hsp:=Vy l k j _ hx;have hle:=yB (K4 l k j _ hx) hk;have hdr:=zM hjl;have hxl:=Qd3 hjl k;have hkk:k<=(Qx (l.take j) k).2:=Zw _ _;have how:=HW.out;rw[hdr] at how;clear hx hdr HW;generalize (Qx (l.take j) k).2=kk at*;generalize (Qx (l.take j) k).1=xs at*;generalize l[j]=x at*;obtain ⟨g,cap',cur,e,Li,hv,hg,hroom,hgLi,hgL,hsub,hoe,hshut⟩:=Fe how;simp only[Value.slice.injEq] at hv;obtain ⟨rfl,hq0,rfl⟩:=hv;clear hq0;rw[hxl] at hroom hoe hshut;clear hxl;rw[show GoD.n Ee=4 from rfl] at hroom hoe hshut;generalize hce:(cur.toList.drop (j*4)).take 4=ce at*;obtain ⟨v0,⟨v1,v2,v3⟩⟩:=x;obtain ⟨nd3,_,_,_,_,rfl,rfl,⟨rfl,rfl,h0⟩,⟨nd2,_,_,_,_,rfl,rfl,⟨rfl,rfl,h1⟩,⟨nd1,_,_,_,_,rfl,rfl,⟨rfl,rfl,h2⟩,⟨rfl,rfl,h3⟩⟩⟩⟩:=hoe;have p0:wr.cell? ⟨g,j*4,none⟩=some _:=Zy hg hce 0 _ rfl;have p1:wr.cell? ⟨g,j*4+1,none⟩=some _:=Zy hg hce 1 _ rfl;have p2:wr.cell? ⟨g,j*4+2,none⟩=some _:=Zy hg hce 2 _ rfl;have p3:wr.cell? ⟨g,j*4+3,none⟩=some _:=Zy hg hce 3 _ rfl;have fz:=Jc hg;have hglt:=Q7 hg;clear hce hg how;have HSH:=Lib.hid hshut;clear hshut;have HSP:=Lib.hid hsp;clear hsp;have hle:kk+1+1+1+1<=4611686018427387904:=hle;have HSUB:=Lib.hid hsub;clear hsub;have HU0:Hid (Upd g (j*4) 4 ([]++([]++([]++ []))) wr wr):=Upd.refl _ _ _ _ _;have tok1:True:=trivial;have tok2:True:=trivial;go_wp2_with (first | (go_at_call 44;have tk:=tok1;clear tok1;refine (Ug _ _ (kk) (by omega) (by omega) (by omega)).mono ?_;rintro e w1 ⟨rfl,hb⟩;have hz:=hb.size;have c1:=λo=>Z0 hb g o (by go_size);have f1:=λo=>Kl hb g o (by go_size);have HU1:Hid (Upd g (j*4) 4 ([]++([]++([]++ []))) wr w1):=Upd.below (by repeat (first | (with_reducible exact HU0.out) | (with_reducible refine Upd.setCell ?_ _ (by omega) _))) hb (by go_size);(try simp only[zSm] at hz);have HB1:=Lib.hid hb;clear hb) | (go_at_call 44;have tk:=tok2;clear tok2;refine (Ug _ _ (kk+1+1+1) (by omega) (by omega) (by omega)).mono ?_;rintro e w2 ⟨rfl,hb⟩;have hz:=hb.size;have c2:=λo=>Z0 hb g o (by go_size);have f2:=λo=>Kl hb g o (by go_size);have HU2:Hid (Upd g (j*4) 4 ([]++([]++([]++ []))) wr w2):=Upd.below (by repeat (first | (with_reducible exact HU1.out) | (with_reducible refine Upd.setCell ?_ _ (by omega) _))) hb (by go_size);(try simp only[zSm] at hz);have HB2:=Lib.hid hb;clear hb))
    go_roundw
    case measure=>simp[intOf];omega
    case rel=>
     refine ⟨j+1,by omega,by go_num, ?_, ?_, ?_⟩
     . show Value.int _ _=_;rw[HSP.out];show Value.int .i64 _= .int .i64 ((kk+1+1+1+1:Nat):Int);first | go_num | (congr 1<;>omega)
     . show own _ _ _ _;rw[HSP.out];simp only[zQ,List.singleton_append];refine HSH.out _ [.string (Gc (kk)),.int .i64 ((kk+1:Nat):Int),.int .i64 ((kk+1+1:Nat):Int),.string (Gc (kk+1+1+1))] _ (by repeat (first | (with_reducible exact HU2.out) | (with_reducible refine Upd.setCell ?_ _ (by omega) _))) (X0 (Pj _ (Db (by omega))) (X0 (A5 _ (Dd (kk+1) (by omega))) (X0 (A5 _ (Dd (kk+1+1) (by omega))) (Pj _ (Db (by omega))) (λx hx hy=>(zE.1 nd1).2.2 x hx x hy rfl)) (λx hx hy=>(zE.1 nd2).2.2 x hx x hy rfl)) (λx hx hy=>(zE.1 nd3).2.2 x hx x hy rfl)) ?_;intro q u hq
       match q,hq with
       | 0,hq=>obtain rfl:=(zF hq);simp[go_sem, *]
       | 1,hq=>obtain rfl:=(zF hq);simp[go_sem, *]
       | 2,hq=>obtain rfl:=(zF hq);simp[go_sem, *]
       | 3,hq=>obtain rfl:=(zF hq);simp[go_sem, *]
       | q+4,hq=>simp at hq
     exact HC.out.trans (((by repeat (first | (with_reducible exact HU2.out) | (with_reducible refine Upd.setCell ?_ _ (by omega) _))):Upd g (j*4) 4 ([]++([]++([]++ []))) wr _).chg.mono (λb hb=>(zJ.1 hb).elim (λe=>e▸hgL) (HSUB.out b)))
  obtain rfl:j=l.length:=by omega
  have how:=HW.out;have hch:=HC.out;rw[zH,List.drop_length,zY] at how;rw[zH] at*;have HW2:=Lib.hid how;have HC2:=Lib.hid hch;clear how hch;go_wp2
  go_ret
  exact ⟨rfl,HW2.out,HC2.out⟩
theorem UM (w:World) (v:Value) (l:List Xx) (L:List Nat) (K:Int) (k:Nat) (hK:K=k) (h1:1<=k) (hk:(Qx l k).2<=4611686018427387904) (ho:own L w [v] l):Calls Tryz.prog 83 #[v,.int .i64 K] w (Mf L w [v] (Qx l k)):=by
 subst hK;obtain ⟨oa,cap,rfl⟩:=Yd ho;have hlm:l.length<=9223372036854775807:=Ba ho;have HO:=Lib.hid ho;clear ho;go_enter Tryz.func83,Tryz.ntmps83
 go_wp2
 go_loopw [1,5] (mI L w oa cap l k) (λ_ i _=>l.length-(intOf i).toNat)
 case atStart=>exact ⟨0,zZ _,rfl,rfl,HO.out,Chg.refl _ _⟩
 case round=>
  obtain ⟨j,hj,rfl,rfl,HW,HC⟩:=hrel;by_cases hjl:j<l.length
  . have hx:=zL hjl;have hsp:=Vy l k j _ hx;have hle:=yB (K4 l k j _ hx) hk;have hdr:=zM hjl;have hxl:=Qd3 hjl k;have hkk:k<=(Qx (l.take j) k).2:=Zw _ _;have how:=HW.out;rw[hdr] at how;clear hx hdr HW;generalize (Qx (l.take j) k).2=kk at*;generalize (Qx (l.take j) k).1=xs at*;generalize l[j]=x at*;obtain ⟨g,cap',cur,e,Li,hv,hg,hroom,hgLi,hgL,hsub,hoe,hshut⟩:=Fe how;simp only[Value.slice.injEq] at hv;obtain ⟨rfl,hq0,rfl⟩:=hv;clear hq0;rw[hxl] at hroom hoe hshut;clear hxl;rw[show GoD.n Xx=5 from rfl] at hroom hoe hshut;generalize hce:(cur.toList.drop (j*5)).take 5=ce at*;obtain ⟨v0,v1,v2,v3,v4⟩:=x;obtain ⟨nd4,_,_,_,_,rfl,rfl,⟨rfl,rfl,h0⟩,⟨nd3,_,_,_,_,rfl,rfl,⟨rfl,rfl,h1⟩,⟨nd2,_,_,_,_,rfl,rfl,⟨rfl,rfl⟩,⟨nd1,_,_,_,SL4,rfl,rfl,⟨rfl,rfl,h3⟩,so4⟩⟩⟩⟩:=hoe;obtain ⟨sv4,rfl⟩:=Bf (show _=1 from GoD.rd_len (GoD.own_rd so4));obtain ⟨oa4,cp4,rfl⟩:=Yd so4;have p0:wr.cell? ⟨g,j*5,none⟩=some _:=Zy hg hce 0 _ rfl;have p1:wr.cell? ⟨g,j*5+1,none⟩=some _:=Zy hg hce 1 _ rfl;have p2:wr.cell? ⟨g,j*5+2,none⟩=some _:=Zy hg hce 2 _ rfl;have p3:wr.cell? ⟨g,j*5+3,none⟩=some _:=Zy hg hce 3 _ rfl;have p4:wr.cell? ⟨g,j*5+4,none⟩=some _:=Zy hg hce 4 _ rfl;have fz:=Jc hg;have hglt:=Q7 hg;clear hce hg how;have HSH:=Lib.hid hshut;clear hshut;have HSP:=Lib.hid hsp;clear hsp;have hle:(Qx v4 (kk+1+1+1+1)).2<=4611686018427387904:=hle;have hb2:=LY (kk+1+1) _ (show ((kk:Int)+1+1:Int)=((kk+1+1:Nat):Int) by omega);have hm4:kk+1+1+1+1<=(Qx v4 (kk+1+1+1+1)).2:=Zw _ _;have HSO4:=Lib.hid so4;clear so4;have HSUB:=Lib.hid hsub;clear hsub;have HU0:Hid (Upd g (j*5) 5 ([]++([]++([]++([]++SL4)))) wr wr):=Upd.refl _ _ _ _ _;have tok1:True:=trivial;go_wp2_with (first | (go_at_call 43;have tk:=tok1;clear tok1;refine Vh (UL _ _ v4 SL4 _ (kk+1+1+1+1) (by omega) (by omega) (by omega) (by repeat (first | (with_reducible exact HSO4.out) | (refine X5 ?_ (λhm=>hgLi (zD.2 (.inr (zD.2 (.inr (zD.2 (.inr (zD.2 (.inr hm))))))))))))) ?_;intro w1 ho1 hch hz;have c1:=λo=>hch.cell (b:=g) (by go_size) (λhm=>hgLi (zD.2 (.inr (zD.2 (.inr (zD.2 (.inr (zD.2 (.inr hm))))))))) o;have f1:=λo=>hch.frozen (b:=g) (by go_size) (λhm=>hgLi (zD.2 (.inr (zD.2 (.inr (zD.2 (.inr (zD.2 (.inr hm))))))))) o;have HU1:Hid (Upd g (j*5) 5 ([]++([]++([]++([]++SL4)))) wr w1):=Upd.mark (by repeat (first | (with_reducible exact HU0.out) | (with_reducible refine Upd.setCell ?_ _ (by omega) _))) hch (λb hm=>(zD.2 (.inr (zD.2 (.inr (zD.2 (.inr (zD.2 (.inr hm))))))))) (λhm=>hgLi (zD.2 (.inr (zD.2 (.inr (zD.2 (.inr (zD.2 (.inr hm))))))))) (by go_size);(try simp only[zSm] at hz);have HB1:=Lib.hid hch;clear hch;have HM1:=Lib.hid ho1;clear ho1))
    go_roundw
    case measure=>simp[intOf];omega
    case rel=>
     refine ⟨j+1,by omega,by go_num, ?_, ?_, ?_⟩
     . show Value.int _ _=_;rw[HSP.out];show Value.int .i64 _= .int .i64 (((Qx v4 (kk+1+1+1+1)).2:Nat):Int);first | go_num | (congr 1<;>omega)
     . show own _ _ _ _;rw[HSP.out];simp only[zQ,List.singleton_append];refine HSH.out _ [.int .i64 ((kk:Nat):Int),.int .i64 ((kk+1:Nat):Int),.bool ((kk+1+1) % 3==0),.int .i64 ((kk+1+1+1:Nat):Int),.slice oa4 v4.length cp4] _ (by repeat (first | (with_reducible exact HU1.out) | (with_reducible refine Upd.setCell ?_ _ (by omega) _))) (X0 (A5 _ (Dd (kk) (by omega))) (X0 (A5 _ (Dd (kk+1) (by omega))) (X0 (Qik _ _) (X0 (A5 _ (Dd (kk+1+1+1) (by omega))) (show own SL4 _ [.slice oa4 v4.length cp4] (Qx v4 (kk+1+1+1+1)).1 by repeat (first | (with_reducible exact HM1.out) | (refine X5 ?_ (λhm=>hgLi (zD.2 (.inr (zD.2 (.inr (zD.2 (.inr (zD.2 (.inr hm)))))))))))) (λx hx hy=>(zE.1 nd1).2.2 x hx x hy rfl)) (λx hx hy=>(zE.1 nd2).2.2 x hx x hy rfl)) (λx hx hy=>(zE.1 nd3).2.2 x hx x hy rfl)) (λx hx hy=>(zE.1 nd4).2.2 x hx x hy rfl)) ?_;intro q u hq
       match q,hq with
       | 0,hq=>obtain rfl:=(zF hq);simp[go_sem, *]
       | 1,hq=>obtain rfl:=(zF hq);simp[go_sem, *]
       | 2,hq=>obtain rfl:=(zF hq);simp[go_sem, *]
       | 3,hq=>obtain rfl:=(zF hq);simp[go_sem, *]
       | 4,hq=>obtain rfl:=(zF hq);simp[go_sem, *]
       | q+5,hq=>simp at hq
     exact HC.out.trans (((by repeat (first | (with_reducible exact HU1.out) | (with_reducible refine Upd.setCell ?_ _ (by omega) _))):Upd g (j*5) 5 ([]++([]++([]++([]++SL4)))) wr _).chg.mono (λb hb=>(zJ.1 hb).elim (λe=>e▸hgL) (HSUB.out b)))
  obtain rfl:j=l.length:=by omega
  have how:=HW.out;have hch:=HC.out;rw[zH,List.drop_length,zY] at how;rw[zH] at*;have HW2:=Lib.hid how;have HC2:=Lib.hid hch;clear how hch;go_wp2
  go_ret
  exact ⟨rfl,HW2.out,HC2.out⟩
theorem UN (w:World) (ca:List Value) (a:Xr) (L:List Nat) (K:Int) (k:Nat) (hK:K=k) (h1:1<=k) (hk:(GoD.markT a k).2<=4611686018427387904) (ho:own L w ca a):Calls Tryz.prog 46 #[.agg ca.toArray,.int .i64 K] w (Mf L w ca (GoD.markT a k)):=by
 subst hK;obtain ⟨b1,b2,b3⟩:=a;have hk:(Qx b2 ((Qx b1 (k)).2)).2<=4611686018427387904:=hk;have hlt:=GoD.own_lt ho;obtain ⟨nd0,_,_,SL0,_,rfl,rfl,so0,⟨nd1,_,_,SL1,_,rfl,rfl,so1,⟨rfl,rfl,h2⟩⟩⟩:=ho;obtain ⟨ax0_0,rfl⟩:=Bf (show _=1 from GoD.rd_len (GoD.own_rd so0));have HSO0:=Lib.hid so0;clear so0;have hm0:k<=(Qx b1 (k)).2:=Zw _ _;obtain ⟨ax1_0,rfl⟩:=Bf (show _=1 from GoD.rd_len (GoD.own_rd so1));have HSO1:=Lib.hid so1;clear so1;have hm1:(Qx b1 (k)).2<=(Qx b2 ((Qx b1 (k)).2)).2:=Zw _ _;show Calls Tryz.prog 46 #[.agg #[ax0_0,ax1_0,.int .i64 b3],.int .i64 (k:Int)] w (Mf (SL0++(SL1++ [])) w [ax0_0,ax1_0,.int .i64 b3] (GoD.markT ((b1,b2,b3):Xr) k));have HLT:=Lib.hid hlt;clear hlt;have tok1:True:=trivial;have tok2:True:=trivial;go_enter Tryz.func46,Tryz.ntmps46
 go_wp2_with (first | (go_at_call 82;have tk:=tok1;clear tok1;refine Vh (ZO _ ax0_0 b1 SL0 _ (k) (by omega) (by omega) (show (Qx b1 (k)).2<=4611686018427387904 by omega) (by repeat (first | (with_reducible exact HSO0.out) | (refine Y6 ?_)))) ?_;intro w1 ho1 hch hz;have c1:=λo=>hch.cell (b:=w.heap.size) (by go_size) (λhm=>by have:=HLT.out _ (zD.2 (.inl hm));omega) o;(try simp only[zSm] at hz);have HB1:=Lib.hid hch;clear hch;have HM1:=Lib.hid ho1;clear ho1) | (go_at_call 83;have tk:=tok2;clear tok2;refine Vh (UM _ ax1_0 b2 SL1 _ ((Qx b1 (k)).2) (by omega) (by omega) (show (Qx b2 ((Qx b1 (k)).2)).2<=4611686018427387904 by omega) (by repeat (first | (with_reducible exact HSO1.out) | (refine Y6 ?_) | (refine Kv ?_ HB1.out (λb hb1 hb2=>(zE.1 nd0).2.2 _ hb2 _ (zD.2 (.inl hb1)) rfl))))) ?_;intro w2 ho2 hch hz;have c2:=λo=>hch.cell (b:=w.heap.size) (by go_size) (λhm=>by have:=HLT.out _ (zD.2 (.inr (zD.2 (.inl hm))));omega) o;(try simp only[zSm] at hz);have HB2:=Lib.hid hch;clear hch;have HM2:=Lib.hid ho2;clear ho2))
 go_ret
 refine ⟨rfl, ?_, ?_⟩
 . show own (SL0++(SL1++ [])) _ [ax0_0,ax1_0,.int .i64 b3] _;exact (X0 (show own SL0 _ [ax0_0] (Qx b1 (k)).1 by repeat (first | (with_reducible exact HM1.out) | (refine Y6 ?_) | (refine Kv ?_ HB2.out (λb hb1 hb2=>(zE.1 nd0).2.2 _ hb1 _ (zD.2 (.inl hb2)) rfl)))) (X0 (show own SL1 _ [ax1_0] (Qx b2 ((Qx b1 (k)).2)).1 by repeat (first | (with_reducible exact HM2.out) | (refine Y6 ?_))) (A5 _ h2) (λx hx hy=>(zE.1 nd1).2.2 x hx x hy rfl)) (λx hx hy=>(zE.1 nd0).2.2 x hx x hy rfl))
 show Chg (SL0++(SL1++ [])) w _;exact ((Chg.of_below (show Below w.heap.size w _ by go_grown)).trans (HB1.out.mono (λb hm=>(zD.2 (.inl hm))))).trans (HB2.out.mono (λb hm=>(zD.2 (.inr (zD.2 (.inl hm))))))
theorem UO (w:World) (v:Value) (l:List Yz) (L:List Nat) (K:Int) (k:Nat) (hK:K=k) (h1:1<=k) (hk:(Qx l k).2<=4611686018427387904) (ho:own L w [v] l):Calls Tryz.prog 45 #[v,.int .i64 K] w (Mf L w [v] (Qx l k)):=by
 subst hK;obtain ⟨oa,cap,rfl⟩:=Yd ho;have hlm:l.length<=9223372036854775807:=Ba ho;have HO:=Lib.hid ho;clear ho;go_enter Tryz.func45,Tryz.ntmps45
 go_wp2
 go_loopw [1,5] (mI L w oa cap l k) (λ_ i _=>l.length-(intOf i).toNat)
 case atStart=>exact ⟨0,zZ _,rfl,rfl,HO.out,Chg.refl _ _⟩
 case round=>
  obtain ⟨j,hj,rfl,rfl,HW,HC⟩:=hrel;by_cases hjl:j<l.length
  . have hx:=zL hjl;have hsp:=Vy l k j _ hx;have hle:=yB (K4 l k j _ hx) hk;have hdr:=zM hjl;have hxl:=Qd3 hjl k;have hkk:k<=(Qx (l.take j) k).2:=Zw _ _;have how:=HW.out;rw[hdr] at how;clear hx hdr HW;generalize (Qx (l.take j) k).2=kk at*;generalize (Qx (l.take j) k).1=xs at*;generalize l[j]=x at*;obtain ⟨g,cap',cur,e,Li,hv,hg,hroom,hgLi,hgL,hsub,hoe,hshut⟩:=Fe how;simp only[Value.slice.injEq] at hv;obtain ⟨rfl,hq0,rfl⟩:=hv;clear hq0;rw[hxl] at hroom hoe hshut;clear hxl;rw[show GoD.n Yz=7 from rfl] at hroom hoe hshut;generalize hce:(cur.toList.drop (j*7)).take 7=ce at*;obtain ⟨v0,v1,v2,v3,⟨v4,v5,v6⟩⟩:=x;obtain ⟨nd6,_,_,_,_,rfl,rfl,⟨rfl,rfl,h0⟩,⟨nd5,_,_,_,_,rfl,rfl,⟨rfl,rfl,h1⟩,⟨nd4,_,_,_,_,rfl,rfl,⟨rfl,rfl,h2⟩,⟨nd3,_,_,_,_,rfl,rfl,⟨rfl,rfl,h3⟩,⟨nd2,_,_,_,_,rfl,rfl,⟨rfl,rfl,h4⟩,⟨nd1,_,_,_,_,rfl,rfl,⟨rfl,rfl,h5⟩,⟨rfl,rfl,h6⟩⟩⟩⟩⟩⟩⟩:=hoe;have p0:wr.cell? ⟨g,j*7,none⟩=some _:=Zy hg hce 0 _ rfl;have p1:wr.cell? ⟨g,j*7+1,none⟩=some _:=Zy hg hce 1 _ rfl;have p2:wr.cell? ⟨g,j*7+2,none⟩=some _:=Zy hg hce 2 _ rfl;have p3:wr.cell? ⟨g,j*7+3,none⟩=some _:=Zy hg hce 3 _ rfl;have p4:wr.cell? ⟨g,j*7+4,none⟩=some _:=Zy hg hce 4 _ rfl;have p5:wr.cell? ⟨g,j*7+5,none⟩=some _:=Zy hg hce 5 _ rfl;have p6:wr.cell? ⟨g,j*7+6,none⟩=some _:=Zy hg hce 6 _ rfl;have fz:=Jc hg;have hglt:=Q7 hg;clear hce hg how;have HSH:=Lib.hid hshut;clear hshut;have HSP:=Lib.hid hsp;clear hsp;have hle:kk+1+1+1+1+1+1+1<=4611686018427387904:=hle;have HSUB:=Lib.hid hsub;clear hsub;have HU0:Hid (Upd g (j*7) 7 ([]++([]++([]++([]++([]++([]++ [])))))) wr wr):=Upd.refl _ _ _ _ _;have tok1:True:=trivial;have tok2:True:=trivial;go_wp2_with (first | (go_at_call 44;have tk:=tok1;clear tok1;refine (Ug _ _ (kk+1+1+1) (by omega) (by omega) (by omega)).mono ?_;rintro e w1 ⟨rfl,hb⟩;have hz:=hb.size;have c1:=λo=>Z0 hb g o (by go_size);have f1:=λo=>Kl hb g o (by go_size);have HU1:Hid (Upd g (j*7) 7 ([]++([]++([]++([]++([]++([]++ [])))))) wr w1):=Upd.below (by repeat (first | (with_reducible exact HU0.out) | (with_reducible refine Upd.setCell ?_ _ (by omega) _))) hb (by go_size);(try simp only[zSm] at hz);have HB1:=Lib.hid hb;clear hb) | (go_at_call 44;have tk:=tok2;clear tok2;refine (Ug _ _ (kk+1+1+1+1+1+1) (by omega) (by omega) (by omega)).mono ?_;rintro e w2 ⟨rfl,hb⟩;have hz:=hb.size;have c2:=λo=>Z0 hb g o (by go_size);have f2:=λo=>Kl hb g o (by go_size);have HU2:Hid (Upd g (j*7) 7 ([]++([]++([]++([]++([]++([]++ [])))))) wr w2):=Upd.below (by repeat (first | (with_reducible exact HU1.out) | (with_reducible refine Upd.setCell ?_ _ (by omega) _))) hb (by go_size);(try simp only[zSm] at hz);have HB2:=Lib.hid hb;clear hb))
    go_roundw
    case measure=>simp[intOf];omega
    case rel=>
     refine ⟨j+1,by omega,by go_num, ?_, ?_, ?_⟩
     . show Value.int _ _=_;rw[HSP.out];show Value.int .i64 _= .int .i64 ((kk+1+1+1+1+1+1+1:Nat):Int);first | go_num | (congr 1<;>omega)
     . show own _ _ _ _;rw[HSP.out];simp only[zQ,List.singleton_append];refine HSH.out _ [.int .i64 ((kk:Nat):Int),.int .i64 ((kk+1:Nat):Int),.int .i64 ((kk+1+1:Nat):Int),.string (Gc (kk+1+1+1)),.int .i64 ((kk+1+1+1+1:Nat):Int),.int .i64 ((kk+1+1+1+1+1:Nat):Int),.string (Gc (kk+1+1+1+1+1+1))] _ (by repeat (first | (with_reducible exact HU2.out) | (with_reducible refine Upd.setCell ?_ _ (by omega) _))) (X0 (A5 _ (Dd (kk) (by omega))) (X0 (A5 _ (Dd (kk+1) (by omega))) (X0 (A5 _ (Dd (kk+1+1) (by omega))) (X0 (Pj _ (Db (by omega))) (X0 (A5 _ (Dd (kk+1+1+1+1) (by omega))) (X0 (A5 _ (Dd (kk+1+1+1+1+1) (by omega))) (Pj _ (Db (by omega))) (λx hx hy=>(zE.1 nd1).2.2 x hx x hy rfl)) (λx hx hy=>(zE.1 nd2).2.2 x hx x hy rfl)) (λx hx hy=>(zE.1 nd3).2.2 x hx x hy rfl)) (λx hx hy=>(zE.1 nd4).2.2 x hx x hy rfl)) (λx hx hy=>(zE.1 nd5).2.2 x hx x hy rfl)) (λx hx hy=>(zE.1 nd6).2.2 x hx x hy rfl)) ?_;intro q u hq
       match q,hq with
       | 0,hq=>obtain rfl:=(zF hq);simp[go_sem, *]
       | 1,hq=>obtain rfl:=(zF hq);simp[go_sem, *]
       | 2,hq=>obtain rfl:=(zF hq);simp[go_sem, *]
       | 3,hq=>obtain rfl:=(zF hq);simp[go_sem, *]
       | 4,hq=>obtain rfl:=(zF hq);simp[go_sem, *]
       | 5,hq=>obtain rfl:=(zF hq);simp[go_sem, *]
       | 6,hq=>obtain rfl:=(zF hq);simp[go_sem, *]
       | q+7,hq=>simp at hq
     exact HC.out.trans (((by repeat (first | (with_reducible exact HU2.out) | (with_reducible refine Upd.setCell ?_ _ (by omega) _))):Upd g (j*7) 7 ([]++([]++([]++([]++([]++([]++ [])))))) wr _).chg.mono (λb hb=>(zJ.1 hb).elim (λe=>e▸hgL) (HSUB.out b)))
  obtain rfl:j=l.length:=by omega
  have how:=HW.out;have hch:=HC.out;rw[zH,List.drop_length,zY] at how;rw[zH] at*;have HW2:=Lib.hid how;have HC2:=Lib.hid hch;clear how hch;go_wp2
  go_ret
  exact ⟨rfl,HW2.out,HC2.out⟩
theorem YU (w:World) (v:Value) (l:List Yc) (L:List Nat) (K:Int) (k:Nat) (hK:K=k) (h1:1<=k) (hk:(Qx l k).2<=4611686018427387904) (ho:own L w [v] l):Calls Tryz.prog 47 #[v,.int .i64 K] w (Mf L w [v] (Qx l k)):=by
 subst hK;obtain ⟨oa,cap,rfl⟩:=Yd ho;have hlm:l.length<=9223372036854775807:=Ba ho;have HO:=Lib.hid ho;clear ho;go_enter Tryz.func47,Tryz.ntmps47
 go_wp2
 go_loopw [1,5] (mI L w oa cap l k) (λ_ i _=>l.length-(intOf i).toNat)
 case atStart=>exact ⟨0,zZ _,rfl,rfl,HO.out,Chg.refl _ _⟩
 case round=>
  obtain ⟨j,hj,rfl,rfl,HW,HC⟩:=hrel;by_cases hjl:j<l.length
  . have hx:=zL hjl;have hsp:=Vy l k j _ hx;have hle:=yB (K4 l k j _ hx) hk;have hdr:=zM hjl;have hxl:=Qd3 hjl k;have hkk:k<=(Qx (l.take j) k).2:=Zw _ _;have how:=HW.out;rw[hdr] at how;clear hx hdr HW;generalize (Qx (l.take j) k).2=kk at*;generalize (Qx (l.take j) k).1=xs at*;generalize l[j]=x at*;obtain ⟨g,cap',cur,e,Li,hv,hg,hroom,hgLi,hgL,hsub,hoe,hshut⟩:=Fe how;simp only[Value.slice.injEq] at hv;obtain ⟨rfl,hq0,rfl⟩:=hv;clear hq0;rw[hxl] at hroom hoe hshut;clear hxl;rw[show GoD.n Yc=2 from rfl] at hroom hoe hshut;generalize hce:(cur.toList.drop (j*2)).take 2=ce at*;obtain ⟨v0,v1⟩:=x;obtain ⟨nd1,_,_,_,SL1,rfl,rfl,⟨rfl,rfl,h0⟩,so1⟩:=hoe;obtain ⟨sv1,rfl⟩:=Bf (show _=1 from GoD.rd_len (GoD.own_rd so1));obtain ⟨oa1,cp1,rfl⟩:=Yd so1;have p0:wr.cell? ⟨g,j*2,none⟩=some _:=Zy hg hce 0 _ rfl;have p1:wr.cell? ⟨g,j*2+1,none⟩=some _:=Zy hg hce 1 _ rfl;have fz:=Jc hg;have hglt:=Q7 hg;clear hce hg how;have HSH:=Lib.hid hshut;clear hshut;have HSP:=Lib.hid hsp;clear hsp;have hle:(Qx v1 (kk+1)).2<=4611686018427387904:=hle;have hm1:kk+1<=(Qx v1 (kk+1)).2:=Zw _ _;have HSO1:=Lib.hid so1;clear so1;have HSUB:=Lib.hid hsub;clear hsub;have HU0:Hid (Upd g (j*2) 2 ([]++SL1) wr wr):=Upd.refl _ _ _ _ _;have tok1:True:=trivial;have tok2:True:=trivial;go_wp2_with (first | (go_at_call 44;have tk:=tok1;clear tok1;refine (Ug _ _ (kk) (by omega) (by omega) (by omega)).mono ?_;rintro e w1 ⟨rfl,hb⟩;have hz:=hb.size;have c1:=λo=>Z0 hb g o (by go_size);have f1:=λo=>Kl hb g o (by go_size);have HU1:Hid (Upd g (j*2) 2 ([]++SL1) wr w1):=Upd.below (by repeat (first | (with_reducible exact HU0.out) | (with_reducible refine Upd.setCell ?_ _ (by omega) _))) hb (by go_size);(try simp only[zSm] at hz);have HB1:=Lib.hid hb;clear hb) | (go_at_call 45;have tk:=tok2;clear tok2;refine Vh (UO _ _ v1 SL1 _ (kk+1) (by omega) (by omega) (by omega) (by repeat (first | (with_reducible exact HSO1.out) | (refine X5 ?_ (λhm=>hgLi (zD.2 (.inr hm)))) | (with_reducible refine Ku ?_ HB1.out)))) ?_;intro w2 ho2 hch hz;have c2:=λo=>hch.cell (b:=g) (by go_size) (λhm=>hgLi (zD.2 (.inr hm))) o;have f2:=λo=>hch.frozen (b:=g) (by go_size) (λhm=>hgLi (zD.2 (.inr hm))) o;have HU2:Hid (Upd g (j*2) 2 ([]++SL1) wr w2):=Upd.mark (by repeat (first | (with_reducible exact HU1.out) | (with_reducible refine Upd.setCell ?_ _ (by omega) _))) hch (λb hm=>(zD.2 (.inr hm))) (λhm=>hgLi (zD.2 (.inr hm))) (by go_size);(try simp only[zSm] at hz);have HB2:=Lib.hid hch;clear hch;have HM2:=Lib.hid ho2;clear ho2))
    go_roundw
    case measure=>simp[intOf];omega
    case rel=>
     refine ⟨j+1,by omega,by go_num, ?_, ?_, ?_⟩
     . show Value.int _ _=_;rw[HSP.out];show Value.int .i64 _= .int .i64 (((Qx v1 (kk+1)).2:Nat):Int);first | go_num | (congr 1<;>omega)
     . show own _ _ _ _;rw[HSP.out];simp only[zQ,List.singleton_append];refine HSH.out _ [.string (Gc (kk)),.slice oa1 v1.length cp1] _ (by repeat (first | (with_reducible exact HU2.out) | (with_reducible refine Upd.setCell ?_ _ (by omega) _))) (X0 (Pj _ (Db (by omega))) (show own SL1 _ [.slice oa1 v1.length cp1] (Qx v1 (kk+1)).1 by repeat (first | (with_reducible exact HM2.out) | (refine X5 ?_ (λhm=>hgLi (zD.2 (.inr hm)))))) (λx hx hy=>(zE.1 nd1).2.2 x hx x hy rfl)) ?_;intro q u hq
       match q,hq with
       | 0,hq=>obtain rfl:=(zF hq);simp[go_sem, *]
       | 1,hq=>obtain rfl:=(zF hq);simp[go_sem, *]
       | q+2,hq=>simp at hq
     exact HC.out.trans (((by repeat (first | (with_reducible exact HU2.out) | (with_reducible refine Upd.setCell ?_ _ (by omega) _))):Upd g (j*2) 2 ([]++SL1) wr _).chg.mono (λb hb=>(zJ.1 hb).elim (λe=>e▸hgL) (HSUB.out b)))
  obtain rfl:j=l.length:=by omega
  have how:=HW.out;have hch:=HC.out;rw[zH,List.drop_length,zY] at how;rw[zH] at*;have HW2:=Lib.hid how;have HC2:=Lib.hid hch;clear how hch;go_wp2
  go_ret
  exact ⟨rfl,HW2.out,HC2.out⟩
theorem HY (w:World) (ca:List Value) (a:Um) (L:List Nat) (K:Int) (k:Nat) (hK:K=k) (h1:1<=k) (hk:(GoD.markT a k).2<=4611686018427387904) (ho:own L w ca a):Calls Tryz.prog 15 #[.agg ca.toArray,.int .i64 K] w (Mf L w ca (GoD.markT a k)):=by
 subst hK;obtain ⟨b1,b2⟩:=a;have hk:(Qx b2 ((GoD.markT b1 (k)).2)).2<=4611686018427387904:=hk;have hlt:=GoD.own_lt ho;obtain ⟨nd0,_,_,SL0,SL1,rfl,rfl,so0,so1⟩:=ho;obtain ⟨ax0_0,ax0_1,ax0_2,rfl⟩:=SM (show _=3 from GoD.rd_len (GoD.own_rd so0));have HSO0:=Lib.hid so0;clear so0;have hm0:k<=(GoD.markT b1 (k)).2:=GoD.mkT_le _ _;obtain ⟨ax1_0,rfl⟩:=Bf (show _=1 from GoD.rd_len (GoD.own_rd so1));have HSO1:=Lib.hid so1;clear so1;have hm1:(GoD.markT b1 (k)).2<=(Qx b2 ((GoD.markT b1 (k)).2)).2:=Zw _ _;show Calls Tryz.prog 15 #[.agg #[ax0_0,ax0_1,ax0_2,ax1_0],.int .i64 (k:Int)] w (Mf (SL0++SL1) w [ax0_0,ax0_1,ax0_2,ax1_0] (GoD.markT ((b1,b2):Um) k));have HLT:=Lib.hid hlt;clear hlt;have tok1:True:=trivial;have tok2:True:=trivial;go_enter Tryz.func15,Tryz.ntmps15
 go_wp2_with (first | (go_at_call 46;have tk:=tok1;clear tok1;refine Vh (UN _ [ax0_0,ax0_1,ax0_2] b1 SL0 _ (k) (by omega) (by omega) (show (GoD.markT b1 (k)).2<=4611686018427387904 by omega) (by repeat (first | (with_reducible exact HSO0.out) | (refine Y6 ?_)))) ?_;intro w1 ho1 hch hz;have c1:=λo=>hch.cell (b:=w.heap.size) (by go_size) (λhm=>by have:=HLT.out _ (zD.2 (.inl hm));omega) o;(try simp only[zSm] at hz);have HB1:=Lib.hid hch;clear hch;have HM1:=Lib.hid ho1;clear ho1) | (go_at_call 47;have tk:=tok2;clear tok2;refine Vh (YU _ ax1_0 b2 SL1 _ ((GoD.markT b1 (k)).2) (by omega) (by omega) (show (Qx b2 ((GoD.markT b1 (k)).2)).2<=4611686018427387904 by omega) (by repeat (first | (with_reducible exact HSO1.out) | (refine Y6 ?_) | (refine Kv ?_ HB1.out (λb hb1 hb2=>(zE.1 nd0).2.2 _ hb2 _ hb1 rfl))))) ?_;intro w2 ho2 hch hz;have c2:=λo=>hch.cell (b:=w.heap.size) (by go_size) (λhm=>by have:=HLT.out _ (zD.2 (.inr hm));omega) o;(try simp only[zSm] at hz);have HB2:=Lib.hid hch;clear hch;have HM2:=Lib.hid ho2;clear ho2))
 go_ret
 refine ⟨rfl, ?_, ?_⟩
 . show own (SL0++SL1) _ [ax0_0,ax0_1,ax0_2,ax1_0] _;exact (X0 (show own SL0 _ [ax0_0,ax0_1,ax0_2] (GoD.markT b1 (k)).1 by repeat (first | (with_reducible exact HM1.out) | (refine Y6 ?_) | (refine Kv ?_ HB2.out (λb hb1 hb2=>(zE.1 nd0).2.2 _ hb1 _ hb2 rfl)))) (show own SL1 _ [ax1_0] (Qx b2 ((GoD.markT b1 (k)).2)).1 by repeat (first | (with_reducible exact HM2.out) | (refine Y6 ?_))) (λx hx hy=>(zE.1 nd0).2.2 x hx x hy rfl))
 show Chg (SL0++SL1) w _;exact ((Chg.of_below (show Below w.heap.size w _ by go_grown)).trans (HB1.out.mono (λb hm=>(zD.2 (.inl hm))))).trans (HB2.out.mono (λb hm=>(zD.2 (.inr hm))))
theorem N0 (w:World) (v:Value) (l:List Int) (L:List Nat) (K:Int) (k:Nat) (hK:K=k) (h1:1<=k) (hk:(Qx l k).2<=4611686018427387904) (ho:own L w [v] l):Calls Tryz.prog 42 #[v,.int .i64 K] w (Mf L w [v] (Qx l k)):=by
 subst hK;obtain ⟨oa,cap,rfl⟩:=Yd ho;have hlm:l.length<=9223372036854775807:=Ba ho;have HO:=Lib.hid ho;clear ho;go_enter Tryz.func42,Tryz.ntmps42
 go_wp2
 go_loopw [1,5] (mI L w oa cap l k) (λ_ i _=>l.length-(intOf i).toNat)
 case atStart=>exact ⟨0,zZ _,rfl,rfl,HO.out,Chg.refl _ _⟩
 case round=>
  obtain ⟨j,hj,rfl,rfl,HW,HC⟩:=hrel;by_cases hjl:j<l.length
  . have hx:=zL hjl;have hsp:=Vy l k j _ hx;have hle:=yB (K4 l k j _ hx) hk;have hdr:=zM hjl;have hxl:=Qd3 hjl k;have hkk:k<=(Qx (l.take j) k).2:=Zw _ _;have how:=HW.out;rw[hdr] at how;clear hx hdr HW;generalize (Qx (l.take j) k).2=kk at*;generalize (Qx (l.take j) k).1=xs at*;generalize l[j]=x at*;obtain ⟨g,cap',cur,e,Li,hv,hg,hroom,hgLi,hgL,hsub,hoe,hshut⟩:=Fe how;simp only[Value.slice.injEq] at hv;obtain ⟨rfl,hq0,rfl⟩:=hv;clear hq0;rw[hxl] at hroom hoe hshut;clear hxl;rw[show GoD.n Int=1 from rfl] at hroom hoe hshut;rw[Nat.mul_one] at hoe hshut;generalize hce:(cur.toList.drop j).take 1=ce at*;obtain ⟨rfl,rfl,hh⟩:=hoe;have p0:wr.cell? ⟨g,j,none⟩=some _:=Zy hg hce 0 _ rfl;have fz:=Jc hg;have hglt:=Q7 hg;clear hce hg how;have HSH:=Lib.hid hshut;clear hshut;have HSP:=Lib.hid hsp;clear hsp;have hle:kk+1<=4611686018427387904:=hle;have HU0:Hid (Upd g j 1 [] wr wr):=Upd.refl _ _ _ _ _;go_wp2
    go_roundw
    case measure=>simp[intOf];omega
    case rel=>
     refine ⟨j+1,by omega,by go_num, ?_, ?_, ?_⟩
     . show Value.int _ _=_;rw[HSP.out];show Value.int .i64 _= .int .i64 ((kk+1:Nat):Int);first | go_num | (congr 1<;>omega)
     . show own _ _ _ _;rw[HSP.out];simp only[zQ,List.singleton_append];refine HSH.out _ [.int .i64 ((kk:Nat):Int)] _ (by repeat (first | (with_reducible exact HU0.out) | (with_reducible refine Upd.setCell ?_ _ (by omega) _))) (A5 _ (Dd (kk) (by omega))) ?_;intro q u hq
       match q,hq with
       | 0,hq=>obtain rfl:=(zF hq);simp[go_sem, *]
       | q+1,hq=>simp at hq
     exact HC.out.trans (((by repeat (first | (with_reducible exact HU0.out) | (with_reducible refine Upd.setCell ?_ _ (by omega) _))):Upd g j 1 [] wr _).chg.mono (λb hb=>(zJ.1 hb).elim (λe=>e▸hgL) (hsub b)))
  obtain rfl:j=l.length:=by omega
  have how:=HW.out;have hch:=HC.out;rw[zH,List.drop_length,zY] at how;rw[zH] at*;have HW2:=Lib.hid how;have HC2:=Lib.hid hch;clear how hch;go_wp2
  go_ret
  exact ⟨rfl,HW2.out,HC2.out⟩
theorem IL (w:World) (v:Value) (l:List Nm) (L:List Nat) (K:Int) (k:Nat) (hK:K=k) (h1:1<=k) (hk:(Qx l k).2<=4611686018427387904) (ho:own L w [v] l):Calls Tryz.prog 84 #[v,.int .i64 K] w (Mf L w [v] (Qx l k)):=by
 subst hK;obtain ⟨oa,cap,rfl⟩:=Yd ho;have hlm:l.length<=9223372036854775807:=Ba ho;have HO:=Lib.hid ho;clear ho;go_enter Tryz.func84,Tryz.ntmps84
 go_wp2
 go_loopw [1,5] (mI L w oa cap l k) (λ_ i _=>l.length-(intOf i).toNat)
 case atStart=>exact ⟨0,zZ _,rfl,rfl,HO.out,Chg.refl _ _⟩
 case round=>
  obtain ⟨j,hj,rfl,rfl,HW,HC⟩:=hrel;by_cases hjl:j<l.length
  . have hx:=zL hjl;have hsp:=Vy l k j _ hx;have hle:=yB (K4 l k j _ hx) hk;have hdr:=zM hjl;have hxl:=Qd3 hjl k;have hkk:k<=(Qx (l.take j) k).2:=Zw _ _;have how:=HW.out;rw[hdr] at how;clear hx hdr HW;generalize (Qx (l.take j) k).2=kk at*;generalize (Qx (l.take j) k).1=xs at*;generalize l[j]=x at*;obtain ⟨g,cap',cur,e,Li,hv,hg,hroom,hgLi,hgL,hsub,hoe,hshut⟩:=Fe how;simp only[Value.slice.injEq] at hv;obtain ⟨rfl,hq0,rfl⟩:=hv;clear hq0;rw[hxl] at hroom hoe hshut;clear hxl;rw[show GoD.n Nm=3 from rfl] at hroom hoe hshut;generalize hce:(cur.toList.drop (j*3)).take 3=ce at*;obtain ⟨v0,v1,v2⟩:=x;obtain ⟨nd2,_,_,_,_,rfl,rfl,⟨rfl,rfl,h0⟩,⟨nd1,_,_,SL1,SL2,rfl,rfl,so1,so2⟩⟩:=hoe;obtain ⟨sv1,rfl⟩:=Bf (show _=1 from GoD.rd_len (GoD.own_rd so1));obtain ⟨oa1,cp1,rfl⟩:=Yd so1;obtain ⟨sv2,rfl⟩:=Bf (show _=1 from GoD.rd_len (GoD.own_rd so2));obtain ⟨oa2,cp2,rfl⟩:=Yd so2;have p0:wr.cell? ⟨g,j*3,none⟩=some _:=Zy hg hce 0 _ rfl;have p1:wr.cell? ⟨g,j*3+1,none⟩=some _:=Zy hg hce 1 _ rfl;have p2:wr.cell? ⟨g,j*3+2,none⟩=some _:=Zy hg hce 2 _ rfl;have fz:=Jc hg;have hglt:=Q7 hg;clear hce hg how;have HSH:=Lib.hid hshut;clear hshut;have HSP:=Lib.hid hsp;clear hsp;have hle:(Qx v2 ((Qx v1 (kk+1)).2)).2<=4611686018427387904:=hle;have hm1:kk+1<=(Qx v1 (kk+1)).2:=Zw _ _;have hm2:(Qx v1 (kk+1)).2<=(Qx v2 ((Qx v1 (kk+1)).2)).2:=Zw _ _;have HSO1:=Lib.hid so1;clear so1;have HSO2:=Lib.hid so2;clear so2;have HSUB:=Lib.hid hsub;clear hsub;have HU0:Hid (Upd g (j*3) 3 ([]++(SL1++SL2)) wr wr):=Upd.refl _ _ _ _ _;have tok1:True:=trivial;have tok2:True:=trivial;go_wp2_with (first | (go_at_call 42;have tk:=tok1;clear tok1;refine Vh (N0 _ _ v1 SL1 _ (kk+1) (by omega) (by omega) (by omega) (by repeat (first | (with_reducible exact HSO1.out) | (refine X5 ?_ (λhm=>hgLi (zD.2 (.inr (zD.2 (.inl hm))))))))) ?_;intro w1 ho1 hch hz;have c1:=λo=>hch.cell (b:=g) (by go_size) (λhm=>hgLi (zD.2 (.inr (zD.2 (.inl hm))))) o;have f1:=λo=>hch.frozen (b:=g) (by go_size) (λhm=>hgLi (zD.2 (.inr (zD.2 (.inl hm))))) o;have HU1:Hid (Upd g (j*3) 3 ([]++(SL1++SL2)) wr w1):=Upd.mark (by repeat (first | (with_reducible exact HU0.out) | (with_reducible refine Upd.setCell ?_ _ (by omega) _))) hch (λb hm=>(zD.2 (.inr (zD.2 (.inl hm))))) (λhm=>hgLi (zD.2 (.inr (zD.2 (.inl hm))))) (by go_size);(try simp only[zSm] at hz);have HB1:=Lib.hid hch;clear hch;have HM1:=Lib.hid ho1;clear ho1) | (go_at_call 42;have tk:=tok2;clear tok2;refine Vh (N0 _ _ v2 SL2 _ ((Qx v1 (kk+1)).2) (by omega) (by omega) (by omega) (by repeat (first | (with_reducible exact HSO2.out) | (refine X5 ?_ (λhm=>hgLi (zD.2 (.inr (zD.2 (.inr hm)))))) | (refine Kv ?_ HB1.out (λb hb1 hb2=>(zE.1 nd1).2.2 _ hb2 _ hb1 rfl))))) ?_;intro w2 ho2 hch hz;have c2:=λo=>hch.cell (b:=g) (by go_size) (λhm=>hgLi (zD.2 (.inr (zD.2 (.inr hm))))) o;have f2:=λo=>hch.frozen (b:=g) (by go_size) (λhm=>hgLi (zD.2 (.inr (zD.2 (.inr hm))))) o;have HU2:Hid (Upd g (j*3) 3 ([]++(SL1++SL2)) wr w2):=Upd.mark (by repeat (first | (with_reducible exact HU1.out) | (with_reducible refine Upd.setCell ?_ _ (by omega) _))) hch (λb hm=>(zD.2 (.inr (zD.2 (.inr hm))))) (λhm=>hgLi (zD.2 (.inr (zD.2 (.inr hm))))) (by go_size);(try simp only[zSm] at hz);have HB2:=Lib.hid hch;clear hch;have HM2:=Lib.hid ho2;clear ho2))
    go_roundw
    case measure=>simp[intOf];omega
    case rel=>
     refine ⟨j+1,by omega,by go_num, ?_, ?_, ?_⟩
     . show Value.int _ _=_;rw[HSP.out];show Value.int .i64 _= .int .i64 (((Qx v2 ((Qx v1 (kk+1)).2)).2:Nat):Int);first | go_num | (congr 1<;>omega)
     . show own _ _ _ _;rw[HSP.out];simp only[zQ,List.singleton_append];refine HSH.out _ [.int .i64 ((kk:Nat):Int),.slice oa1 v1.length cp1,.slice oa2 v2.length cp2] _ (by repeat (first | (with_reducible exact HU2.out) | (with_reducible refine Upd.setCell ?_ _ (by omega) _))) (X0 (A5 _ (Dd (kk) (by omega))) (X0 (show own SL1 _ [.slice oa1 v1.length cp1] (Qx v1 (kk+1)).1 by repeat (first | (with_reducible exact HM1.out) | (refine X5 ?_ (λhm=>hgLi (zD.2 (.inr (zD.2 (.inl hm)))))) | (refine Kv ?_ HB2.out (λb hb1 hb2=>(zE.1 nd1).2.2 _ hb1 _ hb2 rfl)))) (show own SL2 _ [.slice oa2 v2.length cp2] (Qx v2 ((Qx v1 (kk+1)).2)).1 by repeat (first | (with_reducible exact HM2.out) | (refine X5 ?_ (λhm=>hgLi (zD.2 (.inr (zD.2 (.inr hm)))))))) (λx hx hy=>(zE.1 nd1).2.2 x hx x hy rfl)) (λx hx hy=>(zE.1 nd2).2.2 x hx x hy rfl)) ?_;intro q u hq
       match q,hq with
       | 0,hq=>obtain rfl:=(zF hq);simp[go_sem, *]
       | 1,hq=>obtain rfl:=(zF hq);simp[go_sem, *]
       | 2,hq=>obtain rfl:=(zF hq);simp[go_sem, *]
       | q+3,hq=>simp at hq
     exact HC.out.trans (((by repeat (first | (with_reducible exact HU2.out) | (with_reducible refine Upd.setCell ?_ _ (by omega) _))):Upd g (j*3) 3 ([]++(SL1++SL2)) wr _).chg.mono (λb hb=>(zJ.1 hb).elim (λe=>e▸hgL) (HSUB.out b)))
  obtain rfl:j=l.length:=by omega
  have how:=HW.out;have hch:=HC.out;rw[zH,List.drop_length,zY] at how;rw[zH] at*;have HW2:=Lib.hid how;have HC2:=Lib.hid hch;clear how hch;go_wp2
  go_ret
  exact ⟨rfl,HW2.out,HC2.out⟩
theorem EJ (w:World) (v:Value) (l:List Qj) (L:List Nat) (K:Int) (k:Nat) (hK:K=k) (h1:1<=k) (hk:(Qx l k).2<=4611686018427387904) (ho:own L w [v] l):Calls Tryz.prog 81 #[v,.int .i64 K] w (Mf L w [v] (Qx l k)):=by
 subst hK;obtain ⟨oa,cap,rfl⟩:=Yd ho;have hlm:l.length<=9223372036854775807:=Ba ho;have HO:=Lib.hid ho;clear ho;go_enter Tryz.func81,Tryz.ntmps81
 go_wp2
 go_loopw [1,5] (mI L w oa cap l k) (λ_ i _=>l.length-(intOf i).toNat)
 case atStart=>exact ⟨0,zZ _,rfl,rfl,HO.out,Chg.refl _ _⟩
 case round=>
  obtain ⟨j,hj,rfl,rfl,HW,HC⟩:=hrel;by_cases hjl:j<l.length
  . have hx:=zL hjl;have hsp:=Vy l k j _ hx;have hle:=yB (K4 l k j _ hx) hk;have hdr:=zM hjl;have hxl:=Qd3 hjl k;have hkk:k<=(Qx (l.take j) k).2:=Zw _ _;have how:=HW.out;rw[hdr] at how;clear hx hdr HW;generalize (Qx (l.take j) k).2=kk at*;generalize (Qx (l.take j) k).1=xs at*;generalize l[j]=x at*;obtain ⟨g,cap',cur,e,Li,hv,hg,hroom,hgLi,hgL,hsub,hoe,hshut⟩:=Fe how;simp only[Value.slice.injEq] at hv;obtain ⟨rfl,hq0,rfl⟩:=hv;clear hq0;rw[hxl] at hroom hoe hshut;clear hxl;rw[show GoD.n Qj=2 from rfl] at hroom hoe hshut;generalize hce:(cur.toList.drop (j*2)).take 2=ce at*;obtain ⟨v0,v1⟩:=x;obtain ⟨nd1,_,_,_,SL1,rfl,rfl,⟨rfl,rfl,h0⟩,so1⟩:=hoe;obtain ⟨sv1,rfl⟩:=Bf (show _=1 from GoD.rd_len (GoD.own_rd so1));obtain ⟨oa1,cp1,rfl⟩:=Yd so1;have p0:wr.cell? ⟨g,j*2,none⟩=some _:=Zy hg hce 0 _ rfl;have p1:wr.cell? ⟨g,j*2+1,none⟩=some _:=Zy hg hce 1 _ rfl;have fz:=Jc hg;have hglt:=Q7 hg;clear hce hg how;have HSH:=Lib.hid hshut;clear hshut;have HSP:=Lib.hid hsp;clear hsp;have hle:(Qx v1 (kk+1)).2<=4611686018427387904:=hle;have hm1:kk+1<=(Qx v1 (kk+1)).2:=Zw _ _;have HSO1:=Lib.hid so1;clear so1;have HSUB:=Lib.hid hsub;clear hsub;have HU0:Hid (Upd g (j*2) 2 ([]++SL1) wr wr):=Upd.refl _ _ _ _ _;have tok1:True:=trivial;have tok2:True:=trivial;go_wp2_with (first | (go_at_call 44;have tk:=tok1;clear tok1;refine (Ug _ _ (kk) (by omega) (by omega) (by omega)).mono ?_;rintro e w1 ⟨rfl,hb⟩;have hz:=hb.size;have c1:=λo=>Z0 hb g o (by go_size);have f1:=λo=>Kl hb g o (by go_size);have HU1:Hid (Upd g (j*2) 2 ([]++SL1) wr w1):=Upd.below (by repeat (first | (with_reducible exact HU0.out) | (with_reducible refine Upd.setCell ?_ _ (by omega) _))) hb (by go_size);(try simp only[zSm] at hz);have HB1:=Lib.hid hb;clear hb) | (go_at_call 42;have tk:=tok2;clear tok2;refine Vh (N0 _ _ v1 SL1 _ (kk+1) (by omega) (by omega) (by omega) (by repeat (first | (with_reducible exact HSO1.out) | (refine X5 ?_ (λhm=>hgLi (zD.2 (.inr hm)))) | (with_reducible refine Ku ?_ HB1.out)))) ?_;intro w2 ho2 hch hz;have c2:=λo=>hch.cell (b:=g) (by go_size) (λhm=>hgLi (zD.2 (.inr hm))) o;have f2:=λo=>hch.frozen (b:=g) (by go_size) (λhm=>hgLi (zD.2 (.inr hm))) o;have HU2:Hid (Upd g (j*2) 2 ([]++SL1) wr w2):=Upd.mark (by repeat (first | (with_reducible exact HU1.out) | (with_reducible refine Upd.setCell ?_ _ (by omega) _))) hch (λb hm=>(zD.2 (.inr hm))) (λhm=>hgLi (zD.2 (.inr hm))) (by go_size);(try simp only[zSm] at hz);have HB2:=Lib.hid hch;clear hch;have HM2:=Lib.hid ho2;clear ho2))
    go_roundw
    case measure=>simp[intOf];omega
    case rel=>
     refine ⟨j+1,by omega,by go_num, ?_, ?_, ?_⟩
     . show Value.int _ _=_;rw[HSP.out];show Value.int .i64 _= .int .i64 (((Qx v1 (kk+1)).2:Nat):Int);first | go_num | (congr 1<;>omega)
     . show own _ _ _ _;rw[HSP.out];simp only[zQ,List.singleton_append];refine HSH.out _ [.string (Gc (kk)),.slice oa1 v1.length cp1] _ (by repeat (first | (with_reducible exact HU2.out) | (with_reducible refine Upd.setCell ?_ _ (by omega) _))) (X0 (Pj _ (Db (by omega))) (show own SL1 _ [.slice oa1 v1.length cp1] (Qx v1 (kk+1)).1 by repeat (first | (with_reducible exact HM2.out) | (refine X5 ?_ (λhm=>hgLi (zD.2 (.inr hm)))))) (λx hx hy=>(zE.1 nd1).2.2 x hx x hy rfl)) ?_;intro q u hq
       match q,hq with
       | 0,hq=>obtain rfl:=(zF hq);simp[go_sem, *]
       | 1,hq=>obtain rfl:=(zF hq);simp[go_sem, *]
       | q+2,hq=>simp at hq
     exact HC.out.trans (((by repeat (first | (with_reducible exact HU2.out) | (with_reducible refine Upd.setCell ?_ _ (by omega) _))):Upd g (j*2) 2 ([]++SL1) wr _).chg.mono (λb hb=>(zJ.1 hb).elim (λe=>e▸hgL) (HSUB.out b)))
  obtain rfl:j=l.length:=by omega
  have how:=HW.out;have hch:=HC.out;rw[zH,List.drop_length,zY] at how;rw[zH] at*;have HW2:=Lib.hid how;have HC2:=Lib.hid hch;clear how hch;go_wp2
  go_ret
  exact ⟨rfl,HW2.out,HC2.out⟩
theorem EK (w:World) (ca:List Value) (a:Xj) (L:List Nat) (K:Int) (k:Nat) (hK:K=k) (h1:1<=k) (hk:(GoD.markT a k).2<=4611686018427387904) (ho:own L w ca a):Calls Tryz.prog 39 #[.agg ca.toArray,.int .i64 K] w (Mf L w ca (GoD.markT a k)):=by
 subst hK;obtain ⟨b1,b2,b3⟩:=a;have hk:(Qx b3 ((Qx b2 ((GoD.markT b1 (k)).2)).2)).2<=4611686018427387904:=hk;have hlt:=GoD.own_lt ho;obtain ⟨nd0,_,_,SL0,_,rfl,rfl,so0,⟨nd1,_,_,SL1,SL2,rfl,rfl,so1,so2⟩⟩:=ho;obtain ⟨ax0_0,ax0_1,ax0_2,rfl⟩:=SM (show _=3 from GoD.rd_len (GoD.own_rd so0));have HSO0:=Lib.hid so0;clear so0;have hm0:k<=(GoD.markT b1 (k)).2:=GoD.mkT_le _ _;obtain ⟨ax1_0,rfl⟩:=Bf (show _=1 from GoD.rd_len (GoD.own_rd so1));have HSO1:=Lib.hid so1;clear so1;have hm1:(GoD.markT b1 (k)).2<=(Qx b2 ((GoD.markT b1 (k)).2)).2:=Zw _ _;obtain ⟨ax2_0,rfl⟩:=Bf (show _=1 from GoD.rd_len (GoD.own_rd so2));have HSO2:=Lib.hid so2;clear so2;have hm2:(Qx b2 ((GoD.markT b1 (k)).2)).2<=(Qx b3 ((Qx b2 ((GoD.markT b1 (k)).2)).2)).2:=Zw _ _;show Calls Tryz.prog 39 #[.agg #[ax0_0,ax0_1,ax0_2,ax1_0,ax2_0],.int .i64 (k:Int)] w (Mf (SL0++(SL1++SL2)) w [ax0_0,ax0_1,ax0_2,ax1_0,ax2_0] (GoD.markT ((b1,b2,b3):Xj) k));have HLT:=Lib.hid hlt;clear hlt;have tok1:True:=trivial;have tok2:True:=trivial;have tok3:True:=trivial;go_enter Tryz.func39,Tryz.ntmps39
 go_wp2_with (first | (go_at_call 46;have tk:=tok1;clear tok1;refine Vh (UN _ [ax0_0,ax0_1,ax0_2] b1 SL0 _ (k) (by omega) (by omega) (show (GoD.markT b1 (k)).2<=4611686018427387904 by omega) (by repeat (first | (with_reducible exact HSO0.out) | (refine Y6 ?_)))) ?_;intro w1 ho1 hch hz;have c1:=λo=>hch.cell (b:=w.heap.size) (by go_size) (λhm=>by have:=HLT.out _ (zD.2 (.inl hm));omega) o;(try simp only[zSm] at hz);have HB1:=Lib.hid hch;clear hch;have HM1:=Lib.hid ho1;clear ho1) | (go_at_call 47;have tk:=tok2;clear tok2;refine Vh (YU _ ax1_0 b2 SL1 _ ((GoD.markT b1 (k)).2) (by omega) (by omega) (show (Qx b2 ((GoD.markT b1 (k)).2)).2<=4611686018427387904 by omega) (by repeat (first | (with_reducible exact HSO1.out) | (refine Y6 ?_) | (refine Kv ?_ HB1.out (λb hb1 hb2=>(zE.1 nd0).2.2 _ hb2 _ (zD.2 (.inl hb1)) rfl))))) ?_;intro w2 ho2 hch hz;have c2:=λo=>hch.cell (b:=w.heap.size) (by go_size) (λhm=>by have:=HLT.out _ (zD.2 (.inr (zD.2 (.inl hm))));omega) o;(try simp only[zSm] at hz);have HB2:=Lib.hid hch;clear hch;have HM2:=Lib.hid ho2;clear ho2) | (go_at_call 81;have tk:=tok3;clear tok3;refine Vh (EJ _ ax2_0 b3 SL2 _ ((Qx b2 ((GoD.markT b1 (k)).2)).2) (by omega) (by omega) (show (Qx b3 ((Qx b2 ((GoD.markT b1 (k)).2)).2)).2<=4611686018427387904 by omega) (by repeat (first | (with_reducible exact HSO2.out) | (refine Y6 ?_) | (refine Kv ?_ HB2.out (λb hb1 hb2=>(zE.1 nd1).2.2 _ hb2 _ hb1 rfl)) | (refine Kv ?_ HB1.out (λb hb1 hb2=>(zE.1 nd0).2.2 _ hb2 _ (zD.2 (.inr hb1)) rfl))))) ?_;intro w3 ho3 hch hz;have c3:=λo=>hch.cell (b:=w.heap.size) (by go_size) (λhm=>by have:=HLT.out _ (zD.2 (.inr (zD.2 (.inr hm))));omega) o;(try simp only[zSm] at hz);have HB3:=Lib.hid hch;clear hch;have HM3:=Lib.hid ho3;clear ho3))
 go_ret
 refine ⟨rfl, ?_, ?_⟩
 . show own (SL0++(SL1++SL2)) _ [ax0_0,ax0_1,ax0_2,ax1_0,ax2_0] _;exact (X0 (show own SL0 _ [ax0_0,ax0_1,ax0_2] (GoD.markT b1 (k)).1 by repeat (first | (with_reducible exact HM1.out) | (refine Y6 ?_) | (refine Kv ?_ HB3.out (λb hb1 hb2=>(zE.1 nd0).2.2 _ hb1 _ (zD.2 (.inr hb2)) rfl)) | (refine Kv ?_ HB2.out (λb hb1 hb2=>(zE.1 nd0).2.2 _ hb1 _ (zD.2 (.inl hb2)) rfl)))) (X0 (show own SL1 _ [ax1_0] (Qx b2 ((GoD.markT b1 (k)).2)).1 by repeat (first | (with_reducible exact HM2.out) | (refine Y6 ?_) | (refine Kv ?_ HB3.out (λb hb1 hb2=>(zE.1 nd1).2.2 _ hb1 _ hb2 rfl)))) (show own SL2 _ [ax2_0] (Qx b3 ((Qx b2 ((GoD.markT b1 (k)).2)).2)).1 by repeat (first | (with_reducible exact HM3.out) | (refine Y6 ?_))) (λx hx hy=>(zE.1 nd1).2.2 x hx x hy rfl)) (λx hx hy=>(zE.1 nd0).2.2 x hx x hy rfl))
 show Chg (SL0++(SL1++SL2)) w _;exact (((Chg.of_below (show Below w.heap.size w _ by go_grown)).trans (HB1.out.mono (λb hm=>(zD.2 (.inl hm))))).trans (HB2.out.mono (λb hm=>(zD.2 (.inr (zD.2 (.inl hm))))))).trans (HB3.out.mono (λb hm=>(zD.2 (.inr (zD.2 (.inr hm))))))
theorem HZ (w:World) (v:Value) (l:List Cy) (L:List Nat) (K:Int) (k:Nat) (hK:K=k) (h1:1<=k) (hk:(Qx l k).2<=4611686018427387904) (ho:own L w [v] l):Calls Tryz.prog 40 #[v,.int .i64 K] w (Mf L w [v] (Qx l k)):=by
 subst hK;obtain ⟨oa,cap,rfl⟩:=Yd ho;have hlm:l.length<=9223372036854775807:=Ba ho;have HO:=Lib.hid ho;clear ho;go_enter Tryz.func40,Tryz.ntmps40
 go_wp2
 go_loopw [1,5] (mI L w oa cap l k) (λ_ i _=>l.length-(intOf i).toNat)
 case atStart=>exact ⟨0,zZ _,rfl,rfl,HO.out,Chg.refl _ _⟩
 case round=>
  obtain ⟨j,hj,rfl,rfl,HW,HC⟩:=hrel;by_cases hjl:j<l.length
  . have hx:=zL hjl;have hsp:=Vy l k j _ hx;have hle:=yB (K4 l k j _ hx) hk;have hdr:=zM hjl;have hxl:=Qd3 hjl k;have hkk:k<=(Qx (l.take j) k).2:=Zw _ _;have how:=HW.out;rw[hdr] at how;clear hx hdr HW;generalize (Qx (l.take j) k).2=kk at*;generalize (Qx (l.take j) k).1=xs at*;generalize l[j]=x at*;obtain ⟨g,cap',cur,e,Li,hv,hg,hroom,hgLi,hgL,hsub,hoe,hshut⟩:=Fe how;simp only[Value.slice.injEq] at hv;obtain ⟨rfl,hq0,rfl⟩:=hv;clear hq0;rw[hxl] at hroom hoe hshut;clear hxl;rw[show GoD.n Cy=6 from rfl] at hroom hoe hshut;generalize hce:(cur.toList.drop (j*6)).take 6=ce at*;obtain ⟨v0,⟨⟨v1,v2,v3⟩,v4⟩,v5⟩:=x;obtain ⟨nd5,_,_,_,_,rfl,rfl,⟨rfl,rfl,h0⟩,⟨nd4,_,_,_,_,rfl,rfl,⟨nd3,_,_,_,SL4,rfl,rfl,⟨nd2,_,_,SL1,_,rfl,rfl,so1,⟨nd1,_,_,SL2,_,rfl,rfl,so2,⟨rfl,rfl,h3⟩⟩⟩,so4⟩,⟨rfl,rfl,h5⟩⟩⟩:=hoe;obtain ⟨sv1,rfl⟩:=Bf (show _=1 from GoD.rd_len (GoD.own_rd so1));obtain ⟨oa1,cp1,rfl⟩:=Yd so1;obtain ⟨sv2,rfl⟩:=Bf (show _=1 from GoD.rd_len (GoD.own_rd so2));obtain ⟨oa2,cp2,rfl⟩:=Yd so2;obtain ⟨sv4,rfl⟩:=Bf (show _=1 from GoD.rd_len (GoD.own_rd so4));obtain ⟨oa4,cp4,rfl⟩:=Yd so4;have p0:wr.cell? ⟨g,j*6,none⟩=some _:=Zy hg hce 0 _ rfl;have p1:wr.cell? ⟨g,j*6+1,none⟩=some _:=Zy hg hce 1 _ rfl;have p2:wr.cell? ⟨g,j*6+2,none⟩=some _:=Zy hg hce 2 _ rfl;have p3:wr.cell? ⟨g,j*6+3,none⟩=some _:=Zy hg hce 3 _ rfl;have p4:wr.cell? ⟨g,j*6+4,none⟩=some _:=Zy hg hce 4 _ rfl;have p5:wr.cell? ⟨g,j*6+5,none⟩=some _:=Zy hg hce 5 _ rfl;have fz:=Jc hg;have hglt:=Q7 hg;clear hce hg how;have HSH:=Lib.hid hshut;clear hshut;have HSP:=Lib.hid hsp;clear hsp;have hle:(Qx v4 ((Qx v2 ((Qx v1 (kk+1)).2)).2+1)).2+1<=4611686018427387904:=hle;have hm1:kk+1<=(Qx v1 (kk+1)).2:=Zw _ _;have hm2:(Qx v1 (kk+1)).2<=(Qx v2 ((Qx v1 (kk+1)).2)).2:=Zw _ _;have hm4:(Qx v2 ((Qx v1 (kk+1)).2)).2+1<=(Qx v4 ((Qx v2 ((Qx v1 (kk+1)).2)).2+1)).2:=Zw _ _;have HSO1:=Lib.hid so1;clear so1;have HSO2:=Lib.hid so2;clear so2;have HSO4:=Lib.hid so4;clear so4;have HSUB:=Lib.hid hsub;clear hsub;have HU0:Hid (Upd g (j*6) 6 ([]++(((SL1++(SL2++ []))++SL4)++ [])) wr wr):=Upd.refl _ _ _ _ _;have tok1:True:=trivial;have tok2:True:=trivial;have tok3:True:=trivial
    go_wp2_with (first | (go_at_call 82;have tk:=tok1;clear tok1;refine Vh (ZO _ _ v1 SL1 _ (kk+1) (by omega) (by omega) (by omega) (by repeat (first | (with_reducible exact HSO1.out) | (refine X5 ?_ (λhm=>hgLi (zD.2 (.inr (zD.2 (.inl (zD.2 (.inl (zD.2 (.inl hm))))))))))))) ?_;intro w1 ho1 hch hz;have c1:=λo=>hch.cell (b:=g) (by go_size) (λhm=>hgLi (zD.2 (.inr (zD.2 (.inl (zD.2 (.inl (zD.2 (.inl hm))))))))) o;have f1:=λo=>hch.frozen (b:=g) (by go_size) (λhm=>hgLi (zD.2 (.inr (zD.2 (.inl (zD.2 (.inl (zD.2 (.inl hm))))))))) o;have HU1:Hid (Upd g (j*6) 6 ([]++(((SL1++(SL2++ []))++SL4)++ [])) wr w1):=Upd.mark (by repeat (first | (with_reducible exact HU0.out) | (with_reducible refine Upd.setCell ?_ _ (by omega) _))) hch (λb hm=>(zD.2 (.inr (zD.2 (.inl (zD.2 (.inl (zD.2 (.inl hm))))))))) (λhm=>hgLi (zD.2 (.inr (zD.2 (.inl (zD.2 (.inl (zD.2 (.inl hm))))))))) (by go_size);(try simp only[zSm] at hz);have HB1:=Lib.hid hch;clear hch;have HM1:=Lib.hid ho1;clear ho1) | (go_at_call 83;have tk:=tok2;clear tok2;refine Vh (UM _ _ v2 SL2 _ ((Qx v1 (kk+1)).2) (by omega) (by omega) (by omega) (by repeat (first | (with_reducible exact HSO2.out) | (refine X5 ?_ (λhm=>hgLi (zD.2 (.inr (zD.2 (.inl (zD.2 (.inl (zD.2 (.inr (zD.2 (.inl hm)))))))))))) | (refine Kv ?_ HB1.out (λb hb1 hb2=>(zE.1 nd2).2.2 _ hb2 _ (zD.2 (.inl hb1)) rfl))))) ?_;intro w2 ho2 hch hz;have c2:=λo=>hch.cell (b:=g) (by go_size) (λhm=>hgLi (zD.2 (.inr (zD.2 (.inl (zD.2 (.inl (zD.2 (.inr (zD.2 (.inl hm))))))))))) o;have f2:=λo=>hch.frozen (b:=g) (by go_size) (λhm=>hgLi (zD.2 (.inr (zD.2 (.inl (zD.2 (.inl (zD.2 (.inr (zD.2 (.inl hm))))))))))) o;have HU2:Hid (Upd g (j*6) 6 ([]++(((SL1++(SL2++ []))++SL4)++ [])) wr w2):=Upd.mark (by repeat (first | (with_reducible exact HU1.out) | (with_reducible refine Upd.setCell ?_ _ (by omega) _))) hch (λb hm=>(zD.2 (.inr (zD.2 (.inl (zD.2 (.inl (zD.2 (.inr (zD.2 (.inl hm))))))))))) (λhm=>hgLi (zD.2 (.inr (zD.2 (.inl (zD.2 (.inl (zD.2 (.inr (zD.2 (.inl hm))))))))))) (by go_size);(try simp only[zSm] at hz);have HB2:=Lib.hid hch;clear hch;have HM2:=Lib.hid ho2;clear ho2) | (go_at_call 47;have tk:=tok3;clear tok3;refine Vh (YU _ _ v4 SL4 _ ((Qx v2 ((Qx v1 (kk+1)).2)).2+1) (by omega) (by omega) (by omega) (by repeat (first | (with_reducible exact HSO4.out) | (refine X5 ?_ (λhm=>hgLi (zD.2 (.inr (zD.2 (.inl (zD.2 (.inr hm)))))))) | (refine Kv ?_ HB2.out (λb hb1 hb2=>(zE.1 nd3).2.2 _ (zD.2 (.inr (zD.2 (.inl hb2)))) _ hb1 rfl)) | (refine Kv ?_ HB1.out (λb hb1 hb2=>(zE.1 nd3).2.2 _ (zD.2 (.inl hb2)) _ hb1 rfl))))) ?_;intro w3 ho3 hch hz;have c3:=λo=>hch.cell (b:=g) (by go_size) (λhm=>hgLi (zD.2 (.inr (zD.2 (.inl (zD.2 (.inr hm))))))) o;have f3:=λo=>hch.frozen (b:=g) (by go_size) (λhm=>hgLi (zD.2 (.inr (zD.2 (.inl (zD.2 (.inr hm))))))) o;have HU3:Hid (Upd g (j*6) 6 ([]++(((SL1++(SL2++ []))++SL4)++ [])) wr w3):=Upd.mark (by repeat (first | (with_reducible exact HU2.out) | (with_reducible refine Upd.setCell ?_ _ (by omega) _))) hch (λb hm=>(zD.2 (.inr (zD.2 (.inl (zD.2 (.inr hm))))))) (λhm=>hgLi (zD.2 (.inr (zD.2 (.inl (zD.2 (.inr hm))))))) (by go_size);(try simp only[zSm] at hz);have HB3:=Lib.hid hch;clear hch;have HM3:=Lib.hid ho3;clear ho3))
    go_roundw
    case measure=>simp[intOf];omega
    case rel=>
     refine ⟨j+1,by omega,by go_num, ?_, ?_, ?_⟩
     . show Value.int _ _=_;rw[HSP.out];show Value.int .i64 _= .int .i64 (((Qx v4 ((Qx v2 ((Qx v1 (kk+1)).2)).2+1)).2+1:Nat):Int);first | go_num | (congr 1<;>omega)
     . show own _ _ _ _;rw[HSP.out];simp only[zQ,List.singleton_append];refine HSH.out _ [.int .i64 ((kk:Nat):Int),.slice oa1 v1.length cp1,.slice oa2 v2.length cp2,.int .i64 (((Qx v2 ((Qx v1 (kk+1)).2)).2:Nat):Int),.slice oa4 v4.length cp4,.int .i64 (((Qx v4 ((Qx v2 ((Qx v1 (kk+1)).2)).2+1)).2:Nat):Int)] _ (by repeat (first | (with_reducible exact HU3.out) | (with_reducible refine Upd.setCell ?_ _ (by omega) _))) (X0 (A5 _ (Dd (kk) (by omega))) (X0 (X0 (X0 (show own SL1 _ [.slice oa1 v1.length cp1] (Qx v1 (kk+1)).1 by repeat (first | (with_reducible exact HM1.out) | (refine X5 ?_ (λhm=>hgLi (zD.2 (.inr (zD.2 (.inl (zD.2 (.inl (zD.2 (.inl hm)))))))))) | (refine Kv ?_ HB3.out (λb hb1 hb2=>(zE.1 nd3).2.2 _ (zD.2 (.inl hb1)) _ hb2 rfl)) | (refine Kv ?_ HB2.out (λb hb1 hb2=>(zE.1 nd2).2.2 _ hb1 _ (zD.2 (.inl hb2)) rfl)))) (X0 (show own SL2 _ [.slice oa2 v2.length cp2] (Qx v2 ((Qx v1 (kk+1)).2)).1 by repeat (first | (with_reducible exact HM2.out) | (refine X5 ?_ (λhm=>hgLi (zD.2 (.inr (zD.2 (.inl (zD.2 (.inl (zD.2 (.inr (zD.2 (.inl hm)))))))))))) | (refine Kv ?_ HB3.out (λb hb1 hb2=>(zE.1 nd3).2.2 _ (zD.2 (.inr (zD.2 (.inl hb1)))) _ hb2 rfl)))) (A5 _ (Dd ((Qx v2 ((Qx v1 (kk+1)).2)).2) (by omega))) (λx hx hy=>(zE.1 nd1).2.2 x hx x hy rfl)) (λx hx hy=>(zE.1 nd2).2.2 x hx x hy rfl)) (show own SL4 _ [.slice oa4 v4.length cp4] (Qx v4 ((Qx v2 ((Qx v1 (kk+1)).2)).2+1)).1 by repeat (first | (with_reducible exact HM3.out) | (refine X5 ?_ (λhm=>hgLi (zD.2 (.inr (zD.2 (.inl (zD.2 (.inr hm)))))))))) (λx hx hy=>(zE.1 nd3).2.2 x hx x hy rfl)) (A5 _ (Dd ((Qx v4 ((Qx v2 ((Qx v1 (kk+1)).2)).2+1)).2) (by omega))) (λx hx hy=>(zE.1 nd4).2.2 x hx x hy rfl)) (λx hx hy=>(zE.1 nd5).2.2 x hx x hy rfl)) ?_;intro q u hq
       match q,hq with
       | 0,hq=>obtain rfl:=(zF hq);simp[go_sem, *]
       | 1,hq=>obtain rfl:=(zF hq);simp[go_sem, *]
       | 2,hq=>obtain rfl:=(zF hq);simp[go_sem, *]
       | 3,hq=>obtain rfl:=(zF hq);simp[go_sem, *]
       | 4,hq=>obtain rfl:=(zF hq);simp[go_sem, *]
       | 5,hq=>obtain rfl:=(zF hq);simp[go_sem, *]
       | q+6,hq=>simp at hq
     exact HC.out.trans (((by repeat (first | (with_reducible exact HU3.out) | (with_reducible refine Upd.setCell ?_ _ (by omega) _))):Upd g (j*6) 6 ([]++(((SL1++(SL2++ []))++SL4)++ [])) wr _).chg.mono (λb hb=>(zJ.1 hb).elim (λe=>e▸hgL) (HSUB.out b)))
  obtain rfl:j=l.length:=by omega
  have how:=HW.out;have hch:=HC.out;rw[zH,List.drop_length,zY] at how;rw[zH] at*;have HW2:=Lib.hid how;have HC2:=Lib.hid hch;clear how hch;go_wp2
  go_ret
  exact ⟨rfl,HW2.out,HC2.out⟩
theorem IM (w:World) (v:Value) (l:List Nn) (L:List Nat) (K:Int) (k:Nat) (hK:K=k) (h1:1<=k) (hk:(Qx l k).2<=4611686018427387904) (ho:own L w [v] l):Calls Tryz.prog 41 #[v,.int .i64 K] w (Mf L w [v] (Qx l k)):=by
 subst hK;obtain ⟨oa,cap,rfl⟩:=Yd ho;have hlm:l.length<=9223372036854775807:=Ba ho;have HO:=Lib.hid ho;clear ho;go_enter Tryz.func41,Tryz.ntmps41
 go_wp2
 go_loopw [1,5] (mI L w oa cap l k) (λ_ i _=>l.length-(intOf i).toNat)
 case atStart=>exact ⟨0,zZ _,rfl,rfl,HO.out,Chg.refl _ _⟩
 case round=>
  obtain ⟨j,hj,rfl,rfl,HW,HC⟩:=hrel;by_cases hjl:j<l.length
  . have hx:=zL hjl;have hsp:=Vy l k j _ hx;have hle:=yB (K4 l k j _ hx) hk;have hdr:=zM hjl;have hxl:=Qd3 hjl k;have hkk:k<=(Qx (l.take j) k).2:=Zw _ _;have how:=HW.out;rw[hdr] at how;clear hx hdr HW;generalize (Qx (l.take j) k).2=kk at*;generalize (Qx (l.take j) k).1=xs at*;generalize l[j]=x at*;obtain ⟨g,cap',cur,e,Li,hv,hg,hroom,hgLi,hgL,hsub,hoe,hshut⟩:=Fe how;simp only[Value.slice.injEq] at hv;obtain ⟨rfl,hq0,rfl⟩:=hv;clear hq0;rw[hxl] at hroom hoe hshut;clear hxl;rw[show GoD.n Nn=4 from rfl] at hroom hoe hshut;generalize hce:(cur.toList.drop (j*4)).take 4=ce at*;obtain ⟨v0,v1,v2,v3⟩:=x;obtain ⟨nd3,_,_,_,_,rfl,rfl,⟨rfl,rfl,h0⟩,⟨nd2,_,_,_,_,rfl,rfl,⟨rfl,rfl,h1⟩,⟨nd1,_,_,SL2,SL3,rfl,rfl,so2,so3⟩⟩⟩:=hoe;obtain ⟨sv2,rfl⟩:=Bf (show _=1 from GoD.rd_len (GoD.own_rd so2));obtain ⟨oa2,cp2,rfl⟩:=Yd so2;obtain ⟨sv3,rfl⟩:=Bf (show _=1 from GoD.rd_len (GoD.own_rd so3));obtain ⟨oa3,cp3,rfl⟩:=Yd so3;have p0:wr.cell? ⟨g,j*4,none⟩=some _:=Zy hg hce 0 _ rfl;have p1:wr.cell? ⟨g,j*4+1,none⟩=some _:=Zy hg hce 1 _ rfl;have p2:wr.cell? ⟨g,j*4+2,none⟩=some _:=Zy hg hce 2 _ rfl;have p3:wr.cell? ⟨g,j*4+3,none⟩=some _:=Zy hg hce 3 _ rfl;have fz:=Jc hg;have hglt:=Q7 hg;clear hce hg how;have HSH:=Lib.hid hshut;clear hshut;have HSP:=Lib.hid hsp;clear hsp;have hle:(Qx v3 ((Qx v2 (kk+1+1)).2)).2<=4611686018427387904:=hle;have hm2:kk+1+1<=(Qx v2 (kk+1+1)).2:=Zw _ _;have hm3:(Qx v2 (kk+1+1)).2<=(Qx v3 ((Qx v2 (kk+1+1)).2)).2:=Zw _ _;have HSO2:=Lib.hid so2;clear so2;have HSO3:=Lib.hid so3;clear so3;have HSUB:=Lib.hid hsub;clear hsub;have HU0:Hid (Upd g (j*4) 4 ([]++([]++(SL2++SL3))) wr wr):=Upd.refl _ _ _ _ _;have tok1:True:=trivial;have tok2:True:=trivial;have tok3:True:=trivial;go_wp2_with (first | (go_at_call 44;have tk:=tok1;clear tok1;refine (Ug _ _ (kk+1) (by omega) (by omega) (by omega)).mono ?_;rintro e w1 ⟨rfl,hb⟩;have hz:=hb.size;have c1:=λo=>Z0 hb g o (by go_size);have f1:=λo=>Kl hb g o (by go_size);have HU1:Hid (Upd g (j*4) 4 ([]++([]++(SL2++SL3))) wr w1):=Upd.below (by repeat (first | (with_reducible exact HU0.out) | (with_reducible refine Upd.setCell ?_ _ (by omega) _))) hb (by go_size);(try simp only[zSm] at hz);have HB1:=Lib.hid hb;clear hb) | (go_at_call 42;have tk:=tok2;clear tok2;refine Vh (N0 _ _ v2 SL2 _ (kk+1+1) (by omega) (by omega) (by omega) (by repeat (first | (with_reducible exact HSO2.out) | (refine X5 ?_ (λhm=>hgLi (zD.2 (.inr (zD.2 (.inr (zD.2 (.inl hm)))))))) | (with_reducible refine Ku ?_ HB1.out)))) ?_;intro w2 ho2 hch hz;have c2:=λo=>hch.cell (b:=g) (by go_size) (λhm=>hgLi (zD.2 (.inr (zD.2 (.inr (zD.2 (.inl hm))))))) o;have f2:=λo=>hch.frozen (b:=g) (by go_size) (λhm=>hgLi (zD.2 (.inr (zD.2 (.inr (zD.2 (.inl hm))))))) o;have HU2:Hid (Upd g (j*4) 4 ([]++([]++(SL2++SL3))) wr w2):=Upd.mark (by repeat (first | (with_reducible exact HU1.out) | (with_reducible refine Upd.setCell ?_ _ (by omega) _))) hch (λb hm=>(zD.2 (.inr (zD.2 (.inr (zD.2 (.inl hm))))))) (λhm=>hgLi (zD.2 (.inr (zD.2 (.inr (zD.2 (.inl hm))))))) (by go_size);(try simp only[zSm] at hz);have HB2:=Lib.hid hch;clear hch;have HM2:=Lib.hid ho2;clear ho2) | (go_at_call 84;have tk:=tok3;clear tok3;refine Vh (IL _ _ v3 SL3 _ ((Qx v2 (kk+1+1)).2) (by omega) (by omega) (by omega) (by repeat (first | (with_reducible exact HSO3.out) | (refine X5 ?_ (λhm=>hgLi (zD.2 (.inr (zD.2 (.inr (zD.2 (.inr hm)))))))) | (refine Kv ?_ HB2.out (λb hb1 hb2=>(zE.1 nd1).2.2 _ hb2 _ hb1 rfl)) | (with_reducible refine Ku ?_ HB1.out)))) ?_;intro w3 ho3 hch hz;have c3:=λo=>hch.cell (b:=g) (by go_size) (λhm=>hgLi (zD.2 (.inr (zD.2 (.inr (zD.2 (.inr hm))))))) o;have f3:=λo=>hch.frozen (b:=g) (by go_size) (λhm=>hgLi (zD.2 (.inr (zD.2 (.inr (zD.2 (.inr hm))))))) o;have HU3:Hid (Upd g (j*4) 4 ([]++([]++(SL2++SL3))) wr w3):=Upd.mark (by repeat (first | (with_reducible exact HU2.out) | (with_reducible refine Upd.setCell ?_ _ (by omega) _))) hch (λb hm=>(zD.2 (.inr (zD.2 (.inr (zD.2 (.inr hm))))))) (λhm=>hgLi (zD.2 (.inr (zD.2 (.inr (zD.2 (.inr hm))))))) (by go_size);(try simp only[zSm] at hz);have HB3:=Lib.hid hch;clear hch;have HM3:=Lib.hid ho3;clear ho3))
    go_roundw
    case measure=>simp[intOf];omega
    case rel=>
     refine ⟨j+1,by omega,by go_num, ?_, ?_, ?_⟩
     . show Value.int _ _=_;rw[HSP.out];show Value.int .i64 _= .int .i64 (((Qx v3 ((Qx v2 (kk+1+1)).2)).2:Nat):Int);first | go_num | (congr 1<;>omega)
     . show own _ _ _ _;rw[HSP.out];simp only[zQ,List.singleton_append];refine HSH.out _ [.int .i64 ((kk:Nat):Int),.string (Gc (kk+1)),.slice oa2 v2.length cp2,.slice oa3 v3.length cp3] _ (by repeat (first | (with_reducible exact HU3.out) | (with_reducible refine Upd.setCell ?_ _ (by omega) _))) (X0 (A5 _ (Dd (kk) (by omega))) (X0 (Pj _ (Db (by omega))) (X0 (show own SL2 _ [.slice oa2 v2.length cp2] (Qx v2 (kk+1+1)).1 by repeat (first | (with_reducible exact HM2.out) | (refine X5 ?_ (λhm=>hgLi (zD.2 (.inr (zD.2 (.inr (zD.2 (.inl hm)))))))) | (refine Kv ?_ HB3.out (λb hb1 hb2=>(zE.1 nd1).2.2 _ hb1 _ hb2 rfl)))) (show own SL3 _ [.slice oa3 v3.length cp3] (Qx v3 ((Qx v2 (kk+1+1)).2)).1 by repeat (first | (with_reducible exact HM3.out) | (refine X5 ?_ (λhm=>hgLi (zD.2 (.inr (zD.2 (.inr (zD.2 (.inr hm)))))))))) (λx hx hy=>(zE.1 nd1).2.2 x hx x hy rfl)) (λx hx hy=>(zE.1 nd2).2.2 x hx x hy rfl)) (λx hx hy=>(zE.1 nd3).2.2 x hx x hy rfl)) ?_;intro q u hq
       match q,hq with
       | 0,hq=>obtain rfl:=(zF hq);simp[go_sem, *]
       | 1,hq=>obtain rfl:=(zF hq);simp[go_sem, *]
       | 2,hq=>obtain rfl:=(zF hq);simp[go_sem, *]
       | 3,hq=>obtain rfl:=(zF hq);simp[go_sem, *]
       | q+4,hq=>simp at hq
     exact HC.out.trans (((by repeat (first | (with_reducible exact HU3.out) | (with_reducible refine Upd.setCell ?_ _ (by omega) _))):Upd g (j*4) 4 ([]++([]++(SL2++SL3))) wr _).chg.mono (λb hb=>(zJ.1 hb).elim (λe=>e▸hgL) (HSUB.out b)))
  obtain rfl:j=l.length:=by omega
  have how:=HW.out;have hch:=HC.out;rw[zH,List.drop_length,zY] at how;rw[zH] at*;have HW2:=Lib.hid how;have HC2:=Lib.hid hch;clear how hch;go_wp2
  go_ret
  exact ⟨rfl,HW2.out,HC2.out⟩
theorem IN (w:World) (ca:List Value) (a:Ab) (L:List Nat) (K:Int) (k:Nat) (hK:K=k) (h1:1<=k) (hk:(GoD.markT a k).2<=4611686018427387904) (ho:own L w ca a):Calls Tryz.prog 13 #[.agg ca.toArray,.int .i64 K] w (Mf L w ca (GoD.markT a k)):=by
 subst hK;obtain ⟨b1,b2,b3,b4,b5,b6⟩:=a;have hk:(Qx b6 ((Qx b5 ((Qx b4 ((GoD.markT b1 (k)).2)).2)).2)).2<=4611686018427387904:=hk;have hlt:=GoD.own_lt ho;obtain ⟨nd0,_,_,SL0,_,rfl,rfl,so0,⟨nd1,_,_,SL1,_,rfl,rfl,so1,⟨nd2,_,_,_,_,rfl,rfl,⟨rfl,rfl,h2⟩,⟨nd3,_,_,SL3,_,rfl,rfl,so3,⟨nd4,_,_,SL4,SL5,rfl,rfl,so4,so5⟩⟩⟩⟩⟩:=ho;obtain ⟨ax0_0,ax0_1,ax0_2,ax0_3,ax0_4,rfl⟩:=Qjo (show _=5 from GoD.rd_len (GoD.own_rd so0));have HSO0:=Lib.hid so0;clear so0;have hm0:k<=(GoD.markT b1 (k)).2:=GoD.mkT_le _ _;obtain ⟨ax1_0,ax1_1,rfl⟩:=YE (show _=2 from GoD.rd_len (GoD.own_rd so1));have HSO1:=Lib.hid so1;clear so1;obtain ⟨ax3_0,rfl⟩:=Bf (show _=1 from GoD.rd_len (GoD.own_rd so3));have HSO3:=Lib.hid so3;clear so3;have hm3:(GoD.markT b1 (k)).2<=(Qx b4 ((GoD.markT b1 (k)).2)).2:=Zw _ _;obtain ⟨ax4_0,rfl⟩:=Bf (show _=1 from GoD.rd_len (GoD.own_rd so4));have HSO4:=Lib.hid so4;clear so4;have hm4:(Qx b4 ((GoD.markT b1 (k)).2)).2<=(Qx b5 ((Qx b4 ((GoD.markT b1 (k)).2)).2)).2:=Zw _ _;obtain ⟨ax5_0,rfl⟩:=Bf (show _=1 from GoD.rd_len (GoD.own_rd so5));have HSO5:=Lib.hid so5;clear so5;have hm5:(Qx b5 ((Qx b4 ((GoD.markT b1 (k)).2)).2)).2<=(Qx b6 ((Qx b5 ((Qx b4 ((GoD.markT b1 (k)).2)).2)).2)).2:=Zw _ _;show Calls Tryz.prog 13 #[.agg #[ax0_0,ax0_1,ax0_2,ax0_3,ax0_4,ax1_0,ax1_1,.int .i64 b3,ax3_0,ax4_0,ax5_0],.int .i64 (k:Int)] w (Mf (SL0++(SL1++([]++(SL3++(SL4++SL5))))) w [ax0_0,ax0_1,ax0_2,ax0_3,ax0_4,ax1_0,ax1_1,.int .i64 b3,ax3_0,ax4_0,ax5_0] (GoD.markT ((b1,b2,b3,b4,b5,b6):Ab) k));have HLT:=Lib.hid hlt;clear hlt;have tok1:True:=trivial;have tok2:True:=trivial;have tok3:True:=trivial;have tok4:True:=trivial;go_enter Tryz.func13,Tryz.ntmps13
 go_wp2_with (first | (go_at_call 39;have tk:=tok1;clear tok1;refine Vh (EK _ [ax0_0,ax0_1,ax0_2,ax0_3,ax0_4] b1 SL0 _ (k) (by omega) (by omega) (show (GoD.markT b1 (k)).2<=4611686018427387904 by omega) (by repeat (first | (with_reducible exact HSO0.out) | (refine Y6 ?_)))) ?_;intro w1 ho1 hch hz;have c1:=λo=>hch.cell (b:=w.heap.size) (by go_size) (λhm=>by have:=HLT.out _ (zD.2 (.inl hm));omega) o;(try simp only[zSm] at hz);have HB1:=Lib.hid hch;clear hch;have HM1:=Lib.hid ho1;clear ho1) | (go_at_call 40;have tk:=tok2;clear tok2;refine Vh (HZ _ ax3_0 b4 SL3 _ ((GoD.markT b1 (k)).2) (by omega) (by omega) (show (Qx b4 ((GoD.markT b1 (k)).2)).2<=4611686018427387904 by omega) (by repeat (first | (with_reducible exact HSO3.out) | (refine Y6 ?_) | (refine Kv ?_ HB1.out (λb hb1 hb2=>(zE.1 nd0).2.2 _ hb2 _ (zD.2 (.inr (zD.2 (.inr (zD.2 (.inl hb1)))))) rfl))))) ?_;intro w2 ho2 hch hz;have c2:=λo=>hch.cell (b:=w.heap.size) (by go_size) (λhm=>by have:=HLT.out _ (zD.2 (.inr (zD.2 (.inr (zD.2 (.inr (zD.2 (.inl hm))))))));omega) o;(try simp only[zSm] at hz);have HB2:=Lib.hid hch;clear hch;have HM2:=Lib.hid ho2;clear ho2) | (go_at_call 41;have tk:=tok3;clear tok3;refine Vh (IM _ ax4_0 b5 SL4 _ ((Qx b4 ((GoD.markT b1 (k)).2)).2) (by omega) (by omega) (show (Qx b5 ((Qx b4 ((GoD.markT b1 (k)).2)).2)).2<=4611686018427387904 by omega) (by repeat (first | (with_reducible exact HSO4.out) | (refine Y6 ?_) | (refine Kv ?_ HB2.out (λb hb1 hb2=>(zE.1 nd3).2.2 _ hb2 _ (zD.2 (.inl hb1)) rfl)) | (refine Kv ?_ HB1.out (λb hb1 hb2=>(zE.1 nd0).2.2 _ hb2 _ (zD.2 (.inr (zD.2 (.inr (zD.2 (.inr (zD.2 (.inl hb1)))))))) rfl))))) ?_;intro w3 ho3 hch hz;have c3:=λo=>hch.cell (b:=w.heap.size) (by go_size) (λhm=>by have:=HLT.out _ (zD.2 (.inr (zD.2 (.inr (zD.2 (.inr (zD.2 (.inr (zD.2 (.inl hm))))))))));omega) o;(try simp only[zSm] at hz);have HB3:=Lib.hid hch;clear hch;have HM3:=Lib.hid ho3;clear ho3) | (go_at_call 42;have tk:=tok4;clear tok4;refine Vh (N0 _ ax5_0 b6 SL5 _ ((Qx b5 ((Qx b4 ((GoD.markT b1 (k)).2)).2)).2) (by omega) (by omega) (show (Qx b6 ((Qx b5 ((Qx b4 ((GoD.markT b1 (k)).2)).2)).2)).2<=4611686018427387904 by omega) (by repeat (first | (with_reducible exact HSO5.out) | (refine Y6 ?_) | (refine Kv ?_ HB3.out (λb hb1 hb2=>(zE.1 nd4).2.2 _ hb2 _ hb1 rfl)) | (refine Kv ?_ HB2.out (λb hb1 hb2=>(zE.1 nd3).2.2 _ hb2 _ (zD.2 (.inr hb1)) rfl)) | (refine Kv ?_ HB1.out (λb hb1 hb2=>(zE.1 nd0).2.2 _ hb2 _ (zD.2 (.inr (zD.2 (.inr (zD.2 (.inr (zD.2 (.inr hb1)))))))) rfl))))) ?_;intro w4 ho4 hch hz;have c4:=λo=>hch.cell (b:=w.heap.size) (by go_size) (λhm=>by have:=HLT.out _ (zD.2 (.inr (zD.2 (.inr (zD.2 (.inr (zD.2 (.inr (zD.2 (.inr hm))))))))));omega) o;(try simp only[zSm] at hz);have HB4:=Lib.hid hch;clear hch;have HM4:=Lib.hid ho4;clear ho4))
 go_ret
 refine ⟨rfl, ?_, ?_⟩
 . show own (SL0++(SL1++([]++(SL3++(SL4++SL5))))) _ [ax0_0,ax0_1,ax0_2,ax0_3,ax0_4,ax1_0,ax1_1,.int .i64 b3,ax3_0,ax4_0,ax5_0] _;exact (X0 (show own SL0 _ [ax0_0,ax0_1,ax0_2,ax0_3,ax0_4] (GoD.markT b1 (k)).1 by repeat (first | (with_reducible exact HM1.out) | (refine Y6 ?_) | (refine Kv ?_ HB4.out (λb hb1 hb2=>(zE.1 nd0).2.2 _ hb1 _ (zD.2 (.inr (zD.2 (.inr (zD.2 (.inr (zD.2 (.inr hb2)))))))) rfl)) | (refine Kv ?_ HB3.out (λb hb1 hb2=>(zE.1 nd0).2.2 _ hb1 _ (zD.2 (.inr (zD.2 (.inr (zD.2 (.inr (zD.2 (.inl hb2)))))))) rfl)) | (refine Kv ?_ HB2.out (λb hb1 hb2=>(zE.1 nd0).2.2 _ hb1 _ (zD.2 (.inr (zD.2 (.inr (zD.2 (.inl hb2)))))) rfl)))) (X0 (show own SL1 _ [ax1_0,ax1_1] b2 by repeat (first | (with_reducible exact HSO1.out) | (refine Y6 ?_) | (refine Kv ?_ HB4.out (λb hb1 hb2=>(zE.1 nd1).2.2 _ hb1 _ (zD.2 (.inr (zD.2 (.inr (zD.2 (.inr hb2)))))) rfl)) | (refine Kv ?_ HB3.out (λb hb1 hb2=>(zE.1 nd1).2.2 _ hb1 _ (zD.2 (.inr (zD.2 (.inr (zD.2 (.inl hb2)))))) rfl)) | (refine Kv ?_ HB2.out (λb hb1 hb2=>(zE.1 nd1).2.2 _ hb1 _ (zD.2 (.inr (zD.2 (.inl hb2)))) rfl)) | (refine Kv ?_ HB1.out (λb hb1 hb2=>(zE.1 nd0).2.2 _ hb2 _ (zD.2 (.inl hb1)) rfl)))) (X0 (A5 _ h2) (X0 (show own SL3 _ [ax3_0] (Qx b4 ((GoD.markT b1 (k)).2)).1 by repeat (first | (with_reducible exact HM2.out) | (refine Y6 ?_) | (refine Kv ?_ HB4.out (λb hb1 hb2=>(zE.1 nd3).2.2 _ hb1 _ (zD.2 (.inr hb2)) rfl)) | (refine Kv ?_ HB3.out (λb hb1 hb2=>(zE.1 nd3).2.2 _ hb1 _ (zD.2 (.inl hb2)) rfl)))) (X0 (show own SL4 _ [ax4_0] (Qx b5 ((Qx b4 ((GoD.markT b1 (k)).2)).2)).1 by repeat (first | (with_reducible exact HM3.out) | (refine Y6 ?_) | (refine Kv ?_ HB4.out (λb hb1 hb2=>(zE.1 nd4).2.2 _ hb1 _ hb2 rfl)))) (show own SL5 _ [ax5_0] (Qx b6 ((Qx b5 ((Qx b4 ((GoD.markT b1 (k)).2)).2)).2)).1 by repeat (first | (with_reducible exact HM4.out) | (refine Y6 ?_))) (λx hx hy=>(zE.1 nd4).2.2 x hx x hy rfl)) (λx hx hy=>(zE.1 nd3).2.2 x hx x hy rfl)) (λx hx hy=>(zE.1 nd2).2.2 x hx x hy rfl)) (λx hx hy=>(zE.1 nd1).2.2 x hx x hy rfl)) (λx hx hy=>(zE.1 nd0).2.2 x hx x hy rfl))
 show Chg (SL0++(SL1++([]++(SL3++(SL4++SL5))))) w _;exact ((((Chg.of_below (show Below w.heap.size w _ by go_grown)).trans (HB1.out.mono (λb hm=>(zD.2 (.inl hm))))).trans (HB2.out.mono (λb hm=>(zD.2 (.inr (zD.2 (.inr (zD.2 (.inr (zD.2 (.inl hm))))))))))).trans (HB3.out.mono (λb hm=>(zD.2 (.inr (zD.2 (.inr (zD.2 (.inr (zD.2 (.inr (zD.2 (.inl hm))))))))))))).trans (HB4.out.mono (λb hm=>(zD.2 (.inr (zD.2 (.inr (zD.2 (.inr (zD.2 (.inr (zD.2 (.inr hm))))))))))))
theorem EL (w:World) (v:Value) (l:List Kf) (L:List Nat) (K:Int) (k:Nat) (hK:K=k) (h1:1<=k) (hk:(Qx l k).2<=4611686018427387904) (ho:own L w [v] l):Calls Tryz.prog 14 #[v,.int .i64 K] w (Mf L w [v] (Qx l k)):=by
 subst hK;obtain ⟨oa,cap,rfl⟩:=Yd ho;have hlm:l.length<=9223372036854775807:=Ba ho;have HO:=Lib.hid ho;clear ho;go_enter Tryz.func14,Tryz.ntmps14
 go_wp2
 go_loopw [1,5] (mI L w oa cap l k) (λ_ i _=>l.length-(intOf i).toNat)
 case atStart=>exact ⟨0,zZ _,rfl,rfl,HO.out,Chg.refl _ _⟩
 case round=>
  obtain ⟨j,hj,rfl,rfl,HW,HC⟩:=hrel;by_cases hjl:j<l.length
  . have hx:=zL hjl;have hsp:=Vy l k j _ hx;have hle:=yB (K4 l k j _ hx) hk;have hdr:=zM hjl;have hxl:=Qd3 hjl k;have hkk:k<=(Qx (l.take j) k).2:=Zw _ _;have how:=HW.out;rw[hdr] at how;clear hx hdr HW;generalize (Qx (l.take j) k).2=kk at*;generalize (Qx (l.take j) k).1=xs at*;generalize l[j]=x at*;obtain ⟨g,cap',cur,e,Li,hv,hg,hroom,hgLi,hgL,hsub,hoe,hshut⟩:=Fe how;simp only[Value.slice.injEq] at hv;obtain ⟨rfl,hq0,rfl⟩:=hv;clear hq0;rw[hxl] at hroom hoe hshut;clear hxl;rw[show GoD.n Kf=9 from rfl] at hroom hoe hshut;generalize hce:(cur.toList.drop (j*9)).take 9=ce at*;obtain ⟨v0,⟨v1,v2,v3,v4,v5⟩,v6,⟨v7,v8⟩⟩:=x;obtain ⟨nd8,_,_,_,_,rfl,rfl,⟨rfl,rfl,h0⟩,⟨nd7,_,_,_,_,rfl,rfl,⟨nd4,_,_,_,_,rfl,rfl,⟨rfl,rfl,h1⟩,⟨nd3,_,_,_,_,rfl,rfl,⟨rfl,rfl,h2⟩,⟨nd2,_,_,_,_,rfl,rfl,⟨rfl,rfl⟩,⟨nd1,_,_,_,SL5,rfl,rfl,⟨rfl,rfl,h4⟩,so5⟩⟩⟩⟩,⟨nd6,_,_,_,_,rfl,rfl,⟨rfl,rfl,h6⟩,⟨nd5,_,_,_,SL8,rfl,rfl,⟨rfl,rfl,h7⟩,so8⟩⟩⟩⟩:=hoe;obtain ⟨sv5,rfl⟩:=Bf (show _=1 from GoD.rd_len (GoD.own_rd so5));obtain ⟨oa5,cp5,rfl⟩:=Yd so5;obtain ⟨sv8,rfl⟩:=Bf (show _=1 from GoD.rd_len (GoD.own_rd so8));obtain ⟨oa8,cp8,rfl⟩:=Yd so8;have p0:wr.cell? ⟨g,j*9,none⟩=some _:=Zy hg hce 0 _ rfl;have p1:wr.cell? ⟨g,j*9+1,none⟩=some _:=Zy hg hce 1 _ rfl;have p2:wr.cell? ⟨g,j*9+2,none⟩=some _:=Zy hg hce 2 _ rfl;have p3:wr.cell? ⟨g,j*9+3,none⟩=some _:=Zy hg hce 3 _ rfl;have p4:wr.cell? ⟨g,j*9+4,none⟩=some _:=Zy hg hce 4 _ rfl;have p5:wr.cell? ⟨g,j*9+5,none⟩=some _:=Zy hg hce 5 _ rfl;have p6:wr.cell? ⟨g,j*9+6,none⟩=some _:=Zy hg hce 6 _ rfl;have p7:wr.cell? ⟨g,j*9+7,none⟩=some _:=Zy hg hce 7 _ rfl;have p8:wr.cell? ⟨g,j*9+8,none⟩=some _:=Zy hg hce 8 _ rfl;have fz:=Jc hg;have hglt:=Q7 hg;clear hce hg how;have HSH:=Lib.hid hshut;clear hshut;have HSP:=Lib.hid hsp;clear hsp;have hle:(Qx v8 ((Qx v5 (kk+1+1+1+1+1)).2+1+1)).2<=4611686018427387904:=hle;have hb3:=LY (kk+1+1+1) _ (show ((kk:Int)+1+1+1:Int)=((kk+1+1+1:Nat):Int) by omega);have hm5:kk+1+1+1+1+1<=(Qx v5 (kk+1+1+1+1+1)).2:=Zw _ _;have hm8:(Qx v5 (kk+1+1+1+1+1)).2+1+1<=(Qx v8 ((Qx v5 (kk+1+1+1+1+1)).2+1+1)).2:=Zw _ _;have HSO5:=Lib.hid so5;clear so5;have HSO8:=Lib.hid so8;clear so8;have HSUB:=Lib.hid hsub;clear hsub;have HU0:Hid (Upd g (j*9) 9 ([]++(([]++([]++([]++([]++SL5))))++([]++([]++SL8)))) wr wr):=Upd.refl _ _ _ _ _;have tok1:True:=trivial;have tok2:True:=trivial;have tok3:True:=trivial
    go_wp2_with (first | (go_at_call 43;have tk:=tok1;clear tok1;refine Vh (UL _ _ v5 SL5 _ (kk+1+1+1+1+1) (by omega) (by omega) (by omega) (by repeat (first | (with_reducible exact HSO5.out) | (refine X5 ?_ (λhm=>hgLi (zD.2 (.inr (zD.2 (.inl (zD.2 (.inr (zD.2 (.inr (zD.2 (.inr (zD.2 (.inr hm))))))))))))))))) ?_;intro w1 ho1 hch hz;have c1:=λo=>hch.cell (b:=g) (by go_size) (λhm=>hgLi (zD.2 (.inr (zD.2 (.inl (zD.2 (.inr (zD.2 (.inr (zD.2 (.inr (zD.2 (.inr hm))))))))))))) o;have f1:=λo=>hch.frozen (b:=g) (by go_size) (λhm=>hgLi (zD.2 (.inr (zD.2 (.inl (zD.2 (.inr (zD.2 (.inr (zD.2 (.inr (zD.2 (.inr hm))))))))))))) o;have HU1:Hid (Upd g (j*9) 9 ([]++(([]++([]++([]++([]++SL5))))++([]++([]++SL8)))) wr w1):=Upd.mark (by repeat (first | (with_reducible exact HU0.out) | (with_reducible refine Upd.setCell ?_ _ (by omega) _))) hch (λb hm=>(zD.2 (.inr (zD.2 (.inl (zD.2 (.inr (zD.2 (.inr (zD.2 (.inr (zD.2 (.inr hm))))))))))))) (λhm=>hgLi (zD.2 (.inr (zD.2 (.inl (zD.2 (.inr (zD.2 (.inr (zD.2 (.inr (zD.2 (.inr hm))))))))))))) (by go_size);(try simp only[zSm] at hz);have HB1:=Lib.hid hch;clear hch;have HM1:=Lib.hid ho1;clear ho1) | (go_at_call 44;have tk:=tok2;clear tok2;refine (Ug _ _ ((Qx v5 (kk+1+1+1+1+1)).2+1) (by omega) (by omega) (by omega)).mono ?_;rintro e w2 ⟨rfl,hb⟩;have hz:=hb.size;have c2:=λo=>Z0 hb g o (by go_size);have f2:=λo=>Kl hb g o (by go_size);have HU2:Hid (Upd g (j*9) 9 ([]++(([]++([]++([]++([]++SL5))))++([]++([]++SL8)))) wr w2):=Upd.below (by repeat (first | (with_reducible exact HU1.out) | (with_reducible refine Upd.setCell ?_ _ (by omega) _))) hb (by go_size);(try simp only[zSm] at hz);have HB2:=Lib.hid hb;clear hb) | (go_at_call 45;have tk:=tok3;clear tok3;refine Vh (UO _ _ v8 SL8 _ ((Qx v5 (kk+1+1+1+1+1)).2+1+1) (by omega) (by omega) (by omega) (by repeat (first | (with_reducible exact HSO8.out) | (refine X5 ?_ (λhm=>hgLi (zD.2 (.inr (zD.2 (.inr (zD.2 (.inr (zD.2 (.inr hm)))))))))) | (with_reducible refine Ku ?_ HB2.out) | (refine Kv ?_ HB1.out (λb hb1 hb2=>(zE.1 nd7).2.2 _ (zD.2 (.inr (zD.2 (.inr (zD.2 (.inr (zD.2 (.inr hb2)))))))) _ (zD.2 (.inr (zD.2 (.inr hb1)))) rfl))))) ?_;intro w3 ho3 hch hz;have c3:=λo=>hch.cell (b:=g) (by go_size) (λhm=>hgLi (zD.2 (.inr (zD.2 (.inr (zD.2 (.inr (zD.2 (.inr hm))))))))) o;have f3:=λo=>hch.frozen (b:=g) (by go_size) (λhm=>hgLi (zD.2 (.inr (zD.2 (.inr (zD.2 (.inr (zD.2 (.inr hm))))))))) o;have HU3:Hid (Upd g (j*9) 9 ([]++(([]++([]++([]++([]++SL5))))++([]++([]++SL8)))) wr w3):=Upd.mark (by repeat (first | (with_reducible exact HU2.out) | (with_reducible refine Upd.setCell ?_ _ (by omega) _))) hch (λb hm=>(zD.2 (.inr (zD.2 (.inr (zD.2 (.inr (zD.2 (.inr hm))))))))) (λhm=>hgLi (zD.2 (.inr (zD.2 (.inr (zD.2 (.inr (zD.2 (.inr hm))))))))) (by go_size);(try simp only[zSm] at hz);have HB3:=Lib.hid hch;clear hch;have HM3:=Lib.hid ho3;clear ho3))
    go_roundw
    case measure=>simp[intOf];omega
    case rel=>
     refine ⟨j+1,by omega,by go_num, ?_, ?_, ?_⟩
     . show Value.int _ _=_;rw[HSP.out];show Value.int .i64 _= .int .i64 (((Qx v8 ((Qx v5 (kk+1+1+1+1+1)).2+1+1)).2:Nat):Int);first | go_num | (congr 1<;>omega)
     . show own _ _ _ _;rw[HSP.out];simp only[zQ,List.singleton_append];refine HSH.out _ [.int .i64 ((kk:Nat):Int),.int .i64 ((kk+1:Nat):Int),.int .i64 ((kk+1+1:Nat):Int),.bool ((kk+1+1+1) % 3==0),.int .i64 ((kk+1+1+1+1:Nat):Int),.slice oa5 v5.length cp5,.int .i64 (((Qx v5 (kk+1+1+1+1+1)).2:Nat):Int),.string (Gc ((Qx v5 (kk+1+1+1+1+1)).2+1)),.slice oa8 v8.length cp8] _ (by repeat (first | (with_reducible exact HU3.out) | (with_reducible refine Upd.setCell ?_ _ (by omega) _))) (X0 (A5 _ (Dd (kk) (by omega))) (X0 (X0 (A5 _ (Dd (kk+1) (by omega))) (X0 (A5 _ (Dd (kk+1+1) (by omega))) (X0 (Qik _ _) (X0 (A5 _ (Dd (kk+1+1+1+1) (by omega))) (show own SL5 _ [.slice oa5 v5.length cp5] (Qx v5 (kk+1+1+1+1+1)).1 by repeat (first | (with_reducible exact HM1.out) | (refine X5 ?_ (λhm=>hgLi (zD.2 (.inr (zD.2 (.inl (zD.2 (.inr (zD.2 (.inr (zD.2 (.inr (zD.2 (.inr hm)))))))))))))) | (refine Kv ?_ HB3.out (λb hb1 hb2=>(zE.1 nd7).2.2 _ (zD.2 (.inr (zD.2 (.inr (zD.2 (.inr (zD.2 (.inr hb1)))))))) _ (zD.2 (.inr (zD.2 (.inr hb2)))) rfl)) | (with_reducible refine Ku ?_ HB2.out))) (λx hx hy=>(zE.1 nd1).2.2 x hx x hy rfl)) (λx hx hy=>(zE.1 nd2).2.2 x hx x hy rfl)) (λx hx hy=>(zE.1 nd3).2.2 x hx x hy rfl)) (λx hx hy=>(zE.1 nd4).2.2 x hx x hy rfl)) (X0 (A5 _ (Dd ((Qx v5 (kk+1+1+1+1+1)).2) (by omega))) (X0 (Pj _ (Db (by omega))) (show own SL8 _ [.slice oa8 v8.length cp8] (Qx v8 ((Qx v5 (kk+1+1+1+1+1)).2+1+1)).1 by repeat (first | (with_reducible exact HM3.out) | (refine X5 ?_ (λhm=>hgLi (zD.2 (.inr (zD.2 (.inr (zD.2 (.inr (zD.2 (.inr hm)))))))))))) (λx hx hy=>(zE.1 nd5).2.2 x hx x hy rfl)) (λx hx hy=>(zE.1 nd6).2.2 x hx x hy rfl)) (λx hx hy=>(zE.1 nd7).2.2 x hx x hy rfl)) (λx hx hy=>(zE.1 nd8).2.2 x hx x hy rfl)) ?_;intro q u hq
       match q,hq with
       | 0,hq=>obtain rfl:=(zF hq);simp[go_sem, *]
       | 1,hq=>obtain rfl:=(zF hq);simp[go_sem, *]
       | 2,hq=>obtain rfl:=(zF hq);simp[go_sem, *]
       | 3,hq=>obtain rfl:=(zF hq);simp[go_sem, *]
       | 4,hq=>obtain rfl:=(zF hq);simp[go_sem, *]
       | 5,hq=>obtain rfl:=(zF hq);simp[go_sem, *]
       | 6,hq=>obtain rfl:=(zF hq);simp[go_sem, *]
       | 7,hq=>obtain rfl:=(zF hq);simp[go_sem, *]
       | 8,hq=>obtain rfl:=(zF hq);simp[go_sem, *]
       | q+9,hq=>simp at hq
     exact HC.out.trans (((by repeat (first | (with_reducible exact HU3.out) | (with_reducible refine Upd.setCell ?_ _ (by omega) _))):Upd g (j*9) 9 ([]++(([]++([]++([]++([]++SL5))))++([]++([]++SL8)))) wr _).chg.mono (λb hb=>(zJ.1 hb).elim (λe=>e▸hgL) (HSUB.out b)))
  obtain rfl:j=l.length:=by omega
  have how:=HW.out;have hch:=HC.out;rw[zH,List.drop_length,zY] at how;rw[zH] at*;have HW2:=Lib.hid how;have HC2:=Lib.hid hch;clear how hch;go_wp2
  go_ret
  exact ⟨rfl,HW2.out,HC2.out⟩
end
end Go.Proofs.YtnnhlokdfkajnaaGreat
