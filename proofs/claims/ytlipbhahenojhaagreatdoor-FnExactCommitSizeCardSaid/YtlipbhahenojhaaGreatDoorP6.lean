/- A part. -/
import Derived.Test.YtlipbhahenojhaaGreatDoorP5
import Derived.Lib.Atoi
set_option linter.unusedVariables false
set_option linter.unusedSimpArgs false
namespace Go.Proofs.YtlipbhahenojhaaGreatDoor
open _root_ renaming Int → Y, List → Q, ByteArray → O, Nat → H, Bool → G, cond_false → D, cond_true → uA, Unit → uB, UInt8 → uD, decide_eq_false → uE, decide_eq_true → uG, of_decide_eq_false → uH, if_pos → uI, if_neg → uJ, of_decide_eq_true → uK, beq_iff_eq → uM, decide_eq_true_eq → uN, beq_self_eq_true → uO, beq_eq_false_iff_ne → uP, Inhabited → uQ, congrArg → uR, or_false → uS, decide_eq_decide → uT
open _root_.Bool renaming true → X, false → W
open _root_.Go renaming maxLen → uF
open _root_.Option renaming some → uC, none → uL
open _root_.Go.IntKind renaming wrap → uU, i64 → uV
open _root_.Go.Proofs.Tryz renaming prog → uW
open _root_.Go.Proofs.Tryz
open _root_.And renaming intro → zM
open _root_.Array renaming length_toList → xJ
open _root_.Bool renaming not_true → zN, not_false → zR, and_eq_true → zS, true_and → yB, false_and → yE, false_eq_true → yJ, and_false → yR, eq_iff_iff → xC, or_eq_true → xF, or_false → xL, and_self → xM, and_true → xN, or_self → xP
open _root_.ByteArray renaming size → zD, size_append → zE, ext → xO
open _root_.Classical renaming byContradiction → zZ
open _root_.Exists renaming intro → zJ
open _root_.Int renaming toNat → zK, toNat_natCast → zO, tmod → yS, natCast_add → xD
open _root_.List renaming length → zF, mem_cons_of_mem → zG, mem_cons_self → zH, mem_of_getElem? → zL, mem_append → zP, mem_singleton → zQ, mem_cons → zT, getElem?_eq_some_iff → zU, length_set → zV, map_cons → zW, mem_map_of_mem → zX, nil_append → zY, filter_cons → yC, cons_append → yD, mem_append_left → yF, getElem?_of_mem → yG, append_assoc → yH, length_map → yK, pairwise_cons → yM, mem_append_right → yN, map → yO, map_id → yP, nodup_cons → yQ, getD_eq_getElem?_getD → yT, any_eq_true → yW, filter_cons_of_pos → yX, filter_cons_of_neg → yY, length_drop → yZ, mem_map → xA, map_nil → xB, foldl_cons → xE, append_nil → xG, set → xH, drop_succ_cons → xI, any_cons → xK, getD → xR
open _root_.List.Pairwise renaming nil → yV
open _root_.Nat renaming zero_le → yA, le_refl → yI, zero_add → yL, le_trans → xQ
open _root_.UInt8 renaming toNat_ofNat' → yU
section
open Go.RowKit
open GoE (enc wide)
def Gx(_:H)(a:Q0)(b:Z):Rd Z Z Z:=(bif (Xd a.1 8 9) then(.next (Vl b a.2.2.2.1)) else(.next b))
def Nx(_:H)(a:Z):Z:=a
def Uj(q:Q Q0):Z:=(Out.on (X5 Gx Nx q 0 []) (λa=>a))
theorem GJ(q:Q Q0):ACalls uW 258 [.h q] (.o 0 (Uj q)):=by
 refine en func258 λ_ _ _=>sn [0,2] [] p0 ?_
 refine tn [0,2,3] [] p0<|Qa<|tu [(2,.e 0),(3,.one (.slc (.own X 320) 1 [])),(4,.i 0)] [] [] [] p0<|wT 0 0 .sh q (λj k=>?_)
 refine HN Gx Nx q [] (λa b=> [(3,.h b),(4,.i (a:Y))]) [3,4] (λf=> [(3,.h f)]) [0,3,4] (λa b=>zF b<=a) (wgf [] [320] [] []) (by simp) (λa b c U=>?_) (λa b c U=>?_) (λf h=>?_)
 ·have d:=U.2;obtain⟨e,V⟩:=Xn (l:=q) (i:=a) c;refine Qa<|sn [0,2,3,4,9] [] (pl 2 q (pe 3 (zB ((a:Y)<(q.length:Y))) p0))<|ckT<|Qd<|Qa<|Qn<|tn [0,2,3,4,17] [] (pn 2 V (pc 5 (Js e.1 8 9) p0))<|ck (Xd e.1 8 9) (λg=>?_) (λg=>?_)
  ·have m:=Bj.1 g;refine qu [(3,.h (Vl b e.2.2.2.1))] [3] [] [] (pn 3 V (pc 6 (Ip b e.2.2.2.1 (by omega)) p0)) ?_;refine rn [0,2,3,4] [] (pw 1 a p0) ?_;exact xw (Vl b e.2.2.2.1) ⟨Qp V (Qu g rfl) U.1,(by first|omega|(have o:=XT b e.2.2.2.1;omega))⟩
  refine Qd<|qu [(4,.i ((a+1:H):Y))] [4] [] [] (pw 1 a p0) ?_
  exact xw b ⟨Qp V (Qh g rfl) U.1,(by first|omega|(have o:=XT b e.2.2.2.1;omega))⟩
 ·have d:=U.2;exact Qa<|sn [0,2,3,4,9] [] (pl 2 q (pe 3 (zC ((a:Y)<(q.length:Y))) p0))<|ckF<|Qv<|xw _ (Xo c rfl U.1)
 refine wT 3 0 .sh f (λp r=>?_);exact sn [2] [] (po 2 (.flat) (px (L7 (n:=(([]:Q (Q PV)).length+((eL f):Q (Q PV)).length)) (N1 rfl (Zv f) (by first|omega|(simp only[List.length_cons,List.length_nil];omega) | (simp;omega) | simp))) (px (G1 (Ea f)) p0)))<|Qc<|po0 [] (Vz h rfl)
def Fn(_:H)(a:Q0)(b:Z):Rd Z Z Z:=(bif (Xd a.1 2 4) then(.next (Vl b a.2.2.2.1)) else(.next b))
def Mh(_:H)(a:Z):Z:=a
def V4(q:Q Q0):Z:=(Out.on (X5 Fn Mh q 0 []) (λa=>a))
theorem CG(q:Q Q0):ACalls uW 296 [.h q] (.o 0 (V4 q)):=by
 refine en func296 λ_ _ _=>sn [0,2] [] p0 ?_
 refine tn [0,2,3] [] p0<|Qa<|tu [(2,.e 0),(3,.one (.slc (.own X 320) 1 [])),(4,.i 0)] [] [] [] p0<|wT 0 0 .sh q (λj k=>?_)
 refine HN Fn Mh q [] (λa b=> [(3,.h b),(4,.i (a:Y))]) [3,4] (λf=> [(3,.h f)]) [0,3,4] (λa b=>zF b<=a) (wgf [] [320] [] []) (by simp) (λa b c U=>?_) (λa b c U=>?_) (λf h=>?_)
 ·have d:=U.2;obtain⟨e,V⟩:=Xn (l:=q) (i:=a) c;refine Qa<|sn [0,2,3,4,9] [] (pl 2 q (pe 3 (zB ((a:Y)<(q.length:Y))) p0))<|ckT<|Qd<|Qa<|Qn<|tn [0,2,3,4,17] [] (pn 2 V (pc 5 (Js e.1 2 4) p0))<|ck (Xd e.1 2 4) (λg=>?_) (λg=>?_)
  ·have m:=Bj.1 g;refine qu [(3,.h (Vl b e.2.2.2.1))] [3] [] [] (pn 3 V (pc 6 (Ip b e.2.2.2.1 (by omega)) p0)) ?_;refine rn [0,2,3,4] [] (pw 1 a p0) ?_;exact xw (Vl b e.2.2.2.1) ⟨Qp V (Qu g rfl) U.1,(by first|omega|(have o:=XT b e.2.2.2.1;omega))⟩
  refine Qd<|qu [(4,.i ((a+1:H):Y))] [4] [] [] (pw 1 a p0) ?_
  exact xw b ⟨Qp V (Qh g rfl) U.1,(by first|omega|(have o:=XT b e.2.2.2.1;omega))⟩
 ·have d:=U.2;exact Qa<|sn [0,2,3,4,9] [] (pl 2 q (pe 3 (zC ((a:Y)<(q.length:Y))) p0))<|ckF<|Qv<|xw _ (Xo c rfl U.1)
 refine wT 3 0 .sh f (λp r=>?_);exact sn [2] [] (po 2 (.flat) (px (L7 (n:=(([]:Q (Q PV)).length+((eL f):Q (Q PV)).length)) (N1 rfl (Zv f) (by first|omega|(simp only[List.length_cons,List.length_nil];omega) | (simp;omega) | simp))) (px (G1 (Ea f)) p0)))<|Qc<|po0 [] (Vz h rfl)
def Gy(_:H)(a:Hk)(b:Z):Rd Z Z Z:=(.next (b++ [a.1]))
def Ny(_:H)(a:Z):Z:=a
def Zc(f:Xt):Z:=(Out.on (X5 Gy Ny f.2.2.2.2 0 []) (λa=>a))
theorem ZW(f:Xt):(Zc f).length=f.2.2.2.2.length:=by
 unfold Zc;rw[Ww (f:=Gy) (g:=λa:Hk=>a.1) (λ_ _ _=>rfl)];simp[Out.on,Ny]
theorem YE(f:Xt):ACalls uW 337 [.a [.i f.1,.i f.2.1,.b f.2.2.1,.i f.2.2.2.1,.h f.2.2.2.2]] (.o 0 (Zc f)):=by
 refine en func337 λ_ _ _=>sn [1,2] [1] p0 ?_
 refine tn [1,2,3] [1] p0<|Qa<|tu [(1,.p 1 0),(2,.e 0),(3,.one (.slc (.own X 320) 1 [])),(4,.i 0)] [0] [(1, [.i f.1,.i f.2.1,.b f.2.2.1,.i f.2.2.2.1,.h f.2.2.2.2])] [] p0<|wB 1 4 .sh f.2.2.2.2 (λj k=>?_)
 refine LC Gy Ny f.2.2.2.2 [] (λb a=> [(3,.o 104 a),(4,.i (b:Y))]) [3,4] (λ_ _=> []) [] (λh=> [(3,.o 105 h)]) [1,3,4] (λ_=> []) [1] (λb a=>zF a<=b) (wsf [(320,104)]) (by simp) (λb a c U=>?_) (λb a c U=>?_) (λh g=>?_)
 ·have d:=U.2;obtain⟨e,V⟩:=Xn (l:=f.2.2.2.2) (i:=b) c;refine Qa<|sn [1,2,3,4,10] [1] (pl 3 f.2.2.2.2 (pe 4 (zB ((b:Y)<(f.2.2.2.2.length:Y))) p0))<|ckT<|Qd<|Qa<|Qn<|wT 3 0 (.own X 104) a (λm n=>?_)
  refine qu [(3,.one (.slc (.own X 1344) 1 (eA a e.1)))] [3] [] [] (pn 4 V (pa a [e.1] p0)) ?_;refine eqn [(3,.o 1344 (a++ [e.1]))] [3] [] [] (by rw[Wu]<;>kernel_rfl) ?_;refine rn [1,2,3,4] [1] (pw 1 b p0) ?_;exact zJ (a++ [e.1]) (zM (wsf [(1344,104)]) ⟨Qp V rfl U.1,by first|omega|(simp;omega) | simp⟩)
 ·have d:=U.2;exact Qa<|sn [1,2,3,4,10] [1] (pl 3 f.2.2.2.2 (pe 4 (zC ((b:Y)<(f.2.2.2.2.length:Y))) p0))<|ckF<|Qv<|zJ _ (zM (wsf [(104,105)]) (Xo c rfl U.1))
 exact sn [2] [] p0<|Qc<|po0 [] (Vz g rfl)
def Ig(c:Xt)(b:Xt)(_:H)(a:O)(d:Z):Rd Z Z Z:=(bif (!(((Ys c a).1==(Ys b a).1)&&(((Ys c a).2.1==(Ys b a).2.1)&&((((Ys c a).2.2).toList==((Ys b a).2.2).toList)&&X)))) then(.next (Vl d a)) else(.next d))
def Ih(_:H)(a:Z):Z:=a
def Hg(a:Xt)(b:Xt):Z:=(Out.on (X5 (Ig a b) Ih (Zc a++(Zc b)) 0 []) (λc=>c))
theorem WS(a:Xt)(b:Xt)(hp:(zF a.2.2.2.2:Y)+zF b.2.2.2.2<=1073741000):ACalls uW 294 [.a [.i a.1,.i a.2.1,.b a.2.2.1,.i a.2.2.2.1,.h a.2.2.2.2],.a [.i b.1,.i b.2.1,.b b.2.2.1,.i b.2.2.2.1,.h b.2.2.2.2]] (.o 0 (Hg a b)):=by
 refine en func294 λ_ _ _=>?_
 have t:=ZW a;have u:=ZW b;refine sn [2,3,4] [2,3] p0<|tn [2,3,4,5] [2,3] p0<|tU [(2,.p 2 0),(3,.p 3 0),(4,.e 0),(5,.one (.slc (.own X 512) 1 [])),(6,.one (.slc (.own X 832) 1 ((eL (Zc a))++(eL (Zc b)))))] [0,1] [(2, [.i a.1,.i a.2.1,.b a.2.2.1,.i a.2.2.2.1,.h a.2.2.2.2]),(3, [.i b.1,.i b.2.1,.b b.2.2.1,.i b.2.2.2.1,.h b.2.2.2.2])] [] (pc 1 (YE a) (pc 3 (YE b) (pa (Zc a) (Zc b) p0))) ?_
 refine eqn [(6,.o 832 (Zc a++(Zc b)))] [6] [] [] (by rw[show((eL (Zc a))++(eL (Zc b)))=(eL (Zc a++(Zc b))) from NG rfl (rfl)]<;>kernel_rfl) ?_;refine Qa<|su [(7,.i 0)] [] [] [] p0<|wT 6 0 (.own X 832) (Zc a++(Zc b)) (λv w=>?_)
 refine LC (Ig a b) Ih (Zc a++(Zc b)) [] (λd e=> [(5,.h e),(7,.i (d:Y))]) [5,7] (λ_ _=> []) [] (λj=> [(5,.h j)]) [2,3,5,6,7] (λ_=> []) [2,3] (λd e=>zF e<=d) (wgf [] [512] [] []) (by simp) (λd e f U=>?_) (λd e f U=>?_) (λj r=>?_)
 ·have g:=U.2;obtain⟨c,V⟩:=Xn (l:=Zc a++(Zc b)) (i:=d) f;refine Qa<|su [(17,.b X)] [] [] [] (pl 2 (Zc a++(Zc b)) (pe 3 (zB ((d:Y)<((Zc a++(Zc b)).length:Y))) p0))<|ckT<|Qd<|Qa<|Qn<|sN [2,3,4,5,6,7,32] [2,3] (pN 3 V (pc 5 (Tq a c) (pN 9 V (pc 11 (Tq b c) p0))))<|ck (!(((Ys a c).1==(Ys b c).1)&&(((Ys a c).2.1==(Ys b c).2.1)&&((((Ys a c).2.2).toList==((Ys b c).2.2).toList)&&X)))) (λp=>?_) (λp=>?_)
  ·refine qn [2,3,4,5,6,7] [2,3] (pN 3 V (pc 5 (Ip e c (by omega)) p0)) ?_;refine qu [(5,.h (Vl e c)),(7,.i ((d+1:H):Y))] [5,7,17] [] [] (pw 1 d p0) ?_;exact xw (Vl e c) ⟨Qp V (Qu p rfl) U.1,(by first|omega|(have x:=XT e c;omega))⟩
  have k:(((Ys a c).1==(Ys b c).1)&&(((Ys a c).2.1==(Ys b c).2.1)&&((((Ys a c).2.2).toList==((Ys b c).2.2).toList)&&X)))=X:=Yu p;have m:(((Ys a c).1==(Ys b c).1))=X:=HL k;have s:=eq_of_beq m;have o:((((Ys a c).2.1==(Ys b c).2.1)&&((((Ys a c).2.2).toList==((Ys b c).2.2).toList)&&X)))=X:=HM k;have h:(((Ys a c).2.1==(Ys b c).2.1))=X:=HL o;have q:=eq_of_beq h;refine Qd<|qn [2,3,4,5,6,7] [2,3] (pw 1 d p0) ?_
  exact xw e ⟨Qp V (Qh p rfl) U.1,(by first|omega|(have x:=XT e c;omega))⟩
 ·have g:=U.2;exact Qa<|su [(17,.b W)] [] [] [] (pl 2 (Zc a++(Zc b)) (pe 3 (zC ((d:Y)<((Zc a++(Zc b)).length:Y))) p0))<|ckF<|Qv<|xw _ (Xo f rfl U.1)
 refine wT 5 0 .sh j (λy z=>?_);exact sn [4] [] (po 2 (.flat) (px (L7 (n:=(([]:Q (Q PV)).length+((eL j):Q (Q PV)).length)) (N1 rfl (Zv j) (by first|omega|(simp only[List.length_cons,List.length_nil];omega) | (simp;omega) | simp))) (px (G1 (Ea j)) p0)))<|Qc<|po0 [] (Vz r rfl)
def Dp(_:H)(a:Q0)(_:uB):Rd (G) (uB) (uB):=(bif (a.1==(9:Y)) then(.ret X) else(.next ()))
def Gz(_:H)(_:uB):uB:=()
def Fo(q:Q Q0):G:=(Out.on (X5 Dp Gz q 0 ()) (λ_=>W))
theorem GK(q:Q Q0):ACalls uW 295 [.h q] (.b (Fo q)):=by
 refine en func295 λ_ _ _=>sn [0,2] [] p0 ?_
 refine Qa<|tn [0,2,3] [] p0<|mz [(2,.b W),(3,.i 0)] [] [] []<|wT 0 0 .sh q (λf g=>?_)
 refine S8 Dp Gz q () (λa _=> [(3,.i (a:Y))]) [3] (λ_=> []) [0,3] wf0 (λa h b U=>?_) (λa h b U=>?_) (λk c=>?_)
 ·obtain⟨j,V⟩:=Xn (l:=q) (i:=a) b;refine Qa<|sn [0,2,3,7] [] (pl 2 q (pe 3 (zB ((a:Y)<(q.length:Y))) p0))<|ckT<|Qd<|Qa<|Qn<|tn [0,2,3,15] [] (pn 2 V p0)<|ck (j.1==(9:Y)) (λd=>?_) (λd=>?_)
  ·refine tu [(2,.b X)] [2] [] [] p0<|Qc ?_
   have e:(X5 Dp Gz q 0 ())= .ret X:=Kc V (Qu d rfl) U;exact pb [] (Pe e)
  refine Qd<|qu [(3,.i ((a+1:H):Y))] [3] [] [] (pw 1 a p0) ?_
  exact xw _ (Qp V (Qh d rfl) U)
 ·exact Qa<|sn [0,2,3,7] [] (pl 2 q (pe 3 (zC ((a:Y)<(q.length:Y))) p0))<|ckF<|Qv<|xw _ (Xo b rfl U)
 exact sn [2] [] p0<|Qc<|pb [] (Vz c rfl)
def Lu(_:H)(a:Yj)(b:Z):Rd Z Z Z:=(.next (b++ [a.1]))
def Lw(_:H)(a:Z):Z:=a
def Hh(d:Q Yj):Z:=(Out.on (X5 Lu Lw d 0 []) (λa=>a))
theorem Sb(d:Q Yj):ACalls uW 192 [.h d] (.o 0 (Hh d)):=by
 refine en func192 λ_ _ _=>sn [0,2] [] p0 ?_
 refine tn [0,2,3] [] p0<|Qa<|tu [(2,.e 0),(3,.one (.slc (.own X 320) 1 [])),(4,.i 0)] [] [] [] p0<|wT 0 0 .sh d (λj k=>?_)
 refine HN Lu Lw d [] (λb a=> [(3,.o 104 a),(4,.i (b:Y))]) [3,4] (λh=> [(3,.o 105 h)]) [0,3,4] (λb a=>zF a<=b) (wsf [(320,104)]) (by simp) (λb a c U=>?_) (λb a c U=>?_) (λh g=>?_)
 ·have e:=U.2;obtain⟨f,V⟩:=Xn (l:=d) (i:=b) c;refine Qa<|sn [0,2,3,4,9] [] (pl 2 d (pe 3 (zB ((b:Y)<(d.length:Y))) p0))<|ckT<|Qd<|Qa<|Qn<|wT 3 0 (.own X 104) a (λm n=>?_)
  refine qu [(3,.one (.slc (.own X 1216) 1 (eA a f.1)))] [3] [] [] (pn 3 V (pa a [f.1] p0)) ?_;refine eqn [(3,.o 1216 (a++ [f.1]))] [3] [] [] (by rw[Wu]<;>kernel_rfl) ?_;refine rn [0,2,3,4] [] (pw 1 b p0) ?_;exact zJ (a++ [f.1]) (zM (wsf [(1216,104)]) ⟨Qp V rfl U.1,by first|omega|(simp;omega) | simp⟩)
 ·have e:=U.2;exact Qa<|sn [0,2,3,4,9] [] (pl 2 d (pe 3 (zC ((b:Y)<(d.length:Y))) p0))<|ckF<|Qv<|zJ _ (zM (wsf [(104,105)]) (Xo c rfl U.1))
 exact sn [2] [] p0<|Qc<|po0 [] (Vz g rfl)
def Lx(a:O)(_:H)(b:O)(_:uB):Rd (G) (uB) (uB):=(bif (b.toList==a.toList) then(.ret X) else(.next ()))
def Om(_:H)(_:uB):uB:=()
def Up(a:Z)(b:O):G:=(Out.on (X5 (Lx b) Om a 0 ()) (λ_=>W))
theorem Qmr(s:O):∀(l:Z) (k:H),(Out.on (X5 (Lx s) Om l k ()) (λ_=>W))=X↔s∈l
 | [],k=>by simp[X5,Out.on]
 | a::l,k=>by
   simp only[X5,Lx,toList_inj];by_cases h:a=s
   . subst h;simp[Out.on]
   rw[uE h];simp only[D];refine(Qmr s l (k+1)).trans ?_;simp[Ne.symm h]
theorem GL(l:Z)(s:O):Up l s=X↔s∈l:=Qmr s l 0
theorem Rl(a:Z)(d:O):ACalls uW 259 [.h a,.s d] (.b (Up a d)):=by
 refine en func259 λ_ _ _=>sn [0,1,4] [] p0 ?_
 refine Qa<|tn [0,1,4,5] [] p0<|mz [(4,.b W),(5,.i 0)] [] [] []<|wT 0 0 .sh a (λh j=>?_)
 refine S8 (Lx d) Om a () (λb _=> [(5,.i (b:Y))]) [5] (λ_=> []) [0,1,5] wf0 (λb k c U=>?_) (λb k c U=>?_) (λn e=>?_)
 ·obtain⟨m,V⟩:=Xn (l:=a) (i:=b) c;refine Qa<|sn [0,1,4,5,9] [] (pl 2 a (pe 3 (zB ((b:Y)<(a.length:Y))) p0))<|ckT<|Qd<|Qa<|Qn<|tn [0,1,4,5,17] [] (pn 2 V p0)<|ck (m.toList==d.toList) (λf=>?_) (λf=>?_)
  ·refine tu [(4,.b X)] [4] [] [] p0<|Qc ?_
   have g:(X5 (Lx d) Om a 0 ())= .ret X:=Kc V (Qu f rfl) U;exact pb [] (Pe g)
  refine Qd<|qu [(5,.i ((b+1:H):Y))] [5] [] [] (pw 1 b p0) ?_
  exact xw _ (Qp V (Qh f rfl) U)
 ·exact Qa<|sn [0,1,4,5,9] [] (pl 2 a (pe 3 (zC ((b:Y)<(a.length:Y))) p0))<|ckF<|Qv<|xw _ (Xo c rfl U)
 exact sn [4] [] p0<|Qc<|pb [] (Vz e rfl)
def Ay(a:Xt)(b:Xt)(_:H)(c:O)(d:G):Rd (Rd Z Z Z) (G) (G):=(.next (d|| (Up (Hg a b) c)))
def Az(_:H)(a:G):G:=a
def Vs(c:Xt)(b:Xt)(_:H)(a:Yj)(d:Z):Rd Z Z Z:=(Out.on (X5 (Ay c b) Az (V4 a.2) 0 ((c.2.2.2.1 !=b.2.2.2.1)&&(Fo a.2))) (λe=>(bif e then(.next (d++ [a.1])) else(.next d))))
def U2(_:H)(a:Z):Z:=a
def V9(d:Q Yj)(a:Xt)(b:Xt):Z:=(bif (a.1 !=b.1) then(Hh d) else(Out.on (X5 (Vs a b) U2 d 0 []) (λc=>c)))
theorem YF(a b:Xt):∀(l:Q Yj) (k:H) (s:Z),(∃s',X5 (Vs a b) U2 l k s= .brk s'/\s'.length<=s.length+l.length)\/∃r,X5 (Vs a b) U2 l k s= .ret r/\r= []
 | [],k,s=> .inl ⟨s,rfl,by simp⟩
 | x ::l,k,s=>by
   have d:∀(l:Z) (k:H) (s:G),∃y,X5 (Ay a b) Az l k s= .brk y:=by
    intro l
    induction l with
    | nil=>exact λk s=>⟨s,rfl⟩
    | cons c l g=>exact λk s=>g (k+1) _
   obtain⟨y,i⟩:=d (V4 x.2) 0 ((a.2.2.2.1 !=b.2.2.2.1)&&(Fo x.2));simp only[X5,Vs,i,Out.on];cases y with
   | true=>
     rcases YF a b l (k+1) (s++ [x.1]) with⟨s',e,f⟩ | h
     . exact .inl ⟨s',e,by simp at f⊢;omega⟩
     exact .inr h
   | false=>
     rcases YF a b l (k+1) s with⟨s',e,f⟩ | h
     . exact .inl ⟨s',e,by simp at f⊢;omega⟩
     exact .inr h
theorem RM(d:Q Yj)(a b:Xt):(V9 d a b).length<=d.length:=by
 unfold V9;generalize(a.1 !=b.1)=c;cases c with
 | true=>
   simp only[uA];unfold Hh;rw[Ww (f:=Lu) (g:=λa:Yj=>a.1) (λ_ _ _=>rfl)];simp[Out.on,Lw]
 | false=>
   simp only[D];rcases YF a b d 0 [] with⟨s',e,h⟩ | ⟨r,e,rfl⟩
   . rw[e];exact(by simpa using h:s'.length<=d.length)
   rw[e];exact yA _
theorem QU(d:Q Yj)(a:Xt)(b:Xt)(hp:(zF a.2.2.2.2:Y)+zF b.2.2.2.2<=1073741000):ACalls uW 255 [.h d,.a [.i a.1,.i a.2.1,.b a.2.2.1,.i a.2.2.2.1,.h a.2.2.2.2],.a [.i b.1,.i b.2.1,.b b.2.2.1,.i b.2.2.2.1,.h b.2.2.2.2]] (.o 0 (V9 d a b)):=by
 refine en func255 λ_ _ _=>sn [0,4,5,6] [4,5] p0 ?_
 refine Qa<|tn [0,4,5,6,17] [4,5] p0<|ck (a.1 !=b.1) (λr=>?_) (λr=>?_)
 ·exact tu [(4,.p 4 0),(5,.p 5 0),(6,.o 1216 (Hh d))] [1,2] [(4, [.i a.1,.i a.2.1,.b a.2.2.1,.i a.2.2.2.1,.h a.2.2.2.2]),(5, [.i b.1,.i b.2.1,.b b.2.2.1,.i b.2.2.2.1,.h b.2.2.2.2])] [] (pc 1 (Sb d) p0)<|Qc<|po0 [] (Qu r rfl)
 have y:=Ut r;refine Qd<|tu [(4,.p 4 0),(5,.p 5 0),(6,.e 0),(7,.one (.slc (.own X 1280) 1 []))] [1,2] [(4, [.i a.1,.i a.2.1,.b a.2.2.1,.i a.2.2.2.1,.h a.2.2.2.2]),(5, [.i b.1,.i b.2.1,.b b.2.2.1,.i b.2.2.2.1,.h b.2.2.2.2])] [] p0<|sn [0,4,5,6,7,8] [4,5] (pc 2 (WS a b (by first|omega|(simp;omega))) p0)<|Qa<|tn [0,4,5,6,7,8,9] [4,5] p0<|mz [(8,.o 1472 (Hg a b)),(9,.i 0)] [] [] []<|wT 0 0 .sh d (λz a2=>?_)
 refine LC (Vs a b) U2 d [] (λf e=> [(7,.o 104 e),(9,.i (f:Y))]) [7,9] (λ_ _=> []) [] (λv=> [(7,.o 105 v)]) [0,4,5,7,8,9] (λ_=> []) [4,5] (λf e=>zF e<=f) (wsf [(1280,104)]) (by simp) (λf e g U=>?_) (λf e g U=>?_) (λv t=>?_)
 ·have h:=U.2;obtain⟨c,V⟩:=Xn (l:=d) (i:=f) g;refine Qa<|su [(27,.b X)] [] [] [] (pl 2 d (pe 3 (zB ((f:Y)<(d.length:Y))) p0))<|ckT<|Qd<|Qa<|Qn<|Qa<|jn [(10,.b ((a.2.2.2.1 !=b.2.2.2.1)&&(Fo c.2)))] [27] [] [] (a.2.2.2.1 !=b.2.2.2.1) (λm=>?_) (λm=>?_) ?_
  ·exact rn [0,4,5,6,7,8,9,10] [4,5] (pt 4 m (pn 8 V (pc 11 (GK c.2) p0)))<|zA (by rw[m]<;>kernel_rfl)
  ·exact ru [(10,.b W)] [27] [] [] (pf 4 m p0)<|zA (by rw[m]<;>kernel_rfl)
  refine sn [0,4,5,6,7,8,9,10,11] [4,5] (pn 2 V (pc 5 (CG c.2) p0))<|Qa<|tn [0,4,5,6,7,8,9,10,11,12] [4,5] p0<|mz [(11,.o 3072 (V4 c.2)),(12,.i 0)] [] [] []<|wT 11 0 (.own X 3072) (V4 c.2) (λa3 a4=>?_)
  refine S8 (Ay a b) Az (V4 c.2) ((a.2.2.2.1 !=b.2.2.2.1)&&(Fo c.2)) (λk1 n=> [(10,.b n),(12,.i (k1:Y))]) [10,12] (λs=> [(10,.b s)]) [10,11,12] wf0 (λk1 n j k=>?_) (λk1 n j k=>?_) (λs o=>?_)
  ·obtain⟨w,p⟩:=Xn (l:=V4 c.2) (i:=k1) j;refine Qa<|su [(52,.b X)] [] [] [] (pl 2 (V4 c.2) (pe 3 (zB ((k1:Y)<((V4 c.2).length:Y))) p0))<|ckT<|Qd<|Qa<|Qn<|jn [(10,.b (n|| (Up (Hg a b) w)))] [10,52] [] [] n (λq=>?_) (λq=>?_) ?_
   ·exact ru [(10,.b X)] [10,52] [] [] (pt 0 q p0)<|zA (by rw[q]<;>kernel_rfl)
   ·exact rn [0,4,5,6,7,8,9,10,11,12] [4,5] (pf 0 q (pN 5 p (pc 7 (Rl (Hg a b) w) p0)))<|zA (by rw[q]<;>kernel_rfl)
   refine rn [0,4,5,6,7,8,9,10,11,12] [4,5] (pw 1 k1 p0) ?_;exact xw _ (Qp p rfl k)
  ·exact Qa<|su [(52,.b W)] [] [] [] (pl 2 (V4 c.2) (pe 3 (zC ((k1:Y)<((V4 c.2).length:Y))) p0))<|ckF<|Qv<|xw _ (Xo j rfl k)
  refine su [(64,.b s)] [10] [] [] p0<|ck s (λu=>?_) (λu=>?_)
  ·refine wT 7 0 (.own X 104) e (λa5 x=>?_);refine ru [(7,.one (.slc (.own X 4608) 1 (eA e c.1)))] [7,64] [] [] (pn 3 V (pa e [c.1] p0)) ?_;refine eqn [(7,.o 4608 (e++ [c.1]))] [7] [] [] (by rw[Wu]<;>kernel_rfl) ?_;refine rn [0,4,5,6,7,8,9] [4,5] (pw 1 f p0) ?_;exact zJ (e++ [c.1]) (zM (wsf [(4608,104)]) ⟨Qp V (Vz o (Qu u rfl)) U.1,by first|omega|(simp;omega) | simp⟩)
  refine Qd<|rn [0,4,5,6,7,8,9] [4,5] (pw 1 f p0) ?_
  exact xw e ⟨Qp V (Vz o (Qh u rfl)) U.1,by first|omega|(simp;omega) | simp⟩
 ·have h:=U.2;exact Qa<|su [(27,.b W)] [] [] [] (pl 2 d (pe 3 (zC ((f:Y)<(d.length:Y))) p0))<|ckF<|Qv<|zJ _ (zM (wsf [(104,105)]) (Xo g rfl U.1))
 exact sn [6] [] p0<|Qc<|po0 [] (Qh r (Vz t rfl))
def Bo(_:H)(a:O)(b:Z):Rd Z Z Z:=(.next (Vl b a))
def Bp(_:H)(a:Z):Z:=a
def U3(b:Yj)(_:H)(c:O)(a:Z):Rd (Rd (Rd Z Z Z) Z Z) Z Z:=(bif (Up a c) then(.next (Vl a b.1)) else(.next a))
def Bq(_:H)(a:Z):Z:=a
def U4(_:H)(a:Yj)(b:Z):Rd (Rd Z Z Z) Z Z:=(Out.on (X5 (U3 a) Bq (Uj a.2) 0 b) (λc=>(.next c)))
def Br(_:H)(a:Z):Z:=a
def U5(d:Q Yj)(_:H)(a:Z):Rd Z Z Z:=(Out.on (X5 U4 Br d 0 a) (λb=>(.next b)))
def Bs(_:H)(a:Z):Z:=a
def Zl(d:Q Yj)(names:Z):Z:=(Out.on (X5 Bo Bp names 0 []) (λa=>(Out.on (Vj (U5 d) Bs ((d.length:Y)+1).toNat 0 a) (λb=>b))))
def GM(N s:Z):Prop:=HQ s/\∀x,x∈s->x∈N
theorem GN{N s:Z}{x:O}(h:GM N s)(a:x∈N):GM N (Vl s x):=by
 rw[XS];exact⟨VU _ _ h.1,λy b=>((Rb _ _ _).1 b).elim (λe=>e▸a) (h.2 y)⟩
theorem Qbf{names:Z}{d:Q Yj}{s:Z}(h:GM (names++yO (·.1) d) s):zF s<=zF names+zF d:=by
 have:=DM (GE h.1) h.2;simpa using this
theorem Bz(d:Q Yj)(names:Z)(hp:(zF names:Y)+zF d<=1000000):ACalls uW 198 [.h d,.h names] (.o 0 (Zl d names)):=by
 refine en func198 λ_ _ _=>sn [0,1,4] [] p0 ?_
 refine tn [0,1,4,5] [] p0<|Qa<|tu [(4,.e 0),(5,.one (.slc (.own X 704) 1 [])),(6,.i 0)] [] [] [] p0<|wT 1 0 .sh names (λaf ag=>?_)
 refine SW Bo Bp names [] (λo k=> [(5,.h k),(6,.i (o:Y))]) [5,6] (λy0=> [(5,.h y0)]) [1,5,6] (λ_ k=>GM (names++yO (·.1) d) k) (λy0=>GM (names++yO (·.1) d) y0) (wgf [] [704] [] []) (by exact⟨yV,λx hx=>by cases hx⟩) (λo k q U=>?_) (λo k q U=>?_) (λy0 a4=>?_)
 ·have e:=U.2;obtain⟨a0,V⟩:=Xn (l:=names) (i:=o) q;have ad:=Qbf e;refine Qa<|sn [0,1,4,5,6,15] [] (pl 2 names (pe 3 (zB ((o:Y)<(names.length:Y))) p0))<|ckT<|Qd<|Qa<|Qn<|qn [0,1,4,5,6] [] (pn 3 V (pc 5 (Ip k a0 (by omega)) p0)) ?_
  refine qu [(5,.h (Vl k a0)),(6,.i ((o+1:H):Y))] [5,6] [] [] (pw 1 o p0) ?_;exact xw (Vl k a0) ⟨Qp V rfl U.1,(by exact GN (by assumption) (yF _ (zL V)))⟩
 ·have e:=U.2;exact Qa<|sn [0,1,4,5,6,15] [] (pl 2 names (pe 3 (zC ((o:Y)<(names.length:Y))) p0))<|ckF<|Qv<|xw k ⟨Xo q rfl U.1,by first|omega|(simp only[zV];omega)⟩
 have a8:=a4.2;refine Qa<|sn [0,4,5,7] [] p0<|mz [(7,.i 0)] [] [] []<|wT 0 0 .sh d (λah ai=>?_)
 refine Qsa (U5 d) Bs ((d.length:Y)+1).toNat y0 (λk1 r=> [(5,.h r),(7,.i (k1:Y))]) [5,7] (λp=> [(5,.h p)]) [0,5,7] (λ_ r=>GM (names++yO (·.1) d) r) (λp=>GM (names++yO (·.1) d) p) wf0 (by assumption) (λk1 r s f=>?_) (λk1 r s f=>?_) (λp a5=>?_)
 ·have t:=f.2;refine Qa<|sn [0,4,5,7,27] [] (pl 2 d (pe 3 (zB ((k1:Y)<=(d.length:Y))) p0))<|ckT<|Qd<|Qa<|Qn<|tn [0,4,5,7,8] [] p0<|mz [(8,.i 0)] [] [] []<|SW U4 Br d r (λu v=> [(5,.h v),(8,.i (u:Y))]) [5,8] (λy2=> [(5,.h y2)]) [5,8] (λ_ v=>GM (names++yO (·.1) d) v) (λy2=>GM (names++yO (·.1) d) y2) wf0 (by assumption) (λu v w g=>?_) (λu v w g=>?_) (λy2 a6=>?_)
  ·have y:=g.2;obtain⟨a,h⟩:=Xn (l:=d) (i:=u) w;refine Qa<|sn [0,4,5,7,8,33] [] (pl 2 d (pe 3 (zB ((u:Y)<(d.length:Y))) p0))<|ckT<|Qd<|Qa<|Qn<|tn [0,4,5,7,8,9] [] (pn 2 h (pc 5 (GJ a.2) p0))<|tu [(9,.o 2624 (Uj a.2)),(10,.i 0)] [] [] [] p0<|wT 9 0 (.own X 2624) (Uj a.2) (λaj ak=>?_)
   refine SW (U3 a) Bq (Uj a.2) v (λm c=> [(5,.h c),(10,.i (m:Y))]) [5,10] (λy3=> [(5,.h y3)]) [5,9,10] (λ_ c=>GM (names++yO (·.1) d) c) (λy3=>GM (names++yO (·.1) d) y3) wf0 (by assumption) (λm c z b=>?_) (λm c z b=>?_) (λy3 a7=>?_)
   ·have j:=b.2;obtain⟨a3,a1⟩:=Xn (l:=Uj a.2) (i:=m) z;have ae:=Qbf j;refine Qa<|su [(45,.b X)] [] [] [] (pl 2 (Uj a.2) (pe 3 (zB ((m:Y)<((Uj a.2).length:Y))) p0))<|ckT<|Qd<|Qa<|Qn<|sn [0,4,5,7,8,9,10,53] [] (pN 3 a1 (pc 5 (Rl c a3) p0))<|ck (Up c a3) (λh7=>?_) (λh7=>?_)
    ·refine qn [0,4,5,7,8,9,10] [] (pn 3 h (pc 6 (Ip c a.1 (by omega)) p0)) ?_;refine qu [(5,.h (Vl c a.1)),(10,.i ((m+1:H):Y))] [5,10,45] [] [] (pw 1 m p0) ?_;exact xw (Vl c a.1) ⟨Qp a1 (Qu h7 rfl) b.1,(by first | exact GN (by assumption) (yN _ (zX (zL h))) | assumption)⟩
    refine Qd<|qn [0,4,5,7,8,9,10] [] (pw 1 m p0) ?_
    exact xw c ⟨Qp a1 (Qh h7 rfl) b.1,(by first | exact GN (by assumption) (yN _ (zX (zL h))) | assumption)⟩
   ·have j:=b.2;exact Qa<|su [(45,.b W)] [] [] [] (pl 2 (Uj a.2) (pe 3 (zC ((m:Y)<((Uj a.2).length:Y))) p0))<|ckF<|Qv<|xw c ⟨Xo z rfl b.1,by first|omega|(simp only[zV];omega)⟩
   have a9:=a7.2;refine rn [0,4,5,7,8] [] (pw 1 u p0) ?_;exact xw y3 ⟨Qp h (Vz a7.1 rfl) g.1,(by assumption)⟩
  ·have y:=g.2;exact Qa<|sn [0,4,5,7,8,33] [] (pl 2 d (pe 3 (zC ((u:Y)<(d.length:Y))) p0))<|ckF<|Qv<|xw v ⟨Xo w rfl g.1,by first|omega|(simp only[zV];omega)⟩
  have aa:=a6.2;refine rn [0,4,5,7] [] (pw 1 k1 p0) ?_;exact xw y2 ⟨Kb s (Vz a6.1 rfl) f.1,(by assumption)⟩
 ·have t:=f.2;exact Qa<|sn [0,4,5,7,27] [] (pl 2 d (pe 3 (zC ((k1:Y)<=(d.length:Y))) p0))<|ckF<|Qv<|xw r ⟨Hu s rfl f.1,by first|omega|(simp only[zV];omega)⟩
 have ab:=a5.2;refine wT 5 0 .sh p (λal am=>?_);exact sn [4] [] (po 2 (.flat) (px (L7 (n:=(([]:Q (Q PV)).length+((eL p):Q (Q PV)).length)) (N1 rfl (Zv p) (by first|omega|(simp only[List.length_cons,List.length_nil];omega) | (simp;omega) | simp))) (px (G1 (Ea p)) p0)))<|Qc<|po0 [] (Vz a4.1 (Vz a5.1 rfl))
def Ak(d:Q Yj)(a:Xt)(b:Xt):Z:=(Zl d (V9 d a b))
theorem WT(d:Q Yj)(a:Xt)(b:Xt)(e:(zF a.2.2.2.2:Y)+zF b.2.2.2.2<=1073741000)(hd:zF d<=1000):ACalls uW 195 [.h d,.a [.i a.1,.i a.2.1,.b a.2.2.1,.i a.2.2.2.1,.h a.2.2.2.2],.a [.i b.1,.i b.2.1,.b b.2.2.1,.i b.2.2.2.1,.h b.2.2.2.2]] (.o 0 (Ak d a b)):=by
 refine en func195 λ_ _ _=>?_
 have c:=RM d a b;exact sn [0,4,5,6] [4,5] p0<|tn [6] [] (pc 4 (QU d a b (by first|omega|(simp;omega))) (pc 5 (Bz d (V9 d a b) (by first|omega|(simp;omega))) p0))<|Qc<|po0 [] (show Ak d a b=(Zl d (V9 d a b)) from rfl)
def Hs(c:Q Qi)(names:Z)(_:H)(a:Yj)(b:Q Qi):Rd ((Q Qi)×G) (Q Qi) (Q Qi):=(bif (Up names a.1) then(.next (b++ [((a.1, []):Qi)])) else(.next (b++ [(a.1,(Yn c a.1))])))
def Bg(_:H)(a:Q Qi):(Q Qi):=a
def Fp(e:X2)(d:Q Yj)(names:Z)(f:H)(b:H)(c:Yj)(a:(Q Qi)×G):Rd (Rd (Rd ((Q Qi)×G) (Q Qi) (Q Qi)) ((Q Qi)×G) (Q Qi)) ((Q Qi)×G) ((Q Qi)×G):=(bif (((nth (((Xj d)).1) b) !=(f:Y))|| (!(Up names c.1))) then(.next (a.1,a.2)) else(bif (!(Vq (Ze e c.2 a.1) ((nth a.1 b).2))) then(.next (xH a.1 b ((nth a.1 b).1,(Ze e c.2 a.1)),X)) else(.next (a.1,a.2))))
def Mi(_:H)(a:(Q Qi)×G):(Q Qi)×G:=(a.1,a.2)
def Ws(c:X2)(d:Q Yj)(names:Z)(e:H)(a:(Q Qi)×G):Rd (Rd ((Q Qi)×G) (Q Qi) (Q Qi)) ((Q Qi)×G) (Q Qi):=(bif a.2 then(Out.on (X5 (Fp c d names e) Mi d 0 (a.1,W)) (λb=>(.next (b.1,b.2)))) else(.brk a.1))
def Fq(a:X2)(d:Q Yj)(names:Z)(b:H)(c:Q Qi):Rd ((Q Qi)×G) (Q Qi) (Q Qi):=(Out.on (N2 (Ws a d names b) (zF d*zF a.2.1+2) (c,X)) (λe=>(.next e)))
def Mj(_:H)(a:Q Qi):(Q Qi):=a
def V5(a:X2)(d:Q Yj)(b:Q Qi)(names:Z):(Q Qi)×G:=(bif ((!(((Xj d)).2))|| (!(Xa a))) then([],W) else(Out.on (X5 (Hs b names) Bg d 0 []) (λc=>(Out.on (Vj (Fq a d names) Mj ((V3 d)+1).toNat 0 c) (λe=>(e,X))))))
theorem Qsn(l:Z)(s:O):Up l s=Qx l s:=by rw[xC,GL,El]
section
variable {s_:X2} {d:Q Yj} {a_:Q Qi} {names:Z} {k1:H} {o:Q Qi}
theorem Qms(e:X2)(d:Q Yj)(names:Z)(b:H):Qme e d (Qr d).1 (onD d names) (b:Y) (Fp e d names b):=by
 intro k a o c f;have ha:nth d k=a:=T7 f;unfold Fp Qa6 onD;rw[ha,DK,Uo,←Qz0,Qsn];simp only[bne];cases(nth (Qr d).1 k==(b:Y))<;>cases Qx names a.1<;>rfl
theorem Qbg(a:X2)(d:Q Yj)(names:Z)(b:H)(o:Q Qi)(p:Y)(c:G):Qyt (Vx a d names b (o,p,c)) (Ws a d names b (o,c)):=by
 unfold Vx Ws;cases c with
 | false=>rfl
 | true=>
  simp only[uA];rw[HZ (e:=Dn) (ZU a d names b) (λ_ _=>rfl) d 0 o W rfl,HZ (e:=Mi) (Qms a d names b) (λ_ _=>rfl) d 0 o W rfl];rfl
theorem Qgu(a:((Xj d)).2=X)(h:EvS d ((Xj d)).1 (onD d names) s_.2.1 (k1:Y) o):∃o',whl (Ws s_ d names k1) (zF d*zF s_.2.1+2) (o,X)=uC (.brk o')/\EvS d ((Xj d)).1 (onD d names) s_.2.1 ((k1:Y)+1) o':=by
 rw[Uo] at a h⊢;obtain⟨o',b,c,e⟩:=Ll (p:=0) a h;exact⟨o',RL (Qbg s_ d names k1) _ o 0 X (o',b) c,e⟩
theorem Qw0(a:((Xj d)).2=X)(h:EvS d ((Xj d)).1 (onD d names) s_.2.1 (((k1:H)):Y) o):(whl (Ws s_ d names k1) (zF d*zF s_.2.1+2) (o,X)).isSome=X:=by
 obtain⟨c,b,_⟩:=Qgu a h;rw[b];rfl
theorem WU{y:Q Qi}(b:((Xj d)).2=X)(h:EvS d ((Xj d)).1 (onD d names) s_.2.1 (((k1:H)):Y) o)(a:N2 (Ws s_ d names k1) (zF d*zF s_.2.1+2) (o,X)= .brk y):EvS d ((Xj d)).1 (onD d names) s_.2.1 ((((k1+1):H)):Y) y:=by
 obtain⟨c,f,g⟩:=Qgu b h;unfold N2 at a;rw[f] at a;have e:c=y:=by simpa using a
 rw[←e,xD];exact g
theorem Qmt:(∀k (a:Yj) s,Hs a_ names k a s= .next (s++ [(a.1,Ni a_ names a)])):=λk a s=>by
 unfold Hs Ni;rw[Qsn,←Ql5];cases Qx names a.1<;>rfl
theorem It(b:X5 (Hs a_ names) Bg d 0 []= .brk o):EvS d ((Xj d)).1 (onD d names) s_.2.1 (((0:H)):Y) o:=by
 obtain⟨h,i⟩:=ZA (L:=((Xj d)).1) (on:=onD d names) (fs:=s_.2.1) (g:=Ni a_ names) (f:=Hs a_ names) (e:=Bg) (d:=d) Qmt (λj _ c=>by unfold onD at c;unfold Ni;rw[c];rfl);rw[h] at b;have e:(d.map λa=>((a.1,Ni a_ names a):Qi))=o:=Out.brk.inj b;rw[←e];exact i
end
theorem CH(a:X2)(d:Q Yj)(q:Q Qi)(names:Z):ACalls uW 254 [.a [.h a.1,.h a.2.1,.i a.2.2],.h d,.h q,.h names] (.tup [(W, [.o 0 (((V5 a d q names)).1)]),(W, [.b (((V5 a d q names)).2)])]):=by
 refine en func254 λ_ _ _=>sn [1,2,3,4,8,9] [4] p0 ?_
 refine tn [1,2,3,4,8,9,10,11] [4] (pc 1 (Re d) p0)<|Qa<|Qa<|mz [(4,.p 4 0),(8,.e 0),(9,.b W),(10,.o 1344 (((Xj d)).1)),(11,.b (((Xj d)).2))] [0] [(4, [.h a.1,.h a.2.1,.i a.2.2])] []<|jn [(30,.b ((!(((Xj d)).2))|| (!(Xa a))))] [11] [] [] (!(((Xj d)).2)) (λh1=>?_) (λh1=>?_) ?_
 ·have v:(((Xj d)).2)=W:=Kj h1;exact ru [(30,.b X)] [11] [] [] (pf 0 v (pe 1 (show .b (!W)= .b X from rfl) p0))<|zA (by rw[h1]<;>kernel_rfl)
 ·have v:(((Xj d)).2)=X:=Yu h1;have ak:=Oj v;exact rn [1,2,3,4,8,9,10,30] [4] (pt 0 v (pe 1 (show .b (!X)= .b W from rfl) (pc 4 (Kf a) p0)))<|zA (by rw[h1]<;>kernel_rfl)
 refine ck ((!(((Xj d)).2))|| (!(Xa a))) (λh2=>?_) (λh2=>?_)
 ·exact sn [1,2,3,4,8,9,10] [4] p0<|Qc<|pz [] (show V5 a d q names=_ from Qu h2 rfl) (λz=> .tup [(W, [.o 0 z.1]),(W, [.b z.2])])
 have al:((!(((Xj d)).2)))=W:=Sl h2;have aa:(((Xj d)).2)=X:=Yu al;have aj:=Oj aa;have am:((!(Xa a)))=W:=Rz h2;have av:(Xa a)=X:=Yu am;refine Qd<|sn [1,2,3,4,8,9,10,12] [4] p0<|Qa<|tn [1,2,3,4,8,9,10,12,13] [4] p0<|mz [(12,.one (.slc (.own X 2048) 2 [])),(13,.i 0)] [30] [] []<|wT 1 0 .sh d (λb3 b4=>?_)
 refine HN (Hs q names) Bg d [] (λu g=> [(12,.o 104 g),(13,.i (u:Y))]) [12,13] (λy0=> [(12,.o 105 y0)]) [2,12,13] (λu g=>zF g<=u) (wsf [(2048,104)]) (by simp) (λu g x U=>?_) (λu g x U=>?_) (λy0 e=>?_)
 ·have a1:=U.2;obtain⟨f,V⟩:=Xn (l:=d) (i:=u) x;refine Qa<|su [(36,.b X)] [] [] [] (pl 2 d (pe 3 (zB ((u:Y)<(d.length:Y))) p0))<|ckT<|Qd<|Qa<|Qn<|sN [1,2,3,4,8,9,10,12,13,14] [4,14] (pn 2 V (pn 8 V (pc 11 (Lh q f.1) p0)))<|Qa<|tn [1,2,3,4,8,9,10,12,13,14,55] [4,14] (pc 3 (Rl names f.1) p0)<|ck (Up names f.1) (λh5=>?_) (λh5=>?_)
  ·refine qu [(14,.p 14 0)] [36] [(14, [.s f.1,.slc (.own X 3584) 1 []])] [] p0 ?_;refine wT 12 0 (.own X 104) g (λb5 b6=>?_);refine ru [(12,.one (.slc (.own X 3904) 2 (eA g ((f.1, []):Qi))))] [12,14] [] [14] (pa g [((f.1, []):Qi)] p0) ?_;refine eqn [(12,.o 3904 (g++ [((f.1, []):Qi)]))] [12] [] [] (by rw[Wu]<;>kernel_rfl) ?_;refine rn [1,2,3,4,8,9,10,12,13] [4] (pw 1 u p0) ?_;exact zJ (g++ [((f.1, []):Qi)]) (zM (wsf [(3904,104)]) ⟨Qp V (Qu h5 rfl) U.1,by first|omega|(simp;omega) | simp⟩)
  refine Qd<|wT 12 0 (.own X 104) g (λb7 b8=>?_)
  refine qu [(12,.one (.slc (.own X 3904) 2 (eA g (f.1,(Yn q f.1)))))] [12,36] [] [] (pa g [(f.1,(Yn q f.1))] p0) ?_;refine eqn [(12,.o 3904 (g++ [(f.1,(Yn q f.1))]))] [12] [] [] (by rw[Wu]<;>kernel_rfl) ?_;refine rn [1,2,3,4,8,9,10,12,13] [4] (pw 1 u p0) ?_;exact zJ (g++ [(f.1,(Yn q f.1))]) (zM (wsf [(3904,104)]) ⟨Qp V (Qh h5 rfl) U.1,by first|omega|(simp;omega) | simp⟩)
 ·have a1:=U.2;exact Qa<|su [(36,.b W)] [] [] [] (pl 2 d (pe 3 (zC ((u:Y)<(d.length:Y))) p0))<|ckF<|Qv<|zJ _ (zM (wsf [(104,105)]) (Xo x rfl U.1))
 refine Qa<|su [(15,.i 0)] [] [] [] p0<|Qpz (Fq a d names) Mj ((V3 d)+1).toNat y0 (λk1 w=> [(12,.o 105 w),(15,.i (k1:Y))]) [12,15] (λ_ _=> []) [] (λy1=> [(12,.o 105 y1)]) [1,3,4,10,12,15] (λ_=> []) [4] (λk1 w=>EvS d ((Xj d)).1 (onD d names) a.2.1 (((k1:H)):Y) w/\zF w=zF d) wf0 ⟨(by first | exact It e | exact It e.1 | exact Dw (fs:=a.2.1) (It e) | exact Dw (fs:=a.2.1) (It e.1)),(by first | exact It e | exact It e.1 | exact Dw (fs:=a.2.1) (It e) | exact Dw (fs:=a.2.1) (It e.1))⟩ (λk1 w a2 j=>?_) (λk1 w a2 j=>?_) (λy1 an=>?_)
 ·have a4:=j.2.1;have a5:=j.2.2;refine Qa<|su [(65,.b X)] [] [] [] (pc 2 (Gt d) (pe 3 (zB ((k1:Y)<=(V3 d))) p0))<|ckT<|Qd<|Qa<|Qn<|su [(16,.b X)] [65] [] [] p0<|blw (λ(p:(Q Qi)×G)=> [(12,.o 105 p.1),(16,.b p.2)]) [12,16] (λp=> []) [] (λ(y2:Q Qi)=> [(12,.o 105 y2)]) [12,16] (λy2=> []) [] (λ(k2:H) (p:(Q Qi)×G)=>whl (Ws a d names k1) k2 p=uC (N2 (Ws a d names k1) (zF d*zF a.2.1+2) (w,X))/\zF p.1=zF d) (λ(y2:Q Qi)=>(N2 (Ws a d names k1) (zF d*zF a.2.1+2) (w,X))= .brk y2) (zF d*zF a.2.1+2) (w,X) wf0 ⟨Mv (Qw0 (by assumption) (by assumption)),(by assumption)⟩ (λ_ h=>P9 h.1) (λk2 p a6=>?_) (λy2 ao=>?_)
  ·have ap:=a6.2;refine Qa<|su [(68,.b p.2)] [] [] [] p0<|ck p.2 (λa7=>?_) (λa7=>?_)
   ·refine Qd<|Qn<|su [(16,.b W)] [16,68] [] [] p0<|su [(17,.i 0)] [] [] [] p0<|SW (Fp a d names k1) Mi d (p.1,W) (λc b=> [(12,.o 105 b.1),(16,.b b.2),(17,.i (c:Y))]) [12,16,17] (λy3=> [(12,.o 105 y3.1),(16,.b y3.2)]) [12,16,17] (λ_ b=>zF b.1=zF p.1) (λy3=>zF y3.1=zF p.1) wf0 (by simp) (λc b a8 k=>?_) (λc b a8 k=>?_) (λy3 ab=>?_)
    ·have a9:=k.2;obtain⟨n,r⟩:=Xn (l:=d) (i:=c) a8;refine Qa<|su [(72,.b X)] [] [] [] (pl 2 d (pe 3 (zB ((c:Y)<(d.length:Y))) p0))<|ckT<|Qd<|Qa<|Qn<|Qa<|Qa<|jn [(90,.b (((nth (((Xj d)).1) c) !=(k1:Y))|| (!(Up names n.1))))] [72] [] [] ((nth (((Xj d)).1) c) !=(k1:Y)) (λm=>?_) (λm=>?_) ?_
     ·have ad:=Sk m;refine wT 10 0 (.own X 1344) (((Xj d)).1) (λaw ax=>?_);have ae:=ng (((Xj d)).1) c;exact ru [(90,.b X)] [72] [] [] (pN 2 ae (pt 5 m p0))<|zA (by rw[m]<;>kernel_rfl)
     ·have ad:=Ut m;refine wT 10 0 (.own X 1344) (((Xj d)).1) (λay az=>?_);have af:=ng (((Xj d)).1) c;exact rn [1,3,4,8,9,10,12,15,16,17,90] [4] (pN 2 af (pf 5 m (pn 10 r (pc 13 (Rl names n.1) p0))))<|zA (by rw[m]<;>kernel_rfl)
     refine ck (((nth (((Xj d)).1) c) !=(k1:Y))|| (!(Up names n.1))) (λo=>?_) (λo=>?_)
     ·refine Qv<|rn [1,3,4,8,9,10,12,15,16,17] [4] (pw 1 c p0) ?_
      exact xw (b.1,b.2) ⟨Qp r (Qu o rfl) k.1,(by first|omega|(simp only[zV];omega))⟩
     have ag:(((nth (((Xj d)).1) c) !=(k1:Y)))=W:=Sl o;have aq:=Ut ag;have ah:((!(Up names n.1)))=W:=Rz o;have ar:(Up names n.1)=X:=Yu ah;refine Qd<|sN [1,3,4,8,9,10,12,15,16,17,18] [4] (pn 3 r (pc 7 (Sr a n.2 b.1) p0))<|wT 12 0 (.own X 105) b.1 (λb1 b2=>?_)
     have s:=ng b.1 c;refine tn [1,3,4,8,9,10,12,15,16,17,18,106] [4] (pN 3 s (pc 6 (Od (Ze a n.2 b.1) ((nth b.1 c).2)) p0))<|ck (!(Vq (Ze a n.2 b.1) ((nth b.1 c).2))) (λt=>?_) (λt=>?_)
     ·have ai:(Vq (Ze a n.2 b.1) ((nth b.1 c).2))=W:=Kj t;refine tu [(12,.one (.slc (.own X 105) 2 (setRow (eL b.1) c 1 [.h (Ze a n.2 b.1)])))] [12,90] [] [] (pN 3 s p0) ?_;refine eqn [(12,.o 105 (xH b.1 c ((nth b.1 c).1,(Ze a n.2 b.1))))] [12] [] [] (by rw[Wd (y:=((nth b.1 c).1,(Ze a n.2 b.1))) s rfl]<;>kernel_rfl) ?_;refine ru [(16,.b X)] [16] [] [] p0 ?_;refine rn [1,3,4,8,9,10,12,15,16,17] [4] (pw 1 c p0) ?_;exact xw (xH b.1 c ((nth b.1 c).1,(Ze a n.2 b.1)),X) ⟨Qp r (Qh o (Qu t rfl)) k.1,(by first|omega|(simp only[zV];omega))⟩
     have ai:(Vq (Ze a n.2 b.1) ((nth b.1 c).2))=X:=Yu t;refine Qd<|qu [(17,.i ((c+1:H):Y))] [17,90] [] [] (pw 1 c p0) ?_
     exact xw (b.1,b.2) ⟨Qp r (Qh o (Qh t rfl)) k.1,(by first|omega|(simp only[zV];omega))⟩
    ·have a9:=k.2;exact Qa<|su [(72,.b W)] [] [] [] (pl 2 d (pe 3 (zC ((c:Y)<(d.length:Y))) p0))<|ckF<|Qv<|xw (b.1,b.2) ⟨Xo a8 rfl k.1,by first|omega|(simp only[zV];omega)⟩
    have au:=ab.2;exact xw (y3.1,y3.2) ⟨wn a6.1 (Qu a7 (Vz ab.1 rfl)),(by first|omega|(simp only[zV];omega))⟩
   exact Qv<|xw _ (wb a6.1 (Qh a7 rfl))
  refine rn [1,3,4,8,9,10,12,15] [4] (pw 1 k1 p0) ?_;exact xw y2 ⟨Kb a2 (Vz ao rfl) j.1,(by first | exact WU (by assumption) (by assumption) (by assumption) | exact Dw (fs:=a.2.1) (WU (by assumption) (by assumption) (by assumption))),(by first | exact WU (by assumption) (by assumption) (by assumption) | exact Dw (fs:=a.2.1) (WU (by assumption) (by assumption) (by assumption)))⟩
 ·have a4:=j.2.1;have a5:=j.2.2;exact Qa<|su [(65,.b W)] [] [] [] (pc 2 (Gt d) (pe 3 (zC ((k1:Y)<=(V3 d))) p0))<|ckF<|Qv<|xw _ (Hu a2 rfl j.1)
 exact sn [8,9] [] p0<|Qc<|pz [] (show V5 a d q names=_ from Qh h2 (Vz e (Vz an rfl))) (λz=> .tup [(W, [.o 0 z.1]),(W, [.b z.2])])
def Zw(a:X2)(f:Xt):X2×G:=(bif ((!(Xa (Qg a)))|| (decide ((Xg (Qg a) f.1)<(0:Y))|| (!(Yq ((Qg a).1) f)))) then((Qg a),W) else(((Qg a).1,xH ((Qg a).2.1) (Xg (Qg a) f.1).toNat (Q3 f),(Qg a).2.2),X))
theorem Qeh{s:X2}{f:Xt}(h:(Zw s f).2=X):Xa s=X/\zF f.2.2.2.2<=5:=by
 unfold Zw at h;rw[Qqx] at h;cases a:Xa s with
 | false=>rw[a] at h;simp at h
 | true=>
  refine⟨rfl, ?_⟩;cases b:Yq s.1 f with
  | true=>exact KH ((FM s.1 f).symm.trans b)
  | false=>
   rw[a,b] at h;simp at h
theorem Qei{s:X2}(h:Xa s=X)(a:Y):zF (Xz s a).1.2.2.2.2<=5:=by
 unfold Xz;by_cases b:Xg s a<(0:Y)
 . rw[uG b,uA];exact yA _
 rw[uE b,D];have c:=AA s a;exact BL ((D2 s).symm.trans h) (zL (Hn (l:=s.2.1) (i:=zK (Xg s a)) (by omega)))
theorem AE(a:X2)(f:Xt):ACalls uW 194 [.a [.h a.1,.h a.2.1,.i a.2.2],.a [.i f.1,.i f.2.1,.b f.2.2.1,.i f.2.2.2.1,.h f.2.2.2.2]] (.tup [(X, [.o 0 ((((Zw a f)).1).1),.o 1 ((((Zw a f)).1).2.1),.i ((((Zw a f)).1).2.2)]),(W, [.b (((Zw a f)).2)])]):=by
 refine en func194 λ_ _ _=>sn [2,3,4,5] [2,3,4] p0 ?_
 refine tn [2,3,4,5] [2,3,4] (pc 1 (Lt a) p0)<|tu [(2,.p 2 0),(3,.p 3 0),(4,.p 4 0),(5,.b W),(6,.i (Xg (Qg a) f.1))] [0,1] [(2, [.o 512 ((Qg a).1),.o 513 ((Qg a).2.1),.i ((Qg a).2.2)]),(3, [.i f.1,.i f.2.1,.b f.2.2.1,.i f.2.2.2.1,.h f.2.2.2.2]),(4, [.e 2,.e 5,.i 0])] [] (pc 3 (R7 (Qg a) f.1) p0)<|Qa<|Qa<|jn [(26,.b ((!(Xa (Qg a)))|| (decide ((Xg (Qg a) f.1)<(0:Y))|| (!(Yq ((Qg a).1) f)))))] [] [] [] (!(Xa (Qg a))) (λc=>?_) (λc=>?_) ?_
 ·have b:(Xa (Qg a))=W:=Kj c;exact ru [(26,.b X)] [] [] [] (pc 1 (cb b (Kf (Qg a))) (pe 2 (show .b (!W)= .b X from rfl) p0))<|zA (by rw[c]<;>kernel_rfl)
 ·have b:(Xa (Qg a))=X:=Yu c;refine Ye (decide ((Xg (Qg a) f.1)<(0:Y))) (λd=>?_) (λd=>?_)
  ·exact ru [(26,.b X)] [] [] [] (pc 1 (cb b (Kf (Qg a))) (pe 2 (show .b (!X)= .b W from rfl) (pt 5 d p0)))<|zA (by rw[c,d]<;>kernel_rfl)
  have l:=AA (Qg a) f.1;exact rn [2,3,4,5,6,26] [2,3,4] (pc 1 (cb b (Kf (Qg a))) (pe 2 (show .b (!X)= .b W from rfl) (pf 5 d (pc 11 (Bc ((Qg a).1) f) p0))))<|zA (by rw[c,d]<;>kernel_rfl)
 refine ck ((!(Xa (Qg a)))|| (decide ((Xg (Qg a) f.1)<(0:Y))|| (!(Yq ((Qg a).1) f)))) (λh=>?_) (λh=>?_)
 ·exact sn [2,3,4,5,6] [2,3,4] p0<|Qc<|pz [] (show Zw a f=_ from Qu h rfl) (λz=> .tup [(X, [.o 0 z.1.1,.o 1 z.1.2.1,.i z.1.2.2]),(W, [.b z.2])])
 have i:((decide ((Xg (Qg a) f.1)<(0:Y))|| (!(Yq ((Qg a).1) f))))=W:=Rz h;have e:(decide ((Xg (Qg a) f.1)<(0:Y)))=W:=Sl i;have j:=AA (Qg a) f.1;have k:=uH e;refine Qd<|wB 2 1 (.own X 513) ((Qg a).2.1) (λm n=>?_)
 have g:=ng ((Qg a).2.1) (Xg (Qg a) f.1).toNat;refine sU [] [3,6,26] [(2, [.o 512 ((Qg a).1),.slc (.own X 513) 5 (setRow (eL ((Qg a).2.1)) (Xg (Qg a) f.1).toNat 0 [.i ((Q3 f).1),.i ((Q3 f).2.1),.b ((Q3 f).2.2.1),.i ((Q3 f).2.2.2.1),.h ((Q3 f).2.2.2.2)]),.i ((Qg a).2.2)])] [2,3] (pc 4 (Ol f) (pG 5 (Xg (Qg a) f.1) g p0)) ?_;refine eqn [] [] [(2, [.o 512 ((Qg a).1),.o 513 (xH ((Qg a).2.1) (Xg (Qg a) f.1).toNat (Q3 f)),.i ((Qg a).2.2)])] [2] (by rw[Wd (y:=(Q3 f)) g rfl]<;>kernel_rfl) ?_;exact sn [4,5] [4] p0<|Qc<|pz [] (show Zw a f=_ from Qh h rfl) (λz=> .tup [(X, [.o 0 z.1.1,.o 1 z.1.2.1,.i z.1.2.2]),(W, [.b z.2])])
def M3(_:H)(a:Yj)(b:Q Yj):Rd (Q Yj) (Q Yj) (Q Yj):=(.next (b++ [a]))
def Sc(_:H)(a:Q Yj):(Q Yj):=a
def Vt(d:Q Yj):(Q Yj):=(Out.on (X5 M3 Sc d 0 []) (λa=>a))
theorem A0(d:Q Yj):ACalls uW 89 [.h d] (.o 0 (Vt d)):=by
 refine en func89 λ_ _ _=>sn [0,2] [] p0 ?_
 refine tn [0,2,3] [] p0<|Qa<|tu [(2,.e 0),(3,.one (.slc (.own X 320) 2 [])),(4,.i 0)] [] [] [] p0<|wT 0 0 .sh d (λg k=>?_)
 refine HN M3 Sc d [] (λb a=> [(3,.o 104 a),(4,.i (b:Y))]) [3,4] (λj=> [(3,.o 105 j)]) [0,3,4] (λb a=>zF a<=b) (wsf [(320,104)]) (by simp) (λb a e U=>?_) (λb a e U=>?_) (λj h=>?_)
 ·have f:=U.2;obtain⟨c,V⟩:=Xn (l:=d) (i:=b) e;refine Qa<|sn [0,2,3,4,9] [] (pl 2 d (pe 3 (zB ((b:Y)<(d.length:Y))) p0))<|ckT<|Qd<|Qa<|Qn ?_
  have m:zF c.2<=1073741824:=N9 (PO (PN V (g)));refine wT 3 0 (.own X 104) a (λo p=>?_);refine qU [(3,.one (.slc (.own X 1728) 2 (eA a c)))] [3] [] [] (pn 3 V (pn 9 V (po 12 (.flat) (px (L7 (n:=(([]:Q (Q PV)).length+((eL c.2):Q (Q PV)).length)) (N1 rfl (Zv c.2) (by first|omega|(simp only[List.length_cons,List.length_nil];omega) | (simp;omega) | simp))) (px (G1 (Ea c.2)) (px (L7 (n:=(((eL a):Q (Q PV)).length+([[.s c.1,.slc 7 ([]++(eL c.2))]]:Q (Q PV)).length)) (N1 (Zv a) rfl (by first|omega|(simp only[List.length_cons,List.length_nil];omega) | (simp;omega) | simp))) p0)))))) ?_;refine eqn [(3,.o 1728 (a++ [c]))] [3] [] [] (by rw[Wu]<;>kernel_rfl) ?_;refine rn [0,2,3,4] [] (pw 1 b p0) ?_;exact zJ (a++ [c]) (zM (wsf [(1728,104)]) ⟨Qp V rfl U.1,by first|omega|(simp;omega) | simp⟩)
 ·have f:=U.2;exact Qa<|sn [0,2,3,4,9] [] (pl 2 d (pe 3 (zC ((b:Y)<(d.length:Y))) p0))<|ckF<|Qv<|zJ _ (zM (wsf [(104,105)]) (Xo e rfl U.1))
 exact sn [2] [] p0<|Qc<|po0 [] (Vz h rfl)
def Fr(x:Yj)(_:H)(b:Yj)(a:(Q Yj)×G):Rd ((Q Yj)×G) ((Q Yj)×G) ((Q Yj)×G):=(bif ((!a.2)&&(!(Op.bytesLess b.1.toList x.1.toList))) then(bif (!(b.1.toList==x.1.toList)) then(.next (a.1++ [x]++ [b],X)) else(.next (a.1++ [x],X))) else(bif (!(b.1.toList==x.1.toList)) then(.next (a.1++ [b],a.2)) else(.next (a.1,a.2))))
def Ly(_:H)(a:(Q Yj)×G):(Q Yj)×G:=(a.1,a.2)
def Jp(d:Q Yj)(x:Yj):(Q Yj)×G:=(bif (!(Y6 d)) then((Vt d),W) else(Out.on (X5 (Fr x) Ly d 0 ([],W)) (λa=>(bif (!a.2) then(bif (!(Y6 (a.1++ [x]))) then((Vt d),W) else((Vt (a.1++ [x])),X)) else(bif (!(Y6 a.1)) then((Vt d),W) else((Vt a.1),X))))))
theorem Qbh(d:Q Yj)(x:Yj):ACalls uW 197 [.h d,.a [.s x.1,.h x.2]] (.tup [(W, [.o 0 (((Jp d x)).1)]),(W, [.b (((Jp d x)).2)])]):=by
 refine en func197 λ_ _ _=>sn [0,3,4,5] [3] p0 ?_
 refine Qa<|tn [0,3,4,5,11] [3] (pc 1 (Ba d) p0)<|ck (!(Y6 d)) (λk=>?_) (λk=>?_)
 ·exact tu [(3,.p 3 0),(4,.o 832 (Vt d)),(5,.b W)] [1] [(3, [.s x.1,.h x.2])] [] (pc 1 (A0 d) p0)<|Qc<|pz [] (show Jp d x=_ from Qu k rfl) (λz=> .tup [(W, [.o 0 z.1]),(W, [.b z.2])])
 have q:(Y6 d)=X:=Yu k;have a2:=Qly q;have a3:=Hl ((Dz _).trans q);refine Qd<|tu [(3,.p 3 0),(4,.e 0),(5,.b W),(6,.one (.slc (.own X 896) 2 []))] [1] [(3, [.s x.1,.h x.2])] [] p0<|sn [0,3,4,5,6,7] [3] p0<|Qa<|tn [0,3,4,5,6,7,8] [3] p0<|mz [(7,.b W),(8,.i 0)] [] [] []<|wT 0 0 .sh d (λa9 aa=>?_)
 refine SW (Fr x) Ly d ([],W) (λc a=> [(6,.q 104 a.1),(7,.b a.2),(8,.i (c:Y))]) [6,7,8] (λb=> [(6,.q 105 b.1),(7,.b b.2)]) [6,7,8] (λc a=>zF a.1<=2*c) (λb=>zF b.1<=10) (wgf [] [] [896] [(896,104)]) (by simp) (λc a m U=>?_) (λc a m U=>?_) (λb f=>?_)
 ·have n:=U.2;obtain⟨e,V⟩:=Xn (l:=d) (i:=c) m;refine Qa<|su [(18,.b X)] [] [] [] (pl 2 d (pe 3 (zB ((c:Y)<(d.length:Y))) p0))<|ckT<|Qd<|Qa<|Qn<|Qa<|Qa<|jn [(32,.b ((!a.2)&&(!(Op.bytesLess e.1.toList x.1.toList))))] [18] [] [] (!a.2) (λr=>?_) (λr=>?_) ?_
  ·have o:(a.2)=W:=Kj r;exact rN [0,3,4,5,6,7,8,32] [3] (pf 0 o (pe 1 (show .b (!W)= .b X from rfl) (pn 5 V p0)))<|zA (by rw[r]<;>kernel_rfl)
  ·have o:(a.2)=X:=Yu r;exact rU [(32,.b W)] [18] [] [] (pt 0 o (pe 1 (show .b (!X)= .b W from rfl) p0))<|zA (by rw[r]<;>kernel_rfl)
  refine ck ((!a.2)&&(!(Op.bytesLess e.1.toList x.1.toList))) (λs=>?_) (λs=>?_)
  ·refine wT 6 0 (.own W 104) a.1 (λab ad=>?_);refine su [(6,.one (.slc (.own W 2304) 2 (eA a.1 x)))] [6,32] [] [] (pa a.1 [x] p0) ?_;refine eqn [(6,.q 2304 (a.1++ [x]))] [6] [] [] (by rw[Wu]<;>kernel_rfl) ?_;refine ru [(7,.b X)] [7] [] [] p0 ?_;refine sN [0,3,4,5,6,7,8,44] [3] (pn 2 V p0)<|ck (!(e.1.toList==x.1.toList)) (λv=>?_) (λv=>?_)
   ·refine wT 6 0 (.own W 2304) (a.1++ [x]) (λae a4=>?_);refine qu [(6,.one (.slc (.own W 3264) 2 (eA (a.1++ [x]) e)))] [6] [] [] (pn 3 V (pa (a.1++ [x]) [e] p0)) ?_;refine eqn [(6,.q 3264 (a.1++ [x]++ [e]))] [6] [] [] (by rw[Wu (a.1++ [x])]<;>kernel_rfl) ?_;refine rn [0,3,4,5,6,7,8] [3] (pw 1 c p0) ?_;exact zJ (a.1++ [x]++ [e],X) (zM (wsf [(3264,104)]) ⟨Qp V (Qu s (Qu v rfl)) U.1,(by first|omega|(simp;omega))⟩)
   refine Qd<|qn [0,3,4,5,6,7,8] [3] (pw 1 c p0) ?_
   exact zJ (a.1++ [x],X) (zM (wsf [(2304,104)]) ⟨Qp V (Qu s (Qh v rfl)) U.1,(by first|omega|(simp;omega))⟩)
  refine Qd<|sN [0,3,4,5,6,7,8,44] [3] (pn 2 V p0)<|ck (!(e.1.toList==x.1.toList)) (λp=>?_) (λp=>?_)
  ·refine wT 6 0 (.own W 104) a.1 (λa5 a6=>?_);refine qu [(6,.one (.slc (.own W 3264) 2 (eA a.1 e)))] [6,32] [] [] (pn 3 V (pa a.1 [e] p0)) ?_;refine eqn [(6,.q 3264 (a.1++ [e]))] [6] [] [] (by rw[Wu]<;>kernel_rfl) ?_;refine rn [0,3,4,5,6,7,8] [3] (pw 1 c p0) ?_;exact zJ (a.1++ [e],a.2) (zM (wsf [(3264,104)]) ⟨Qp V (Qh s (Qu p rfl)) U.1,(by first|omega|(simp;omega))⟩)
  refine Qd<|qn [0,3,4,5,6,7,8] [3] (pw 1 c p0) ?_
  exact xw (a.1,a.2) ⟨Qp V (Qh s (Qh p rfl)) U.1,(by first|omega|(simp;omega))⟩
 ·have n:=U.2;exact Qa<|su [(18,.b W)] [] [] [] (pl 2 d (pe 3 (zC ((c:Y)<(d.length:Y))) p0))<|ckF<|Qv<|zJ (a.1,a.2) (zM (wsf [(104,105)]) ⟨Xo m rfl U.1,by first|omega|(simp only[zV];omega)⟩)
 have w:=f.2;refine Qa<|sn [0,3,4,5,6,53] [3] p0<|ck (!b.2) (λg=>?_) (λg=>?_)
 ·refine wT 6 0 (.own W 105) b.1 (λa7 a8=>?_);refine qu [(6,.one (.slc (.own W 3648) 2 (eA b.1 x)))] [3,6,7] [] [3] (pa b.1 [x] p0) ?_;refine eqn [(6,.q 3648 (b.1++ [x]))] [6] [] [] (by rw[Wu]<;>kernel_rfl) ?_;refine Qa<|sn [0,4,5,6,60] [] (pc 1 (Ba (b.1++ [x])) p0)<|ck (!(Y6 (b.1++ [x]))) (λh=>?_) (λh=>?_)
  ·exact tn [4,5,6] [] (pc 1 (A0 d) p0)<|Qc<|pz [] (show Jp d x=_ from Qh k (Vz f.1 (Qu g (Qu h rfl)))) (λz=> .tup [(W, [.o 0 z.1]),(W, [.b z.2])])
  have t:(Y6 (b.1++ [x]))=X:=Yu h;have y:=Hl ((Dz _).trans t);exact Qd<|tn [4,5] [] (pc 1 (A0 (b.1++ [x])) p0)<|Qc<|pz [] (show Jp d x=_ from Qh k (Vz f.1 (Qu g (Qh h rfl)))) (λz=> .tup [(W, [.o 0 z.1]),(W, [.b z.2])])
 refine Qd<|Qa<|tn [0,4,5,6,60] [] (pc 1 (Ba b.1) p0)<|ck (!(Y6 b.1)) (λj=>?_) (λj=>?_)
 ·exact tu [(4,.o 3968 (Vt d))] [0,3,4,7] [] [3] (pc 1 (A0 d) p0)<|Qc<|pz [] (show Jp d x=_ from Qh k (Vz f.1 (Qh g (Qu j rfl)))) (λz=> .tup [(W, [.o 0 z.1]),(W, [.b z.2])])
 have u:(Y6 b.1)=X:=Yu j;have a1:=Hl ((Dz _).trans u);exact Qd<|tu [(4,.o 4096 (Vt b.1)),(5,.b X)] [0,3,4,5,6,7] [] [3] (pc 1 (A0 b.1) p0)<|Qc<|pz [] (show Jp d x=_ from Qh k (Vz f.1 (Qh g (Qh j rfl)))) (λz=> .tup [(W, [.o 0 z.1]),(W, [.b z.2])])
def Nz(a:O)(_:H)(b:Yj)(c:Q Yj):Rd ((Q Yj)×G) (Q Yj) (Q Yj):=(bif (!(b.1.toList==a.toList)) then(.next (c++ [b])) else(.next c))
def N0(_:H)(a:Q Yj):(Q Yj):=a
def Vh(d:Q Yj)(a:O):(Q Yj)×G:=(bif ((!(Y6 d))|| decide ((Xv d a)<(0:Y))) then((Vt d),W) else(Out.on (X5 (Nz a) N0 d 0 []) (λb=>((Vt b),X))))
theorem Qqy{d:Q Yj}{nm:O}(h:(Vh d nm).2=X):zF d<=5:=by
 unfold Vh at h;cases a:Y6 d with
 | false=>rw[a] at h;simp at h
 | true=>exact Hl ((Dz d).trans a)
theorem GO(d:Q Yj)(a:O):ACalls uW 199 [.h d,.s a] (.tup [(W, [.o 0 (((Vh d a)).1)]),(W, [.b (((Vh d a)).2)])]):=by
 refine en func199 λ_ _ _=>sn [0,1,4,5] [] p0 ?_
 refine Qa<|Qa<|mz [(4,.e 0),(5,.b W)] [] [] []<|jn [(16,.b ((!(Y6 d))|| decide ((Xv d a)<(0:Y))))] [] [] [] (!(Y6 d)) (λj=>?_) (λj=>?_) ?_
 ·have b:(Y6 d)=W:=Kj j;exact rn [0,1,4,5,16] [] (pc 1 (cb b (Ba d)) (pe 2 (show .b (!W)= .b X from rfl) p0))<|zA (by rw[j]<;>kernel_rfl)
 ·have b:(Y6 d)=X:=Yu j;have u:=Qly b;have v:=Hl ((Dz _).trans b);exact rn [0,1,4,5,16] [] (pc 1 (cb b (Ba d)) (pe 2 (show .b (!X)= .b W from rfl) (pc 6 (R1 d a) p0)))<|zA (by rw[j]<;>kernel_rfl)
 refine ck ((!(Y6 d))|| decide ((Xv d a)<(0:Y))) (λk=>?_) (λk=>?_)
 ·exact sn [0,1,4,5] [] (pc 1 (A0 d) p0)<|Qc<|pz [] (show Vh d a=_ from Qu k rfl) (λz=> .tup [(W, [.o 0 z.1]),(W, [.b z.2])])
 have n:((!(Y6 d)))=W:=Sl k;have f:(Y6 d)=X:=Yu n;have o:=Qly f;have p:=Hl ((Dz _).trans f);have q:(decide ((Xv d a)<(0:Y)))=W:=Rz k;have w:=uH q;refine Qd<|sn [0,1,4,5,6] [] p0<|Qa<|tn [0,1,4,5,6,7] [] p0<|mz [(6,.one (.slc (.own X 1216) 2 [])),(7,.i 0)] [16] [] []<|wT 0 0 .sh d (λx y=>?_)
 refine HN (Nz a) N0 d [] (λe c=> [(6,.q 104 c),(7,.i (e:Y))]) [6,7] (λr=> [(6,.q 105 r)]) [0,1,6,7] (λe c=>zF c<=e) (wgf [] [] [1216] [(1216,104)]) (by simp) (λe c g U=>?_) (λe c g U=>?_) (λr s=>?_)
 ·have h:=U.2;obtain⟨m,V⟩:=Xn (l:=d) (i:=e) g;refine Qa<|su [(23,.b X)] [] [] [] (pl 2 d (pe 3 (zB ((e:Y)<(d.length:Y))) p0))<|ckT<|Qd<|Qa<|Qn<|sn [0,1,4,5,6,7,32] [] (pn 2 V p0)<|ck (!(m.1.toList==a.toList)) (λt=>?_) (λt=>?_)
  ·refine wT 6 0 (.own W 104) c (λa1 a2=>?_);refine qu [(6,.one (.slc (.own W 2496) 2 (eA c m)))] [6,23] [] [] (pn 3 V (pa c [m] p0)) ?_;refine eqn [(6,.q 2496 (c++ [m]))] [6] [] [] (by rw[Wu]<;>kernel_rfl) ?_;refine rn [0,1,4,5,6,7] [] (pw 1 e p0) ?_;exact zJ (c++ [m]) (zM (wsf [(2496,104)]) ⟨Qp V (Qu t rfl) U.1,by first|omega|(simp;omega) | simp⟩)
  refine Qd<|qn [0,1,4,5,6,7] [] (pw 1 e p0) ?_
  exact xw c ⟨Qp V (Qh t rfl) U.1,by first|omega|(simp;omega) | simp⟩
 ·have h:=U.2;exact Qa<|su [(23,.b W)] [] [] [] (pl 2 d (pe 3 (zC ((e:Y)<(d.length:Y))) p0))<|ckF<|Qv<|zJ _ (zM (wsf [(104,105)]) (Xo g rfl U.1))
 exact sn [4,5] [] (pc 1 (A0 r) p0)<|Qc<|pz [] (show Vh d a=_ from Qh k (Vz s rfl)) (λz=> .tup [(W, [.o 0 z.1]),(W, [.b z.2])])
def ZX(c:Q Y)(_:H)(a:Y)(b:Q Y):Rd ((Q Y)×(Q Y)) (Q Y) (Q Y):=(bif (!(Ur c a)) then(.next (b++ [a])) else(.next b))
def ZY(_:H)(a:Q Y):(Q Y):=a
def ZZ(b:Q Y)(_:H)(a:Y)(c:Q Y):Rd ((Q Y)×(Q Y)) (Q Y) (Q Y):=(bif (!(Ur b a)) then(.next (c++ [a])) else(.next c))
def JA(_:H)(a:Q Y):(Q Y):=a
def Jz(a:Q Y)(b:Q Y):(Q Y)×(Q Y):=(Out.on (X5 (ZX a) ZY b 0 []) (λc=>(Out.on (X5 (ZZ b) JA a 0 []) (λd=>(c,d)))))
theorem RN(a:Q Y)(b:Q Y):ACalls uW 138 [.h a,.h b] (.tup [(W, [.o 0 (((Jz a b)).1)]),(W, [.o 1 (((Jz a b)).2)])]):=by
 refine en func138 λ_ _ _=>sn [0,1,4,5] [] p0 ?_
 refine tn [0,1,4,5,6] [] p0<|tu [(4,.e 0),(5,.e 0),(6,.one (.slc (.own X 640) 1 [])),(7,.one (.slc (.own X 704) 1 []))] [] [] [] p0<|Qa<|su [(8,.i 0)] [] [] [] p0<|wT 1 0 .sh b (λw x=>?_)
 refine HN (ZX a) ZY b [] (λf d=> [(6,.o 104 d),(8,.i (f:Y))]) [6,8] (λt=> [(6,.o 106 t)]) [6,8] (λf d=>zF d<=f) (wsf [(640,104)]) (by simp) (λf d h U=>?_) (λf d h U=>?_) (λt p=>?_)
 ·have j:=U.2;obtain⟨n,V⟩:=Xn (l:=b) (i:=f) h;refine Qa<|su [(15,.b X)] [] [] [] (pl 2 b (pe 3 (zB ((f:Y)<(b.length:Y))) p0))<|ckT<|Qd<|Qa<|Qn<|sn [0,1,4,5,6,7,8,24] [] (pn 3 V (pc 5 (Gp a n) p0))<|ck (!(Ur a n)) (λq=>?_) (λq=>?_)
  ·refine wT 6 0 (.own X 104) d (λy a2=>?_);refine qu [(6,.one (.slc (.own X 1984) 1 (eA d n)))] [6,15] [] [] (pn 3 V (pa d [n] p0)) ?_;refine eqn [(6,.o 1984 (d++ [n]))] [6] [] [] (by rw[Wu]<;>kernel_rfl) ?_;refine rn [0,1,4,5,6,7,8] [] (pw 1 f p0) ?_;exact zJ (d++ [n]) (zM (wsf [(1984,104)]) ⟨Qp V (Qu q rfl) U.1,by first|omega|(simp;omega) | simp⟩)
  refine Qd<|qn [0,1,4,5,6,7,8] [] (pw 1 f p0) ?_
  exact xw d ⟨Qp V (Qh q rfl) U.1,by first|omega|(simp;omega) | simp⟩
 ·have j:=U.2;exact Qa<|su [(15,.b W)] [] [] [] (pl 2 b (pe 3 (zC ((f:Y)<(b.length:Y))) p0))<|ckF<|Qv<|zJ _ (zM (wsf [(104,106)]) (Xo h rfl U.1))
 refine Qa<|su [(9,.i 0)] [] [] [] p0<|wT 0 0 .sh a (λa3 a4=>?_)
 refine HN (ZZ b) JA a [] (λk1 e=> [(7,.o 105 e),(9,.i (k1:Y))]) [7,9] (λu=> [(7,.o 107 u)]) [0,1,7,9] (λk1 e=>zF e<=k1) (wsf [(704,105)]) (by simp) (λk1 e k c=>?_) (λk1 e k c=>?_) (λu r=>?_)
 ·have m:=c.2;obtain⟨o,g⟩:=Xn (l:=a) (i:=k1) k;refine Qa<|su [(35,.b X)] [] [] [] (pl 2 a (pe 3 (zB ((k1:Y)<(a.length:Y))) p0))<|ckT<|Qd<|Qa<|Qn<|sn [0,1,4,5,6,7,9,44] [] (pn 3 g (pc 5 (Gp b o) p0))<|ck (!(Ur b o)) (λs=>?_) (λs=>?_)
  ·refine wT 7 0 (.own X 105) e (λa5 v=>?_);refine qu [(7,.one (.slc (.own X 3264) 1 (eA e o)))] [7,35] [] [] (pn 3 g (pa e [o] p0)) ?_;refine eqn [(7,.o 3264 (e++ [o]))] [7] [] [] (by rw[Wu]<;>kernel_rfl) ?_;refine rn [0,1,4,5,6,7,9] [] (pw 1 k1 p0) ?_;exact zJ (e++ [o]) (zM (wsf [(3264,105)]) ⟨Qp g (Qu s rfl) c.1,by first|omega|(simp;omega) | simp⟩)
  refine Qd<|qn [0,1,4,5,6,7,9] [] (pw 1 k1 p0) ?_
  exact xw e ⟨Qp g (Qh s rfl) c.1,by first|omega|(simp;omega) | simp⟩
 ·have m:=c.2;exact Qa<|su [(35,.b W)] [] [] [] (pl 2 a (pe 3 (zC ((k1:Y)<(a.length:Y))) p0))<|ckF<|Qv<|zJ _ (zM (wsf [(105,107)]) (Xo k rfl c.1))
 exact sn [4,5] [] p0<|Qc<|pz [] (show Jz a b=_ from Vz p (Vz r rfl)) (λz=> .tup [(W, [.o 0 z.1]),(W, [.o 1 z.2])])
def Rm(b:Q Qi)(_:H)(a:Qi)(c:Q G3):Rd (Q G3) (Q G3) (Q G3):=(bif (decide (((((Jz (Yn b a.1) a.2)).1).length:Y)>(0:Y))|| decide (((((Jz (Yn b a.1) a.2)).2).length:Y)>(0:Y))) then(.next (c++ [(a.1,((Jz (Yn b a.1) a.2)).1,((Jz (Yn b a.1) a.2)).2)])) else(.next c))
def Rn(_:H)(a:Q G3):(Q G3):=a
def Ep(a:Q Qi)(b:Q Qi):(Q G3):=(Out.on (X5 (Rm a) Rn b 0 []) (λc=>c))
theorem Sy(c:Q Qi)(b:Q Qi):ACalls uW 82 [.h c,.h b] (.o 0 (Ep c b)):=by
 refine en func82 λ_ _ _=>sn [0,1,4] [] p0 ?_
 refine tn [0,1,4,5] [] p0<|Qa<|tu [(4,.e 0),(5,.one (.slc (.own X 576) 3 [])),(6,.i 0)] [] [] [] p0<|wT 1 0 .sh b (λr s=>?_)
 refine HN (Rm c) Rn b [] (λe d=> [(5,.o 104 d),(6,.i (e:Y))]) [5,6] (λo=> [(5,.o 105 o)]) [0,1,5,6] (λe d=>zF d<=e) (wsf [(576,104)]) (by simp) (λe d f U=>?_) (λe d f U=>?_) (λo k=>?_)
 ·have g:=U.2;obtain⟨a,V⟩:=Xn (l:=b) (i:=e) f;refine Qa<|sn [0,1,4,5,6,13] [] (pl 2 b (pe 3 (zB ((e:Y)<(b.length:Y))) p0))<|ckT<|Qd<|Qa<|Qn<|tN [0,1,4,5,6,7,8] [] (pn 3 V (pc 6 (Lh c a.1) (pn 9 V (pc 12 (RN (Yn c a.1) a.2) p0))))<|Qa<|mz [(7,.o 1856 (((Jz (Yn c a.1) a.2)).1)),(8,.o 1857 (((Jz (Yn c a.1) a.2)).2))] [] [] []<|jn [(39,.b (decide (((((Jz (Yn c a.1) a.2)).1).length:Y)>(0:Y))|| decide (((((Jz (Yn c a.1) a.2)).2).length:Y)>(0:Y))))] [] [] [] (decide (((((Jz (Yn c a.1) a.2)).1).length:Y)>(0:Y))) (λh=>?_) (λh=>?_) ?_
  ·exact ru [(39,.b X)] [] [] [] (pl 1 (((Jz (Yn c a.1) a.2)).1) (pt 2 h p0))<|zA (by rw[h]<;>kernel_rfl)
  ·exact rn [0,1,4,5,6,7,8,39] [] (pl 1 (((Jz (Yn c a.1) a.2)).1) (pf 2 h (pl 5 (((Jz (Yn c a.1) a.2)).2) p0)))<|zA (by rw[h]<;>kernel_rfl)
  refine ck (decide (((((Jz (Yn c a.1) a.2)).1).length:Y)>(0:Y))|| decide (((((Jz (Yn c a.1) a.2)).2).length:Y)>(0:Y))) (λj=>?_) (λj=>?_)
  ·refine wT 5 0 (.own X 104) d (λt u=>?_);refine ru [(5,.one (.slc (.own X 3200) 3 (eA d (a.1,((Jz (Yn c a.1) a.2)).1,((Jz (Yn c a.1) a.2)).2))))] [5,7,8,39] [] [] (pn 3 V (pa d [(a.1,((Jz (Yn c a.1) a.2)).1,((Jz (Yn c a.1) a.2)).2)] p0)) ?_;refine eqn [(5,.o 3200 (d++ [(a.1,((Jz (Yn c a.1) a.2)).1,((Jz (Yn c a.1) a.2)).2)]))] [5] [] [] (by rw[Wu]<;>kernel_rfl) ?_;refine rn [0,1,4,5,6] [] (pw 1 e p0) ?_;exact zJ (d++ [(a.1,((Jz (Yn c a.1) a.2)).1,((Jz (Yn c a.1) a.2)).2)]) (zM (wsf [(3200,104)]) ⟨Qp V (Qu j rfl) U.1,by first|omega|(simp;omega) | simp⟩)
  have m:(decide (((((Jz (Yn c a.1) a.2)).1).length:Y)>(0:Y)))=W:=Sl j;have p:=uH m;have n:(decide (((((Jz (Yn c a.1) a.2)).2).length:Y)>(0:Y)))=W:=Rz j;have q:=uH n;refine Qd<|rn [0,1,4,5,6] [] (pw 1 e p0) ?_
  exact xw d ⟨Qp V (Qh j rfl) U.1,by first|omega|(simp;omega) | simp⟩
 ·have g:=U.2;exact Qa<|sn [0,1,4,5,6,13] [] (pl 2 b (pe 3 (zC ((e:Y)<(b.length:Y))) p0))<|ckF<|Qv<|zJ _ (zM (wsf [(104,105)]) (Xo f rfl U.1))
 exact sn [4] [] p0<|Qc<|po0 [] (Vz k rfl)
def Bt(b:Q Qi)(a:H)(c:Qi)(_:uB):Rd (G) (uB) (uB):=(bif ((!(c.1.toList==((nth b a).1).toList))|| (!(Vq c.2 ((nth b a).2)))) then(.ret W) else(.next ()))
def Dj(_:H)(_:uB):uB:=()
def B5(a:Q Qi)(b:Q Qi):G:=(bif ((a.length:Y) !=(b.length:Y)) then W else(Out.on (X5 (Bt b) Dj a 0 ()) (λ_=>X)))
theorem WV(c:Q Qi)(b:Q Qi):ACalls uW 128 [.h c,.h b] (.b (B5 c b)):=by
 refine en func128 λ_ _ _=>sn [0,1,4] [] p0 ?_
 refine Qa<|tn [0,1,4,10] [] (pl 1 c (pl 3 b p0))<|ck ((c.length:Y) !=(b.length:Y)) (λg=>?_) (λg=>?_)
 ·exact tu [(4,.b W)] [] [] [] p0<|Qc<|pb [] (Qu g rfl)
 have p:=Ut g;refine Qd<|Qa<|tu [(4,.b W),(5,.i 0)] [] [] [] p0<|wT 0 0 .sh c (λq r=>?_)
 refine S8 (Bt b) Dj c () (λa _=> [(5,.i (a:Y))]) [5] (λ_=> []) [0,1,5] wf0 (λa s d U=>?_) (λa s d U=>?_) (λw m=>?_)
 ·obtain⟨f,V⟩:=Xn (l:=c) (i:=a) d;refine Qa<|sn [0,1,4,5,14] [] (pl 2 c (pe 3 (zB ((a:Y)<(c.length:Y))) p0))<|ckT<|Qd<|Qa<|Qn<|Qa<|mz [(14,.b X)] [] [] []<|jn [(41,.b ((!(f.1.toList==((nth b a).1).toList))|| (!(Vq f.2 ((nth b a).2)))))] [14] [] [] (!(f.1.toList==((nth b a).1).toList)) (λh=>?_) (λh=>?_) ?_
  ·refine wT 1 0 .sh b (λt u=>?_);have n:=ng b a;exact rN [0,1,4,5,41] [] (pn 2 V (pn 7 n (pt 10 h p0)))<|zA (by rw[h]<;>kernel_rfl)
  ·refine wT 1 0 .sh b (λv o=>?_);have j:=ng b a;exact rN [0,1,4,5,41] [] (pn 2 V (pn 7 j (pf 10 h (pn 14 V (pn 19 j (pc 22 (Od f.2 ((nth b a).2)) p0))))))<|zA (by rw[h]<;>kernel_rfl)
  refine ck ((!(f.1.toList==((nth b a).1).toList))|| (!(Vq f.2 ((nth b a).2)))) (λe=>?_) (λe=>?_)
  ·refine su [] [41] [] [] p0<|Qc ?_
   have k:(X5 (Bt b) Dj c 0 ())= .ret W:=Kc V (Qu e rfl) U;exact pb [] (Qh g (Pe k))
  refine Qd<|rn [0,1,4,5] [] (pw 1 a p0) ?_
  exact xw _ (Qp V (Qh e rfl) U)
 ·exact Qa<|sn [0,1,4,5,14] [] (pl 2 c (pe 3 (zC ((a:Y)<(c.length:Y))) p0))<|ckF<|Qv<|xw _ (Xo d rfl U)
 exact sn [4] [] p0<|Qc<|pb [] (Qh g (Vz m rfl))
def Xe(l:Xu):G:=(((Wo l.1 l.2.1)).2&&(B5 (((Wo l.1 l.2.1)).1) l.2.2))
theorem Al{c:Xu}(h:Xe c=X):zF c.2.1<=5/\Xa c.1=X:=by
 unfold Xe at h;rw[FY] at h;cases a:(J8 c.1 c.2.1).2 with
 | false=>rw[a] at h;simp at h
 | true=>obtain⟨b,d,_⟩:=FZ a;exact⟨b,(D2 _).trans d⟩
theorem Vo(l:Xu):ACalls uW 79 [.a [.h l.1.1,.h l.1.2.1,.i l.1.2.2,.h l.2.1,.h l.2.2]] (.b (Xe l)):=by
 refine en func79 λ_ _ _=>sn [1,2] [1] p0 ?_
 refine tn [1,2,3,4] [1] (pc 4 (LG l.1 l.2.1) p0)<|Qa<|mz [(1,.p 1 0),(2,.b W),(3,.o 640 (((Wo l.1 l.2.1)).1)),(4,.b (((Wo l.1 l.2.1)).2))] [0] [(1, [.h l.1.1,.h l.1.2.1,.i l.1.2.2,.h l.2.1,.h l.2.2])] []<|jn [(2,.b (((Wo l.1 l.2.1)).2&&(B5 (((Wo l.1 l.2.1)).1) l.2.2)))] [1,2,3,4] [] [1] (((Wo l.1 l.2.1)).2) (λa=>?_) (λa=>?_) ?_
 ·exact rn [2] [] (pt 0 a (pc 5 (WV (((Wo l.1 l.2.1)).1) l.2.2) p0))<|zA (by rw[a]<;>kernel_rfl)
 ·exact rn [2] [] (pf 0 a p0)<|zA (by rw[a]<;>kernel_rfl)
 exact Qc<|pb [] (show Xe l=(((Wo l.1 l.2.1)).2&&(B5 (((Wo l.1 l.2.1)).1) l.2.2)) from rfl)
def Mk(_:H)(a:Qi)(b:Q Qi):Rd (Q Qi) (Q Qi) (Q Qi):=(.next (b++ [a]))
def Ml(_:H)(a:Q Qi):(Q Qi):=a
def Gg(a:Q Qi):(Q Qi):=(Out.on (X5 Mk Ml a 0 []) (λb=>b))
theorem CI(b:Q Qi):ACalls uW 126 [.h b] (.o 0 (Gg b)):=by
 refine en func126 λ_ _ _=>sn [0,2] [] p0 ?_
 refine tn [0,2,3] [] p0<|Qa<|tu [(2,.e 0),(3,.one (.slc (.own X 320) 2 [])),(4,.i 0)] [] [] [] p0<|wT 0 0 .sh b (λg k=>?_)
 refine HN Mk Ml b [] (λc a=> [(3,.o 104 a),(4,.i (c:Y))]) [3,4] (λj=> [(3,.o 105 j)]) [0,3,4] (λc a=>zF a<=c) (wsf [(320,104)]) (by simp) (λc a e U=>?_) (λc a e U=>?_) (λj h=>?_)
 ·have f:=U.2;obtain⟨d,V⟩:=Xn (l:=b) (i:=c) e;refine Qa<|sn [0,2,3,4,9] [] (pl 2 b (pe 3 (zB ((c:Y)<(b.length:Y))) p0))<|ckT<|Qd<|Qa<|Qn ?_
  have m:zF d.2<=1073741824:=N9 (PO (PN V (g)));refine wT 3 0 (.own X 104) a (λo p=>?_);refine qU [(3,.one (.slc (.own X 1728) 2 (eA a d)))] [3] [] [] (pn 3 V (pn 9 V (po 12 (.flat) (px (L7 (n:=(([]:Q (Q PV)).length+((eL d.2):Q (Q PV)).length)) (N1 rfl (Zv d.2) (by first|omega|(simp only[List.length_cons,List.length_nil];omega) | (simp;omega) | simp))) (px (G1 (Ea d.2)) (px (L7 (n:=(((eL a):Q (Q PV)).length+([[.s d.1,.slc 1 ([]++(eL d.2))]]:Q (Q PV)).length)) (N1 (Zv a) rfl (by first|omega|(simp only[List.length_cons,List.length_nil];omega) | (simp;omega) | simp))) p0)))))) ?_;refine eqn [(3,.o 1728 (a++ [d]))] [3] [] [] (by rw[Wu]<;>kernel_rfl) ?_;refine rn [0,2,3,4] [] (pw 1 c p0) ?_;exact zJ (a++ [d]) (zM (wsf [(1728,104)]) ⟨Qp V rfl U.1,by first|omega|(simp;omega) | simp⟩)
 ·have f:=U.2;exact Qa<|sn [0,2,3,4,9] [] (pl 2 b (pe 3 (zC ((c:Y)<(b.length:Y))) p0))<|ckF<|Qv<|zJ _ (zM (wsf [(104,105)]) (Xo e rfl U.1))
 exact sn [2] [] p0<|Qc<|po0 [] (Vz h rfl)
def Qb(l:Xu):Xu:=((Qg l.1),(Vt l.2.1),(Gg l.2.2))
theorem Wf(l:Xu):ACalls uW 78 [.a [.h l.1.1,.h l.1.2.1,.i l.1.2.2,.h l.2.1,.h l.2.2]] (.a [.o 0 ((Qb l).1.1),.o 1 ((Qb l).1.2.1),.i ((Qb l).1.2.2),.o 2 ((Qb l).2.1),.o 3 ((Qb l).2.2)]):=by
 refine en func78 λ_ _ _=>sn [1,2] [1,2] p0 ?_
 exact tN [2] [2] (pc 2 (Lt l.1) (pc 5 (A0 l.2.1) (pc 8 (CI l.2.2) p0)))<|Qc<|pz [] (show Qb l=((Qg l.1),(Vt l.2.1),(Gg l.2.2)) from rfl) (λz=> .a [.o 0 z.1.1,.o 1 z.1.2.1,.i z.1.2.2,.o 2 z.2.1,.o 3 z.2.2])
def Vu(l:Xu)(a:X2)(d:Q Yj)(names:Z):Xu×(Q G3):=((a,d,((V5 a d l.2.2 names)).1),(Ep l.2.2 (((V5 a d l.2.2 names)).1)))
theorem Lz(l:Xu)(a:X2)(d:Q Yj)(names:Z):ACalls uW 191 [.a [.h l.1.1,.h l.1.2.1,.i l.1.2.2,.h l.2.1,.h l.2.2],.a [.h a.1,.h a.2.1,.i a.2.2],.h d,.h names] (.tup [(X, [.h ((((Vu l a d names)).1).1.1),.h ((((Vu l a d names)).1).1.2.1),.i ((((Vu l a d names)).1).1.2.2),.h ((((Vu l a d names)).1).2.1),.h ((((Vu l a d names)).1).2.2)]),(W, [.h (((Vu l a d names)).2)])]):=by
 refine en func191 λ_ _ _=>sn [2,3,4,5,8,9] [4,5,8] p0 ?_
 exact tn [2,4,5,8,9,10] [4,5,8] (pc 5 (CH a d l.2.2 names) p0)<|tU [(8,.p 8 0),(9,.o 1792 (Ep l.2.2 (((V5 a d l.2.2 names)).1)))] [0,1,2,3] [(8, [.h a.1,.h a.2.1,.i a.2.2,.h d,.o 1152 (((V5 a d l.2.2 names)).1)])] [] (pc 7 (Sy l.2.2 (((V5 a d l.2.2 names)).1)) p0)<|Qc<|pz [1152,1792] (show Vu l a d names=((a,d,((V5 a d l.2.2 names)).1),(Ep l.2.2 (((V5 a d l.2.2 names)).1))) from rfl) (λz=> .tup [(X, [.h z.1.1.1,.h z.1.1.2.1,.i z.1.1.2.2,.h z.1.2.1,.h z.1.2.2]),(W, [.h z.2])])
def Jm(l:Xu)(f:Xt):Xu×Y×(Q G3)×G:=(bif ((!(Xe (Qb l)))|| (!(((Y2 ((Qb l).1.1,(Qb l).1.2.1,(Qb l).1.2.2) f)).2.2))) then((Qb l),0, [],W) else((((Vu (Qb l) (((Y2 ((Qb l).1.1,(Qb l).1.2.1,(Qb l).1.2.2) f)).1) ((Qb l).2.1) (Hh ((Qb l).2.1)))).1),((Y2 ((Qb l).1.1,(Qb l).1.2.1,(Qb l).1.2.2) f)).2.1,((Vu (Qb l) (((Y2 ((Qb l).1.1,(Qb l).1.2.1,(Qb l).1.2.2) f)).1) ((Qb l).2.1) (Hh ((Qb l).2.1)))).2,X))
theorem RO(l:Xu)(f:Xt):ACalls uW 129 [.a [.h l.1.1,.h l.1.2.1,.i l.1.2.2,.h l.2.1,.h l.2.2],.a [.i f.1,.i f.2.1,.b f.2.2.1,.i f.2.2.2.1,.h f.2.2.2.2]] (.tup [(X, [.h ((((Jm l f)).1).1.1),.h ((((Jm l f)).1).1.2.1),.i ((((Jm l f)).1).1.2.2),.h ((((Jm l f)).1).2.1),.h ((((Jm l f)).1).2.2)]),(W, [.i (((Jm l f)).2.1)]),(W, [.h (((Jm l f)).2.2.1)]),(W, [.b (((Jm l f)).2.2.2)])]):=by
 refine en func129 λ_ _ _=>sn [2,3,4,5,6,7] [2,3,4] p0 ?_
 refine tn [2,3,4,5,6,7] [2,3,4] (pc 1 (Wf l) p0)<|tu [(2,.p 2 0),(4,.p 4 0),(5,.i 0),(6,.e 0),(7,.b W),(8,.p 8 0),(9,.i (((Y2 ((Qb l).1.1,(Qb l).1.2.1,(Qb l).1.2.2) f)).2.1)),(10,.b (((Y2 ((Qb l).1.1,(Qb l).1.2.1,(Qb l).1.2.2) f)).2.2))] [0,1] [(2, [.o 896 ((Qb l).1.1),.o 897 ((Qb l).1.2.1),.i ((Qb l).1.2.2),.o 898 ((Qb l).2.1),.o 899 ((Qb l).2.2)]),(4, [.e 2,.e 5,.i 0,.e 2,.e 2]),(8, [.o 1216 ((((Y2 ((Qb l).1.1,(Qb l).1.2.1,(Qb l).1.2.2) f)).1).1),.o 1217 ((((Y2 ((Qb l).1.1,(Qb l).1.2.1,(Qb l).1.2.2) f)).1).2.1),.i ((((Y2 ((Qb l).1.1,(Qb l).1.2.1,(Qb l).1.2.2) f)).1).2.2)])] [] (pc 3 (CE ((Qb l).1.1,(Qb l).1.2.1,(Qb l).1.2.2) f) p0)<|Qa<|Qa<|jn [(29,.b ((!(Xe (Qb l)))|| (!(((Y2 ((Qb l).1.1,(Qb l).1.2.1,(Qb l).1.2.2) f)).2.2))))] [10] [] [] (!(Xe (Qb l))) (λb=>?_) (λb=>?_) ?_
 ·have a:(Xe (Qb l))=W:=Kj b;exact ru [(29,.b X)] [10] [] [] (pc 1 (cb a (Vo (Qb l))) (pe 2 (show .b (!W)= .b X from rfl) p0))<|zA (by rw[b]<;>kernel_rfl)
 ·have a:(Xe (Qb l))=X:=Yu b;have h:=Al a;exact rn [2,4,5,6,7,8,9,29] [2,4,8] (pc 1 (cb a (Vo (Qb l))) (pe 2 (show .b (!X)= .b W from rfl) p0))<|zA (by rw[b]<;>kernel_rfl)
 refine ck ((!(Xe (Qb l)))|| (!(((Y2 ((Qb l).1.1,(Qb l).1.2.1,(Qb l).1.2.2) f)).2.2))) (λd=>?_) (λd=>?_)
 ·exact sn [2,4,5,6,7,8,9] [2,4,8] p0<|Qc<|pz [896,897,898,899,1984] (show Jm l f=_ from Qu d rfl) (λz=> .tup [(X, [.h z.1.1.1,.h z.1.1.2.1,.i z.1.1.2.2,.h z.1.2.1,.h z.1.2.2]),(W, [.i z.2.1]),(W, [.h z.2.2.1]),(W, [.b z.2.2.2])])
 have e:((!(Xe (Qb l))))=W:=Sl d;have c:(Xe (Qb l))=X:=Yu e;have g:=Al c;exact Qd<|sN [4,5,6,7,9,11,12] [4,11] (pc 6 (Sb ((Qb l).2.1)) (pc 7 (Lz (Qb l) (((Y2 ((Qb l).1.1,(Qb l).1.2.1,(Qb l).1.2.2) f)).1) ((Qb l).2.1) (Hh ((Qb l).2.1))) p0))<|tn [4,5,6,7] [4] p0<|Qc<|pz [] (show Jm l f=_ from Qh d rfl) (λz=> .tup [(X, [.h z.1.1.1,.h z.1.1.2.1,.i z.1.1.2.2,.h z.1.2.1,.h z.1.2.2]),(W, [.i z.2.1]),(W, [.h z.2.2.1]),(W, [.b z.2.2.2])])
def Zq(l:Xu)(f:Xt):Xu×(Q G3)×G:=(bif ((!(Xe (Qb l)))|| (!(((Zw ((Qb l).1.1,(Qb l).1.2.1,(Qb l).1.2.2) f)).2))) then((Qb l), [],W) else((((Vu (Qb l) (((Zw ((Qb l).1.1,(Qb l).1.2.1,(Qb l).1.2.2) f)).1) ((Qb l).2.1) (Ak ((Qb l).2.1) (((Xz ((Qb l).1.1,(Qb l).1.2.1,(Qb l).1.2.2) f.1)).1) f))).1),((Vu (Qb l) (((Zw ((Qb l).1.1,(Qb l).1.2.1,(Qb l).1.2.2) f)).1) ((Qb l).2.1) (Ak ((Qb l).2.1) (((Xz ((Qb l).1.1,(Qb l).1.2.1,(Qb l).1.2.2) f.1)).1) f))).2,X))
theorem CJ(l:Xu)(f:Xt):ACalls uW 131 [.a [.h l.1.1,.h l.1.2.1,.i l.1.2.2,.h l.2.1,.h l.2.2],.a [.i f.1,.i f.2.1,.b f.2.2.1,.i f.2.2.2.1,.h f.2.2.2.2]] (.tup [(X, [.h ((((Zq l f)).1).1.1),.h ((((Zq l f)).1).1.2.1),.i ((((Zq l f)).1).1.2.2),.h ((((Zq l f)).1).2.1),.h ((((Zq l f)).1).2.2)]),(W, [.h (((Zq l f)).2.1)]),(W, [.b (((Zq l f)).2.2)])]):=by
 refine en func131 λ_ _ _=>sn [2,3,4,5,6] [2,3,4] p0 ?_
 refine tn [2,3,4,5,6] [2,3,4] (pc 1 (Wf l) p0)<|tu [(2,.p 2 0),(3,.p 3 0),(4,.p 4 0),(5,.e 0),(6,.b W),(7,.p 7 0)] [0,1] [(2, [.o 896 ((Qb l).1.1),.o 897 ((Qb l).1.2.1),.i ((Qb l).1.2.2),.o 898 ((Qb l).2.1),.o 899 ((Qb l).2.2)]),(3, [.i f.1,.i f.2.1,.b f.2.2.1,.i f.2.2.2.1,.h f.2.2.2.2]),(4, [.e 2,.e 5,.i 0,.e 2,.e 2]),(7, [.i ((((Xz ((Qb l).1.1,(Qb l).1.2.1,(Qb l).1.2.2) f.1)).1).1),.i ((((Xz ((Qb l).1.1,(Qb l).1.2.1,(Qb l).1.2.2) f.1)).1).2.1),.b ((((Xz ((Qb l).1.1,(Qb l).1.2.1,(Qb l).1.2.2) f.1)).1).2.2.1),.i ((((Xz ((Qb l).1.1,(Qb l).1.2.1,(Qb l).1.2.2) f.1)).1).2.2.2.1),.o 1280 ((((Xz ((Qb l).1.1,(Qb l).1.2.1,(Qb l).1.2.2) f.1)).1).2.2.2.2)])] [] (pc 4 (Sa ((Qb l).1.1,(Qb l).1.2.1,(Qb l).1.2.2) f.1) p0)<|sn [2,3,4,5,6,7,9,10] [2,3,4,7,9] (pc 3 (AE ((Qb l).1.1,(Qb l).1.2.1,(Qb l).1.2.2) f) p0)<|Qa<|Qa<|mz [(9,.p 9 0),(10,.b (((Zw ((Qb l).1.1,(Qb l).1.2.1,(Qb l).1.2.2) f)).2))] [] [(9, [.o 1728 ((((Zw ((Qb l).1.1,(Qb l).1.2.1,(Qb l).1.2.2) f)).1).1),.o 1729 ((((Zw ((Qb l).1.1,(Qb l).1.2.1,(Qb l).1.2.2) f)).1).2.1),.i ((((Zw ((Qb l).1.1,(Qb l).1.2.1,(Qb l).1.2.2) f)).1).2.2)])] []<|jn [(36,.b ((!(Xe (Qb l)))|| (!(((Zw ((Qb l).1.1,(Qb l).1.2.1,(Qb l).1.2.2) f)).2))))] [10] [] [] (!(Xe (Qb l))) (λc=>?_) (λc=>?_) ?_
 ·have a:(Xe (Qb l))=W:=Kj c;exact ru [(36,.b X)] [10] [] [] (pc 1 (cb a (Vo (Qb l))) (pe 2 (show .b (!W)= .b X from rfl) p0))<|zA (by rw[c]<;>kernel_rfl)
 ·have a:(Xe (Qb l))=X:=Yu c;have m:=Al a;exact rn [2,3,4,5,6,7,9,36] [2,3,4,7,9] (pc 1 (cb a (Vo (Qb l))) (pe 2 (show .b (!X)= .b W from rfl) p0))<|zA (by rw[c]<;>kernel_rfl)
 refine ck ((!(Xe (Qb l)))|| (!(((Zw ((Qb l).1.1,(Qb l).1.2.1,(Qb l).1.2.2) f)).2))) (λd=>?_) (λd=>?_)
 ·exact sn [2,3,4,5,6,7,9] [2,3,4,7,9] p0<|Qc<|pz [896,897,898,899,2432] (show Zq l f=_ from Qu d rfl) (λz=> .tup [(X, [.h z.1.1.1,.h z.1.1.2.1,.i z.1.1.2.2,.h z.1.2.1,.h z.1.2.2]),(W, [.h z.2.1]),(W, [.b z.2.2])])
 have h:((!(Xe (Qb l))))=W:=Sl d;have e:(Xe (Qb l))=X:=Yu h;have i:=Al e;have j:((!(((Zw ((Qb l).1.1,(Qb l).1.2.1,(Qb l).1.2.2) f)).2)))=W:=Rz d;have g:(((Zw ((Qb l).1.1,(Qb l).1.2.1,(Qb l).1.2.2) f)).2)=X:=Yu j;have b:=Qeh g;have k:=Qei b.1 f.1;exact Qd<|sN [4,5,6,11,12] [4,11] (pc 8 (WT ((Qb l).2.1) (((Xz ((Qb l).1.1,(Qb l).1.2.1,(Qb l).1.2.2) f.1)).1) f (by omega) (by omega)) (pc 9 (Lz (Qb l) (((Zw ((Qb l).1.1,(Qb l).1.2.1,(Qb l).1.2.2) f)).1) ((Qb l).2.1) (Ak ((Qb l).2.1) (((Xz ((Qb l).1.1,(Qb l).1.2.1,(Qb l).1.2.2) f.1)).1) f)) p0))<|tn [4,5,6] [4] p0<|Qc<|pz [] (show Zq l f=_ from Qh d rfl) (λz=> .tup [(X, [.h z.1.1.1,.h z.1.1.2.1,.i z.1.1.2.2,.h z.1.2.1,.h z.1.2.2]),(W, [.h z.2.1]),(W, [.b z.2.2])])
def Zr(l:Xu)(a:Y):Xu×(Q G3)×G:=(bif ((!(Xe (Qb l)))|| (!(((Z6 ((Qb l).1.1,(Qb l).1.2.1,(Qb l).1.2.2) a)).2))) then((Qb l), [],W) else((((Vu (Qb l) (((Z6 ((Qb l).1.1,(Qb l).1.2.1,(Qb l).1.2.2) a)).1) ((Qb l).2.1) (Hh ((Qb l).2.1)))).1),((Vu (Qb l) (((Z6 ((Qb l).1.1,(Qb l).1.2.1,(Qb l).1.2.2) a)).1) ((Qb l).2.1) (Hh ((Qb l).2.1)))).2,X))
theorem CL(l:Xu)(a:Y):ACalls uW 133 [.a [.h l.1.1,.h l.1.2.1,.i l.1.2.2,.h l.2.1,.h l.2.2],.i a] (.tup [(X, [.h ((((Zr l a)).1).1.1),.h ((((Zr l a)).1).1.2.1),.i ((((Zr l a)).1).1.2.2),.h ((((Zr l a)).1).2.1),.h ((((Zr l a)).1).2.2)]),(W, [.h (((Zr l a)).2.1)]),(W, [.b (((Zr l a)).2.2)])]):=by
 refine en func133 λ_ _ _=>sn [1,2,4,5,6] [2,4] p0 ?_
 refine tn [1,2,4,5,6] [2,4] (pc 1 (Wf l) p0)<|tu [(2,.p 2 0),(4,.p 4 0),(5,.e 0),(6,.b W),(7,.p 7 0),(8,.b (((Z6 ((Qb l).1.1,(Qb l).1.2.1,(Qb l).1.2.2) a)).2))] [0,1] [(2, [.h ((Qb l).1.1),.h ((Qb l).1.2.1),.i ((Qb l).1.2.2),.o 770 ((Qb l).2.1),.o 771 ((Qb l).2.2)]),(4, [.e 2,.e 5,.i 0,.e 2,.e 2]),(7, [.h ((((Z6 ((Qb l).1.1,(Qb l).1.2.1,(Qb l).1.2.2) a)).1).1),.h ((((Z6 ((Qb l).1.1,(Qb l).1.2.1,(Qb l).1.2.2) a)).1).2.1),.i ((((Z6 ((Qb l).1.1,(Qb l).1.2.1,(Qb l).1.2.2) a)).1).2.2)])] [] (pc 3 (CF ((Qb l).1.1,(Qb l).1.2.1,(Qb l).1.2.2) a) p0)<|Qa<|Qa<|jn [(26,.b ((!(Xe (Qb l)))|| (!(((Z6 ((Qb l).1.1,(Qb l).1.2.1,(Qb l).1.2.2) a)).2))))] [8] [] [] (!(Xe (Qb l))) (λc=>?_) (λc=>?_) ?_
 ·have b:(Xe (Qb l))=W:=Kj c;exact ru [(26,.b X)] [8] [] [] (pc 1 (cb b (Vo (Qb l))) (pe 2 (show .b (!W)= .b X from rfl) p0))<|zA (by rw[c]<;>kernel_rfl)
 ·have b:(Xe (Qb l))=X:=Yu c;have h:=Al b;exact rn [2,4,5,6,7,26] [2,4,7] (pc 1 (cb b (Vo (Qb l))) (pe 2 (show .b (!X)= .b W from rfl) p0))<|zA (by rw[c]<;>kernel_rfl)
 refine ck ((!(Xe (Qb l)))|| (!(((Z6 ((Qb l).1.1,(Qb l).1.2.1,(Qb l).1.2.2) a)).2))) (λe=>?_) (λe=>?_)
 ·exact sn [2,4,5,6,7] [2,4,7] p0<|Qc<|pz [770,771,1792] (show Zr l a=_ from Qu e rfl) (λz=> .tup [(X, [.h z.1.1.1,.h z.1.1.2.1,.i z.1.1.2.2,.h z.1.2.1,.h z.1.2.2]),(W, [.h z.2.1]),(W, [.b z.2.2])])
 have f:((!(Xe (Qb l))))=W:=Sl e;have d:(Xe (Qb l))=X:=Yu f;have g:=Al d;exact Qd<|sN [4,5,6,9,10] [4,9] (pc 6 (Sb ((Qb l).2.1)) (pc 7 (Lz (Qb l) (((Z6 ((Qb l).1.1,(Qb l).1.2.1,(Qb l).1.2.2) a)).1) ((Qb l).2.1) (Hh ((Qb l).2.1))) p0))<|tn [4,5,6] [4] p0<|Qc<|pz [] (show Zr l a=_ from Qh e rfl) (λz=> .tup [(X, [.h z.1.1.1,.h z.1.1.2.1,.i z.1.1.2.2,.h z.1.2.1,.h z.1.2.2]),(W, [.h z.2.1]),(W, [.b z.2.2])])
def J3(d:Q Yj):G:=((Xj d)).2
theorem Qim{d:Q Yj}(h:J3 d=X):zF d<=5:=by
 unfold J3 at h;rw[Uo] at h;exact(Ir h).2.1
theorem Ro(d:Q Yj):ACalls uW 141 [.h d] (.b (J3 d)):=by
 refine en func141 λ_ _ _=>sn [0,2] [] p0 ?_
 exact tn [2,4] [] (pc 1 (Re d) p0)<|tu [(2,.b (((Xj d)).2))] [0] [] [] p0<|Qc<|pb [] (show J3 d=((Xj d)).2 from rfl)
def Zn(l:Xu)(x:Yj):Xu×(Q G3)×G:=(bif ((!(Xe (Qb l)))|| ((!(((Jp ((Qb l).2.1) x)).2))|| (!(J3 (((Jp ((Qb l).2.1) x)).1))))) then((Qb l), [],W) else((((Vu (Qb l) ((Qb l).1.1,(Qb l).1.2.1,(Qb l).1.2.2) (((Jp ((Qb l).2.1) x)).1) (Zl (((Jp ((Qb l).2.1) x)).1) [x.1]))).1),((Vu (Qb l) ((Qb l).1.1,(Qb l).1.2.1,(Qb l).1.2.2) (((Jp ((Qb l).2.1) x)).1) (Zl (((Jp ((Qb l).2.1) x)).1) [x.1]))).2,X))
theorem GP(l:Xu)(x:Yj):ACalls uW 134 [.a [.h l.1.1,.h l.1.2.1,.i l.1.2.2,.h l.2.1,.h l.2.2],.a [.s x.1,.h x.2]] (.tup [(X, [.h ((((Zn l x)).1).1.1),.h ((((Zn l x)).1).1.2.1),.i ((((Zn l x)).1).1.2.2),.h ((((Zn l x)).1).2.1),.h ((((Zn l x)).1).2.2)]),(W, [.h (((Zn l x)).2.1)]),(W, [.b (((Zn l x)).2.2)])]):=by
 refine en func134 λ_ _ _=>sn [2,3,4,5,6] [2,3,4] p0 ?_
 refine tn [2,3,4,5,6] [2,3,4] (pc 1 (Wf l) p0)<|tu [(2,.p 2 0),(3,.p 3 0),(4,.p 4 0),(5,.e 0),(6,.b W),(7,.o 1088 (((Jp ((Qb l).2.1) x)).1)),(8,.b (((Jp ((Qb l).2.1) x)).2))] [0,1] [(2, [.o 768 ((Qb l).1.1),.o 769 ((Qb l).1.2.1),.i ((Qb l).1.2.2),.o 770 ((Qb l).2.1),.o 771 ((Qb l).2.2)]),(3, [.s x.1,.h x.2]),(4, [.e 2,.e 5,.i 0,.e 2,.e 2])] [] (pc 3 (Qbh ((Qb l).2.1) x) p0)<|Qa<|Qa<|jn [(31,.b ((!(Xe (Qb l)))|| ((!(((Jp ((Qb l).2.1) x)).2))|| (!(J3 (((Jp ((Qb l).2.1) x)).1))))))] [8] [] [] (!(Xe (Qb l))) (λd=>?_) (λd=>?_) ?_
 ·have a:(Xe (Qb l))=W:=Kj d;exact ru [(31,.b X)] [8] [] [] (pc 1 (cb a (Vo (Qb l))) (pe 2 (show .b (!W)= .b X from rfl) p0))<|zA (by rw[d]<;>kernel_rfl)
 ·have a:(Xe (Qb l))=X:=Yu d;have n:=Al a;refine Ye (!(((Jp ((Qb l).2.1) x)).2)) (λe=>?_) (λe=>?_)
  ·have b:(((Jp ((Qb l).2.1) x)).2)=W:=Kj e;exact ru [(31,.b X)] [8] [] [] (pc 1 (cb a (Vo (Qb l))) (pe 2 (show .b (!X)= .b W from rfl) (pf 4 b (pe 5 (show .b (!W)= .b X from rfl) p0))))<|zA (by rw[d,e]<;>kernel_rfl)
  have b:(((Jp ((Qb l).2.1) x)).2)=X:=Yu e;exact rn [2,3,4,5,6,7,31] [2,3,4] (pc 1 (cb a (Vo (Qb l))) (pe 2 (show .b (!X)= .b W from rfl) (pt 4 b (pe 5 (show .b (!X)= .b W from rfl) (pc 9 (Ro (((Jp ((Qb l).2.1) x)).1)) p0)))))<|zA (by rw[d,e]<;>kernel_rfl)
 refine ck ((!(Xe (Qb l)))|| ((!(((Jp ((Qb l).2.1) x)).2))|| (!(J3 (((Jp ((Qb l).2.1) x)).1))))) (λf=>?_) (λf=>?_)
 ·exact sn [2,3,4,5,6,7] [2,3,4] p0<|Qc<|pz [768,769,770,771,2112] (show Zn l x=_ from Qu f rfl) (λz=> .tup [(X, [.h z.1.1.1,.h z.1.1.2.1,.i z.1.1.2.2,.h z.1.2.1,.h z.1.2.2]),(W, [.h z.2.1]),(W, [.b z.2.2])])
 have j:((!(Xe (Qb l))))=W:=Sl f;have g:(Xe (Qb l))=X:=Yu j;have k:=Al g;have m:(((!(((Jp ((Qb l).2.1) x)).2))|| (!(J3 (((Jp ((Qb l).2.1) x)).1)))))=W:=Rz f;have h:((!(J3 (((Jp ((Qb l).2.1) x)).1))))=W:=Rz m;have c:(J3 (((Jp ((Qb l).2.1) x)).1))=X:=Yu h;have i:=Qim c;exact Qd<|sN [4,5,6,9,10] [4,9] (pc 8 (Bz (((Jp ((Qb l).2.1) x)).1) [x.1] (by first|omega|(simp;omega))) (pc 9 (Lz (Qb l) ((Qb l).1.1,(Qb l).1.2.1,(Qb l).1.2.2) (((Jp ((Qb l).2.1) x)).1) (Zl (((Jp ((Qb l).2.1) x)).1) [x.1])) p0))<|tn [4,5,6] [4] p0<|Qc<|pz [] (show Zn l x=_ from Qh f rfl) (λz=> .tup [(X, [.h z.1.1.1,.h z.1.1.2.1,.i z.1.1.2.2,.h z.1.2.1,.h z.1.2.2]),(W, [.h z.2.1]),(W, [.b z.2.2])])
def Z3(l:Xu)(a:O):Xu×(Q G3)×G:=(bif (!(((Vh l.2.1 a)).2)) then(l, [],W) else((((Vu l l.1 (((Vh l.2.1 a)).1) (Zl l.2.1 [a]))).1),((Vu l l.1 (((Vh l.2.1 a)).1) (Zl l.2.1 [a]))).2,X))
theorem GQ(l:Xu)(a:O):ACalls uW 135 [.a [.h l.1.1,.h l.1.2.1,.i l.1.2.2,.h l.2.1,.h l.2.2],.s a] (.tup [(X, [.h ((((Z3 l a)).1).1.1),.h ((((Z3 l a)).1).1.2.1),.i ((((Z3 l a)).1).1.2.2),.h ((((Z3 l a)).1).2.1),.h ((((Z3 l a)).1).2.2)]),(W, [.h (((Z3 l a)).2.1)]),(W, [.b (((Z3 l a)).2.2)])]):=by
 refine en func135 λ_ _ _=>sn [1,2,4,5,6] [2,4] p0 ?_
 refine tn [1,2,4,5,6,7,8] [2,4] (pc 3 (GO l.2.1 a) p0)<|Qa<|tu [(2,.p 2 0),(4,.p 4 0),(5,.e 0),(6,.b W),(7,.o 960 (((Vh l.2.1 a)).1)),(19,.b (!(((Vh l.2.1 a)).2)))] [0] [(2, [.h l.1.1,.h l.1.2.1,.i l.1.2.2,.h l.2.1,.h l.2.2]),(4, [.e 2,.e 5,.i 0,.e 2,.e 2])] [] p0<|ck (!(((Vh l.2.1 a)).2)) (λb=>?_) (λb=>?_)
 ·exact sn [1,2,4,5,6,7] [2,4] p0<|Qc<|pz [1344] (show Z3 l a=_ from Qu b rfl) (λz=> .tup [(X, [.h z.1.1.1,.h z.1.1.2.1,.i z.1.1.2.2,.h z.1.2.1,.h z.1.2.2]),(W, [.h z.2.1]),(W, [.b z.2.2])])
 have c:(((Vh l.2.1 a)).2)=X:=Yu b;have d:=Qqy c;exact Qd<|sN [4,5,6,9,10] [4,9] (pc 8 (Bz l.2.1 [a] (by first|omega|(simp;omega))) (pc 9 (Lz l l.1 (((Vh l.2.1 a)).1) (Zl l.2.1 [a])) p0))<|tn [4,5,6] [4] p0<|Qc<|pz [] (show Z3 l a=_ from Qh b rfl) (λz=> .tup [(X, [.h z.1.1.1,.h z.1.1.2.1,.i z.1.1.2.2,.h z.1.2.1,.h z.1.2.2]),(W, [.h z.2.1]),(W, [.b z.2.2])])
def Cg(f:Xt)(u:Y):G:=((Xd u 0 2)&&(f.2.1==u))
theorem JB(f:Xt)(u:Y):ACalls uW 132 [.a [.i f.1,.i f.2.1,.b f.2.2.1,.i f.2.2.2.1,.h f.2.2.2.2],.i u] (.b (Cg f u)):=by
 refine en func132 λ_ _ _=>sn [1,2,4] [2] p0 ?_
 refine Qa<|mz [(2,.p 2 0),(4,.b W)] [0] [(2, [.i f.1,.i f.2.1,.b f.2.2.1,.i f.2.2.2.1,.h f.2.2.2.2])] []<|jn [(4,.b ((Xd u 0 2)&&(f.2.1==u)))] [1,2,4] [] [2] (Xd u 0 2) (λa=>?_) (λa=>?_) ?_
 ·have b:=Bj.1 a;exact rn [4] [] (pc 1 (cb a (Js u 0 2)) p0)<|zA (by rw[a]<;>kernel_rfl)
 ·exact rn [4] [] (pc 1 (cb a (Js u 0 2)) p0)<|zA (by rw[a]<;>kernel_rfl)
 exact Qc<|pb [] (show Cg f u=((Xd u 0 2)&&(f.2.1==u)) from rfl)
def X3(l:Xu)(u:Y)(o:Vk):Xu×(Q G3)×G:=(bif (!((Xe l)&&(Xd u 0 2))) then((Qb l), [],W) else(bif ((o.1==(1:Y))&&(o.2.1.2.1==u)) then(bif (!(((Jm l o.2.1)).2.2.2)) then((Qb l), [],W) else((((Jm l o.2.1)).1),((Jm l o.2.1)).2.2.1,X)) else(bif ((o.1==(2:Y))&&(o.2.1.2.1==u)) then(bif (!(((Zq l o.2.1)).2.2&&(((Xz l.1 o.2.1.1)).2&&(Cg (((Xz l.1 o.2.1.1)).1) u)))) then((Qb l), [],W) else((((Zq l o.2.1)).1),((Zq l o.2.1)).2.1,X)) else(bif (o.1==(3:Y)) then(bif (!(((Zr l o.2.2.1)).2.2&&(((Xz l.1 o.2.2.1)).2&&(Cg (((Xz l.1 o.2.2.1)).1) u)))) then((Qb l), [],W) else((((Zr l o.2.2.1)).1),((Zr l o.2.2.1)).2.1,X)) else(bif (o.1==(4:Y)) then(bif (!(((Zn l o.2.2.2)).2.2)) then((Qb l), [],W) else((((Zn l o.2.2.2)).1),((Zn l o.2.2.2)).2.1,X)) else(bif (o.1==(5:Y)) then(bif (!(((Z3 (Qb l) o.2.2.2.1)).2.2)) then((Qb l), [],W) else((((Z3 (Qb l) o.2.2.2.1)).1),((Z3 (Qb l) o.2.2.2.1)).2.1,X)) else((Qb l), [],W)))))))
theorem AF(l:Xu)(u:Y)(o:Vk):ACalls uW 80 [.a [.h l.1.1,.h l.1.2.1,.i l.1.2.2,.h l.2.1,.h l.2.2],.i u,.a [.i o.1,.i o.2.1.1,.i o.2.1.2.1,.b o.2.1.2.2.1,.i o.2.1.2.2.2.1,.h o.2.1.2.2.2.2,.i o.2.2.1,.s o.2.2.2.1,.h o.2.2.2.2]] (.tup [(X, [.h ((((X3 l u o)).1).1.1),.h ((((X3 l u o)).1).1.2.1),.i ((((X3 l u o)).1).1.2.2),.h ((((X3 l u o)).1).2.1),.h ((((X3 l u o)).1).2.2)]),(W, [.h (((X3 l u o)).2.1)]),(W, [.b (((X3 l u o)).2.2)])]):=by
 refine en func80 λ_ _ _=>sn [1,3,5,6,7,8] [3,5,6] p0 ?_
 refine tn [1,3,5,6,7,8,9] [3,5,6,9] (pc 1 (Wf l) p0)<|tu [(3,.p 3 0),(5,.p 5 0),(6,.p 6 0),(7,.e 0),(8,.b W),(9,.p 9 0),(10,.p 10 0)] [0,2] [(3, [.h l.1.1,.h l.1.2.1,.i l.1.2.2,.h l.2.1,.h l.2.2]),(5, [.i o.1,.i o.2.1.1,.i o.2.1.2.1,.b o.2.1.2.2.1,.i o.2.1.2.2.2.1,.h o.2.1.2.2.2.2,.i o.2.2.1,.s o.2.2.2.1,.h o.2.2.2.2]),(6, [.e 2,.e 5,.i 0,.e 2,.e 2]),(9, [.o 1152 ((Qb l).1.1),.o 1153 ((Qb l).1.2.1),.i ((Qb l).1.2.2),.o 1154 ((Qb l).2.1),.o 1155 ((Qb l).2.2)]),(10, [.o 1152 ((Qb l).1.1),.o 1153 ((Qb l).1.2.1),.i ((Qb l).1.2.2),.o 1154 ((Qb l).2.1),.o 1155 ((Qb l).2.2)])] [] p0<|sn [1,3,5,6,7,8,9,10,11] [3,5,6,9,10] p0<|Qa<|mz [(11,.one (.slc (.own X 1280) 3 []))] [] [] []<|jn [(12,.b ((Xe l)&&(Xd u 0 2)))] [] [] [] (Xe l) (λq=>?_) (λq=>?_) ?_
 ·have a1:=Al q;exact ru [(12,.b (Xd u 0 2))] [] [] [] (pc 1 (cb q (Vo l)) (pc 4 (Js u 0 2) p0))<|zA (by rw[q]<;>kernel_rfl)
 ·exact ru [(12,.b W)] [] [] [] (pc 1 (cb q (Vo l)) p0)<|zA (by rw[q]<;>kernel_rfl)
 refine Qa<|Qn<|sn [1,3,5,6,7,8,9,10,11,12,27] [3,5,6,9,10] p0<|ck (!((Xe l)&&(Xd u 0 2))) (λb=>?_) (λb=>?_)
 ·have h:((Xe l)&&(Xd u 0 2))=W:=Kj b;exact Qd<|Qa<|tn [3,6,7,8,10,11,142] [3,6,10] (pf 0 h (pe 1 (show .b (!W)= .b X from rfl) p0))<|ckT<|tu [(7,.one (.slc (.own X 9280) 3 []))] [1,3,5,7,9,12] [(6, [.o 9216 ((Qb l).1.1),.o 9217 ((Qb l).1.2.1),.i ((Qb l).1.2.2),.o 9218 ((Qb l).2.1),.o 9219 ((Qb l).2.2)])] [3,5,6,9] (pc 1 (Wf l) p0)<|Qc<|pz [9216,9217,9218,9219,9280] (show X3 l u o=_ from Qu b rfl) (λz=> .tup [(X, [.h z.1.1.1,.h z.1.1.2.1,.i z.1.1.2.2,.h z.1.2.1,.h z.1.2.2]),(W, [.h z.2.1]),(W, [.b z.2.2])])
 have h:((Xe l)&&(Xd u 0 2))=X:=Yu b;have r:((Xe l))=X:=HL h;have x:=Al r;have s:((Xd u 0 2))=X:=HM h;have y:=Bj.1 s;refine Qa<|mz [(27,.b (!((Xe l)&&(Xd u 0 2))))] [] [] []<|jn [(30,.b ((o.1==(1:Y))&&(o.2.1.2.1==u)))] [27] [] [] (o.1==(1:Y)) (λt=>?_) (λt=>?_) ?_
 ·exact ru [(30,.b (o.2.1.2.1==u))] [27] [] [] (pt 2 t p0)<|zA (by rw[t]<;>kernel_rfl)
 ·exact ru [(30,.b W)] [27] [] [] (pf 2 t p0)<|zA (by rw[t]<;>kernel_rfl)
 refine ck ((o.1==(1:Y))&&(o.2.1.2.1==u)) (λe=>?_) (λe=>?_)
 ·refine rn [3,6,7,8,10,11,12] [3,6,10] (pc 3 (RO l o.2.1) p0) ?_;refine Qa<|tn [3,6,7,8,10,11,142] [3,6,10] p0<|ck (!(((Jm l o.2.1)).2.2.2)) (λh5=>?_) (λh5=>?_)
  ·exact tu [(7,.one (.slc (.own X 9280) 3 [])),(11,.h (((Jm l o.2.1)).2.2.1))] [1,3,5,7,9,11,12,30] [(6, [.o 9216 ((Qb l).1.1),.o 9217 ((Qb l).1.2.1),.i ((Qb l).1.2.2),.o 9218 ((Qb l).2.1),.o 9219 ((Qb l).2.2)]),(10, [.h ((((Jm l o.2.1)).1).1.1),.h ((((Jm l o.2.1)).1).1.2.1),.i ((((Jm l o.2.1)).1).1.2.2),.h ((((Jm l o.2.1)).1).2.1),.h ((((Jm l o.2.1)).1).2.2)])] [3,5,6,9,10] (pc 1 (Wf l) p0)<|Qc<|pz [9216,9217,9218,9219,9280] (show X3 l u o=_ from Qh b (Qu e (Qu h5 rfl))) (λz=> .tup [(X, [.h z.1.1.1,.h z.1.1.2.1,.i z.1.1.2.2,.h z.1.2.1,.h z.1.2.2]),(W, [.h z.2.1]),(W, [.b z.2.2])])
  exact Qd<|tu [(7,.h (((Jm l o.2.1)).2.2.1)),(8,.b X)] [1,3,5,7,8,9,10,11,12,30] [(6, [.h ((((Jm l o.2.1)).1).1.1),.h ((((Jm l o.2.1)).1).1.2.1),.i ((((Jm l o.2.1)).1).1.2.2),.h ((((Jm l o.2.1)).1).2.1),.h ((((Jm l o.2.1)).1).2.2)])] [3,5,6,9,10] p0<|Qc<|pz [] (show X3 l u o=_ from Qh b (Qu e (Qh h5 rfl))) (λz=> .tup [(X, [.h z.1.1.1,.h z.1.1.2.1,.i z.1.1.2.2,.h z.1.2.1,.h z.1.2.2]),(W, [.h z.2.1]),(W, [.b z.2.2])])
 refine Qa<|jn [(50,.b ((o.1==(2:Y))&&(o.2.1.2.1==u)))] [30] [] [] (o.1==(2:Y)) (λv=>?_) (λv=>?_) ?_
 ·exact ru [(50,.b (o.2.1.2.1==u))] [30] [] [] (pt 2 v p0)<|zA (by rw[v]<;>kernel_rfl)
 ·exact ru [(50,.b W)] [30] [] [] (pf 2 v p0)<|zA (by rw[v]<;>kernel_rfl)
 refine ck ((o.1==(2:Y))&&(o.2.1.2.1==u)) (λg=>?_) (λg=>?_)
 ·refine sn [1,3,5,6,7,8,10,11,12,13,14] [3,5,6,10,13] (pc 5 (Sa l.1 o.2.1.1) p0)<|tn [1,3,6,7,8,10,11,12,13,14] [3,6,10,13] (pc 3 (CJ l o.2.1) p0)<|mz [(11,.h (((Zq l o.2.1)).2.1)),(12,.b (((Zq l o.2.1)).2.2)),(13,.p 13 0),(14,.b (((Xz l.1 o.2.1.1)).2))] [5,9,11,12,50] [(10, [.h ((((Zq l o.2.1)).1).1.1),.h ((((Zq l o.2.1)).1).1.2.1),.i ((((Zq l o.2.1)).1).1.2.2),.h ((((Zq l o.2.1)).1).2.1),.h ((((Zq l o.2.1)).1).2.2)]),(13, [.i ((((Xz l.1 o.2.1.1)).1).1),.i ((((Xz l.1 o.2.1.1)).1).2.1),.b ((((Xz l.1 o.2.1.1)).1).2.2.1),.i ((((Xz l.1 o.2.1.1)).1).2.2.2.1),.o 4288 ((((Xz l.1 o.2.1.1)).1).2.2.2.2)])] [5,9,10]<|jn [(12,.b (((Zq l o.2.1)).2.2&&(((Xz l.1 o.2.1.1)).2&&(Cg (((Xz l.1 o.2.1.1)).1) u))))] [1,12,13,14] [] [13] (((Zq l o.2.1)).2.2) (λj=>?_) (λj=>?_) ?_
  ·refine Ye (((Xz l.1 o.2.1.1)).2) (λw=>?_) (λw=>?_)
   ·exact rn [3,6,7,8,10,11,12] [3,6,10] (pt 0 j (pt 2 w (pc 7 (JB (((Xz l.1 o.2.1.1)).1) u) p0)))<|zA (by rw[j,w]<;>kernel_rfl)
   exact rn [3,6,7,8,10,11,12] [3,6,10] (pt 0 j (pf 2 w p0))<|zA (by rw[j,w]<;>kernel_rfl)
  ·exact rn [3,6,7,8,10,11,12] [3,6,10] (pf 0 j p0)<|zA (by rw[j]<;>kernel_rfl)
  refine Qa<|sn [3,6,7,8,10,11,142] [3,6,10] p0<|ck (!(((Zq l o.2.1)).2.2&&(((Xz l.1 o.2.1.1)).2&&(Cg (((Xz l.1 o.2.1.1)).1) u)))) (λk=>?_) (λk=>?_)
  ·exact tn [6,7,8,10,11] [6,10] (pc 1 (Wf l) p0)<|Qc<|pz [9216,9217,9218,9219,9280] (show X3 l u o=_ from Qh b (Qh e (Qu g (Qu k rfl)))) (λz=> .tup [(X, [.h z.1.1.1,.h z.1.1.2.1,.i z.1.1.2.2,.h z.1.2.1,.h z.1.2.2]),(W, [.h z.2.1]),(W, [.b z.2.2])])
  exact Qd<|tn [6,7,8] [6] p0<|Qc<|pz [] (show X3 l u o=_ from Qh b (Qh e (Qu g (Qh k rfl)))) (λz=> .tup [(X, [.h z.1.1.1,.h z.1.1.2.1,.i z.1.1.2.2,.h z.1.2.1,.h z.1.2.2]),(W, [.h z.2.1]),(W, [.b z.2.2])])
 refine su [(87,.b (o.1==(3:Y)))] [50] [] [] p0<|ck (o.1==(3:Y)) (λa=>?_) (λa=>?_)
 ·refine sn [1,3,5,6,7,8,10,11,12,15,16] [3,5,6,10,15] (pc 4 (Sa l.1 o.2.2.1) p0)<|tn [1,3,6,7,8,10,11,12,15,16] [3,6,10,15] (pc 3 (CL l o.2.2.1) p0)<|mz [(11,.h (((Zr l o.2.2.1)).2.1)),(12,.b (((Zr l o.2.2.1)).2.2)),(15,.p 15 0),(16,.b (((Xz l.1 o.2.2.1)).2))] [5,9,11,12,87] [(10, [.h ((((Zr l o.2.2.1)).1).1.1),.h ((((Zr l o.2.2.1)).1).1.2.1),.i ((((Zr l o.2.2.1)).1).1.2.2),.h ((((Zr l o.2.2.1)).1).2.1),.h ((((Zr l o.2.2.1)).1).2.2)]),(15, [.i ((((Xz l.1 o.2.2.1)).1).1),.i ((((Xz l.1 o.2.2.1)).1).2.1),.b ((((Xz l.1 o.2.2.1)).1).2.2.1),.i ((((Xz l.1 o.2.2.1)).1).2.2.2.1),.o 6144 ((((Xz l.1 o.2.2.1)).1).2.2.2.2)])] [5,9,10]<|jn [(12,.b (((Zr l o.2.2.1)).2.2&&(((Xz l.1 o.2.2.1)).2&&(Cg (((Xz l.1 o.2.2.1)).1) u))))] [1,12,15,16] [] [15] (((Zr l o.2.2.1)).2.2) (λc=>?_) (λc=>?_) ?_
  ·refine Ye (((Xz l.1 o.2.2.1)).2) (λf=>?_) (λf=>?_)
   ·exact rn [3,6,7,8,10,11,12] [3,6,10] (pt 0 c (pt 2 f (pc 7 (JB (((Xz l.1 o.2.2.1)).1) u) p0)))<|zA (by rw[c,f]<;>kernel_rfl)
   exact rn [3,6,7,8,10,11,12] [3,6,10] (pt 0 c (pf 2 f p0))<|zA (by rw[c,f]<;>kernel_rfl)
  ·exact rn [3,6,7,8,10,11,12] [3,6,10] (pf 0 c p0)<|zA (by rw[c]<;>kernel_rfl)
  refine Qa<|sn [3,6,7,8,10,11,142] [3,6,10] p0<|ck (!(((Zr l o.2.2.1)).2.2&&(((Xz l.1 o.2.2.1)).2&&(Cg (((Xz l.1 o.2.2.1)).1) u)))) (λm=>?_) (λm=>?_)
  ·exact tn [6,7,8,10,11] [6,10] (pc 1 (Wf l) p0)<|Qc<|pz [9216,9217,9218,9219,9280] (show X3 l u o=_ from Qh b (Qh e (Qh g (Qu a (Qu m rfl))))) (λz=> .tup [(X, [.h z.1.1.1,.h z.1.1.2.1,.i z.1.1.2.2,.h z.1.2.1,.h z.1.2.2]),(W, [.h z.2.1]),(W, [.b z.2.2])])
  exact Qd<|tn [6,7,8] [6] p0<|Qc<|pz [] (show X3 l u o=_ from Qh b (Qh e (Qh g (Qu a (Qh m rfl))))) (λz=> .tup [(X, [.h z.1.1.1,.h z.1.1.2.1,.i z.1.1.2.2,.h z.1.2.1,.h z.1.2.2]),(W, [.h z.2.1]),(W, [.b z.2.2])])
 refine su [(116,.b (o.1==(4:Y)))] [1,87] [] [] p0<|ck (o.1==(4:Y)) (λd=>?_) (λd=>?_)
 ·refine rn [3,6,7,8,10,11,12] [3,6,10] (pc 3 (GP l o.2.2.2) p0) ?_;refine Qa<|tn [3,6,7,8,10,11,142] [3,6,10] p0<|ck (!(((Zn l o.2.2.2)).2.2)) (λn=>?_) (λn=>?_)
  ·exact tu [(7,.one (.slc (.own X 9280) 3 [])),(11,.h (((Zn l o.2.2.2)).2.1))] [3,5,7,9,11,12,116] [(6, [.o 9216 ((Qb l).1.1),.o 9217 ((Qb l).1.2.1),.i ((Qb l).1.2.2),.o 9218 ((Qb l).2.1),.o 9219 ((Qb l).2.2)]),(10, [.h ((((Zn l o.2.2.2)).1).1.1),.h ((((Zn l o.2.2.2)).1).1.2.1),.i ((((Zn l o.2.2.2)).1).1.2.2),.h ((((Zn l o.2.2.2)).1).2.1),.h ((((Zn l o.2.2.2)).1).2.2)])] [3,5,6,9,10] (pc 1 (Wf l) p0)<|Qc<|pz [9216,9217,9218,9219,9280] (show X3 l u o=_ from Qh b (Qh e (Qh g (Qh a (Qu d (Qu n rfl)))))) (λz=> .tup [(X, [.h z.1.1.1,.h z.1.1.2.1,.i z.1.1.2.2,.h z.1.2.1,.h z.1.2.2]),(W, [.h z.2.1]),(W, [.b z.2.2])])
  exact Qd<|tu [(7,.h (((Zn l o.2.2.2)).2.1)),(8,.b X)] [3,5,7,8,9,10,11,12,116] [(6, [.h ((((Zn l o.2.2.2)).1).1.1),.h ((((Zn l o.2.2.2)).1).1.2.1),.i ((((Zn l o.2.2.2)).1).1.2.2),.h ((((Zn l o.2.2.2)).1).2.1),.h ((((Zn l o.2.2.2)).1).2.2)])] [3,5,6,9,10] p0<|Qc<|pz [] (show X3 l u o=_ from Qh b (Qh e (Qh g (Qh a (Qu d (Qh n rfl)))))) (λz=> .tup [(X, [.h z.1.1.1,.h z.1.1.2.1,.i z.1.1.2.2,.h z.1.2.1,.h z.1.2.2]),(W, [.h z.2.1]),(W, [.b z.2.2])])
 refine su [(128,.b (o.1==(5:Y)))] [116] [] [] p0<|ck (o.1==(5:Y)) (λi=>?_) (λi=>?_)
 ·refine rn [3,6,7,8,10,11,12] [3,6,10] (pc 4 (GQ (Qb l) o.2.2.2.1) p0) ?_;refine Qa<|tn [3,6,7,8,10,11,142] [3,6,10] p0<|ck (!(((Z3 (Qb l) o.2.2.2.1)).2.2)) (λp=>?_) (λp=>?_)
  ·exact tu [(7,.one (.slc (.own X 9280) 3 [])),(11,.h (((Z3 (Qb l) o.2.2.2.1)).2.1))] [3,5,7,9,11,12,128] [(6, [.o 9216 ((Qb l).1.1),.o 9217 ((Qb l).1.2.1),.i ((Qb l).1.2.2),.o 9218 ((Qb l).2.1),.o 9219 ((Qb l).2.2)]),(10, [.h ((((Z3 (Qb l) o.2.2.2.1)).1).1.1),.h ((((Z3 (Qb l) o.2.2.2.1)).1).1.2.1),.i ((((Z3 (Qb l) o.2.2.2.1)).1).1.2.2),.h ((((Z3 (Qb l) o.2.2.2.1)).1).2.1),.h ((((Z3 (Qb l) o.2.2.2.1)).1).2.2)])] [3,5,6,9,10] (pc 1 (Wf l) p0)<|Qc<|pz [9216,9217,9218,9219,9280] (show X3 l u o=_ from Qh b (Qh e (Qh g (Qh a (Qh d (Qu i (Qu p rfl))))))) (λz=> .tup [(X, [.h z.1.1.1,.h z.1.1.2.1,.i z.1.1.2.2,.h z.1.2.1,.h z.1.2.2]),(W, [.h z.2.1]),(W, [.b z.2.2])])
  exact Qd<|tu [(7,.h (((Z3 (Qb l) o.2.2.2.1)).2.1)),(8,.b X)] [3,5,7,8,9,10,11,12,128] [(6, [.h ((((Z3 (Qb l) o.2.2.2.1)).1).1.1),.h ((((Z3 (Qb l) o.2.2.2.1)).1).1.2.1),.i ((((Z3 (Qb l) o.2.2.2.1)).1).1.2.2),.h ((((Z3 (Qb l) o.2.2.2.1)).1).2.1),.h ((((Z3 (Qb l) o.2.2.2.1)).1).2.2)])] [3,5,6,9,10] p0<|Qc<|pz [] (show X3 l u o=_ from Qh b (Qh e (Qh g (Qh a (Qh d (Qu i (Qh p rfl))))))) (λz=> .tup [(X, [.h z.1.1.1,.h z.1.1.2.1,.i z.1.1.2.2,.h z.1.2.1,.h z.1.2.2]),(W, [.h z.2.1]),(W, [.b z.2.2])])
 refine rn [3,6,7,8,10,11,12] [3,6,10] p0 ?_;exact Qa<|tn [3,6,7,8,10,11,142] [3,6,10] (pe 1 (show .b (!W)= .b X from rfl) p0)<|ckT<|tu [(7,.one (.slc (.own X 9280) 3 []))] [3,5,7,9,12,128] [(6, [.o 9216 ((Qb l).1.1),.o 9217 ((Qb l).1.2.1),.i ((Qb l).1.2.2),.o 9218 ((Qb l).2.1),.o 9219 ((Qb l).2.2)])] [3,5,6,9] (pc 1 (Wf l) p0)<|Qc<|pz [9216,9217,9218,9219,9280] (show X3 l u o=_ from Qh b (Qh e (Qh g (Qh a (Qh d (Qh i rfl)))))) (λz=> .tup [(X, [.h z.1.1.1,.h z.1.1.2.1,.i z.1.1.2.2,.h z.1.2.1,.h z.1.2.2]),(W, [.h z.2.1]),(W, [.b z.2.2])])
end
section
open Go.RowKit
theorem WW{d:Q Yj}(h:Qo d=X):∀(i:H) (a:Yj),d[i]? =uC a->Zs d i a ()= .next ():=by
 unfold Qo at h;cases b:X5 (Zs d) Wy d 0 () with
 | brk t=>
   intro i a ha;have:=Ra (λk a t=>by unfold Zs;generalize(_|| _:G)=c;cases c<;>simp) b i a ha
   rwa [yL] at this
 | ret r=>
   rw[b] at h;obtain rfl:r=X:=h;exfalso
   have key:∀(l:Q Yj) k,X5 (Zs d) Wy l k ()≠ .ret X:=by
    intro l
    induction l with
    | nil=>intro k h;simp[X5] at h
    | cons a l e=>
      intro k h;simp only[X5] at h;unfold Zs at h;split at h
      . rename_i b;exact e _ h
      . cases h
      rename_i r b;cases h;revert b;generalize(_|| _:G)=c;cases c<;>simp
   exact key _ _ b
theorem Qmu{d:Q Yj}(h:Qo d=X){a:Yj}(b:a∈d):Xp a.1=X:=by
 obtain⟨i,c⟩:=yG b;have:=WW h i a c;unfold Zs at this;cases e:Xp a.1 with
 | true=>rfl
 | false=>rw[e] at this;cases this
theorem KJ{d:Q Yj}(h:Qo d=X):(d.map (·.1)).Nodup:=by
 refine GE (RI λi a=>?_);rw[yK] at a;have e:∀j,j<d.length->nth (d.map (·.1)) j=(nth d j).1:=λj b=>by simp[nth,xR,b]
 rw[e i (by omega),e (i+1) a];have:=WW h (i+1) _ (Hn a);unfold Zs at this;rw[uG (show((i+1:H):Y)>0 by omega),show zK (((i+1:H):Y)-1)=i by omega] at this;simp only[uA] at this;cases hb:bl (nth d i).1 (nth d (i+1)).1 with
 | true=>rfl
 | false=>
   unfold bl at hb;rw[hb] at this;simp at this
theorem Qbi:∀{d:Q Yj},(d.map (·.1)).Nodup->∀{a b:Yj},a∈d->b∈d->a.1=b.1->a=b
 | [],_,_,_,ha,_,_=>by cases ha
 | x ::d,h,a,b,ha,hb,e=>by
   rw[zW] at h;obtain⟨f,i⟩:=yQ.1 h;rcases zT.1 ha with g | ha'
   . rcases zT.1 hb with c | hb'
     . rw[g,c]
     subst g;exact(f (by rw[e];exact zX hb')).elim
   rcases zT.1 hb with c | hb'
   . subst c;exact(f (by rw[←e];exact zX ha')).elim
   exact Qbi i ha' hb' e
theorem Qso(s:O):∀(l:Q Yj) (k:H),(X5 (Yd s) Zg l k ()= .brk ()/\∀a,a∈l->a.1≠s)\/∃(i:H) (a:Yj),l[i]? =uC a/\a.1=s/\X5 (Yd s) Zg l k ()= .ret (((k+i:H)):Y)
 | [],_=> .inl ⟨rfl,λa ha=>by cases ha⟩
 | x ::l,k=>by
   simp only[X5,Yd];have d:Eg x s=decide (x.1=s):=toList_inj;rw[d];by_cases e:x.1=s
   . rw[uG e];exact .inr ⟨0,x,rfl,e,rfl⟩
   simp only[uE e,D];rcases Qso s l (k+1) with⟨b,c⟩ | ⟨i,a,b,c,f⟩
   . refine .inl ⟨b,λa ha=>?_⟩;rcases zT.1 ha with rfl | ha
     . exact e
     exact c a ha
   exact .inr ⟨i+1,a,by simpa using b,c,by rw[f,show k+1+i=k+(i+1) by omega]⟩
theorem Qbj(d:Q Yj)(s:O):(Q9 d s= -1/\∀a,a∈d->a.1≠s)\/∃(i:H) (a:Yj),d[i]? =uC a/\a.1=s/\Q9 d s=((i:H):Y):=by
 unfold Q9 Ke;rcases Qso s d 0 with⟨b,c⟩ | ⟨i,a,b,c,e⟩
 . rw[b];exact .inl ⟨rfl,c⟩
 rw[e,yL];exact .inr ⟨i,a,b,c,rfl⟩
theorem Qw1{d:Q Yj}{a:Yj}(c:a∈d):0<=Q9 d a.1:=by
 rcases Qbj d a.1 with⟨_,e⟩ | ⟨i,b,_,_,f⟩
 . exact(e a c rfl).elim
 rw[f];omega
theorem Quy{d:Q Yj}(g:(d.map (·.1)).Nodup){a:Yj}(f:a∈d):zK (Q9 d a.1)<d.length/\nth d (zK (Q9 d a.1))=a:=by
 rcases Qbj d a.1 with⟨_,c⟩ | ⟨i,b,e,c,h⟩
 . exact(c a f rfl).elim
 rw[h,zO];exact⟨(zU.1 e).1,(T7 e).trans (Qbi g (zL e) f c)⟩
theorem OB : ∀ g:Q Y,∃B:H,∀j,nth g j<=(B:Y)
 | []=>⟨0,λj=>by rw[JZ (by simp)];omega⟩
 | a::g=>by
   obtain⟨B,b⟩:=OB g;refine⟨B+a.toNat,λj=>?_⟩;cases j with
   | zero=>show a<=_;omega
   | succ j => have:nth (a::g) (j+1)=nth g j:=rfl
               rw[this];have:=b j;omega
theorem RP{d:Q Yj}{g:Q Y}(p:Qo d=X)(s:Sat (Kx d) d.length g)(t:∀j,0<=nth g j):(Qr d).2=X:=by
 have u:=Hl p;have hw:=Pm (d:=d) (f:=Ar d) (e:=Au) (F:=Ux d) (λ_ _ _=>rfl) (λ_ _=>rfl) (λ_=>rfl) (by omega) (d.length*d.length+3) (List.replicate d.length 0) X (D1 _).1 (D1 _).2
 have a:(VX (Kx d) d.length d.length (d.length*d.length+3) (X,List.replicate d.length 0)).isSome=X:=by
  have:=Iq d u;rw[zO,hw,Option.isSome_map] at this;exact this
 obtain⟨r,h⟩:=Option.isSome_iff_exists.1 a;have c:∀i e,e∈Kx d i->e.2<=1/\e.1<d.length:=λi e q=>⟨(Pk d i e q).1,(Pk d i e q).2.1⟩
 obtain⟨_,l⟩:=VZ c _ 0 X r (λe=>by cases e) h
 have b:Qgc (Kx d) d.length (after (Kx d) d.length (d.length*d.length+2)):=by
  obtain⟨B,v⟩:=OB g
  have m:∃k,Qgc (Kx d) d.length (after (Kx d) d.length k):=zZ λo=>by
   have h1:=KA (E:=Kx d) (n:=d.length) (d.length*B+1) λj _ h=>o ⟨j,h⟩
   have l:=Qas (after (Kx d) d.length (d.length*B+1)) B λx w=>by
    obtain⟨i,_,e⟩:=FE w;have y:=Pg s t (d.length*B+1) i;have h4:=v i;omega
   rw[Hz] at l;have y:((d.length*B+1:H):Y)=(d.length:Y)*(B:Y)+1:=by rw[xD,Int.natCast_mul];rfl
   omega
  obtain⟨k,z⟩:=m;exact Qau c z
 cases r with
 | none=>exact(l rfl b).elim
 | some L=>
   unfold Qr;rw[p];simp only[zN,D];unfold N2;rw[zO,hw,h];rfl
theorem YG{d:Q Yj}{w:Y}{e:H×Y}:∀{l:Q O},e∈Wk d w l->∃nm,nm∈l/\0<=Q9 d nm/\e=(zK (Q9 d nm),w)
 | [],h=>by cases h
 | x ::l,h=>by
   simp only[Wk] at h;split at h
   . rename_i c;rcases zT.1 h with rfl | h
     . exact⟨x,zH ..,c,rfl⟩
     obtain⟨nm,a,b⟩:=YG h;exact⟨nm,zG _ a,b⟩
   obtain⟨nm,a,b⟩:=YG h;exact⟨nm,zG _ a,b⟩
theorem Qin{d d':Q Yj}(h:(Qr d).2=X)(hv:Qo d'=X)(f:∀a,a∈d'->a∈d):(Qr d').2=X:=by
 obtain⟨t,hl,l,u⟩:=WI (Prod.ext rfl h:Qr d=((Qr d).1,X));generalize(Qr d).1=L at hl l u;have hn:=KJ t;have a1:=KJ hv;have q:∀j,j<d'.length->nth (d'.map λa=>nth L (zK (Q9 d a.1))) j=nth L (zK (Q9 d (nth d' j).1)):=λj o=>by simp[nth,xR,o]
 have key:∀(i:H) (w:Y) (c:Q Q0->Q O) (e:H×Y),i<d'.length->e∈Wk d' w (c (nth d' i).2)->(∀(k:H) (nm:O),k<d.length->nm∈c (nth d k).2->0<=Q9 d nm->(zK (Q9 d nm),w)∈Kx d k)->
  nth (d'.map λa=>nth L (zK (Q9 d a.1))) e.1+e.2<=nth (d'.map λa=>nth L (zK (Q9 d a.1))) i:=λi w c e m he v=>by
  obtain⟨nm,p,r,rfl⟩:=YG he;have hm:nth d' i∈d':=zL (Hn m);obtain⟨n,x⟩:=Quy hn (f _ hm);rcases Qbj d' nm with⟨s,_⟩ | ⟨j,b,s,h4,h5⟩
  . omega
  have o:j<d'.length:=(zU.1 s).1;have hb:b∈d:=f _ (zL s);have y:0<=Q9 d nm:=by have:=Qw1 hb;rwa [h4] at this
  have z:=v _ nm n (by rw[x];exact p) y;have:=(Ec.1 (l _ n)).2 _ z;rw[q i m,h5,zO,q j o,T7 s,h4];exact this
 refine RP (g:=d'.map λa=>nth L (zK (Q9 d a.1))) hv (λi m=>Ec.2 ⟨?_,λe he=>?_⟩) λj=>?_
 . rw[q i m];exact u _
 . unfold Kx at he;rw[uI m] at he;rcases zP.1 he with he | he
   . exact key i 0 Zi e m he λk nm n p r=>by
      unfold Kx;rw[uI n];exact yF _ (Nh p r)
   exact key i 1 Yx e m he λk nm n p r=>by
    unfold Kx;rw[uI n];exact yN _ (Nh p r)
 by_cases o:j<d'.length
 . rw[q j o];exact u _
 rw[JZ (by rw[yK];omega)];omega
theorem Qbk{R S T:Type}{f:S->Rd R S T}(a:∀s r,f s≠ .ret r):∀n s r,whl f n s≠uC (.ret r)
 | 0,_,_=>by simp[whl]
 | n+1,s,r=>by
   simp only[whl];cases h:f s with
   | next s'=>exact Qbk a n s' r
   | brk t=>simp
   | ret b=>exact absurd h (a s b)
theorem Qqz{R S T:Type}[uQ T]{f:S->Rd R S T}(a:∀s r,f s≠ .ret r)(n:H)(s:S):∃t,N2 f n s= .brk t:=by
 unfold N2;cases h:whl f n s with
 | none=>exact⟨default,rfl⟩
 | some o=>
   cases o with
   | brk t=>exact⟨t,rfl⟩
   | ret r=>exact absurd h (Qbk a n s r)
theorem Qmv{R S T:Type}{f:S->Rd R S T}(I:S->Prop)(J:T->Prop)(b:∀s s',I s->f s= .next s'->I s')(c:∀s t,I s->f s= .brk t->J t):∀n s t,I s->whl f n s=uC (.brk t)->J t
 | 0,_,_,_,h=>by simp[whl] at h
 | n +1,s,t,hi,h=>by
   simp only[whl] at h;cases a:f s with
   | next s'=>rw[a] at h;exact Qmv I J b c n s' t (b s s' hi a) h
   | brk d=>
     rw[a] at h;obtain rfl:d=t:=by simpa using h
     exact c s d hi a
   | ret r=>rw[a] at h;simp at h
theorem Qq0{R S T:Type}[uQ T]{f:S->Rd R S T}(I:S->Prop)(J:T->Prop)(a:∀s s',I s->f s= .next s'->I s')(b:∀s t,I s->f s= .brk t->J t){n:H}{s:S}{t:T}(c:I s)(d:(whl f n s).isSome=X)(h:N2 f n s= .brk t):J t:=
 Qmv I J a b n s t c (by rw[Mv d,h])
instance memDec (a:O) (S:Q O):Decidable (a∈S):=decidable_of_iff (S.any (λx=>decide (x=a))=X) (by rw[yW];exact⟨λ⟨x,h,e⟩=>uK e▸h,λh=>⟨a,h,uG rfl⟩⟩)
abbrev OD:=Q (O×Q O)
inductive Reach (E:OD) (N:Q O):O->Prop
 | base {x:O}:x∈N->Reach E N x
 | step {e:O×Q O} {a:O}:e∈E->a∈e.2->Reach E N a->Reach E N e.1
def KK(E:OD)(S:Q O):Prop:=∀e,e∈E->∀a,a∈e.2->a∈S->e.1∈S
theorem Qgv{E:OD}{N S:Q O}(a:∀x,x∈N->x∈S)(b:KK E S){x:O}(h:Reach E N x):x∈S:=by
 induction h with
 | base h=>exact a _ h
 | step c ha _ d=>exact b _ c _ ha d
theorem Qq1{S:Q O}{x:O}(h:HQ S)(a:x∈S):PS S x=S:=
 PT _ _ (VU x S h) h λy=>by rw[Rb];exact⟨λh=>h.elim (λe=>e▸a) id,.inr⟩
def Qej(e:O×Q O)(S:Q O)(a:O):Q O:=if a∈S then PS S e.1 else S
def GR(S:Q O)(e:O×Q O):Q O:=e.2.foldl (Qej e) S
def Pt(E:OD)(S:Q O):Q O:=E.foldl GR S
def Er(E:OD)(S:Q O):H->Q O
 | 0=>S
 | k+1=>Pt E (Er E S k)
theorem Qmw{e:O×Q O}{S:Q O}{a x:O}(b:x∈S):x∈Qej e S a:=by
 unfold Qej;split
 . exact(Rb _ _ _).2 (.inr b)
 exact b
theorem DN{e:O×Q O}{x:O}:∀(l:Q O) (S:Q O),x∈S->x∈l.foldl (Qej e) S
 | [],_,h=>h
 | _::l,_,h=>DN l _ (Qmw h)
theorem WX{x:O}:∀(E:OD) (S:Q O),x∈S->x∈Pt E S
 | [],_,h=>h
 | e::E,S,h=>WX E (GR S e) (DN e.2 S h)
theorem Qgw{e:O×Q O}:∀(l:Q O) (S:Q O),HQ S->HQ (l.foldl (Qej e) S)
 | [],_,h=>h
 | a::l,S,h=>Qgw l _ (by unfold Qej;split;exact VU _ _ h;exact h)
theorem Qbl:∀(E:OD) (S:Q O),HQ S->HQ (Pt E S)
 | [],_,h=>h
 | e::E,S,h=>Qbl E (GR S e) (Qgw e.2 S h)
theorem OE{E:OD}{N:Q O}{e:O×Q O}(c:e∈E):∀(l:Q O) (S:Q O),(∀a,a∈l->a∈e.2)->(∀x,x∈S->Reach E N x)->∀x,x∈l.foldl (Qej e) S->Reach E N x
 | [],_,_,h=>h
 | a ::l,S,hl,h=>OE c l _ (λb hb=>hl b (zG _ hb)) λx hx=>by
   unfold Qej at hx;split at hx
   . rename_i ha;rcases(Rb _ _ _).1 hx with rfl | hx
     . exact .step c (hl a (zH ..)) (h a ha)
     exact h x hx
   exact h x hx
theorem GS{N:Q O}{a:OD}:∀(E:OD) (S:Q O),(∀e,e∈E->e∈a)->(∀x,x∈S->Reach a N x)->∀x,x∈Pt E S->Reach a N x
 | [],_,_,h=>h
 | e::E,S,hE,h=>GS E (GR S e) (λf b=>hE f (zG _ b)) (OE (hE e (zH ..)) e.2 S (λ_ h=>h) h)
theorem Qgx{e:O×Q O}{a:O}:∀(l:Q O) (S:Q O),a∈l->a∈S->e.1∈l.foldl (Qej e) S
 | b::l,S,ha,hS=>by
   rw[xE];rcases zT.1 ha with rfl | ha
   . refine DN l _ ?_;unfold Qej;rw[uI hS];exact(Rb _ _ _).2 (.inl rfl)
   exact Qgx l _ ha (Qmw hS)
theorem Qbm:∀(E:OD) (S:Q O) {e:O×Q O} {a:O},e∈E->a∈e.2->a∈S->e.1∈Pt E S
 | f::E,S,e,a,he,ha,hS=>by
   show e.1∈Pt E (GR S f);rcases zT.1 he with rfl | he
   . exact WX E _ (Qgx _ S ha hS)
   exact Qbm E _ he ha (DN f.2 S hS)
theorem GT{e:O×Q O}{S:Q O}(c:HQ S):∀l:Q O,(∀a,a∈l->a∈S->e.1∈S)->l.foldl (Qej e) S=S
 | [],_=>rfl
 | a ::l,h=>by
   have:Qej e S a=S:=by
    unfold Qej;split
    . rename_i ha;exact Qq1 c (h a (zH ..) ha)
    rfl
   rw[xE,this];exact GT c l λb hb=>h b (zG _ hb)
theorem BP{S:Q O}(a:HQ S):∀E:OD,KK E S->Pt E S=S
 | [],_=>rfl
 | e::E,h=>by
   show Pt E (GR S e)=S;rw[show GR S e=S from GT a e.2 (h e (zH ..))];exact BP a E λf b=>h f (zG _ b)
def LL(E:OD)(S:Q O):H:=(E.filter λe=> !decide (e.1∈S)).length
theorem Qbn{S T:Q O}(h:∀x,x∈S->x∈T):∀E:OD,LL E T<=LL E S
 | []=>yI _
 | e::E=>by
   have c:=Qbn h E;unfold LL at c⊢;by_cases a:e.1∈S
   . have b:=h _ a;simp only[yC,a,b,decide_true,zN,yJ,if_false];exact c
   by_cases b:e.1∈T
   . simp only[yC,a,b,decide_true,decide_false,zN,zR,yJ,if_false,if_true,List.length_cons];omega
   simp only[yC,a,b,decide_false,zR,if_true,List.length_cons];omega
theorem Qbo{S T:Q O}(h:∀x,x∈S->x∈T):∀{E:OD} {e:O×Q O},e∈E->e.1∉S->e.1∈T->LL E T+1<=LL E S
 | f::E,e,he,h1,h2=>by
   rcases zT.1 he with rfl | he
   . have a:=Qbn h E;unfold LL at a⊢;simp only[yC,h1,h2,decide_true,decide_false,zN,zR,yJ,if_false,if_true,List.length_cons];omega
   have a:=Qbo h he h1 h2;unfold LL at a⊢;by_cases b:f.1∈S
   . have c:=h _ b;simp only[yC,b,c,decide_true,zN,yJ,if_false];exact a
   by_cases c:f.1∈T
   . simp only[yC,b,c,decide_true,decide_false,zN,zR,yJ,if_false,if_true,List.length_cons];omega
   simp only[yC,b,c,decide_false,zR,if_true,List.length_cons];omega
theorem AG{E:OD}{S:Q O}(h:HQ S):∀k,HQ (Er E S k)
 | 0=>h
 | k+1=>Qbl E _ (AG h k)
theorem GU{E:OD}{S:Q O}(i:HQ S):∀k,KK E (Er E S k)\/LL E (Er E S k)+k<=E.length
 | 0=> .inr (by unfold LL;exact List.length_filter_le _ _)
 | k+1=>by
   show KK E (Pt E (Er E S k))\/LL E (Pt E (Er E S k))+(k+1)<=E.length;by_cases b:KK E (Er E S k)
   . rw[BP (AG i k) E b];exact .inl b
   rcases GU i k with h | h
   . exact(b h).elim
   right
   have:∃e,e∈E/\∃a,a∈e.2/\a∈Er E S k/\e.1∉Er E S k:=zZ λd=>b λe c a ha f=>zZ λg=>d ⟨e,c,a,ha,f,g⟩
   obtain⟨e,c,a,ha,f,g⟩:=this;have:=Qbo (λx j=>WX E _ j) c g (Qbm E _ c ha f);omega
theorem Qek{E:OD}{S N:Q O}(d:HQ S)(c:∀x,x∈S↔x∈N)(x:O):x∈Er E S (E.length+1)↔Reach E N x:=by
 have a:∀k x,x∈S->x∈Er E S k:=λk=>by
  induction k with
  | zero=>exact λ_ h=>h
  | succ k b=>exact λx h=>WX E _ (b x h)
 have e:∀k x,x∈Er E S k->Reach E N x:=λk=>by
  induction k with
  | zero=>exact λx h=> .base ((c x).1 h)
  | succ k b=>exact GS E _ (λ_ h=>h) b
 refine⟨e _ x,λh=>?_⟩;refine Qgv (λy f=>a _ y ((c y).2 f)) ?_ h;rcases GU d (E.length+1) with h | h
 . exact h
 omega
theorem ZC{α R:Type}{f:H->α->Q O->Rd R (Q O) (Q O)}{e:H->Q O->Q O}{p:α->G}{g:α->O}(b:∀k a s,f k a s=bif p a then .next (Vl s (g a)) else .next s)(c:∀k s,e k s=s):∀(l:Q α) (k:H) (s:Q O),X5 f e l k s= .brk (F1 s ((l.filter p).map g))
 | [],k,s=>by simp[X5,c,F1]
 | a ::l,k,s=>by
   simp only[X5,b];cases h:p a with
   | true=>
     simp only[uA];rw[ZC b c l (k+1),XS,yX h];rfl
   | false=>
     simp only[D];rw[ZC b c l (k+1),yY (by simp[h])]
theorem Qbp(q:Q Q0):Uj q=Ui q:=by
 unfold Uj Ui;rw[ZC (f:=Gx) (e:=Nx) (p:=Ku) (g:=λn:Q0=>n.2.2.2.1) (λk a s=>by unfold Gx;rw[FG]) (λ_ _=>rfl),Eb (f:=Nv) (p:=Ku) (g:=λn:Q0=>n.2.2.2.1) (λ_ _ _=>rfl)];rfl
theorem Qel(n:Q0):Xd n.1 2 4=((n.1==(2:Y))|| ((n.1==(3:Y))|| (n.1==(4:Y)))):=by
 unfold Xd;rw[xC];simp;omega
theorem RQ(q:Q Q0):V4 q=Ub q:=by
 unfold V4 Ub;rw[ZC (f:=Fn) (e:=Mh) (p:=λn:Q0=>((n.1==(2:Y))|| ((n.1==(3:Y))|| (n.1==(4:Y))))) (g:=λn:Q0=>n.2.2.2.1) (λk a s=>by unfold Fn;rw[Qel]) (λ_ _=>rfl),Eb (f:=Mg) (p:=λn:Q0=>((n.1==(2:Y))|| ((n.1==(3:Y))|| (n.1==(4:Y))))) (g:=λn:Q0=>n.2.2.2.1) (λ_ _ _=>rfl)];rfl
theorem BQ(f:Xt):Zc f=Qj f:=by
 unfold Zc Qj;rw[Ww (f:=Gy) (g:=λa:Hk=>a.1) (λ_ _ _=>rfl),Ww (f:=Gw) (g:=λa:Hk=>a.1) (λ_ _ _=>rfl)];rfl
theorem Qbq{α R S T:Type}[uQ α]{L:Q α}{f:H->α->S->Rd R S T}{g:H->S->Rd R S T}{e e':H->S->T}(a:∀k s,g k s=f k (nth L k) s)(b:∀k s,e' k s=e k s):∀(n k:H) (s:S),k+n=L.length->Vj g e' n k s=X5 f e (L.drop k) k s
 | 0,k,s,h=>by rw[List.drop_eq_nil_of_le (by omega)];simp[X5,Vj,b]
 | n+1,k,s,h=>by
   rw[EY (Hn (by omega:k<L.length))];simp only[X5,Vj,a];cases f k (nth L k) s with
   | next s'=>exact Qbq a b n (k+1) s' (by omega)
   | brk t=>rfl
   | ret r=>rfl
def Qgy(a b:Xt)(x:O):G:=(!(((X7 a x).1==(X7 b x).1)&&(((X7 a x).2.1==(X7 b x).2.1)&&((((X7 a x).2.2).toList==((X7 b x).2.2).toList)&&X))))
theorem Qio(a b:Xt):Hg a b=Vi a b:=by
 unfold Hg Vi;rw[BQ,BQ];have c:zK (((Qj a).length+(Qj b).length):Y)=(Qj a++Qj b).length:=by rw[List.length_append];omega
 rw[c,Qbq (L:=Qj a++Qj b) (f:=λ_ x s=>bif Qgy a b x then .next (s++ [x]) else .next s) (e:=λ_ s=>s) (g:=Ic a b) (e':=Ie) (λ_ _=>rfl) (λ_ _=>rfl) _ 0 [] (yL _),List.drop_zero,
  Eb (f:=λ_ x s=>bif Qgy a b x then .next (s++ [x]) else .next s) (e:=λ_ s=>s) (p:=Qgy a b) (g:=λx:O=>x) (λ_ _ _=>rfl),ZC (f:=Ig a b) (e:=Ih) (p:=Qgy a b) (g:=λx:O=>x) (λ_ _ _=>rfl) (λ_ _=>rfl)]
 rfl
theorem Qem{α R:Type}{p:α->G}{f:H->α->uB->Rd Y uB R}{e:H->uB->R}(b:∀k a,f k a ()=bif p a then .ret ((k:H):Y) else .next ()):∀(l:Q α) (k:H),decide ((Out.on (X5 f e l k ()) (λ_=>(-1:Y)))>=0)=l.any p
 | [],k=>rfl
 | a::l,k=>by
   simp only[X5,b,xK];cases p a with
   | true=>simp only[uA,Out.on,Bool.true_or];exact uG (by omega)
   | false=>simp only[D,Bool.false_or];exact Qem b l (k+1)
theorem Qmx{α R:Type}{p:α->G}{f:H->α->G->Rd R G G}{e:H->G->G}(b:∀k a s,f k a s= .next (s|| p a))(c:∀k s,e k s=s):∀(l:Q α) (k:H) (s:G),X5 f e l k s= .brk (s|| l.any p)
 | [],k,s=>by simp[X5,c]
 | a::l,k,s=>by
   simp only[X5,b,xK];rw[Qmx b c l (k+1),Bool.or_assoc]
theorem Qbr:∀(q:Q Q0) (k:H),Out.on (X5 Dp Gz q k ()) (λ_=>W)=q.any Kq
 | [],k=>rfl
 | a::q,k=>by
   simp only[X5,Dp,xK];unfold Kq;cases(a.1==(9:Y)) with
   | true=>rfl
   | false=>simp only[D,Bool.false_or];exact Qbr q (k+1)
theorem YH(d:Q Yj):Hh d=Zd d:=by
 rw[KG];unfold Hh;rw[Ww (f:=Lu) (g:=λa:Yj=>a.1) (λ_ _ _=>rfl)];simp[Out.on,Lw]
theorem Qq2(l m:Q O):(l.any λx=>Up m x)=m.any λx=>Wc x l:=by
 rw[xC,yW,yW];constructor
 . rintro⟨x,a,b⟩;exact⟨x,(GL _ _).1 b,(El x l).2 a⟩
 rintro⟨x,a,b⟩;exact⟨x,(El x l).1 b,(GL _ _).2 a⟩
theorem Qen(d:Q Yj)(a b:Xt):V9 d a b=V8 d a b:=by
 unfold V9 V8
 rw[YH,Mw (f:=Vs a b) (g:=Wr a b) (e:=U2) (e':=Ax) (λk x s=>by
  unfold Vs Wr;rw[Qmx (f:=Ay a b) (e:=Az) (p:=λx=>Up (Hg a b) x) (λ_ _ _=>rfl) (λ_ _=>rfl)];simp only[Out.on];rw[Qq2,Qio,RQ];have c:Yb (Vi a b) (Ub x.2)=(Vi a b).any λy=>Wc y (Ub x.2):=Qem (λ_ _=>rfl) _ 0
  have h:Yl x.2=x.2.any Kq:=Qem (λ_ _=>rfl) _ 0;have i:Fo x.2=x.2.any Kq:=Qbr x.2 0;rw[c,h,i,Bool.or_comm,Bool.and_comm (a.2.2.2.1 !=b.2.2.2.1)]) (λ_ _=>rfl)]
def GV(d:Q Yj):OD:=d.map λa=>(a.1,Ui a.2)
theorem Qeo(a:Yj)(b:Q O):∀(l:Q O) (k:H) (s:Q O),X5 (U3 a) Bq l k s= .brk (l.foldl (Qej (a.1,b)) s)
 | [],k,s=>rfl
 | x ::l,k,s=>by
   simp only[X5,U3,xE];unfold Qej;cases h:Up s x with
   | true=>
     rw[uI ((GL s x).1 h),XS];exact Qeo a b l (k+1) _
   | false=>
     rw[uJ (λc=>by rw[(GL s x).2 c] at h;cases h)];exact Qeo a b l (k+1) s
theorem Qmy:∀(d:Q Yj) (k:H) (s:Q O),X5 U4 Br d k s= .brk (Pt (GV d) s)
 | [],k,s=>rfl
 | a::d,k,s=>by
   simp only[X5,U4,Qbp];rw[Qeo a (Ui a.2)];simp only[Out.on];exact Qmy d (k+1) _
theorem BR(E:OD)(s:Q O):∀n,Er E (Pt E s) n=Er E s (n+1)
 | 0=>rfl
 | n+1=>by show Pt E (Er E (Pt E s) n)=Pt E (Er E s (n+1));rw[BR E s n]
theorem Qmz(d:Q Yj):∀(n k:H) (s:Q O),Vj (U5 d) Bs n k s= .brk (Er (GV d) s n)
 | 0,k,s=>rfl
 | n+1,k,s=>by
   simp only[Vj,U5];rw[Qmy];simp only[Out.on];rw[Qmz d n (k+1),BR]
theorem Qip(d:Q Yj)(names:Q O):HQ (Zl d names)/\∀x,x∈Zl d names↔Reach (GV d) names x:=by
 unfold Zl;rw[ZC (f:=Bo) (e:=Bp) (p:=λ_=>X) (g:=id) (λ_ _ _=>rfl) (λ_ _=>rfl)];simp only[Out.on];rw[Qmz,show zK ((d.length:Y)+1)=(GV d).length+1 by unfold GV;rw[yK];omega];have a:HQ (F1 [] ((names.filter λ_=>X).map id)):=Tm _ _ yV;exact⟨AG a _,Qek a λx=>by rw[Tl];simp⟩
theorem Qm0(d:Q Yj)(nm x:O):x∈Z9 d nm↔∃a,a∈d/\a.1=x/\nm∈Ui a.2:=by
 unfold Z9;rw[Eb (f:=Cy nm) (p:=λa:Yj=>Qx (Ui a.2) nm) (g:=λa:Yj=>a.1) (λ_ _ _=>rfl)];simp only[Out.on,Fl,zY,xA,List.mem_filter,El];constructor
 . rintro⟨a,⟨b,c⟩,e⟩;exact⟨a,b,e,c⟩
 rintro⟨a,b,e,c⟩;exact⟨a,⟨b,c⟩,e⟩
theorem YI:∀(l:Q O) (k:H) (s:Q O),∃b,X5 Km Vm l k s= .brk (s++b)/\(∀x,x∈l->x∈s++b)/\∀x,x∈b->x∈l
 | [],k,s=>⟨[],by simp[X5,Vm],λx hx=>(by cases hx),λx hx=>(by cases hx)⟩
 | a :: l,k,s=>by
   simp only[X5,Km];cases f:Qx s a with
   | true=>
     simp only[zN,D];obtain⟨b,c,d,e⟩:=YI l (k+1) s;refine⟨b,c,λx hx=>?_,λx hx=>zG _ (e x hx)⟩;rcases zT.1 hx with rfl | hx
     . exact yF _ ((El _ _).1 f)
     exact d x hx
   | false=>
     simp only[zR,uA];obtain⟨b,c,d,e⟩:=YI l (k+1) (s++ [a]);refine⟨a::b,by rw[c,yH];rfl,λx hx=>?_,λx hx=>?_⟩
     . rcases zT.1 hx with rfl | hx
       . simp
       have:=d x hx;simpa using this
     rcases zT.1 hx with rfl | hx
     . exact zH ..
     exact zG _ (e x hx)
structure WorkI (d:Q Yj) (names:Q O) (s:Q O×Y):Prop where
 all:∀x,x∈names->x∈s.1
 reach:∀x,x∈s.1->Reach (GV d) names x
 pos:0<=s.2
 len:s.2<=(s.1.length:Y)
 done:∀j:H,(j:Y)<s.2->∀e,e∈GV d->nth s.1 j∈e.2->e.1∈s.1
theorem Qm1{d:Q Yj}{names:Q O}{s s':Q O×Y}(h:WorkI d names s)(b:Y8 d s= .next s'):WorkI d names s':=by
 unfold Y8 at b;by_cases o:s.2<(s.1.length:Y)
 . simp only[uG o,uA] at b;obtain⟨c,q,r,t⟩:=YI (Z9 d (nth s.1 (zK s.2))) 0 s.1;rw[q] at b;simp only[Out.on] at b;have b:=Rd.next.inj b;rw[←b];have w:=h.pos
   have f:∀j:H,(j:Y)<s.1.length->nth (s.1++c) j=nth s.1 j:=λj k=>by
    have l:j<s.1.length:=by omega
    simp[nth,xR,List.getElem?_append,l]
   have g:nth s.1 (zK s.2)∈s.1:=zL (Hn (by omega));refine⟨λx hx=>yF _ (h.all x hx),λx hx=>?_,by show 0<=s.2+1;omega,by show s.2+1<=((s.1++c).length:Y);rw[List.length_append];omega,λj k e p i=>?_⟩
   . rcases zP.1 hx with hx | hx
     . exact h.reach x hx
     obtain⟨a,ha,m,u⟩:=(Qm0 d _ x).1 (t x hx);rw[←m];exact Reach.step (e:=(a.1,Ui a.2)) (zX ha) u (h.reach _ g)
   have k:(j:Y)<s.2+1:=k;have i:nth (s.1++c) j∈e.2:=i;rw[f j (by omega)] at i;by_cases n:(j:Y)<s.2
   . exact yF _ (h.done j n e p i)
   have v:j=zK s.2:=by omega
   subst v;obtain⟨a,ha,rfl⟩:=xA.1 p;exact r a.1 ((Qm0 d _ _).2 ⟨a,ha,rfl,i⟩)
 simp only[uE o,D] at b;cases b
theorem RR{d:Q Yj}{names:Q O}(n:(zF names:Y)+zF d<=1000000):Zl d names=Yo d names:=by
 obtain⟨c,o⟩:=Qip d names;unfold Yo
 obtain⟨t,m⟩:=Qqz (f:=Y8 d) (λs r=>by
  unfold Y8;by_cases g:s.2<(s.1.length:Y)
  . simp only[uG g,uA];obtain⟨k,c,_,_⟩:=YI (Z9 d (nth s.1 (zK s.2))) 0 s.1;rw[c];simp[Out.on]
  simp[uE g]) (zF names+zF d+1) (names,0)
 have b:(∀x,x∈names->x∈t)/\(∀x,x∈t->Reach (GV d) names x)/\KK (GV d) t:=Qq0 (f:=Y8 d) (I:=WorkI d names) (J:=λt=>(∀x,x∈names->x∈t)/\(∀x,x∈t->Reach (GV d) names x)/\KK (GV d) t) (λs s' i h=>Qm1 i h) (λs t i h=>by
  unfold Y8 at h;by_cases g:s.2<(s.1.length:Y)
  . simp only[uG g,uA] at h;obtain⟨k,c,_,_⟩:=YI (Z9 d (nth s.1 (zK s.2))) 0 s.1;rw[c] at h;simp[Out.on] at h
  simp only[uE g,D] at h;have h:=Rd.brk.inj h;rw[←h];refine⟨i.all,i.reach,λe p a ha q=>?_⟩;obtain⟨j,l,b⟩:=List.getElem_of_mem q;exact i.done j (by omega) e p (by rw[T7 (zU.2 ⟨l,b⟩)];exact ha)) ⟨λx h=>h,λx h=> .base h,Int.le_refl 0,by show(0:Y)<=_;omega,λj b=>by have b:(j:Y)<0:=b;omega⟩ (Fz d names n) m
 rw[m];simp only[Out.on]
 exact PT _ _ c (Tm _ _ yV) λx=>by
  rw[o,Tl];exact⟨λh=> .inl (Qgv b.1 b.2.2 h),λh=>h.elim (b.2.1 x) λh=>by cases h⟩
theorem Qep{d:Q Yj}(a b:Xt)(hd:zF d<=1000):Ak d a b=Wq d a b:=by
 unfold Ak Wq;rw[Qen];have:=BO d a b;exact RR (by omega)
theorem On(s:X2):Qg s=s:=by
 unfold Qg;rw[Ww (f:=Ds) (e:=Gf) (g:=id) (λ_ _ _=>rfl),yP];rfl
theorem Es(d:Q Yj):Vt d=d:=by
 unfold Vt;rw[Ww (f:=M3) (e:=Sc) (g:=id) (λ_ _ _=>rfl),yP];rfl
theorem LM(r:Q Qi):En r=r:=by
 unfold En;rw[Ww (f:=Lq) (e:=Lr) (g:=id) (λ_ _ _=>rfl),yP];rfl
theorem Qiq(r:Q Qi):Gg r=r:=by
 unfold Gg;rw[Ww (f:=Mk) (e:=Ml) (g:=id) (λ_ _ _=>rfl),yP];rfl
theorem Mm(c:Xu):Xq c=c:=by
 unfold Xq;rw[Is,Em,LM]
theorem Ii(c:Xu):Qb c=c:=by
 unfold Qb;rw[On,Es,Qiq]
theorem RS(s:X2)(n:Y):Xz s n=Xs s n:=by
 unfold Xz Xs;rw[Qmk];by_cases h:Y0 s n>=0
 . rw[uG h,uE (by omega)];rfl
 rw[uE h,uG (by omega)];rfl
theorem Qbs(s:X2)(f:Xt):Y2 s f=Za s f:=by
 unfold Y2 Za;rw[On,Is,D2,FM];rfl
theorem Qir(s:X2)(f:Xt):Zw s f=Ym s f:=by
 unfold Zw Ym;rw[On,Is,D2,FM,Qmk];rfl
theorem Qbt(s:X2)(id:Y):Z6 s id=Zj s id:=by
 unfold Z6 Zj;rw[On,Is,D2,Qmk];cases b:Qq s with
 | false=>rfl
 | true=>
   by_cases h:Y0 s id<0
   . rw[uG h];rfl
   rw[uE h];have c:=GD s id;have d:=GC b;have hw:uU uV (Y0 s id+1)=Y0 s id+1:=IntWalk.i64_in _ (by omega);have a:zK (Y0 s id+1)=zK (Y0 s id)+1:=by omega
   simp only[zN,xL,D]
   first
    | rw[hw,a];rfl
    | rw[a];rfl
abbrev Qxr(d:Q Yj):Prop:=d.Pairwise λa b=>bl a.1 b.1=X
theorem GW{d:Q Yj}(h:Qo d=X):Qxr d:=by
 have key:HQ (d.map (·.1)):=by
  refine RI λi a=>?_
  rw[yK] at a;have e:∀j,j<d.length->nth (d.map (·.1)) j=(nth d j).1:=λj b=>by simp[nth,xR,b]
  rw[e i (by omega),e (i+1) a];have:=WW h (i+1) _ (Hn a);unfold Zs at this;rw[uG (show((i+1:H):Y)>0 by omega),show zK (((i+1:H):Y)-1)=i by omega] at this;simp only[uA] at this;cases hb:bl (nth d i).1 (nth d (i+1)).1 with
  | true=>rfl
  | false=>
    unfold bl at hb;rw[hb] at this;simp at this
 exact List.pairwise_map.1 key
def Qbu(x:Yj):Q Yj->Q Yj
 | []=> [x]
 | a::l=>if bl a.1 x.1=X then a::Qbu x l else if a.1=x.1 then x::l else x::a::l
theorem Quz{a b:O}(h:bl a b=X):a≠b:=λe=>by subst e;rw[Qaq] at h;cases h
theorem GX(x:Yj):∀(l:Q Yj) (k:H) (s:Q Yj),(∀a,a∈l->a.1≠x.1)->X5 (Fr x) Ly l k (s,X)= .brk (s++l,X)
 | [],k,s,_=>by simp[X5,Ly]
 | a::l,k,s,h=>by
   have ha:(a.1.toList==x.1.toList)=W:=by rw[toList_inj];exact uE (h a (zH ..))
   simp only[X5,Fr,ha,zN,yE,D,zR,uA];rw[GX x l (k+1) (s++ [a]) λb hb=>h b (zG _ hb),yH];rfl
theorem Qbv(x:Yj):∀(l:Q Yj) (k:H) (s:Q Yj),Qxr l->∃y b,X5 (Fr x) Ly l k (s,W)= .brk (y,b)/\(bif !b then y++ [x] else y)=s++Qbu x l
 | [],k,s,_=>⟨s,W,rfl,rfl⟩
 | a :: l,k,s,h=>by
   obtain⟨g,i⟩:=yM.1 h;simp only[X5,Fr];cases hb:Op.bytesLess a.1.toList x.1.toList with
   | true=>
     have d:bl a.1 x.1=X:=hb;have ha:(a.1.toList==x.1.toList)=W:=by rw[toList_inj];exact uE (Quz d)
     simp only[ha,zN,zR,yR,D,uA];obtain⟨y,b,j,m⟩:=Qbv x l (k+1) (s++ [a]) i;refine⟨y,b,j, ?_⟩;rw[m,Qbu,uI d,yH];rfl
   | false=>
     have d:¬bl a.1 x.1=X:=by unfold bl;rw[hb];simp
     by_cases e:a.1=x.1
     . have ha:(a.1.toList==x.1.toList)=X:=by rw[toList_inj];exact uG e
       simp only[ha,zN,zR,xM,D,uA];refine⟨_,_,GX x l (k+1) _ λc f=>?_, ?_⟩
       . have:=Quz (g c f);rw[e] at this;exact this.symm
       rw[Qbu,uJ d,uI e];simp
     have ha:(a.1.toList==x.1.toList)=W:=by rw[toList_inj];exact uE e
     simp only[ha,zR,xM,uA];have n:bl x.1 a.1=X:=Qsc (by cases o:bl a.1 x.1 with | true=>exact(d o).elim | false=>rfl) (Ne.symm e);refine⟨_,_,GX x l (k+1) _ λc f=>?_, ?_⟩
     . exact(Quz (VT n (g c f))).symm
     rw[Qbu,uJ d,uJ e];simp
theorem Qm2(x:Yj):∀(l:Q Yj) (i:H) (a:Yj),Qxr l->l[i]? =uC a->a.1=x.1->l.set i x=Qbu x l
 | [],i,a,_,h,_=>by simp at h
 | b::l,0,a,h,c,e=>by
   obtain rfl:b=a:=by simpa using c
   rw[Qbu,uJ (by rw[e,Qaq];simp),uI e];rfl
 | b::l,i+1,a,h,c,e=>by
   obtain⟨d,f⟩:=yM.1 h;have c:l[i]? =uC a:=by simpa using c
   have hb:=d a (zL c);rw[e] at hb;rw[Qbu,uI hb,List.set_cons_succ,Qm2 x l i a f c e]
theorem Qm3(x:Yj):∀(l:Q Yj) (k:H),(∀a,a∈l->a.1≠x.1)->(X5 (Jx x) Kl l k ()= .brk ()/\Qbu x l=l++ [x])\/∃j:H,j<l.length/\X5 (Jx x) Kl l k ()= .ret (((k+j:H)):Y)/\Qbu x l=P4 l j x
 | [],k,_=> .inl ⟨rfl,rfl⟩
 | a :: l,k,h=>by
   have e:=h a (zH ..)
   have f:C6 a x= !(bl a.1 x.1):=by
    unfold C6 bl;rw[toList_inj,uE e,xL]
   simp only[X5,Jx,f];cases hb:bl a.1 x.1 with
   | false=>
     right
     refine⟨0,by simp,rfl, ?_⟩;rw[Qbu,uJ (by rw[hb];simp),uJ e];rfl
   | true=>
     simp only[zN,D];rcases Qm3 x l (k+1) λb hb=>h b (zG _ hb) with⟨c,d⟩ | ⟨j,c,d,g⟩
     . left
       refine⟨c, ?_⟩;rw[Qbu,uI hb,d];rfl
     right
     refine⟨j+1,by simpa using c,by rw[d,show k+1+j=k+(j+1) by omega], ?_⟩;rw[Qbu,uI hb,g];simp[P4]
theorem Qm4{d:Q Yj}(x:Yj)(k:Qo d=X):Zh d x=bif Qo (Qbu x d) then(Qbu x d,X) else(d,W):=by
 have ha:=GW k
 have c:∀y,(bif ((!(Qo d))|| (!(Qo y))) then(d,W) else(y,X))=bif Qo y then(y,X) else(d,W):=λy=>by
  rw[k];cases Qo y<;>rfl
 unfold Zh;rw[Em];rcases Qbj d x.1 with⟨f,g⟩ | ⟨i,a,f,g,m⟩
 . rw [f,uE (show¬(-1:Y)>=0 by omega)];simp only[D];rcases Qm3 x d 0 g with⟨l,h⟩ | ⟨j,l,h,n⟩
   . have b:Q4 d x= -1:=by unfold Q4;rw[l];rfl
     rw[b,uG (show(-1:Y)<0 by omega),uA,h]
     have e:P4 d (zK (d.length:Y)) (Zo x)=d++ [x]:=by
      rw[zO];simp[P4,Zo]
     rw[e];exact c _
   have b:Q4 d x=((j:H):Y):=by unfold Q4;rw[h,yL];rfl
   rw[b,uE (show¬((j:H):Y)<0 by omega),D,n,zO];exact c _
 rw[m,uG (show((i:H):Y)>=0 by omega),uA,zO,←Qm2 x d i a ha f g];exact c _
theorem Qm5(d:Q Yj)(x:Yj):Jp d x=Zh d x:=by
 cases c:Qo d with
 | false=>
   have a:Y6 d=W:=(Dz d).symm.trans c;unfold Jp Zh;rw[a,c,Es,Em];simp only[zR,uA,Bool.true_or];generalize decide (_>=(0:Y))=f;generalize decide (_<(0:Y))=g;cases f<;>cases g<;>rfl
 | true=>
   rw[Qm4 x c];have a:Y6 d=X:=(Dz d).symm.trans c;unfold Jp;rw[a,Es];simp only[zN,D];obtain⟨y,b,h,e⟩:=Qbv x d 0 [] (GW c);rw[h];simp only[Out.on,zY] at e⊢;cases b with
   | false=>
     simp only[zR,uA] at e⊢;rw[Es,e,←Dz];cases Qo (Qbu x d)<;>rfl
   | true=>
     simp only[zN,D] at e⊢;rw[Es,e,←Dz];cases Qo (Qbu x d)<;>rfl
theorem OF(nm:O):∀(l:Q Yj) (i:H) (a:Yj),(l.map (·.1)).Nodup->l[i]? =uC a->a.1=nm->(l.filter λb=> !(b.1.toList==nm.toList))=LH l i
 | [],i,a,_,h,_=>by simp at h
 | b ::l,0,a,h,d,e=>by
   obtain rfl:b=a:=by simpa using d
   rw[zW] at h;have g:=(yQ.1 h).1;have hb:(!(b.1.toList==nm.toList))=W:=by rw[toList_inj,uG e];rfl
   rw[yY (by simp[hb])]
   have f:∀c,c∈l->(!(c.1.toList==nm.toList))=X:=λc k=>by
    rw[toList_inj,uE (λj=>g (by rw[e,←j];exact zX k))];rfl
   rw[List.filter_eq_self.2 f];rfl
 | b ::l,i+1,a,h,d,e=>by
   have d:l[i]? =uC a:=by simpa using d
   rw[zW] at h;obtain⟨g,m⟩:=yQ.1 h
   have hb:(!(b.1.toList==nm.toList))=X:=by
    rw[toList_inj,uE (λj=>g (by rw[j,←e];exact zX (zL d)))];rfl
   rw[yX (p:=λb:Yj=> !(b.1.toList==nm.toList)) hb,OF nm l i a m d e];rfl
theorem Qbw(d:Q Yj)(nm:O):Vh d nm=Jl d nm:=by
 unfold Vh Jl;rw[←Dz,Qp6,Es,Em,Eb (f:=Nz nm) (p:=λb:Yj=> !(b.1.toList==nm.toList)) (g:=id) (λ_ _ _=>rfl)];cases h:Qo d with
 | false=>rfl
 | true=>
   rcases Qbj d nm with⟨c,e⟩ | ⟨i,a,c,e,j⟩
   . rw[c];rfl
   rw[j,uE (show¬((i:H):Y)<0 by omega),zO];simp only[zN,xL,D,Out.on,N0,zY,yP];rw[Es,OF nm d i a (KJ h) c e]
theorem Qeq{d:Q Yj}{nm:O}(h:(Jl d nm).2=X):Qo d=X/\∀a,a∈(Jl d nm).1->a∈d:=by
 unfold Jl at h⊢;rw[Em] at h⊢;generalize b:((!(Qo d))|| decide ((Q9 d nm)<(0:Y)))=c at h⊢;cases c with
 | true=>simp at h
 | false=>
   refine⟨Yu (Sl b),λa ha=>?_⟩;rcases zP.1 ha with ha | ha
   . exact List.mem_of_mem_take ha
   exact List.mem_of_mem_drop ha
theorem Qm6{d d':Q Yj}(e:Qo d=X)(f:d'.Sublist d):Qo d'=X:=by
 have ha:Qxr d':=List.Pairwise.sublist f (GW e);have q:=Hl e;have m:=f.length_le;unfold Qo;rw[JU d' 0 (λi a g=>?_)]
 . exact uG (show(d'.length:Y)<=5 by omega)
 have l:a∈d:=f.subset (zL g);obtain⟨j,n⟩:=yG l;have h:=WW e j a n;rw[yL];have b:Xp a.1=X:=Qmu e l
 have k:Qm a.2=X:=by
  cases k:Qm a.2 with
  | true=>rfl
  | false=>
    unfold Zs at h;rw[k] at h;cases decide (((j:H):Y)>(0:Y))<;>simp at h
 unfold Zs;rw[b,k];by_cases r:0<i
 . have c:i-1<d'.length:=by have:=(zU.1 g).1;omega
   have hb:bl (nth d' (i-1)).1 a.1=X:=by
    obtain⟨o,p⟩:=zU.1 g;have:=List.pairwise_iff_getElem.1 ha (i-1) i c o (by omega);rw[p] at this;rw[T7 (List.getElem?_eq_getElem c)];exact this
   unfold bl at hb;rw[show zK (((i:H):Y)-1)=i-1 by omega,hb,uG (show((i:H):Y)>0 by omega)];rfl
 obtain rfl:i=0:=by omega
 rfl
theorem LN{d:Q Yj}{nm:O}(b:(Qr d).2=X)(h:(Jl d nm).2=X):(Qr (Jl d nm).1).2=X:=by
 obtain⟨e,a⟩:=Qeq h;refine Qin b (Qm6 e ?_) a;unfold Jl;rw[Em];generalize((!(Qo d))|| _:G)=c;cases c with
 | true=>exact List.Sublist.refl d
 | false=>
   have f:(List.drop (zK (Q9 d nm)+1) d).Sublist (List.drop (zK (Q9 d nm)) d):=by
    rw[←List.drop_drop];exact List.drop_sublist _ _
   have:=List.Sublist.append (List.Sublist.refl (List.take (zK (Q9 d nm)) d)) f;rw[List.take_append_drop] at this;exact this
theorem GY(a b:Q Qi):B5 a b=Aj a b:=by
 unfold B5 Aj Kr
 rw[Mw (f:=Bt b) (g:=Jh b) (e:=Dj) (e':=Ka) (λk x s=>by
  unfold Bt Jh Ab;rw[DK,Qd9,←Bool.not_and]) (λ_ _=>rfl)]
theorem Ow(c:Xu):Xe c=Xl c:=by
 unfold Xe Xl;rw[FY,GY]
theorem M4{c:Xu}(h:Xl c=X):(Qr c.2.1).2=X:=by
 unfold Xl J8 Zm at h;cases a:(Qr c.2.1).2 with
 | true=>rfl
 | false=>rw[a] at h;simp at h
theorem Qq3{s:X2}{d:Q Yj}{r:Q Qi}{names:Q O}(h:(Qr d).2=X)(m:Qq s=X):∃o p,Zm s d r names=(o,p,X)/\V5 s d r names=(o,X):=by
 obtain⟨q,t⟩:=ZA (L:=((Qr d)).1) (on:=onD d names) (fs:=s.2.1) (g:=Ni r names) (f:=Vw r names) (e:=Ug) (d:=d) (λk a s=>by
  unfold Vw Ni;cases Qx names a.1<;>rfl) (λj _ b=>by unfold onD at b;unfold Ni;rw[b];rfl)
 obtain⟨u,_⟩:=ZA (L:=((Qr d)).1) (on:=onD d names) (fs:=s.2.1) (g:=Ni r names) (f:=Hs r names) (e:=Bg) (d:=d) Qmt (λj _ b=>by unfold onD at b;unfold Ni;rw[b];rfl)
 have key:∀(n k:H) (o:Q Qi) (p:Y),EvS d ((Qr d)).1 (onD d names) s.2.1 (((k:H)):Y) o->∃o' v,Vj (He s d names) Gr n k (o,p)= .brk (o',v)/\Vj (Fq s d names) Mj n k o= .brk o':=by
  intro n
  induction n with
  | zero=>intro k o p _;exact⟨o,p,rfl,rfl⟩
  | succ n w=>
    intro k o p x;obtain⟨o1,y,c,i⟩:=Ll (p:=p) h x;have l:=RL (Qbg s d names k) _ o p X _ c;obtain⟨o2,z,g3,g4⟩:=w (k+1) o1 y (by rw[xD];exact i);refine⟨o2,z, ?_, ?_⟩
    . simp only[Vj];unfold He N2;rw[c];exact g3
    simp only[Vj];unfold Fq N2;rw[l];exact g4
 obtain⟨o,p,c,i⟩:=key (zK (W7 d+1)) 0 _ 0 t;refine⟨o,p, ?_, ?_⟩
 . unfold Zm;rw[h,m,q];simp only[zN,xP,D,Out.on,Ug];rw[c]
 unfold V5;rw[Uo,D2,WL,h,m,u];simp only[zN,xP,D,Out.on,Bg];rw[i]
theorem GZ{c:Xu}{s:X2}{d:Q Yj}{names:Q O}(a:(Qr d).2=X)(b:Qq s=X):(Vu c s d names).1=(Yy c s d names).1/\(Yy c s d names).2.2=X/\(Yy c s d names).1.1=s/\(Yy c s d names).1.2.1=d:=by
 obtain⟨o,p,e,f⟩:=Qq3 (s:=s) (d:=d) (r:=c.2.2) (names:=names) a b;unfold Yy Vu Uc;rw[e,f,Is,Em];exact⟨rfl,rfl,rfl,rfl⟩
theorem RT{s:X2}(f:Xt)(h:Qq s=X):Qq (Za s f).1=X:=by
 rw[←D2,←Qbs];exact ZB (Qmp f (Quv ((D2 s).trans h))).1
theorem RU{s:X2}(a:Y)(h:Qq s=X):Qq (Zj s a).1=X:=by
 rw[←D2,←Qbt];exact ZB (Qmq a (Quv ((D2 s).trans h))).1
theorem Qq4{s:X2}{n:Y}(h:0<=Y0 s n):(nth s.2.1 (zK (Y0 s n))).1=n:=by
 have key:∀(l:Q Xt) (k:H),X5 (Y9 n) Z5 l k ()= .brk ()\/∃(i:H) (a:Xt),l[i]? =uC a/\a.1=n/\X5 (Y9 n) Z5 l k ()= .ret (((k+i:H)):Y):=by
  intro l
  induction l with
  | nil=>exact λk=> .inl rfl
  | cons a l g=>
    intro k;simp only[X5,Y9];by_cases ha:a.1=n
    . have e:C5 a n=X:=uM.2 ha;rw[e];exact .inr ⟨0,a,rfl,ha,rfl⟩
    have e:C5 a n=W:=uP.2 ha;simp only[e,D];rcases g (k+1) with h | ⟨i,b,c,d,f⟩
    . exact .inl h
    exact .inr ⟨i+1,b,by simpa using c,d,by rw[f,show k+1+i=k+(i+1) by omega]⟩
 unfold Y0 K7 at h⊢;rcases key s.2.1 0 with c | ⟨i,a,c,d,f⟩
 . rw[c] at h;have h:(0:Y)<=-1:=h;omega
 rw[f,yL];simp only[Out.on,zO];rw[T7 c];exact d
theorem LO{s:X2}(f:Xt)(h:Qq s=X):Qq (Ym s f).1=X:=by
 have c:=Quv ((D2 s).trans h);unfold Ym;rw[Is,h];by_cases r:Y0 s f.1<0
 . rw[uG r];exact h
 rw[uE r];cases w:Y7 s.1 f with
 | false=>exact h
 | true=>
   have g:=Qq4 (s:=s) (n:=f.1) (by omega);have t:=GD s f.1;generalize Y0 s f.1=p at r g t;obtain⟨k,rfl⟩:∃k:H,p=(k:Y):=⟨p.toNat,by omega⟩;rw[zO] at g;have u:k<s.2.1.length:=by omega
   show Qq (s.1,xH s.2.1 (zK (k:Y)) f,s.2.2)=X;rw[zO,←D2]
   have d:∀(i:H) (a:Xt),(s.2.1.set k f)[i]? =uC a->(i=k/\a=f)\/(i≠k/\s.2.1[i]? =uC a):=λi a l=>by
    rw[List.getElem?_set] at l;by_cases e:k=i
    . subst e;rw[uI rfl,uI u] at l;exact .inl ⟨rfl,(Option.some.inj l).symm⟩
    rw[uJ e] at l;exact .inr ⟨Ne.symm e,l⟩
   have j:=Hn u;have o:=c.file k _ j;refine ZB ⟨c.sch,by show(s.2.1.set k f).length<=12;rw[zV];exact c.len,c.nx1,c.nx2,λi a l=>?_,λi a b ha hb=>?_⟩
   . rcases d i a l with⟨_,rfl⟩ | ⟨_,l⟩
     . exact⟨(FM s.1 a).trans w,by show a.1<s.2.2;rw[←g];exact o.2⟩
     exact c.file i a l
   rcases d i a ha with⟨x,y⟩ | ⟨_,q⟩
   . rcases d (i+1) b hb with⟨v,_⟩ | ⟨_,m⟩
     . omega
     rw[y,←g];exact c.asc i _ b (by rw[x];exact j) m
   rcases d (i+1) b hb with⟨v,z⟩ | ⟨_,m⟩
   . rw[z,←g];exact c.asc i a _ q (by rw[v];exact j)
   exact c.asc i a b q m
structure OpEq (x y:Xu) (a b:G) (c:Xu):Prop where
 cat:x=y
 ok:a=b
 no:b=W->y=c
theorem Qis(c:Xu)(f:Xt):OpEq (Jm c f).1 (Kd c f).1 (Jm c f).2.2.2 (Kd c f).2.2.2 c:=by
 unfold Jm Kd;rw[Ii,Mm,Ow,YH];have e:((c.1.1,c.1.2.1,c.1.2.2):X2)=c.1:=rfl;rw[e,Qbs];cases a:Xl c with
 | false=>cases(Za c.1 f).2.2<;>exact⟨rfl,rfl,λ_=>rfl⟩
 | true=>
   cases g:(Za c.1 f).2.2 with
   | false=>exact⟨rfl,rfl,λ_=>rfl⟩
   | true=>
     obtain⟨d,b,_⟩:=GZ (c:=c) (names:=Zd c.2.1) (M4 a) (RT f (Hr a).2);exact⟨d,b.symm,λh=>by have h:(Yy c (Za c.1 f).1 c.2.1 (Zd c.2.1)).2.2=W:=h;rw[b] at h;cases h⟩
theorem RV(c:Xu)(f:Xt):OpEq (Zq c f).1 (Kv c f).1 (Zq c f).2.2 (Kv c f).2.2 c:=by
 unfold Zq Kv;rw[Ii,Mm,Ow];have e:((c.1.1,c.1.2.1,c.1.2.2):X2)=c.1:=rfl;rw[e,Qir,RS];cases a:Xl c with
 | false=>cases(Ym c.1 f).2<;>exact⟨rfl,rfl,λ_=>rfl⟩
 | true=>
   cases g:(Ym c.1 f).2 with
   | false=>exact⟨rfl,rfl,λ_=>rfl⟩
   | true=>
     rw[Qep _ _ (by have:=(Hr a).1;omega)];obtain⟨d,b,_⟩:=GZ (c:=c) (names:=Wq c.2.1 (Xs c.1 f.1).1 f) (M4 a) (LO f (Hr a).2);exact⟨d,b.symm,λh=>by have h:(Yy c (Ym c.1 f).1 c.2.1 (Wq c.2.1 (Xs c.1 f.1).1 f)).2.2=W:=h;rw[b] at h;cases h⟩
theorem RW(c:Xu)(a:Y):OpEq (Zr c a).1 (Kw c a).1 (Zr c a).2.2 (Kw c a).2.2 c:=by
 unfold Zr Kw;rw[Ii,Mm,Ow,YH];have e:((c.1.1,c.1.2.1,c.1.2.2):X2)=c.1:=rfl;rw[e,Qbt];cases b:Xl c with
 | false=>cases(Zj c.1 a).2<;>exact⟨rfl,rfl,λ_=>rfl⟩
 | true=>
   cases g:(Zj c.1 a).2 with
   | false=>exact⟨rfl,rfl,λ_=>rfl⟩
   | true=>
     obtain⟨f,d,_⟩:=GZ (c:=c) (names:=Zd c.2.1) (M4 b) (RU a (Hr b).2);exact⟨f,d.symm,λh=>by have h:(Yy c (Zj c.1 a).1 c.2.1 (Zd c.2.1)).2.2=W:=h;rw[d] at h;cases h⟩
theorem Qbx(c:Xu)(x:Yj):OpEq (Zn c x).1 (Vg c x).1 (Zn c x).2.2 (Vg c x).2.2 c:=by
 unfold Zn Vg;rw[Ii,Mm,Ow];have e:((c.1.1,c.1.2.1,c.1.2.2):X2)=c.1:=rfl;have f:∀d,J3 d=Jq d:=λd=>by unfold J3 Jq;rw[Uo]
 rw[e,Qm5,f];cases g:Xl c with
 | false=>cases(Zh c.2.1 x).2<;>exact⟨rfl,rfl,λ_=>rfl⟩
 | true =>
   cases j:(Zh c.2.1 x).2 with
   | false=>exact⟨rfl,rfl,λ_=>rfl⟩
   | true=>
     cases a:Jq (Zh c.2.1 x).1 with
     | false=>exact⟨rfl,rfl,λ_=>rfl⟩
     | true=>
       rw[RR (by have:=Qbd a;simp only[List.length_cons,List.length_nil];omega)];obtain⟨i,b,_⟩:=GZ (c:=c) (s:=c.1) (names:=Yo (Zh c.2.1 x).1 [x.1]) (d:=(Zh c.2.1 x).1) a (Hr g).2;exact⟨i,b.symm,λh=>by have h:(Yy c c.1 (Zh c.2.1 x).1 (Yo (Zh c.2.1 x).1 [x.1])).2.2=W:=h;rw[b] at h;cases h⟩
theorem IA(f:Xt)(u:Y):Cg f u=Hf f u:=rfl
theorem LP(c:Xu)(u:Y)(x:Vk):OpEq (X3 c u x).1 (Yr c u x).1 (X3 c u x).2.2 (Yr c u x).2.2 c:=by
 unfold X3 Yr;have p:Xd u 0 2=Wi u:=rfl;have E:∀a b:Y,a≠b->(a==b)=W:=λa b h=>uP.2 h
 rw[Ii,Mm,Ow,p];cases i:Xl c with
 | false=>cases Wi u<;>exact⟨rfl,rfl,λ_=>rfl⟩
 | true =>
   cases Wi u with
   | false=>exact⟨rfl,rfl,λ_=>rfl⟩
   | true =>
     simp only[xM,zN,xP,D];rw[RS,RS,IA,IA];obtain⟨g,f,id,e⟩:=x;dsimp only;by_cases j:g=1
     . subst j;have A:=Qis c f;simp only[uO,yB,uA,E 1 2 (by decide),E 1 3 (by decide),E 1 4 (by decide),E 1 5 (by decide),yE,D];cases(f.2.1==u) with
       | false=>exact⟨rfl,rfl,λ_=>rfl⟩
       | true=>
         simp only[uA];rw[A.ok];cases hb:(Kd c f).2.2.2 with
         | false=>exact⟨(A.no hb).symm,rfl,λ_=>A.no hb⟩
         | true=>exact⟨A.cat,rfl,λh=>by cases h⟩
     by_cases k:g=2
     . subst k;have A:=RV c f;simp only[uO,yB,uA,E 2 1 (by decide),E 2 3 (by decide),E 2 4 (by decide),E 2 5 (by decide),yE,D];cases(f.2.1==u) with
       | false=>
         simp only[D,yR];exact⟨rfl,rfl,λ_=>rfl⟩
       | true=>
         simp only[uA,xN];rw[A.ok];cases((Xs c.1 f.1).2&&Hf (Xs c.1 f.1).1 u) with
         | false=>
           simp only[yR,zR,uA,D];exact⟨rfl,rfl,λ_=>rfl⟩
         | true=>
           simp only[xN,uA];cases hb:(Kv c f).2.2 with
           | false=>exact⟨(A.no hb).symm,rfl,λ_=>A.no hb⟩
           | true=>exact⟨A.cat,rfl,λh=>by cases h⟩
     by_cases l:g=3
     . subst l;have A:=RW c id;simp only[uO,yB,uA,E 3 1 (by decide),E 3 2 (by decide),E 3 4 (by decide),E 3 5 (by decide),yE,D];rw[A.ok];cases((Xs c.1 id).2&&Hf (Xs c.1 id).1 u) with
       | false=>
         simp only[yR,zR,uA,D];exact⟨rfl,rfl,λ_=>rfl⟩
       | true=>
         simp only[xN,uA];cases hb:(Kw c id).2.2 with
         | false=>exact⟨(A.no hb).symm,rfl,λ_=>A.no hb⟩
         | true=>exact⟨A.cat,rfl,λh=>by cases h⟩
     by_cases m:g=4
     . subst m;have A:=Qbx c e;simp only[uO,yB,uA,E 4 1 (by decide),E 4 2 (by decide),E 4 3 (by decide),E 4 5 (by decide),yE,D];rw[A.ok];cases hb:(Vg c e).2.2 with
       | false=>exact⟨(A.no hb).symm,rfl,λ_=>A.no hb⟩
       | true=>exact⟨A.cat,rfl,λh=>by cases h⟩
     by_cases n:g=5
     . subst n;simp only[uO,yB,uA,E 5 1 (by decide),E 5 2 (by decide),E 5 3 (by decide),E 5 4 (by decide),yE,D];unfold Z3;rw[Qbw];cases q:(Jl c.2.1 e.1).2 with
       | false=>exact⟨rfl,rfl,λ_=>rfl⟩
       | true=>
         rw[RR (by have:=(Hr i).1;simp only[List.length_cons,List.length_nil];omega)];obtain⟨r,o,_⟩:=GZ (c:=c) (s:=c.1) (names:=Yo c.2.1 [e.1]) (d:=(Jl c.2.1 e.1).1) (LN (M4 i) q) (Hr i).2;exact⟨r,o.symm,λh=>by have h:(Yy c c.1 (Jl c.2.1 e.1).1 (Yo c.2.1 [e.1])).2.2=W:=h;rw[o] at h;cases h⟩
     simp only[E g 1 j,E g 2 k,E g 3 l,E g 4 m,E g 5 n,yE,D];exact⟨rfl,rfl,λ_=>rfl⟩
open GoE (enc wide)
def Rp(f:Xt):Y:=uU uV (1+(f.2.2.2.2.length:Y))
theorem LQ(f:Xt):ACalls uW 234 [.a [.i f.1,.i f.2.1,.b f.2.2.1,.i f.2.2.2.1,.h f.2.2.2.2]] (.i (Rp f)):=by
 refine en func234 λ_ _ _=>sn [1,2] [1] p0 ?_
 exact tn [2] [] (pl 2 f.2.2.2.2 p0)<|Qc<|pi [] (show Rp f=uU uV (1+(f.2.2.2.2.length:Y)) from rfl)
def QE(a:Y)(_:H)(b:Xt)(c:Y):Rd (Y) (Y) (Y):=(bif (b.2.1==a) then(.next (uU uV (c+(Rp b)))) else(.next c))
def QF(_:H)(a:Y):Y:=a
def Oo(b:X2)(a:Y):Y:=(Out.on (X5 (QE a) QF b.2.1 0 0) (λc=>c))
theorem IB(b:X2)(a:Y):ACalls uW 166 [.a [.h b.1,.h b.2.1,.i b.2.2],.i a] (.i (Oo b a)):=by
 refine en func166 λ_ _ _=>sn [1,2,4] [2] p0 ?_
 refine tn [1,2,4,5] [2] p0<|Qa<|tu [(4,.i 0),(5,.i 0),(9,.h b.2.1),(10,.i (b.2.1.length:Y)),(11,.i 0)] [0] [] [] (pl 2 b.2.1 p0)<|wT 9 0 .sh b.2.1 (λk m=>?_)
 refine S8 (QE a) QF b.2.1 0 (λc e=> [(5,.i e),(11,.i (c:Y))]) [5,11] (λj=> [(5,.i j)]) [1,5,9,10,11] wf0 (λc e d U=>?_) (λc e d U=>?_) (λj f=>?_)
 ·obtain⟨g,V⟩:=Xn (l:=b.2.1) (i:=c) d;refine su [(12,.b X)] [] [] [] (pe 0 (zB ((c:Y)<(b.2.1.length:Y))) p0)<|Qa<|ckT<|Qd<|Qa<|Qn<|sn [1,4,5,7,9,10,11] [7] (pn 0 V p0)<|tn [1,4,5,7,9,10,11,18] [7] p0<|ck (g.2.1==a) (λh=>?_) (λh=>?_)
  ·refine qu [(5,.i (uU uV (e+(Rp g))))] [5,12] [] [] (pc 2 (LQ g) p0) ?_;refine rn [1,4,5,9,10,11] [] (pw 0 c p0) ?_;exact xw _ (Qp V (Qu h rfl) U)
  refine Qd<|qu [(11,.i ((c+1:H):Y))] [11,12] [] [] (pw 0 c p0) ?_
  exact xw _ (Qp V (Qh h rfl) U)
 ·exact su [(12,.b W)] [] [] [] (pe 0 (zC ((c:Y)<(b.2.1.length:Y))) p0)<|Qa<|ckF<|Qv<|xw _ (Xo d rfl U)
 exact sn [4] [] p0<|Qc<|pi [] (Vz f rfl)
def Tt(a:Q Y)(b:Y):Y:=(bif (!(X6 b 0 ((a.length:Y)-1))) then 0 else(nth a b.toNat))
theorem RX(a:Q Y)(b:Y):ACalls uW 167 [.h a,.i b] (.i (Tt a b)):=by
 refine en func167 λ_ _ _=>sn [0,1,4] [] p0 ?_
 refine Qa<|wT 0 0 .sh a (λg h=>?_)
 refine tn [0,1,4,10] [] (pl 2 a (pe 3 (Nn (IntWalk.i64_in ((a.length:Y)-1) (by omega))) (pc 4 (Kt b 0 ((a.length:Y)-1)) p0)))<|ck (!(X6 b 0 ((a.length:Y)-1))) (λc=>?_) (λc=>?_)
 ·exact tu [(4,.i 0)] [] [] [] p0<|Qc<|pi [] (Qu c rfl)
 have d:(X6 b 0 ((a.length:Y)-1))=X:=Yu c;have f:=V0.1 d;refine Qd ?_;have e:=ng a b.toNat;exact tu [(4,.i (nth a b.toNat))] [0,1] [] [] (pg 2 b e p0)<|Qc<|pi [] (Qh c rfl)
def F5(c:X2)(a:Q Y)(b:H)(_:uB):Rd (G) (uB) (uB):=(bif decide ((Oo c (b:Y))>(Tt a (b:Y))) then(.ret W) else(.next ()))
def F6(_:H)(_:uB):uB:=()
def C0(b:X2)(a:Q Y):G:=(Out.on (Vj (F5 b a) F6 (3:Y).toNat 0 ()) (λ_=>X))
theorem KL(b:X2)(a:Q Y):ACalls uW 103 [.a [.h b.1,.h b.2.1,.i b.2.2],.h a] (.b (C0 b a)):=by
 refine en func103 λ_ _ _=>sn [1,2,4] [2] p0 ?_
 refine Qa<|tn [1,2,4,6] [2] p0<|mz [(2,.p 2 0),(4,.b W),(6,.i 0)] [0] [(2, [.h b.1,.h b.2.1,.i b.2.2])] []<|Qwg (F5 b a) F6 (3:Y).toNat () (λc _=> [(6,.i (c:Y))]) [6] (λ_ _=> []) [] (λ_=> []) [1,2,6] (λ_=> []) [2] wf0 (λc h d U=>?_) (λc h d U=>?_) (λi e=>?_)
 ·refine sn [1,2,4,6,7] [2] (pe 0 (zB ((c:Y)<(3:Y))) p0)<|Qa<|ckT<|Qd<|Qa<|Qn<|tn [1,2,4,5,6] [2] p0<|tu [(15,.b (decide ((Oo b (c:Y))>(Tt a (c:Y)))))] [] [] [] (pc 2 (IB b (c:Y)) (pc 5 (RX a (c:Y)) p0))<|ck (decide ((Oo b (c:Y))>(Tt a (c:Y)))) (λf=>?_) (λf=>?_)
  ·refine su [] [15] [] [] p0<|Qc ?_
   have g:(Vj (F5 b a) F6 (3:Y).toNat 0 ())= .ret W:=Ti d (Qu f rfl) U;exact pb [] (Pe g)
  refine Qd<|rn [1,2,4,6] [2] (pw 0 c p0) ?_
  exact xw _ (Kb d (Qh f rfl) U)
 ·exact sn [1,2,4,6,7] [2] (pe 0 (zC ((c:Y)<(3:Y))) p0)<|Qa<|ckF<|Qv<|xw _ (Hu d rfl U)
 exact sn [4] [] p0<|Qc<|pb [] (Vz e rfl)
def Wt(c:Xu)(a:Y)(_:H)(b:Vk)(d:Xu):Rd (Xu×(Q G3)×G) (Xu) (Xu):=(bif (!(((Yr d a b)).2.2)) then(.ret ((Xq c), [],W)) else(.next (((Yr d a b)).1)))
def U6(_:H)(a:Xu):Xu:=a
def Xw(c:Xu)(d:Y)(a:Q Vk)(b:Q Y):Xu×(Q G3)×G:=(bif ((!(Xl c))|| decide ((a.length:Y)>(6:Y))) then((Xq c), [],W) else(Out.on (X5 (Wt c d) U6 a 0 (Xq c)) (λe=>(bif (!(C0 e.1 b)) then((Xq c), [],W) else(e,(Ps c.2.2 e.2.2),X)))))
theorem QV(c:Xu)(b:Y)(a:Q Vk)(d:Q Y):ACalls uW 58 [.a [.h c.1.1,.h c.1.2.1,.i c.1.2.2,.h c.2.1,.h c.2.2],.i b,.h a,.h d] (.tup [(X, [.o 0 ((((Xw c b a d)).1).1.1),.o 1 ((((Xw c b a d)).1).1.2.1),.i ((((Xw c b a d)).1).1.2.2),.o 2 ((((Xw c b a d)).1).2.1),.o 3 ((((Xw c b a d)).1).2.2)]),(W, [.o 4 (((Xw c b a d)).2.1)]),(W, [.b (((Xw c b a d)).2.2)])]):=by
 refine en func58 λ_ _ _=>sn [1,2,3,4,8,9,10] [4,8] p0 ?_
 refine Qa<|Qa<|mz [(4,.p 4 0),(8,.p 8 0),(9,.e 0),(10,.b W)] [0] [(4, [.h c.1.1,.h c.1.2.1,.i c.1.2.2,.h c.2.1,.h c.2.2]),(8, [.e 2,.e 5,.i 0,.e 2,.e 2])] []<|jn [(24,.b ((!(Xl c))|| decide ((a.length:Y)>(6:Y))))] [] [] [] (!(Xl c)) (λn=>?_) (λn=>?_) ?_
 ·have f:(Xl c)=W:=Kj n;exact ru [(24,.b X)] [] [] [] (pc 1 (cb f (H4 c)) (pe 2 (show .b (!W)= .b X from rfl) p0))<|zA (by rw[n]<;>kernel_rfl)
 ·have f:(Xl c)=X:=Yu n;have w:=Hr f;exact rn [1,2,3,4,8,9,10,24] [4,8] (pc 1 (cb f (H4 c)) (pe 2 (show .b (!X)= .b W from rfl) (pl 5 a p0)))<|zA (by rw[n]<;>kernel_rfl)
 refine ck ((!(Xl c))|| decide ((a.length:Y)>(6:Y))) (λj=>?_) (λj=>?_)
 ·refine sn [1,2,3,4,8,9,10] [4,8] (pc 1 (Jy c) p0)<|opn [(W,9,0,X,112,3)] ?_
  exact Qc<|pz [] (show Xw c b a d=_ from Qu j rfl) (λz=> .tup [(X, [.o 0 z.1.1.1,.o 1 z.1.1.2.1,.i z.1.1.2.2,.o 2 z.1.2.1,.o 3 z.1.2.2]),(W, [.o 4 z.2.1]),(W, [.b z.2.2])])
 have q:((!(Xl c)))=W:=Sl j;have o:(Xl c)=X:=Yu q;have r:=Hr o;have s:(decide ((a.length:Y)>(6:Y)))=W:=Rz j;have x:=uH s;refine Qd<|sn [1,2,3,4,8,9,10,11] [4,8,11] (pc 1 (Jy c) p0)<|Qa<|tn [1,3,4,8,9,10,11,29,30,31] [4,8,11] (pl 1 a p0)<|mz [(11,.p 11 0),(29,.h a),(30,.i (a.length:Y)),(31,.i 0)] [2,24] [(11, [.o 1792 ((Xq c).1.1),.o 1793 ((Xq c).1.2.1),.i ((Xq c).1.2.2),.o 1794 ((Xq c).2.1),.o 1795 ((Xq c).2.2)])] []<|wT 29 0 .sh a (λy a1=>?_)
 refine Qlc (Wt c b) U6 a (Xq c) (λk _=> [(31,.i (k:Y))]) [31] (λ_ e=> [(11, [.o 104 e.1.1,.o 105 e.1.2.1,.i e.1.2.2,.o 106 e.2.1,.o 107 e.2.2])]) [11] (λ_=> []) [1,29,30,31] (λg=> [(11, [.o 108 g.1.1,.o 109 g.1.2.1,.i g.1.2.2,.o 110 g.2.1,.o 111 g.2.2])]) [11] (wsf [(1792,104),(1793,105),(1794,106),(1795,107)]) (λk e m U=>?_) (λk e m U=>?_) (λg p=>?_)
 ·obtain⟨h,V⟩:=Xn (l:=a) (i:=k) m;refine su [(32,.b X)] [] [] [] (pe 0 (zB ((k:Y)<(a.length:Y))) p0)<|Qa<|ckT<|Qd<|Qa<|Qn<|sn [1,3,4,8,9,10,11,13,29,30,31] [4,8,11,13] (pn 0 V p0)<|tn [1,3,4,8,9,10,11,14,16,29,30,31] [4,8,11,14] (pc 3 (AD e b h) p0)<|Qa<|tu [(14,.p 14 0),(44,.b (!(((Yr e b h)).2.2)))] [32] [(14, [.o 2496 ((((Yr e b h)).1).1.1),.o 2497 ((((Yr e b h)).1).1.2.1),.i ((((Yr e b h)).1).1.2.2),.o 2498 ((((Yr e b h)).1).2.1),.o 2499 ((((Yr e b h)).1).2.2)])] [] p0<|ck (!(((Yr e b h)).2.2)) (λt=>?_) (λt=>?_)
  ·refine sn [1,3,4,8,9,10,11,14,29,30,31] [4,8,11,14] (pc 1 (Jy c) p0)<|opn [(W,9,0,X,112,3)] ?_
   refine Qc ?_;have u:(X5 (Wt c b) U6 a 0 (Xq c))= .ret ((Xq c), [],W):=Kc V (Qu t rfl) U;exact pz [] (show Xw c b a d=_ from Qh j (Pe u)) (λz=> .tup [(X, [.o 0 z.1.1.1,.o 1 z.1.1.2.1,.i z.1.1.2.2,.o 2 z.1.2.1,.o 3 z.1.2.2]),(W, [.o 4 z.2.1]),(W, [.b z.2.2])])
  refine Qd<|rn [1,3,4,8,9,10,11,29,30,31] [4,8,11] p0 ?_
  refine qn [1,3,4,8,9,10,11,29,30,31] [4,8,11] (pw 0 k p0) ?_;exact zJ _ (zM (wsf [(2496,104),(2497,105),(2498,106),(2499,107)]) (Qp V (Qh t rfl) U))
 ·exact su [(32,.b W)] [] [] [] (pe 0 (zC ((k:Y)<(a.length:Y))) p0)<|Qa<|ckF<|Qv<|zJ _ (zM (wsf [(104,108),(105,109),(106,110),(107,111)]) (Xo m rfl U))
 refine Qa<|sn [4,8,9,10,11,53] [4,8,11] (pc 3 (KL g.1 d) p0)<|ck (!(C0 g.1 d)) (λv=>?_) (λv=>?_)
 ·refine tn [4,8,9,10,11] [4,8,11] (pc 1 (Jy c) p0)<|opn [(W,9,0,X,112,3)] ?_
  exact Qc<|pz [] (show Xw c b a d=_ from Qh j (Vz p (Qu v rfl))) (λz=> .tup [(X, [.o 0 z.1.1.1,.o 1 z.1.1.2.1,.i z.1.1.2.2,.o 2 z.1.2.1,.o 3 z.1.2.2]),(W, [.o 4 z.2.1]),(W, [.b z.2.2])])
 exact Qd<|tN [8,9,10] [8] (pc 5 (Sx c.2.2 g.2.2) p0)<|Qc<|pz [] (show Xw c b a d=_ from Qh j (Vz p (Qh v rfl))) (λz=> .tup [(X, [.o 0 z.1.1.1,.o 1 z.1.1.2.1,.i z.1.1.2.2,.o 2 z.1.2.1,.o 3 z.1.2.2]),(W, [.o 4 z.2.1]),(W, [.b z.2.2])])
def Xh(x:Ul)(b:Y)(a:Q Vk):Qw×G:=(bif (!(((Xw x.1 b a x.2.2.2.2.2)).2.2)) then((([], [],0), []),W) else((((((Xw x.1 b a x.2.2.2.2.2)).1).1.1,(((Xw x.1 b a x.2.2.2.2.2)).1).1.2.1,(((Xw x.1 b a x.2.2.2.2.2)).1).1.2.2),(((Xw x.1 b a x.2.2.2.2.2)).1).2.1),X))
theorem Tu(x:Ul)(b:Y)(a:Q Vk):ACalls uW 28 [.a [.h x.1.1.1,.h x.1.1.2.1,.i x.1.1.2.2,.h x.1.2.1,.h x.1.2.2,.s x.2.1.1,.s x.2.1.2,.i x.2.2.1,.h x.2.2.2.1,.h x.2.2.2.2.1,.h x.2.2.2.2.2],.i b,.h a] (.tup [(X, [.o 0 ((((Xh x b a)).1).1.1),.o 1 ((((Xh x b a)).1).1.2.1),.i ((((Xh x b a)).1).1.2.2),.o 2 ((((Xh x b a)).1).2)]),(W, [.b (((Xh x b a)).2)])]):=by
 refine en func28 λ_ _ _=>sn [1,2,3,6,7] [3,6] p0 ?_
 refine tn [6,7,8,10] [6,8] (pc 6 (QV x.1 b a x.2.2.2.2.2) p0)<|Qa<|tu [(6,.p 6 0),(7,.b W),(8,.p 8 0),(23,.b (!(((Xw x.1 b a x.2.2.2.2.2)).2.2)))] [0,1,2] [(6, [.e 2,.e 5,.i 0,.e 2]),(8, [.o 1152 ((((Xw x.1 b a x.2.2.2.2.2)).1).1.1),.o 1153 ((((Xw x.1 b a x.2.2.2.2.2)).1).1.2.1),.i ((((Xw x.1 b a x.2.2.2.2.2)).1).1.2.2),.o 1154 ((((Xw x.1 b a x.2.2.2.2.2)).1).2.1),.o 1155 ((((Xw x.1 b a x.2.2.2.2.2)).1).2.2)])] [] p0<|ck (!(((Xw x.1 b a x.2.2.2.2.2)).2.2)) (λc=>?_) (λc=>?_)
 ·refine su [] [23] [] [] p0<|opn [(X,6,0,X,104,2),(X,6,1,X,105,5),(X,6,3,X,106,2)] ?_
  exact Qc<|pz [] (show Xh x b a=_ from Qu c rfl) (λz=> .tup [(X, [.o 0 z.1.1.1,.o 1 z.1.1.2.1,.i z.1.1.2.2,.o 2 z.1.2]),(W, [.b z.2])])
 exact Qd<|sn [6,7] [6] p0<|Qc<|pz [] (show Xh x b a=_ from Qh c rfl) (λz=> .tup [(X, [.o 0 z.1.1.1,.o 1 z.1.1.2.1,.i z.1.1.2.2,.o 2 z.1.2]),(W, [.b z.2])])
def Rq(f:Xt):Y:=uU uV (1+(f.2.2.2.2.length:Y))
theorem LR(f:Xt):ACalls uW 200 [.a [.i f.1,.i f.2.1,.b f.2.2.1,.i f.2.2.2.1,.h f.2.2.2.2]] (.i (Rq f)):=by
 refine en func200 λ_ _ _=>sn [1,2] [1] p0 ?_
 exact tn [2] [] (pl 2 f.2.2.2.2 p0)<|Qc<|pi [] (show Rq f=uU uV (1+(f.2.2.2.2.length:Y)) from rfl)
def QG(u:Y)(_:H)(a:Xt)(b:Y):Rd (Y) (Y) (Y):=(bif (a.2.1==u) then(.next (uU uV (b+(Rq a)))) else(.next b))
def QH(_:H)(a:Y):Y:=a
def Tv(a:X2)(u:Y):Y:=(Out.on (X5 (QG u) QH a.2.1 0 0) (λb=>b))
theorem IC(a:X2)(u:Y):ACalls uW 136 [.a [.h a.1,.h a.2.1,.i a.2.2],.i u] (.i (Tv a u)):=by
 refine en func136 λ_ _ _=>sn [1,2,4] [2] p0 ?_
 refine tn [1,2,4,5] [2] p0<|Qa<|tu [(2,.p 2 0),(4,.i 0),(5,.i 0),(6,.i 0)] [0] [(2, [.h a.1,.h a.2.1,.i a.2.2])] [] p0<|wB 2 1 .sh a.2.1 (λj k=>?_)
 refine Qlc (QG u) QH a.2.1 0 (λb d=> [(5,.i d),(6,.i (b:Y))]) [5,6] (λ_ _=> []) [] (λh=> [(5,.i h)]) [1,2,5,6] (λ_=> []) [2] wf0 (λb d c U=>?_) (λb d c U=>?_) (λh e=>?_)
 ·obtain⟨f,V⟩:=Xn (l:=a.2.1) (i:=b) c;refine Qa<|sn [1,2,4,5,6,11] [2] (pl 3 a.2.1 (pe 4 (zB ((b:Y)<(a.2.1.length:Y))) p0))<|ckT<|Qd<|Qa<|Qn<|tn [1,2,4,5,6,21] [2] (pn 3 V p0)<|ck (f.2.1==u) (λg=>?_) (λg=>?_)
  ·refine qu [(5,.i (uU uV (d+(Rq f))))] [5] [] [] (pn 4 V (pc 6 (LR f) p0)) ?_;refine rn [1,2,4,5,6] [2] (pw 1 b p0) ?_;exact xw _ (Qp V (Qu g rfl) U)
  refine Qd<|qu [(6,.i ((b+1:H):Y))] [6] [] [] (pw 1 b p0) ?_
  exact xw _ (Qp V (Qh g rfl) U)
 ·exact Qa<|sn [1,2,4,5,6,11] [2] (pl 3 a.2.1 (pe 4 (zC ((b:Y)<(a.2.1.length:Y))) p0))<|ckF<|Qv<|xw _ (Xo c rfl U)
 exact sn [4] [] p0<|Qc<|pi [] (Vz e rfl)
def ID(a:Q Y)(u:Y):Y:=(bif (!(Xd u 0 ((a.length:Y)-1))) then 0 else(nth a u.toNat))
theorem Qer(a:Q Y)(u:Y):ACalls uW 137 [.h a,.i u] (.i (ID a u)):=by
 refine en func137 λ_ _ _=>sn [0,1,4] [] p0 ?_
 refine Qa<|wT 0 0 .sh a (λf g=>?_)
 refine tn [0,1,4,10] [] (pl 2 a (pe 3 (Nn (IntWalk.i64_in ((a.length:Y)-1) (by omega))) (pc 4 (Js u 0 ((a.length:Y)-1)) p0)))<|ck (!(Xd u 0 ((a.length:Y)-1))) (λb=>?_) (λb=>?_)
 ·exact tu [(4,.i 0)] [] [] [] p0<|Qc<|pi [] (Qu b rfl)
 have c:(Xd u 0 ((a.length:Y)-1))=X:=Yu b;have e:=Bj.1 c;refine Qd ?_;have d:=ng a u.toNat;exact tu [(4,.i (nth a u.toNat))] [0,1] [] [] (pg 2 u d p0)<|Qc<|pi [] (Qh b rfl)
def F7(c:X2)(a:Q Y)(b:H)(_:uB):Rd (G) (uB) (uB):=(bif decide ((Tv c (b:Y))>(ID a (b:Y))) then(.ret W) else(.next ()))
def F8(_:H)(_:uB):uB:=()
def Fs(b:X2)(a:Q Y):G:=(Out.on (Vj (F7 b a) F8 (3:Y).toNat 0 ()) (λ_=>X))
theorem KM(b:X2)(a:Q Y):ACalls uW 81 [.a [.h b.1,.h b.2.1,.i b.2.2],.h a] (.b (Fs b a)):=by
 refine en func81 λ_ _ _=>sn [1,2,4] [2] p0 ?_
 refine Qa<|tn [1,2,4,5] [2] p0<|mz [(2,.p 2 0),(4,.b W),(5,.i 0)] [0] [(2, [.h b.1,.h b.2.1,.i b.2.2])] []<|Qwg (F7 b a) F8 (3:Y).toNat () (λc _=> [(5,.i (c:Y))]) [5] (λ_ _=> []) [] (λ_=> []) [1,2,5] (λ_=> []) [2] wf0 (λc h d U=>?_) (λc h d U=>?_) (λi e=>?_)
 ·refine Qa<|sn [1,2,4,5,7] [2] (pe 1 (zB ((c:Y)<(3:Y))) p0)<|ckT<|Qd<|Qa<|Qn<|tn [1,2,4,5,16] [2] (pc 2 (IC b (c:Y)) (pc 5 (Qer a (c:Y)) p0))<|ck (decide ((Tv b (c:Y))>(ID a (c:Y)))) (λf=>?_) (λf=>?_)
  ·refine tu [] [] [] [] p0<|Qc ?_
   have g:(Vj (F7 b a) F8 (3:Y).toNat 0 ())= .ret W:=Ti d (Qu f rfl) U;exact pb [] (Pe g)
  refine Qd<|qu [(5,.i ((c+1:H):Y))] [5] [] [] (pw 1 c p0) ?_
  exact xw _ (Kb d (Qh f rfl) U)
 ·exact Qa<|sn [1,2,4,5,7] [2] (pe 1 (zC ((c:Y)<(3:Y))) p0)<|ckF<|Qv<|xw _ (Hu d rfl U)
 exact sn [4] [] p0<|Qc<|pb [] (Vz e rfl)
def U7(l:Xu)(u:Y)(_:H)(a:Vk)(b:Xu):Rd (Xu×(Q G3)×G) (Xu) (Xu):=(bif (!(((X3 b u a)).2.2)) then(.ret ((Qb l), [],W)) else(.next (((X3 b u a)).1)))
def A3(_:H)(a:Xu):Xu:=a
def Xx(l:Xu)(u:Y)(a:Q Vk)(b:Q Y):Xu×(Q G3)×G:=(bif ((!(Xe l))|| decide ((a.length:Y)>(6:Y))) then((Qb l), [],W) else(Out.on (X5 (U7 l u) A3 a 0 (Qb l)) (λc=>(bif (!(Fs c.1 b)) then((Qb l), [],W) else(c,(Ep l.2.2 c.2.2),X)))))
theorem QW(l:Xu)(u:Y)(a:Q Vk)(b:Q Y):ACalls uW 45 [.a [.h l.1.1,.h l.1.2.1,.i l.1.2.2,.h l.2.1,.h l.2.2],.i u,.h a,.h b] (.tup [(X, [.h ((((Xx l u a b)).1).1.1),.h ((((Xx l u a b)).1).1.2.1),.i ((((Xx l u a b)).1).1.2.2),.h ((((Xx l u a b)).1).2.1),.h ((((Xx l u a b)).1).2.2)]),(W, [.h (((Xx l u a b)).2.1)]),(W, [.b (((Xx l u a b)).2.2)])]):=by
 refine en func45 λ_ _ _=>sn [1,2,3,4,8,9,10] [4,8] p0 ?_
 refine tn [1,2,3,4,8,9,10,11] [4,8,11] (pc 1 (Wf l) p0)<|Qa<|Qa<|mz [(4,.p 4 0),(8,.p 8 0),(9,.e 0),(10,.b W),(11,.p 11 0)] [0] [(4, [.h l.1.1,.h l.1.2.1,.i l.1.2.2,.h l.2.1,.h l.2.2]),(8, [.e 2,.e 5,.i 0,.e 2,.e 2]),(11, [.o 1024 ((Qb l).1.1),.o 1025 ((Qb l).1.2.1),.i ((Qb l).1.2.2),.o 1026 ((Qb l).2.1),.o 1027 ((Qb l).2.2)])] []<|jn [(24,.b ((!(Xe l))|| decide ((a.length:Y)>(6:Y))))] [] [] [] (!(Xe l)) (λk=>?_) (λk=>?_) ?_
 ·have e:(Xe l)=W:=Kj k;exact ru [(24,.b X)] [] [] [] (pc 1 (cb e (Vo l)) (pe 2 (show .b (!W)= .b X from rfl) p0))<|zA (by rw[k]<;>kernel_rfl)
 ·have e:(Xe l)=X:=Yu k;have v:=Al e;exact rn [1,2,3,4,8,9,10,11,24] [4,8,11] (pc 1 (cb e (Vo l)) (pe 2 (show .b (!X)= .b W from rfl) (pl 5 a p0)))<|zA (by rw[k]<;>kernel_rfl)
 refine ck ((!(Xe l))|| decide ((a.length:Y)>(6:Y))) (λh=>?_) (λh=>?_)
 ·exact sn [1,2,3,4,8,9,10,11] [4,8,11] p0<|Qc<|pz [1024,1025,1026,1027,1664] (show Xx l u a b=_ from Qu h rfl) (λz=> .tup [(X, [.h z.1.1.1,.h z.1.1.2.1,.i z.1.1.2.2,.h z.1.2.1,.h z.1.2.2]),(W, [.h z.2.1]),(W, [.b z.2.2])])
 have o:((!(Xe l)))=W:=Sl h;have m:(Xe l)=X:=Yu o;have p:=Al m;have q:(decide ((a.length:Y)>(6:Y)))=W:=Rz h;have w:=uH q;refine Qd<|sn [1,2,3,4,8,9,10,11,12] [4,8,11,12] (pc 1 (Wf l) p0)<|Qa<|tn [1,2,3,4,8,9,10,11,12,13] [4,8,11,12] p0<|mz [(12,.p 12 0),(13,.i 0)] [24] [(12, [.o 1792 ((Qb l).1.1),.o 1793 ((Qb l).1.2.1),.i ((Qb l).1.2.2),.o 1794 ((Qb l).2.1),.o 1795 ((Qb l).2.2)])] []<|wT 2 0 .sh a (λx y=>?_)
 refine Qlc (U7 l u) A3 a (Qb l) (λg _=> [(13,.i (g:Y))]) [13] (λ_ c=> [(12, [.h c.1.1,.h c.1.2.1,.i c.1.2.2,.h c.2.1,.h c.2.2])]) [12] (λ_=> []) [1,2,13] (λf=> [(12, [.h f.1.1,.h f.1.2.1,.i f.1.2.2,.h f.2.1,.h f.2.2])]) [12] (wgf [] [1792,1793,1794,1795] [] []) (λg c j U=>?_) (λg c j U=>?_) (λf n=>?_)
 ·obtain⟨d,V⟩:=Xn (l:=a) (i:=g) j;refine Qa<|su [(32,.b X)] [] [] [] (pl 2 a (pe 3 (zB ((g:Y)<(a.length:Y))) p0))<|ckT<|Qd<|Qa<|Qn<|su [(14,.b W)] [32] [] [] p0<|sN [1,2,3,4,8,9,10,11,12,13,14] [4,8,11,12] (pn 4 V (pc 6 (AF c u d) p0))<|tn [1,2,3,4,8,9,10,11,12,13,47] [4,8,11,12] p0<|ck (!(((X3 c u d)).2.2)) (λr=>?_) (λr=>?_)
  ·refine tu [(9,.one (.slc (.own X 3136) 3 []))] [9,14] [(8, [.o 1024 ((Qb l).1.1),.o 1025 ((Qb l).1.2.1),.i ((Qb l).1.2.2),.o 1026 ((Qb l).2.1),.o 1027 ((Qb l).2.2)]),(12, [.h ((((X3 c u d)).1).1.1),.h ((((X3 c u d)).1).1.2.1),.i ((((X3 c u d)).1).1.2.2),.h ((((X3 c u d)).1).2.1),.h ((((X3 c u d)).1).2.2)])] [8,12] p0<|Qc ?_
   have s:(X5 (U7 l u) A3 a 0 (Qb l))= .ret ((Qb l), [],W):=Kc V (Qu r rfl) U;exact pz [1024,1025,1026,1027,3136] (show Xx l u a b=_ from Qh h (Pe s)) (λz=> .tup [(X, [.h z.1.1.1,.h z.1.1.2.1,.i z.1.1.2.2,.h z.1.2.1,.h z.1.2.2]),(W, [.h z.2.1]),(W, [.b z.2.2])])
  refine Qd<|qu [(13,.i ((g+1:H):Y))] [13,14] [(12, [.h ((((X3 c u d)).1).1.1),.h ((((X3 c u d)).1).1.2.1),.i ((((X3 c u d)).1).1.2.2),.h ((((X3 c u d)).1).2.1),.h ((((X3 c u d)).1).2.2)])] [12] (pw 1 g p0) ?_
  exact xw _ (Qp V (Qh r rfl) U)
 ·exact Qa<|su [(32,.b W)] [] [] [] (pl 2 a (pe 3 (zC ((g:Y)<(a.length:Y))) p0))<|ckF<|Qv<|xw _ (Xo j rfl U)
 refine Qa<|sn [4,8,9,10,11,12,54] [4,8,11,12] (pc 3 (KM f.1 b) p0)<|ck (!(Fs f.1 b)) (λt=>?_) (λt=>?_)
 ·exact tn [4,8,9,10,12] [4,8,12] p0<|Qc<|pz [1024,1025,1026,1027,3584] (show Xx l u a b=_ from Qh h (Vz n (Qu t rfl))) (λz=> .tup [(X, [.h z.1.1.1,.h z.1.1.2.1,.i z.1.1.2.2,.h z.1.2.1,.h z.1.2.2]),(W, [.h z.2.1]),(W, [.b z.2.2])])
 exact Qd<|tN [8,9,10] [8] (pc 5 (Sy l.2.2 f.2.2) p0)<|Qc<|pz [3968] (show Xx l u a b=_ from Qh h (Vz n (Qh t rfl))) (λz=> .tup [(X, [.h z.1.1.1,.h z.1.1.2.1,.i z.1.1.2.2,.h z.1.2.1,.h z.1.2.2]),(W, [.h z.2.1]),(W, [.b z.2.2])])
def Xi(x:Ul)(u:Y)(a:Q Vk):Qw×G:=(bif (!(((Xx x.1 u a x.2.2.2.2.2)).2.2)) then((([], [],0), []),W) else((((((Xx x.1 u a x.2.2.2.2.2)).1).1.1,(((Xx x.1 u a x.2.2.2.2.2)).1).1.2.1,(((Xx x.1 u a x.2.2.2.2.2)).1).1.2.2),(((Xx x.1 u a x.2.2.2.2.2)).1).2.1),X))
theorem Tw(x:Ul)(u:Y)(a:Q Vk):ACalls uW 18 [.a [.h x.1.1.1,.h x.1.1.2.1,.i x.1.1.2.2,.h x.1.2.1,.h x.1.2.2,.s x.2.1.1,.s x.2.1.2,.i x.2.2.1,.h x.2.2.2.1,.h x.2.2.2.2.1,.h x.2.2.2.2.2],.i u,.h a] (.tup [(X, [.h ((((Xi x u a)).1).1.1),.h ((((Xi x u a)).1).1.2.1),.i ((((Xi x u a)).1).1.2.2),.h ((((Xi x u a)).1).2)]),(W, [.b (((Xi x u a)).2)])]):=by
 refine en func18 λ_ _ _=>sn [1,2,3,6,7] [3,6] p0 ?_
 refine tn [6,7,8,10] [6,8] (pc 6 (QW x.1 u a x.2.2.2.2.2) p0)<|Qa<|tu [(6,.p 6 0),(7,.b W),(8,.p 8 0),(23,.b (!(((Xx x.1 u a x.2.2.2.2.2)).2.2)))] [0,1,2] [(6, [.e 2,.e 5,.i 0,.e 2]),(8, [.h ((((Xx x.1 u a x.2.2.2.2.2)).1).1.1),.h ((((Xx x.1 u a x.2.2.2.2.2)).1).1.2.1),.i ((((Xx x.1 u a x.2.2.2.2.2)).1).1.2.2),.h ((((Xx x.1 u a x.2.2.2.2.2)).1).2.1),.h ((((Xx x.1 u a x.2.2.2.2.2)).1).2.2)])] [] p0<|ck (!(((Xx x.1 u a x.2.2.2.2.2)).2.2)) (λb=>?_) (λb=>?_)
 ·refine su [] [23] [] [] p0<|opn [(X,6,0,X,104,2),(X,6,1,X,105,5),(X,6,3,X,106,2)] ?_
  exact Qc<|pz [104,105,106] (show Xi x u a=_ from Qu b rfl) (λz=> .tup [(X, [.h z.1.1.1,.h z.1.1.2.1,.i z.1.1.2.2,.h z.1.2]),(W, [.b z.2])])
 exact Qd<|sn [6,7] [6] p0<|Qc<|pz [] (show Xi x u a=_ from Qh b rfl) (λz=> .tup [(X, [.h z.1.1.1,.h z.1.1.2.1,.i z.1.1.2.2,.h z.1.2]),(W, [.b z.2])])
theorem Qq5(s:X2)(q:Q Y):Fs s q=C0 s q:=rfl
theorem RY(c:Xu)(u:Y)(l:Q Vk)(q:Q Y):(Xx c u l q).1=(Xw c u l q).1/\(Xx c u l q).2.2=(Xw c u l q).2.2:=by
 unfold Xx Xw
 rw[Ii,Mm,Ow,Mw (f:=U7 c u) (g:=Wt c u) (e:=A3) (e':=U6) (λk x s=>by
  have A:=LP s u x;unfold U7 Wt;rw[Ii,Mm,A.ok,A.cat]) (λ_ _=>rfl)]
 generalize X5 (Wt c u) U6 l 0 c=o;generalize((!(Xl c))|| _:G)=k;cases k with
 | true=>exact⟨rfl,rfl⟩
 | false=>
   cases o with
   | ret r=>exact⟨rfl,rfl⟩
   | brk y=>
     simp only[D,Out.on];rw[Qq5];cases C0 y.1 q<;>exact⟨rfl,rfl⟩
theorem Qm7(x:Ul)(u:Y)(l:Q Vk):Xi x u l=Xh x u l:=by
 obtain⟨a,b⟩:=RY x.1 u l x.2.2.2.2.2;unfold Xi Xh;rw[a,b]
structure CK (K:H) (c:Xu):Prop where
 l12:c.1.2.1.length<=12
 l5:c.2.1.length<=5
 sch:GoD.size c.1.1<=K
 file:∀f,f∈c.1.2.1->GoD.size f<=K
 dir:∀a,a∈c.2.1->GoD.size a<=K
open GoE (enc wide)
def Qs(x:Qw):G:=((Qq x.1)&&(Jq x.2))
theorem H5(x:Qw):ACalls uW 105 [.a [.h x.1.1,.h x.1.2.1,.i x.1.2.2,.h x.2]] (.b (Qs x)):=by
 refine en func105 λ_ _ _=>sn [1,2] [1] p0 ?_
 refine Qa<|mz [(1,.p 1 0),(2,.b W)] [0] [(1, [.h x.1.1,.h x.1.2.1,.i x.1.2.2,.h x.2])] []<|jn [(2,.b ((Qq x.1)&&(Jq x.2)))] [1,2] [] [1] (Qq x.1) (λa=>?_) (λa=>?_) ?_
 ·exact rn [2] [] (pc 2 (cb a (K6 x.1)) (pc 6 (Rh x.2) p0))<|zA (by rw[a]<;>kernel_rfl)
 ·exact rn [2] [] (pc 2 (cb a (K6 x.1)) p0)<|zA (by rw[a]<;>kernel_rfl)
 exact Qc<|pb [] (show Qs x=((Qq x.1)&&(Jq x.2)) from rfl)
def X4(x:Qw):G:=((Xa x.1)&&(J3 x.2))
theorem H6(x:Qw):ACalls uW 83 [.a [.h x.1.1,.h x.1.2.1,.i x.1.2.2,.h x.2]] (.b (X4 x)):=by
 refine en func83 λ_ _ _=>sn [1,2] [1] p0 ?_
 refine Qa<|mz [(1,.p 1 0),(2,.b W)] [0] [(1, [.h x.1.1,.h x.1.2.1,.i x.1.2.2,.h x.2])] []<|jn [(2,.b ((Xa x.1)&&(J3 x.2)))] [1,2] [] [1] (Xa x.1) (λa=>?_) (λa=>?_) ?_
 ·exact rn [2] [] (pc 2 (cb a (Kf x.1)) (pc 6 (Ro x.2) p0))<|zA (by rw[a]<;>kernel_rfl)
 ·exact rn [2] [] (pc 2 (cb a (Kf x.1)) p0)<|zA (by rw[a]<;>kernel_rfl)
 exact Qc<|pb [] (show X4 x=((Xa x.1)&&(J3 x.2)) from rfl)
def Jd(f:Zt):O:=(bif (!(Q8 f.1)) then⟨#[]⟩ else(bif (f.2==(1:Y)) then(((⟨#[102,105,101,108,100,32]⟩:O)++f.1)++(⟨#[32,105,110,116]⟩:O)) else(bif (f.2==(2:Y)) then(((⟨#[102,105,101,108,100,32]⟩:O)++f.1)++(⟨#[32,115,116,114,105,110,103]⟩:O)) else⟨#[]⟩)))
theorem AH(f:Zt):ACalls uW 106 [.a [.s f.1,.i f.2]] (.s (Jd f)):=by
 refine en func106 λ_ _ _=>sn [1,2] [1] p0 ?_
 refine Qa<|Qn<|tn [1,2,3] [1] (pc 2 (Ja f.1) p0)<|ck (!(Q8 f.1)) (λb=>?_) (λb=>?_)
 ·exact tu [(2,.s ⟨#[]⟩)] [0] [] [] p0<|Qc<|ps [] (Qu b rfl)
 have e:(Q8 f.1)=X:=Yu b;have i:=PX e;refine tu [(1,.p 1 0),(2,.s ⟨#[]⟩),(8,.b (f.2==(1:Y)))] [0] [(1, [.s f.1,.i f.2])] [] p0<|ck (f.2==(1:Y)) (λc=>?_) (λc=>?_)
 ·have g:=eq_of_beq c;exact sn [2] [] (px (Jr (n:=(zD (⟨#[102,105,101,108,100,32]⟩:O)+zD f.1)) (by have a:zD (⟨#[102,105,101,108,100,32]⟩:O)=6:=rfl;unfold uF;first|omega|(simp only[zE];omega))) (px (Jr (n:=(zD ((⟨#[102,105,101,108,100,32]⟩:O)++f.1)+zD (⟨#[32,105,110,116]⟩:O))) (by have a:zD (⟨#[102,105,101,108,100,32]⟩:O)=6:=rfl;have h:zD (⟨#[32,105,110,116]⟩:O)=4:=rfl;unfold uF;first|omega|(simp only[zE];omega))) p0))<|Qc<|ps [] (Qh b (Qu c rfl))
 have g:=Yt c;refine sn [1,2,16] [1] p0<|ck (f.2==(2:Y)) (λd=>?_) (λd=>?_)
 ·have j:=eq_of_beq d;exact tn [2] [] (px (Jr (n:=(zD (⟨#[102,105,101,108,100,32]⟩:O)+zD f.1)) (by have a:zD (⟨#[102,105,101,108,100,32]⟩:O)=6:=rfl;unfold uF;first|omega|(simp only[zE];omega))) (px (Jr (n:=(zD ((⟨#[102,105,101,108,100,32]⟩:O)++f.1)+zD (⟨#[32,115,116,114,105,110,103]⟩:O))) (by have a:zD (⟨#[102,105,101,108,100,32]⟩:O)=6:=rfl;have h:zD (⟨#[32,115,116,114,105,110,103]⟩:O)=7:=rfl;unfold uF;first|omega|(simp only[zE];omega))) p0))<|Qc<|ps [] (Qh b (Qh c (Qu d rfl)))
 exact Qd<|tn [2] [] p0<|Qc<|ps [] (Qh b (Qh c (Qh d rfl)))
def Ud(f:Zt):O:=(bif (!(Yf f.1)) then⟨#[]⟩ else(bif (f.2==(1:Y)) then(((⟨#[102,105,101,108,100,32]⟩:O)++f.1)++(⟨#[32,105,110,116]⟩:O)) else(bif (f.2==(2:Y)) then(((⟨#[102,105,101,108,100,32]⟩:O)++f.1)++(⟨#[32,115,116,114,105,110,103]⟩:O)) else⟨#[]⟩)))
theorem AI(f:Zt):ACalls uW 84 [.a [.s f.1,.i f.2]] (.s (Ud f)):=by
 refine en func84 λ_ _ _=>sn [1,2] [1] p0 ?_
 refine Qa<|Qn<|tn [1,2,3] [1] (pc 2 (Zb f.1) p0)<|ck (!(Yf f.1)) (λb=>?_) (λb=>?_)
 ·exact tu [(2,.s ⟨#[]⟩)] [0] [] [] p0<|Qc<|ps [] (Qu b rfl)
 have e:(Yf f.1)=X:=Yu b;have i:=Qwo e;refine tu [(1,.p 1 0),(2,.s ⟨#[]⟩),(8,.b (f.2==(1:Y)))] [0] [(1, [.s f.1,.i f.2])] [] p0<|ck (f.2==(1:Y)) (λc=>?_) (λc=>?_)
 ·have g:=eq_of_beq c;exact sn [2] [] (px (Jr (n:=(zD (⟨#[102,105,101,108,100,32]⟩:O)+zD f.1)) (by have a:zD (⟨#[102,105,101,108,100,32]⟩:O)=6:=rfl;unfold uF;first|omega|(simp only[zE];omega))) (px (Jr (n:=(zD ((⟨#[102,105,101,108,100,32]⟩:O)++f.1)+zD (⟨#[32,105,110,116]⟩:O))) (by have a:zD (⟨#[102,105,101,108,100,32]⟩:O)=6:=rfl;have h:zD (⟨#[32,105,110,116]⟩:O)=4:=rfl;unfold uF;first|omega|(simp only[zE];omega))) p0))<|Qc<|ps [] (Qh b (Qu c rfl))
 have g:=Yt c;refine sn [1,2,16] [1] p0<|ck (f.2==(2:Y)) (λd=>?_) (λd=>?_)
 ·have j:=eq_of_beq d;exact tn [2] [] (px (Jr (n:=(zD (⟨#[102,105,101,108,100,32]⟩:O)+zD f.1)) (by have a:zD (⟨#[102,105,101,108,100,32]⟩:O)=6:=rfl;unfold uF;first|omega|(simp only[zE];omega))) (px (Jr (n:=(zD ((⟨#[102,105,101,108,100,32]⟩:O)++f.1)+zD (⟨#[32,115,116,114,105,110,103]⟩:O))) (by have a:zD (⟨#[102,105,101,108,100,32]⟩:O)=6:=rfl;have h:zD (⟨#[32,115,116,114,105,110,103]⟩:O)=7:=rfl;unfold uF;first|omega|(simp only[zE];omega))) p0))<|Qc<|ps [] (Qh b (Qh c (Qu d rfl)))
 exact Qd<|tn [2] [] p0<|Qc<|ps [] (Qh b (Qh c (Qh d rfl)))
def Pu(a:O)(b:H)(c:Y):Rd (Y) (Y) (Y):=(.next (yS (uU uV (uU uV (33*c)+uU uV (Kp a (b:Y)))) 65521))
def Pv(_:H)(a:Y):Y:=a
def H7(a:O):Y:=(Out.on (Vj (Pu a) Pv (zD a:Y).toNat 0 3) (λb=>b))
theorem LS(a:O):ACalls uW 182 [.s a] (.i (H7 a)):=by
 refine en func182 λ_ _ _=>sn [0,2] [] p0 ?_
 refine tn [0,2,3] [] p0<|Qa<|tu [(2,.i 0),(3,.i 3),(6,.i (zD a:Y)),(7,.i 0)] [] [] [] p0<|stT 0 0 a (λm=>?_)
 refine Qx8 (Pu a) Pv (zD a:Y).toNat 3 (λb e=> [(3,.i e),(7,.i (b:Y))]) [3,7] (λl=> [(3,.i l)]) [0,3,6,7] (λ_ e=>0<=e/\e<=65520) wf0 ⟨(by decide),(by decide)⟩ (λb e g U=>?_) (λb e g U=>?_) (λl j=>?_)
 ·have c:=U.2.1;have d:=U.2.2;have h:=WG a (b:Y);have f:=HW c d h.1 h.2;refine sn [0,2,3,6,7,8] [] (pe 0 (zB ((b:Y)<(zD a:Y))) p0)<|Qa<|ckT<|Qd<|Qa<|Qn<|tn [0,2,3,4,6,7] [] p0<|qu [(3,.i (yS (uU uV (uU uV (33*e)+uU uV (Kp a (b:Y)))) 65521))] [3] [] [] (px (F9 (i:=(b:Y)) (n:=(zD a)) (by omega)) (px (Qtz (n:=65521) (by omega)) (px (Qks (k:= .i64) (n:=yS (uU uV (uU uV (33*e)+uU uV (Kp a (b:Y)))) 65521) (by unfold InR;simp only[IntKind.min,IntKind.max,IntKind.bits,IntKind.signed];omega)) p0))) ?_
  refine rn [0,2,3,6,7] [] (pw 0 b p0) ?_;exact xw (yS (uU uV (uU uV (33*e)+uU uV (Kp a (b:Y)))) 65521) ⟨Kb g rfl U.1,(by first | exact f.1 | exact f.2),(by first | exact f.1 | exact f.2)⟩
 ·have c:=U.2.1;have d:=U.2.2;exact sn [0,2,3,6,7,8] [] (pe 0 (zC ((b:Y)<(zD a:Y))) p0)<|Qa<|ckF<|Qv<|xw _ (Hu g rfl U.1)
 exact sn [2] [] p0<|Qc<|pi [] (Vz j rfl)
def L3(a:O)(b:H)(c:Y):Rd (Y) (Y) (Y):=(.next (yS (uU uV (uU uV (c*33)+uU uV (Kp a (b:Y)))) 65521))
def Pw(_:H)(a:Y):Y:=a
def A7(a:O):Y:=(Out.on (Vj (L3 a) Pw (zD a:Y).toNat 0 3) (λb=>b))
theorem LT(a:O):ACalls uW 92 [.s a] (.i (A7 a)):=by
 refine en func92 λ_ _ _=>sn [0,2] [] p0 ?_
 refine tn [0,2,3] [] p0<|Qa<|tu [(2,.i 0),(3,.i 3),(4,.i 0)] [] [] [] p0<|stT 0 0 a (λm=>?_)
 refine Qx8 (L3 a) Pw (zD a:Y).toNat 3 (λb e=> [(3,.i e),(4,.i (b:Y))]) [3,4] (λl=> [(3,.i l)]) [0,3,4] (λ_ e=>0<=e/\e<=65520) wf0 ⟨(by decide),(by decide)⟩ (λb e g U=>?_) (λb e g U=>?_) (λl j=>?_)
 ·have c:=U.2.1;have d:=U.2.2;have h:=WG a (b:Y);have f:=Qd4 c d h.1 h.2;refine Qa<|sn [0,2,3,4,8] [] (pe 3 (zB ((b:Y)<(zD a:Y))) p0)<|ckT<|Qd<|Qa<|Qn<|qn [0,2,3,4] [] (px (F9 (i:=(b:Y)) (n:=(zD a)) (by omega)) (px (Qtz (n:=65521) (by omega)) (px (Qks (k:= .i64) (n:=yS (uU uV (uU uV (e*33)+uU uV (Kp a (b:Y)))) 65521) (by unfold InR;simp only[IntKind.min,IntKind.max,IntKind.bits,IntKind.signed];omega)) p0))) ?_
  refine qu [(3,.i (yS (uU uV (uU uV (e*33)+uU uV (Kp a (b:Y)))) 65521)),(4,.i ((b+1:H):Y))] [3,4] [] [] (pw 1 b p0) ?_;exact xw (yS (uU uV (uU uV (e*33)+uU uV (Kp a (b:Y)))) 65521) ⟨Kb g rfl U.1,(by first | exact f.1 | exact f.2),(by first | exact f.1 | exact f.2)⟩
 ·have c:=U.2.1;have d:=U.2.2;exact Qa<|sn [0,2,3,4,8] [] (pe 3 (zC ((b:Y)<(zD a:Y))) p0)<|ckF<|Qv<|xw _ (Hu g rfl U.1)
 exact sn [2] [] p0<|Qc<|pi [] (Vz j rfl)
def L4(c:O)(b:H)(a:Z×Y):Rd Z (Z×Y) Z:=(bif (Kp c (b:Y)==(10:Y)) then(.next (a.1++ [(ByteArray.extract c a.2.toNat (b:Y).toNat)],((b+1:H):Y))) else(.next (a.1,a.2)))
def Oq(_:H)(a:Z×Y):Z:=a.1
def Z0(a:O):Z:=(Out.on (Vj (L4 a) Oq (zD a:Y).toNat 0 ([],0)) (λb=>b))
theorem Qby(c:O)(r:zD c<=1073741000):ACalls uW 210 [.s c] (.o 0 (Z0 c)):=by
 refine en func210 λ_ _ _=>sn [0,2] [] p0 ?_
 refine tn [0,2,3] [] p0<|tu [(2,.e 0),(3,.one (.slc (.own X 384) 1 [])),(4,.i 0)] [] [] [] p0<|Qa<|sn [0,2,3,4,5] [] p0<|mz [(5,.i 0)] [] [] []<|stT 0 0 c (λo=>?_)
 refine Qx8 (L4 c) Oq (zD c:Y).toNat ([],0) (λa b=> [(3,.o 104 b.1),(4,.i b.2),(5,.i (a:Y))]) [3,4,5] (λm=> [(3,.o 105 m)]) [0,3,4,5] (λa b=>zF b.1<=a/\0<=b.2/\b.2<=(a:Y)/\zF b.1<=a) (wsf [(384,104)]) ⟨(by simp),(by first | omega | simp),(by first | omega | simp),(by first | omega | simp)⟩ (λa b d U=>?_) (λa b d U=>?_) (λm k=>?_)
 ·have e:=U.2.1;have f:=U.2.2.1;have g:=U.2.2.2.1;have h:=U.2.2.2.2;refine Qa<|sn [0,2,3,4,5,10] [] (pe 3 (zB ((a:Y)<(zD c:Y))) p0)<|ckT<|Qd<|Qa<|Qn<|tn [0,2,3,4,5,16] [] (px (F9 (i:=(a:Y)) (n:=(zD c)) (by omega)) p0)<|ck (Kp c (a:Y)==(10:Y)) (λj=>?_) (λj=>?_)
  ·have l:=eq_of_beq j;refine wT 3 0 (.own X 104) b.1 (λp q=>?_);refine tu [(3,.one (.slc (.own X 1472) 1 (eA b.1 (ByteArray.extract c b.2.toNat (a:Y).toNat))))] [3] [] [] (px (Nc (lo:=b.2) (hi:=(a:Y)) (n:=(zD c)) (⟨by omega,by omega,by omega⟩)) (pa b.1 [(ByteArray.extract c b.2.toNat (a:Y).toNat)] p0)) ?_;refine eqn [(3,.o 1472 (b.1++ [(ByteArray.extract c b.2.toNat (a:Y).toNat)]))] [3] [] [] (by rw[Wu]<;>kernel_rfl) ?_;refine rn [0,2,3,4,5] [] (pw 1 a p0) ?_;refine qn [0,2,3,4,5] [] (pw 1 a p0) ?_;exact zJ (b.1++ [(ByteArray.extract c b.2.toNat (a:Y).toNat)],((a+1:H):Y)) (zM (wsf [(1472,104)]) ⟨Kb d (Qu j rfl) U.1,by first|omega|(simp;omega) | simp,(by first|omega|(simp;omega)),(by first|omega|(simp;omega)),(by first|omega|(simp;omega))⟩)
  have l:=Yt j;refine Qd<|qu [(5,.i ((a+1:H):Y))] [5] [] [] (pw 1 a p0) ?_
  exact xw (b.1,b.2) ⟨Kb d (Qh j rfl) U.1,by first|omega|(simp;omega) | simp,(by first|omega|(simp;omega)),(by first|omega|(simp;omega)),(by first|omega|(simp;omega))⟩
 ·have e:=U.2.1;have f:=U.2.2.1;have g:=U.2.2.2.1;have h:=U.2.2.2.2;exact Qa<|sn [0,2,3,4,5,10] [] (pe 3 (zC ((a:Y)<(zD c:Y))) p0)<|ckF<|Qv<|zJ _ (zM (wsf [(104,105)]) (Hu d rfl U.1))
 exact sn [2] [] p0<|Qc<|po0 [] (Vz k rfl)
def Vy(a:O)(b:H)(c:Y):Rd (Y×G) (Y) (Y):=(bif (decide (Kp a (b:Y)<(48:Y))|| decide (Kp a (b:Y)>(57:Y))) then(.ret (0,W)) else(.next (uU uV (uU uV (uU uV (10*c)+uU uV (Kp a (b:Y)))-48))))
def B6(_:H)(a:Y):Y:=a
def X1(a:O):Y×G:=(bif decide ((zD a:Y)>(10:Y)) then(0,W) else(Out.on (Vj (Vy a) B6 (zD a:Y).toNat 0 0) (λb=>(bif (decide (b>(1000000000:Y))|| (!((Q6 b).toList==a.toList))) then(0,W) else(b,X)))))
theorem Px(a:O):ACalls uW 211 [.s a] (.tup [(W, [.i (((X1 a)).1)]),(W, [.b (((X1 a)).2)])]):=by
 refine en func211 λ_ _ _=>sn [0,2,3] [] p0 ?_
 refine Qa<|tn [0,2,3,8] [] p0<|ck (decide ((zD a:Y)>(10:Y))) (λm=>?_) (λm=>?_)
 ·exact tu [(2,.i 0),(3,.b W)] [] [] [] p0<|Qc<|pz [] (show X1 a=_ from Qu m rfl) (λz=> .tup [(W, [.i z.1]),(W, [.b z.2])])
 have a1:=uH m;refine Qd<|tu [(2,.i 0),(3,.b W),(4,.i 0)] [] [] [] p0<|Qa<|sn [0,2,3,4,5] [] p0<|mz [(5,.i 0)] [] [] []<|stT 0 0 a (λa2=>?_)
 refine Qsa (Vy a) B6 (zD a:Y).toNat 0 (λb h=> [(4,.i h),(5,.i (b:Y))]) [4,5] (λd=> [(4,.i d)]) [4,5] (λb h=>0<=h/\h<10^b) (λd=>0<=d) wf0 ⟨(by decide),(by decide)⟩ (λb h g U=>?_) (λb h g U=>?_) (λd j=>?_)
 ·have e:=U.2.1;have f:=U.2.2;have a3:=WG a (b:Y);have p:=Qd6 (c:=Kp a (b:Y)) e f (by omega);refine Qa<|sn [0,2,3,4,5,12] [] (pe 3 (zB ((b:Y)<(zD a:Y))) p0)<|ckT<|Qd<|Qa<|Qn<|Qa<|Qa<|mz [(12,.b X)] [] [] []<|jn [(24,.b (decide (Kp a (b:Y)<(48:Y))|| decide (Kp a (b:Y)>(57:Y))))] [12] [] [] (decide (Kp a (b:Y)<(48:Y))) (λk=>?_) (λk=>?_) ?_
  ·have r:=uK k;exact rn [0,2,3,4,5,24] [] (px (F9 (i:=(b:Y)) (n:=(zD a)) (by omega)) (pt 3 k p0))<|zA (by rw[k]<;>kernel_rfl)
  ·have r:=uH k;exact rn [0,2,3,4,5,24] [] (px (F9 (i:=(b:Y)) (n:=(zD a)) (by omega)) (pf 3 k (px (F9 (i:=(b:Y)) (n:=(zD a)) (by omega)) p0)))<|zA (by rw[k]<;>kernel_rfl)
  refine ck (decide (Kp a (b:Y)<(48:Y))|| decide (Kp a (b:Y)>(57:Y))) (λq=>?_) (λq=>?_)
  ·refine su [] [24] [] [] p0<|Qc ?_
   have s:(Vj (Vy a) B6 (zD a:Y).toNat 0 0)= .ret (0,W):=Ti g (Qu q rfl) U.1;exact pz [] (show X1 a=_ from Qh m (Pe s)) (λz=> .tup [(W, [.i z.1]),(W, [.b z.2])])
  have t:(decide (Kp a (b:Y)<(48:Y)))=W:=Sl q;have x:=uH t;have u:(decide (Kp a (b:Y)>(57:Y)))=W:=Rz q;have y:=uH u;refine Qd<|rn [0,2,3,4,5] [] (px (F9 (i:=(b:Y)) (n:=(zD a)) (by omega)) p0) ?_
  refine qn [0,2,3,4,5] [] (pw 1 b p0) ?_;exact xw (uU uV (uU uV (uU uV (10*h)+uU uV (Kp a (b:Y)))-48)) ⟨Kb g (Qh q rfl) U.1,(by first | (have l:=p (by omega) (by omega);rw[l.1];first | exact l.2.1 | exact l.2.2)),(by first | (have l:=p (by omega) (by omega);rw[l.1];first | exact l.2.1 | exact l.2.2))⟩
 ·have e:=U.2.1;have f:=U.2.2;exact Qa<|sn [0,2,3,4,5,12] [] (pe 3 (zC ((b:Y)<(zD a:Y))) p0)<|ckF<|Qv<|xw h ⟨Hu g rfl U.1,by first|omega|(simp only[zV];omega)⟩
 have v:=j.2;refine Qa<|Qa<|jn [(40,.b (decide (d>(1000000000:Y))|| (!((Q6 d).toList==a.toList))))] [0] [] [] (decide (d>(1000000000:Y))) (λo=>?_) (λo=>?_) ?_
 ·exact rn [2,3,4,40] [] (pt 1 o p0)<|zA (by rw[o]<;>kernel_rfl)
 ·have a4:=uH o;have a5:=Vd (n:=d) (by omega);exact rn [2,3,4,40] [] (pf 1 o (pc 4 (H1 d (by omega)) p0))<|zA (by rw[o]<;>kernel_rfl)
 refine ck (decide (d>(1000000000:Y))|| (!((Q6 d).toList==a.toList))) (λw=>?_) (λw=>?_)
 ·exact sn [2,3,4] [] p0<|Qc<|pz [] (show X1 a=_ from Qh m (Vz j.1 (Qu w rfl))) (λz=> .tup [(W, [.i z.1]),(W, [.b z.2])])
 exact Qd<|sn [2,3] [] p0<|Qc<|pz [] (show X1 a=_ from Qh m (Vz j.1 (Qh w rfl))) (λz=> .tup [(W, [.i z.1]),(W, [.b z.2])])
def Q1(a:Y):O:=(bif (!(X6 a 1 9)) then⟨#[63]⟩ else(nth [(⟨#[97,108,108]⟩:O),⟨#[104,97,115]⟩,⟨#[101,113]⟩,⟨#[108,116]⟩,⟨#[110,111,116]⟩,⟨#[97,110,100]⟩,⟨#[111,114]⟩,⟨#[105,110]⟩,⟨#[108,105,110,107,101,100]⟩] (uU uV (a-1)).toNat))
theorem YJ(a:Y):ACalls uW 246 [.i a] (.s (Q1 a)):=by
 refine en func246 λ_ _ _=>sn [0,2] [] p0 ?_
 refine tn [0,2,3] [] p0<|Qa<|tu [(2,.s ⟨#[]⟩),(3,.o 256 [(⟨#[97,108,108]⟩:O),⟨#[104,97,115]⟩,⟨#[101,113]⟩,⟨#[108,116]⟩,⟨#[110,111,116]⟩,⟨#[97,110,100]⟩,⟨#[111,114]⟩,⟨#[105,110]⟩,⟨#[108,105,110,107,101,100]⟩]),(7,.b (!(X6 a 1 9)))] [] [] [] (pc 1 (Kt a 1 9) p0)<|ck (!(X6 a 1 9)) (λd=>?_) (λd=>?_)
 ·exact sn [0,2,3] [] p0<|Qc<|ps [] (Qu d rfl)
 have b:(X6 a 1 9)=X:=Yu d;have c:=V0.1 b;have c:=V0.1 b;have f:=IntWalk.i64_in (a-1) (by have:=V0.1 b;omega);refine Qd<|wT 3 0 (.own X 256) [(⟨#[97,108,108]⟩:O),⟨#[104,97,115]⟩,⟨#[101,113]⟩,⟨#[108,116]⟩,⟨#[110,111,116]⟩,⟨#[97,110,100]⟩,⟨#[111,114]⟩,⟨#[105,110]⟩,⟨#[108,105,110,107,101,100]⟩] (λg h=>?_)
 have e:=ng [(⟨#[97,108,108]⟩:O),⟨#[104,97,115]⟩,⟨#[101,113]⟩,⟨#[108,116]⟩,⟨#[110,111,116]⟩,⟨#[97,110,100]⟩,⟨#[111,114]⟩,⟨#[105,110]⟩,⟨#[108,105,110,107,101,100]⟩] (uU uV (a-1)).toNat (by simp only[List.length_cons,List.length_nil];omega);exact sn [2] [] (pG 3 (uU uV (a-1)) e p0)<|Qc<|ps [] (Qh d rfl)
def Yw(a:Y):O:=(bif (!(Xd a 1 9)) then⟨#[63]⟩ else(nth ([⟨#[]⟩,⟨#[97,108,108]⟩,⟨#[104,97,115]⟩,⟨#[101,113]⟩,⟨#[108,116]⟩,⟨#[110,111,116]⟩,⟨#[97,110,100]⟩,⟨#[111,114]⟩,⟨#[105,110]⟩,⟨#[108,105,110,107,101,100]⟩]:Z) a.toNat))
theorem YK(a:Y):ACalls uW 209 [.i a] (.s (Yw a)):=by
 refine en func209 λ_ _ _=>sn [0,2] [] p0 ?_
 refine Qa<|tn [0,2,5] [] (pc 1 (Js a 1 9) p0)<|ck (!(Xd a 1 9)) (λd=>?_) (λd=>?_)
 ·exact tu [(2,.s ⟨#[63]⟩)] [] [] [] p0<|Qc<|ps [] (Qu d rfl)
 have b:(Xd a 1 9)=X:=Yu d;have c:=Bj.1 b;have c:=Bj.1 b;refine Qd ?_;have e:=ng ([⟨#[]⟩,⟨#[97,108,108]⟩,⟨#[104,97,115]⟩,⟨#[101,113]⟩,⟨#[108,116]⟩,⟨#[110,111,116]⟩,⟨#[97,110,100]⟩,⟨#[111,114]⟩,⟨#[105,110]⟩,⟨#[108,105,110,107,101,100]⟩]:Z) a.toNat (by simp only[List.length_cons,List.length_nil];omega);exact tu [(2,.s (nth ([⟨#[]⟩,⟨#[97,108,108]⟩,⟨#[104,97,115]⟩,⟨#[101,113]⟩,⟨#[108,116]⟩,⟨#[110,111,116]⟩,⟨#[97,110,100]⟩,⟨#[111,114]⟩,⟨#[105,110]⟩,⟨#[108,105,110,107,101,100]⟩]:Z) a.toNat))] [0] [] [] (pG 2 a e p0)<|Qc<|ps [] (Qh d rfl)
def Ch(a:O)(b:H)(_:uB):Rd (Z×G) (uB) (uB):=(bif (!(X6 (uU uV (Kp a (b:Y))) 32 126)) then(.ret ([],W)) else(.next ()))
def D6(_:H)(_:uB):uB:=()
def Yh(a:O):Z×G:=(bif decide ((zD a:Y)>(600:Y)) then([],W) else(Out.on (Vj (Ch a) D6 (zD a:Y).toNat 0 ()) (λ_=>(bif decide (((W6 a).length:Y)>(24:Y)) then([],W) else((W6 a),X)))))
theorem AJ(a:O):ACalls uW 375 [.s a] (.tup [(W, [.o 0 (((Yh a)).1)]),(W, [.b (((Yh a)).2)])]):=by
 refine en func375 λ_ _ _=>sn [0,2,3] [] p0 ?_
 refine Qa<|tn [0,2,3,8] [] p0<|ck (decide ((zD a:Y)>(600:Y))) (λe=>?_) (λe=>?_)
 ·have p:=uK e;refine tu [(2,.e 0),(3,.b W)] [] [] [] p0<|opn [(W,2,0,X,104,1)] ?_
  exact Qc<|pz [] (show Yh a=_ from Qu e rfl) (λz=> .tup [(W, [.o 0 z.1]),(W, [.b z.2])])
 have p:=uH e;refine Qd<|Qa<|tu [(2,.e 0),(3,.b W),(10,.i (zD a:Y)),(11,.i 0)] [] [] [] p0<|stT 0 0 a (λu=>?_)
 refine Qsa (Ch a) D6 (zD a:Y).toNat () (λb _=> [(11,.i (b:Y))]) [11] (λ_=> []) [10,11] (λb _=>∀j:H,j<b->Kp a (j:Y)<=126) (λ_=>∀j:H,j<zD a->Kp a (j:Y)<=126) wf0 (by(intro j h;omega)) (λb v d U=>?_) (λb v d U=>?_) (λw f=>?_)
 ·have c:=U.2;have q:=WG a (b:Y);have k:=Qum q;refine su [(12,.b X)] [] [] [] (pe 0 (zB ((b:Y)<(zD a:Y))) p0)<|Qa<|ckT<|Qd<|Qa<|Qn<|sn [0,2,3,4,10,11] [] p0<|tn [0,2,3,10,11,19] [] (px (F9 (i:=(b:Y)) (n:=(zD a)) (by omega)) (pc 4 (Kt (uU uV (Kp a (b:Y))) 32 126) p0))<|ck (!(X6 (uU uV (Kp a (b:Y))) 32 126)) (λl=>?_) (λl=>?_)
  ·have g:(X6 (uU uV (Kp a (b:Y))) 32 126)=W:=Kj l;refine tu [] [12] [] [] p0<|opn [(W,2,0,X,104,1)] ?_
   refine Qc ?_;have r:(Vj (Ch a) D6 (zD a:Y).toNat 0 ())= .ret ([],W):=Ti d (Qu l rfl) U.1;exact pz [] (show Yh a=_ from Qh e (Pe r)) (λz=> .tup [(W, [.o 0 z.1]),(W, [.b z.2])])
  have g:(X6 (uU uV (Kp a (b:Y))) 32 126)=X:=Yu l;have m:=V0.1 g;have m:=V0.1 g;refine Qd<|qu [(11,.i ((b+1:H):Y))] [11,12] [] [] (pw 0 b p0) ?_
  exact xw () ⟨Kb d (Qh l rfl) U.1,(by(intro j h;rcases Nat.lt_succ_iff_lt_or_eq.1 h with h | rfl;exact c j h;first | exact(k ‹_›).2 | (apply(k _).2;simp_all)))⟩
 ·have c:=U.2;exact sn [0,2,3,10,11,12] [] (pe 0 (zC ((b:Y)<(zD a:Y))) p0)<|Qa<|ckF<|Qv<|xw () ⟨Hu d rfl U.1,by(intro j h;first | exact c j (by omega) | (simp_all;done))⟩
 have s:=f.2;refine sn [2,3,5] [] (pc 1 (FQ a (by omega) (Qqe (by assumption))) p0)<|Qa<|tn [2,3,5,25] [] (pl 1 (W6 a) p0)<|ck (decide (((W6 a).length:Y)>(24:Y))) (λo=>?_) (λo=>?_)
 ·have t:=uK o;refine tu [(5,.o 1408 (W6 a))] [0] [] [] p0<|opn [(W,2,0,X,104,1)] ?_
  exact Qc<|pz [] (show Yh a=_ from Qh e (Vz f.1 (Qu o rfl))) (λz=> .tup [(W, [.o 0 z.1]),(W, [.b z.2])])
 have t:=uH o;exact Qd<|tu [(2,.o 1408 (W6 a)),(3,.b X)] [0,2,3] [] [] p0<|Qc<|pz [] (show Yh a=_ from Qh e (Vz f.1 (Qh o rfl))) (λz=> .tup [(W, [.o 0 z.1]),(W, [.b z.2])])
def U8(a:O)(b:H)(c:Z×Y):Rd (Z×G) (Z×Y) Z:=(bif (decide ((b:Y)<(zD a:Y))&&(decide (Kp a (b:Y)<(32:Y))|| decide (Kp a (b:Y)>(126:Y)))) then(.ret ([],W)) else(bif (decide ((b:Y)<(zD a:Y))&&(Kp a (b:Y) !=(32:Y))) then(.next (c.1,c.2)) else(bif decide (c.2<(b:Y)) then(.next (c.1++ [(ByteArray.extract a c.2.toNat (b:Y).toNat)],((b+1:H):Y))) else(.next (c.1,((b+1:H):Y))))))
def Ac(_:H)(a:Z×Y):Z:=a.1
def Qf(a:O):Z×G:=(bif decide ((zD a:Y)>(600:Y)) then([],W) else(Out.on (Vj (U8 a) Ac ((zD a:Y)+1).toNat 0 ([],0)) (λb=>(bif decide ((b.length:Y)>(24:Y)) then([],W) else(b,X)))))
theorem Sz(a:O):ACalls uW 300 [.s a] (.tup [(W, [.o 0 (((Qf a)).1)]),(W, [.b (((Qf a)).2)])]):=by
 refine en func300 λ_ _ _=>sn [0,2,3] [] p0 ?_
 refine tn [0,2,3,4] [] p0<|Qa<|tu [(2,.e 0),(3,.b W),(4,.one (.slc (.own X 448) 1 [])),(10,.b (decide ((zD a:Y)>(600:Y))))] [] [] [] p0<|ck (decide ((zD a:Y)>(600:Y))) (λo=>?_) (λo=>?_)
 ·exact sn [0,2,3,4] [] p0<|Qc<|pz [] (show Qf a=_ from Qu o rfl) (λz=> .tup [(W, [.o 0 z.1]),(W, [.b z.2])])
 have a8:=uH o;refine Qd<|sn [0,2,3,4,5] [] p0<|Qa<|tn [0,2,3,4,5,6] [] p0<|mz [(5,.i 0),(6,.i 0)] [10] [] []<|stT 0 0 a (λa9=>?_)
 refine Qsa (U8 a) Ac ((zD a:Y)+1).toNat ([],0) (λc d=> [(4,.o 104 d.1),(5,.i d.2),(6,.i (c:Y))]) [4,5,6] (λp=> [(4,.o 105 p)]) [0,4,5,6] (λc d=>zF d.1<=c/\0<=d.2/\d.2<=(c:Y)/\∀y,y∈d.1->zD y<=600) (λp=>∀x,x∈p->zD x<=600) (wsf [(448,104)]) ⟨(by simp),(by first | omega | simp),(by first | omega | simp),(by first | omega | simp)⟩ (λc d e U=>?_) (λc d e U=>?_) (λp g=>?_)
 ·have h:=U.2.1;have j:=U.2.2.1;have k:=U.2.2.2.1;have b:=U.2.2.2.2;refine Qa<|su [(15,.b X)] [] [] [] (pe 3 (zB ((c:Y)<=(zD a:Y))) p0)<|ckT<|Qd<|Qa<|Qn<|Qa<|Qa<|jn [(33,.b (decide ((c:Y)<(zD a:Y))&&(decide (Kp a (c:Y)<(32:Y))|| decide (Kp a (c:Y)>(126:Y)))))] [15] [] [] (decide ((c:Y)<(zD a:Y))) (λf=>?_) (λf=>?_) ?_
  ·have aa:=uK f;refine Ye (decide (Kp a (c:Y)<(32:Y))) (λl=>?_) (λl=>?_)
   ·have u:=uK l;exact rn [0,2,3,4,5,6,33] [] (pt 3 f (px (F9 (i:=(c:Y)) (n:=(zD a)) (by omega)) (pt 8 l p0)))<|zA (by rw[f,l]<;>kernel_rfl)
   have u:=uH l;exact rn [0,2,3,4,5,6,33] [] (pt 3 f (px (F9 (i:=(c:Y)) (n:=(zD a)) (by omega)) (pf 8 l (px (F9 (i:=(c:Y)) (n:=(zD a)) (by omega)) p0))))<|zA (by rw[f,l]<;>kernel_rfl)
  ·exact rn [0,2,3,4,5,6,33] [] (pf 3 f p0)<|zA (by rw[f]<;>kernel_rfl)
  refine ck (decide ((c:Y)<(zD a:Y))&&(decide (Kp a (c:Y)<(32:Y))|| decide (Kp a (c:Y)>(126:Y)))) (λs=>?_) (λs=>?_)
  ·refine sn [0,2,3,4,5,6] [] p0<|Qc ?_
   have v:(Vj (U8 a) Ac ((zD a:Y)+1).toNat 0 ([],0))= .ret ([],W):=Ti e (Qu s rfl) U.1;exact pz [] (show Qf a=_ from Qh o (Pe v)) (λz=> .tup [(W, [.o 0 z.1]),(W, [.b z.2])])
  refine Qd<|Qa<|Qa<|jn [(44,.b (decide ((c:Y)<(zD a:Y))&&(Kp a (c:Y) !=(32:Y))))] [33] [] [] (decide ((c:Y)<(zD a:Y))) (λq=>?_) (λq=>?_) ?_
  ·have ab:=uK q;exact rn [0,2,3,4,5,6,44] [] (pt 3 q (px (F9 (i:=(c:Y)) (n:=(zD a)) (by omega)) p0))<|zA (by rw[q]<;>kernel_rfl)
  ·exact rn [0,2,3,4,5,6,44] [] (pf 3 q p0)<|zA (by rw[q]<;>kernel_rfl)
  refine ck (decide ((c:Y)<(zD a:Y))&&(Kp a (c:Y) !=(32:Y))) (λr=>?_) (λr=>?_)
  ·have w:(decide ((c:Y)<(zD a:Y)))=X:=HL r;have a4:=uK w;have a1:((Kp a (c:Y) !=(32:Y)))=X:=HM r;have a5:=Sk a1;refine Qv<|rn [0,2,3,4,5,6] [] (pw 1 c p0) ?_
   exact xw (d.1,d.2) ⟨Kb e (Qh s (Qu r rfl)) U.1,by first|omega|(simp;omega) | simp,(by first|omega|(simp;omega) | exact b | (intro y hy;rcases zP.1 hy with hy | hy;exact b y hy;rw[zQ.1 hy,ByteArray.size_extract];omega)),(by first|omega|(simp;omega) | exact b | (intro y hy;rcases zP.1 hy with hy | hy;exact b y hy;rw[zQ.1 hy,ByteArray.size_extract];omega)),(by first|omega|(simp;omega) | exact b | (intro y hy;rcases zP.1 hy with hy | hy;exact b y hy;rw[zQ.1 hy,ByteArray.size_extract];omega))⟩
  refine Qd<|Qa<|sn [0,2,3,4,5,6,47] [] p0<|ck (decide (d.2<(c:Y))) (λt=>?_) (λt=>?_)
  ·have a2:=uK t;refine wT 4 0 (.own X 104) d.1 (λa6 a7=>?_);refine qu [(4,.one (.slc (.own X 3456) 1 (eA d.1 (ByteArray.extract a d.2.toNat (c:Y).toNat))))] [4,44] [] [] (px (Nc (lo:=d.2) (hi:=(c:Y)) (n:=(zD a)) (⟨by omega,by omega,by omega⟩)) (pa d.1 [(ByteArray.extract a d.2.toNat (c:Y).toNat)] p0)) ?_;refine eqn [(4,.o 3456 (d.1++ [(ByteArray.extract a d.2.toNat (c:Y).toNat)]))] [4] [] [] (by rw[Wu]<;>kernel_rfl) ?_;refine rn [0,2,3,4,5,6] [] (pw 1 c p0) ?_;refine qn [0,2,3,4,5,6] [] (pw 1 c p0) ?_;exact zJ (d.1++ [(ByteArray.extract a d.2.toNat (c:Y).toNat)],((c+1:H):Y)) (zM (wsf [(3456,104)]) ⟨Kb e (Qh s (Qh r (Qu t rfl))) U.1,by first|omega|(simp;omega) | simp,(by first|omega|(simp;omega) | exact b | (intro y hy;rcases zP.1 hy with hy | hy;exact b y hy;rw[zQ.1 hy,ByteArray.size_extract];omega)),(by first|omega|(simp;omega) | exact b | (intro y hy;rcases zP.1 hy with hy | hy;exact b y hy;rw[zQ.1 hy,ByteArray.size_extract];omega)),(by first|omega|(simp;omega) | exact b | (intro y hy;rcases zP.1 hy with hy | hy;exact b y hy;rw[zQ.1 hy,ByteArray.size_extract];omega))⟩)
  have a2:=uH t;refine Qd<|qn [0,2,3,4,5,6] [] (pw 1 c p0) ?_
  refine qu [(5,.i ((c+1:H):Y)),(6,.i ((c+1:H):Y))] [5,6,44] [] [] (pw 1 c p0) ?_;exact xw (d.1,((c+1:H):Y)) ⟨Kb e (Qh s (Qh r (Qh t rfl))) U.1,by first|omega|(simp;omega) | simp,(by first|omega|(simp;omega) | exact b | (intro y hy;rcases zP.1 hy with hy | hy;exact b y hy;rw[zQ.1 hy,ByteArray.size_extract];omega)),(by first|omega|(simp;omega) | exact b | (intro y hy;rcases zP.1 hy with hy | hy;exact b y hy;rw[zQ.1 hy,ByteArray.size_extract];omega)),(by first|omega|(simp;omega) | exact b | (intro y hy;rcases zP.1 hy with hy | hy;exact b y hy;rw[zQ.1 hy,ByteArray.size_extract];omega))⟩
 ·have h:=U.2.1;have j:=U.2.2.1;have k:=U.2.2.2.1;have b:=U.2.2.2.2;exact Qa<|su [(15,.b W)] [] [] [] (pe 3 (zC ((c:Y)<=(zD a:Y))) p0)<|ckF<|Qv<|zJ d.1 (zM (wsf [(104,105)]) ⟨Hu e rfl U.1,by first | omega | exact b⟩)
 have a3:=g.2;refine Qa<|sn [2,3,4,59] [] (pl 1 p p0)<|ck (decide ((p.length:Y)>(24:Y))) (λm=>?_) (λm=>?_)
 ·exact tn [2,3,4] [] p0<|Qc<|pz [] (show Qf a=_ from Qh o (Vz g.1 (Qu m rfl))) (λz=> .tup [(W, [.o 0 z.1]),(W, [.b z.2])])
 exact Qd<|tn [2,3] [] p0<|Qc<|pz [] (show Qf a=_ from Qh o (Vz g.1 (Qh m rfl))) (λz=> .tup [(W, [.o 0 z.1]),(W, [.b z.2])])
theorem Ot(x:Qw):X4 x=Qs x:=by
 unfold X4 Qs J3 Jq;rw[D2,Uo]
theorem Qm8(f:Zt):Ud f=Jd f:=by
 unfold Ud Jd;rw[DB]
theorem Qes(f:Zt):(Jd f).size<=20:=by
 unfold Jd;cases a:Q8 f.1 with
 | false=>exact yA _
 | true=>
   have b:f.1.size=1:=by
    unfold Q8 at a;simp only[zS,uM] at a;omega
   simp only[zN,D];have c:(⟨#[102,105,101,108,100,32]⟩:O).size=6:=rfl;have d:(⟨#[32,105,110,116]⟩:O).size=4:=rfl;have e:(⟨#[32,115,116,114,105,110,103]⟩:O).size=7:=rfl;cases(f.2==(1:Y)) with
   | true=>simp only[uA,zE];omega
   | false=>
     cases(f.2==(2:Y)) with
     | true=>simp only[uA,D,zE];omega
     | false=>exact yA _
theorem AK{x:Qw}(h:Qs x=X):Qq x.1=X:=by
 unfold Qs at h;simp only[zS] at h;exact h.1
theorem WY{α:Type}{l:Q α}{p:H->α->G}{f:H->α->uB->Rd G uB uB}{e:H->uB->uB}{b:G}(g:∀k a u,f k a u=bif p k a then .ret W else .next ())(h:Out.on (X5 f e l 0 ()) (λ_=>b)=X):b=X/\∀(i:H) a,l[i]? =uC a->p i a=W:=by
 cases c:X5 f e l 0 () with
 | brk t=>
   rw[c] at h;refine⟨h,λi a j=>?_⟩;have:=Ra (λk a t=>by rw[g];cases p k a<;>simp) c i a j;rw[yL,g] at this;cases d:p i a with
   | false=>rfl
   | true=>rw[d] at this;simp at this
 | ret r=>
   rw[c] at h;obtain rfl:r=X:=h;exfalso
   have key:∀(l:Q α) k,X5 f e l k ()≠ .ret X:=by
    intro l
    induction l with
    | nil=>intro k h;simp[X5] at h
    | cons a l m=>
      intro k h;simp only[X5,g] at h;cases d:p k a with
      | false=>rw[d] at h;exact m _ h
      | true=>rw[d] at h;simp at h
   exact key _ _ c
theorem bo{a b:G}(h:(a|| b)=W):a=W/\b=W:=by cases a<;>cases b<;>simp_all
theorem bn{a:G}(h:(!a)=W):a=X:=by cases a<;>simp_all
theorem Qet{s:X2}(h:Qq s=X):Jv s.1=X/\s.2.1.length<=12/\(1<=s.2.2/\s.2.2<=61)/\∀f,f∈s.2.1->Y7 s.1 f=X:=by
 unfold Qq at h;obtain⟨a,b⟩:=WY (λ_ _ _=>rfl) h;simp only[zS,uN] at a;refine⟨a.1,by omega,V0.1 a.2.2,λf c=>?_⟩;obtain⟨i,d⟩:=yG c;exact bn (bo (b i f d)).1
theorem DO{s:Q Zt}(h:Jv s=X):s.length<=5/\∀f,f∈s->Q8 f.1=X/\(f.2=1\/f.2=2):=by
 unfold Jv at h;obtain⟨e,g⟩:=WY (λ_ _ _=>rfl) h;refine⟨by have:=uK e;omega,λf j=>?_⟩;obtain⟨i,k⟩:=yG j;have:=bo (g i f k);refine⟨bn this.1, ?_⟩;by_cases c:f.2=1
 . exact .inl c
 refine .inr (zZ λl=>?_);have d:=this.2;have a:(f.2 !=(1:Y))=X:=by simpa using c
 have b:(f.2 !=(2:Y))=X:=by simpa using l
 rw[a,b] at d;simp at d
theorem L5{a b:O}(h:(a.toList==b.toList)=X):a=b:=uK (toList_inj.symm.trans h)
theorem Qu0{s:Q Zt}{n:O}(h:Df s n≠0):∃f,f∈s/\f.1=n:=by
 refine zZ λd=>h ?_
 have key:∀(l:Q Zt) k,(∀f,f∈l->f.1≠n)->∃u,X5 (Ag n) Dl l k ()= .brk u:=by
  intro l
  induction l with
  | nil=>intro k _;exact⟨_,rfl⟩
  | cons a l g=>
    intro k c
    have ha:(a.1.toList==n.toList)=W:=by
     cases i:(a.1.toList==n.toList) with
     | false=>rfl
     | true=>exact absurd (L5 i) (c a (zH ..))
    simp only[X5];unfold Ag;rw[ha];exact g _ λf b=>c f (zG _ b)
 unfold Df;obtain⟨u,j⟩:=key s 0 λf b e=>d ⟨f,b,e⟩
 rw[j];rfl
theorem Qbz{α:Type}[DecidableEq α]:∀{l m:Q α},l.Nodup->(∀x,x∈l->x∈m)->l.length<=m.length
 | [],_,_,_=>yA _
 | a::l,m,hn,hs=>by
   have ha:=hs a (zH ..);have b:=yQ.1 hn;have:=Qbz (l:=l) (m:=m.erase a) b.2 λx c=>(List.mem_erase_of_ne (λe=>b.1 (by rw[←e];exact c))).2 (hs x (zG _ c))
   rw[List.length_erase_of_mem ha] at this;have:=List.length_pos_of_mem ha;simp only[List.length_cons];omega
def FBd(f:Xt):Prop:=(1<=f.1/\f.1<=60)/\(0<=f.2.1/\f.2.1<=2)/\(0<=f.2.2.2.1/\f.2.2.2.1<=60)/\f.2.2.2.2.length<=5/\∀a,a∈f.2.2.2.2->Q8 a.1=X/\Xf a.2=X/\a.2.1≠0
theorem Qit:∀(l:Q O),(∀(i:H) a,l[i]? =uC a->0<i->bl (nth l (i-1)) a=X)->l.Nodup:=λl h=>by
 have f:l.Pairwise (λa b=>bl a b=X):=by
  induction l with
  | nil=>exact .nil
  | cons a l g=>
    have j:∀(i:H) x,l[i]? =uC x->0<i->bl (nth l (i-1)) x=X:=λi x k m=>by
     have:=h (i+1) x (by simpa using k) (by omega);rw[show i+1-1=(i-1)+1 by omega] at this;simpa [nth] using this
    have d:=g j;refine yM.2 ⟨λx hx=>?_,d⟩;cases l with
    | nil=>cases hx
    | cons b l=>
      have c:bl a b=X:=by simpa [nth] using h 1 b (by simp) (by omega)
      rcases zT.1 hx with rfl | hx
      . exact c
      exact VT c ((yM.1 d).1 x hx)
 exact f.imp λ{a b} c e=>by subst e;rw[Qaq] at c;cases c
theorem Qq6{s:Q Zt}{f:Xt}(h:Y7 s f=X):FBd f:=by
 unfold Y7 at h;obtain⟨d,z⟩:=WY (λ_ _ _=>rfl) h;simp only[zS] at d
 have t:∀(i:H) a,f.2.2.2.2[i]? =uC a->Jo s a.1 a.2=X/\(0<i->bl (nth f.2.2.2.2 (i-1)).1 a.1=X):=λi a b=>by
  have n:=z i a b;cases p:decide (((i:H):Y)>(0:Y)) with
  | false=>
    rw[p] at n;exact⟨bn n,λu=>absurd (uH p) (by omega)⟩
  | true=>
    rw[p] at n;have v:=bo n;refine⟨bn v.2,λ_=>?_⟩;have w:=bn v.1;rw[show zK (((i:H):Y)-1)=i-1 by omega] at w;exact w
 have j:=DO d.2.2.2
 have y:∀a,a∈f.2.2.2.2->(∃g,g∈s/\g.1=a.1)/\Xf a.2=X/\a.2.1≠0:=λa ha=>by
  obtain⟨i,b⟩:=yG ha;have c:=(t i a b).1;unfold Jo at c;simp only[zS,bne_iff_ne,ne_eq,uM] at c;exact⟨Qu0 (c.2.2▸c.2.1),c.1,c.2.1⟩
 have k:f.2.2.2.2.length<=5:=by
  have q:(f.2.2.2.2.map (·.1)).Nodup:=Qit _ λi a b u=>by
   rw[List.getElem?_map,Option.map_eq_some_iff] at b;obtain⟨x,o,rfl⟩:=b;have h7:=(t i x o).2 u;have a1:=(zU.1 o).1
   rw[show nth (f.2.2.2.2.map (·.1)) (i-1)=(nth f.2.2.2.2 (i-1)).1 from by
    have e:=Hn (l:=f.2.2.2.2) (i:=i-1) (by omega);unfold nth;rw[yT,List.getElem?_map,e];rfl]
   exact h7
  have:=Qbz q (m:=s.map (·.1)) λx o=>by
   obtain⟨a,ha,rfl⟩:=xA.1 o;obtain⟨⟨g,r,e⟩,_⟩:=y a ha;exact xA.2 ⟨g,r,e⟩
  rw[yK,yK] at this;omega
 refine⟨V0.1 d.1, ?_,V0.1 d.2.2.1,k,λa ha=>?_⟩
 . have:=d.2.1;unfold Wi at this;exact V0.1 this
 obtain⟨⟨g,r,e⟩,h8⟩:=y a ha;exact⟨e▸(j.2 g r).1,h8⟩
theorem Sd{x:Qw}(h:Qs x=X):x.1.1.length<=5/\x.1.2.1.length<=12/\(1<=x.1.2.2/\x.1.2.2<=61)/\∀f,f∈x.1.2.1->FBd f:=by
 obtain⟨a,b,c,d⟩:=Qet (AK h);exact⟨(DO a).1,b,c,λf e=>Qq6 (d f e)⟩
theorem RZ{x:Qw}(h:X4 x=X):x.1.1.length<=5/\x.1.2.1.length<=12/\(1<=x.1.2.2/\x.1.2.2<=61)/\∀f,f∈x.1.2.1->FBd f:=Sd ((Ot x).symm.trans h)
theorem IE(s:O):∀(n k:H) (a:Y),0<=a->a<=65520->∃y,Vj (Pu s) Pv n k a= .brk y/\Vj (L3 s) Pw n k a= .brk y/\0<=y/\y<=65520
 | 0,k,a,h0,h1=>⟨a,rfl,rfl,h0,h1⟩
 | n+1,k,a,h0,h1=>by
   have hb:=WG s ((k:H):Y);have b:=HW h0 h1 hb.1 hb.2;obtain⟨y,c,d,e⟩:=IE s n (k+1) _ b.1 b.2;refine⟨y,c, ?_,e⟩;simp only[Vj];unfold L3;rw[Int.mul_comm a 33];exact d
theorem Qgz(s:O):0<=H7 s/\H7 s<=65520:=by
 obtain⟨y,a,_,b⟩:=IE s (zK (s.size:Y)) 0 3 (by decide) (by decide);unfold H7;rw[a];exact b
theorem Qg0(s:O):A7 s=H7 s:=by
 obtain⟨y,a,b,_⟩:=IE s (zK (s.size:Y)) 0 3 (by decide) (by decide);unfold A7 H7;rw[a,b]
theorem Qm9(s:O):0<=A7 s/\A7 s<=65520:=by rw[Qg0];exact Qgz s
theorem SA{v:Wx}(h:Xf v=X)(a:(v.1==(1:Y))=X):0<=v.2.1/\v.2.1<=999:=by
 unfold Xf at h;have e:v.1=1:=eq_of_beq a;rw[e] at h;simp only[show((1:Y)==0)=W from rfl,show((1:Y)==1)=X from rfl,uA,D,zS] at h;exact V0.1 h.1
theorem Rr{s:O}(h:Xp s=X):1<=s.size/\s.size<=6:=by
 unfold Xp at h;cases a:Vj (Y3 s) V6 (zK (s.size:Y)) 0 () with
 | brk t=>rw[a] at h;have:=V0.1 h;omega
 | ret r=>
   rw[a] at h;obtain rfl:r=X:=h;exfalso
   have key:∀n k,Vj (Y3 s) V6 n k ()≠ .ret X:=by
    intro n
    induction n with
    | zero=>intro k h;simp[Vj] at h
    | succ n c=>
      intro k h;simp only[Vj] at h;unfold Y3 at h;cases b:(decide (Kp s ((k:H):Y)<(97:Y))|| decide (Kp s ((k:H):Y)>(122:Y))) with
      | true=>rw[b] at h;simp at h
      | false=>rw[b] at h;exact c _ h
   exact key _ _ a
theorem Qna{v:Wx}(h:Xf v=X)(a:(v.1==(2:Y))=X):Xp v.2.2=X/\v.2.1=0:=by
 unfold Xf at h;have e:v.1=2:=eq_of_beq a;rw[e] at h;simp only[show((2:Y)==0)=W from rfl,show((2:Y)==1)=W from rfl,show((2:Y)==2)=X from rfl,uA,D,zS,uM] at h;exact h
open GoD (rd own)
theorem Qw2{α:Type}[GoD α]{a b:α}(h:¬a=b):eqb a b=W:=by
 unfold eqb;exact @decide_eq_false _ (_) h
theorem JC(r:Q uD):∀(l:Q uD) (acc:H),Lib.decFrom acc (l++r)=(Lib.decFrom acc l).bind (λa=>Lib.decFrom a r)
 | [],acc=>rfl
 | b::l,acc=>by
   simp only[yD,Lib.decFrom];cases Lib.digitVal b with
   | none=>rfl
   | some d=>exact JC r l _
theorem IF(d:H)(h:d<10):Lib.digitVal (UInt8.ofNat (48+d))=uC d:=by
 have a:(UInt8.ofNat (48+d)).toNat=48+d:=by rw[yU];omega
 unfold Lib.digitVal;rw[a,uI (by omega)]
 congr 1
 omega
theorem JD:∀n:H,Lib.decFrom 0 (Lib.decDigits n)=uC n:=by
 intro n
 induction n using Nat.strongRecOn with
 | ind n a=>
   by_cases h:n<10
   . rw[XW h];simp only[Lib.decFrom,IF n h];simp
   rw[DI h,JC,a (n / 10) (by omega)];simp only[Option.bind_some,Lib.decFrom,IF (n % 10) (Nat.mod_lt _ (by decide))]
   congr 1
   omega
theorem AL:∀n:H,∀b,b∈Lib.decDigits n->48<=b.toNat/\b.toNat<=57:=by
 intro n
 induction n using Nat.strongRecOn with
 | ind n a=>
   intro b hb;by_cases h:n<10
   . rw[XW h] at hb;have e:=zQ.1 hb;rw[e,yU];omega
   rw[DI h] at hb;rcases zP.1 hb with hb | hb
   . exact a (n / 10) (by omega) b hb
   have e:=zQ.1 hb;rw[e,yU];omega
theorem IG(n:H):Lib.decDigits n≠ []:=by
 by_cases h:n<10
 . rw[XW h];simp
 rw[DI h];simp
theorem KN(n:H):Lib.atoi (Lib.decDigits n)=uC (n:Y):=by
 have d:=JD n;have f:=AL n;have g:=IG n;generalize Lib.decDigits n=l at*;cases l with
 | nil=>exact absurd rfl g
 | cons b r=>
   have hb:=f b (by simp)
   have a:(b==45)=W:=by
    rw[uP];intro e;rw[e] at hb;exact absurd hb.1 (by decide)
   have c:(b==43)=W:=by
    rw[uP];intro e;rw[e] at hb;exact absurd hb.1 (by decide)
   simp only[Lib.atoi,a,c,Lib.decNat,List.isEmpty_cons,d];rfl
theorem Qiu(k n:H)(h:n<10^(k+1)):(Lib.decDigits n).length<=k+1:=Qd5 k n h
theorem IH(n:H):Q6 (n:Y)=⟨(Lib.decDigits n).toArray⟩:=by
 unfold Q6 Lib.itoa;rw[uJ (by omega)];rfl
theorem Et(n:H):(Q6 (n:Y)).data.toList=Lib.decDigits n:=by rw[IH]
def Nk(s:O):Option H:=match Lib.atoi s.data.toList with
 | some m=>if m.toNat<=1000000000/\Q6 (m.toNat:Y)=s then uC m.toNat else uL
 | none=>uL
theorem AM{s:O}{n:H}(h:n<=1000000000)(e:Q6 (n:Y)=s):Nk s=uC n:=by
 subst e;unfold Nk;rw[Et,KN];exact uI ⟨h,rfl⟩
theorem WZ{s:O}(h:∀n:H,n<=1000000000->Q6 (n:Y)≠s):Nk s=uL:=by
 unfold Nk;split
 . rename_i m _;exact uJ λa=>h _ a.1 a.2
 rfl
def Qyh:Option H->Value
 | some n=> .tuple #[.int .i64 n,.bool X]
 | none=> .tuple #[.int .i64 0,.bool W]
def errOk (w : World) : Prop := ∃ tp p, w.var? Tryz.prog "strconv.ErrSyntax" = some #[.iface tp p]
theorem Qyu : Tryz.prog.globalNamed "strconv.ErrSyntax" = some 2 := by kernel_rfl
theorem errOk.keep{w w':World}(h:errOk w)(a:Below w.heap.size w w'):errOk w':=by
 obtain⟨b,p,h⟩:=h;exact⟨b,p,Go.Joins.var_stays Qyu h a (yI _)⟩
set_option maxRecDepth 20000 in
theorem II(w:World)(s:O)(hs:s.size<=uF)(ht:tabOk w)(i:errOk w):Calls uW 249 #[.string s] w (Ret w (Qyh (Nk s))):=by
 unfold uF at hs;have HT:=Lib.hid ht;clear ht;have HE:=Lib.hid i;clear i;by_cases a6:10<s.size
 . have a:Nk s=uL:=WZ λn hn e=>by
    have h1:=Qiu 9 n (by omega);have h2:s.size=(Lib.decDigits n).length:=by rw[←e,IH];simp[zD]
    omega
   rw[a];clear a;go_enter func249,ntmps249
   go_wp2
   refine bodyPost_ret (v:= .tuple #[.int .i64 0,.bool W]) (by simp[results,results249,go_sem]) rfl ⟨rfl,Below.refl _ _⟩
 cases ha:Lib.atoi s.data.toList with
 | none=>
   have a:Nk s=uL:=WZ λn hn e=>by
    rw[←e,Et,KN] at ha;cases ha
   rw[a];clear a;have o:=Lib.hid ha;clear ha;go_enter func249,ntmps249
   go_wp2_with (go_at_call 291;obtain⟨tp,p,hv⟩:=HE.out;refine(Sh.strconv_Atoi_err_var s (by omega) o.out tp p w hv).mono ?_;clear hv;rintro e1 w1 ⟨N,rfl,hN,_,hb⟩;have HB:=Lib.hid hb;clear hb)
   refine bodyPost_ret (v:= .tuple #[.int .i64 0,.bool W]) (by simp[results,results249,go_sem]) rfl ⟨rfl,HB.out⟩
 | some v=>
   have q:∀n:H,Q6 (n:Y)=s->v=(n:Y):=λn e=>by
    rw[←e,Et,KN] at ha;exact(Option.some.inj ha).symm
   have r:=Lib.hid q;clear q;have o:=Lib.hid ha;clear ha;cases j:inR v 0 1000000000
   . have a:Nk s=uL:=WZ λn hn e=>by
      have h1:=r.out n e;rw[h1,DH (by omega) (by omega)] at j;cases j
     rw[a];clear a;have HR:=Lib.hid j;clear j;go_enter func249,ntmps249
     go_wp2_with (first | (go_at_call 291;refine(Sh.strconv_Atoi s _ (by omega) o.out w).mono ?_;rintro e1 w1 ⟨rfl,t1,c⟩;have d:Below w.heap.size w w1:=(by rw[c];exact Go.Joins.below_bytesWorld _ _ _ _ (yI _));clear c;have t:=d.size) | (go_at_call 181;refine YP (w:=w) (PY _ v 0 1000000000 W HR.out) (by go_grown) ?_;intro g2 x f y g;clear f g))
     refine bodyPost_ret (v:= .tuple #[.int .i64 0,.bool W]) (by simp[results,results249,go_sem]) rfl ⟨rfl,(by go_grown)⟩
   have a2:∃n:H,v=(n:Y)/\n<=1000000000:=by
    unfold inR at j;simp only[zS,uN] at j;exact⟨v.toNat,by omega,by omega⟩
   obtain⟨n,rfl,hn⟩:=a2;have HR:=Lib.hid j;clear j;have z:I64 (n:Y):=by unfold I64;omega
   have a1:=Lib.hid z;clear z;by_cases i:Q6 (n:Y)=s
   . rw[AM hn i];have a3:=Lib.hid i;clear i;go_enter func249,ntmps249
     go_wp2_with (first | (go_at_call 291;refine(Sh.strconv_Atoi s _ (by omega) o.out w).mono ?_;rintro e1 w1 ⟨rfl,t1,c⟩;have d:Below w.heap.size w w1:=(by rw[c];exact Go.Joins.below_bytesWorld _ _ _ _ (yI _));clear c;have t:=d.size) | (go_at_call 181;refine YP (w:=w) (PY _ n 0 1000000000 X HR.out) (by go_grown) ?_;intro g2 x f y g;clear f g) | (go_at_call 107;have b:=(λw1 h=>Po w1 n a1.out h);rw[a3.out] at b;refine YP (w:=w) (b _ (HT.out.keep (by go_grown))) (by go_grown) ?_;clear b;intro g3 a4 k a5 l;clear k l))
     refine bodyPost_ret (v:= .tuple #[.int .i64 n,.bool X]) (by simp[results,results249,go_sem]) rfl ⟨rfl,(by go_grown)⟩
   have a:Nk s=uL:=WZ λm hm e=>by
    have h1:=r.out m e;have h2:n=m:=by omega
    exact i (h2▸e)
   rw[a];clear a;generalize hu:Q6 (n:Y)=u at*;have HU:=Lib.hid hu;clear hu;have a7:(u.toList==s.toList)=W:=by rw[Quc];exact Qw2 i
   go_enter func249,ntmps249
   go_wp2_with (first | (go_at_call 291;refine(Sh.strconv_Atoi s _ (by omega) o.out w).mono ?_;rintro e1 w1 ⟨rfl,t1,c⟩;have d:Below w.heap.size w w1:=(by rw[c];exact Go.Joins.below_bytesWorld _ _ _ _ (yI _));clear c;have t:=d.size) | (go_at_call 181;refine YP (w:=w) (PY _ n 0 1000000000 X HR.out) (by go_grown) ?_;intro g2 x f y g;clear f g) | (go_at_call 107;have b:=(λw1 h=>Po w1 n a1.out h);rw[HU.out] at b;refine YP (w:=w) (b _ (HT.out.keep (by go_grown))) (by go_grown) ?_;clear b;intro g3 a4 k a5 l;clear k l))
   refine bodyPost_ret (v:= .tuple #[.int .i64 0,.bool W]) (by simp[results,results249,go_sem]) rfl ⟨rfl,(by go_grown)⟩
def Ql(s:O):Y×G:=match Nk s with
 | some n=>(n,X)
 | none=>(0,W)
theorem UA{s:O}{n:H}(h:Nk s=uC n):n<=1000000000/\Q6 (n:Y)=s:=by
 unfold Nk at h;split at h
 . split at h
   . rename_i a;cases h
     exact a
   cases h
 cases h
section
variable {P:Program}
theorem Qb0{f:H}(c:Iy P f){s:O}(h:∀w,Good P w->s.size<=uF->Calls P f #[.string s] w (Ret w (Qyh (Nk s)))):ACalls P f [.s s] (.tup [(W, [.i (Ql s).1]),(W, [.b (Ql s).2])]):=by
 refine⟨c,λw i F g p a=>?_⟩;cases a with
 | cons j l=>
   cases l
   obtain⟨rfl,m⟩:=j;refine(h w i m).mono ?_
   rintro e w' ⟨rfl,hb⟩
   refine⟨_,λ_=> [],rfl,hb,λ_=>List.nodup_nil,λk b d=>by simp at d,λk q b d=>by simp at d, ?_⟩;unfold Ql Qyh;split
   . rename_i n o;have:=(UA o).1;exact⟨[_,_],rfl,.cons ⟨_,rfl,rfl,by constructor<;>simp[IntKind.min,IntKind.max,IntKind.bits,IntKind.signed]<;>omega⟩ (.cons ⟨_,rfl,rfl⟩ .nil)⟩
   exact⟨[_,_],rfl,.cons ⟨_,rfl,rfl,by constructor<;>decide⟩ (.cons ⟨_,rfl,rfl⟩ .nil)⟩
end
theorem C1(s:O):ACalls uW 249 [.s s] (.tup [(W, [.i (Ql s).1]),(W, [.b (Ql s).2])]):=Qb0 (by unfold Iy;kernel_rfl) λw a b=>II w s b (a.tab _ Qye) (a.err _ Qyu)
open GoE (enc wide)
def Yi(v:Wx):O:=(bif (!(Xf v)) then⟨#[63]⟩ else(bif (v.1==(1:Y)) then(Q6 v.2.1) else(bif (v.1==(2:Y)) then v.2.2 else⟨#[45]⟩)))
theorem S0(v:Wx):ACalls uW 174 [.a [.i v.1,.i v.2.1,.s v.2.2]] (.s (Yi v)):=by
 refine en func174 λ_ _ _=>sn [1,2] [1] p0 ?_
 refine Qa<|Qn<|tn [1,2,3] [1] (pc 1 (K4 v) p0)<|ck (!(Xf v)) (λa=>?_) (λa=>?_)
 ·exact tu [(2,.s ⟨#[63]⟩)] [0] [] [] p0<|Qc<|ps [] (Qu a rfl)
 have c:(Xf v)=X:=Yu a;refine tu [(1,.p 1 0),(2,.s ⟨#[]⟩),(7,.b (v.1==(1:Y)))] [0] [(1, [.i v.1,.i v.2.1,.s v.2.2])] [] p0<|ck (v.1==(1:Y)) (λb=>?_) (λb=>?_)
 ·have e:=SA c b;have f:=eq_of_beq b;have g:=Vd (n:=v.2.1) (by omega);exact sn [2] [] (pc 2 (Bn v.2.1 (by omega)) p0)<|Qc<|ps [] (Qh a (Qu b rfl))
 refine sn [1,2,14] [1] p0<|ck (v.1==(2:Y)) (λd=>?_) (λd=>?_)
 ·exact tn [2] [] p0<|Qc<|ps [] (Qh a (Qh b (Qu d rfl)))
 exact Qd<|tn [2] [] p0<|Qc<|ps [] (Qh a (Qh b (Qh d rfl)))
def Je(v:Wx):O:=(bif (!(Yk v)) then⟨#[63]⟩ else(bif (v.1==(1:Y)) then(Q6 v.2.1) else(bif (v.1==(2:Y)) then v.2.2 else⟨#[45]⟩)))
theorem Ft(v:Wx):ACalls uW 144 [.a [.i v.1,.i v.2.1,.s v.2.2]] (.s (Je v)):=by
 refine en func144 λ_ _ _=>sn [1,2] [1] p0 ?_
 refine Qa<|Qn<|tn [1,2,3] [1] (pc 1 (Z8 v) p0)<|ck (!(Yk v)) (λa=>?_) (λa=>?_)
 ·exact tu [(2,.s ⟨#[63]⟩)] [0] [] [] p0<|Qc<|ps [] (Qu a rfl)
 have c:(Yk v)=X:=Yu a;refine tu [(1,.p 1 0),(2,.s ⟨#[]⟩),(7,.b (v.1==(1:Y)))] [0] [(1, [.i v.1,.i v.2.1,.s v.2.2])] [] p0<|ck (v.1==(1:Y)) (λb=>?_) (λb=>?_)
 ·have e:=SA c b;have f:=eq_of_beq b;have g:=Vd (n:=v.2.1) (by omega);exact sn [2] [] (pc 2 (H1 v.2.1 (by omega)) p0)<|Qc<|ps [] (Qh a (Qu b rfl))
 refine sn [1,2,14] [1] p0<|ck (v.1==(2:Y)) (λd=>?_) (λd=>?_)
 ·exact tn [2] [] p0<|Qc<|ps [] (Qh a (Qh b (Qu d rfl)))
 exact Qd<|tn [2] [] p0<|Qc<|ps [] (Qh a (Qh b (Qh d rfl)))
def Wa(n:Y):Wx:=(1,n,⟨#[]⟩)
theorem LU(n:Y):ACalls uW 397 [.i n] (.a [.i ((Wa n).1),.i ((Wa n).2.1),.s ((Wa n).2.2)]):=by
 refine en func397 λ_ _ _=>sn [0,2] [2] p0 ?_
 exact tn [2] [2] p0<|Qc<|pz [] (show Wa n=(1,n,⟨#[]⟩) from rfl) (λz=> .a [.i z.1,.i z.2.1,.s z.2.2])
def Ko(a:O):Wx:=(2,0,a)
theorem AN(a:O):ACalls uW 398 [.s a] (.a [.i ((Ko a).1),.i ((Ko a).2.1),.s ((Ko a).2.2)]):=by
 refine en func398 λ_ _ _=>sn [0,2] [2] p0 ?_
 exact tn [2] [2] p0<|Qc<|pz [] (show Ko a=(2,0,a) from rfl) (λz=> .a [.i z.1,.i z.2.1,.s z.2.2])
def Xm(a:O):Wx×G:=(bif (Ql a).2 then(bif (!(Xf (Wa ((Ql a).1)))) then((0,0,⟨#[]⟩),W) else((Wa ((Ql a).1)),X)) else(bif (!(a.toList==(⟨#[45]⟩:O).toList)) then(bif (!(Xf (Ko a))) then((0,0,⟨#[]⟩),W) else((Ko a),X)) else(bif (!(Xf (0,0,⟨#[]⟩))) then((0,0,⟨#[]⟩),W) else((0,0,⟨#[]⟩),X))))
theorem QI(a:O):ACalls uW 374 [.s a] (.tup [(X, [.i ((((Xm a)).1).1),.i ((((Xm a)).1).2.1),.s ((((Xm a)).1).2.2)]),(W, [.b (((Xm a)).2)])]):=by
 refine en func374 λ_ _ _=>sn [0,2,3] [2] p0 ?_
 refine tn [0,2,3,4,5] [2] (pc 1 (C1 a) p0)<|tu [(2,.p 2 0),(3,.b W),(4,.i ((Ql a).1)),(5,.b ((Ql a).2)),(6,.p 6 0)] [] [(2, [.i 0,.i 0,.s ⟨#[]⟩]),(6, [.i 0,.i 0,.s ⟨#[]⟩])] [] p0<|Qa<|Qn<|sn [0,2,3,4,6,13] [2,6] p0<|ck ((Ql a).2) (λb=>?_) (λb=>?_)
 ·refine qn [2,3,6] [2,6] (pc 1 (LU ((Ql a).1)) p0) ?_;refine Qa<|tu [(24,.b (!(Xf (Wa ((Ql a).1)))))] [0,4,5] [(6, [.i ((Wa ((Ql a).1)).1),.i ((Wa ((Ql a).1)).2.1),.s ((Wa ((Ql a).1)).2.2)])] [6] (pc 1 (K4 (Wa ((Ql a).1))) p0)<|ck (!(Xf (Wa ((Ql a).1)))) (λd=>?_) (λd=>?_)
  ·exact su [] [24] [] [] p0<|Qc<|pz [] (show Xm a=_ from Qu b (Qu d rfl)) (λz=> .tup [(X, [.i z.1.1,.i z.1.2.1,.s z.1.2.2]),(W, [.b z.2])])
  exact Qd<|sn [2,3] [2] p0<|Qc<|pz [] (show Xm a=_ from Qu b (Qh d rfl)) (λz=> .tup [(X, [.i z.1.1,.i z.1.2.1,.s z.1.2.2]),(W, [.b z.2])])
 refine tn [0,2,3,6,17] [2,6] p0<|ck (!(a.toList==(⟨#[45]⟩:O).toList)) (λc=>?_) (λc=>?_)
 ·refine qu [] [0,4,5] [(6, [.i ((Ko a).1),.i ((Ko a).2.1),.s ((Ko a).2.2)])] [6] (pc 1 (AN a) p0) ?_;refine Qa<|sn [2,3,6,24] [2,6] (pc 1 (K4 (Ko a)) p0)<|ck (!(Xf (Ko a))) (λe=>?_) (λe=>?_)
  ·exact tu [] [] [] [] p0<|Qc<|pz [] (show Xm a=_ from Qh b (Qu c (Qu e rfl))) (λz=> .tup [(X, [.i z.1.1,.i z.1.2.1,.s z.1.2.2]),(W, [.b z.2])])
  exact Qd<|tn [2,3] [2] p0<|Qc<|pz [] (show Xm a=_ from Qh b (Qu c (Qh e rfl))) (λz=> .tup [(X, [.i z.1.1,.i z.1.2.1,.s z.1.2.2]),(W, [.b z.2])])
 refine Qd<|Qa<|tu [(24,.b (!(Xf (0,0,⟨#[]⟩))))] [0,4,5] [] [] (pc 1 (K4 (0,0,⟨#[]⟩)) p0)<|ck (!(Xf (0,0,⟨#[]⟩))) (λf=>?_) (λf=>?_)
 ·exact su [] [24] [] [] p0<|Qc<|pz [] (show Xm a=_ from Qh b (Qh c (Qu f rfl))) (λz=> .tup [(X, [.i z.1.1,.i z.1.2.1,.s z.1.2.2]),(W, [.b z.2])])
 exact Qd<|sn [2,3] [2] p0<|Qc<|pz [] (show Xm a=_ from Qh b (Qh c (Qh f rfl))) (λz=> .tup [(X, [.i z.1.1,.i z.1.2.1,.s z.1.2.2]),(W, [.b z.2])])
def Zx(w:O):Wx:=(2,0,w)
theorem AO(w:O):ACalls uW 340 [.s w] (.a [.i ((Zx w).1),.i ((Zx w).2.1),.s ((Zx w).2.2)]):=by
 refine en func340 λ_ _ _=>sn [0,2] [2] p0 ?_
 exact tn [2] [2] p0<|Qc<|pz [] (show Zx w=(2,0,w) from rfl) (λz=> .a [.i z.1,.i z.2.1,.s z.2.2])
def J9(n:Y):Wx:=(1,n,⟨#[]⟩)
theorem LV(n:Y):ACalls uW 341 [.i n] (.a [.i ((J9 n).1),.i ((J9 n).2.1),.s ((J9 n).2.2)]):=by
 refine en func341 λ_ _ _=>sn [0,2] [2] p0 ?_
 exact tn [2] [2] p0<|Qc<|pz [] (show J9 n=(1,n,⟨#[]⟩) from rfl) (λz=> .a [.i z.1,.i z.2.1,.s z.2.2])
def Zz(a:O):Wx×G:=(bif (a.toList==(⟨#[45]⟩:O).toList) then((0,0,⟨#[]⟩),X) else(bif ((X1 a)).2 then(bif ((!(Yk (J9 (((X1 a)).1))))|| (!((Je (J9 (((X1 a)).1))).toList==a.toList))) then((0,0,⟨#[]⟩),W) else((J9 (((X1 a)).1)),X)) else(bif ((!(Yk (Zx a)))|| (!((Je (Zx a)).toList==a.toList))) then((0,0,⟨#[]⟩),W) else((Zx a),X))))
theorem QK(a:O):ACalls uW 303 [.s a] (.tup [(X, [.i ((((Zz a)).1).1),.i ((((Zz a)).1).2.1),.s ((((Zz a)).1).2.2)]),(W, [.b (((Zz a)).2)])]):=by
 refine en func303 λ_ _ _=>sn [0,2,3] [2] p0 ?_
 refine Qa<|tn [0,2,3,8] [2] p0<|ck (a.toList==(⟨#[45]⟩:O).toList) (λd=>?_) (λd=>?_)
 ·exact tu [(2,.p 2 0),(3,.b X)] [] [(2, [.i 0,.i 0,.s ⟨#[]⟩])] [] p0<|Qc<|pz [] (show Zz a=_ from Qu d rfl) (λz=> .tup [(X, [.i z.1.1,.i z.1.2.1,.s z.1.2.2]),(W, [.b z.2])])
 refine Qd<|tu [(2,.p 2 0),(3,.b W),(4,.i (((X1 a)).1)),(5,.b (((X1 a)).2))] [] [(2, [.i 0,.i 0,.s ⟨#[]⟩])] [] (pc 1 (Px a) p0)<|sn [0,2,3,4,5,6] [2,6] (pc 1 (AO a) p0)<|Qa<|tn [0,2,3,4,6,17] [2,6] p0<|ck (((X1 a)).2) (λe=>?_) (λe=>?_)
 ·refine qu [(6,.p 6 0)] [4,5] [(6, [.i ((J9 (((X1 a)).1)).1),.i ((J9 (((X1 a)).1)).2.1),.s ((J9 (((X1 a)).1)).2.2)])] [] (pc 1 (LV (((X1 a)).1)) p0) ?_;refine Qa<|Qa<|jn [(28,.b ((!(Yk (J9 (((X1 a)).1))))|| (!((Je (J9 (((X1 a)).1))).toList==a.toList))))] [0] [] [] (!(Yk (J9 (((X1 a)).1)))) (λf=>?_) (λf=>?_) ?_
  ·have b:(Yk (J9 (((X1 a)).1)))=W:=Kj f;exact rn [2,3,6,28] [2,6] (pc 1 (cb b (Z8 (J9 (((X1 a)).1)))) (pe 2 (show .b (!W)= .b X from rfl) p0))<|zA (by rw[f]<;>kernel_rfl)
  ·have b:(Yk (J9 (((X1 a)).1)))=X:=Yu f;exact rn [2,3,6,28] [2,6] (pc 1 (cb b (Z8 (J9 (((X1 a)).1)))) (pe 2 (show .b (!X)= .b W from rfl) (pc 5 (Ft (J9 (((X1 a)).1))) p0)))<|zA (by rw[f]<;>kernel_rfl)
  refine ck ((!(Yk (J9 (((X1 a)).1))))|| (!((Je (J9 (((X1 a)).1))).toList==a.toList))) (λh=>?_) (λh=>?_)
  ·exact su [] [28] [] [] p0<|Qc<|pz [] (show Zz a=_ from Qh d (Qu e (Qu h rfl))) (λz=> .tup [(X, [.i z.1.1,.i z.1.2.1,.s z.1.2.2]),(W, [.b z.2])])
  exact Qd<|sn [2,3] [2] p0<|Qc<|pz [] (show Zz a=_ from Qh d (Qu e (Qh h rfl))) (λz=> .tup [(X, [.i z.1.1,.i z.1.2.1,.s z.1.2.2]),(W, [.b z.2])])
 refine Qd<|Qa<|Qa<|mz [(6,.p 6 0),(17,.b (((X1 a)).2))] [5] [(6, [.i ((Zx a).1),.i ((Zx a).2.1),.s ((Zx a).2.2)])] []<|jn [(28,.b ((!(Yk (Zx a)))|| (!((Je (Zx a)).toList==a.toList))))] [0,4,17] [] [] (!(Yk (Zx a))) (λg=>?_) (λg=>?_) ?_
 ·have c:(Yk (Zx a))=W:=Kj g;exact rn [2,3,6,28] [2,6] (pc 1 (cb c (Z8 (Zx a))) (pe 2 (show .b (!W)= .b X from rfl) p0))<|zA (by rw[g]<;>kernel_rfl)
 ·have c:(Yk (Zx a))=X:=Yu g;exact rn [2,3,6,28] [2,6] (pc 1 (cb c (Z8 (Zx a))) (pe 2 (show .b (!X)= .b W from rfl) (pc 5 (Ft (Zx a)) p0)))<|zA (by rw[g]<;>kernel_rfl)
 refine ck ((!(Yk (Zx a)))|| (!((Je (Zx a)).toList==a.toList))) (λi=>?_) (λi=>?_)
 ·exact su [] [28] [] [] p0<|Qc<|pz [] (show Zz a=_ from Qh d (Qh e (Qu i rfl))) (λz=> .tup [(X, [.i z.1.1,.i z.1.2.1,.s z.1.2.2]),(W, [.b z.2])])
 exact Qd<|sn [2,3] [2] p0<|Qc<|pz [] (show Zz a=_ from Qh d (Qh e (Qh i rfl))) (λz=> .tup [(X, [.i z.1.1,.i z.1.2.1,.s z.1.2.2]),(W, [.b z.2])])
def Qt(p:Z)(a:Y):O:=(bif decide (a>=(p.length:Y)) then⟨#[]⟩ else(nth p a.toNat))
theorem U9(p:Z)(a:Y)(g:0<=a):ACalls uW 301 [.h p,.i a] (.s (Qt p a)):=by
 refine en func301 λ_ _ _=>sn [0,1,4] [] p0 ?_
 refine Qa<|tn [0,1,4,8] [] (pl 2 p p0)<|ck (decide (a>=(p.length:Y))) (λb=>?_) (λb=>?_)
 ·exact tu [(4,.s ⟨#[]⟩)] [] [] [] p0<|Qc<|ps [] (Qu b rfl)
 have d:=uH b;refine Qd<|wT 0 0 .sh p (λe f=>?_)
 have c:=ng p a.toNat;exact tu [(4,.s (nth p a.toNat))] [0,1] [] [] (pg 2 a c p0)<|Qc<|ps [] (Qh b rfl)
def Co(c:H)(a:O)(b:O):Rd (O) (O) (O):=(bif decide ((c:Y)>(0:Y)) then(.next ((b++(⟨#[32]⟩:O))++a)) else(.next (b++a)))
def Gh(_:H)(a:O):O:=a
def Am(p:Z):O:=(Out.on (X5 Co Gh p 0 ⟨#[]⟩) (λa=>a))
theorem UB(p:Z)(t:zF p<=24)(m:∀y,y∈p->zD y<=600):ACalls uW 305 [.h p] (.s (Am p)):=by
 refine en func305 λ_ _ _=>?_
 have o:zD (⟨#[32]⟩:O)=1:=rfl;refine sn [0,2] [] p0<|tn [0,2,3] [] p0<|Qa<|tu [(2,.s ⟨#[]⟩),(3,.s ⟨#[]⟩),(4,.i 0)] [] [] [] p0<|wT 0 0 .sh p (λq r=>?_)
 refine HN Co Gh p ⟨#[]⟩ (λb a=> [(3,.s a),(4,.i (b:Y))]) [3,4] (λk=> [(3,.s k)]) [0,3,4] (λb a=>zD a<=700*b) wf0 (by decide) (λb a c U=>?_) (λb a c U=>?_) (λk g=>?_)
 ·have d:=U.2;obtain⟨e,V⟩:=Xn (l:=p) (i:=b) c;have s:=m _ (zL V);refine Qa<|sn [0,2,3,4,8] [] (pl 2 p (pe 3 (zB ((b:Y)<(p.length:Y))) p0))<|ckT<|Qd<|Qa<|Qn<|Qa<|tn [0,2,3,4,12] [] p0<|ck (decide ((b:Y)>(0:Y))) (λf=>?_) (λf=>?_)
  ·have h:=uK f;refine qu [(3,.s (a++(⟨#[32]⟩:O)))] [3] [] [] (px (Jr (n:=(zD a+zD (⟨#[32]⟩:O))) (by have j:zD (⟨#[32]⟩:O)=1:=rfl;unfold uF;first|omega|(simp only[zE];omega))) p0) ?_;refine rn [0,2,3,4] [] (pn 3 V (px (Jr (n:=(zD (a++(⟨#[32]⟩:O))+zD e)) (by have j:zD (⟨#[32]⟩:O)=1:=rfl;unfold uF;first|omega|(simp only[zE];omega))) p0)) ?_;refine qn [0,2,3,4] [] (pw 1 b p0) ?_;exact xw ((a++(⟨#[32]⟩:O))++e) ⟨Qp V (Qu f rfl) U.1,(by first|omega|(simp only[zE];omega))⟩
  have h:=uH f;refine Qd<|qu [(3,.s (a++e))] [3] [] [] (pn 3 V (px (Jr (n:=(zD a+zD e)) (by unfold uF;first|omega|(simp only[zE];omega))) p0)) ?_
  refine rn [0,2,3,4] [] (pw 1 b p0) ?_;exact xw (a++e) ⟨Qp V (Qh f rfl) U.1,(by first|omega|(simp only[zE];omega))⟩
 ·have d:=U.2;exact Qa<|sn [0,2,3,4,8] [] (pl 2 p (pe 3 (zC ((b:Y)<(p.length:Y))) p0))<|ckF<|Qv<|xw _ (Xo c rfl U.1)
 exact sn [2] [] p0<|Qc<|ps [] (Vz g rfl)
def J0(p:Z)(a:Y):Y:=((X1 (Qt p a))).1
theorem Rs(p:Z)(a:Y)(b:0<=a):ACalls uW 302 [.h p,.i a] (.i (J0 p a)):=by
 refine en func302 λ_ _ _=>sn [0,1,4] [] p0 ?_
 exact tn [4,5] [] (pc 2 (U9 p a (by omega)) (pc 3 (Px (Qt p a)) p0))<|tu [(4,.i (((X1 (Qt p a))).1))] [0,1] [] [] p0<|Qc<|pi [] (show J0 p a=((X1 (Qt p a))).1 from rfl)
def Py(b:Z)(a:H)(c:O)(_:uB):Rd (G) (uB) (uB):=(bif (!(c.toList==(nth b a).toList)) then(.ret W) else(.next ()))
def Pz(_:H)(_:uB):uB:=()
def C7(a:Z)(b:Z):G:=(bif ((a.length:Y) !=(b.length:Y)) then W else(Out.on (X5 (Py b) Pz a 0 ()) (λ_=>X)))
theorem JE(a:Z)(b:Z):ACalls uW 46 [.h a,.h b] (.b (C7 a b)):=by
 refine en func46 λ_ _ _=>sn [0,1,4] [] p0 ?_
 refine Qa<|tn [0,1,4,10] [] (pl 1 a (pl 3 b p0))<|ck ((a.length:Y) !=(b.length:Y)) (λe=>?_) (λe=>?_)
 ·exact tu [(4,.b W)] [] [] [] p0<|Qc<|pb [] (Qu e rfl)
 have k:=Ut e;refine Qd<|Qa<|tu [(4,.b W),(5,.i 0)] [] [] [] p0<|wT 0 0 .sh a (λm n=>?_)
 refine S8 (Py b) Pz a () (λc _=> [(5,.i (c:Y))]) [5] (λ_=> []) [0,1,5] wf0 (λc o d U=>?_) (λc o d U=>?_) (λs f=>?_)
 ·obtain⟨p,V⟩:=Xn (l:=a) (i:=c) d;refine Qa<|sn [0,1,4,5,14] [] (pl 2 a (pe 3 (zB ((c:Y)<(a.length:Y))) p0))<|ckT<|Qd<|Qa<|Qn<|wT 1 0 .sh b (λq r=>?_)
  have g:=ng b c;refine tN [0,1,4,5,25] [] (pn 2 V (pn 6 g p0))<|ck (!(p.toList==(nth b c).toList)) (λh=>?_) (λh=>?_)
  ·refine tu [] [] [] [] p0<|Qc ?_
   have j:(X5 (Py b) Pz a 0 ())= .ret W:=Kc V (Qu h rfl) U;exact pb [] (Qh e (Pe j))
  refine Qd<|qu [(5,.i ((c+1:H):Y))] [5] [] [] (pw 1 c p0) ?_
  exact xw _ (Qp V (Qh h rfl) U)
 ·exact Qa<|sn [0,1,4,5,14] [] (pl 2 a (pe 3 (zC ((c:Y)<(a.length:Y))) p0))<|ckF<|Qv<|xw _ (Xo d rfl U)
 exact sn [4] [] p0<|Qc<|pb [] (Qh e (Vz f rfl))
theorem M5(a b:Q uD):Ej (a++b)=Ej a++Ej b:=by
 apply xO;rw[ByteArray.data_append];show(a++b).toArray=a.toArray++b.toArray;simp
theorem Vb(s a:O):Ya s [a]=a:=by
 unfold Ya;rw[zW,xB,Lib.join_one,A5]
theorem Hi(s a b:O)(l:Q O):Ya s (a::b::l)=a++s++Ya s (b::l):=by
 unfold Ya;simp only[zW];rw[Lib.join_cons,Lib.join_cons];unfold Lib.joinTail;simp only[zW,List.flatten_cons];rw[M5,M5,M5,M5,A5,A5,A5];simp only[ByteArray.append_assoc]
theorem Wv(s a b:O):Ya s [a,b]=(a++s)++b:=by rw[Hi,Vb]
theorem Wg(s a b c:O):Ya s [a,b,c]=(((a++s)++b)++s)++c:=by
 rw[Hi,Wv];simp only[ByteArray.append_assoc]
theorem Mn(s:O):∀{l m:Q O},l≠ []->m≠ []->Ya s (l++m)=Ya s l++s++Ya s m
 | [],_,h,_=>absurd rfl h
 | [a], [],_,h=>absurd rfl h
 | [a],b::m,_,_=>by rw[List.singleton_append,Hi,Vb]
 | a::b::l,m,_,h=>by
   have c:=Mn s (l:=b::l) (m:=m) (λe=>by cases e) h;rw[yD] at c;rw[yD,yD,Hi,c,Hi];simp only[ByteArray.append_assoc]
theorem OG{s:O}{m:H}(c:s.size=1):∀{l:Q O},(∀y,y∈l->y.size<=m)->(Ya s l).size<=l.length*(m+1)
 | [],_=>yA _
 | [a],h=>by rw[Vb];have:=h a (zH ..);simp only[List.length_cons,List.length_nil];omega
 | a::b::l,h=>by
   rw[Hi,zE,zE];have f:=h a (zH ..);have d:=OG c (l:=b::l) λy e=>h y (zG _ e)
   simp only[List.length_cons,Nat.add_mul] at d⊢;omega
theorem Ad{s:O}{m n:H}{l:Q O}(a:s.size=1)(h:∀y,y∈l->y.size<=m)(b:l.length<=n):(Ya s l).size<=n*(m+1):=
 xQ (OG a h) (Nat.mul_le_mul_right _ b)
theorem IJ{c:uD}(a b:O)(l:Q O):(Ya ⟨#[c]⟩ (a::b::l)).data.toList=a.data.toList++c::(Ya ⟨#[c]⟩ (b::l)).data.toList:=by
 rw[Hi,ByteArray.data_append,ByteArray.data_append];simp
theorem Qeu{c:uD}:∀{l:Q uD},c∉l->FO c l= [l]
 | [],_=>rfl
 | b::l,h=>by
   have hb:¬b=c:=λe=>h (by rw[e];exact zH ..)
   rw[FO,uJ hb,Qeu λa=>h (zG _ a)]
theorem SB{c:uD}(r:Q uD):∀{l:Q uD},c∉l->FO c (l++c::r)=l::FO c r
 | [],_=>by rw[zY,FO,uI rfl]
 | b::l,h=>by
   have hb:¬b=c:=λe=>h (by rw[e];exact zH ..)
   rw[yD,FO,uJ hb,SB r λa=>h (zG _ a)]
theorem Qg1{c:uD}:∀{l:Q O},l≠ []->(∀y,y∈l->c∉y.data.toList)->Q7 c (Ya ⟨#[c]⟩ l)=l
 | [],h,_=>absurd rfl h
 | [a],_,h=>by
   rw[Vb];unfold Q7;rw[Qeu (h a (zH ..)),zW,xB,A5]
 | a::b::l,_,h=>by
   have d:=Qg1 (c:=c) (l:=b::l) (λe=>by cases e) λy f=>h y (zG _ f)
   unfold Q7 at d⊢;rw[IJ,SB _ (h a (zH ..)),zW,d,A5]
theorem AP(c:uD)(s:O):1<=(Q7 c s).length:=by
 obtain⟨p,ps,h⟩:=FP c s.data.toList;unfold Q7;rw[h,zW,List.length_cons];omega
theorem Qb1(c:uD):∀l:Q uD,Lib.join (FO c l) [c]=l
 | []=>by rw[FO,Lib.join_one]
 | b::l=>by
   have a:=Qb1 c l;obtain⟨p,ps,h⟩:=FP c l;rw[h] at a;rw[Lib.join_cons] at a;by_cases hb:b=c
   . rw[FO,uI hb,h,Lib.join_cons];unfold Lib.joinTail at a⊢;rw[zW,List.flatten_cons,zY,yH,a,hb];rfl
   rw[FO,uJ hb,h];show Lib.join ((b::p)::ps) [c]=_;rw[Lib.join_cons,yD,a]
theorem Qq7(c:uD)(s:O):Ya ⟨#[c]⟩ (Q7 c s)=s:=by
 unfold Ya Q7;rw[List.map_map,show((λx:O=>x.data.toList) ∘ Ej)=id from funext λ_=>rfl,yP];show Ej (Lib.join (FO c s.data.toList) [c])=s;rw[Qb1,A5]
theorem BS(s:O):∀(l:Q O) (k:H),(Ya s (l.drop k)).size<=(Ya s l).size
 | l,0=>yI _
 | [],k+1=>by rw[List.drop_nil];exact yI _
 | [a],k+1=>by rw[xI,List.drop_nil];exact yA _
 | a::b::l,k+1=>by
   have:=BS s (b::l) k;rw[xI,Hi,zE];omega
theorem Qnb(c:uD)(s:O)(k:H):(Ya ⟨#[c]⟩ ((Q7 c s).drop k)).size<=s.size:=by
 have:=BS ⟨#[c]⟩ (Q7 c s) k
 rwa [Qq7] at this
def Word(s:O):Prop:=1<=s.size/\∀b,b∈s.data.toList->33<=b.toNat/\b.toNat<=126
theorem Word.no{s:O}(h:Word s){c:uD}(b:c.toNat<33):c∉s.data.toList:=λa=>by have:=(h.2 c a).1;omega
theorem Word.ne{s:O}(h:Word s):s.data.toList≠ []:=λe=>by
 have b:=h.1;have a:s.data.toList.length=s.size:=xJ;rw[e] at a;simp at a;omega
theorem Word.sp{s:O}(h:Word s){b:uD}(c:b∈s.data.toList):Lib.isSp b=W:=by
 have d:=h.2 b c;cases a:Lib.isSp b with
 | false=>rfl
 | true=>
   exfalso;unfold Lib.isSp at a;simp only[xF,uM] at a;rcases a with((((rfl | rfl) | rfl) | rfl) | rfl) | rfl<;>revert d<;>decide
theorem KO:∀(l cur r:Q uD),(∀b,b∈l->Lib.isSp b=W)->Lib.fieldsGo cur (l++r)=Lib.fieldsGo (cur++l) r
 | [],cur,r,_=>by rw[zY,xG]
 | b::l,cur,r,h=>by
   rw[yD,Lib.fieldsGo_more _ _ _ (h b (zH ..)),KO l _ r λx a=>h x (zG _ a),yH,List.singleton_append]
theorem KP:∀{l:Q O},(∀y,y∈l->Word y)->W6 (Ya ⟨#[32]⟩ l)=l
 | [],_=>rfl
 | [a],h=>by
   have ha:=h a (zH ..);rw[Vb];unfold W6 Lib.fields;have:=KO a.data.toList [] [] λb hb=>ha.sp hb
   rw[xG,zY] at this;rw[this];unfold Lib.fieldsGo;rw[uJ (by simpa using ha.ne),zW,xB,A5]
 | a::b::l,h=>by
   have ha:=h a (zH ..);have c:=KP (l:=b::l) λy d=>h y (zG _ d)
   unfold W6 Lib.fields at c⊢;rw[IJ,KO _ _ _ λb hb=>ha.sp hb,zY,Lib.fieldsGo_end _ _ _ rfl ha.ne,zW,c,A5]
theorem AQ{l:Q O}(h:∀y,y∈l->Word y):∀b,b∈(Ya ⟨#[32]⟩ l).data.toList->32<=b.toNat/\b.toNat<=126:=by
 match l,h with
 | [],_=>intro b hb;simp[Ya,Lib.join,Ej,List.intercalate] at hb
 | [a],h=>
   intro b hb;rw[Vb] at hb;have:=(h a (zH ..)).2 b hb;omega
 | a::b::l,h=>
   intro x hx;rw[IJ] at hx;rcases zP.1 hx with hx | hx
   . have:=(h a (zH ..)).2 x hx;omega
   rcases zT.1 hx with rfl | hx
   . decide
   exact AQ (λy c=>h y (zG _ c)) x hx
theorem Qev(v:Wx):(Yi v).size<=10:=by
 unfold Yi;cases a:Xf v with
 | false=>exact show(1:H)<=10 by decide
 | true=>
   simp only[zN,D];cases c:(v.1==(1:Y)) with
   | true=>have b:=SA a c;exact Vd (by omega)
   | false=>
     cases b:(v.1==(2:Y)) with
     | true=>exact xQ (Rr (Qna a b).1).2 (by decide)
     | false=>exact show(1:H)<=10 by decide
theorem Qw3(v:Wx):Je v=Yi v:=rfl
theorem Qsp(v:Wx):(Je v).size<=10:=Qev v
theorem DP{a:Y}(h:X6 a 1 9=X):a=1\/a=2\/a=3\/a=4\/a=5\/a=6\/a=7\/a=8\/a=9:=by
 have:=V0.1 h;omega
theorem Qg2(op:Y):Yw op=Q1 op:=by
 unfold Yw Q1;rw[←EZ];cases h:X6 op 1 9 with
 | false=>rfl
 | true=>rcases DP h with rfl | rfl | rfl | rfl | rfl | rfl | rfl | rfl | rfl<;>rfl
theorem Qnc(a:Y):(Q1 a).size<=6:=by
 cases h:X6 a 1 9 with
 | false=>unfold Q1;rw[h];exact show(1:H)<=6 by decide
 | true=>rcases DP h with rfl | rfl | rfl | rfl | rfl | rfl | rfl | rfl | rfl<;>decide
theorem Qsq(a:Y):(Yw a).size<=6:=Qg2 a▸Qnc a
theorem OH(p:Q O):Am p=Ya ⟨#[32]⟩ p:=by
 have e0:∀a:O,(⟨#[]⟩:O)++a=a:=λa=>by apply xO;rw[ByteArray.data_append];simp
 have key:∀(l:Q O) (k:H) (a s:O),X5 Co Gh l (k+1) (s++a)= .brk (s++Ya ⟨#[32]⟩ (a::l)):=by
  intro l
  induction l with
  | nil=>intro k a s;rw[Vb];rfl
  | cons b l c=>
    intro k a s
    have d:Co (k+1) b (s++a)= .next ((s++a++⟨#[32]⟩)++b):=by
     unfold Co;rw[uG (show(((k+1:H):H):Y)>0 by omega),uA]
    simp only[X5,d];have:=c (k+1) b (s++a++⟨#[32]⟩);rw[this,Hi];simp only[ByteArray.append_assoc]
 unfold Am;cases p with
 | nil=>rfl
 | cons a l=>
   have e:X5 Co Gh (a::l) 0 ⟨#[]⟩=X5 Co Gh l (0+1) ((⟨#[]⟩:O)++a):=rfl;rw[e,key,e0];rfl
theorem Qu1{n:Q0}{k:Y}(h:Jb n k=X):n.2.2.2.1.size<=6:=by
 have e:∀{a:O},(a.toList==(⟨#[]⟩:O).toList)=X->a.size<=6:=λh=>by rw[L5 h];decide
 have b:∀{a:O},Q8 a=X->a.size<=6:=λh=>by rw[PX h];decide
 have c:∀{a:O},Xp a=X->a.size<=6:=λh=>(Rr h).2
 unfold Jb at h
 cases d:(n.1==(1:Y))<;>cases f:(n.1==(2:Y))<;>cases g:(n.1==(3:Y))<;>cases i:(n.1==(4:Y))<;>cases j:(n.1==(5:Y))<;>cases l:(n.1==(6:Y))<;>cases m:(n.1==(7:Y))<;>cases o:(n.1==(8:Y))<;>cases p:(n.1==(9:Y))<;>simp only[d,f,g,i,j,l,m,o,p,uA,D,zS] at h<;>first
  | exact e h.2.2.2.1
  | exact e h.1.2.2.2.1
  | exact b h.2
  | exact b h.2.1
  | exact c h.2
  | cases h
theorem IK{q:Q Q0}{at_:Y}(a:Qm q=X)(b:0<=at_)(c:at_<(q.length:Y)):(qa q at_).2.2.2.1.size<=6:=Qu1 (HP a (Hn (by omega)))
theorem Qg3{f:Xt}(h:FBd f):∀y,y∈ [(⟨#[102,105,108,101]⟩:O),(Q6 f.1),(Q6 f.2.1),(bif f.2.2.1 then⟨#[115]⟩ else⟨#[111]⟩),(Q6 f.2.2.2.1)]->y.size<=10:=λy a=>by
 have b:=h.1;have c:=h.2.1;have d:=h.2.2.1;simp only[zT,List.mem_nil_iff,uS] at a;rcases a with rfl | rfl | rfl | rfl | rfl
 . decide
 . exact Vd (by omega)
 . exact Vd (by omega)
 . cases f.2.2.1<;>decide
 exact Vd (by omega)
theorem Qnd{f:Xt}(h:FBd f){l:Q O}{k:H}{a:Hk}(b:f.2.2.2.2[k]? =uC a)(c:∀y,y∈l->y.size<=10):∀y,y∈l++ [a.1,Yi a.2]->y.size<=10:=λy hy=>by
 rcases zP.1 hy with hy | hy
 . exact c y hy
 have:=h.2.2.2.2 a (zL b);simp only[zT,List.mem_nil_iff,uS] at hy;rcases hy with rfl | rfl
 . rw[PX this.1];decide
 exact Qev _
theorem Qne{f:Xt}(h:FBd f){a:Hk}(b:a∈f.2.2.2.2):a.1.size<=10:=by
 rw[PX (h.2.2.2.2 a b).1];decide
def N4(b:uD):G:=decide (32<=b.toNat)&&decide (b.toNat<=126)
theorem S1{s:O}{k:H}{c:uD}(h:s.data.toList[k]? =uC c):Kp s ((k:H):Y)=(c.toNat:Y):=by
 unfold Kp;rw[zO,yT,h];rfl
theorem Ij(s:O):s.data.toList.length=s.size:=xJ
theorem P0{α:Type}{l r:Q α}{k:H}{c:α}(h:l.drop k=c::r):l[k]? =uC c/\l.drop (k+1)=r/\k<l.length:=by
 have a:l[k]? =uC c:=by
  have:=uR (λx=>x[0]?) h;simpa using this
 refine⟨a, ?_,(zU.1 a).1⟩;have:=uR (List.drop 1) h;rw[List.drop_drop] at this;simpa [Nat.add_comm] using this
theorem Qyi{c:uD}(h:N4 c=X)(b:c.toNat≠32):Lib.isSp c=W:=by
 unfold N4 at h;simp only[zS,uN] at h;cases a:Lib.isSp c with
 | false=>rfl
 | true=>
   exfalso;unfold Lib.isSp at a;simp only[xF,uM] at a;rcases a with((((rfl | rfl) | rfl) | rfl) | rfl) | rfl<;>revert h b<;>decide
theorem Qw4{c:uD}(h:c.toNat=32):Lib.isSp c=X:=by
 have:c=32:=UInt8.toNat_inj.1 h;rw[this];rfl
theorem YL(s:O)(b k:H):ByteArray.extract s b k=Ej ((s.data.toList.drop b).take (k-b)):=by
 apply xO;rw[ByteArray.data_extract];apply Array.toList_inj.1;rw[Array.toList_extract];unfold Ej;simp[List.extract_eq_take_drop]
theorem Tx{R S T:Type}{f:H->S->Rd R S T}{e:H->S->T}{n k:H}{s s':S}(h:f k s= .next s'):Vj f e (n+1) k s=Vj f e n (k+1) s':=by rw[Vj,h]
theorem Qb2{R S T:Type}{f:H->S->Rd R S T}{e:H->S->T}{n k:H}{s:S}{r:R}(h:f k s= .ret r):Vj f e (n+1) k s= .ret r:=by rw[Vj,h]
theorem Qnf(a:O):∀(rest:Q uD) (k b:H) (h:Q O),a.data.toList.drop k=rest->k<=a.size->b<=k->
 Vj (U8 a) Ac (rest.length+1) k (h,(b:Y))=if rest.all N4 then .brk (h++(Lib.fieldsGo ((a.data.toList.drop b).take (k-b)) rest).map Ej) else .ret ([],W)
 | [], k,b,h,hr,hk,hb=>by
   have t:k=a.size:=by
    have:=uR zF hr;rw[yZ,Ij] at this;simp only[List.length_nil] at this;omega
   have i:decide (((k:H):Y)<(a.size:Y))=W:=uE (by omega);simp only[List.length_nil,Vj];unfold U8;rw[i];simp only[yE,D,List.all_nil,if_true]
   have l:((a.data.toList.drop b).take (k-b)).length=k-b:=by
    rw[List.length_take,yZ,Ij];omega
   unfold Lib.fieldsGo;by_cases p:b<k
   . rw[uG (show(b:Y)<((k:H):Y) by omega)]
     have d:((a.data.toList.drop b).take (k-b)).isEmpty=W:=by
      cases u:(a.data.toList.drop b).take (k-b) with
      | nil=>rw[u] at l;simp at l;omega
      | cons _ _=>rfl
     rw[d];simp only[uA,Ac,zO];rw[YL];rfl
   rw[uE (show¬(b:Y)<((k:H):Y) by omega)]
   have d:((a.data.toList.drop b).take (k-b)).isEmpty=X:=by
    rw[show k-b=0 by omega];rfl
   rw[d];simp only[D,Ac,if_true,xB,xG]
 | c :: rest,k,b,h,hr,hk,hb=>by
   obtain⟨s,hd,m⟩:=P0 hr;rw[Ij] at m;have i:decide (((k:H):Y)<(a.size:Y))=X:=uG (by omega);have v:=S1 s;rw[List.length_cons]
   have g:U8 a k (h,(b:Y))=(bif (decide ((c.toNat:Y)<(32:Y))|| decide ((c.toNat:Y)>(126:Y))) then(.ret ([],W)) else(bif ((c.toNat:Y) !=(32:Y)) then(.next (h,(b:Y))) else(bif decide ((b:Y)<((k:H):Y)) then(.next (h++ [(ByteArray.extract a (zK (b:Y)) (zK ((k:H):Y)))],((k+1:H):Y))) else(.next (h,((k+1:H):Y)))))):=by
    unfold U8;rw[i,v,yB,yB]
   rw[List.all_cons];cases f:N4 c with
   | false=>
     have q:(decide ((c.toNat:Y)<(32:Y))|| decide ((c.toNat:Y)>(126:Y)))=X:=by
      unfold N4 at f;simp only[Bool.and_eq_false_iff,decide_eq_false_iff_not] at f;simp only[xF,uN];omega
     rw[q,uA] at g;rw[Qb2 g];rfl
   | true =>
     have q:(decide ((c.toNat:Y)<(32:Y))|| decide ((c.toNat:Y)>(126:Y)))=W:=by
      unfold N4 at f;simp only[zS,uN] at f;simp only[Bool.or_eq_false_iff,decide_eq_false_iff_not];omega
     rw[q,D] at g;rw[yB];by_cases j:c.toNat=32
     . have r:((c.toNat:Y) !=(32:Y))=W:=by rw[j];rfl
       rw[r,D] at g;have n:=Qw4 j
       have l:((a.data.toList.drop b).take (k-b)).length=k-b:=by
        rw[List.length_take,yZ,Ij];omega
       have o:=λw=>Qnf a rest (k+1) (k+1) w hd (by omega) (yI _)
       simp only[Nat.sub_self,List.take_zero] at o;by_cases p:b<k
       . rw[uG (show(b:Y)<((k:H):Y) by omega),uA] at g;have d:(a.data.toList.drop b).take (k-b)≠ []:=λe=>by rw[e] at l;simp at l;omega
         rw[Tx g,o,Lib.fieldsGo_end _ _ _ n d,zO,zO,YL];split
         . rw[zW,yH,List.singleton_append]
         rfl
       rw[uE (show¬(b:Y)<((k:H):Y) by omega),D] at g;have d:(a.data.toList.drop b).take (k-b)= []:=by rw[show k-b=0 by omega];rfl
       rw[Tx g,o,d,Lib.fieldsGo_sp _ _ n]
     have r:((c.toNat:Y) !=(32:Y))=X:=by
      rw[bne_iff_ne];omega
     rw[r,uA] at g;have o:=Qnf a rest (k+1) b h hd (by omega) (by omega);rw[Tx g,o,Lib.fieldsGo_more _ _ _ (Qyi f j)]
     have e:(a.data.toList.drop b).take (k+1-b)=(a.data.toList.drop b).take (k-b)++ [c]:=by
      have:(a.data.toList.drop b)[k-b]? =uC c:=by rw[List.getElem?_drop,show b+(k-b)=k by omega];exact s
      rw[show k+1-b=(k-b)+1 by omega,List.take_add_one,this];rfl
     rw[e]
theorem Qb3(b:O):∀(a:Q uD) (k:H),b.data.toList.drop k=a->Vj (Ch b) D6 a.length k ()=if a.all N4 then .brk () else .ret ([],W)
 | [],k,_=>rfl
 | c ::a,k,hr=>by
   obtain⟨d,hd,_⟩:=P0 hr;simp only[List.length_cons,Vj];unfold Ch;rw[S1 d,IntWalk.i64_in (c.toNat:Y) (by have:=c.toNat_lt;omega)]
   have e:X6 (c.toNat:Y) 32 126=N4 c:=by
    unfold X6 N4
    congr 1
    . exact uT.2 (by omega)
    exact uT.2 (by omega)
   rw[e,List.all_cons];cases f:N4 c with
   | false=>rfl
   | true=>
     simp only[zN,D,yB];exact Qb3 b a (k+1) hd
theorem Qng(line:O):Qf line=Yh line:=by
 unfold Qf Yh;cases decide ((zD line:Y)>(600:Y)) with
 | true=>rfl
 | false=>
   simp only[D];have a:=Qnf line line.data.toList 0 0 [] rfl (yA _) (yI _);have b:=Qb3 line line.data.toList 0 rfl;rw[Ij] at a b;rw[show zK ((zD line:Y)+1)=line.size+1 by omega,show zK (zD line:Y)=line.size by omega];rw[show(([]:Q O),(0:Y))=([],((0:H):Y)) from rfl,a,b];cases line.data.toList.all N4 with
   | false=>rfl
   | true=>
     simp only[if_true,Out.on,Nat.sub_self,List.take_zero,zY];rfl
theorem Qw5(a:O):(Yh a).1.length<=24/\∀y,y∈(Yh a).1->y.size<=600:=by
 unfold Yh;cases d:decide ((zD a:Y)>(600:Y)) with
 | true=>exact⟨yA _,λy b=>by cases b⟩
 | false=>
   have f:=uH d;simp only[D];have c:=Qb3 a a.data.toList 0 rfl;rw[Ij] at c;rw[show zK (zD a:Y)=a.size by omega,c];cases a.data.toList.all N4 with
   | false=>exact⟨yA _,λy b=>by cases b⟩
   | true=>
     simp only[if_true,Out.on];cases e:decide (((W6 a).length:Y)>(24:Y)) with
     | true=>exact⟨yA _,λy b=>by cases b⟩
     | false=>
       have:=uH e;simp only[D];refine⟨by omega,λy b=>?_⟩;have:=(WH a).2 y b;omega
theorem S3(a:O):(Qf a).1.length<=24/\∀y,y∈(Qf a).1->y.size<=600:=by rw[Qng];exact Qw5 a
theorem UC{l:Q O}(h:∀y,y∈l->Word y)(c:l.length<=24)(d:(Ya ⟨#[32]⟩ l).size<=600):Yh (Ya ⟨#[32]⟩ l)=(l,X):=by
 unfold Yh;rw[uE (show¬((Ya ⟨#[32]⟩ l).size:Y)>600 by omega)];simp only[D];have a:=Qb3 (Ya ⟨#[32]⟩ l) (Ya ⟨#[32]⟩ l).data.toList 0 rfl;rw[Ij] at a;rw[show zK (zD (Ya ⟨#[32]⟩ l):Y)=(Ya ⟨#[32]⟩ l).size by omega,a]
 have ha:(Ya ⟨#[32]⟩ l).data.toList.all N4=X:=List.all_eq_true.2 λb hb=>by
  have:=AQ h b hb;unfold N4;simp only[zS,uN];exact this
 rw[ha,KP h];simp only[if_true,Out.on];rw[uE (show¬(l.length:Y)>24 by omega)];rfl
open GoE (enc wide)
def Mo(_:H)(a:Hk)(b:Z):Rd (O) Z Z:=(.next (b++ [a.1,(Yi a.2)]))
def Mp(_:H)(a:Z):Z:=a
def J5(f:Xt):O:=(Out.on (X5 Mo Mp f.2.2.2.2 0 [(⟨#[102,105,108,101]⟩:O),(Q6 f.1),(Q6 f.2.1),(bif f.2.2.1 then⟨#[115]⟩ else⟨#[111]⟩),(Q6 f.2.2.2.1)]) (λa=>(Ya ⟨#[32]⟩ a)))
theorem CM(f:Xt)(e:FBd f):ACalls uW 108 [.a [.i f.1,.i f.2.1,.b f.2.2.1,.i f.2.2.2.1,.h f.2.2.2.2]] (.s (J5 f)):=by
 refine en func108 λ_ _ _=>?_
 have s:=e.1;have t:=e.2.1;have u:=e.2.2.1;have v:=e.2.2.2.1;have o:=Qg3 e;refine sn [1,2] [1] p0<|tn [1,2,3] [1] p0<|Qa<|tu [(1,.p 1 0),(2,.s ⟨#[]⟩),(3,.s ⟨#[111]⟩),(8,.b f.2.2.1)] [0] [(1, [.i f.1,.i f.2.1,.b f.2.2.1,.i f.2.2.2.1,.h f.2.2.2.2])] [] p0<|jn [(3,.s (bif f.2.2.1 then⟨#[115]⟩ else⟨#[111]⟩))] [3,8] [] [] f.2.2.1 (λp=>?_) (λp=>?_) ?_
 ·refine ckt p ?_;exact rn [1,2,3] [1] p0<|zA (by rw[p]<;>kernel_rfl)
 ·refine ckf p ?_;exact Qd<|⟨rfl,Qe (by rw[p]<;>kernel_rfl)⟩
 have w:=Vd (n:=f.1) (by omega);have z:=Vd (n:=f.2.1) (by omega);have a1:=Vd (n:=f.2.2.2.1) (by omega);refine sN [1,2,4] [1] (pc 2 (Bn f.1 (by omega)) (pc 5 (Bn f.2.1 (by omega)) (pc 9 (Bn f.2.2.2.1 (by omega)) p0)))<|Qa<|tn [2,4,21,22,23] [] (pl 2 f.2.2.2.2 p0)<|mz [(4,.o 1216 [(⟨#[102,105,108,101]⟩:O),(Q6 f.1),(Q6 f.2.1),(bif f.2.2.1 then⟨#[115]⟩ else⟨#[111]⟩),(Q6 f.2.2.2.1)]),(21,.h f.2.2.2.2),(22,.i (f.2.2.2.2.length:Y)),(23,.i 0)] [1,3] [] [1]<|wT 21 0 .sh f.2.2.2.2 (λa2 a3=>?_)
 refine SW Mo Mp f.2.2.2.2 [(⟨#[102,105,108,101]⟩:O),(Q6 f.1),(Q6 f.2.1),(bif f.2.2.1 then⟨#[115]⟩ else⟨#[111]⟩),(Q6 f.2.2.2.1)] (λd b=> [(4,.o 104 b),(23,.i (d:Y))]) [4,23] (λk=> [(4,.o 106 k)]) [4,21,22,23] (λd b=>(∀y,y∈b->zD y<=10)/\zF b<=5+2*d) (λk=>(∀x,x∈k->zD x<=10)/\zF k<=15) (wsf [(1216,104)]) ⟨(by first | exact o | (simp;done) | decide),(by first | exact o | (simp;done) | decide)⟩ (λd b g U=>?_) (λd b g U=>?_) (λk h=>?_)
 ·have a:=U.2.1;have j:=U.2.2;obtain⟨c,V⟩:=Xn (l:=f.2.2.2.2) (i:=d) g;refine su [(24,.b X)] [] [] [] (pe 0 (zB ((d:Y)<(f.2.2.2.2.length:Y))) p0)<|Qa<|ckT<|Qd<|Qa<|Qn<|sn [2,4,6,21,22,23] [6] (pn 0 V p0) ?_
  have a4:=Qev c.2;refine wT 4 0 (.own X 104) b (λa5 a6=>?_);refine qU [(4,.one (.slc (.own X 2176) 1 ((eL b)++ [[.s c.1], [.s (Yi c.2)]])))] [4,24] [] [] (pc 5 (S0 c.2) (pa b [c.1,(Yi c.2)] p0)) ?_;refine eqn [(4,.o 2176 (b++ [c.1,(Yi c.2)]))] [4] [] [] (by rw[show((eL b)++ [[.s c.1], [.s (Yi c.2)]])=(eL (b++ [c.1,(Yi c.2)])) from NG rfl (rfl)]<;>kernel_rfl) ?_;refine rn [2,4,21,22,23] [] (pw 0 d p0) ?_;exact zJ (b++ [c.1,(Yi c.2)]) (zM (wsf [(2176,104)]) ⟨Qp V rfl U.1,(by first | exact Qnd e V a | (simp;omega)),(by first | exact Qnd e V a | (simp;omega))⟩)
 ·have a:=U.2.1;have j:=U.2.2;exact su [(24,.b W)] [] [] [] (pe 0 (zC ((d:Y)<(f.2.2.2.2.length:Y))) p0)<|Qa<|ckF<|Qv<|zJ b (zM (wsf [(104,106)]) ⟨Xo g rfl U.1,by first | exact a | omega,by first | exact a | omega⟩)
 have q:=h.2.1;have r:=h.2.2;exact sn [2] [] (pc 1 (Av k ⟨#[32]⟩ (by first | omega | exact xQ (Ad (m:=10) (n:=20) rfl (by assumption) (by omega)) (by decide) | (simp only[Vb,Wv,Wg,zE];omega))) p0)<|Qc<|ps [] (Vz h.1 rfl)
def Fu(_:H)(a:Hk)(b:O):Rd (O) (O) (O):=(.next ((((b++(⟨#[32]⟩:O))++a.1)++(⟨#[32]⟩:O))++(Je a.2)))
def Fv(_:H)(a:O):O:=a
def Ue(f:Xt):O:=(Out.on (X5 Fu Fv f.2.2.2.2 0 ((bif f.2.2.1 then(((((⟨#[102,105,108,101,32]⟩:O)++(Q6 f.1))++(⟨#[32]⟩:O))++(Q6 f.2.1))++(⟨#[32,115,32]⟩:O)) else(((((⟨#[102,105,108,101,32]⟩:O)++(Q6 f.1))++(⟨#[32]⟩:O))++(Q6 f.2.1))++(⟨#[32,111,32]⟩:O)))++(Q6 f.2.2.2.1))) (λa=>a))
theorem CN(f:Xt)(k:FBd f):ACalls uW 86 [.a [.i f.1,.i f.2.1,.b f.2.2.1,.i f.2.2.2.1,.h f.2.2.2.2]] (.s (Ue f)):=by
 refine en func86 λ_ _ _=>?_
 have r:=k.1;have s:=k.2.1;have t:=k.2.2.1;have u:=k.2.2.2.1;have b:zD (⟨#[32]⟩:O)=1:=rfl;have g:zD (⟨#[102,105,108,101,32]⟩:O)=5:=rfl;have o:zD (⟨#[32,115,32]⟩:O)=3:=rfl;have v:zD (⟨#[32,111,32]⟩:O)=3:=rfl;refine sn [1,2] [1] p0 ?_;have w:=Vd (n:=f.1) (by omega);have x:=Vd (n:=f.2.1) (by omega);refine tN [1,2,3] [1] (pc 2 (H1 f.1 (by omega)) (px (Jr (n:=(zD (⟨#[102,105,108,101,32]⟩:O)+zD (Q6 f.1))) (by have a:zD (⟨#[102,105,108,101,32]⟩:O)=5:=rfl;unfold uF;first|omega|(simp only[zE];omega) | (cases f.2.2.1<;>simp only[uA,D,zE]<;>omega))) (px (Jr (n:=(zD ((⟨#[102,105,108,101,32]⟩:O)++(Q6 f.1))+zD (⟨#[32]⟩:O))) (by have a:zD (⟨#[102,105,108,101,32]⟩:O)=5:=rfl;have b:zD (⟨#[32]⟩:O)=1:=rfl;unfold uF;first|omega|(simp only[zE];omega) | (cases f.2.2.1<;>simp only[uA,D,zE]<;>omega))) (pc 7 (H1 f.2.1 (by omega)) (px (Jr (n:=(zD (((⟨#[102,105,108,101,32]⟩:O)++(Q6 f.1))++(⟨#[32]⟩:O))+zD (Q6 f.2.1))) (by have a:zD (⟨#[102,105,108,101,32]⟩:O)=5:=rfl;have b:zD (⟨#[32]⟩:O)=1:=rfl;unfold uF;first|omega|(simp only[zE];omega) | (cases f.2.2.1<;>simp only[uA,D,zE]<;>omega))) p0)))))<|Qa<|tu [(1,.p 1 0),(2,.s ⟨#[]⟩),(3,.s ((((⟨#[102,105,108,101,32]⟩:O)++(Q6 f.1))++(⟨#[32]⟩:O))++(Q6 f.2.1))),(15,.b f.2.2.1)] [0] [(1, [.i f.1,.i f.2.1,.b f.2.2.1,.i f.2.2.2.1,.h f.2.2.2.2])] [] p0<|jn [(3,.s (bif f.2.2.1 then(((((⟨#[102,105,108,101,32]⟩:O)++(Q6 f.1))++(⟨#[32]⟩:O))++(Q6 f.2.1))++(⟨#[32,115,32]⟩:O)) else(((((⟨#[102,105,108,101,32]⟩:O)++(Q6 f.1))++(⟨#[32]⟩:O))++(Q6 f.2.1))++(⟨#[32,111,32]⟩:O))))] [3,15] [] [] f.2.2.1 (λm=>?_) (λm=>?_) ?_
 ·refine ckt m ?_;refine rn [1,2,3] [1] (px (Jr (n:=(zD ((((⟨#[102,105,108,101,32]⟩:O)++(Q6 f.1))++(⟨#[32]⟩:O))++(Q6 f.2.1))+zD (⟨#[32,115,32]⟩:O))) (by have a:zD (⟨#[102,105,108,101,32]⟩:O)=5:=rfl;have b:zD (⟨#[32,115,32]⟩:O)=3:=rfl;have g:zD (⟨#[32]⟩:O)=1:=rfl;unfold uF;first|omega|(simp only[zE];omega) | (cases f.2.2.1<;>simp only[uA,D,zE]<;>omega))) p0) ?_;exact zA (by rw[m]<;>kernel_rfl)
 ·refine ckf m ?_;refine rn [1,2,3] [1] (px (Jr (n:=(zD ((((⟨#[102,105,108,101,32]⟩:O)++(Q6 f.1))++(⟨#[32]⟩:O))++(Q6 f.2.1))+zD (⟨#[32,111,32]⟩:O))) (by have a:zD (⟨#[102,105,108,101,32]⟩:O)=5:=rfl;have b:zD (⟨#[32,111,32]⟩:O)=3:=rfl;have g:zD (⟨#[32]⟩:O)=1:=rfl;unfold uF;first|omega|(simp only[zE];omega) | (cases f.2.2.1<;>simp only[uA,D,zE]<;>omega))) p0) ?_;exact zA (by rw[m]<;>kernel_rfl)
 have y:=Vd (n:=f.2.2.2.1) (by omega);refine sn [1,2,3] [1] (pc 3 (H1 f.2.2.2.1 (by omega)) (px (Jr (n:=(zD (bif f.2.2.1 then(((((⟨#[102,105,108,101,32]⟩:O)++(Q6 f.1))++(⟨#[32]⟩:O))++(Q6 f.2.1))++(⟨#[32,115,32]⟩:O)) else(((((⟨#[102,105,108,101,32]⟩:O)++(Q6 f.1))++(⟨#[32]⟩:O))++(Q6 f.2.1))++(⟨#[32,111,32]⟩:O)))+zD (Q6 f.2.2.2.1))) (by have a:zD (⟨#[102,105,108,101,32]⟩:O)=5:=rfl;have b:zD (⟨#[32,111,32]⟩:O)=3:=rfl;have g:zD (⟨#[32,115,32]⟩:O)=3:=rfl;have o:zD (⟨#[32]⟩:O)=1:=rfl;unfold uF;first|omega|(simp only[zE];omega) | (cases f.2.2.1<;>simp only[uA,D,zE]<;>omega))) p0))<|Qa<|tn [1,2,3,4] [1] p0<|mz [(3,.s ((bif f.2.2.1 then(((((⟨#[102,105,108,101,32]⟩:O)++(Q6 f.1))++(⟨#[32]⟩:O))++(Q6 f.2.1))++(⟨#[32,115,32]⟩:O)) else(((((⟨#[102,105,108,101,32]⟩:O)++(Q6 f.1))++(⟨#[32]⟩:O))++(Q6 f.2.1))++(⟨#[32,111,32]⟩:O)))++(Q6 f.2.2.2.1))),(4,.i 0)] [3] [] []<|wB 1 4 .sh f.2.2.2.2 (λz a1=>?_)
 refine LC Fu Fv f.2.2.2.2 ((bif f.2.2.1 then(((((⟨#[102,105,108,101,32]⟩:O)++(Q6 f.1))++(⟨#[32]⟩:O))++(Q6 f.2.1))++(⟨#[32,115,32]⟩:O)) else(((((⟨#[102,105,108,101,32]⟩:O)++(Q6 f.1))++(⟨#[32]⟩:O))++(Q6 f.2.1))++(⟨#[32,111,32]⟩:O)))++(Q6 f.2.2.2.1)) (λd c=> [(3,.s c),(4,.i (d:Y))]) [3,4] (λ_ _=> []) [] (λq=> [(3,.s q)]) [1,3,4] (λ_=> []) [1] (λd c=>zD c<=100+30*d) wf0 (by first|omega|(simp only[zE];omega) | (cases f.2.2.1<;>simp only[uA,D,zE]<;>omega)) (λd c h U=>?_) (λd c h U=>?_) (λq p=>?_)
 ·have j:=U.2;obtain⟨e,V⟩:=Xn (l:=f.2.2.2.2) (i:=d) h;have a2:=Qne k (zL V);refine Qa<|sn [1,2,3,4,29] [1] (pl 3 f.2.2.2.2 (pe 4 (zB ((d:Y)<(f.2.2.2.2.length:Y))) p0))<|ckT<|Qd<|Qa<|Qn ?_
  have a3:=Qsp e.2;refine qN [1,2,3,4] [1] (px (Jr (n:=(zD c+zD (⟨#[32]⟩:O))) (by have a:zD (⟨#[32]⟩:O)=1:=rfl;unfold uF;first|omega|(simp only[zE];omega) | (cases f.2.2.1<;>simp only[uA,D,zE]<;>omega))) (pn 5 V (px (Jr (n:=(zD (c++(⟨#[32]⟩:O))+zD e.1)) (by have a:zD (⟨#[32]⟩:O)=1:=rfl;unfold uF;first|omega|(simp only[zE];omega) | (cases f.2.2.1<;>simp only[uA,D,zE]<;>omega))) (px (Jr (n:=(zD ((c++(⟨#[32]⟩:O))++e.1)+zD (⟨#[32]⟩:O))) (by have a:zD (⟨#[32]⟩:O)=1:=rfl;unfold uF;first|omega|(simp only[zE];omega) | (cases f.2.2.1<;>simp only[uA,D,zE]<;>omega))) (pn 13 V (pc 16 (Ft e.2) (px (Jr (n:=(zD (((c++(⟨#[32]⟩:O))++e.1)++(⟨#[32]⟩:O))+zD (Je e.2))) (by have a:zD (⟨#[32]⟩:O)=1:=rfl;unfold uF;first|omega|(simp only[zE];omega) | (cases f.2.2.1<;>simp only[uA,D,zE]<;>omega))) p0))))))) ?_;refine qu [(3,.s ((((c++(⟨#[32]⟩:O))++e.1)++(⟨#[32]⟩:O))++(Je e.2))),(4,.i ((d+1:H):Y))] [3,4] [] [] (pw 1 d p0) ?_;exact xw ((((c++(⟨#[32]⟩:O))++e.1)++(⟨#[32]⟩:O))++(Je e.2)) ⟨Qp V rfl U.1,(by first|omega|(simp only[zE];omega))⟩
 ·have j:=U.2;exact Qa<|sn [1,2,3,4,29] [1] (pl 3 f.2.2.2.2 (pe 4 (zC ((d:Y)<(f.2.2.2.2.length:Y))) p0))<|ckF<|Qv<|xw _ (Xo h rfl U.1)
 exact sn [2] [] p0<|Qc<|ps [] (Vz p rfl)
end
end Go.Proofs.YtlipbhahenojhaaGreatDoor
