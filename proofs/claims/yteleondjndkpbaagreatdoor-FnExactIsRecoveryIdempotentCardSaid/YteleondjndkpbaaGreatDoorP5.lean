/- Texts of this proof, put together by a program: Ckc, Slb, Ev, Ex, Ey, Eva, Evb, Tw, Clr, Inr, Ins, Df, Eua, Eub, Wsa, Wsb, Np, Wsc, Sw, Wsd, Wst. -/
import Derived.Test.YteleondjndkpbaaGreatDoorP4
import Derived.KernelRfl
import Derived.Laws.Externs
import Derived.Lib.AppendZerosOnto
import Derived.Deep.RegionLaw
import Derived.Lib.Atoi
import Derived.Outline
set_option linter.unusedVariables false
set_option linter.unusedSimpArgs false
namespace Go.Proofs.YteleondjndkpbaaGreatDoor
open _root_ renaming Int → W, List → K, Nat → H, ByteArray → D, Bool → A, Unit → uB, cond_false → uC, cond_true → uE, UInt8 → uF, beq_eq_false_iff_ne → uG, if_pos → uH, of_decide_eq_false → uI, if_neg → uK, of_decide_eq_true → uL, congrArg → uN, decide_eq_false → uO, beq_iff_eq → uQ, decide_eq_true → uR, decide_eq_true_eq → uS, Array → uU, Option → uW, beq_self_eq_true → uX, decide_eq_decide → uY
open _root_.Bool renaming true → I, false → E
open _root_.Go renaming Value → uJ, maxLen → uM, World → uP, Program → uT, TypeId → uV
open _root_.Option renaming some → uA, none → uD
open _root_.And renaming intro → zT
open _root_.Array renaming getD_eq_getD_getElem? → yL, length_toList → xG
open _root_.Bool renaming and_eq_true → zK, not_true → zZ, true_and → yI, or_eq_true → yS, false_eq_true → yT, or_eq_false_iff → xW
open _root_.ByteArray renaming size → zD, size_append → zF, ext → xZ
open _root_.Classical renaming byContradiction → yO
open _root_.Exists renaming intro → zQ
open _root_.Int renaming toNat_natCast → zN, toNat → zO, natCast_add → xD, tmod → xL
open _root_.List renaming length → zE, mem_cons_self → zG, replicate → zH, length_cons → zJ, mem_cons_of_mem → zL, length_set → zM, mem_singleton → zP, mem_append → zR, set → zS, length_map → zU, map_cons → zW, length_nil → zY, cons_append → yA, getD_eq_getElem?_getD → yB, getElem?_eq_some_iff → yC, mem_of_getElem? → yE, getElem?_of_mem → yF, getElem?_cons_zero → yG, nil_append → yH, mem_cons → yJ, getElem?_toArray → yK, length_drop → yN, getElem?_eq_getElem → yQ, mem_filter → yR, filter_append → yU, getElem?_cons_succ → yV, mem_map → yW, length_pos_of_mem → yY, flatten_cons → yZ, take_add_one → xA, filter_cons → xB, length_take → xC, append_nil → xE, drop_succ_cons → xF, length_append → xI, getElem?_drop → xJ, drop_drop → xK, append_assoc → xO, getD → xP, take_of_length_le → xQ, map_nil → xR, foldl_cons → xS, mem_append_right → xT, replicate_succ → xX, length_flatten → xY, map_map → wD, range' → wE
open _root_.Nat renaming zero_le → zV, le_refl → zX, zero_add → yD, mul_le_mul_right → yM, le_trans → yX, beq → xH, eq_of_beq_eq_true → xU, add_mul → xV, add_zero → wC
open _root_.Ne renaming symm → wA
open _root_.Option renaming isSome_iff_exists → yP, isSome_map → xN
open _root_.UInt8 renaming toNat_ofNat' → xM
section
open Go.RowKit
open GoE (enc wide)
def L7 (name:D) (_:H) (a0:Ui) (_:uB):Rd (K4) (uB) (uB):=(bif (a0.1.toList==name.toList) then (.ret a0.2) else (.next ()))
def L8 (_:H) (_:uB):uB:=()
def J7 (f:Yj) (name:D):K4:=(Out.on (X4 (L7 name) L8 f.2.2.2.2 0 ()) (λ_=>(0,0,⟨#[]⟩)))
theorem Nn (f:Yj) (name:D):ACalls Tryz.prog 304 [.a [.i f.1,.i f.2.1,.b f.2.2.1,.i f.2.2.2.1,.h f.2.2.2.2],.s name] (.a [.i ((J7 f name).1),.i ((J7 f name).2.1),.s ((J7 f name).2.2)]):=by
 refine en Qa Tryz.func304 λw0 F0 hG=> ?_
 refine sn Qa [1,2,4] [2,4] p0 <| Qb <| tn Qa [1,4,8,9,10] [4] (pl 2 f.2.2.2.2 p0) <| mz [(4,.p 4 0),(8,.h f.2.2.2.2),(9,.i (f.2.2.2.2.length:W)),(10,.i 0)] [0] [(4, [.i 0,.i 0,.s ⟨#[]⟩])] [] <| wT 8 0 .sh f.2.2.2.2 (λhw1 hl2=> ?_)
 refine R2 (L7 name) L8 f.2.2.2.2 () (λk0 _=> [(10,.i (k0:W))]) [10] (λ_=> []) [1,8,9,10] wf0 (λk0 s0 O U=> ?_) (λk0 s0 O U=> ?_) (λy0 hD0=> ?_)
 ·obtain ⟨a0,V⟩:=Xh (l:=f.2.2.2.2) (i:=k0) O;refine su Qa [(11,.b I)] [] [] [] (pe 0 (zB ((k0:W)<(f.2.2.2.2.length:W))) p0) <| Qb <| ckT <| Qf <| Qb <| Qo <| sn Qa [1,4,6,8,9,10] [4,6] (pn 0 V p0) <| tn Qa [1,4,6,8,9,10,17] [4,6] p0 <| ck (a0.1.toList==name.toList) (λh3=> ?_) (λh3=> ?_)
  ·refine tu Qa [] [11] [(4, [.i a0.2.1,.i a0.2.2.1,.s a0.2.2.2])] [4] p0 <| Qd ?_
   have hr4:(X4 (L7 name) L8 f.2.2.2.2 0 ())= .ret a0.2:=Ka V (Q9 h3 (rfl)) U;exact pz [] (show J7 f name=_ from On hr4) (λz=> .a [.i z.1,.i z.2.1,.s z.2.2])
  refine Qf <| qu Qa [(10,.i ((k0+1:H):W))] [10,11] [] [] (pe 0 (Jl (Qn k0 (by omega))) p0) ?_
  exact xw _ (Qs V (Qj h3 (rfl)) U)
 ·exact sn Qa [1,4,8,9,10,11] [4] (pe 0 (zC ((k0:W)<(f.2.2.2.2.length:W))) p0) <| Qb <| ckF <| Q4 <| xw _ (Xj O (rfl) U)
 exact sn Qa [4] [4] p0 <| Qd <| pz [] (show J7 f name=_ from Vp hD0 (rfl)) (λz=> .a [.i z.1,.i z.2.1,.s z.2.2])
def W5 (f:Yj) (name:D):W×A:=(bif ((J7 f name).1 !=(1:W)) then (0,E) else ((J7 f name).2.1,I))
theorem EJ (f:Yj) (name:D):ACalls Tryz.prog 305 [.a [.i f.1,.i f.2.1,.b f.2.2.1,.i f.2.2.2.1,.h f.2.2.2.2],.s name] (.tup [(E, [.i (((W5 f name)).1)]),(E, [.b (((W5 f name)).2)])]):=by
 refine en Qa Tryz.func305 λw0 F0 hG=> ?_
 refine sn Qa [1,2,4,5] [2] p0 <| tn Qa [4,5,6] [6] (pc 2 (Nn f name) p0) <| Qb <| tu Qa [(4,.i 0),(5,.b E),(6,.p 6 0),(12,.b ((J7 f name).1 !=(1:W)))] [0,1] [(6, [.i ((J7 f name).1),.i ((J7 f name).2.1),.s ((J7 f name).2.2)])] [] p0 <| ck ((J7 f name).1 !=(1:W)) (λh1=> ?_) (λh1=> ?_)
 ·exact su Qa [] [12] [] [] p0 <| Qd <| pz [] (show W5 f name=_ from Q9 h1 (rfl)) (λz=> .tup [(E, [.i z.1]),(E, [.b z.2])])
 exact Qf <| sn Qa [4,5] [] p0 <| Qd <| pz [] (show W5 f name=_ from Qj h1 (rfl)) (λz=> .tup [(E, [.i z.1]),(E, [.b z.2])])
def Vk (name:D) (_:H) (a0:Qp) (_:uB):Rd (K W) (uB) (uB):=(bif (a0.1.toList==name.toList) then (.ret a0.2) else (.next ()))
def W6 (_:H) (_:uB):uB:=()
def Y2 (r:K Qp) (name:D):(K W):=(Out.on (X4 (Vk name) W6 r 0 ()) (λ_=> []))
theorem Eu (r:K Qp) (name:D):ACalls Tryz.prog 147 [.h r,.s name] (.o 0 (Y2 r name)):=by
 refine en Qa Tryz.func147 λw0 F0 hG=> ?_
 refine sn Qa [0,1,4] [] p0 <| Qb <| tn Qa [1,4,7,8,9] [] (pl 1 r p0) <| mz [(4,.e 0),(7,.h r),(8,.i (r.length:W)),(9,.i 0)] [0] [] [] <| wT 7 0 .sh r (λhw1 hl2=> ?_)
 refine R2 (Vk name) W6 r () (λk0 _=> [(9,.i (k0:W))]) [9] (λ_=> []) [1,7,8,9] wf0 (λk0 s0 O U=> ?_) (λk0 s0 O U=> ?_) (λy0 hD0=> ?_)
 ·obtain ⟨a0,V⟩:=Xh (l:=r) (i:=k0) O;refine sn Qa [1,4,7,8,9,10] [] (pe 0 (zB ((k0:W)<(r.length:W))) p0) <| Qb <| ckT <| Qf <| Qb <| Qo <| tn Qa [1,4,6,7,8,9] [6] (pn 0 V p0) <| tu Qa [(6,.p 6 0),(16,.b (a0.1.toList==name.toList))] [] [(6, [.s a0.1,.h a0.2])] [] p0 <| ck (a0.1.toList==name.toList) (λh3=> ?_) (λh3=> ?_)
  ·refine sn Qa [1,4,7,8,9] [] (pc 2 (Ec a0.2) p0) <| Qd ?_
   have hr4:(X4 (Vk name) W6 r 0 ())= .ret a0.2:=Ka V (Q9 h3 (rfl)) U;exact po0 [] (On hr4)
  refine Qf <| rn Qa [1,4,7,8,9] [] (pe 0 (Jl (Qn k0 (by omega))) p0) ?_
  exact xw _ (Qs V (Qj h3 (rfl)) U)
 ·exact sn Qa [1,4,7,8,9,10] [] (pe 0 (zC ((k0:W)<(r.length:W))) p0) <| Qb <| ckF <| Q4 <| xw _ (Xj O (rfl) U)
 refine sn Qa [4] [] p0 <| opn [(E,4,0,I,384000,1)] ?_
 exact Qd <| po0 [] (Vp hD0 (rfl))
def Kp (v:W) (k0:H) (a0:W) (_:uB):Rd (W) (uB) (uB):=(bif (v==a0) then (.ret (k0:W)) else (.next ()))
def Wy (_:H) (_:uB):uB:=()
def Bq (s_:K W) (v:W):W:=(Out.on (X4 (Kp v) Wy s_ 0 ()) (λ_=> -1))
theorem YP (s_:K W) (v:W):ACalls Tryz.prog 238 [.h s_,.i v] (.i (Bq s_ v)):=by
 refine en Qa Tryz.func238 λw0 F0 hG=> ?_
 refine sn Qa [0,1,4] [] p0 <| Qb <| tn Qa [0,1,4,7,8] [] (pl 1 s_ p0) <| mz [(4,.i 0),(7,.i (s_.length:W)),(8,.i 0)] [] [] [] <| wT 0 0 .sh s_ (λhw1 hl2=> ?_)
 refine R2 (Kp v) Wy s_ () (λk0 _=> [(8,.i (k0:W))]) [8] (λ_=> []) [0,1,7,8] wf0 (λk0 s0 O U=> ?_) (λk0 s0 O U=> ?_) (λy0 hD0=> ?_)
 ·obtain ⟨a0,V⟩:=Xh (l:=s_) (i:=k0) O;refine sn Qa [0,1,4,7,8,9] [] (pe 0 (zB ((k0:W)<(s_.length:W))) p0) <| Qb <| ckT <| Qf <| Qb <| Qo <| tn Qa [0,1,4,5,7,8] [] p0 <| tu Qa [(5,.i (k0:W)),(16,.b (v==a0))] [] [] [] (pn 3 V p0) <| ck (v==a0) (λh3=> ?_) (λh3=> ?_)
  ·refine sn Qa [0,1,4,7,8] [] p0 <| Qd ?_
   have hr4:(X4 (Kp v) Wy s_ 0 ())= .ret (k0:W):=Ka V (Q9 h3 (rfl)) U;exact pi [] (On hr4)
  have h3d:=X0 h3;refine Qf <| rn Qa [0,1,4,7,8] [] (pe 0 (Jl (Qn k0 (by omega))) p0) ?_
  exact xw _ (Qs V (Qj h3 (rfl)) U)
 ·exact sn Qa [0,1,4,7,8,9] [] (pe 0 (zC ((k0:W)<(s_.length:W))) p0) <| Qb <| ckF <| Q4 <| xw _ (Xj O (rfl) U)
 exact sn Qa [4] [] p0 <| Qd <| pi [] (Vp hD0 (rfl))
def Kq (s_:K W) (v:W):A:=decide ((Bq s_ v)>=(0:W))
theorem G1 (s_:K W) (v:W):ACalls Tryz.prog 194 [.h s_,.i v] (.b (Kq s_ v)):=by
 refine en Qa Tryz.func194 λw0 F0 hG=> ?_
 exact sn Qa [0,1,4] [] p0 <| tn Qa [4] [] (pc 2 (YP s_ v) p0) <| Qd <| pb [] (show Kq s_ v=decide ((Bq s_ v)>=(0:W)) from rfl)
def Vu (ids:K W) (id:W):A:=(Kq ids id)
theorem N9 (ids:K W) (id:W):ACalls Tryz.prog 306 [.h ids,.i id] (.b (Vu ids id)):=by
 refine en Qa Tryz.func306 λw0 F0 hG=> ?_
 exact sn Qa [0,1,4] [] p0 <| tn Qa [4] [] (pc 2 (G1 ids id) p0) <| Qd <| pb [] (show Vu ids id=(Kq ids id) from rfl)
def Y3 (n_:H) (q:K Q2) (at_:W) (f:Yj) (r:K Qp):A:=match n_ with
 | 0=>default
 | n_+1=>(bif ((nth q at_.toNat).1==(2:W)) then ((J7 f ((nth q at_.toNat).2.2.2.1)).1 !=(0:W)) else (bif ((nth q at_.toNat).1==(3:W)) then (((J7 f ((nth q at_.toNat).2.2.2.1)).1==(nth q at_.toNat).2.2.2.2.1)&&(((J7 f ((nth q at_.toNat).2.2.2.1)).2.1==(nth q at_.toNat).2.2.2.2.2.1)&&((((J7 f ((nth q at_.toNat).2.2.2.1)).2.2).toList==((nth q at_.toNat).2.2.2.2.2.2).toList)&&I))) else (bif ((nth q at_.toNat).1==(4:W)) then (((W5 f ((nth q at_.toNat).2.2.2.1))).2&&decide (((W5 f ((nth q at_.toNat).2.2.2.1))).1<(nth q at_.toNat).2.2.2.2.2.1)) else (bif ((nth q at_.toNat).1==(5:W)) then (!(Y3 n_ q ((nth q at_.toNat).2.1) f r)) else (bif ((nth q at_.toNat).1==(6:W)) then ((Y3 n_ q ((nth q at_.toNat).2.1) f r)&&(Y3 n_ q ((nth q at_.toNat).2.2.1) f r)) else (bif ((nth q at_.toNat).1==(7:W)) then ((Y3 n_ q ((nth q at_.toNat).2.1) f r)|| (Y3 n_ q ((nth q at_.toNat).2.2.1) f r)) else (bif ((nth q at_.toNat).1==(8:W)) then (Vu (Y2 r ((nth q at_.toNat).2.2.2.1)) f.1) else (bif ((nth q at_.toNat).1==(9:W)) then ((f.2.2.2.1 !=(0:W))&&(Vu (Y2 r ((nth q at_.toNat).2.2.2.1)) f.2.2.2.1)) else I))))))))
theorem UF:∀(n_:H) (q:K Q2) (at_:W) (f:Yj) (r:K Qp) (hv:Qk q=I) (ha:0<=at_) (hb:at_<(q.length:W)) (hn:at_<((n_:H):W)),ACalls Tryz.prog 270 [.h q,.i at_,.a [.i f.1,.i f.2.1,.b f.2.2.1,.i f.2.2.2.1,.h f.2.2.2.2],.h r] (.b (Y3 n_ q at_ f r)):=by
 intro n_
 induction n_ with
 | zero=>intro q at_ f r hv ha hb hn;exact (by omega:False).elim
 | succ n_ ih=>
  intro q at_ f r hv ha hb hn
  refine en Qa Tryz.func270 λw0 F0 hG=> ?_
  refine sn Qa [0,1,3,6,8] [6] p0 <| wT 0 0 .sh q (λhw2 hl3=> ?_)
  have hx1:=ng q at_.toNat;refine tn Qa [0,3,6,8,9] [6,9] (pg 2 at_ hx1 p0) <| Qb <| tu Qa [(6,.p 6 0),(8,.b E),(9,.p 9 0),(17,.i ((nth q at_.toNat).1))] [1,2] [(6, [.i f.1,.i f.2.1,.b f.2.2.1,.i f.2.2.2.1,.h f.2.2.2.2]),(9, [.i ((nth q at_.toNat).1),.i ((nth q at_.toNat).2.1),.i ((nth q at_.toNat).2.2.1),.s ((nth q at_.toNat).2.2.2.1),.i ((nth q at_.toNat).2.2.2.2.1),.i ((nth q at_.toNat).2.2.2.2.2.1),.s ((nth q at_.toNat).2.2.2.2.2.2)])] [] p0 <| Qo <| sn Qa [0,3,6,8,9,17,18] [6,9] p0 <| ck ((nth q at_.toNat).1==(2:W)) (λh4=> ?_) (λh4=> ?_)
  ·exact tn Qa [8] [] (pc 3 (Nn f ((nth q at_.toNat).2.2.2.1)) p0) <| Qd <| pb [] (Q9 h4 (rfl))
  have h4d:=X0 h4;refine tn Qa [0,3,6,8,9,17,26] [6,9] p0 <| ck ((nth q at_.toNat).1==(3:W)) (λh5=> ?_) (λh5=> ?_)
  ·exact tU Qa Yo [(8,.b (((J7 f ((nth q at_.toNat).2.2.2.1)).1==(nth q at_.toNat).2.2.2.2.1)&&(((J7 f ((nth q at_.toNat).2.2.2.1)).2.1==(nth q at_.toNat).2.2.2.2.2.1)&&((((J7 f ((nth q at_.toNat).2.2.2.1)).2.2).toList==((nth q at_.toNat).2.2.2.2.2.2).toList)&&I))))] [0,3,6,8,9,17] [] [6,9] (pc 3 (Nn f ((nth q at_.toNat).2.2.2.1)) p0) <| Qd <| pb [] (Qj h4 (Q9 h5 (rfl)))
  have h5d:=X0 h5;refine tu Qa [(35,.b ((nth q at_.toNat).1==(4:W)))] [] [] [] p0 <| ck ((nth q at_.toNat).1==(4:W)) (λh6=> ?_) (λh6=> ?_)
  ·refine sn Qa [8,9,10,11] [9] (pc 3 (EJ f ((nth q at_.toNat).2.2.2.1)) p0) <| Qb <| mz [(10,.i (((W5 f ((nth q at_.toNat).2.2.2.1))).1)),(11,.b (((W5 f ((nth q at_.toNat).2.2.2.1))).2))] [0,3,6,17,35] [] [6] <| jn [(8,.b (((W5 f ((nth q at_.toNat).2.2.2.1))).2&&decide (((W5 f ((nth q at_.toNat).2.2.2.1))).1<(nth q at_.toNat).2.2.2.2.2.1)))] [8,9,10,11] [] [9] (((W5 f ((nth q at_.toNat).2.2.2.1))).2) (λh7=> ?_) (λh7=> ?_) ?_
   ·refine rn Qa [8] [] (pt 0 h7 p0) ?_;exact zA (by rw[h7]<;>kernel_rfl)
   ·refine rn Qa [8] [] (pf 0 h7 p0) ?_;exact zA (by rw[h7]<;>kernel_rfl)
   exact Qd <| pb [] (Qj h4 (Qj h5 (Q9 h6 (rfl))))
  have h6d:=X0 h6;refine sn Qa [0,3,6,8,9,17,52] [6,9] p0 <| ck ((nth q at_.toNat).1==(5:W)) (λh8=> ?_) (λh8=> ?_)
  ·have h8d:=eq_of_beq h8;exact tn Qa [8] [] (pc 5 (ih q ((nth q at_.toNat).2.1) f r hv (by have hz:=GG hv ha hb h8;omega) (by have hz:=GG hv ha hb h8;omega) (by have hz:=GG hv ha hb h8;omega)) p0) <| Qd <| pb [] (Qj h4 (Qj h5 (Qj h6 (Q9 h8 (rfl)))))
  have h8d:=X0 h8;refine tn Qa [0,3,6,8,9,17,61] [6,9] p0 <| ck ((nth q at_.toNat).1==(6:W)) (λh9=> ?_) (λh9=> ?_)
  ·have h9d:=eq_of_beq h9;refine Qb <| mz [(61,.b ((nth q at_.toNat).1==(6:W)))] [35] [] [] <| jn [(8,.b ((Y3 n_ q ((nth q at_.toNat).2.1) f r)&&(Y3 n_ q ((nth q at_.toNat).2.2.1) f r)))] [0,3,6,8,9,17,61] [] [6,9] (Y3 n_ q ((nth q at_.toNat).2.1) f r) (λh10=> ?_) (λh10=> ?_) ?_
   ·refine rn Qa [8] [] (pc 5 (cb h10 (ih q ((nth q at_.toNat).2.1) f r hv (by have hz:=KG hv ha hb h9;omega) (by have hz:=KG hv ha hb h9;omega) (by have hz:=KG hv ha hb h9;omega))) (pc 12 (ih q ((nth q at_.toNat).2.2.1) f r hv (by have hz:=GH hv ha hb h9;omega) (by have hz:=GH hv ha hb h9;omega) (by have hz:=GH hv ha hb h9;omega)) p0)) ?_;exact zA (by rw[h10]<;>kernel_rfl)
   ·refine rn Qa [8] [] (pc 5 (cb h10 (ih q ((nth q at_.toNat).2.1) f r hv (by have hz:=KG hv ha hb h9;omega) (by have hz:=KG hv ha hb h9;omega) (by have hz:=KG hv ha hb h9;omega))) p0) ?_;exact zA (by rw[h10]<;>kernel_rfl)
   exact Qd <| pb [] (Qj h4 (Qj h5 (Qj h6 (Qj h8 (Q9 h9 (rfl))))))
  have h9d:=X0 h9;refine tu Qa [(77,.b ((nth q at_.toNat).1==(7:W)))] [35] [] [] p0 <| ck ((nth q at_.toNat).1==(7:W)) (λh11=> ?_) (λh11=> ?_)
  ·have h11d:=eq_of_beq h11;refine Qb <| jn [(8,.b ((Y3 n_ q ((nth q at_.toNat).2.1) f r)|| (Y3 n_ q ((nth q at_.toNat).2.2.1) f r)))] [0,3,6,8,9,17,77] [] [6,9] (Y3 n_ q ((nth q at_.toNat).2.1) f r) (λh12=> ?_) (λh12=> ?_) ?_
   ·refine rn Qa [8] [] (pc 5 (cb h12 (ih q ((nth q at_.toNat).2.1) f r hv (by have hz:=WN hv ha hb h11;omega) (by have hz:=WN hv ha hb h11;omega) (by have hz:=WN hv ha hb h11;omega))) p0) ?_;exact zA (by rw[h12]<;>kernel_rfl)
   ·refine rn Qa [8] [] (pc 5 (cb h12 (ih q ((nth q at_.toNat).2.1) f r hv (by have hz:=WN hv ha hb h11;omega) (by have hz:=WN hv ha hb h11;omega) (by have hz:=WN hv ha hb h11;omega))) (pc 12 (ih q ((nth q at_.toNat).2.2.1) f r hv (by have hz:=IS hv ha hb h11;omega) (by have hz:=IS hv ha hb h11;omega) (by have hz:=IS hv ha hb h11;omega)) p0)) ?_;exact zA (by rw[h12]<;>kernel_rfl)
   exact Qd <| pb [] (Qj h4 (Qj h5 (Qj h6 (Qj h8 (Qj h9 (Q9 h11 (rfl)))))))
  refine sn Qa [3,6,8,9,17,93] [6,9] p0 <| ck ((nth q at_.toNat).1==(8:W)) (λh13=> ?_) (λh13=> ?_)
  ·exact tN Qa Yo [8] [] (pc 3 (Eu r ((nth q at_.toNat).2.2.2.1)) (pc 6 (N9 (Y2 r ((nth q at_.toNat).2.2.2.1)) f.1) p0)) <| Qd <| pb [] (Qj h4 (Qj h5 (Qj h6 (Qj h8 (Qj h9 (Qj h11 (Q9 h13 (rfl))))))))
  refine tn Qa [3,6,8,9,102] [6,9] p0 <| ck ((nth q at_.toNat).1==(9:W)) (λh14=> ?_) (λh14=> ?_)
  ·refine Qb <| mz [(102,.b ((nth q at_.toNat).1==(9:W)))] [0,17,77] [] [] <| jn [(8,.b ((f.2.2.2.1 !=(0:W))&&(Vu (Y2 r ((nth q at_.toNat).2.2.2.1)) f.2.2.2.1)))] [3,6,8,9,102] [] [6,9] (f.2.2.2.1 !=(0:W)) (λh15=> ?_) (λh15=> ?_) ?_
   ·refine rN Qa Yo [8] [] (pt 2 h15 (pc 7 (Eu r ((nth q at_.toNat).2.2.2.1)) (pc 10 (N9 (Y2 r ((nth q at_.toNat).2.2.2.1)) f.2.2.2.1) p0))) ?_;exact zA (by rw[h15]<;>kernel_rfl)
   ·refine rN Qa Yo [8] [] (pf 2 h15 p0) ?_;exact zA (by rw[h15]<;>kernel_rfl)
   exact Qd <| pb [] (Qj h4 (Qj h5 (Qj h6 (Qj h8 (Qj h9 (Qj h11 (Qj h13 (Q9 h14 (rfl)))))))))
  exact Qf <| tu Qa [(8,.b I)] [0,3,6,8,9,17,77] [] [6,9] p0 <| Qd <| pb [] (Qj h4 (Qj h5 (Qj h6 (Qj h8 (Qj h9 (Qj h11 (Qj h13 (Qj h14 (rfl)))))))))
def W7 (q:K Q2) (f:Yj) (r:K Qp):A:=((Qk q)&&(Y3 (zE q) q ((q.length:W)-1) f r))
theorem EK (q:K Q2) (f:Yj) (r:K Qp):ACalls Tryz.prog 236 [.h q,.a [.i f.1,.i f.2.1,.b f.2.2.1,.i f.2.2.2.1,.h f.2.2.2.2],.h r] (.b (W7 q f r)):=by
 refine en Qa Tryz.func236 λw0 F0 hG=> ?_
 refine sn Qa [0,2,4,6] [4] p0 <| Qb <| mz [(4,.p 4 0),(6,.b E)] [1] [(4, [.i f.1,.i f.2.1,.b f.2.2.1,.i f.2.2.2.1,.h f.2.2.2.2])] [] <| jn [(6,.b ((Qk q)&&(Y3 (zE q) q ((q.length:W)-1) f r)))] [0,2,4,6] [] [4] (Qk q) (λh1=> ?_) (λh1=> ?_) ?_
 ·refine wT 0 0 .sh q (λhw2 hl3=> ?_);refine rn Qa [6] [] (pc 1 (cb h1 (Vv q)) (pl 5 q (pe 6 (Jl (IntWalk.i64_in ((q.length:W)-1) (by omega))) (pc 9 (UF (zE q) q ((q.length:W)-1) f r h1 (by have:=Gf h1;omega) (by omega) (by omega)) p0)))) ?_;exact zA (by rw[h1]<;>kernel_rfl)
 ·refine rn Qa [6] [] (pc 1 (cb h1 (Vv q)) p0) ?_;exact zA (by rw[h1]<;>kernel_rfl)
 exact Qd <| pb [] (show W7 q f r=((Qk q)&&(Y3 (zE q) q ((q.length:W)-1) f r)) from rfl)
def Hl (q:K Q2) (r:K Qp) (_:H) (a0:Yj) (s0:K W):Rd (K W) (K W) (K W):=(bif (W7 q a0 r) then (.next (s0++ [a0.1])) else (.next s0))
def Ev (_:H) (s0:K W):(K W):=s0
def Ze (s_:Yk) (q:K Q2) (r:K Qp):(K W):=(Out.on (X4 (Hl q r) Ev s_.2.1 0 []) (λy0=>y0))
theorem YQ (s_:Yk) (q:K Q2) (r:K Qp):ACalls Tryz.prog 190 [.a [.h s_.1,.h s_.2.1,.i s_.2.2],.h q,.h r] (.o 0 (Ze s_ q r)):=by
 refine en Qa Tryz.func190 λw0 F0 hG=> ?_
 refine sn Qa [1,2,3,6] [3] p0 <| tn Qa [1,2,3,6,7] [3] p0 <| Qb <| tu Qa [(6,.e 0),(7,.one (.slc (.own I 640) 1 [])),(12,.h s_.2.1),(13,.i (s_.2.1.length:W)),(14,.i 0)] [0] [] [] (pl 2 s_.2.1 p0) <| wT 12 0 .sh s_.2.1 (λhw1 hl2=> ?_)
 refine AB (Hl q r) Ev s_.2.1 [] (λk0 s0=> [(7,.o 147203 s0),(14,.i (k0:W))]) [7,14] (λy0=> [(7,.o 147353 y0)]) [1,2,7,12,13,14] (λk0 s0=>zE s0<=k0) (Xg [(640,147203)] (by kernel_rfl)) (by simp) (λk0 s0 O U=> ?_) (λk0 s0 O U=> ?_) (λy0 hD0=> ?_)
 ·have hA0_0:=U.2;obtain ⟨a0,V⟩:=Xh (l:=s_.2.1) (i:=k0) O;refine su Qa [(15,.b I)] [] [] [] (pe 0 (zB ((k0:W)<(s_.2.1.length:W))) p0) <| Qb <| ckT <| Qf <| Qb <| Qo <| sn Qa [1,2,6,7,9,12,13,14] [9] (pn 0 V p0) <| tn Qa [1,2,6,7,9,12,13,14,21] [9] (pc 3 (EK q a0 r) p0) <| ck (W7 q a0 r) (λh3=> ?_) (λh3=> ?_)
  ·refine wT 7 0 (.own I 147203) s0 (λhw4 hl5=> ?_);refine qu Qa [(7,.one (.slc (.own I 1664) 1 ((eL s0)++ [[.i a0.1]])))] [7,15] [] [] (pa s0 [a0.1] p0) ?_;refine eqn [(7,.o 1664 (s0++ [a0.1]))] [7] [] [] (by rw[show ((eL s0)++ [[.i a0.1]])=(eL (s0++ [a0.1])) from Jc (rfl) (rfl)];first | done | kernel_rfl) ?_;refine rn Qa [1,2,6,7,12,13,14] [] (pe 0 (Jl (Qn k0 (by omega))) p0) ?_;exact zQ (s0++ [a0.1]) (zT (Xg [(1664,147203)] (by kernel_rfl)) ⟨Qs V (Q9 h3 (rfl)) U.1,by first|omega|(simp;omega) | simp⟩)
  refine Qf <| qu Qa [(14,.i ((k0+1:H):W))] [14,15] [] [] (pe 0 (Jl (Qn k0 (by omega))) p0) ?_
  exact xw s0 ⟨Qs V (Qj h3 (rfl)) U.1,by first|omega|(simp;omega) | simp⟩
 ·have hA0_0:=U.2;exact su Qa [(15,.b E)] [] [] [] (pe 0 (zC ((k0:W)<(s_.2.1.length:W))) p0) <| Qb <| ckF <| Q4 <| zQ _ (zT (Xg [(147203,147353)] (by kernel_rfl)) (Xj O (rfl) U.1))
 exact sn Qa [6] [] p0 <| Qd <| po0 [] (Vp hD0 (rfl))
def L9 (name:D) (_:H) (a0:Ui) (_:uB):Rd (K4) (uB) (uB):=(bif (a0.1.toList==name.toList) then (.ret a0.2) else (.next ()))
def Ma (_:H) (_:uB):uB:=()
def Kc (f:Yj) (name:D):K4:=(Out.on (X4 (L9 name) Ma f.2.2.2.2 0 ()) (λ_=>(0,0,⟨#[]⟩)))
theorem EL (f:Yj) (name:D):ACalls Tryz.prog 286 [.a [.i f.1,.i f.2.1,.b f.2.2.1,.i f.2.2.2.1,.h f.2.2.2.2],.s name] (.a [.i ((Kc f name).1),.i ((Kc f name).2.1),.s ((Kc f name).2.2)]):=by
 refine en Qa Tryz.func286 λw0 F0 hG=> ?_
 refine sn Qa [1,2,4] [2,4] p0 <| Qb <| tn Qa [1,2,4,5] [2,4] p0 <| mz [(2,.p 2 0),(4,.p 4 0),(5,.i 0)] [0] [(2, [.i f.1,.i f.2.1,.b f.2.2.1,.i f.2.2.2.1,.h f.2.2.2.2]),(4, [.i 0,.i 0,.s ⟨#[]⟩])] [] <| wB 2 4 .sh f.2.2.2.2 (λhw1 hl2=> ?_)
 refine Qoj (L9 name) Ma f.2.2.2.2 () (λk0 _=> [(5,.i (k0:W))]) [5] (λ_ _=> []) [] (λ_=> []) [1,2,5] (λ_=> []) [2] wf0 (λk0 s0 O U=> ?_) (λk0 s0 O U=> ?_) (λy0 hD0=> ?_)
 ·obtain ⟨a0,V⟩:=Xh (l:=f.2.2.2.2) (i:=k0) O;refine Qb <| sn Qa [1,2,4,5,10] [2,4] (pl 3 f.2.2.2.2 (pe 4 (zB ((k0:W)<(f.2.2.2.2.length:W))) p0)) <| ckT <| Qf <| Qb <| Qo <| tn Qa [1,2,4,5,20] [2,4] (pn 3 V p0) <| ck (a0.1.toList==name.toList) (λh3=> ?_) (λh3=> ?_)
  ·refine tu Qa [] [] [(4, [.i a0.2.1,.i a0.2.2.1,.s a0.2.2.2])] [4] (pn 3 V p0) <| Qd ?_
   have hr4:(X4 (L9 name) Ma f.2.2.2.2 0 ())= .ret a0.2:=Ka V (Q9 h3 (rfl)) U;exact pz [] (show Kc f name=_ from On hr4) (λz=> .a [.i z.1,.i z.2.1,.s z.2.2])
  refine Qf <| qu Qa [(5,.i ((k0+1:H):W))] [5] [] [] (pe 1 (Jl (Qn k0 (by omega))) p0) ?_
  exact xw _ (Qs V (Qj h3 (rfl)) U)
 ·exact Qb <| sn Qa [1,2,4,5,10] [2,4] (pl 3 f.2.2.2.2 (pe 4 (zC ((k0:W)<(f.2.2.2.2.length:W))) p0)) <| ckF <| Q4 <| xw _ (Xj O (rfl) U)
 exact sn Qa [4] [4] p0 <| Qd <| pz [] (show Kc f name=_ from Vp hD0 (rfl)) (λz=> .a [.i z.1,.i z.2.1,.s z.2.2])
def Gv (name:D) (_:H) (a0:Qp) (_:uB):Rd (K W) (uB) (uB):=(bif (a0.1.toList==name.toList) then (.ret a0.2) else (.next ()))
def Gw (_:H) (_:uB):uB:=()
def Wk (a_:K Qp) (name:D):(K W):=(Out.on (X4 (Gv name) Gw a_ 0 ()) (λ_=> []))
theorem I2 (a_:K Qp) (name:D):ACalls Tryz.prog 126 [.h a_,.s name] (.o 0 (Wk a_ name)):=by
 refine en Qa Tryz.func126 λw0 F0 hG=> ?_
 refine sn Qa [0,1,4] [] p0 <| Qb <| tn Qa [0,1,4,5] [] p0 <| mz [(4,.e 0),(5,.i 0)] [] [] [] <| wT 0 0 .sh a_ (λhw1 hl2=> ?_)
 refine R2 (Gv name) Gw a_ () (λk0 _=> [(5,.i (k0:W))]) [5] (λ_=> []) [0,1,5] wf0 (λk0 s0 O U=> ?_) (λk0 s0 O U=> ?_) (λy0 hD0=> ?_)
 ·obtain ⟨a0,V⟩:=Xh (l:=a_) (i:=k0) O;refine Qb <| sn Qa [0,1,4,5,9] [] (pl 2 a_ (pe 3 (zB ((k0:W)<(a_.length:W))) p0)) <| ckT <| Qf <| Qb <| Qo <| tn Qa [0,1,4,5,18] [] (pn 2 V p0) <| ck (a0.1.toList==name.toList) (λh3=> ?_) (λh3=> ?_)
  ·have hl4:zE a0.2<=1073741824:=Dc (Ia (Rf V (hw1)));refine tu Qa [(4,.o 1600 a0.2)] [4] [] [] (pn 3 V (po 6 (.flat) (px (Ct (n:=(([]:K (K PV)).length+((eL a0.2):K (K PV)).length)) (Eb (rfl) (Yr a0.2) (by first|omega|(simp only[zJ,zY];omega) | (simp;omega) | simp))) (px (Hx (Uh a0.2)) p0)))) <| Qd ?_
   have hr5:(X4 (Gv name) Gw a_ 0 ())= .ret a0.2:=Ka V (Q9 h3 (rfl)) U;exact po0 [] (On hr5)
  refine Qf <| qu Qa [(5,.i ((k0+1:H):W))] [5] [] [] (pe 1 (Jl (Qn k0 (by omega))) p0) ?_
  exact xw _ (Qs V (Qj h3 (rfl)) U)
 ·exact Qb <| sn Qa [0,1,4,5,9] [] (pl 2 a_ (pe 3 (zC ((k0:W)<(a_.length:W))) p0)) <| ckF <| Q4 <| xw _ (Xj O (rfl) U)
 exact sn Qa [4] [] p0 <| Qd <| po0 [] (Vp hD0 (rfl))
def Us (id:W) (_:H) (a0:W) (_:uB):Rd (A) (uB) (uB):=(bif (a0==id) then (.ret I) else (.next ()))
def Cj (_:H) (_:uB):uB:=()
def J9 (ids:K W) (id:W):A:=(Out.on (X4 (Us id) Cj ids 0 ()) (λ_=>E))
theorem Aw (ids:K W) (id:W):ACalls Tryz.prog 123 [.h ids,.i id] (.b (J9 ids id)):=by
 refine en Qa Tryz.func123 λw0 F0 hG=> ?_
 refine sn Qa [0,1,4] [] p0 <| Qb <| tn Qa [0,1,4,5] [] p0 <| mz [(4,.b E),(5,.i 0)] [] [] [] <| wT 0 0 .sh ids (λhw1 hl2=> ?_)
 refine R2 (Us id) Cj ids () (λk0 _=> [(5,.i (k0:W))]) [5] (λ_=> []) [0,1,5] wf0 (λk0 s0 O U=> ?_) (λk0 s0 O U=> ?_) (λy0 hD0=> ?_)
 ·obtain ⟨a0,V⟩:=Xh (l:=ids) (i:=k0) O;refine Qb <| sn Qa [0,1,4,5,9] [] (pl 2 ids (pe 3 (zB ((k0:W)<(ids.length:W))) p0)) <| ckT <| Qf <| Qb <| Qo <| tn Qa [0,1,4,5,17] [] (pn 2 V p0) <| ck (a0==id) (λh3=> ?_) (λh3=> ?_)
  ·refine tu Qa [(4,.b I)] [4] [] [] p0 <| Qd ?_
   have hr4:(X4 (Us id) Cj ids 0 ())= .ret I:=Ka V (Q9 h3 (rfl)) U;exact pb [] (On hr4)
  have h3d:=X0 h3;refine Qf <| qu Qa [(5,.i ((k0+1:H):W))] [5] [] [] (pe 1 (Jl (Qn k0 (by omega))) p0) ?_
  exact xw _ (Qs V (Qj h3 (rfl)) U)
 ·exact Qb <| sn Qa [0,1,4,5,9] [] (pl 2 ids (pe 3 (zC ((k0:W)<(ids.length:W))) p0)) <| ckF <| Q4 <| xw _ (Xj O (rfl) U)
 exact sn Qa [4] [] p0 <| Qd <| pb [] (Vp hD0 (rfl))
def Kx (n_:H) (q:K Q2) (at_:W) (f:Yj) (a_:K Qp):A:=match n_ with
 | 0=>default
 | n_+1=>(bif ((nth q at_.toNat).1==(1:W)) then I else (bif ((nth q at_.toNat).1==(2:W)) then ((Kc f ((nth q at_.toNat).2.2.2.1)).1 !=(0:W)) else (bif ((nth q at_.toNat).1==(3:W)) then (((Kc f ((nth q at_.toNat).2.2.2.1)).1==(nth q at_.toNat).2.2.2.2.1)&&(((Kc f ((nth q at_.toNat).2.2.2.1)).2.1==(nth q at_.toNat).2.2.2.2.2.1)&&((((Kc f ((nth q at_.toNat).2.2.2.1)).2.2).toList==((nth q at_.toNat).2.2.2.2.2.2).toList)&&I))) else (bif ((nth q at_.toNat).1==(4:W)) then (((Kc f ((nth q at_.toNat).2.2.2.1)).1==(1:W))&&decide ((Kc f ((nth q at_.toNat).2.2.2.1)).2.1<(nth q at_.toNat).2.2.2.2.2.1)) else (bif ((nth q at_.toNat).1==(5:W)) then (!(Kx n_ q ((nth q at_.toNat).2.1) f a_)) else (bif ((nth q at_.toNat).1==(6:W)) then ((Kx n_ q ((nth q at_.toNat).2.1) f a_)&&(Kx n_ q ((nth q at_.toNat).2.2.1) f a_)) else (bif ((nth q at_.toNat).1==(7:W)) then ((Kx n_ q ((nth q at_.toNat).2.1) f a_)|| (Kx n_ q ((nth q at_.toNat).2.2.1) f a_)) else (bif ((nth q at_.toNat).1==(8:W)) then (J9 (Wk a_ ((nth q at_.toNat).2.2.2.1)) f.1) else ((f.2.2.2.1 !=(0:W))&&(J9 (Wk a_ ((nth q at_.toNat).2.2.2.1)) f.2.2.2.1))))))))))
theorem EM:∀(n_:H) (q:K Q2) (at_:W) (f:Yj) (a_:K Qp) (hv:Qk q=I) (ha:0<=at_) (hb:at_<(q.length:W)) (hn:at_<((n_:H):W)),ACalls Tryz.prog 259 [.h q,.i at_,.a [.i f.1,.i f.2.1,.b f.2.2.1,.i f.2.2.2.1,.h f.2.2.2.2],.h a_] (.b (Kx n_ q at_ f a_)):=by
 intro n_
 induction n_ with
 | zero=>intro q at_ f a_ hv ha hb hn;exact (by omega:False).elim
 | succ n_ ih=>
  intro q at_ f a_ hv ha hb hn
  refine en Qa Tryz.func259 λw0 F0 hG=> ?_
  refine sn Qa [0,1,3,6,8] [6] p0 <| wT 0 0 .sh q (λhw2 hl3=> ?_)
  have hx1:=ng q at_.toNat;refine tn Qa [0,3,6,8,9] [6,9] (pg 2 at_ hx1 p0) <| tu Qa [(6,.p 6 0),(8,.b E),(9,.p 9 0),(10,.p 10 0)] [1,2] [(6, [.i f.1,.i f.2.1,.b f.2.2.1,.i f.2.2.2.1,.h f.2.2.2.2]),(9, [.i ((nth q at_.toNat).1),.i ((nth q at_.toNat).2.1),.i ((nth q at_.toNat).2.2.1),.s ((nth q at_.toNat).2.2.2.1),.i ((nth q at_.toNat).2.2.2.2.1),.i ((nth q at_.toNat).2.2.2.2.2.1),.s ((nth q at_.toNat).2.2.2.2.2.2)]),(10, [.i ((Kc f ((nth q at_.toNat).2.2.2.1)).1),.i ((Kc f ((nth q at_.toNat).2.2.2.1)).2.1),.s ((Kc f ((nth q at_.toNat).2.2.2.1)).2.2)])] [] (pc 3 (EL f ((nth q at_.toNat).2.2.2.1)) p0) <| Qb <| sn Qa [0,3,6,8,9,10,20] [6,9,10] p0 <| Qo <| tn Qa [0,3,6,8,9,10,20,21] [6,9,10] p0 <| ck ((nth q at_.toNat).1==(1:W)) (λh4=> ?_) (λh4=> ?_)
  ·exact tu Qa [(8,.b I)] [0,8,10] [] [10] p0 <| Qd <| pb [] (Q9 h4 (rfl))
  have h4d:=X0 h4;refine tu Qa [(20,.i ((nth q at_.toNat).1)),(23,.b ((nth q at_.toNat).1==(2:W)))] [] [] [] p0 <| ck ((nth q at_.toNat).1==(2:W)) (λh5=> ?_) (λh5=> ?_)
  ·exact sn Qa [3,6,8,9] [6,9] p0 <| Qd <| pb [] (Qj h4 (Q9 h5 (rfl)))
  have h5d:=X0 h5;refine sn Qa [0,3,6,8,9,10,20,28] [6,9,10] p0 <| ck ((nth q at_.toNat).1==(3:W)) (λh6=> ?_) (λh6=> ?_)
  ·exact tn Qa [3,6,8,9] [6,9] p0 <| Qd <| pb [] (Qj h4 (Qj h5 (Q9 h6 (rfl))))
  have h6d:=X0 h6;refine tn Qa [0,3,6,8,9,10,20,34] [6,9,10] p0 <| ck ((nth q at_.toNat).1==(4:W)) (λh7=> ?_) (λh7=> ?_)
  ·refine Qb <| mz [(34,.b ((nth q at_.toNat).1==(4:W)))] [23] [] [] <| jn [(8,.b (((Kc f ((nth q at_.toNat).2.2.2.1)).1==(1:W))&&decide ((Kc f ((nth q at_.toNat).2.2.2.1)).2.1<(nth q at_.toNat).2.2.2.2.2.1)))] [0,8,10,20,34] [] [10] ((Kc f ((nth q at_.toNat).2.2.2.1)).1==(1:W)) (λh8=> ?_) (λh8=> ?_) ?_
   ·refine rn Qa [3,6,8,9] [6,9] (pt 2 h8 p0) ?_;exact zA (by rw[h8]<;>kernel_rfl)
   ·refine rn Qa [3,6,8,9] [6,9] (pf 2 h8 p0) ?_;exact zA (by rw[h8]<;>kernel_rfl)
   exact Qd <| pb [] (Qj h4 (Qj h5 (Qj h6 (Q9 h7 (rfl)))))
  have h7d:=X0 h7;refine tu Qa [(47,.b ((nth q at_.toNat).1==(5:W)))] [10,23] [] [10] p0 <| ck ((nth q at_.toNat).1==(5:W)) (λh9=> ?_) (λh9=> ?_)
  ·have h9d:=eq_of_beq h9;exact sn Qa [3,6,8,9] [6,9] (pc 5 (ih q ((nth q at_.toNat).2.1) f a_ hv (by have hz:=GG hv ha hb h9;omega) (by have hz:=GG hv ha hb h9;omega) (by have hz:=GG hv ha hb h9;omega)) p0) <| Qd <| pb [] (Qj h4 (Qj h5 (Qj h6 (Qj h7 (Q9 h9 (rfl))))))
  have h9d:=X0 h9;refine sn Qa [0,3,6,8,9,20,56] [6,9] p0 <| ck ((nth q at_.toNat).1==(6:W)) (λh10=> ?_) (λh10=> ?_)
  ·have h10d:=eq_of_beq h10;refine Qb <| mz [(56,.b ((nth q at_.toNat).1==(6:W)))] [47] [] [] <| jn [(8,.b ((Kx n_ q ((nth q at_.toNat).2.1) f a_)&&(Kx n_ q ((nth q at_.toNat).2.2.1) f a_)))] [0,8,20,56] [] [] (Kx n_ q ((nth q at_.toNat).2.1) f a_) (λh11=> ?_) (λh11=> ?_) ?_
   ·refine rn Qa [3,6,8,9] [6,9] (pc 5 (cb h11 (ih q ((nth q at_.toNat).2.1) f a_ hv (by have hz:=KG hv ha hb h10;omega) (by have hz:=KG hv ha hb h10;omega) (by have hz:=KG hv ha hb h10;omega))) (pc 12 (ih q ((nth q at_.toNat).2.2.1) f a_ hv (by have hz:=GH hv ha hb h10;omega) (by have hz:=GH hv ha hb h10;omega) (by have hz:=GH hv ha hb h10;omega)) p0)) ?_;exact zA (by rw[h11]<;>kernel_rfl)
   ·refine rn Qa [3,6,8,9] [6,9] (pc 5 (cb h11 (ih q ((nth q at_.toNat).2.1) f a_ hv (by have hz:=KG hv ha hb h10;omega) (by have hz:=KG hv ha hb h10;omega) (by have hz:=KG hv ha hb h10;omega))) p0) ?_;exact zA (by rw[h11]<;>kernel_rfl)
   exact Qd <| pb [] (Qj h4 (Qj h5 (Qj h6 (Qj h7 (Qj h9 (Q9 h10 (rfl)))))))
  have h10d:=X0 h10;refine tn Qa [0,3,6,8,9,20,72] [6,9] p0 <| ck ((nth q at_.toNat).1==(7:W)) (λh12=> ?_) (λh12=> ?_)
  ·have h12d:=eq_of_beq h12;refine Qb <| mz [(72,.b ((nth q at_.toNat).1==(7:W)))] [47] [] [] <| jn [(8,.b ((Kx n_ q ((nth q at_.toNat).2.1) f a_)|| (Kx n_ q ((nth q at_.toNat).2.2.1) f a_)))] [0,8,20,72] [] [] (Kx n_ q ((nth q at_.toNat).2.1) f a_) (λh13=> ?_) (λh13=> ?_) ?_
   ·refine rn Qa [3,6,8,9] [6,9] (pc 5 (cb h13 (ih q ((nth q at_.toNat).2.1) f a_ hv (by have hz:=WN hv ha hb h12;omega) (by have hz:=WN hv ha hb h12;omega) (by have hz:=WN hv ha hb h12;omega))) p0) ?_;exact zA (by rw[h13]<;>kernel_rfl)
   ·refine rn Qa [3,6,8,9] [6,9] (pc 5 (cb h13 (ih q ((nth q at_.toNat).2.1) f a_ hv (by have hz:=WN hv ha hb h12;omega) (by have hz:=WN hv ha hb h12;omega) (by have hz:=WN hv ha hb h12;omega))) (pc 12 (ih q ((nth q at_.toNat).2.2.1) f a_ hv (by have hz:=IS hv ha hb h12;omega) (by have hz:=IS hv ha hb h12;omega) (by have hz:=IS hv ha hb h12;omega)) p0)) ?_;exact zA (by rw[h13]<;>kernel_rfl)
   exact Qd <| pb [] (Qj h4 (Qj h5 (Qj h6 (Qj h7 (Qj h9 (Qj h10 (Q9 h12 (rfl))))))))
  refine tu Qa [(88,.b ((nth q at_.toNat).1==(8:W)))] [0,20,47] [] [] p0 <| ck ((nth q at_.toNat).1==(8:W)) (λh14=> ?_) (λh14=> ?_)
  ·exact sN Qa Yo [3,6,8,9] [6,9] (pc 3 (I2 a_ ((nth q at_.toNat).2.2.2.1)) (pc 6 (Aw (Wk a_ ((nth q at_.toNat).2.2.2.1)) f.1) p0)) <| Qd <| pb [] (Qj h4 (Qj h5 (Qj h6 (Qj h7 (Qj h9 (Qj h10 (Qj h12 (Q9 h14 (rfl)))))))))
  refine Qf <| Qb <| jn [(8,.b ((f.2.2.2.1 !=(0:W))&&(J9 (Wk a_ ((nth q at_.toNat).2.2.2.1)) f.2.2.2.1)))] [3,6,8,9,88] [] [6,9] (f.2.2.2.1 !=(0:W)) (λh15=> ?_) (λh15=> ?_) ?_
  ·refine rN Qa Yo [8] [] (pt 2 h15 (pc 7 (I2 a_ ((nth q at_.toNat).2.2.2.1)) (pc 10 (Aw (Wk a_ ((nth q at_.toNat).2.2.2.1)) f.2.2.2.1) p0))) ?_;exact zA (by rw[h15]<;>kernel_rfl)
  ·refine rN Qa Yo [8] [] (pf 2 h15 p0) ?_;exact zA (by rw[h15]<;>kernel_rfl)
  exact Qd <| pb [] (Qj h4 (Qj h5 (Qj h6 (Qj h7 (Qj h9 (Qj h10 (Qj h12 (Qj h14 (rfl)))))))))
def Fk (q:K Q2) (f:Yj) (a_:K Qp):A:=((Yt q)&&(Kx (zE q) q ((q.length:W)-1) f a_))
theorem EN (q:K Q2) (f:Yj) (a_:K Qp):ACalls Tryz.prog 218 [.h q,.a [.i f.1,.i f.2.1,.b f.2.2.1,.i f.2.2.2.1,.h f.2.2.2.2],.h a_] (.b (Fk q f a_)):=by
 refine en Qa Tryz.func218 λw0 F0 hG=> ?_
 refine sn Qa [0,2,4,6] [4] p0 <| Qb <| mz [(4,.p 4 0),(6,.b E)] [1] [(4, [.i f.1,.i f.2.1,.b f.2.2.1,.i f.2.2.2.1,.h f.2.2.2.2])] [] <| jn [(6,.b ((Yt q)&&(Kx (zE q) q ((q.length:W)-1) f a_)))] [0,2,4,6] [] [4] (Yt q) (λh1=> ?_) (λh1=> ?_) ?_
 ·refine wT 0 0 .sh q (λhw2 hl3=> ?_);refine rn Qa [6] [] (pc 1 (cb h1 (Vx q)) (pl 5 q (pe 6 (Jl (IntWalk.i64_in ((q.length:W)-1) (by omega))) (pc 9 (EM (zE q) q ((q.length:W)-1) f a_ (Ni h1) (by have:=Gf (Ni h1);omega) (by omega) (by omega)) p0)))) ?_;exact zA (by rw[h1]<;>kernel_rfl)
 ·refine rn Qa [6] [] (pc 1 (cb h1 (Vx q)) p0) ?_;exact zA (by rw[h1]<;>kernel_rfl)
 exact Qd <| pb [] (show Fk q f a_=((Yt q)&&(Kx (zE q) q ((q.length:W)-1) f a_)) from rfl)
def Bc (q:K Q2) (a_:K Qp) (_:H) (a0:Yj) (s0:K W):Rd (K W) (K W) (K W):=(bif (Fk q a0 a_) then (.next (s0++ [a0.1])) else (.next s0))
def Ew (_:H) (s0:K W):(K W):=s0
def Jg (s_:Yk) (q:K Q2) (a_:K Qp):(K W):=(Out.on (X4 (Bc q a_) Ew s_.2.1 0 []) (λy0=>y0))
theorem YR (s_:Yk) (q:K Q2) (a_:K Qp):ACalls Tryz.prog 170 [.a [.h s_.1,.h s_.2.1,.i s_.2.2],.h q,.h a_] (.o 0 (Jg s_ q a_)):=by
 refine en Qa Tryz.func170 λw0 F0 hG=> ?_
 refine sn Qa [1,2,3,6] [3] p0 <| tn Qa [1,2,3,6,7] [3] p0 <| Qb <| tu Qa [(3,.p 3 0),(6,.e 0),(7,.one (.slc (.own I 576) 1 [])),(8,.i 0)] [0] [(3, [.h s_.1,.h s_.2.1,.i s_.2.2])] [] p0 <| wB 3 1 .sh s_.2.1 (λhw1 hl2=> ?_)
 refine JM (Bc q a_) Ew s_.2.1 [] (λk0 s0=> [(7,.o 147204 s0),(8,.i (k0:W))]) [7,8] (λ_ _=> []) [] (λy0=> [(7,.o 147354 y0)]) [1,2,3,7,8] (λ_=> []) [3] (λk0 s0=>zE s0<=k0) (Xg [(576,147204)] (by kernel_rfl)) (by simp) (λk0 s0 O U=> ?_) (λk0 s0 O U=> ?_) (λy0 hD0=> ?_)
 ·have hA0_0:=U.2;obtain ⟨a0,V⟩:=Xh (l:=s_.2.1) (i:=k0) O;refine Qb <| su Qa [(14,.b I)] [] [] [] (pl 3 s_.2.1 (pe 4 (zB ((k0:W)<(s_.2.1.length:W))) p0)) <| ckT <| Qf <| Qb <| Qo <| sn Qa [1,2,3,6,7,8,24] [3] (pn 4 V (pc 7 (EN q a0 a_) p0)) <| ck (Fk q a0 a_) (λh3=> ?_) (λh3=> ?_)
  ·refine wT 7 0 (.own I 147204) s0 (λhw4 hl5=> ?_);refine qu Qa [(7,.one (.slc (.own I 2112) 1 ((eL s0)++ [[.i a0.1]])))] [7,14] [] [] (pn 4 V (pa s0 [a0.1] p0)) ?_;refine eqn [(7,.o 2112 (s0++ [a0.1]))] [7] [] [] (by rw[show ((eL s0)++ [[.i a0.1]])=(eL (s0++ [a0.1])) from Jc (rfl) (rfl)];first | done | kernel_rfl) ?_;refine rn Qa [1,2,3,6,7,8] [3] (pe 1 (Jl (Qn k0 (by omega))) p0) ?_;exact zQ (s0++ [a0.1]) (zT (Xg [(2112,147204)] (by kernel_rfl)) ⟨Qs V (Q9 h3 (rfl)) U.1,by first|omega|(simp;omega) | simp⟩)
  refine Qf <| qn Qa [1,2,3,6,7,8] [3] (pe 1 (Jl (Qn k0 (by omega))) p0) ?_
  exact xw s0 ⟨Qs V (Qj h3 (rfl)) U.1,by first|omega|(simp;omega) | simp⟩
 ·have hA0_0:=U.2;exact Qb <| su Qa [(14,.b E)] [] [] [] (pl 3 s_.2.1 (pe 4 (zC ((k0:W)<(s_.2.1.length:W))) p0)) <| ckF <| Q4 <| zQ _ (zT (Xg [(147204,147354)] (by kernel_rfl)) (Xj O (rfl) U.1))
 exact sn Qa [6] [] p0 <| Qd <| po0 [] (Vp hD0 (rfl))
theorem Qkr (l:K W) (x:W):Vu l x=J9 l x:=by
 unfold Vu Kq Bq J9
 have key:∀(l:K W) (k:H),decide (((X4 (Kp x) Wy l k ()).on λ_=> -1)>=0)=((X4 (Us x) Cj l k ()).on λ_=>E):=by
  intro l
  induction l with
  | nil=>intro k;rfl
  | cons a l ih=>
    intro k;by_cases h:x=a
    . subst h;simp[X4,Kp,Us,Out.on]
    have e1:(x==a)=E:=uG.2 h;have e2:(a==x)=E:=uG.2 (wA h);simp only[X4,Kp,Us,e1,e2,uC];exact ih (k+1)
 exact key l 0
theorem Qmq (r:K Qp) (s:D):Y2 r s=Wk r s:=rfl
theorem Qmr (f:Yj) (s:D):J7 f s=Kc f s:=rfl
theorem Qox {n:Q2} {k:W} (h:Zd n k=I):n.1=1\/n.1=2\/n.1=3\/n.1=4\/n.1=5\/n.1=6\/n.1=7\/n.1=8\/n.1=9:=by
 refine yO λhn=> ?_
 simp only[not_or] at hn;obtain ⟨h1,h2,h3,h4,h5,h6,h7,h8,h9⟩:=hn;unfold Zd at h;simp only[uG.2 h1,uG.2 h2,uG.2 h3,uG.2 h4,uG.2 h5,uG.2 h6,uG.2 h7,uG.2 h8,uG.2 h9,uC] at h;cases h
theorem TO {q:K Q2} (hv:Qk q=I) (f:Yj) (r:K Qp):∀(n:H) (k:W),0<=k->k<(q.length:W)->Y3 n q k f r=Kx n q k f r
 | 0,_,_,_=>rfl
 | n +1,k,h0,h1=>by
   have hn:=YH hv (Cu (l:=q) (i:=zO k) (by omega));rw[Int.toNat_of_nonneg h0] at hn;obtain ⟨hl,hr⟩:=Gr hv h0 h1;unfold Y3 Kx;have ih:=TO hv f r n;unfold W5;simp only[Qmr,Qmq,Qkr];generalize nth q (zO k)=m at hn hl hr⊢;rcases Qox hn with h | h | h | h | h | h | h | h | h
   . simp[h]
   . simp[h]
   . simp[h]
   . rw[h];cases hz:((Kc f m.2.2.2.1).1==(1:W)) with
     | true=>simp[bne,hz]
     | false=>simp[bne,hz]
   . simp[h,ih _ (hl (by simp[h])).1 (by have:=(hl (by simp[h])).2;omega)]
   . simp[h,ih _ (hl (by simp[h])).1 (by have:=(hl (by simp[h])).2;omega),ih _ (hr (by simp[h])).1 (by have:=(hr (by simp[h])).2;omega)]
   . simp[h,ih _ (hl (by simp[h])).1 (by have:=(hl (by simp[h])).2;omega),ih _ (hr (by simp[h])).1 (by have:=(hr (by simp[h])).2;omega)]
   . simp[h]
   simp[h]
theorem Qbo (q:K Q2) (f:Yj) (r:K Qp):W7 q f r=Fk q f r:=by
 unfold W7 Fk;rw[←Qel];cases hv:Qk q with
 | false=>rfl
 | true=>rw[TO hv f r _ _ (by have:=Gf hv;omega) (by omega)]
theorem LN (s:Yk) (q:K Q2) (r:K Qp):Ze s q r=Jg s q r:=by
 unfold Ze Jg
 rw[Nf (f:=Hl q r) (g:=Bc q r) (e:=Ev) (e':=Ew) (λi a s=>by
  unfold Hl Bc;rw[Qbo]) (λ_ _=>rfl)]
end
section
section
variable {φ:Type} (fs:K φ) (idOf:φ->W)
def sel (p:φ->A):K W:=(fs.filter p).map idOf
theorem UG {p q:φ->A}:∀(l:K φ),(∀f,f∈l->p f=I->q f=I)->(l.filter p).length<=(l.filter q).length/\((l.filter q).length<=(l.filter p).length->l.filter p=l.filter q)
 | [],_=>⟨zX _,λ_=>rfl⟩
 | f :: l,h=>by
   obtain ⟨h1,h2⟩:=UG l λg hg=>h g (zL _ hg)
   have h0:=h f (zG ..);cases hp:p f with
   | true=>
     have hq:=h0 hp;simp only[xB,hp,hq,if_true,zJ];exact ⟨by omega,λhl=>by rw[h2 (by omega)]⟩
   | false=>
     cases hq:q f with
     | true=>
       simp only[xB,hp,hq,if_true,zJ,yT,if_false];exact ⟨by omega,λhl=>absurd hl (by omega)⟩
     | false=>
       simp only[xB,hp,hq,yT,if_false];exact ⟨h1,h2⟩
theorem Qe8 (p:φ->A):(sel fs idOf p).length<=fs.length:=by
 unfold sel;rw[zU];exact List.length_filter_le _ _
variable {fs idOf}
theorem Qix {p q:φ->A} (h:∀f,f∈fs->p f=I->q f=I) (hn:sel fs idOf p≠sel fs idOf q):(sel fs idOf p).length+1<=(sel fs idOf q).length:=by
 obtain ⟨h1,h2⟩:=UG fs h;unfold sel at hn⊢;rw[zU,zU];refine Nat.lt_of_le_of_ne h1 λe=>hn ?_
 rw[h2 (by omega)]
theorem Qms {p q:φ->A} (h:∀f,f∈fs->p f=I->q f=I) {x:W} (hx:x∈sel fs idOf p):x∈sel fs idOf q:=by
 unfold sel at hx⊢;obtain ⟨f,hf,rfl⟩:=yW.1 hx;obtain ⟨h1,h2⟩:=yR.1 hf;exact yW.2 ⟨f,yR.2 ⟨h1,h f h1 h2⟩,rfl⟩
end
abbrev CD:=D×K W
def Qe9 (out:K CD) (k:H) (ids:K W):K CD:=out.set k ((nth out k).1,ids)
theorem KO {out:K CD} {k:H} (x:CD) (hk:k<out.length) (j:H):nth (out.set k x) j=if j=k then x else nth out j:=by
 unfold nth;simp only[yB,List.getElem?_set];by_cases h:k=j
 . subst h;simp[hk]
 simp[h,wA h]
theorem Qbp {out:K CD} {k:H} (ids:K W) (hk:k<out.length):(Qe9 out k ids).map (·.1)=out.map (·.1):=by
 unfold Qe9;rw[List.map_set];refine List.ext_getElem (by simp) λi h1 h2=> ?_
 rw[List.getElem_set];split
 . rename_i h;subst h;simp[nth,xP,hk]
 rfl
def UH (B:H) (act:H->A):H->K CD->H
 | _, []=>0
 | k,r::l=>(bif act k then B-r.2.length else 0)+UH B act (k+1) l
theorem Qfa (B:H) (act:H->A):∀(l:K CD) (k:H),UH B act k l<=l.length*B
 | [],k=>by simp[UH]
 | r::l,k=>by
   have:=Qfa B act l (k+1);simp only[UH,zJ,xV,Nat.one_mul];cases act k with
   | true=>simp only[uE];omega
   | false=>simp only[uC];omega
theorem TP (B:H) (act:H->A) (x:CD):∀(l:K CD) (k i:H),i<l.length->act (k+i)=I->(nth l i).2.length+1<=x.2.length->x.2.length<=B->UH B act k (l.set i x)+1<=UH B act k l
 | [],k,i,hi,_,_,_=>by simp at hi
 | r::l,k,0,_,ha,h1,h2=>by
   have e:nth (r::l) 0=r:=rfl;rw[e] at h1;rw[wC] at ha;simp only[zS,UH,ha,uE];omega
 | r::l,k,i+1,hi,ha,h1,h2=>by
   have:=TP B act x l (k+1) i (by simpa using hi) (by rwa [show k+1+i=k+(i+1) by omega]) h1 h2;simp only[zS,UH];omega
section
variable {φ:Type} {fs:K φ} {idOf:φ->W} (m:H->K CD->φ->A) (act:H->A)
def LeC (a b:K CD):Prop:=∀j,(∀x,x∈(nth a j).2->x∈(nth b j).2)/\(act j=E->(nth a j).2=(nth b j).2)
variable (fs idOf)
def Qqm (out:K CD):Prop:=∀k,k<out.length->act k=I->∃p:φ->A,(nth out k).2=sel fs idOf p/\∀f,f∈fs->p f=I->m k out f=I
def Qiy (nm:K D):Prop:=∀a b:K CD,a.map (·.1)=nm->b.map (·.1)=nm->LeC act a b->∀k,k<nm.length->act k=I->∀f,f∈fs->m k a f=I->m k b f=I
def LO (s:K CD×A) (k:H):K CD×A:=bif act k then (if sel fs idOf (m k s.1)=(nth s.1 k).2 then s else (Qe9 s.1 k (sel fs idOf (m k s.1)),I)) else s
def EO (ks:K H) (s:K CD×A):K CD×A:=ks.foldl (LO fs idOf m act) s
variable {fs idOf m act} {nm:K D}
structure StateC (fs:K φ) (idOf:φ->W) (m:H->K CD->φ->A) (act:H->A) (nm:K D) (o out:K CD):Prop where
 names:out.map (·.1)=nm
 good:Qqm fs idOf m act out
 rest:∀j,act j=E->nth out j=nth o j
theorem Qiz (hm:Qiy fs m act nm) {o:K CD} {s:K CD×A} (h:StateC fs idOf m act nm o s.1) {k:H} (hk:k<nm.length):
 StateC fs idOf m act nm o (LO fs idOf m act s k).1/\UH fs.length act 0 (LO fs idOf m act s k).1<=UH fs.length act 0 s.1/\((LO fs idOf m act s k).2=I->s.2=I\/UH fs.length act 0 (LO fs idOf m act s k).1+1<=UH fs.length act 0 s.1):=by
 unfold LO;cases ha:act k with
 | false=>exact ⟨h,zX _,.inl⟩
 | true=>
   simp only[uE];split
   . exact ⟨h,zX _,.inl⟩
   rename_i hne;have hlen:nm.length=s.1.length:=by rw[←h.names,zU]
   have hk':k<s.1.length:=by omega
   obtain ⟨p,hp1,hp2⟩:=h.good k hk' ha;rw[hp1] at hne;have hgrow:=Qix (idOf:=idOf) hp2 (wA hne);have hnames:(Qe9 s.1 k (sel fs idOf (m k s.1))).map (·.1)=nm:=by rw[Qbp _ hk',h.names]
   have hle:LeC act s.1 (Qe9 s.1 k (sel fs idOf (m k s.1))):=λj=>by
    unfold Qe9;rw[KO _ hk'];by_cases hj:j=k
    . subst hj;rw[uH rfl];exact ⟨λx hx=>Qms hp2 (hp1▸hx),λhf=>absurd ha (by simp[hf])⟩
    rw[uK hj];exact ⟨λ_ hx=>hx,λ_=>rfl⟩
   have hmono:=hm _ _ h.names hnames hle
   have hr:UH fs.length act 0 (Qe9 s.1 k (sel fs idOf (m k s.1)))+1<=UH fs.length act 0 s.1:=
    TP _ _ _ _ 0 k hk' (by rw[yD];exact ha) (by rw[hp1];exact hgrow) (Qe8 _ _ _)
   refine ⟨⟨hnames,λj hj hja=> ?_,λj hj=> ?_⟩,Nat.le_of_succ_le hr,λ_=> .inr hr⟩
   . have hj':j<s.1.length:=by unfold Qe9 at hj;rwa [zM] at hj
     by_cases e:j=k
     . subst e;refine ⟨m j s.1, ?_,λf hf hmf=>hmono j (by omega) hja f hf hmf⟩;unfold Qe9;rw[KO _ hk',uH rfl]
     obtain ⟨p',h1,h2⟩:=h.good j hj' hja;refine ⟨p', ?_,λf hf hpf=>hmono j (by omega) hja f hf (h2 f hf hpf)⟩;unfold Qe9;rw[KO _ hk',uK e];exact h1
   have e:j≠k:=λe=>absurd ha (by simp[←e,hj])
   unfold Qe9;rw[KO _ hk',uK e];exact h.rest j hj
theorem TQ (hm:Qiy fs m act nm) {o:K CD}:∀(ks:K H) (s:K CD×A),(∀k,k∈ks->k<nm.length)->StateC fs idOf m act nm o s.1->
 StateC fs idOf m act nm o (EO fs idOf m act ks s).1/\UH fs.length act 0 (EO fs idOf m act ks s).1<=UH fs.length act 0 s.1/\((EO fs idOf m act ks s).2=I->s.2=I\/UH fs.length act 0 (EO fs idOf m act ks s).1+1<=UH fs.length act 0 s.1)
 | [],s,_,h=>⟨h,zX _,.inl⟩
 | k ::ks,s,hks,h=>by
   obtain ⟨h1,h2,h3⟩:=Qiz hm h (hks k (zG ..));obtain ⟨g1,g2,g3⟩:=TQ hm ks _ (λj hj=>hks j (zL _ hj)) h1;refine ⟨g1,yX g2 h2,λhc=> ?_⟩;rcases g3 hc with hc | hc
   . rcases h3 hc with hc | hc
     . exact .inl hc
     exact .inr (yX (Nat.add_le_add_right g2 1) hc)
   exact .inr (yX hc h2)
theorem Qq1 {R S T:Type} {F:S->Rd R S T} {out:S->K CD} {ch:S->A} {n:H} (hn:n=nm.length)
 (hF:∀s,ch s=I->∃s',F s= .next s'/\(out s',ch s')=EO fs idOf m act (List.range n) (out s,E))
 (hE:∀s,ch s=E->∃t,F s= .brk t)
 (hm:Qiy fs m act nm) {o:K CD}:∀(k:H) (s:S),StateC fs idOf m act nm o (out s)->UH fs.length act 0 (out s)+(bif ch s then 2 else 1)<=k->
 ∃s',StateC fs idOf m act nm o (out s')/\ch s'=E/\∃t,F s'= .brk t/\whl F k s=uA (.brk t)
 | 0,s,_,hk=>by cases hc:ch s<;>simp[hc] at hk
 | k +1,s,h,hk=>by
   cases hc:ch s with
   | false=>
     obtain ⟨t,ht⟩:=hE s hc;exact ⟨s,h,hc,t,ht,by simp only[whl,ht]⟩
   | true=>
     rw[hc] at hk;simp only[uE] at hk;obtain ⟨s',h1,h2⟩:=hF s hc;obtain ⟨g1,g2,g3⟩:=TQ hm (o:=o) (List.range n) (out s,E) (λj hj=>by rw[←hn];exact List.mem_range.1 hj) h;rw[←h2] at g1 g2 g3;simp only[whl,h1];refine Qq1 hn hF hE hm k s' g1 ?_;simp only[yT,false_or] at g3;cases hc':ch s' with
     | false=>simp only[uC];have:UH fs.length act 0 (out s')<=UH fs.length act 0 (out s):=g2;omega
     | true=>simp only[uE];have:UH fs.length act 0 (out s')+1<=UH fs.length act 0 (out s):=g3 hc';omega
end
open Go.RowKit in
def ArgLe (a b:AV):Prop:=∀(J:Inj) (w:uP) (v:uJ),AR J w v a->AR J w v b
theorem ArgLe.rfl (a:AV):ArgLe a a:=λ_ _ _ h=>h
theorem ArgLe.nil (n:H):ArgLe (.one (.slc .sh 0 [])) (.one (.slc .sh n [])):=λJ w v h=>by
 have h':VV J.F w v (.slc 0 []):=h;show VV J.F w v (.slc n []);generalize hp:PV.slc 0 ([]:K (K PV))=p at h';cases h' with
 | int | bool | str | any | raw=>cases hp
 | emp oa m hc=>exact .emp oa n hc
 | @slc b off cap m cs l hx hcells hr hle hcap=>
   cases hp
   exact .emp _ n hcap.1
theorem UI {P:uT} {f:H} {r:AV} {args args':K AV} (h:All2 ArgLe args args') (c:ACalls P f args' r):ACalls P f args r:=⟨c.1,λw hg F vals hF hall=>c.2 w hg F vals hF (by
 clear c
 induction h generalizing vals with
 | nil=>exact hall
 | cons h1 h2 ih=>
   cases hall with
   | cons g1 g2=>exact .cons (h1 _ _ _ g1) (ih _ g2))⟩
theorem LP {s:St} {t k n:H} {l:K (K PV)} (ht:get s.tm t=uA (.one (.slc (.own E k) n l))) (hf:Da l):Weak s ⟨[(t,.one (.slc (.own I k) n l))], []⟩:=λN w0 F0 J a w h=>
 ⟨J, {h with
  bo:=λk c hc=>by simp[get] at hc
  bi:=λk k' c c' hc=>by simp[get] at hc
  tm :=λt' v hv=>by
   have h1:=h.tm t _ ht;by_cases e:t'=t
   . subst e;obtain rfl:AV.one (.slc (.own I k) n l)=v:=by simpa [get] using hv
     exact GX h1 hf
   simp[get,wA e] at hv}⟩
theorem PP {P:uT} {N:H} {w0:Base} {F0:H->Prop} {Q:Exit->St->Prop} {s:St} {c:Code} (t:H) {k n:H} {l:K (K PV)} (ht:get s.tm t=uA (.one (.slc (.own E k) n l))) (hf:Da l) (h:AWP P N w0 F0 c Q ⟨[(t,.one (.slc (.own I k) n l))], []⟩):AWP P N w0 F0 c Q s:=Ei (LP ht hf) h
end
section
open Go.RowKit
def Dt (n:Q2) (c:W):A:=((n.2.1==c)&&(n.1==6|| n.1==7|| n.1==5))|| ((n.2.2.1==c)&&(n.1==6|| n.1==7))
theorem Qfb (c:W) (k:H) (a:Q2) (s:W) (h0:0<=s) (h1:s<=1000):∃s',Ko c k a s= .next s'/\s+(bif Dt a c then 1 else 0)<=s'/\s'<=s+2:=by
 have w1:IntKind.i64.wrap (s+1)=s+1:=IntWalk.i64_in _ (by omega);have w2:IntKind.i64.wrap (s+1+1)=s+1+1:=IntWalk.i64_in _ (by omega);unfold Ko Dt;rw[w1,w2];cases (a.2.1==c)<;>cases (a.2.2.1==c)<;>cases (a.1==6)<;>cases (a.1==7)<;>cases (a.1==5)<;>exact ⟨_,rfl,by first | (simp;done) | (simp;omega) | omega,by omega⟩
theorem LQ (c:W):∀(l:K Q2) (k:H) (s:W),0<=s->s+2*l.length<=1000->∃s',X4 (Ko c) U8 l k s= .brk s'/\s+(l.filter λn=>Dt n c).length<=s'
 | [],k,s,_,_=>⟨s,rfl,by simp⟩
 | a::l,k,s,h0,h1=>by
   rw[zJ] at h1;obtain ⟨s1,e1,g1,g2⟩:=Qfb c k a s h0 (by omega);have hp:0<=s1:=by cases hb:Dt a c<;>(rw[hb] at g1;simp at g1;omega)
   obtain ⟨s2,e2,g3⟩:=LQ c l (k+1) s1 hp (by omega);refine ⟨s2,by simp only[X4,e1];exact e2, ?_⟩;rw[xB];cases hb:Dt a c with
   | true=>rw[hb] at g1;simp only[uE] at g1;simp only[if_true,zJ];omega
   | false=>rw[hb] at g1;simp only[uC] at g1;simp only[yT,if_false];omega
theorem Qoy {α:Type} {p:α->A} {l:K α} {i j:H} {a b:α} (hij:i<j) (hi:l[i]? =uA a) (hj:l[j]? =uA b) (ha:p a=I) (hb:p b=I):2<=(l.filter p).length:=by
 have e:l=l.take j++l.drop j:=(List.take_append_drop j l).symm;rw[e,yU,xI];have h1:1<=((l.take j).filter p).length:=yY (a:=a) (yR.2 ⟨yE (i:=i) (by rw[List.getElem?_take,uH hij];exact hi),ha⟩);have h2:1<=((l.drop j).filter p).length:=yY (a:=b) (yR.2 ⟨yE (i:=0) (by rw[xJ];exact hj),hb⟩);omega
theorem Qmt {q:K Q2} (h:Qk q=I) {i:H} (hi:i+1<q.length):Kb q (i:W)=1:=by
 obtain ⟨⟨t,ht⟩,_⟩:=Qem h;have:=T0 (λk a t=>by unfold Zv;generalize (_|| _:A)=c;cases c<;>simp) ht i (nth q i) (Cu (by omega));unfold Zv at this;rw[yD] at this;have hd:decide (((i:H):W)<((q.length:W)-1))=I:=uR (by omega);rw[hd,yI] at this;cases hn:(Kb q ((i:H):W) !=(1:W)) with
 | false=>exact Uw hn
 | true=>rw[hn,Bool.or_true] at this;simp at this
theorem Qi0 {q:K Q2} (h:Qk q=I) {c i j:H} (hc:c+1<q.length) (hij:i<j) (hj:j<q.length) (h1:Dt (nth q i) (c:W)=I) (h2:Dt (nth q j) (c:W)=I):False:=by
 have hr:=Qmt h hc;have hl:=(Gf h).2;obtain ⟨s,e,g⟩:=LQ (c:W) q 0 0 (by omega) (by omega);unfold Kb at hr;rw[e] at hr;have:=Qoy (p:=λn=>Dt n (c:W)) hij (Cu (by omega)) (Cu hj) h1 h2;simp only[Out.on] at hr;omega
theorem Qfc {q:K Q2} (h:Qk q=I) {c i:H} (hi:i<q.length) (hr:Dt (nth q i) (c:W)=I):c<i:=by
 obtain ⟨h1,h2⟩:=Gr h (k:=(i:W)) (by omega) (by omega);rw[zN] at h1 h2;unfold Dt at hr;simp only[yS,zK,uQ] at hr;rcases hr with ⟨e,hop⟩ | ⟨e,hop⟩
 . have:=h1 (by omega);omega
 have:=h2 (by omega);omega
theorem EP {L:K A} {i:H} (x:A) (hi:i<L.length) (j:H):nth (L.set i x) j=if j=i then x else nth L j:=by
 unfold nth;simp only[yB,List.getElem?_set];by_cases h:i=j
 . subst h;simp[hi]
 simp[h,wA h]
theorem Qi1 {q:K Q2} (h:Qk q=I) {k:H} (hk:k<q.length) (s:K A) (hs:s.length=q.length):∃s',Z3 q k s= .next s'/\s'.length=q.length/\
 (∀j:H,Dt (nth q (q.length-1-k)) (j:W)=E->nth s' j=nth s j)/\
 (∀j:H,Dt (nth q (q.length-1-k)) (j:W)=I->nth s' j=(nth s (q.length-1-k)|| ((nth q (q.length-1-k)).1==5))):=by
 have hdn:zO (dn ((q.length:W)-1) k)=q.length-1-k:=by rw[OT];omega
 obtain ⟨hl,hr⟩:=Gr h (k:=((q.length-1-k:H):W)) (by omega) (by omega);rw[zN] at hl hr;have hlt:q.length-1-k<s.length:=by omega
 unfold Z3;rw[hdn];generalize q.length-1-k=i at hl hr hlt⊢;generalize nth q i=n at hl hr⊢;generalize (nth s i|| (n.1==5))=b
 have both:∀(e5:(n.1==(5:W))=E),(n.1=6\/n.1=7)->(zS (zS s (zO n.2.1) b) (zO n.2.2.1) b).length=q.length/\(∀j:H,Dt n (j:W)=E->nth (zS (zS s (zO n.2.1) b) (zO n.2.2.1) b) j=nth s j)/\(∀j:H,Dt n (j:W)=I->nth (zS (zS s (zO n.2.1) b) (zO n.2.2.1) b) j=b):=λe5 h67=>by
  obtain ⟨g1,g2⟩:=hl (.inr h67);obtain ⟨g3,g4⟩:=hr h67;have hop:(n.1==6|| n.1==7)=I:=by rcases h67 with e | e<;>simp[e]
  have hlen:(zS s (zO n.2.1) b).length=s.length:=zM ..;refine ⟨by rw[zM,hlen,hs],λj hj=> ?_,λj hj=> ?_⟩
  . simp only[Dt,hop,Bool.true_or,Bool.and_true,xW,uG,ne_eq] at hj;rw[Ms _ (by omega),Ms _ (by omega)]
  simp only[Dt,hop,Bool.true_or,Bool.and_true,yS,uQ] at hj;rw[EP _ (by omega),EP _ (by omega)];split
  . rfl
  rw[uH (by omega)]
 by_cases h5:n.1=5
 . obtain ⟨g1,g2⟩:=hl (.inl h5);simp only[h5,uX,uE];refine ⟨_,rfl,by rw[zM,hs],λj hj=> ?_,λj hj=> ?_⟩
   . have:n.2.1≠(j:W):=by simpa [Dt,h5] using hj
     exact Ms _ (by omega)
   have:n.2.1=(j:W):=by simpa [Dt,h5] using hj
   rw[EP _ (by omega),uH (by omega)]
 have e5:(n.1==(5:W))=E:=uG.2 h5;rw[e5,uC];by_cases h6:n.1=6
 . simp only[h6,uX,uE];exact ⟨_,rfl,both e5 (.inl h6)⟩
 by_cases h7:n.1=7
 . simp only[h7,uX,uE];exact ⟨_,rfl,both e5 (.inr h7)⟩
 have e6:(n.1==(6:W))=E:=uG.2 h6;have e7:(n.1==(7:W))=E:=uG.2 h7;rw[e6,e7,uC,uC];refine ⟨_,rfl,hs,λ_ _=>rfl,λj hj=> ?_⟩;simp[Dt,e5,e6,e7] at hj
def Qfd (q:K Q2) (k:H) (s:K A):Prop:=s.length=q.length/\∀i,q.length<=i+k->i<q.length->∀c:H,Dt (nth q i) (c:W)=I->nth s c=(nth s i|| ((nth q i).1==5))
theorem Qi2 {q:K Q2} (h:Qk q=I) {k:H} (hk:k<q.length) {s:K A} (hs:Qfd q k s):∃s',Z3 q k s= .next s'/\Qfd q (k+1) s':=by
 obtain ⟨s',h1,h2,h3,h4⟩:=Qi1 h hk s hs.1
 have hself:nth s' (q.length-1-k)=nth s (q.length-1-k):=h3 _ (by
  cases hr:Dt (nth q (q.length-1-k)) ((q.length-1-k:H):W) with
  | false=>rfl
  | true=>have:=Qfc h (by omega) hr;omega)
 refine ⟨s',h1,h2,λi hi1 hi2 c hc=> ?_⟩;by_cases e:i=q.length-1-k
 . subst e;rw[h4 c hc,hself]
 have hci:=Qfc h hi2 hc
 have n1:Dt (nth q (q.length-1-k)) (c:W)=E:=by
  cases hr:Dt (nth q (q.length-1-k)) (c:W) with
  | false=>rfl
  | true=>exact (Qi0 h (c:=c) (i:=q.length-1-k) (j:=i) (by omega) (by omega) hi2 hr hc).elim
 have n2:Dt (nth q (q.length-1-k)) (i:W)=E:=by
  cases hr:Dt (nth q (q.length-1-k)) (i:W) with
  | false=>rfl
  | true=>have:=Qfc h (by omega) hr;omega
 rw[h3 c n1,h3 i n2];exact hs.2 i (by omega) hi2 c hc
theorem TR {q:K Q2} (h:Qk q=I):∀(n k:H) (s:K A),k+n=q.length->Qfd q k s->∃s',Ks (Z3 q) Uy n k s= .brk s'/\Qfd q q.length s'
 | 0,k,s,hk,hs=>⟨s,rfl,by rw[show k=q.length by omega] at hs;exact hs⟩
 | n+1,k,s,hk,hs=>by
   obtain ⟨s1,h1,h2⟩:=Qi2 h (by omega) hs;obtain ⟨s2,h3,h4⟩:=TR h n (k+1) s1 (by omega) h2;exact ⟨s2,by simp only[Ks,h1];exact h3,h4⟩
theorem Qi3 {q:K Q2} (h:Qk q=I):Qfd q q.length (X9 q):=by
 unfold X9;obtain ⟨s,h1,h2⟩:=TR h (zE q) 0 (zH (zO (q.length:W)) E) (by omega) ⟨by simp,λi h1 h2=>by omega⟩;rw[h];simp only[zZ,uC,h1,Out.on];exact h2
theorem Qi4 {q:K Q2} {i:H} (hi:i<(X9 q).length) (hn:nth (X9 q) i=I) (hd:Kv (nth q i)=I):(nth q i).2.2.2.1∈Ya q:=by
 have key:∀(l:K A) (k:H) (s:K D),∃t,X4 (V6 q I) Ha l k s= .brk t/\(∀x,x∈s->x∈t)/\∀j,l[j]? =uA I->Kv (nth q (k+j))=I->(nth q (k+j)).2.2.2.1∈t:=by
  intro l
  induction l with
  | nil=>intro k s;exact ⟨s,rfl,λ_ h=>h,λj h=>by simp at h⟩
  | cons a l ih=>
    intro k s;simp only[X4,V6];cases hc:(Kv (nth q k)&&(a==I)) with
    | true=>
      obtain ⟨t,h1,h2,h3⟩:=ih (k+1) (s++ [(nth q k).2.2.2.1]);refine ⟨t,h1,λx hx=>h2 x (List.mem_append_left _ hx),λj hj hnm=> ?_⟩;cases j with
      | zero=>exact h2 _ (xT _ (by simp))
      | succ j=>
        have:=h3 j (by simpa using hj) (by rwa [show k+1+j=k+(j+1) by omega])
        rwa [show k+1+j=k+(j+1) by omega] at this
    | false=>
      obtain ⟨t,h1,h2,h3⟩:=ih (k+1) s;refine ⟨t,h1,h2,λj hj hnm=> ?_⟩;cases j with
      | zero=>
        obtain rfl:a=I:=by simpa using hj
        rw[wC] at hnm;rw[hnm] at hc;cases hc
      | succ j=>
        have:=h3 j (by simpa using hj) (by rwa [show k+1+j=k+(j+1) by omega])
        rwa [show k+1+j=k+(j+1) by omega] at this
 unfold Ya Wi;obtain ⟨t,h1,_,h3⟩:=key (X9 q) 0 [];rw[h1];simp only[Out.on];have:=h3 i (by rw[Cu hi,hn]) (by rwa [yD]);rw[yD] at this;exact ((WS t).2 _).2 this
theorem YS (l:K W) (x:W):Vu l x=I↔x∈l:=by
 unfold Vu Kq Bq
 have key:∀(l:K W) (k:H),decide (((X4 (Kp x) Wy l k ()).on λ_=> -1)>=0)=I↔x∈l:=by
  intro l
  induction l with
  | nil=>intro k;simp[X4,Out.on,Wy]
  | cons a l ih=>
    intro k;by_cases h:x=a
    . subst h;simp[X4,Kp,Out.on]
    have e1:(x==a)=E:=uG.2 h;simp only[X4,Kp,e1,uC];rw[ih (k+1)];simp[h]
 exact key l 0
structure Seen (q:K Q2) (a b:K Qp):Prop where
 grow:∀nm x,x∈Y2 a nm->x∈Y2 b nm
 same:∀nm,nm∈Ya q->Y2 a nm=Y2 b nm
theorem CJ {q:K Q2} (hv:Qk q=I) {a b:K Qp} (hs:Seen q a b) (f:Yj):∀(n:H) (k:H),k<n->k<q.length->
 (nth (X9 q) k=I->Y3 n q (k:W) f a=Y3 n q (k:W) f b)/\(Y3 n q (k:W) f a=I->Y3 n q (k:W) f b=I)
 | 0,_,h,_=>absurd h (by omega)
 | n +1,k,hkn,hk=>by
   obtain ⟨hl,hr⟩:=Gr hv (k:=(k:W)) (by omega) (by omega);rw[zN] at hl hr;obtain ⟨hlen,hneg⟩:=Qi3 hv;have hneg:=hneg k (by omega) hk;have hop:=Qox (YH hv (Cu hk));have hnm:=Qi4 (q:=q) (i:=k) (by omega);have ih:=CJ hv hs f n;unfold Y3;rw[zN];generalize nth q k=m at hl hr hneg hop hnm⊢
   have kid:∀c:W,0<=c->c<(k:W)->Dt m c=I->((nth (X9 q) k|| (m.1==5))=I->Y3 n q c f a=Y3 n q c f b)/\(Y3 n q c f a=I->Y3 n q c f b=I):=λc h0 h1 hrf=>by
    obtain ⟨j,rfl⟩:∃j:H,c=(j:W):=⟨zO c,by omega⟩;obtain ⟨g1,g2⟩:=ih j (by omega) (by omega);exact ⟨λhn=>g1 ((hneg j hrf).trans hn),g2⟩
   rcases hop with h | h | h | h | h | h | h | h | h
   . simp[h]
   . simp[h]
   . simp[h]
   . simp[h]
   . obtain ⟨k1,k2⟩:=hl (.inl h);obtain ⟨g1,_⟩:=kid m.2.1 k1 k2 (by simp[Dt,h]);have:=g1 (by simp[h]);simp[h,this]
   . obtain ⟨k1,k2⟩:=hl (.inr (.inl h));obtain ⟨k3,k4⟩:=hr (.inl h);obtain ⟨g1,g2⟩:=kid m.2.1 k1 k2 (by simp[Dt,h]);obtain ⟨g3,g4⟩:=kid m.2.2.1 k3 k4 (by simp[Dt,h]);refine ⟨λhn=> ?_,λhm=> ?_⟩
     . simp[h,g1 (by simp[hn]),g3 (by simp[hn])]
     simp[h] at hm⊢;exact ⟨g2 hm.1,g4 hm.2⟩
   . obtain ⟨k1,k2⟩:=hl (.inr (.inr h));obtain ⟨k3,k4⟩:=hr (.inr h);obtain ⟨g1,g2⟩:=kid m.2.1 k1 k2 (by simp[Dt,h]);obtain ⟨g3,g4⟩:=kid m.2.2.1 k3 k4 (by simp[Dt,h]);refine ⟨λhn=> ?_,λhm=> ?_⟩
     . simp[h,g1 (by simp[hn]),g3 (by simp[hn])]
     simp[h] at hm⊢;exact hm.imp g2 g4
   . refine ⟨λhn=> ?_,λhm=> ?_⟩
     . simp[h,hs.same _ (hnm hn (by simp[Kv,h]))]
     simp[h] at hm⊢;exact (YS _ _).2 (hs.grow _ _ ((YS _ _).1 hm))
   refine ⟨λhn=> ?_,λhm=> ?_⟩
   . simp[h,hs.same _ (hnm hn (by simp[Kv,h]))]
   simp[h] at hm⊢;exact ⟨hm.1,(YS _ _).2 (hs.grow _ _ ((YS _ _).1 hm.2))⟩
theorem LR {q:K Q2} {a b:K Qp} (hs:Seen q a b) (f:Yj) (h:W7 q f a=I):W7 q f b=I:=by
 unfold W7 at h⊢;cases hv:Qk q with
 | false=>rw[hv] at h;cases h
 | true=>
   rw[hv,yI] at h;rw[yI];have hl:=Gf hv;have e:((q.length:W)-1)=((q.length-1:H):W):=by omega
   rw[e] at h⊢;exact (CJ hv hs f q.length (q.length-1) (by omega) (by omega)).2 h
theorem Qbq (s:Yk) (q:K Q2) (r:K Qp):Ze s q r=sel s.2.1 (λf=>f.1) λf=>W7 q f r:=by
 unfold Ze;rw[Ng (f:=Hl q r) (p:=λf=>W7 q f r) (g:=λf=>f.1) (λ_ _ _=>rfl)];rfl
theorem UJ {d:K Zj} {L:K W} (h:Qu d=(L,I)):Je d=I/\L.length=d.length/\Sat (Kt d) d.length L/\∀j,0<=nth L j:=by
 unfold Qu at h;cases hv:Je d with
 | false=>rw[hv] at h;simp at h
 | true=>
   rw[hv] at h;simp only[zZ,uC] at h;have h5:=Gh hv;have hw:=Mu (d:=d) (f:=Hh d) (e:=Hi) (F:=Wj d) (λ_ _ _=>rfl) (λ_ _=>rfl) (λ_=>rfl) (by omega) (d.length*d.length+3) (zH d.length 0) I (De _).1 (De _).2
   have hsome:(YJ (Kt d) d.length d.length (d.length*d.length+3) (I,zH d.length 0)).isSome=I:=by
    have:=Gi d h5;rw[zN,hw,xN] at this;exact this
   obtain ⟨r,hr⟩:=yP.1 hsome;unfold Oo at h;rw[zN,hw,hr] at h;have hw':∀i e,e∈Kt d i->e.2<=1/\e.1<d.length:=λi e he=>⟨(Pk d i e he).1,(Pk d i e he).2.1⟩
   obtain ⟨h1,_⟩:=KI hw' _ 0 I r (λe=>by cases e) hr;cases r with
   | none=>simp[Qn1,Out.on] at h
   | some M=>
     have e:M=L:=by simpa [Qn1,Out.on] using h
     subst e;obtain ⟨hrest,hM⟩:=h1 M rfl;rw[hM];exact ⟨rfl,Uc _ _ _,T6 (Uc _ _ _) hrest,λj=>Bk _ _ j _⟩
theorem Qfe {d:K Zj} {L:K W} (h:Qu d=(L,I)):∀j,nth L j<=(d.length:W):=by
 obtain ⟨hv,hlen,_,_⟩:=UJ h;have h5:=Gh hv;unfold Qu at h;rw[hv] at h;simp only[zZ,uC] at h;have hw:=Mu (d:=d) (f:=Hh d) (e:=Hi) (F:=Wj d) (λ_ _ _=>rfl) (λ_ _=>rfl) (λ_=>rfl) (by omega) (d.length*d.length+3) (zH d.length 0) I (De _).1 (De _).2
 have hsome:(YJ (Kt d) d.length d.length (d.length*d.length+3) (I,zH d.length 0)).isSome=I:=by
  have:=Gi d h5;rw[zN,hw,xN] at this;exact this
 obtain ⟨r,hr⟩:=yP.1 hsome;unfold Oo at h;rw[zN,hw,hr] at h;have hw':∀i e,e∈Kt d i->e.2<=1/\e.1<d.length:=λi e he=>⟨(Pk d i e he).1,(Pk d i e he).2.1⟩
 obtain ⟨h1,_⟩:=KI hw' _ 0 I r (λe=>by cases e) hr;cases r with
 | none=>simp[Qn1,Out.on] at h
 | some M=>
   have e:M=L:=by simpa [Qn1,Out.on] using h
   subst e;obtain ⟨hrest,hM⟩:=h1 M rfl;intro j;by_cases hj:j<d.length
   . rw[hM];exact Int.le_of_lt (PE hw' hrest j hj)
   have:nth M j=0:=WT (by omega);omega
theorem Pq {d:K Zj} {w:W} {nm:D}:∀{l:K D},nm∈l->0<=Yb d nm->(zO (Yb d nm),w)∈Vj d w l
 | x::l,h,h0=>by
   simp only[Vj];rcases yJ.1 h with rfl | h
   . rw[uH h0];exact zG ..
   split
   . exact zL _ (Pq h h0)
   exact Pq h h0
theorem Qbr {d:K Zj} {L:K W} (h:Qu d=(L,I)) {i:H} (hi:i<d.length) {nm:D} (hn:nm∈Ya (nth d i).2) (h0:0<=Yb d nm):nth L (zO (Yb d nm))<nth L i:=by
 obtain ⟨_,_,hs,_⟩:=UJ h
 have hm:(zO (Yb d nm),(1:W))∈Kt d i:=by
  unfold Kt;rw[uH hi];exact xT _ (Pq hn h0)
 have:=(Dp.1 (hs i hi)).2 _ hm;simp only at this;omega
theorem Qff (nm:D):∀(d:K Zj) (o:K Qp) (k:H),o.map (·.1)=d.map (·.1)->
 (X4 (Ym nm) Zh d k ()= .brk ()/\X4 (Vk nm) W6 o k ()= .brk ())\/
 ∃i:H,i<d.length/\X4 (Ym nm) Zh d k ()= .ret (((k+i:H)):W)/\X4 (Vk nm) W6 o k ()= .ret (nth o i).2
 | [], [],_,_=> .inl ⟨rfl,rfl⟩
 | [],_::_,_,h=>by simp at h
 | _::_, [],_,h=>by simp at h
 | a ::d,b::o,k,h=>by
   simp only[zW,List.cons.injEq] at h;obtain ⟨h1,h2⟩:=h;simp only[X4,Ym,Vk,Dr,h1];cases (a.1.toList==nm.toList) with
   | true=>exact .inr ⟨0,by simp,rfl,rfl⟩
   | false=>
     simp only[uC];rcases Qff nm d o (k+1) h2 with h | ⟨i,hi,h3,h4⟩
     . exact .inl h
     exact .inr ⟨i+1,by simpa using hi,by rw[h3,show k+1+i=k+(i+1) by omega],h4⟩
theorem UK {d:K Zj} {o:K Qp} (h:o.map (·.1)=d.map (·.1)) (nm:D):(Yb d nm<0/\Y2 o nm= [])\/(0<=Yb d nm/\zO (Yb d nm)<d.length/\Y2 o nm=(nth o (zO (Yb d nm))).2):=by
 unfold Yb J6 Y2;rcases Qff nm d o 0 h with ⟨h1,h2⟩ | ⟨i,hi,h1,h2⟩
 . rw[h1,h2];refine .inl ⟨?_, ?_⟩
   . show (-1:W)<0;omega
   rfl
 rw[h1,h2];simp only[Out.on,yD,zN];exact .inr ⟨by omega,hi,trivial⟩
abbrev EQ (d:K Zj) (k:H) (o:K Qp) (f:Yj):A:=W7 (nth d k).2 f o
theorem Qmu {d:K Zj} {L:K W} (h:Qu d=(L,I)) (fs:K Yj) {act:H->A} {level:W} (ha:∀k,act k=I->nth L k=level):Qiy fs (EQ d) act (d.map (·.1)):=by
 intro a b hna hnb hle k hk hact f _ hm;rw[zU] at hk;refine LR (⟨λnm x hx=> ?_,λnm hn=> ?_⟩:Seen (nth d k).2 a b) f hm
 . rcases UK hna nm with ⟨h1,h2⟩ | ⟨h1,h2,h3⟩
   . rw[h2] at hx;simp at hx
   rcases UK hnb nm with ⟨g1,_⟩ | ⟨_,_,g3⟩
   . omega
   rw[h3] at hx;rw[g3];exact (hle _).1 x hx
 rcases UK hna nm with ⟨h1,h2⟩ | ⟨h1,h2,h3⟩
 . rcases UK hnb nm with ⟨_,g2⟩ | ⟨g1,_,_⟩
   . rw[h2,g2]
   omega
 rcases UK hnb nm with ⟨g1,_⟩ | ⟨_,_,g3⟩
 . omega
 rw[h3,g3];refine (hle _).2 ?_;have hlt:=Qbr h hk hn h1;cases hp:act (zO (Yb d nm)) with
 | false=>rfl
 | true=>have:=ha _ hp;have:=ha _ hact;omega
structure EvS (d:K Zj) (L:K W) (on:H->A) (fs:K Yj) (k:W) (o:K Qp):Prop where
 names:o.map (·.1)=d.map (·.1)
 none:∀j,k<=nth L j->on j=I->(nth o j).2= []
 some_:∀j,j<d.length->on j=I->∃p:Yj->A,(nth o j).2=sel fs (λf=>f.1) p
def NV (L:K W) (on:H->A) (k:W) (j:H):A:=(nth L j==k)&&on j
theorem Qfg {d:K Zj} {L:K W} {on:H->A} {fs:K Yj} {k:W} {o:K Qp} (h:EvS d L on fs k o):StateC fs (λf:Yj=>f.1) (EQ d) (NV L on k) (d.map (·.1)) o o:=
 ⟨h.names,λj _ hj=>⟨λ_=>E,by
  unfold NV at hj;simp only[zK,uQ] at hj;rw[h.none j (by omega) hj.2];simp[sel],λf _ hf=>by cases hf⟩,λ_ _=>rfl⟩
theorem Qi5 {d:K Zj} {L:K W} {on:H->A} {k:W} {o o':K Qp} {fs:K Yj} (h:EvS d L on fs k o) (h':StateC fs (λf:Yj=>f.1) (EQ d) (NV L on k) (d.map (·.1)) o o'):EvS d L on fs (k+1) o':=
 ⟨h'.names,λj hj hon=>by
  rw[h'.rest j (by unfold NV;rw[Bool.and_eq_false_iff];exact .inl (uG.2 (by omega)))];exact h.none j (by omega) hon,λj hj hon=>by
  cases ha:NV L on k j with
  | false=>rw[h'.rest j ha];exact h.some_ j hj hon
  | true=>
    have hlen:o'.length=d.length:=by have:=uN zE h'.names;simpa using this
    obtain ⟨p,hp,_⟩:=h'.good j (by omega) ha;exact ⟨p,hp⟩⟩
theorem Gx {d:K Zj} {L:K W} {on:H->A} {fs:K Yj} {k:W} {o:K Qp} (h:EvS d L on fs k o):zE o=zE d:=by have:=uN zE h.names;simpa using this
theorem TS (a b:K W):W4 a b=decide (a=b):=by
 by_cases h:a.length=b.length
 . exact Qe6 a b h
 have hb:((a.length:W) !=(b.length:W))=I:=by simpa using λe:(a.length:W)=(b.length:W)=>h (by omega)
 unfold W4;rw[hb,uO (λe=>h (uN zE e))];rfl
def Qi6 (s:Yk) (d:K Zj) (L:K W) (on:H->A) (lv:W) {R T:Type} (f:H->Zj->K Qp×A->Rd R (K Qp×A) T):Prop:=
 ∀k a o c,d[k]? =uA a->f k a (o,c)=bif NV L on lv k then (bif !(decide (Ze s a.2 o=(nth o k).2)) then .next (zS o k ((nth o k).1,Ze s a.2 o),I) else .next (o,c)) else .next (o,c)
theorem ER {R:Type} {s:Yk} {d:K Zj} {L:K W} {on:H->A} {lv:W} {f:H->Zj->K Qp×A->Rd R (K Qp×A) (K Qp×A)} {e:H->K Qp×A->K Qp×A}
 (hf:Qi6 s d L on lv f) (he:∀k s,e k s=s):∀(l:K Zj) (k:H) (o:K Qp) (c:A),d.drop k=l->X4 f e l k (o,c)= .brk (EO s.2.1 (λf:Yj=>f.1) (EQ d) (NV L on lv) (wE k l.length) (o,c))
 | [],k,o,c,_=>by simp[X4,EO,he]
 | a ::l,k,o,c,hl=>by
   have hk:d[k]? =uA a:=by
    have:=uN (·[0]?) hl;simpa using this
   have ha:nth d k=a:=BS hk;have hrest:d.drop (k+1)=l:=by rw[←xK,hl];rfl
   have hp:EO s.2.1 (λf:Yj=>f.1) (EQ d) (NV L on lv) (wE k (a::l).length) (o,c)=EO s.2.1 (λf:Yj=>f.1) (EQ d) (NV L on lv) (wE (k+1) l.length) (LO s.2.1 (λf:Yj=>f.1) (EQ d) (NV L on lv) (o,c) k):=by
    rw[zJ,List.range'_succ];rfl
   have hsel:sel s.2.1 (λf:Yj=>f.1) (EQ d k o)=Ze s a.2 o:=by rw[Qbq,←ha]
   rw[hp];simp only[X4,hf k a o c hk];unfold LO;cases NV L on lv k with
   | false=>simp only[uC];exact ER hf he l (k+1) o c hrest
   | true=>
     simp only[uE,hsel];by_cases hq:Ze s a.2 o=(nth o k).2
     . rw[uR hq,uH hq];exact ER hf he l (k+1) o c hrest
     rw[uO hq,uK hq];exact ER hf he l (k+1) _ I hrest
theorem Qks {R':Type} {s:Yk} {d:K Zj} {L:K W} {on:H->A} {lv:W} {f:H->Zj->K Qp×A->Rd (Rd R' (K Qp×W×A) (K Qp×W)) (K Qp×A) (K Qp×A)} {e:H->K Qp×A->K Qp×A} {F:K Qp×W×A->Rd R' (K Qp×W×A) (K Qp×W)}
 (hf:Qi6 s d L on lv f) (he:∀k s,e k s=s) (hF:∀x,F x=bif x.2.2 then (Out.on (X4 f e d 0 (x.1,E)) λy=> .next (y.1,IntKind.i64.wrap (x.2.1+1),y.2)) else .brk (x.1,x.2.1))
 (hS:Qu d=(L,I)) {o:K Qp} (h:EvS d L on s.2.1 lv o) (p:W):
 ∃o' p',whl F (zE d*zE s.2.1+2) (o,p,I)=uA (.brk (o',p'))/\EvS d L on s.2.1 (lv+1) o':=by
 have hlen:o.length=d.length:=by have:=uN zE h.names;simpa using this
 have hroom:=Qfa s.2.1.length (NV L on lv) o 0;rw[hlen] at hroom
 obtain ⟨s',h1,hc,t,h2,h3⟩:=Qq1 (fs:=s.2.1) (idOf:=λf:Yj=>f.1) (m:=EQ d) (act:=NV L on lv) (nm:=d.map (·.1)) (F:=F) (out:=λx=>x.1) (ch:=λx=>x.2.2) (n:=d.length) (by simp)
  (λx hx=>⟨_,by rw[hF,hx,uE,ER hf he d 0 x.1 E rfl];rfl,by rw[List.range_eq_range']⟩)
  (λx hx=>⟨_,by rw[hF,hx,uC]⟩) (Qmu hS s.2.1 λk hk=>by unfold NV at hk;simp only[zK,uQ] at hk;exact hk.1) (o:=o) (zE d*zE s.2.1+2) (o,p,I) (Qfg h) (by simp only[uE];omega)
 have hc':s'.2.2=E:=hc;have hb:F s'= .brk (s'.1,s'.2.1):=by rw[hF,hc'];rfl
 rw[hb] at h2;cases h2
 exact ⟨s'.1,s'.2.1,h3,Qi5 h h1⟩
theorem KP {R T:Type} {d:K Zj} {L:K W} {on:H->A} {fs:K Yj} {g:Zj->K W} {f:H->Zj->K Qp->Rd R (K Qp) T} {e:H->K Qp->T} (hf:∀k a s,f k a s= .next (s++ [(a.1,g a)])) (hg:∀j,j<d.length->on j=I->g (nth d j)= []):
 X4 f e d 0 []= .brk (e d.length (d.map λa=>(a.1,g a)))/\EvS d L on fs 0 (d.map λa=>(a.1,g a)):=by
 refine ⟨by rw[Vi (g:=λa=>((a.1,g a):Qp)) hf];simp, ?_,λj _ hj=> ?_,λj hj hon=> ?_⟩
 . rw[wD];rfl
 . by_cases hjl:j<d.length
   . have:nth (d.map λa=>((a.1,g a):Qp)) j=((nth d j).1,g (nth d j)):=by simp[nth,xP,hjl]
     rw[this];exact hg j hjl hj
   have:nth (d.map λa=>((a.1,g a):Qp)) j=default:=by simp[nth,xP,hjl]
   rw[this];rfl
 have:nth (d.map λa=>((a.1,g a):Qp)) j=((nth d j).1,g (nth d j)):=by simp[nth,xP,hj]
 exact ⟨λ_=>E,by rw[this,hg j hj hon];simp[sel]⟩
theorem Lo {d:K Zj} (h:((Qu d)).2=I):zE ((Qu d)).1=zE d/\zE d<=5/\∀x,x∈((Qu d)).1->0<=x/\x<=5:=by
 have hS:Qu d=((Qu d).1,I):=Prod.ext rfl h;obtain ⟨hv,hlen,hs,h0⟩:=UJ hS;have h5:=Gh hv;refine ⟨hlen,h5,λx hx=> ?_⟩;obtain ⟨i,hi,rfl⟩:=EB hx;refine ⟨h0 i, ?_⟩;have hb:=Qfe hS i;omega
open GoE (enc wide)
def I3 (_:H) (a0:Zj) (s0:Z):Rd Z Z Z:=(.next (s0++ [a0.1]))
def I4 (_:H) (s0:Z):Z:=s0
def Zr (d:K Zj):Z:=(Out.on (X4 I3 I4 d 0 []) (λy0=>y0))
theorem AF (d:K Zj):ACalls Tryz.prog 143 [.h d] (.o 0 (Zr d)):=by
 refine en Qa Tryz.func143 λw0 F0 hG=> ?_
 refine sn Qa [0,2] [] p0 <| tn Qa [0,2,3] [] p0 <| Qb <| tu Qa [(2,.e 0),(3,.one (.slc (.own I 384) 1 [])),(7,.h d),(8,.i (d.length:W)),(9,.i 0)] [0] [] [] (pl 1 d p0) <| wT 7 0 .sh d (λhw1 hl2=> ?_)
 refine AB I3 I4 d [] (λk0 s0=> [(3,.o 147201 s0),(9,.i (k0:W))]) [3,9] (λy0=> [(3,.o 147351 y0)]) [3,7,8,9] (λk0 s0=>zE s0<=k0) (Xg [(384,147201)] (by kernel_rfl)) (by simp) (λk0 s0 O U=> ?_) (λk0 s0 O U=> ?_) (λy0 hD0=> ?_)
 ·have hA0_0:=U.2;obtain ⟨a0,V⟩:=Xh (l:=d) (i:=k0) O;refine sn Qa [2,3,7,8,9,10] [] (pe 0 (zB ((k0:W)<(d.length:W))) p0) <| Qb <| ckT <| Qf <| Qb <| Qo <| tn Qa [2,3,5,7,8,9] [5] (pn 0 V p0) <| wT 3 0 (.own I 147201) s0 (λhw3 hl4=> ?_)
  refine qu Qa [(3,.one (.slc (.own I 1088) 1 ((eL s0)++ [[.s a0.1]])))] [3] [] [] (pa s0 [a0.1] p0) ?_;refine eqn [(3,.o 1088 (s0++ [a0.1]))] [3] [] [] (by rw[show ((eL s0)++ [[.s a0.1]])=(eL (s0++ [a0.1])) from Jc (rfl) (rfl)];first | done | kernel_rfl) ?_;refine rn Qa [2,3,7,8,9] [] (pe 0 (Jl (Qn k0 (by omega))) p0) ?_;exact zQ (s0++ [a0.1]) (zT (Xg [(1088,147201)] (by kernel_rfl)) ⟨Qs V (rfl) U.1,by first|omega|(simp;omega) | simp⟩)
 ·have hA0_0:=U.2;exact sn Qa [2,3,7,8,9,10] [] (pe 0 (zC ((k0:W)<(d.length:W))) p0) <| Qb <| ckF <| Q4 <| zQ _ (zT (Xg [(147201,147351)] (by kernel_rfl)) (Xj O (rfl) U.1))
 exact sn Qa [2] [] p0 <| Qd <| po0 [] (Vp hD0 (rfl))
def Wq (v:D) (k0:H) (a0:D) (_:uB):Rd (W) (uB) (uB):=(bif (v.toList==a0.toList) then (.ret (k0:W)) else (.next ()))
def Hm (_:H) (_:uB):uB:=()
def Bd (s_:Z) (v:D):W:=(Out.on (X4 (Wq v) Hm s_ 0 ()) (λ_=> -1))
theorem Rq (s_:Z) (v:D):ACalls Tryz.prog 234 [.h s_,.s v] (.i (Bd s_ v)):=by
 refine en Qa Tryz.func234 λw0 F0 hG=> ?_
 refine sn Qa [0,1,4] [] p0 <| Qb <| tn Qa [0,1,4,7,8] [] (pl 1 s_ p0) <| mz [(4,.i 0),(7,.i (s_.length:W)),(8,.i 0)] [] [] [] <| wT 0 0 .sh s_ (λhw1 hl2=> ?_)
 refine R2 (Wq v) Hm s_ () (λk0 _=> [(8,.i (k0:W))]) [8] (λ_=> []) [0,1,7,8] wf0 (λk0 s0 O U=> ?_) (λk0 s0 O U=> ?_) (λy0 hD0=> ?_)
 ·obtain ⟨a0,V⟩:=Xh (l:=s_) (i:=k0) O;refine sn Qa [0,1,4,7,8,9] [] (pe 0 (zB ((k0:W)<(s_.length:W))) p0) <| Qb <| ckT <| Qf <| Qb <| Qo <| tn Qa [0,1,4,5,7,8] [] p0 <| tu Qa [(5,.i (k0:W)),(16,.b (v.toList==a0.toList))] [] [] [] (pn 3 V p0) <| ck (v.toList==a0.toList) (λh3=> ?_) (λh3=> ?_)
  ·refine sn Qa [0,1,4,7,8] [] p0 <| Qd ?_
   have hr4:(X4 (Wq v) Hm s_ 0 ())= .ret (k0:W):=Ka V (Q9 h3 (rfl)) U;exact pi [] (On hr4)
  refine Qf <| rn Qa [0,1,4,7,8] [] (pe 0 (Jl (Qn k0 (by omega))) p0) ?_
  exact xw _ (Qs V (Qj h3 (rfl)) U)
 ·exact sn Qa [0,1,4,7,8,9] [] (pe 0 (zC ((k0:W)<(s_.length:W))) p0) <| Qb <| ckF <| Q4 <| xw _ (Xj O (rfl) U)
 exact sn Qa [4] [] p0 <| Qd <| pi [] (Vp hD0 (rfl))
def Xn (s_:Z) (v:D):A:=decide ((Bd s_ v)>=(0:W))
theorem Ex (s_:Z) (v:D):ACalls Tryz.prog 188 [.h s_,.s v] (.b (Xn s_ v)):=by
 refine en Qa Tryz.func188 λw0 F0 hG=> ?_
 exact sn Qa [0,1,4] [] p0 <| tn Qa [4] [] (pc 2 (Rq s_ v) p0) <| Qd <| pb [] (show Xn s_ v=decide ((Bd s_ v)>=(0:W)) from rfl)
def Hb (x:K W) (k0:H) (s0:W):Rd (W) (W) (W):=(.next (max s0 (nth x (k0+1))))
def Dg (_:H) (s0:W):W:=s0
def Ig (x:K W):W:=(Out.on (Ks (Hb x) Dg (x.length-1) 0 (nth x 0)) (λy0=>y0))
theorem UL (x:K W) (hp:0<x.length):ACalls Tryz.prog 235 [.h x] (.i (Ig x)):=by
 refine en Qa Tryz.func235 λw0 F0 hG=> ?_
 refine sn Qa [0,2] [] p0 <| Qb <| tn Qa [0,2,7] [] (pl 1 x (pe 2 (show .b (decide ((x.length:W)<(1:W)))= .b E from Qm (uO (by omega))) p0)) <| ckF <| Qf <| wT 0 0 .sh x (λhw2 hl3=> ?_)
 have hx1:=ng x 0;refine tu Qa [(2,.i 0),(3,.i (nth x 0))] [] [] [] (pg 1 0 hx1 p0) <| Qb <| sn Qa [0,2,3,4] [] p0 <| mz [(4,.i 1)] [] [] [] <| Qqg (Hb x) Dg (x.length-1) (nth x 0) (λk0 s0=> [(3,.i s0),(4,.i ((k0+1:H):W))]) [3,4] (λy0=> [(3,.i y0)]) [0,3,4] wf0 (λk0 s0 O U=> ?_) (λk0 s0 O U=> ?_) (λy0 hD0=> ?_)
 ·refine Qb <| sn Qa [0,2,3,4,15] [] (pl 2 x (pe 3 (zB (((k0+1:H):W)<(x.length:W))) p0)) <| ckT <| Qf <| Qb <| Qo ?_
  have hx4:=ng x (k0+1);refine qn Qa [0,2,3,4] [] (pg 3 ((k0+1:H):W) hx4 p0) ?_;refine qu Qa [(3,.i (max s0 (nth x (k0+1)))),(4,.i ((k0+2:H):W))] [3,4] [] [] (pe 1 (show .i (IntKind.i64.wrap (((k0+1:H):W)+1))= .i ((k0+2:H):W) from Jl ((IntWalk.i64_in _ (by omega)).trans (by omega))) p0) ?_;exact xw _ (Z6 O (rfl) U)
 ·exact Qb <| sn Qa [0,2,3,4,15] [] (pl 2 x (pe 3 (zC (((k0+1:H):W)<(x.length:W))) p0)) <| ckF <| Q4 <| xw _ (U6 O (rfl) U)
 exact sn Qa [2] [] p0 <| Qd <| pi [] (Vp hD0 (rfl))
def Vc (d:K Zj):W:=(bif ((!(((Qu d)).2))|| (((((Qu d)).1).length:W)==(0:W))) then-1 else (Ig (((Qu d)).1)))
theorem Oa (d:K Zj):ACalls Tryz.prog 189 [.h d] (.i (Vc d)):=by
 refine en Qa Tryz.func189 λw0 F0 hG=> ?_
 refine sn Qa [0,2] [] p0 <| tn Qa [2,3,4] [] (pc 1 (Pn d) p0) <| Qb <| Qb <| mz [(2,.i 0),(3,.o 448 (((Qu d)).1)),(4,.b (((Qu d)).2))] [0] [] [] <| jn [(16,.b ((!(((Qu d)).2))|| (((((Qu d)).1).length:W)==(0:W))))] [4] [] [] (!(((Qu d)).2)) (λh1=> ?_) (λh1=> ?_) ?_
 ·have h1n:(((Qu d)).2)=E:=Vt h1;refine rn Qa [2,3,16] [] (pf 0 h1n (pe 1 (show .b (!E)= .b I from rfl) p0)) ?_;exact zA (by rw[h1]<;>kernel_rfl)
 ·have h1n:(((Qu d)).2)=I:=Zz h1;refine rn Qa [2,3,16] [] (pt 0 h1n (pe 1 (show .b (!I)= .b E from rfl) (pl 4 (((Qu d)).1) p0))) ?_;exact zA (by rw[h1]<;>kernel_rfl)
 refine ck ((!(((Qu d)).2))|| (((((Qu d)).1).length:W)==(0:W))) (λh2=> ?_) (λh2=> ?_)
 ·exact sn Qa [2,3] [] p0 <| Qd <| pi [] (Q9 h2 (rfl))
 have h2l:((!(((Qu d)).2)))=E:=JL h2;have h2ln:(((Qu d)).2)=I:=Zz h2l;have h2r:((((((Qu d)).1).length:W)==(0:W)))=E:=WL h2;have h2rd:=X0 h2r;exact Qf <| sn Qa [2] [] (pc 1 (UL (((Qu d)).1) (by first|omega|(simp_all;omega))) p0) <| Qd <| pi [] (Qj h2 (rfl))
def Hn (s2_:K W) (k0:H) (a0:W) (_:uB):Rd (A) (uB) (uB):=(bif (a0 !=(nth s2_ k0)) then (.ret E) else (.next ()))
def Be (_:H) (_:uB):uB:=()
def Vz (s1_:K W) (s2_:K W):A:=(bif ((s1_.length:W) !=(s2_.length:W)) then E else (Out.on (X4 (Hn s2_) Be s1_ 0 ()) (λ_=>I)))
theorem YT (s1_:K W) (s2_:K W):ACalls Tryz.prog 191 [.h s1_,.h s2_] (.b (Vz s1_ s2_)):=by
 refine en Qa Tryz.func191 λw0 F0 hG=> ?_
 refine sn Qa [0,1,4] [] p0 <| Qb <| tn Qa [0,1,4,10] [] (pl 1 s1_ (pl 3 s2_ p0)) <| ck ((s1_.length:W) !=(s2_.length:W)) (λh1=> ?_) (λh1=> ?_)
 ·exact tu Qa [(4,.b E)] [] [] [] p0 <| Qd <| pb [] (Q9 h1 (rfl))
 have h1d:=Uw h1;refine Qf <| Qb <| tu Qa [(4,.b E),(12,.i (s1_.length:W)),(13,.i 0)] [] [] [] (pl 1 s1_ p0) <| wT 0 0 .sh s1_ (λhw2 hl3=> ?_)
 refine R2 (Hn s2_) Be s1_ () (λk0 _=> [(13,.i (k0:W))]) [13] (λ_=> []) [0,1,12,13] wf0 (λk0 s0 O U=> ?_) (λk0 s0 O U=> ?_) (λy0 hD0=> ?_)
 ·obtain ⟨a0,V⟩:=Xh (l:=s1_) (i:=k0) O;refine su Qa [(14,.b I)] [] [] [] (pe 0 (zB ((k0:W)<(s1_.length:W))) p0) <| Qb <| ckT <| Qf <| Qb <| Qo <| sn Qa [0,1,4,5,12,13] [] p0 <| wT 1 0 .sh s2_ (λhw5 hl6=> ?_)
  have hx4:=ng s2_ k0;refine tN Qa Yo [0,1,4,12,13,24] [] (pn 2 V (pn 6 hx4 p0)) <| ck (a0 !=(nth s2_ k0)) (λh7=> ?_) (λh7=> ?_)
  ·refine tu Qa [] [14] [] [] p0 <| Qd ?_
   have hr8:(X4 (Hn s2_) Be s1_ 0 ())= .ret E:=Ka V (Q9 h7 (rfl)) U;exact pb [] (Qj h1 (On hr8))
  have h7d:=Uw h7;refine Qf <| qu Qa [(13,.i ((k0+1:H):W))] [13,14] [] [] (pe 0 (Jl (Qn k0 (by omega))) p0) ?_
  exact xw _ (Qs V (Qj h7 (rfl)) U)
 ·exact sn Qa [0,1,4,12,13,14] [] (pe 0 (zC ((k0:W)<(s1_.length:W))) p0) <| Qb <| ckF <| Q4 <| xw _ (Xj O (rfl) U)
 exact sn Qa [4] [] p0 <| Qd <| pb [] (Qj h1 (Vp hD0 (rfl)))
def Kf (r:K Qp) (names:Z) (_:H) (a0:Zj) (s0:K Qp):Rd ((K Qp)×W×A) (K Qp) (K Qp):=(bif (!(Xn names a0.1)) then (.next (s0++ [(a0.1,(Y2 r a0.1))])) else (.next (s0++ [((a0.1, []):Qp)])))
def Vl (_:H) (s0:K Qp):(K Qp):=s0
def V7 (s_:Yk) (d:K Zj) (names:Z) (k1:H) (k3:H) (a3:Zj) (s3:(K Qp)×A):Rd (Rd (Rd ((K Qp)×W×A) ((K Qp)×W) ((K Qp)×W)) ((K Qp)×W×A) ((K Qp)×W)) ((K Qp)×A) ((K Qp)×A):=(bif (((nth (((Qu d)).1) k3) !=(k1:W))|| (!(Xn names a3.1))) then (.next (s3.1,s3.2)) else (bif (!(Vz (Ze s_ a3.2 s3.1) ((nth s3.1 k3).2))) then (.next (zS s3.1 k3 ((nth s3.1 k3).1,(Ze s_ a3.2 s3.1)),I)) else (.next (s3.1,s3.2))))
def Dh (_:H) (s3:(K Qp)×A):(K Qp)×A:=(s3.1,s3.2)
def Vm (s_:Yk) (d:K Zj) (names:Z) (k1:H) (s2:(K Qp)×W×A):Rd (Rd ((K Qp)×W×A) ((K Qp)×W) ((K Qp)×W)) ((K Qp)×W×A) ((K Qp)×W):=(bif s2.2.2 then (Out.on (X4 (V7 s_ d names k1) Dh d 0 (s2.1,E)) (λy3=>(.next (y3.1,IntKind.i64.wrap (s2.2.1+1),y3.2)))) else (.brk (s2.1,s2.2.1)))
def V8 (s_:Yk) (d:K Zj) (names:Z) (k1:H) (s1:(K Qp)×W):Rd ((K Qp)×W×A) ((K Qp)×W) ((K Qp)×W):=(Out.on (Oo (Vm s_ d names k1) (zE d*zE s_.2.1+2) (s1.1,s1.2,I)) (λy2=>(.next (y2.1,y2.2))))
def Di (_:H) (s1:(K Qp)×W):(K Qp)×W:=(s1.1,s1.2)
def Z0 (s_:Yk) (d:K Zj) (r:K Qp) (names:Z):(K Qp)×W×A:=(bif ((!(((Qu d)).2))|| (!(Xk s_))) then ([],0,E) else (Out.on (X4 (Kf r names) Vl d 0 []) (λy0=>(Out.on (Ks (V8 s_ d names) Di ((Vc d)+1).toNat 0 (y0,0)) (λy1=>(y1.1,y1.2,I))))))
theorem Qkt {B:W} {x:K W} (hx:∀a,a∈x->a<=B) (hB:0<=B):∀(n k:H) (s:W),s<=B->∃t,Ks (Hb x) Dg n k s= .brk t/\t<=B
 | 0,k,s,h=>⟨s,rfl,h⟩
 | n +1,k,s,h=>by
   obtain ⟨t,h1,h2⟩:=Qkt hx hB n (k+1) (max s (nth x (k+1))) (by
    by_cases hk:k+1<x.length
    . have:=hx _ (PD hk);omega
    rw[WT (by omega)];omega)
   exact ⟨t,by simp only[Ks,Hb];exact h1,h2⟩
theorem QF {d:K Zj} (h:((Qu d)).2=I):zE ((Qu d)).1=zE d/\zE d<=5/\Vc d<=5:=by
 obtain ⟨h1,h2,h3⟩:=Lo h;refine ⟨h1,h2, ?_⟩;unfold Vc;rw[h];simp only[zZ,Bool.false_or];cases hl:(((((Qu d)).1).length:W)==(0:W)) with
 | true=>simp only[uE];omega
 | false=>
  simp only[uC];have hp:0<(((Qu d)).1).length:=by have:=X0 hl;omega
  unfold Ig;obtain ⟨t,e,ht⟩:=Qkt (B:=5) (x:=((Qu d)).1) (λa ha=>(h3 a ha).2) (by omega) ((((Qu d)).1).length-1) 0 (nth ((Qu d)).1 0) (h3 _ (PD hp)).2;rw[e];exact ht
theorem Qku (b:K W):∀(l:K W) (k:H),l.length=(b.drop k).length->Out.on (X4 (Hn b) Be l k ()) (λ_=>I)=decide (l=b.drop k)
 | [],k,h=>by
   have:b.drop k= []:=List.eq_nil_of_length_eq_zero (by rw[←h];rfl);rw[this];rfl
 | a ::l,k,h=>by
   have hk:k<b.length:=by simp only[zJ,yN] at h;omega
   have hd:b.drop k=nth b k::b.drop (k+1):=by
    rw[List.drop_eq_getElem_cons hk,show nth b k=b[k] by simp[nth,xP,hk]]
   rw[hd] at h⊢;simp only[X4,Hn];by_cases e:a=nth b k
   . rw[show (a !=nth b k)=E by simp[e],uC,Qku b l (k+1) (by simpa using h)];simp[e]
   rw[show (a !=nth b k)=I by simp[e],uE];simp[e,Out.on]
theorem Qoz (a b:K W) (h:a.length=b.length):Vz a b=decide (a=b):=by
 unfold Vz;rw[show ((a.length:W) !=(b.length:W))=E by simp[h],uC,Qku b a 0 (by simpa using h),List.drop_zero]
theorem Qfh (a b:K W):Vz a b=decide (a=b):=by
 by_cases h:a.length=b.length
 . exact Qoz a b h
 have hb:((a.length:W) !=(b.length:W))=I:=by simpa using λe:(a.length:W)=(b.length:W)=>h (by omega)
 unfold Vz;rw[hb,uO (λe=>h (uN zE e))];rfl
def onD (d:K Zj) (names:Z) (j:H):A:=Xn names (nth d j).1
theorem AG (s_:Yk) (d:K Zj) (names:Z) (k1:H):Qi6 s_ d (Qu d).1 (onD d names) (k1:W) (V7 s_ d names k1):=by
 intro k a o c hk;have ha:nth d k=a:=BS hk;unfold V7 NV onD;rw[ha,Qfh];simp only[bne];cases (nth (Qu d).1 k==(k1:W))<;>cases Xn names a.1<;>rfl
section
variable {s_:Yk} {d:K Zj} {names:Z} {k1:H} {o:K Qp} {p:W}
theorem Ih (hS:((Qu d)).2=I) (h:EvS d ((Qu d)).1 (onD d names) s_.2.1 (k1:W) o):∃o' p',whl (Vm s_ d names k1) (zE d*zE s_.2.1+2) (o,p,I)=uA (.brk (o',p'))/\EvS d ((Qu d)).1 (onD d names) s_.2.1 ((k1:W)+1) o':=
 Qks (f:=V7 s_ d names k1) (e:=Dh) (AG s_ d names k1) (λ_ _=>rfl) (λ_=>rfl) (Prod.ext rfl hS) h p
theorem PQ (hS:((Qu d)).2=I) (h:EvS d ((Qu d)).1 (onD d names) s_.2.1 (((k1:H)):W) o):(whl (Vm s_ d names k1) (zE d*zE s_.2.1+2) (o,p,I)).isSome=I:=by
 obtain ⟨o',p',h1,_⟩:=Ih (p:=p) hS h;rw[h1];rfl
theorem Fx {y:K Qp×W} (hS:((Qu d)).2=I) (h:EvS d ((Qu d)).1 (onD d names) s_.2.1 (((k1:H)):W) o) (hy:Oo (Vm s_ d names k1) (zE d*zE s_.2.1+2) (o,p,I)= .brk y):EvS d ((Qu d)).1 (onD d names) s_.2.1 ((((k1+1):H)):W) y.1:=by
 obtain ⟨o',p',h1,h2⟩:=Ih (p:=p) hS h;unfold Oo at hy;rw[h1] at hy;have e:(o',p')=y:=by simpa using hy
 rw[←e,xD];exact h2
def R9 (r:K Qp) (names:Z) (a:Zj):K W:=bif (!(Xn names a.1)) then (Y2 r a.1) else []
theorem Wr {r:K Qp} (hy:X4 (Kf r names) Vl d 0 []= .brk o):EvS d ((Qu d)).1 (onD d names) s_.2.1 (((0:H)):W) o:=by
 obtain ⟨h1,h2⟩:=KP (L:=((Qu d)).1) (on:=onD d names) (fs:=s_.2.1) (g:=R9 r names) (f:=Kf r names) (e:=Vl) (d:=d) (λk a s=>by
  unfold Kf R9;cases Xn names a.1<;>rfl) (λj _ hj=>by unfold onD at hj;unfold R9;rw[hj];rfl)
 rw[h1] at hy;have e:(d.map λa=>((a.1,R9 r names a):Qp))=o:=Out.brk.inj hy;rw[←e];exact h2
end
theorem UM (s_:Yk) (d:K Zj) (r:K Qp) (names:Z):ACalls Tryz.prog 142 [.a [.h s_.1,.h s_.2.1,.i s_.2.2],.h d,.h r,.h names] (.tup [(E, [.o 0 (((Z0 s_ d r names)).1)]),(E, [.i (((Z0 s_ d r names)).2.1)]),(E, [.b (((Z0 s_ d r names)).2.2)])]):=by
 refine en Qa Tryz.func142 λw0 F0 hG=> ?_
 refine sn Qa [1,2,3,4,8,9,10] [4] p0 <| tn Qa [1,2,3,4,8,9,10,11,12] [4] (pc 1 (Pn d) p0) <| Qb <| Qb <| mz [(4,.p 4 0),(8,.e 0),(9,.i 0),(10,.b E),(11,.o 1600 (((Qu d)).1)),(12,.b (((Qu d)).2))] [0] [(4, [.h s_.1,.h s_.2.1,.i s_.2.2])] [] <| jn [(34,.b ((!(((Qu d)).2))|| (!(Xk s_))))] [12] [] [] (!(((Qu d)).2)) (λh1=> ?_) (λh1=> ?_) ?_
 ·have h1n:(((Qu d)).2)=E:=Vt h1;refine ru Qa [(34,.b I)] [12] [] [] (pf 0 h1n (pe 1 (show .b (!E)= .b I from rfl) p0)) ?_;exact zA (by rw[h1]<;>kernel_rfl)
 ·have h1n:(((Qu d)).2)=I:=Zz h1;have h1nsf:=QF h1n;refine rn Qa [1,2,3,4,8,9,10,11,34] [4] (pt 0 h1n (pe 1 (show .b (!I)= .b E from rfl) (pc 4 (Hj s_) p0))) ?_;exact zA (by rw[h1]<;>kernel_rfl)
 refine ck ((!(((Qu d)).2))|| (!(Xk s_))) (λh2=> ?_) (λh2=> ?_)
 ·refine su Qa [] [34] [] [] p0 <| opn [(E,8,0,I,384000,2)] ?_
  exact Qd <| pz [] (show Z0 s_ d r names=_ from Q9 h2 (rfl)) (λz=> .tup [(E, [.o 0 z.1]),(E, [.i z.2.1]),(E, [.b z.2.2])])
 have h2l:((!(((Qu d)).2)))=E:=JL h2;have h2ln:(((Qu d)).2)=I:=Zz h2l;have h2lnsf:=QF h2ln;have h2r:((!(Xk s_)))=E:=WL h2;have h2rn:(Xk s_)=I:=Zz h2r;refine Qf <| sn Qa [1,2,3,4,8,9,10,11,13] [4] p0 <| Qb <| tn Qa [1,2,3,4,8,9,10,11,13,36,37,38] [4] (pl 1 d p0) <| mz [(13,.one (.slc (.own I 2240) 2 [])),(36,.h d),(37,.i (d.length:W)),(38,.i 0)] [34] [] [] <| wT 1 0 .sh d (λhw3 hl4=> ?_)
 refine AB (Kf r names) Vl d [] (λk0 s0=> [(13,.o 147208 s0),(38,.i (k0:W))]) [13,38] (λy0=> [(13,.o 147358 y0)]) [2,13,36,37,38] (λk0 s0=>zE s0<=k0) (Xg [(2240,147208)] (by kernel_rfl)) (by simp) (λk0 s0 O U=> ?_) (λk0 s0 O U=> ?_) (λy0 hD0=> ?_)
 ·have hA0_0:=U.2;obtain ⟨a0,V⟩:=Xh (l:=d) (i:=k0) O;refine su Qa [(39,.b I)] [] [] [] (pe 0 (zB ((k0:W)<(d.length:W))) p0) <| Qb <| ckT <| Qf <| Qb <| Qo <| su Qa [(15,.p 15 0)] [39] [(15, [.s a0.1,.h a0.2])] [] (pn 0 V p0) <| su Qa [(16,.p 16 0)] [] [(16, [.s a0.1,.e 1])] [] p0 <| Qb <| su Qa [(49,.b (!(Xn names a0.1)))] [] [] [] (pc 3 (Ex names a0.1) p0) <| ck (!(Xn names a0.1)) (λh5=> ?_) (λh5=> ?_)
  ·have h5n:(Xn names a0.1)=E:=Vt h5;refine rn Qa [1,2,3,4,8,9,10,11,13,16,36,37,38] [4,16] (pc 3 (Eu r a0.1) p0) ?_;refine wT 13 0 (.own I 147208) s0 (λhw6 hl7=> ?_);refine qu Qa [(13,.one (.slc (.own I 3712) 2 ((eL s0)++ [[.s a0.1,.h (Y2 r a0.1)]])))] [13,15,16,49] [] [15,16] (pa s0 [(a0.1,(Y2 r a0.1))] p0) ?_;refine eqn [(13,.o 3712 (s0++ [(a0.1,(Y2 r a0.1))]))] [13] [] [] (by rw[show ((eL s0)++ [[.s a0.1,.h (Y2 r a0.1)]])=(eL (s0++ [(a0.1,(Y2 r a0.1))])) from Jc (rfl) (rfl)];first | done | kernel_rfl) ?_;refine ru Qa [(38,.i ((k0+1:H):W))] [38] [] [] (pe 0 (Jl (Qn k0 (by omega))) p0) ?_;exact zQ (s0++ [(a0.1,(Y2 r a0.1))]) (zT (Xg [(3712,147208)] (by kernel_rfl)) ⟨Qs V (Q9 h5 (rfl)) U.1,by first|omega|(simp;omega) | simp⟩)
  have h5n:(Xn names a0.1)=I:=Zz h5;refine Qf <| wT 13 0 (.own I 147208) s0 (λhw8 hl9=> ?_)
  refine ru Qa [(13,.one (.slc (.own I 3712) 2 ((eL s0)++ [[.s a0.1,.slc 1 []]])))] [13,15,16,49] [] [15,16] (pa s0 [((a0.1, []):Qp)] p0) ?_;refine eqn [(13,.o 3712 (s0++ [((a0.1, []):Qp)]))] [13] [] [] (by rw[show ((eL s0)++ [[.s a0.1,.slc 1 []]])=(eL (s0++ [((a0.1, []):Qp)])) from Jc (rfl) (rfl)];first | done | kernel_rfl) ?_;refine ru Qa [(38,.i ((k0+1:H):W))] [38] [] [] (pe 0 (Jl (Qn k0 (by omega))) p0) ?_;exact zQ (s0++ [((a0.1, []):Qp)]) (zT (Xg [(3712,147208)] (by kernel_rfl)) ⟨Qs V (Qj h5 (rfl)) U.1,by first|omega|(simp;omega) | simp⟩)
 ·have hA0_0:=U.2;exact su Qa [(39,.b E)] [] [] [] (pe 0 (zC ((k0:W)<(d.length:W))) p0) <| Qb <| ckF <| Q4 <| zQ _ (zT (Xg [(147208,147358)] (by kernel_rfl)) (Xj O (rfl) U.1))
 refine su Qa [(17,.i 0)] [] [] [] p0 <| Qb <| su Qa [(18,.i 0)] [] [] [] p0 <| Qok (V8 s_ d names) Di ((Vc d)+1).toNat (y0,0) (λk1 s1=> [(13,.o 147358 s1.1),(17,.i s1.2),(18,.i (k1:W))]) [13,17,18] (λ_ _=> []) [] (λy1=> [(13,.o 147358 y1.1),(17,.i y1.2)]) [1,3,4,11,13,17,18] (λ_=> []) [4] (λk1 s1=>EvS d ((Qu d)).1 (onD d names) s_.2.1 (((k1:H)):W) s1.1/\zE s1.1=zE d) wf0 ⟨(by first | exact Wr hD0 | exact Wr hD0.1 | exact Gx (fs:=s_.2.1) (Wr hD0) | exact Gx (fs:=s_.2.1) (Wr hD0.1)),(by first | exact Wr hD0 | exact Wr hD0.1 | exact Gx (fs:=s_.2.1) (Wr hD0) | exact Gx (fs:=s_.2.1) (Wr hD0.1))⟩ (λk1 s1 hk1 hI1=> ?_) (λk1 s1 hk1 hI1=> ?_) (λy1 hD1=> ?_)
 ·have hA1_0:=hI1.2.1;have hA1_1:=hI1.2.2;refine Qb <| su Qa [(63,.b I)] [] [] [] (pc 2 (Oa d) (pe 3 (zB ((k1:W)<=(Vc d))) p0)) <| ckT <| Qf <| Qb <| Qo <| su Qa [(19,.b I)] [63] [] [] p0 <| blw (λ(s2:(K Qp)×W×A)=> [(13,.o 147358 s2.1),(17,.i s2.2.1),(19,.b s2.2.2)]) [13,17,19] (λs2=> []) [] (λ(y2:(K Qp)×W)=> [(13,.o 147358 y2.1),(17,.i y2.2)]) [13,17,19] (λy2=> []) [] (λ(k2:H) (s2:(K Qp)×W×A)=>whl (Vm s_ d names k1) k2 s2=uA (Oo (Vm s_ d names k1) (zE d*zE s_.2.1+2) (s1.1,s1.2,I))/\zE s2.1=zE d) (λ(y2:(K Qp)×W)=>(Oo (Vm s_ d names k1) (zE d*zE s_.2.1+2) (s1.1,s1.2,I))= .brk y2) (zE d*zE s_.2.1+2) (s1.1,s1.2,I) wf0 ⟨Nc (PQ (by assumption) (by assumption)),(by assumption)⟩ (λ_ h=>Rg h.1) (λk2 s2 hI2=> ?_) (λy2 hD2=> ?_)
  ·have hA2_0:=hI2.2;refine Qb <| su Qa [(66,.b s2.2.2)] [] [] [] p0 <| ck s2.2.2 (λh10=> ?_) (λh10=> ?_)
   ·refine Qf <| Qo <| su Qa [(19,.b E)] [19,66] [] [] p0 <| sn Qa [1,3,4,8,9,10,11,13,17,18,19] [4] p0 <| tn Qa [1,3,4,8,9,10,11,13,17,18,19,69,70,71] [4] (pl 1 d p0) <| mz [(17,.i (IntKind.i64.wrap (s2.2.1+1))),(69,.h d),(70,.i (d.length:W)),(71,.i 0)] [17] [] [] <| SV (V7 s_ d names k1) Dh d (s2.1,E) (λk3 s3=> [(13,.o 147358 s3.1),(19,.b s3.2),(71,.i (k3:W))]) [13,19,71] (λy3=> [(13,.o 147358 y3.1),(19,.b y3.2)]) [13,19,69,70,71] (λ_ s3=>zE s3.1=zE s2.1) (λy3=>zE y3.1=zE s2.1) wf0 (by simp) (λk3 s3 hk3 hI3=> ?_) (λk3 s3 hk3 hI3=> ?_) (λy3 hD3=> ?_)
    ·have hA3_0:=hI3.2;obtain ⟨a3,hx3⟩:=Xh (l:=d) (i:=k3) hk3;refine su Qa [(72,.b I)] [] [] [] (pe 0 (zB ((k3:W)<(d.length:W))) p0) <| Qb <| ckT <| Qf <| Qb <| Qo <| sn Qa [1,3,4,8,9,10,11,13,17,18,19,20,21,69,70,71] [4,21] (pn 1 hx3 p0) <| Qb <| Qb <| mz [(20,.i (k3:W)),(21,.p 21 0)] [72] [(21, [.s a3.1,.h a3.2])] [] <| jn [(88,.b (((nth (((Qu d)).1) k3) !=(k1:W))|| (!(Xn names a3.1))))] [] [] [] ((nth (((Qu d)).1) k3) !=(k1:W)) (λh11=> ?_) (λh11=> ?_) ?_
     ·have h11d:=Pe h11;refine wT 11 0 (.own I 1600) (((Qu d)).1) (λhw13 hl14=> ?_);have hx12:=ng (((Qu d)).1) k3;refine ru Qa [(88,.b I)] [] [] [] (pN 2 hx12 (pt 5 h11 p0)) ?_;exact zA (by rw[h11]<;>kernel_rfl)
     ·have h11d:=Uw h11;refine wT 11 0 (.own I 1600) (((Qu d)).1) (λhw16 hl17=> ?_);have hx15:=ng (((Qu d)).1) k3;refine ru Qa [(88,.b (!(Xn names a3.1)))] [] [] [] (pN 2 hx15 (pf 5 h11 (pc 10 (Ex names a3.1) p0))) ?_;exact zA (by rw[h11]<;>kernel_rfl)
     refine ck (((nth (((Qu d)).1) k3) !=(k1:W))|| (!(Xn names a3.1))) (λh18=> ?_) (λh18=> ?_)
     ·refine Q4 <| rn Qa [1,3,4,8,9,10,11,13,17,18,19,69,70,71] [4] (pe 0 (Jl (Qn k3 (by omega))) p0) ?_
      exact xw (s3.1,s3.2) ⟨Qs hx3 (Q9 h18 (rfl)) hI3.1,(by first|omega|(simp only[zM];omega))⟩
     have h18l:(((nth (((Qu d)).1) k3) !=(k1:W)))=E:=JL h18;have h18ld:=Uw h18l;have h18r:((!(Xn names a3.1)))=E:=WL h18;have h18rn:(Xn names a3.1)=I:=Zz h18r;refine Qf <| su Qa [(22,.o 5952 (Ze s_ a3.2 s3.1))] [21,88] [] [21] (pc 4 (YQ s_ a3.2 s3.1) p0) <| wT 13 0 (.own I 147358) s3.1 (λhw20 hl21=> ?_)
     have hx19:=ng s3.1 k3;refine sn Qa [1,3,4,8,9,10,11,13,17,18,19,20,22,69,70,71,101] [4] (pN 3 hx19 (pc 6 (YT (Ze s_ a3.2 s3.1) ((nth s3.1 k3).2)) p0)) <| ck (!(Vz (Ze s_ a3.2 s3.1) ((nth s3.1 k3).2))) (λh22=> ?_) (λh22=> ?_)
     ·have h22n:(Vz (Ze s_ a3.2 s3.1) ((nth s3.1 k3).2))=E:=Vt h22;refine tu Qa [(13,.one (.slc (.own I 147358) 2 (setRow (eL s3.1) k3 1 [.h (Ze s_ a3.2 s3.1)])))] [13,20,22] [] [] (pN 3 hx19 p0) <| eqn [(13,.o 147358 (zS s3.1 k3 ((nth s3.1 k3).1,(Ze s_ a3.2 s3.1))))] [13] [] [] (by rw[Ke (y:=((nth s3.1 k3).1,(Ze s_ a3.2 s3.1))) hx19 rfl]<;>kernel_rfl) ?_
      refine ru Qa [(19,.b I)] [19] [] [] p0 ?_;refine ru Qa [(71,.i ((k3+1:H):W))] [71] [] [] (pe 0 (Jl (Qn k3 (by omega))) p0) ?_;exact xw (zS s3.1 k3 ((nth s3.1 k3).1,(Ze s_ a3.2 s3.1)),I) ⟨Qs hx3 (Qj h18 (Q9 h22 (rfl))) hI3.1,(by first|omega|(simp only[zM];omega))⟩
     have h22n:(Vz (Ze s_ a3.2 s3.1) ((nth s3.1 k3).2))=I:=Zz h22;refine Qf <| qu Qa [(71,.i ((k3+1:H):W))] [20,22,71] [] [] (pe 0 (Jl (Qn k3 (by omega))) p0) ?_
     exact xw (s3.1,s3.2) ⟨Qs hx3 (Qj h18 (Qj h22 (rfl))) hI3.1,(by first|omega|(simp only[zM];omega))⟩
    ·have hA3_0:=hI3.2;exact su Qa [(72,.b E)] [] [] [] (pe 0 (zC ((k3:W)<(d.length:W))) p0) <| Qb <| ckF <| Q4 <| xw (s3.1,s3.2) ⟨Xj hk3 (rfl) hI3.1,by first|omega|(simp only[zM];omega)⟩
    have hD3_0:=hD3.2;exact xw (y3.1,IntKind.i64.wrap (s2.2.1+1),y3.2) ⟨wn hI2.1 (Q9 h10 (Vp hD3.1 (rfl))),(by first|omega|(simp only[zM];omega))⟩
   exact Q4 <| xw _ (wb hI2.1 (Qj h10 (rfl)))
  refine rn Qa [1,3,4,8,9,10,11,13,17,18] [4] (pe 1 (Jl (Qn k1 (by omega))) p0) ?_;exact xw (y2.1,y2.2) ⟨Z6 hk1 (Vp hD2 (rfl)) hI1.1,(by first | exact Fx (by assumption) (by assumption) (by assumption) | exact Gx (fs:=s_.2.1) (Fx (by assumption) (by assumption) (by assumption))),(by first | exact Fx (by assumption) (by assumption) (by assumption) | exact Gx (fs:=s_.2.1) (Fx (by assumption) (by assumption) (by assumption)))⟩
 ·have hA1_0:=hI1.2.1;have hA1_1:=hI1.2.2;exact Qb <| su Qa [(63,.b E)] [] [] [] (pc 2 (Oa d) (pe 3 (zC ((k1:W)<=(Vc d))) p0)) <| ckF <| Q4 <| xw _ (U6 hk1 (rfl) hI1.1)
 exact sn Qa [8,9,10] [] p0 <| Qd <| pz [] (show Z0 s_ d r names=_ from Qj h2 (Vp hD0 (Vp hD1 (rfl)))) (λz=> .tup [(E, [.o 0 z.1]),(E, [.i z.2.1]),(E, [.b z.2.2])])
def Jk (s_:Yk) (d:K Zj):(K Qp)×A:=(((Z0 s_ d [] (Zr d))).1,((Z0 s_ d [] (Zr d))).2.2)
theorem Sa (s_:Yk) (d:K Zj):ACalls Tryz.prog 95 [.a [.h s_.1,.h s_.2.1,.i s_.2.2],.h d] (.tup [(E, [.o 0 (((Jk s_ d)).1)]),(E, [.b (((Jk s_ d)).2)])]):=by
 refine en Qa Tryz.func95 λw0 F0 hG=> ?_
 exact sn Qa [1,2,4,5] [2] p0 <| tN Qa Yo [4,5,6,8] [] (pc 3 (AF d) (pc 4 (UI (.cons (ArgLe.rfl _) (.cons (ArgLe.rfl _) (.cons (ArgLe.nil 2) (.cons (ArgLe.rfl _) (.nil))))) (UM s_ d [] (Zr d))) p0)) <| tu Qa [(4,.o 896 (((Z0 s_ d [] (Zr d))).1)),(5,.b (((Z0 s_ d [] (Zr d))).2.2))] [0,1] [] [] p0 <| Qd <| pz [] (show Jk s_ d=(((Z0 s_ d [] (Zr d))).1,((Z0 s_ d [] (Zr d))).2.2) from rfl) (λz=> .tup [(E, [.o 0 z.1]),(E, [.b z.2])])
def Ut (_:H) (a0:W) (s0:W):Rd (W) (W) (W):=(bif decide (a0>s0) then (.next a0) else (.next s0))
def Ck (_:H) (s0:W):W:=s0
def Wl (d:K Zj):W:=(Out.on (X4 Ut Ck (((Yf d)).1) 0 (-1)) (λy0=>y0))
theorem Oc (d:K Zj):ACalls Tryz.prog 169 [.h d] (.i (Wl d)):=by
 refine en Qa Tryz.func169 λw0 F0 hG=> ?_
 refine sn Qa [0,2] [] p0 <| tn Qa [2,3] [] (pc 1 (Pm d) p0) <| tu Qa [(2,.i 0),(3,.o 576 (((Yf d)).1)),(5,.i (-1))] [0] [] [] p0 <| Qb <| sn Qa [2,3,5,6] [] p0 <| mz [(6,.i 0)] [] [] [] <| wT 3 0 (.own I 576) (((Yf d)).1) (λhw1 hl2=> ?_)
 refine R2 Ut Ck (((Yf d)).1) (-1) (λk0 s0=> [(5,.i s0),(6,.i (k0:W))]) [5,6] (λy0=> [(5,.i y0)]) [3,5,6] wf0 (λk0 s0 O U=> ?_) (λk0 s0 O U=> ?_) (λy0 hD0=> ?_)
 ·obtain ⟨a0,V⟩:=Xh (l:=((Yf d)).1) (i:=k0) O;refine Qb <| sn Qa [2,3,5,6,15] [] (pl 2 (((Yf d)).1) (pe 3 (zB ((k0:W)<((((Yf d)).1).length:W))) p0)) <| ckT <| Qf <| Qb <| Qo <| tn Qa [2,3,5,6,23] [] (pN 2 V p0) <| ck (decide (a0>s0)) (λh3=> ?_) (λh3=> ?_)
  ·have h3d:=uL h3;refine qu Qa [(5,.i a0)] [5] [] [] (pN 2 V p0) ?_;refine rn Qa [2,3,5,6] [] (pe 1 (Jl (Qn k0 (by omega))) p0) ?_;exact xw _ (Qs V (Q9 h3 (rfl)) U)
  have h3d:=uI h3;refine Qf <| qu Qa [(6,.i ((k0+1:H):W))] [6] [] [] (pe 1 (Jl (Qn k0 (by omega))) p0) ?_
  exact xw _ (Qs V (Qj h3 (rfl)) U)
 ·exact Qb <| sn Qa [2,3,5,6,15] [] (pl 2 (((Yf d)).1) (pe 3 (zC ((k0:W)<((((Yf d)).1).length:W))) p0)) <| ckF <| Q4 <| xw _ (Xj O (rfl) U)
 exact sn Qa [2] [] p0 <| Qd <| pi [] (Vp hD0 (rfl))
def Cl (_:H) (a0:Zj) (s0:K Qp):Rd ((K Qp)×W×A) (K Qp) (K Qp):=(.next (s0++ [((a0.1, []):Qp)]))
def Ey (_:H) (s0:K Qp):(K Qp):=s0
def Ho (s_:Yk) (d:K Zj) (k1:H) (k3:H) (a3:Zj) (s3:(K Qp)×A):Rd (Rd (Rd ((K Qp)×W×A) ((K Qp)×W) ((K Qp)×W)) ((K Qp)×W×A) ((K Qp)×W)) ((K Qp)×A) ((K Qp)×A):=(bif ((nth (((Yf d)).1) k3) !=(k1:W)) then (.next (s3.1,s3.2)) else (bif (!(W4 (Jg s_ a3.2 s3.1) ((nth s3.1 k3).2))) then (.next (zS s3.1 k3 ((nth s3.1 k3).1,(Jg s_ a3.2 s3.1)),I)) else (.next (s3.1,s3.2))))
def Ii (_:H) (s3:(K Qp)×A):(K Qp)×A:=(s3.1,s3.2)
def Uk (s_:Yk) (d:K Zj) (k1:H) (s2:(K Qp)×W×A):Rd (Rd ((K Qp)×W×A) ((K Qp)×W) ((K Qp)×W)) ((K Qp)×W×A) ((K Qp)×W):=(bif s2.2.2 then (Out.on (X4 (Ho s_ d k1) Ii d 0 (s2.1,E)) (λy3=>(.next (y3.1,IntKind.i64.wrap (s2.2.1+1),y3.2)))) else (.brk (s2.1,s2.2.1)))
def Ij (s_:Yk) (d:K Zj) (k1:H) (s1:(K Qp)×W):Rd ((K Qp)×W×A) ((K Qp)×W) ((K Qp)×W):=(Out.on (Oo (Uk s_ d k1) (zE d*zE s_.2.1+2) (s1.1,s1.2,I)) (λy2=>(.next (y2.1,y2.2))))
def QG (_:H) (s1:(K Qp)×W):(K Qp)×W:=(s1.1,s1.2)
def Uu (s_:Yk) (d:K Zj):(K Qp)×W×A:=(bif ((!(((Yf d)).2))|| (!(Z4 s_))) then ([],0,E) else (Out.on (X4 Cl Ey d 0 []) (λy0=>(Out.on (Ks (Ij s_ d) QG ((Wl d)+1).toNat 0 (y0,0)) (λy1=>(y1.1,y1.2,I))))))
theorem PR {B:W}:∀(x:K W) (k:H) (s:W),(∀a,a∈x->a<=B)->s<=B->∃t,X4 Ut Ck x k s= .brk t/\t<=B
 | [],k,s,_,h=>⟨s,rfl,h⟩
 | a::x,k,s,hx,h=>by
  simp only[X4,Ut];cases hc:decide (a>s) with
  | true=>exact PR x (k+1) a (λb hb=>hx b (zL _ hb)) (hx a (zG ..))
  | false=>exact PR x (k+1) s (λb hb=>hx b (zL _ hb)) h
theorem QH {d:K Zj} (h:((Yf d)).2=I):zE ((Yf d)).1=zE d/\zE d<=5/\Wl d<=5:=by
 have h':=h;rw[Af] at h';obtain ⟨h1,h2,h3⟩:=Lo h';unfold Wl;rw[Af];obtain ⟨t,e,ht⟩:=PR (B:=5) ((Qu d)).1 0 (-1) (λa ha=>(h3 a ha).2) (by omega);refine ⟨h1,h2, ?_⟩;rw[e];exact ht
theorem PS (s_:Yk) (d:K Zj) (k1:H):Qi6 s_ d (Qu d).1 (λ_=>I) (k1:W) (Ho s_ d k1):=by
 intro k a o c hk;unfold Ho NV;rw[TS,Af,←LN];simp only[bne];cases (nth (Qu d).1 k==(k1:W))<;>rfl
section
variable {s_:Yk} {d:K Zj} {k1:H} {o:K Qp} {p:W}
theorem CK (hS:((Yf d)).2=I) (h:EvS d ((Yf d)).1 (λ_=>I) s_.2.1 (k1:W) o):∃o' p',whl (Uk s_ d k1) (zE d*zE s_.2.1+2) (o,p,I)=uA (.brk (o',p'))/\EvS d ((Yf d)).1 (λ_=>I) s_.2.1 ((k1:W)+1) o':=by
 rw[Af] at hS h⊢;exact Qks (f:=Ho s_ d k1) (e:=Ii) (PS s_ d k1) (λ_ _=>rfl) (λ_=>rfl) (Prod.ext rfl hS) h p
theorem Qi7 (hS:((Yf d)).2=I) (h:EvS d ((Yf d)).1 (λ_=>I) s_.2.1 (((k1:H)):W) o):(whl (Uk s_ d k1) (zE d*zE s_.2.1+2) (o,p,I)).isSome=I:=by
 obtain ⟨o',p',h1,_⟩:=CK (p:=p) hS h;rw[h1];rfl
theorem Np {y:K Qp×W} (hS:((Yf d)).2=I) (h:EvS d ((Yf d)).1 (λ_=>I) s_.2.1 (((k1:H)):W) o) (hy:Oo (Uk s_ d k1) (zE d*zE s_.2.1+2) (o,p,I)= .brk y):EvS d ((Yf d)).1 (λ_=>I) s_.2.1 ((((k1+1):H)):W) y.1:=by
 obtain ⟨o',p',h1,h2⟩:=CK (p:=p) hS h;unfold Oo at hy;rw[h1] at hy;have e:(o',p')=y:=by simpa using hy
 rw[←e,xD];exact h2
theorem Ag (hy:X4 Cl Ey d 0 []= .brk o):EvS d ((Yf d)).1 (λ_=>I) s_.2.1 (((0:H)):W) o:=by
 obtain ⟨h1,h2⟩:=KP (L:=((Yf d)).1) (on:=λ_=>I) (fs:=s_.2.1) (g:=λ_=> []) (f:=Cl) (e:=Ey) (d:=d) (λk a s=>rfl) (λj _ hj=>rfl);rw[h1] at hy;have e:(d.map λa=>((a.1,([]:K W)):Qp))=o:=Out.brk.inj hy;rw[←e];exact h2
end
theorem LS (s_:Yk) (d:K Zj):ACalls Tryz.prog 120 [.a [.h s_.1,.h s_.2.1,.i s_.2.2],.h d] (.tup [(E, [.o 0 (((Uu s_ d)).1)]),(E, [.i (((Uu s_ d)).2.1)]),(E, [.b (((Uu s_ d)).2.2)])]):=by
 refine en Qa Tryz.func120 λw0 F0 hG=> ?_
 refine sn Qa [1,2,4,5,6] [2] p0 <| tn Qa [1,2,4,5,6,7,8] [2] (pc 1 (Pm d) p0) <| Qb <| Qb <| mz [(2,.p 2 0),(4,.e 0),(5,.i 0),(6,.b E),(7,.o 1152 (((Yf d)).1)),(8,.b (((Yf d)).2))] [0] [(2, [.h s_.1,.h s_.2.1,.i s_.2.2])] [] <| jn [(27,.b ((!(((Yf d)).2))|| (!(Z4 s_))))] [8] [] [] (!(((Yf d)).2)) (λh1=> ?_) (λh1=> ?_) ?_
 ·have h1n:(((Yf d)).2)=E:=Vt h1;refine ru Qa [(27,.b I)] [8] [] [] (pf 0 h1n (pe 1 (show .b (!E)= .b I from rfl) p0)) ?_;exact zA (by rw[h1]<;>kernel_rfl)
 ·have h1n:(((Yf d)).2)=I:=Zz h1;have h1nsf:=QH h1n;refine rn Qa [1,2,4,5,6,7,27] [2] (pt 0 h1n (pe 1 (show .b (!I)= .b E from rfl) (pc 4 (Bb s_) p0))) ?_;exact zA (by rw[h1]<;>kernel_rfl)
 refine ck ((!(((Yf d)).2))|| (!(Z4 s_))) (λh2=> ?_) (λh2=> ?_)
 ·exact sn Qa [1,2,4,5,6,7] [2] p0 <| Qd <| pz [] (show Uu s_ d=_ from Q9 h2 (rfl)) (λz=> .tup [(E, [.o 0 z.1]),(E, [.i z.2.1]),(E, [.b z.2.2])])
 have h2l:((!(((Yf d)).2)))=E:=JL h2;have h2ln:(((Yf d)).2)=I:=Zz h2l;have h2lnsf:=QH h2ln;have h2r:((!(Z4 s_)))=E:=WL h2;have h2rn:(Z4 s_)=I:=Zz h2r;refine Qf <| sn Qa [1,2,4,5,6,7,9] [2] p0 <| Qb <| tn Qa [1,2,4,5,6,7,9,10] [2] p0 <| mz [(9,.one (.slc (.own I 1856) 2 [])),(10,.i 0)] [27] [] [] <| wT 1 0 .sh d (λhw3 hl4=> ?_)
 refine AB Cl Ey d [] (λk0 s0=> [(9,.o 147206 s0),(10,.i (k0:W))]) [9,10] (λy0=> [(9,.o 147356 y0)]) [9,10] (λk0 s0=>zE s0<=k0) (Xg [(1856,147206)] (by kernel_rfl)) (by simp) (λk0 s0 O U=> ?_) (λk0 s0 O U=> ?_) (λy0 hD0=> ?_)
 ·have hA0_0:=U.2;obtain ⟨a0,V⟩:=Xh (l:=d) (i:=k0) O;refine Qb <| su Qa [(33,.b I)] [] [] [] (pl 2 d (pe 3 (zB ((k0:W)<(d.length:W))) p0)) <| ckT <| Qf <| Qb <| Qo <| wT 9 0 (.own I 147206) s0 (λhw5 hl6=> ?_)
  refine ru Qa [(9,.one (.slc (.own I 2880) 2 ((eL s0)++ [[.s a0.1,.slc 1 []]])))] [9,33] [] [] (pn 3 V (pa s0 [((a0.1, []):Qp)] p0)) ?_;refine eqn [(9,.o 2880 (s0++ [((a0.1, []):Qp)]))] [9] [] [] (by rw[show ((eL s0)++ [[.s a0.1,.slc 1 []]])=(eL (s0++ [((a0.1, []):Qp)])) from Jc (rfl) (rfl)];first | done | kernel_rfl) ?_;refine rn Qa [1,2,4,5,6,7,9,10] [2] (pe 1 (Jl (Qn k0 (by omega))) p0) ?_;exact zQ (s0++ [((a0.1, []):Qp)]) (zT (Xg [(2880,147206)] (by kernel_rfl)) ⟨Qs V (rfl) U.1,by first|omega|(simp;omega) | simp⟩)
 ·have hA0_0:=U.2;exact Qb <| su Qa [(33,.b E)] [] [] [] (pl 2 d (pe 3 (zC ((k0:W)<(d.length:W))) p0)) <| ckF <| Q4 <| zQ _ (zT (Xg [(147206,147356)] (by kernel_rfl)) (Xj O (rfl) U.1))
 refine su Qa [(11,.i 0)] [] [] [] p0 <| Qb <| su Qa [(12,.i 0)] [] [] [] p0 <| Qok (Ij s_ d) QG ((Wl d)+1).toNat (y0,0) (λk1 s1=> [(9,.o 147356 s1.1),(11,.i s1.2),(12,.i (k1:W))]) [9,11,12] (λ_ _=> []) [] (λy1=> [(9,.o 147356 y1.1),(11,.i y1.2)]) [1,2,7,9,11,12] (λ_=> []) [2] (λk1 s1=>EvS d ((Yf d)).1 (λ_=>I) s_.2.1 (((k1:H)):W) s1.1/\zE s1.1=zE d) wf0 ⟨(by first | exact Ag hD0 | exact Ag hD0.1 | exact Gx (fs:=s_.2.1) (Ag hD0) | exact Gx (fs:=s_.2.1) (Ag hD0.1)),(by first | exact Ag hD0 | exact Ag hD0.1 | exact Gx (fs:=s_.2.1) (Ag hD0) | exact Gx (fs:=s_.2.1) (Ag hD0.1))⟩ (λk1 s1 hk1 hI1=> ?_) (λk1 s1 hk1 hI1=> ?_) (λy1 hD1=> ?_)
 ·have hA1_0:=hI1.2.1;have hA1_1:=hI1.2.2;refine Qb <| su Qa [(49,.b I)] [] [] [] (pc 2 (Oc d) (pe 3 (zB ((k1:W)<=(Wl d))) p0)) <| ckT <| Qf <| Qb <| Qo <| su Qa [(13,.b I)] [49] [] [] p0 <| blw (λ(s2:(K Qp)×W×A)=> [(9,.o 147356 s2.1),(11,.i s2.2.1),(13,.b s2.2.2)]) [9,11,13] (λs2=> []) [] (λ(y2:(K Qp)×W)=> [(9,.o 147356 y2.1),(11,.i y2.2)]) [9,11,13] (λy2=> []) [] (λ(k2:H) (s2:(K Qp)×W×A)=>whl (Uk s_ d k1) k2 s2=uA (Oo (Uk s_ d k1) (zE d*zE s_.2.1+2) (s1.1,s1.2,I))/\zE s2.1=zE d) (λ(y2:(K Qp)×W)=>(Oo (Uk s_ d k1) (zE d*zE s_.2.1+2) (s1.1,s1.2,I))= .brk y2) (zE d*zE s_.2.1+2) (s1.1,s1.2,I) wf0 ⟨Nc (Qi7 (by assumption) (by assumption)),(by assumption)⟩ (λ_ h=>Rg h.1) (λk2 s2 hI2=> ?_) (λy2 hD2=> ?_)
  ·have hA2_0:=hI2.2;refine Qb <| su Qa [(52,.b s2.2.2)] [] [] [] p0 <| ck s2.2.2 (λh7=> ?_) (λh7=> ?_)
   ·refine Qf <| Qo <| su Qa [(13,.b E)] [13,52] [] [] p0 <| sn Qa [1,2,4,5,6,7,9,11,12,13] [2] p0 <| tn Qa [1,2,4,5,6,7,9,11,12,13,14] [2] p0 <| mz [(11,.i (IntKind.i64.wrap (s2.2.1+1))),(14,.i 0)] [11] [] [] <| SV (Ho s_ d k1) Ii d (s2.1,E) (λk3 s3=> [(9,.o 147356 s3.1),(13,.b s3.2),(14,.i (k3:W))]) [9,13,14] (λy3=> [(9,.o 147356 y3.1),(13,.b y3.2)]) [9,13,14] (λ_ s3=>zE s3.1=zE s2.1) (λy3=>zE y3.1=zE s2.1) wf0 (by simp) (λk3 s3 hk3 hI3=> ?_) (λk3 s3 hk3 hI3=> ?_) (λy3 hD3=> ?_)
    ·have hA3_0:=hI3.2;obtain ⟨a3,hx3⟩:=Xh (l:=d) (i:=k3) hk3;refine Qb <| su Qa [(58,.b I)] [] [] [] (pl 2 d (pe 3 (zB ((k3:W)<(d.length:W))) p0)) <| ckT <| Qf <| Qb <| Qo <| Qb <| wT 7 0 (.own I 1152) (((Yf d)).1) (λhw9 hl10=> ?_)
     have hx8:=ng (((Yf d)).1) k3;refine sn Qa [1,2,4,5,6,7,9,11,12,13,14,66] [2] (pN 2 hx8 p0) <| ck ((nth (((Yf d)).1) k3) !=(k1:W)) (λh11=> ?_) (λh11=> ?_)
     ·have h11d:=Pe h11;refine Q4 <| qn Qa [1,2,4,5,6,7,9,11,12,13,14] [2] (pe 1 (Jl (Qn k3 (by omega))) p0) ?_
      exact xw (s3.1,s3.2) ⟨Qs hx3 (Q9 h11 (rfl)) hI3.1,(by first|omega|(simp only[zM];omega))⟩
     have h11d:=Uw h11;refine Qf <| tN Qa Yo [1,2,4,5,6,7,9,11,12,13,14,15] [2] (pn 3 hx3 (pc 7 (YR s_ a3.2 s3.1) p0)) <| wT 9 0 (.own I 147356) s3.1 (λhw13 hl14=> ?_)
     have hx12:=ng s3.1 k3;refine tu Qa [(15,.o 4736 (Jg s_ a3.2 s3.1)),(82,.b (!(W4 (Jg s_ a3.2 s3.1) ((nth s3.1 k3).2))))] [58] [] [] (pN 3 hx12 (pc 6 (QC (Jg s_ a3.2 s3.1) ((nth s3.1 k3).2)) p0)) <| ck (!(W4 (Jg s_ a3.2 s3.1) ((nth s3.1 k3).2))) (λh15=> ?_) (λh15=> ?_)
     ·have h15n:(W4 (Jg s_ a3.2 s3.1) ((nth s3.1 k3).2))=E:=Vt h15;refine su Qa [(9,.one (.slc (.own I 147356) 2 (setRow (eL s3.1) k3 1 [.h (Jg s_ a3.2 s3.1)])))] [9,15,82] [] [] (pN 3 hx12 p0) <| eqn [(9,.o 147356 (zS s3.1 k3 ((nth s3.1 k3).1,(Jg s_ a3.2 s3.1))))] [9] [] [] (by rw[Ke (y:=((nth s3.1 k3).1,(Jg s_ a3.2 s3.1))) hx12 rfl]<;>kernel_rfl) ?_
      refine ru Qa [(13,.b I)] [13] [] [] p0 ?_;refine rn Qa [1,2,4,5,6,7,9,11,12,13,14] [2] (pe 1 (Jl (Qn k3 (by omega))) p0) ?_;exact xw (zS s3.1 k3 ((nth s3.1 k3).1,(Jg s_ a3.2 s3.1)),I) ⟨Qs hx3 (Qj h11 (Q9 h15 (rfl))) hI3.1,(by first|omega|(simp only[zM];omega))⟩
     have h15n:(W4 (Jg s_ a3.2 s3.1) ((nth s3.1 k3).2))=I:=Zz h15;refine Qf <| rn Qa [1,2,4,5,6,7,9,11,12,13,14] [2] (pe 1 (Jl (Qn k3 (by omega))) p0) ?_
     exact xw (s3.1,s3.2) ⟨Qs hx3 (Qj h11 (Qj h15 (rfl))) hI3.1,(by first|omega|(simp only[zM];omega))⟩
    ·have hA3_0:=hI3.2;exact Qb <| su Qa [(58,.b E)] [] [] [] (pl 2 d (pe 3 (zC ((k3:W)<(d.length:W))) p0)) <| ckF <| Q4 <| xw (s3.1,s3.2) ⟨Xj hk3 (rfl) hI3.1,by first|omega|(simp only[zM];omega)⟩
    have hD3_0:=hD3.2;exact xw (y3.1,IntKind.i64.wrap (s2.2.1+1),y3.2) ⟨wn hI2.1 (Q9 h7 (Vp hD3.1 (rfl))),(by first|omega|(simp only[zM];omega))⟩
   exact Q4 <| xw _ (wb hI2.1 (Qj h7 (rfl)))
  refine rn Qa [1,2,4,5,6,7,9,11,12] [2] (pe 1 (Jl (Qn k1 (by omega))) p0) ?_;exact xw (y2.1,y2.2) ⟨Z6 hk1 (Vp hD2 (rfl)) hI1.1,(by first | exact Np (by assumption) (by assumption) (by assumption) | exact Gx (fs:=s_.2.1) (Np (by assumption) (by assumption) (by assumption))),(by first | exact Np (by assumption) (by assumption) (by assumption) | exact Gx (fs:=s_.2.1) (Np (by assumption) (by assumption) (by assumption)))⟩
 ·have hA1_0:=hI1.2.1;have hA1_1:=hI1.2.2;exact Qb <| su Qa [(49,.b E)] [] [] [] (pc 2 (Oc d) (pe 3 (zC ((k1:W)<=(Wl d))) p0)) <| ckF <| Q4 <| xw _ (U6 hk1 (rfl) hI1.1)
 exact sn Qa [4,5,6] [] p0 <| Qd <| pz [] (show Uu s_ d=_ from Qj h2 (Vp hD0 (Vp hD1 (rfl)))) (λz=> .tup [(E, [.o 0 z.1]),(E, [.i z.2.1]),(E, [.b z.2.2])])
def V9 (s_:Yk) (d:K Zj):(K Qp)×A:=(((Uu s_ d)).1,((Uu s_ d)).2.2)
theorem Sb (s_:Yk) (d:K Zj):ACalls Tryz.prog 72 [.a [.h s_.1,.h s_.2.1,.i s_.2.2],.h d] (.tup [(E, [.o 0 (((V9 s_ d)).1)]),(E, [.b (((V9 s_ d)).2)])]):=by
 refine en Qa Tryz.func72 λw0 F0 hG=> ?_
 exact sn Qa [1,2,4,5] [2] p0 <| tn Qa [4,5,6,8] [] (pc 2 (LS s_ d) p0) <| tu Qa [(4,.o 768 (((Uu s_ d)).1)),(5,.b (((Uu s_ d)).2.2))] [0,1] [] [] p0 <| Qd <| pz [] (show V9 s_ d=(((Uu s_ d)).1,((Uu s_ d)).2.2) from rfl) (λz=> .tup [(E, [.o 0 z.1]),(E, [.b z.2])])
end
section
open Go.RowKit
theorem LT (v:D) (l:K D):Xn l v=I↔v∈l:=by
 unfold Xn Bd
 have key:∀(l:K D) (k:H),(0:W)<=((X4 (Wq v) Hm l k ()).on λ_=> -1)↔v∈l:=by
  intro l
  induction l with
  | nil=>intro k;simp[X4,Out.on]
  | cons a l ih=>
    intro k;simp only[X4,Wq];have hab:(v.toList==a.toList)=decide (v=a):=toList_inj;cases hc:(v.toList==a.toList) with
    | true=>
      obtain rfl:v=a:=by rw[hc] at hab;exact uL hab.symm
      simp[Out.on]
    | false=>
      have h:v≠a:=by rw[hc] at hab;exact uI hab.symm
      simp only[uC];refine (ih (k+1)).trans ?_;simp[h]
 exact decide_eq_true_iff.trans (key l 0)
theorem PT (d:K Zj):Zr d=d.map (·.1):=by
 unfold Zr;rw[Vi (f:=I3) (g:=λa:Zj=>a.1) (λ_ _ _=>rfl)];simp[Out.on,I4]
theorem Ps {d:K Zj} {i:H} {a:Zj} (h:d[i]? =uA a):Xn (Zr d) a.1=I:=by
 rw[LT,PT];exact yW.2 ⟨a,yE h,rfl⟩
theorem TT (x:K W):∀(n k:H) (s:W),k+1+n=x.length->Ks (Hb x) Dg n k s= .brk ((x.drop (k+1)).foldl max s)
 | 0,k,s,h=>by rw[List.drop_eq_nil_of_le (by omega)];rfl
 | n+1,k,s,h=>by
   have hg:x[k+1]? =uA (nth x (k+1)):=Cu (by omega);rw[DU hg];simp only[Ks,Hb,xS];exact TT x n (k+1) _ (by omega)
theorem UN:∀(x:K W) (k:H) (s:W),X4 Ut Ck x k s= .brk (x.foldl max s)
 | [],k,s=>rfl
 | a::x,k,s=>by
   simp only[X4,Ut,xS];by_cases h:a>s
   . rw[uR h,uE,show max s a=a by omega];exact UN x (k+1) a
   rw[uO h,uC,show max s a=s by omega];exact UN x (k+1) s
theorem ES (d:K Zj):Wl d=Vc d:=by
 unfold Wl Vc;rw[Af,UN];simp only[Out.on];cases hs:(Qu d).2 with
 | false=>
   have :(Qu d).1= []:=by
    unfold Qu at hs⊢;cases hv:Je d with
    | false=>rfl
    | true=>
      rw[hv] at hs;simp only[zZ,uC] at hs⊢;have h5:=Gh hv;have hw:=Mu (d:=d) (f:=Hh d) (e:=Hi) (F:=Wj d) (λ_ _ _=>rfl) (λ_ _=>rfl) (λ_=>rfl) (by omega) (d.length*d.length+3) (zH d.length 0) I (De _).1 (De _).2
      have hsome:(YJ (Kt d) d.length d.length (d.length*d.length+3) (I,zH d.length 0)).isSome=I:=by
       have:=Gi d h5;rw[zN,hw,xN] at this;exact this
      obtain ⟨r,hr⟩:=yP.1 hsome;unfold Oo at hs⊢;rw[zN,hw,hr] at hs⊢;cases r with
      | none=>rfl
      | some M=>simp[Qn1,Out.on] at hs
   rw[this];rfl
 | true=>
   obtain ⟨h1,h2,h3⟩:=Lo hs;simp only[zZ,Bool.false_or];generalize (Qu d).1=x at h3;cases x with
   | nil=>rfl
   | cons a x=>
     have h0:=(h3 a (zG ..)).1
     have e:((((a::x).length:H):W)==(0:W))=E:=by
      rw[uG,zJ];omega
     rw[e,uC];unfold Ig;rw[TT _ _ _ _ (by simp;omega)];simp only[Out.on,xS,yD,xF,List.drop_zero];have e2:nth (a::x) 0=a:=rfl;rw[show max (-1) a=a by omega,e2]
theorem Qo0 (s:Yk) (d:K Zj) (k1 k:H) (a:Zj) (t:K Qp×A) (h:d[k]? =uA a):Ho s d k1 k a t=V7 s d (Zr d) k1 k a t:=by
 unfold Ho V7;rw[Ps h,Af,←LN,TS,Qfh];simp
theorem Qo1 (s:Yk) (d:K Zj) (k1:H):Uk s d k1=Vm s d (Zr d) k1:=by
 funext t
 unfold Uk Vm;rw[Io (f:=Ho s d k1) (g:=V7 s d (Zr d) k1) (e:=Ii) (e':=Dh) (λ_ _=>rfl) d 0 _ (λi a t h=>by rw[yD];exact Qo0 s d k1 i a t h)]
theorem Qo2 (s:Yk) (d:K Zj):Uu s d=Z0 s d [] (Zr d):=by
 unfold Uu Z0;rw[Af,EF,ES];rw[Io (f:=Cl) (g:=Kf [] (Zr d)) (e:=Ey) (e':=Vl) (λ_ _=>rfl) d 0 _ (λi a t h=>by unfold Cl Kf;rw[Ps h];rfl)]
 congr 1
 congr 1
 funext y
 rw[show Ij s d=V8 s d (Zr d) from by funext k t;unfold Ij V8;rw[Qo1]];rfl
theorem UO (s:Yk) (d:K Zj):V9 s d=Jk s d:=by
 unfold V9 Jk;rw[Qo2]
theorem LU {s:Yk} {d:K Zj} {names:K D} {r:K Qp} (h:(Z0 s d r names).2.2=I):zE d<=5/\Xk s=I/\(Z0 s d r names).1.map (·.1)=d.map (·.1)/\∀j,j<d.length->onD d names j=I->∃p:Yj->A,(nth (Z0 s d r names).1 j).2=sel s.2.1 (λf=>f.1) p:=by
 unfold Z0 at h⊢;cases hc:((!(((Qu d)).2))|| (!(Xk s))) with
 | true=>rw[hc] at h;simp at h
 | false=>
   have hs:((Qu d)).2=I:=Zz (JL hc);have hv:Xk s=I:=Zz (WL hc);simp only[uC]
   obtain ⟨h1,h2⟩:=KP (L:=((Qu d)).1) (on:=onD d names) (fs:=s.2.1) (g:=R9 r names) (f:=Kf r names) (e:=Vl) (d:=d) (λk a s=>by
    unfold Kf R9;cases Xn names a.1<;>rfl) (λj _ hj=>by unfold onD at hj;unfold R9;rw[hj];rfl)
   rw[h1]
   have key:∀(n k:H) (o:K Qp) (p:W),EvS d ((Qu d)).1 (onD d names) s.2.1 (((k:H)):W) o->∃o' p',Ks (V8 s d names) Di n k (o,p)= .brk (o',p')/\EvS d ((Qu d)).1 (onD d names) s.2.1 (((k+n:H)):W) o':=by
    intro n
    induction n with
    | zero=>intro k o p ho;exact ⟨o,p,rfl,ho⟩
    | succ n ih=>
      intro k o p ho;obtain ⟨o1,p1,g1,g2⟩:=Ih (p:=p) hs ho;obtain ⟨o2,p2,g3,g4⟩:=ih (k+1) o1 p1 (by rw[xD];exact g2);refine ⟨o2,p2, ?_,by rw[show k+(n+1)=k+1+n by omega];exact g4⟩;simp only[Ks];unfold V8 Oo;rw[g1];exact g3
   obtain ⟨o,p,g1,g2⟩:=key (zO (Vc d+1)) 0 _ 0 h2;simp only[Out.on,Vl];rw[g1];exact ⟨(Lo hs).2.1,hv,g2.names,λj hj hon=>g2.some_ j hj hon⟩
theorem PU {s:Yk} {d:K Zj} (h:(Jk s d).2=I):zE d<=5/\Xk s=I/\(Jk s d).1.map (·.1)=d.map (·.1)/\∀x,x∈(Jk s d).1->∃p:Yj->A,x.2=sel s.2.1 (λf=>f.1) p:=by
 unfold Jk at h⊢;obtain ⟨h1,h2,h3,h4⟩:=LU h;refine ⟨h1,h2,h3,λx hx=> ?_⟩;obtain ⟨i,hi⟩:=yF hx;have hlen:(Z0 s d [] (Zr d)).1.length=d.length:=by have:=uN zE h3;simpa using this
 have hi':i<(Z0 s d [] (Zr d)).1.length:=(yC.1 hi).1;have hil:i<d.length:=by omega
 have:=h4 i hil (by unfold onD;exact Ps (Cu hil));rw[BS hi] at this;exact this
theorem PW {s:Yk} {d:K Zj} (h:(Jk s d).2=E):(Jk s d).1= []:=by
 unfold Jk at h⊢;unfold Z0 at h⊢;cases hc:((!(((Qu d)).2))|| (!(Xk s))) with
 | true=>rfl
 | false=>
   exfalso;have hs:((Qu d)).2=I:=Zz (JL hc);rw[hc] at h;simp only[uC] at h
   obtain ⟨h1,h2⟩:=KP (L:=((Qu d)).1) (on:=onD d (Zr d)) (fs:=s.2.1) (g:=R9 [] (Zr d)) (f:=Kf [] (Zr d)) (e:=Vl) (d:=d) (λk a s=>by
    unfold Kf R9;cases Xn (Zr d) a.1<;>rfl) (λj _ hj=>by unfold onD at hj;unfold R9;rw[hj];rfl)
   rw[h1] at h
   have key:∀(n k:H) (o:K Qp) (p:W),EvS d ((Qu d)).1 (onD d (Zr d)) s.2.1 (((k:H)):W) o->∃y,Ks (V8 s d (Zr d)) Di n k (o,p)= .brk y:=by
    intro n
    induction n with
    | zero=>intro k o p ho;exact ⟨_,rfl⟩
    | succ n ih=>
      intro k o p ho;obtain ⟨o1,p1,g1,g2⟩:=Ih (p:=p) hs ho;obtain ⟨y,g3⟩:=ih (k+1) o1 p1 (by rw[xD];exact g2);refine ⟨y, ?_⟩;simp only[Ks];unfold V8 Oo;rw[g1];exact g3
   obtain ⟨y,g1⟩:=key (zO (Vc d+1)) 0 _ 0 h2;simp only[Out.on,Vl] at h;rw[g1] at h;cases h
def CL (G:H->Prop) (L:K H):Inj:=⟨G,λk=>if k=63 then L else [],λ_=>0⟩
theorem Qi8 {P:uT} {tt:K (H×TI)} (htt:Fb P tt=I) {f:H} {fn:Func} {c:Code} (hf:P.funcs[f]? =uA fn) (hb:fn.body=uA c) (hok:F9 P f) {n:H} {l l':K (K PV)} {args:K AV}
 (hn:args.length+1<=fn.ntmps) (hk:∀x,x∈args->∀c,c∈x.cells->c.key=uD/\c.bkeys= []) {t:H} (hr:fn.results.toList= [.tmp t])
 (h:∀w0 F0,GoodAt P w0->AWP P fn.ntmps w0 F0 c (λe s=>(e= .ret\/e= .normal)/\∃k,get s.tm t=uA (.one (.slc (.own E k) n l'))) (YB (.one (.slc (.own E 63) n l)::args))):ATake P f n l args I E l':=by
 refine ⟨hok,λw F G L v vals hgood hFG hGF hGs hnd hLG hrow hargs=>calls_of_wp hf hb ?_⟩;have hlen:=hargs.length;have hGF:=hGF rfl;have hL0:(CL G L).L 63=L:=by show (if 63=63 then L else [])=L;simp
 refine wp_mono (h ⟨w,λb=>b∈L,uD⟩ G hgood (CL G L) _ w ?_) ?_
 . have hLk:∀k b,b∈(CL G L).L k->k=63/\b∈L:=λk b hm=>by
    have hm:b∈(if k=63 then L else []):=hm;split at hm
    . rename_i e;exact ⟨e,hm⟩
    simp at hm
   refine {below:=Base.Keeps.refl _,nodef:=rfl,size:= ?_,fl:=λb hb=>⟨hGs b hb,.inl hb⟩,f0:=λb hb=>hb,nd:=λk=> ?_,lo:=λk b hb=>⟨.inr (hLk k b hb).2,hLG b (hLk k b hb).2⟩,dj:=λk k' b hb hb'=>(hLk k b hb).1.trans (hLk k' b hb').1.symm,bo:=λk c hc=>by simp[YB,get] at hc,nb:= .inl rfl,cb:=(λb hb=>by cases hb),bi:=λk k' c c' hc=>by simp[YB,get] at hc,tm:=λt v' hv=> ?_}
   . simp;omega
   . show (if k=63 then L else []:K H).Nodup;split
     . exact hnd
     exact List.nodup_nil
   obtain ⟨_,ht⟩:=Pa hv
   have hall:All2 (AR (CL G L) w) (v::vals) (.one (.slc (.own E 63) n l)::args):=by
    refine .cons ?_ ?_
    . show OwnTop G ((CL G L).L 63) w v n l;rw[hL0];exact OwnTop.keep hrow (λb hb=>⟨hFG b hb,rfl⟩) λ_ _=>rfl
    have key:∀{vs:K uJ} {ys:K AV},All2 (AR (GE G) w) vs ys->(∀x,x∈ys->∀c,c∈x.cells->c.key=uD/\c.bkeys= [])->All2 (AR (CL G L) w) vs ys:=by
     intro vs ys ha
     induction ha with
     | nil=>intro _;exact .nil
     | cons h1 _ ih=>
       intro hx;refine .cons (h1.keep λc hc=> ?_) (ih λx hm=>hx x (zL _ hm));obtain ⟨e1,e2⟩:=hx _ (zG ..) c hc;exact ⟨λb hb=>⟨hb,rfl⟩,(λk hk=>by rw[e1] at hk;cases hk),(λk hk=>by rw[e2] at hk;simp at hk)⟩
    exact key hargs hk
   obtain ⟨u,hu,hr⟩:=hall.get' ht;have hlt:t<(v::vals).length:=(yC.1 hu).1
   have:((v::vals).toArray++Array.replicate (fn.ntmps-(v::vals).toArray.size) undef).getD t undef=u:=by
    rw[yL,Array.getElem?_append_left (by simpa using hlt)];simp at hu⊢;rw[hu];rfl
   rw[this];exact hr
 rintro e a' w' ⟨J',s',hR,he,k,hkk⟩
 have hres:∃u,(results fn a'.tmps).run P w'= .ok u w'/\AR J' w' u (.one (.slc (.own E k) n l')):=by
  obtain ⟨us,hrun,hall⟩:=Tr (P:=P) htt hR (rs:= [.tmp t]) (vs:= [.one (.slc (.own E k) n l')]) (by simp[ID,hkk]);rw[←hr] at hrun
  have hm:(fn.results.mapM (VZ a'.tmps)).run P w'= .ok us.toArray w':=by
   rw[Array.mapM_eq_mapM_toList];simp[hrun]
  have hgen:(results fn a'.tmps).run P w'= .ok (if h:us.toArray.size=1 then us.toArray[0] else .tuple us.toArray) w':=by
   rw[YC];simp only[Sem.run_bind,hm,Result.andThen_ok,Sem.run_pure]
  cases hall with
  | cons h1 h2=>
    cases h2
    exact ⟨_,by rw[hgen];simp,h1⟩
 obtain ⟨u,h1,h2⟩:=hres
 have hT:Qpx F L w n E l' (.returned u) w':=by
  refine ⟨u,rfl,λm hm hmL=>⟨hR.below.os,hR.below.tape,hR.below.output,hR.below.size,λj hj=>hR.below.block j (by show j<w.heap.size;omega) λhx=>by have:=hmL j hx;omega⟩,λb hb hn=>hR.below.block b hb hn,J'.L k,hR.nd k,λb hb=> ?_, ?_⟩
  . obtain ⟨h3,h4,_⟩:=hR.lo k b hb;exact ⟨h4,h3⟩
  have h2:OwnTop J'.F (J'.L k) w' u n l':=h2;refine OwnTop.keep h2 (λb hb=>⟨?_,rfl⟩) λ_ _=>rfl
  obtain ⟨h3,h4⟩:=hR.fl b hb;rcases h4 with h4 | h4 | h4
  . exact .inl (hGF b h4)
  . exact .inr ⟨.inl h4,h3,λhm=>(hR.lo k b hm).2.2 hb⟩
  exact .inr ⟨.inr h4,h3,λhm=>(hR.lo k b hm).2.2 hb⟩
 rcases he with rfl | rfl
 . exact ⟨hR.nodef,u,h1,hT⟩
 exact ⟨hR.nodef,u,h1,hT⟩
theorem Gj {a:Act} {t u:H} {v:uJ} (ht:t<a.tmps.size):(a.put (uA t) v).tmps.getD u undef=if u=t then v else a.tmps.getD u undef:=by
 simp only[Act.put,yL,Array.getElem?_setIfInBounds];by_cases h:u=t
 . subst h;simp[ht]
 simp[h,wA h]
theorem Qbs {a b:H}:xH a b=E↔¬a=b:=by
 cases h:xH a b with
 | true=>simp[xU h]
 | false=>simp;exact Nat.ne_of_beq_eq_false h
theorem Qi9 {a:Act} {t:H} {v:uJ} (h:a.tmps.getD t undef=v) (ht:t<a.tmps.size):a.put (uA t) v=a:=by
 have e:a.tmps.setIfInBounds t v=a.tmps:=by
  apply Array.ext
  . simp
  intro i h1 h2;rw[Array.getElem_setIfInBounds];split
  . rename_i e;subst e;rw[←h,yL,Array.getElem?_eq_getElem ht];rfl
  rfl
 show ({a with tmps:=a.tmps.setIfInBounds t v}:Act)=a;rw[e]
theorem TU:∀{vs:K uJ} {cs:K C},A4 vs cs=I->∃ps:K PV,ps.length=vs.length/\∀(X:H->Prop) (w:uP),VC X w vs ps
 | [], [],_=>⟨[],rfl,λ_ _=> .nil⟩
 | [],_::_,h=>by simp[A4] at h
 | _::_, [],h=>by simp[A4] at h
 | v ::vs,c::cs,h=>by
   simp only[A4,zK] at h;obtain ⟨ps,h1,h2⟩:=TU h.2;have hz:=h.1;unfold Ti at hz;split at hz
   . rename_i k _ _ _;simp only[zK,uS] at hz;obtain ⟨⟨rfl,rfl⟩,rfl⟩:=hz;exact ⟨.int k 0::ps,by simp[h1],λX w=> .cons (.int (by cases k<;>simp[InR,IntKind.min,IntKind.max,IntKind.bits,IntKind.signed])) (h2 X w)⟩
   . rename_i b _;exact ⟨.bool b::ps,by simp[h1],λX w=> .cons (.bool b) (h2 X w)⟩
   . rename_i s _;have hs:s.size=0:=by simp only[zK] at hz;exact xU hz.1
     exact ⟨.str s::ps,by simp[h1],λX w=> .cons (.str (by rw[hs];exact zV _)) (h2 X w)⟩
   . rename_i n;exact ⟨.slc n []::ps,by simp[h1],λX w=> .cons (.emp uD n (zV _)) (h2 X w)⟩
   cases hz
theorem TV {X:H->Prop} {w:uP} {n:H} {vs:K uJ} {ps:K PV} (h:VC X w vs ps) (hn:ps.length=n):∀m,VR X w n (zH m vs).flatten (zH m ps)
 | 0=> .nil n
 | m+1=>by
   rw[xX,xX,yZ];exact .cons h hn (TV h hn m)
theorem Qbt {z:uU uJ} {m:H}:(Builtin.zeroCells z m).toList=(zH m z.toList).flatten:=by
 have key:∀(l:K uJ) (m:H),(List.range (m*l.length)).map (λi=>l[i % l.length]!)=(zH m l).flatten:=by
  intro l m
  induction m with
  | zero=>simp
  | succ m ih=>
    rw[Nat.succ_mul,List.range_add,List.map_append,ih,List.replicate_succ',List.flatten_append]
    congr 1
    simp only[wD,yZ,List.flatten_nil,xE];apply List.ext_getElem
    . simp
    intro i h1 h2;simp only[zU,List.length_range] at h1;simp[Nat.mul_add_mod_self_right,Nat.mod_eq_of_lt h1,h2]
 rw[←key z.toList m];unfold Builtin.zeroCells;rw[Array.toList_map,Array.toList_range];apply List.map_congr_left;intro i _;simp only[xG,getElem!_def,Array.getElem?_toList]
theorem Qja {vs:K uJ} {cs:K C} (h:A4 vs cs=I):∀v,v∈vs->v.oneCell'=I:=by
 induction vs generalizing cs with
 | nil=>intro v hv;simp at hv
 | cons v vs ih=>
   cases cs with
   | nil=>simp[A4] at h
   | cons c cs=>
     simp only[A4,zK] at h;intro u hu;rcases yJ.1 hu with rfl | hu
     . have hz:=h.1;unfold Ti at hz;split at hz<;>first | rfl | cases hz
     exact ih h.2 u hu
section
variable {P:uT} {N:H} {w0:Base} {F0:H->Prop} {J:Inj} {a:Act} {w:uP} {s:St} {Q:Exit->St->Prop}
theorem Rel.aside (h:Rel N w0 F0 J a w s) {d:H} (hd:d<N) (hn:get s.tm d=uD) (v:uJ):Rel N w0 F0 J (a.put (uA d) v) w s:=
 (h.pure (uA d) (λd' e=>by cases e;exact hd) (.one .dead) v (λ_=>trivial)).less (λt x hx=>by
  show get (ins d _ s.tm) t=uA x;rw[Sp,uK (λe=>by subst e;rw[hn] at hx;cases hx)];exact hx) (λ_ _ h=>h)
theorem Qfi {tt:K (H×TI)} (htt:Fb P tt=I) {sty ety z1:H} {z2:K C} {z3:K LK} {ti:TI} (g1:get tt sty=uA ⟨.sli ety,z1,z2,z3⟩) (g2:get tt ety=uA ti)
 {g cap m i n:H} {cur:uU uJ} {e:uV} (hn:ti.size=n) (hg:w.heap[g]? =uA (.cells cur e (0,0))) (hs:cur.size=cap*n) (hi:i<m) (hm:m<=cap) (ty:uV):
 ∃ zs:K uJ,∃ps:K PV,zs.length=n/\ps.length=n/\(∀(X:H->Prop) (w:uP),VC X w zs ps)/\
   (Builtin.clear_ #[sty] ty #[.slice (uA ⟨g,i*n,uD⟩) (m-i) (cap-i)]).run P w= .ok (.tuple #[]) (w.setRow g (cur.toList.take (i*n)++(zH (m-i) zs).flatten++cur.toList.drop (i*n+(m-i)*n)).toArray):=by
 obtain ⟨inf,z,hI,hsz,_,hz,hzs,hzo⟩:=(Z8 htt g2).info;obtain ⟨ps,p1,p2⟩:=TU hzo;have hu:=(Z8 htt g1).sli;have hzl:z.cells.toList.length=n:=by simpa [hn] using hzs
 refine ⟨z.cells.toList,ps,hzl,by rw[p1,hzl],p2, ?_⟩;obtain ⟨q,hq⟩:∃q,m-i=q+1:=⟨m-i-1,by omega⟩
 have hfl:((zH (m-i) z.cells.toList).flatten).length=(m-i)*n:=by
  rw[xY,List.map_replicate,hzl];simp
 have h3:i*n+(m-i)*n<=cap*n:=by rw[←xV];exact yM n (by omega)
 have hst:=run_storeCells_at P g (i*n) e ((zH (m-i) z.cells.toList).flatten) 0 cur w hg (by rw[hfl,hs];simpa using h3) (λv hv=>by
  obtain ⟨l,hl,hv⟩:=List.mem_flatten.1 hv;rw[List.eq_of_mem_replicate hl] at hv;exact Qja hzo v hv)
 simp only[wC,hfl] at hst;rw[hq] at hst⊢;simp[Builtin.clear_,run_underlying hu,zeroValue,Um hI,hz,Qbt,hst]
theorem Qfj {tt:K (H×TI)} (htt:Fb P tt=I) {id:H} {ops:uU Oper} {t0 t5 d1 d2 d3 sty ety z1:H} {z2:K C} {z3:K LK} {ti:TI} {y1 y2 y3 y4:uV} {q1 q2 q3 q4:String} {f1 f2 f3 f4:uU Edge}
 (hops:ops= #[⟨uA d1,.move (.tmp t0),y1,q1,f1,uD⟩,⟨uA d2,.move (.tmp t5),y2,q2,f2,uD⟩,⟨uA d3,.slice sty (.tmp d1) (uA (.tmp d2)) uD uD,y3,q3,f3,uD⟩,⟨uD,.call {callee:= .builtin .clear,args:= #[.tmp d3],argTypes:= #[sty]},y4,q4,f4,uD⟩])
 (hN:(Nat.blt d1 N&&Nat.blt d2 N&&Nat.blt d3 N&&Nat.blt t0 N&& !(xH d1 t0)&& !(xH d1 t5)&& !(xH d2 t0)&& !(xH d2 t5)&& !(xH d3 t0)&& !(xH d3 t5)&& !(xH d1 d2)&& !(xH t0 t5))=I)
 (g1:get tt sty=uA ⟨.sli ety,z1,z2,z3⟩) (g2:get tt ety=uA ti) {k n:H} {l:K (K PV)} (hk:get s.tm t0=uA (.one (.slc (.own E k) n l))) (hn:ti.size=n) {i:W} (hi:get s.tm t5=uA (.one (.int .i64 i))) (h0:0<=i) (hl:i<l.length)
 (hQ:∀l',l'.length=l.length->l'.take i.toNat=l.take i.toNat->Q .normal ⟨[(t0,.one (.slc (.own E (64*t0)) n l')),(t5,.one (.int .i64 i))], []⟩):AWP P N w0 F0 (.region id ops E) Q s:=λJ a w hr=>by
 simp only[zK,Nat.blt_eq,Bool.not_eq_true',Qbs] at hN;obtain ⟨⟨⟨⟨⟨⟨⟨⟨⟨⟨⟨m1,m2⟩,m3⟩,m0⟩,n1⟩,n2⟩,n3⟩,n4⟩,n5⟩,n6⟩,n7⟩,n8⟩:=hN;obtain ⟨j,rfl⟩:∃j:H,i=(j:W):=⟨i.toNat,by omega⟩;have hj:j<l.length:=by omega
 have e0:CR J w (a.tmps.getD t0 undef) (.slc (.own E k) n l):=hr.tm t0 _ hk;have e5:CR J w (a.tmps.getD t5 undef) (.int .i64 (j:W)):=hr.tm t5 _ hi;obtain ⟨e5,_⟩:=e5;rcases (show OwnTop J.F (J.L k) w _ n l from e0) with ⟨e,_⟩ | ⟨g,cap,cur,e,hL,e0,hg,hs,hvr,hlc,hcap⟩
 . rw[e] at hj;simp at hj
 obtain ⟨zs,ps,hzl,hpl,hzv,hrun⟩:=Qfi (P:=P) (w:=w) htt g1 g2 hn hg hs hj hlc y4;have hu:=(Z8 htt g1).sli;have hsz:=D7 (P:=P) (Z8 htt g2) w;rw[hn] at hsz
 have hr5:Rel N w0 F0 J a w ⟨[(t5,.one (.int .i64 (j:W)))], []⟩:=hr.less (λt v hv=>by
  simp only[get] at hv;split at hv
  . rename_i e;subst e;rw[hi];exact hv
  cases hv) (λk c hc=>by cases hc)
 have no:∀d,¬d=t5->get (⟨[(t5,.one (.int .i64 (j:W)))], []⟩:St).tm d=uD:=λd hd=>by
  show (if t5=d then _ else _)=uD;rw[uK (λe=>hd e.symm)];rfl
 have s0:=hr.size;have hr1:=(hr5.aside m1 (no _ n2) (.slice (uA ⟨g,0,uD⟩) l.length cap)).aside m2 (no _ n4) (.int .i64 (j:W));have hr3:=hr1.aside m3 (no _ n6) (.slice (uA ⟨g,0+j*n,uD⟩) (l.length-j) (cap-j));subst hops;refine wp_region ?_;show wpOps P _ (QX N w0 F0 Q) [0,1,2,3] a w;rw[wpOps_cons];unfold wpOp;simp only[yK,yG];rw[uH (by simp[Region.wanted])];refine .inl (Ua (v:= .slice (uA ⟨g,0,uD⟩) l.length cap) (w':=w) (by simp[execOp,e0,Act.eval]) ?_);rw[wpOps_cons];unfold wpOp;simp only[yK,yV,yG];rw[uH (by simp[Region.wanted])];have e5':(a.put (uA d1) (.slice (uA ⟨g,0,uD⟩) l.length cap)).tmps.getD t5 undef= .int .i64 (j:W):=(Gj (by omega)).trans ((uK (λe=>n2 e.symm)).trans e5);refine .inl (Ua (v:= .int .i64 (j:W)) (w':=w) (by simp[execOp,e5',Act.eval]) ?_);rw[wpOps_cons];unfold wpOp;simp only[yK,yV,yG];rw[uH (by simp[Region.wanted])];have hs1:(a.put (uA d1) (.slice (uA ⟨g,0,uD⟩) l.length cap)).tmps.size=N:=by simp[Act.put,s0]
 have ea:((a.put (uA d1) (.slice (uA ⟨g,0,uD⟩) l.length cap)).put (uA d2) (.int .i64 (j:W))).eval (.tmp d1)= .slice (uA ⟨g,0,uD⟩) l.length cap:=(Gj (by omega)).trans ((uK n7).trans ((Gj (by omega)).trans (uH rfl)));have eb:((a.put (uA d1) (.slice (uA ⟨g,0,uD⟩) l.length cap)).put (uA d2) (.int .i64 (j:W))).eval (.tmp d2)= .int .i64 (j:W):=(Gj (by omega)).trans (uH rfl)
 have hsb:(Instr.sliceBounds I l.length cap (uA (.int .i64 (j:W))) uD uD).run P w= .ok (j,l.length,cap) w:=by
  have e4:∀c,(Instr.sliceBound (.int .i64 (j:W)) l.length c).run P w= .ok j w:=λc=>by
   have:=Rc (P:=P) (w:=w) (k:= .i64) (lo:=(j:W)) (Y:=c) (y:=l.length) (by omega) (by omega);simpa using this
  unfold Instr.sliceBounds;simp only[Sem.run_bind,Sem.run_pure,Result.andThen_ok];simp[e4]
 refine .inl (Ua (v:= .slice (uA ⟨g,0+j*n,uD⟩) (l.length-j) (cap-j)) (w':=w) (by
  have hca:cap≠j:=by omega
  simp[execOp,ea,eb,Instr.sliceAt,run_underlying hu,Instr.slice,hsb,hsz,hca,Addr.add_lit]) ?_)
 rw[wpOps_cons];unfold wpOp;simp only[yK,yV,yG];rw[uH (by simp[Region.wanted])];generalize ha2:((a.put (uA d1) (.slice (uA ⟨g,0,uD⟩) l.length cap)).put (uA d2) (.int .i64 (j:W)))=a2 at*;have s2:a2.tmps.size=N:=hr1.size;have ec:(a2.put (uA d3) (.slice (uA ⟨g,0+j*n,uD⟩) (l.length-j) (cap-j))).eval (.tmp d3)= .slice (uA ⟨g,j*n,uD⟩) (l.length-j) (cap-j):=(Gj (by omega)).trans ((uH rfl).trans (by simp));have ec:=ec;simp only[yD] at ec
 refine .inl (Ua (v:= .tuple #[]) (w':=w.setRow g (cur.toList.take (j*n)++(zH (l.length-j) zs).flatten++cur.toList.drop (j*n+(l.length-j)*n)).toArray) (by
  simp[execOp,resolve,invoke,builtin,ec,hrun]) ?_)
 generalize ha3:a2.put (uA d3) (.slice (uA ⟨g,0+j*n,uD⟩) (l.length-j) (cap-j))=a3 at*;show QX N w0 F0 Q .normal a3 _
 have e03:a3.tmps.getD t0 undef= .slice (uA ⟨g,0,uD⟩) l.length cap:=by
  rw[←ha3];refine (Gj (by omega)).trans ((uK (λe=>n5 e.symm)).trans ?_);rw[←ha2];exact (Gj (by omega)).trans ((uK (λe=>n3 e.symm)).trans ((Gj (by omega)).trans ((uK (λe=>n1 e.symm)).trans e0)))
 have hgk:g∈J.L k:=by rw[hL];exact zG
 have hgF:¬J.F g:=(hr.lo k g hgk).2.2;generalize hw':w.setRow g (cur.toList.take (j*n)++(zH (l.length-j) zs).flatten++cur.toList.drop (j*n+(l.length-j)*n)).toArray=w';have hgw:w'.heap[g]? =uA (.cells (cur.toList.take (j*n)++(zH (l.length-j) zs).flatten++cur.toList.drop (j*n+(l.length-j)*n)).toArray e (0,0)):=by rw[←hw'];exact setRow_heap w g cur _ e (0,0) hg
 have hother:∀b,b≠g->w'.heap[b]? =w.heap[b]? :=λb hb=>by rw[←hw'];exact setRow_other w g b _ hb
 have hsize:w'.heap.size=w.heap.size:=by rw[←hw'];simp[World.setRow]
 have hbelow:w0.Keeps w':=by
  refine hr.below.step (by rw[←hw'];rfl) (by rw[←hw'];rfl) (by rw[←hw'];rfl) (by omega) λb _ hnl=>hother b λe=> ?_
  exact hnl (e▸(hr.lo k g hgk).1)
 have hfl:((zH (l.length-j) zs).flatten).length=(l.length-j)*n:=by
  rw[xY,List.map_replicate,hzl];simp
 have hsum:j*n+(l.length-j)*n=l.length*n:=by rw[←xV];congr 1;omega
 have hle:l.length*n<=cap*n:=yM n hlc;have hcl:cur.toList.length=cap*n:=by simpa using hs
 have hjn:j*n<=cap*n:=yM n (by omega);have htl:(l.take j++zH (l.length-j) ps).length=l.length:=by simp;omega
 have hown:OwnTop (To J w w' (64*t0) k [] [g]).F [g] w' (.slice (uA ⟨g,0,uD⟩) l.length cap) n (l.take j++zH (l.length-j) ps):=by
  refine .inr ⟨g,cap,_,e,rfl,by rw[htl],hgw, ?_, ?_,by rw[htl];exact hlc,by rw[htl];exact hcap⟩
  . simp only[List.size_toArray,xI,hfl,xC,yN,hcl];omega
  rw[htl]
  have:((cur.toList.take (j*n)++(zH (l.length-j) zs).flatten++cur.toList.drop (j*n+(l.length-j)*n)).toArray.toList.take (l.length*n))=cur.toList.take (j*n)++(zH (l.length-j) zs).flatten:=by
   show ((_:K uJ)++_++_).take _=_
   have hln:(cur.toList.take (j*n)++(zH (l.length-j) zs).flatten).length=l.length*n:=by
    simp only[xI,hfl,xC,hcl];omega
   rw[List.take_append_of_le_length (by omega),xQ (by omega)]
  rw[this];refine VR.append (TV (hzv _ _) hpl _) (VR.keep (X:=J.F) (w:=w) (λb hb=>⟨.inl hb,hother b λe=>hgF (e▸hb)⟩) ?_);have h3:=hvr.take j
  rwa [List.take_take,Nat.min_eq_left (by omega)] at h3
 have hR:=VT hr3 (t:=t0) (k:=k) (n:=n) m0 (frz:= []) (L':= [g]) (by simp) (w':=w') (u:= .slice (uA ⟨g,0,uD⟩) l.length cap) (l':=l.take j++zH (l.length-j) ps) (d:=E) hbelow (by omega) (λb hb hn=>hother b λe=>hn (e▸hgk)) (by simp) (λb hb=>by
  obtain rfl:=zP.1 hb
  exact ⟨by have:=(hr.lo k b hgk).2.1;omega,.inr hgk⟩) (by
   show OwnTop _ ((To J w w' (64*t0) k [] [g]).L (64*t0)) _ _ _ _;rw[show (To J w w' (64*t0) k [] [g]).L (64*t0)= [g] from uH rfl];exact hown)
 rw[Qi9 e03 (by rw[hr3.size];exact m0)] at hR;refine ⟨_,_,hR.less (s':=⟨[(t0,.one (.slc (.own E (64*t0)) n (l.take j++zH (l.length-j) ps))),(t5,.one (.int .i64 (j:W)))], []⟩) (λt v hv=> ?_) (λk c hc=>by cases hc),hQ _ htl (by simp[List.take_append,List.take_take];omega)⟩;show get (ins t0 _ [(t5,AV.one (.int .i64 (j:W)))]) t=uA v;rw[Sp];simp only[get] at hv⊢;exact hv
end
end
section
open Go.RowKit
section
variable {P:uT}
theorem Turned.ret {F G:H->Prop} {L:K H} {w w':uP} {n:H} {oa:uW Addr} {cap:H} {u:uJ} {m':H} {news:K uJ} (h:Turned w w' n oa cap u m' news) (hF:∀b,F b->b<w.heap.size/\b∉L) (hL:0<cap->∃g,oa=uA ⟨g,0,uD⟩/\L= [g]) (hLs:∀b,b∈L->b<w.heap.size)
 {l':K (K PV)} (hv:VR F w n news l') (hm:l'.length=m') (hlim:m'<=1073741824):Qpx F L w n E l' (.returned u) w':=by
 obtain ⟨g',cap',cur',e',rfl,hg,hs,ht,h1,h2,h3⟩:=h.row
 have hsame:∀b,b<w.heap.size->b∉L->w'.heap[b]? =w.heap[b]? :=λb hb hn=>by
  rcases h3 with ⟨h3,hc,h4⟩ | ⟨_,_,h4⟩
  . obtain ⟨g,h5,rfl⟩:=hL hc;rw[h3] at h5;obtain rfl:g'=g:=by simpa using h5
    exact h4 b λe=>hn (by simp[e])
  exact h4 b hb
 refine ⟨_,rfl,λm hm hmL=>⟨h.os,h.tape,h.output,h.size,λb hb=>hsame b (by omega) λhx=>by have:=hmL b hx;omega⟩,hsame, [g'],by simp,λb hb=> ?_, ?_⟩
 . obtain rfl:=zP.1 hb;refine ⟨Xe hg, ?_⟩;rcases h3 with ⟨h3,hc,_⟩ | ⟨h3,_,_⟩
   . obtain ⟨g,h5,rfl⟩:=hL hc;rw[h3] at h5;obtain rfl:b=g:=by simpa using h5
     exact .inr (by simp)
   exact .inl h3
 refine .inr ⟨g',cap',cur',e',rfl,by rw[hm],hg,hs, ?_,by rw[hm];exact h1,h2,by rw[hm];exact hlim⟩;rw[hm,ht];exact hv.keep λb hb=>⟨.inl hb,hsame b (hF b hb).1 (hF b hb).2⟩
end
end
section
open Go.RowKit
section
variable {P:uT} {t e:uV} {ei:TI} {w:uP} {oa:uW Addr} {m cap i vb voff vc:H} {olds vs:K uJ}
theorem OneAt.block {n:H} (h:OneAt w n oa cap vb voff vs) (h0:0<n):vb<w.heap.size/\∃arr tA fr,w.heap[vb]? =uA (.cells arr tA fr)/\0<arr.size:=by
 have hl:0<vs.length:=by rw[h.len];exact h0
 have hc:=h.cells 0 vs[0] (yQ hl);unfold World.cell? at hc;split at hc
 . rename_i arr tA fr hh;refine ⟨Xe hh,arr,tA,fr,hh, ?_⟩;have hc:arr[voff+0]? =uA vs[0]:=by simpa using hc
   have:=(Array.getElem?_eq_some_iff.1 hc).1;omega
 cases hc
variable {g:H} {cur:uU uJ} {e0:uV}
end
end
section
open Go.RowKit
theorem Qbu {P:uT} {f n:H} {l l':K (K PV)} {args:K AV} (h:ATake P f n l args I E l') (hf:Da l'):ATake P f n l args E E l':=by
 refine ⟨h.1,λw F G L v vals hok hFG _ hGs hnd hLG hrow hargs=> ?_⟩;refine (h.2 w G G L v vals hok (λ_ h=>h) (λ_ _ h=>h) hGs hnd hLG (OwnTop.keep hrow (λb hb=>⟨hFG b hb,rfl⟩) λ_ _=>rfl) hargs).mono ?_
 rintro e w' ⟨u,rfl,h1,h2,L',h3,h4,h5⟩
 refine ⟨u,rfl,h1,h2,L',h3,h4, ?_⟩;rcases h5 with h5 | ⟨g,cap,cur,e,rfl,rfl,hg,hs,hr,h5,h6⟩
 . exact .inl h5
 exact .inr ⟨g,cap,cur,e,rfl,rfl,hg,hs,OR.vr (VR.orr (w':=w') hr hf) λb hb=>(by simp at hb),h5,h6⟩
theorem Qo3 {n:H} {hi:W} (h0:0<=hi) (h1:hi<=(n:W)):(0:W)<=0/\0<=hi/\hi<=(n:W):=⟨Int.le_refl _,h0,h1⟩
section
variable {α:Type} {p:α->A}
def ixF (p:α->A):K α->W
 | []=> -1
 | a::l=>bif p a then 0 else bif ixF p l== -1 then-1 else ixF p l+1
theorem CM (p:α->A):∀l:K α,-1<=ixF p l/\ixF p l<l.length
 | []=>by simp[ixF]
 | a ::l=>by
   have ih:=CM p l;simp only[ixF,zJ];cases p a with
   | true=>simp only[uE];omega
   | false=>
     simp only[uC];cases h:(ixF p l== -1) with
     | true=>simp only[uE];omega
     | false=>simp only[uC];omega
theorem Qkv {f:H->α->uB->Rd W uB uB} {e:H->uB->uB} (hf:∀k a s,f k a s=bif p a then .ret ((k:H):W) else .next ()):∀(l:K α) (k:H),X4 f e l k ()=bif ixF p l== -1 then .brk () else .ret ((k:W)+ixF p l)
 | [],k=>rfl
 | a :: l,k=>by
   simp only[X4,hf,ixF];cases p a with
   | true=>simp only[uE];rw[show ((0:W)== -1)=E from rfl,uC,Int.add_zero]
   | false=>
     simp only[uC];rw[Qkv hf l (k+1)];have hb:=CM p l;cases h:(ixF p l== -1) with
     | true=>simp only[uE];rfl
     | false=>
       have hne:ixF p l≠-1:=by simpa using h
       simp only[uC];rw[show (ixF p l+1== -1)=E by simp;omega,uC]
       congr 1;omega
theorem Qo4 {f:H->α->uB->Rd W uB uB} {e:H->uB->uB} (hf:∀k a s,f k a s=bif p a then .ret ((k:H):W) else .next ()) (l:K α):Out.on (X4 f e l 0 ()) (λ_=> -1)=ixF p l:=by
 rw[Qkv hf];cases h:(ixF p l== -1) with
 | true=>simp only[uE,Out.on];exact (by simpa using h:ixF p l= -1).symm
 | false=>simp only[uC,Out.on];omega
theorem Qjb {l :K α} (h:ixF p l= -1):∀a,a∈l->p a=E:=by
 induction l with
 | nil=>intro a ha;simp at ha
 | cons b l ih =>
   intro a ha;have hb:=CM p l;simp only[ixF] at h;cases hp:p b with
   | true=>rw[hp] at h;simp at h
   | false=>
     rw[hp] at h;simp only[uC] at h;cases h2:(ixF p l== -1) with
     | true => rcases yJ.1 ha with rfl | ha
               . exact hp
               exact ih (by simpa using h2) a ha
     | false=>rw[h2] at h;simp only[uC] at h;omega
theorem Qjc {l:K α} {i:H} (h:ixF p l=(i:W)):(l.take i).filter (λa=> !p a)=l.take i/\∃a,l[i]? =uA a/\p a=I:=by
 induction l generalizing i with
 | nil=>simp[ixF] at h
 | cons b l ih=>
   have hb:=CM p l;simp only[ixF] at h;cases hp:p b with
   | true=>
     rw[hp] at h;simp only[uE] at h;obtain rfl:i=0:=by omega
     exact ⟨rfl,b,rfl,hp⟩
   | false=>
     rw[hp] at h;simp only[uC] at h;cases h2:(ixF p l== -1) with
     | true=>rw[h2] at h;simp only[uE] at h;omega
     | false=>
       rw[h2] at h;simp only[uC] at h;have:ixF p l≠-1:=by simpa using h2
       obtain ⟨j,rfl⟩:∃j,i=j+1:=⟨i-1,by omega⟩;obtain ⟨h3,a,h4,h5⟩:=ih (i:=j) (by omega);exact ⟨by simp[hp,h3],a,by simpa using h4,h5⟩
theorem TW {R S T:Type} {f:S->Rd R S T}:∀{n m:H} {s:S} {x:Out R T},whl f n s=uA x->n<=m->whl f m s=uA x
 | 0,_,_,_,h,_=>by simp[whl] at h
 | n+1,0,_,_,_,hm=>absurd hm (Nat.not_succ_le_zero n)
 | n+1,m+1,s,x,h,hm=>by
   simp only[whl] at h⊢;cases hf:f s with
   | brk t=>rw[hf] at h;exact h
   | ret r=>rw[hf] at h;exact h
   | next s'=>rw[hf] at h;exact TW h (by omega)
variable [Inhabited α]
def UP {R:Type} (f:K α×W×W->Rd R (K α×W×W) (K α×W)) (p:α->A):Prop:=
 ∀(s:K α) (i j:H),i<j->j<=1073741824->f (s,(i:W),(j:W))=bif decide ((j:W)<(s.length:W)) then (bif p (nth s j) then .next (s,(i:W),((j+1:H):W)) else .next (s.set i (nth s j),((i+1:H):W),((j+1:H):W))) else .brk (s,(i:W))
theorem PX {R:Type} {f:K α×W×W->Rd R (K α×W×W) (K α×W)} (hf:UP f p) (o:K α) (ho:o.length<=1073741824):∀(n:H) (s:K α) (i j:H),j+n=o.length->i<j->s.length=o.length->s.take i=(o.take j).filter (λa=> !p a)->s.drop j=o.drop j->
 ∃s' i',whl f (n+1) (s,(i:W),(j:W))=uA (.brk (s',((i':H):W)))/\s'.take i'=o.filter (λa=> !p a)/\i'<o.length/\s'.length=o.length
 | 0,s,i,j,hn,hij,hl,ht,hd=>by
   refine ⟨s,i, ?_, ?_,by omega,hl⟩
   . simp only[whl,hf s i j hij (by omega)];rw[uO (by omega)];rfl
   rw[ht,xQ (by omega)]
 | n +1,s,i,j,hn,hij,hl,ht,hd=>by
   have hj:j<s.length:=by omega
   have hjo:j<o.length:=by omega
   have hx:nth s j=o[j]:=by
    have h1:s[j]? =o[j]? :=by
     have:=uN (λl=>l[0]?) hd;simpa [xJ] using this
    rw[yQ hjo] at h1;simp[nth,xP,h1]
   have htj:o.take (j+1)=o.take j++ [o[j]]:=by rw[xA,yQ hjo];rfl
   have hd1:∀s2:K α,s2.drop (j+1)=s.drop (j+1)->s2.drop (j+1)=o.drop (j+1):=λs2 h2=>by
    have:=uN (List.drop 1) hd;rw[xK,xK] at this;exact h2.trans this
   have hst:f (s,(i:W),(j:W))=_:=hf s i j hij (by omega);rw[uR (by omega),hx] at hst;simp only[uE] at hst;cases hp:p o[j] with
   | true=>
     rw[hp] at hst;simp only[whl,hst,uE];exact PX hf o ho n s i (j+1) (by omega) (by omega) hl (by rw[ht,htj,yU];simp[hp]) (hd1 s rfl)
   | false=>
     rw[hp] at hst;simp only[whl,hst,uC];refine PX hf o ho n (s.set i o[j]) (i+1) (j+1) (by omega) (by omega) (by simpa using hl) ?_ (hd1 _ (List.drop_set_of_lt (by omega)));rw[htj,yU,←ht];rw[xA,List.take_set_of_le (zX i),List.getElem?_set_self (by omega)];simp[hp]
theorem TX {R:Type} {f:K α×W×W->Rd R (K α×W×W) (K α×W)} (hf:UP f p) {o:K α} (ho:o.length<=1073741824) {ix:W} (hix:ix=ixF p o) (hne:ix≠-1):
 ∃s' i',whl f (o.length+1) (o,ix,ix+1)=uA (.brk (s',((i':H):W)))/\s'.take i'=o.filter (λa=> !p a)/\i'<o.length/\s'.length=o.length:=by
 have hb:=CM p o;obtain ⟨i,hi⟩:∃i:H,ix=(i:W):=⟨ix.toNat,by omega⟩;obtain ⟨h1,a,h2,h3⟩:=Qjc (p:=p) (l:=o) (i:=i) (by omega);have hio:i<o.length:=by omega
 obtain ⟨s',i',h4,h5⟩:=PX hf o ho (o.length-(i+1)) o i (i+1) (by omega) (by omega) rfl (by
  rw[xA,h2,yU,h1];simp[h3]) rfl
 refine ⟨s',i', ?_,h5⟩;subst hi;exact TW h4 (by omega)
theorem Qjd {R:Type} {f:K α×W×W->Rd R (K α×W×W) (K α×W)} (hf:UP f p) {o:K α} (ho:o.length<=1073741824) {ix:W} (hix:ix=ixF p o) (hne:ix≠-1):(whl f (o.length+1) (o,ix,ix+1)).isSome=I:=by
 obtain ⟨s',i',h,_⟩:=TX hf ho hix hne;rw[h];rfl
theorem Qo5 {f:K α×W×W->Rd (K α) (K α×W×W) (K α×W)} (hf:UP f p) {o:K α} (ho:o.length<=1073741824) {ix:W} (hix:ix=ixF p o):
 (bif (ix==(-1:W)) then o else Out.on (Oo f (o.length+1) (o,ix,ix+1)) (λy=>List.take (zO y.2) y.1))=o.filter (λa=> !p a):=by
 cases h:(ix==(-1:W)) with
 | true=>
   have h:ix= -1:=by simpa using h
   simp only[uE];exact (List.filter_eq_self.2 λa ha=>by simp[Qjb (hix▸h) a ha]).symm
 | false=>
   obtain ⟨s',i',h1,h2,_⟩:=TX hf ho hix (by simpa using h);simp only[uC,Oo,h1];simpa [Out.on] using h2
end
open GoE (enc wide)
def Nq (f:Yj) (user:W):A:=((V5 user)&&((f.2.1==user)|| f.2.2.1))
theorem ET (f:Yj) (user:W):ACalls Tryz.prog 241 [.a [.i f.1,.i f.2.1,.b f.2.2.1,.i f.2.2.2.1,.h f.2.2.2.2],.i user] (.b (Nq f user)):=by
 refine en Qa Tryz.func241 λw0 F0 hG=> ?_
 refine sn Qa [1,2,4] [2] p0 <| Qb <| mz [(2,.p 2 0),(4,.b E)] [0] [(2, [.i f.1,.i f.2.1,.b f.2.2.1,.i f.2.2.2.1,.h f.2.2.2.2])] [] <| jn [(4,.b ((V5 user)&&((f.2.1==user)|| f.2.2.1)))] [1,2,4] [] [2] (V5 user) (λh1=> ?_) (λh1=> ?_) ?_
 ·refine Xx (f.2.1==user) (λh2=> ?_) (λh2=> ?_)
  ·refine rn Qa [4] [] (pc 1 (cb h1 (Bo user)) (pt 6 h2 p0)) ?_;exact zA (by rw[h1,h2]<;>kernel_rfl)
  refine rn Qa [4] [] (pc 1 (cb h1 (Bo user)) (pf 6 h2 p0)) ?_;exact zA (by rw[h1,h2]<;>kernel_rfl)
 ·refine rn Qa [4] [] (pc 1 (cb h1 (Bo user)) p0) ?_;exact zA (by rw[h1]<;>kernel_rfl)
 exact Qd <| pb [] (show Nq f user=((V5 user)&&((f.2.1==user)|| f.2.2.1)) from rfl)
def Ye (f:Yj):Yj:=f
theorem Sc (f:Yj):ACalls Tryz.prog 156 [.a [.i f.1,.i f.2.1,.b f.2.2.1,.i f.2.2.2.1,.h f.2.2.2.2]] (.a [.i ((Ye f).1),.i ((Ye f).2.1),.b ((Ye f).2.2.1),.i ((Ye f).2.2.2.1),.o 0 ((Ye f).2.2.2.2)]):=by
 refine en Qa Tryz.func156 λw0 F0 hG=> ?_
 exact sn Qa [1,2] [1,2] p0 <| tn Qa [1,2] [1,2] (pc 2 (OY f.2.2.2.2) p0) <| tu Qa [(2,.p 2 0)] [0] [(2, [.i f.1,.i f.2.1,.b f.2.2.1,.i f.2.2.2.1,.o 320 f.2.2.2.2])] [] p0 <| Qd <| pz [] (show Ye f=f from rfl) (λz=> .a [.i z.1,.i z.2.1,.b z.2.2.1,.i z.2.2.2.1,.o 0 z.2.2.2.2])
def Gk (f:Yj) (q0:W):A:=(f.1==q0)
theorem AH (f:Yj) (q0:W):ACalls Tryz.prog 274 [.a [.i f.1,.i f.2.1,.b f.2.2.1,.i f.2.2.2.1,.h f.2.2.2.2],.one (.rptr .sh [.i q0])] (.b (Gk f q0)):=by
 refine en Qa Tryz.func274 λw0 F0 hG=> ?_
 exact sn Qa [1,2,3] [2] p0 <| tn Qa [3] [] p0 <| Qd <| pb [] (show Gk f q0=(f.1==q0) from rfl)
def Vd (c0:W) (k0:H) (a0:Yj) (_:uB):Rd (W) (uB) (uB):=(bif (Gk a0 c0) then (.ret (k0:W)) else (.next ()))
def Ve (_:H) (_:uB):uB:=()
def V0 (s_:K Yj) (c0:W):W:=(Out.on (X4 (Vd c0) Ve s_ 0 ()) (λ_=> -1))
theorem Du (s_:K Yj) (c0:W):ACalls Tryz.prog 273 [.h s_,.one (.fnr 274 [[.i c0]])] (.i (V0 s_ c0)):=by
 refine en Qa Tryz.func273 λw0 F0 hG=> ?_
 refine sn Qa [0,1,4] [] p0 <| Qb <| tn Qa [0,1,4,7,8] [] (pl 1 s_ p0) <| mz [(4,.i 0),(7,.i (s_.length:W)),(8,.i 0)] [] [] [] <| wT 0 0 .sh s_ (λhw1 hl2=> ?_)
 refine R2 (Vd c0) Ve s_ () (λk0 _=> [(8,.i (k0:W))]) [8] (λ_=> []) [0,1,7,8] wf0 (λk0 s0 O U=> ?_) (λk0 s0 O U=> ?_) (λy0 hD0=> ?_)
 ·obtain ⟨a0,V⟩:=Xh (l:=s_) (i:=k0) O;refine sn Qa [0,1,4,7,8,9] [] (pe 0 (zB ((k0:W)<(s_.length:W))) p0) <| Qb <| ckT <| Qf <| Qb <| Qo <| tn Qa [0,1,4,5,7,8] [] p0 <| tu Qa [(5,.i (k0:W)),(16,.b (Gk a0 c0))] [] [] [] (pn 3 V (pc 5 (AH a0 c0) p0)) <| ck (Gk a0 c0) (λh3=> ?_) (λh3=> ?_)
  ·refine sn Qa [0,1,4,7,8] [] p0 <| Qd ?_
   have hr4:(X4 (Vd c0) Ve s_ 0 ())= .ret (k0:W):=Ka V (Q9 h3 (rfl)) U;exact pi [] (On hr4)
  refine Qf <| rn Qa [0,1,4,7,8] [] (pe 0 (Jl (Qn k0 (by omega))) p0) ?_
  exact xw _ (Qs V (Qj h3 (rfl)) U)
 ·exact sn Qa [0,1,4,7,8,9] [] (pe 0 (zC ((k0:W)<(s_.length:W))) p0) <| Qb <| ckF <| Q4 <| xw _ (Xj O (rfl) U)
 exact sn Qa [4] [] p0 <| Qd <| pi [] (Vp hD0 (rfl))
def Rn (s_:Yk) (id:W):W:=(V0 s_.2.1 id)
theorem LV (s_:Yk) (id:W):ACalls Tryz.prog 242 [.a [.h s_.1,.h s_.2.1,.i s_.2.2],.i id] (.i (Rn s_ id)):=by
 refine en Qa Tryz.func242 λw0 F0 hG=> ?_
 exact sn Qa [2,3,4] [2,3] p0 <| tn Qa [4] [] (pc 3 (Du s_.2.1 id) p0) <| Qd <| pi [] (show Rn s_ id=(V0 s_.2.1 id) from rfl)
def Dv (user:W) (_:H) (a0:Yj) (s0:K Yj):Rd (Yk) (K Yj) (K Yj):=(bif (Nq a0 user) then (.next (s0++ [(Ye a0)])) else (.next s0))
def Dw (_:H) (s0:K Yj):(K Yj):=s0
def Dx (s_:Yk) (k1:H) (_:Yj) (s1:K Yj):Rd (Yk) (K Yj) (K Yj):=(bif decide ((Rn (s_.1,s1,s_.2.2) ((nth s1 k1).2.2.2.1))<(0:W)) then (.next (zS s1 k1 ((nth s1 k1).1,(nth s1 k1).2.1,(nth s1 k1).2.2.1,0,(nth s1 k1).2.2.2.2))) else (.next s1))
def Dy (_:H) (s1:K Yj):(K Yj):=s1
def Ky (s_:Yk) (user:W):Yk:=(Out.on (X4 (Dv user) Dw s_.2.1 0 []) (λy0=>(Out.on (X4 (Dx s_) Dy y0 0 y0) (λy1=>(s_.1,y1,s_.2.2)))))
theorem QI (s_:Yk) (user:W):ACalls Tryz.prog 197 [.a [.h s_.1,.h s_.2.1,.i s_.2.2],.i user] (.a [.o 0 ((Ky s_ user).1),.o 1 ((Ky s_ user).2.1),.i ((Ky s_ user).2.2)]):=by
 refine en Qa Tryz.func197 λw0 F0 hG=> ?_
 refine sn Qa [1,2,4] [2,4] p0 <| tN Qa Yo [1,2,4,5] [2,4,5] (pc 2 (ZZ s_.1) p0) <| Qb <| tu Qa [(4,.p 4 0),(5,.p 5 0),(17,.h s_.2.1),(18,.i (s_.2.1.length:W)),(19,.i 0)] [0] [(4, [.e 2,.e 5,.i 0]),(5, [.o 768 s_.1,.e 5,.i s_.2.2])] [] (pl 2 s_.2.1 p0) <| wT 17 0 .sh s_.2.1 (λhw1 hl2=> ?_)
 refine JM (Dv user) Dw s_.2.1 [] (λk0 _=> [(19,.i (k0:W))]) [19] (λ_ s0=> [(5, [.o 768 s_.1,.o 147210 s0,.i s_.2.2])]) [5] (λ_=> []) [1,17,18,19] (λy0=> [(5, [.o 768 s_.1,.o 147360 y0,.i s_.2.2])]) [5] (λk0 s0=>zE s0<=k0) (L5 [(I,5,1,I,320008,5)] [] [] [(320008,147210)] (by kernel_rfl)) (by simp) (λk0 s0 O U=> ?_) (λk0 s0 O U=> ?_) (λy0 hD0=> ?_)
 ·have hA0_0:=U.2;obtain ⟨a0,V⟩:=Xh (l:=s_.2.1) (i:=k0) O;refine su Qa [(20,.b I)] [] [] [] (pe 0 (zB ((k0:W)<(s_.2.1.length:W))) p0) <| Qb <| ckT <| Qf <| Qb <| Qo <| sn Qa [1,4,5,7,17,18,19] [4,5,7] (pn 0 V p0) <| tn Qa [1,4,5,7,17,18,19,25] [4,5,7] (pc 2 (ET a0 user) p0) <| ck (Nq a0 user) (λh3=> ?_) (λh3=> ?_)
  ·refine wB 5 1 (.own I 147210) s0 (λhw4 hl5=> ?_);refine qU Qa Yo [] [20] [(5, [.o 768 s_.1,.slc (.own I 1984) 5 ((eL s0)++ [[.i ((Ye a0).1),.i ((Ye a0).2.1),.b ((Ye a0).2.2.1),.i ((Ye a0).2.2.2.1),.h ((Ye a0).2.2.2.2)]]),.i s_.2.2])] [5] (pc 3 (Sc a0) (pa s0 [(Ye a0)] p0)) ?_;refine eqn [] [] [(5, [.o 768 s_.1,.o 1984 (s0++ [(Ye a0)]),.i s_.2.2])] [5] (by rw[show ((eL s0)++ [[.i ((Ye a0).1),.i ((Ye a0).2.1),.b ((Ye a0).2.2.1),.i ((Ye a0).2.2.2.1),.h ((Ye a0).2.2.2.2)]])=(eL (s0++ [(Ye a0)])) from Jc (rfl) (rfl)];first | done | kernel_rfl) ?_;refine rn Qa [1,4,5,17,18,19] [4,5] (pe 0 (Jl (Qn k0 (by omega))) p0) ?_;exact zQ (s0++ [(Ye a0)]) (zT (Xg [(1984,147210)] (by kernel_rfl)) ⟨Qs V (Q9 h3 (rfl)) U.1,by first|omega|(simp;omega) | simp⟩)
  refine Qf <| qu Qa [(19,.i ((k0+1:H):W))] [19,20] [] [] (pe 0 (Jl (Qn k0 (by omega))) p0) ?_
  exact xw s0 ⟨Qs V (Qj h3 (rfl)) U.1,by first|omega|(simp;omega) | simp⟩
 ·have hA0_0:=U.2;exact su Qa [(20,.b E)] [] [] [] (pe 0 (zC ((k0:W)<(s_.2.1.length:W))) p0) <| Qb <| ckF <| Q4 <| zQ _ (zT (Xg [(147210,147360)] (by kernel_rfl)) (Xj O (rfl) U.1))
 refine Qb <| sn Qa [4,5,35,36,37] [4,5] (pl 2 y0 p0) <| mz [(35,.o 147360 y0),(36,.i (y0.length:W)),(37,.i 0)] [] [] [] <| wT 35 0 (.own I 147360) y0 (λhw6 hl7=> ?_)
 refine JM (Dx s_) Dy y0 y0 (λk1 s1=> [(35,.o 147360 s1),(37,.i (k1:W))]) [35,37] (λ_ s1=> [(5, [.o 768 s_.1,.o 147360 s1,.i s_.2.2])]) [5] (λ_=> []) [35,36,37] (λy1=> [(5, [.o 768 s_.1,.o 147360 y1,.i s_.2.2])]) [5] (λ_ s1=>zE s1=zE y0) wf0 (by simp) (λk1 s1 hk1 hI1=> ?_) (λk1 s1 hk1 hI1=> ?_) (λy1 hD1=> ?_)
 ·have hA1_0:=hI1.2;obtain ⟨a1,hx1⟩:=Xh (l:=y0) (i:=k1) hk1;refine su Qa [(38,.b I)] [] [] [] (pe 0 (zB ((k1:W)<(y0.length:W))) p0) <| Qb <| ckT <| Qf <| Qb <| Qo <| wT 35 0 (.own I 147360) s1 (λhw9 hl10=> ?_)
  have hx8:=ng s1 k1;refine sn Qa [4,5,8,9,35,36,37] [4,5,9] (pN 1 hx8 p0) <| tn Qa [4,5,8,35,36,37,46] [4,5] (pc 3 (LV (s_.1,s1,s_.2.2) ((nth s1 k1).2.2.2.1)) p0) <| ck (decide ((Rn (s_.1,s1,s_.2.2) ((nth s1 k1).2.2.2.1))<(0:W))) (λh11=> ?_) (λh11=> ?_)
  ·have h11d:=uL h11;refine qu Qa [(35,.one (.slc (.own I 147360) 5 (setRow (eL s1) k1 3 [.i 0])))] [35,38] [(5, [.o 768 s_.1,.slc (.own I 147360) 5 (setRow (eL s1) k1 3 [.i 0]),.i s_.2.2])] [5] (pN 3 hx8 p0) ?_;refine eqn [(35,.o 147360 (zS s1 k1 ((nth s1 k1).1,(nth s1 k1).2.1,(nth s1 k1).2.2.1,0,(nth s1 k1).2.2.2.2)))] [35] [(5, [.o 768 s_.1,.o 147360 (zS s1 k1 ((nth s1 k1).1,(nth s1 k1).2.1,(nth s1 k1).2.2.1,0,(nth s1 k1).2.2.2.2)),.i s_.2.2])] [5] (by rw[Ke (y:=((nth s1 k1).1,(nth s1 k1).2.1,(nth s1 k1).2.2.1,0,(nth s1 k1).2.2.2.2)) hx8 rfl]<;>kernel_rfl) ?_;refine rn Qa [4,5,35,36,37] [4,5] (pe 0 (Jl (Qn k1 (by omega))) p0) ?_;exact xw (zS s1 k1 ((nth s1 k1).1,(nth s1 k1).2.1,(nth s1 k1).2.2.1,0,(nth s1 k1).2.2.2.2)) ⟨Qs hx1 (Q9 h11 (rfl)) hI1.1,(by first|omega|(simp only[zM];omega))⟩
  have h11d:=uI h11;refine Qf <| qu Qa [(37,.i ((k1+1:H):W))] [37,38] [] [] (pe 0 (Jl (Qn k1 (by omega))) p0) ?_
  exact xw s1 ⟨Qs hx1 (Qj h11 (rfl)) hI1.1,(by first|omega|(simp only[zM];omega))⟩
 ·have hA1_0:=hI1.2;exact su Qa [(38,.b E)] [] [] [] (pe 0 (zC ((k1:W)<(y0.length:W))) p0) <| Qb <| ckF <| Q4 <| xw _ (Xj hk1 (rfl) hI1.1)
 exact sn Qa [4] [4] p0 <| Qd <| pz [] (show Ky s_ user=_ from Vp hD0 (Vp hD1 (rfl))) (λz=> .a [.o 0 z.1,.o 1 z.2.1,.i z.2.2])
def Zl (s_:Yk) (d:K Zj) (user:W):(K Qp)×A:=(bif ((!(Xk s_))|| (!(V5 user))) then ([],E) else (((Jk (Ky s_ user) d)).1,((Jk (Ky s_ user) d)).2))
theorem Pt (s_:Yk) (d:K Zj) (user:W):ACalls Tryz.prog 146 [.a [.h s_.1,.h s_.2.1,.i s_.2.2],.h d,.i user] (.tup [(E, [.o 0 (((Zl s_ d user)).1)]),(E, [.b (((Zl s_ d user)).2)])]):=by
 refine en Qa Tryz.func146 λw0 F0 hG=> ?_
 refine sn Qa [1,2,3,6,7] [3] p0 <| Qb <| Qb <| mz [(3,.p 3 0),(6,.e 0),(7,.b E)] [0] [(3, [.h s_.1,.h s_.2.1,.i s_.2.2])] [] <| jn [(15,.b ((!(Xk s_))|| (!(V5 user))))] [] [] [] (!(Xk s_)) (λh1=> ?_) (λh1=> ?_) ?_
 ·have h1n:(Xk s_)=E:=Vt h1;refine rn Qa [1,2,3,6,7,15] [3] (pc 1 (cb h1n (Hj s_)) (pe 2 (show .b (!E)= .b I from rfl) p0)) ?_;exact zA (by rw[h1]<;>kernel_rfl)
 ·have h1n:(Xk s_)=I:=Zz h1;refine rn Qa [1,2,3,6,7,15] [3] (pc 1 (cb h1n (Hj s_)) (pe 2 (show .b (!I)= .b E from rfl) (pc 5 (Bo user) p0))) ?_;exact zA (by rw[h1]<;>kernel_rfl)
 refine ck ((!(Xk s_))|| (!(V5 user))) (λh2=> ?_) (λh2=> ?_)
 ·refine su Qa [] [15] [] [] p0 <| opn [(E,6,0,I,384000,2)] ?_
  exact Qd <| pz [] (show Zl s_ d user=_ from Q9 h2 (rfl)) (λz=> .tup [(E, [.o 0 z.1]),(E, [.b z.2])])
 exact Qf <| sn Qa [6,7] [] (pc 2 (QI s_ user) (pc 4 (Sa (Ky s_ user) d) p0)) <| Qd <| pz [] (show Zl s_ d user=_ from Qj h2 (rfl)) (λz=> .tup [(E, [.o 0 z.1]),(E, [.b z.2])])
def Y9 (s_:Yk) (d:K Zj) (user:W) (name:D):(K W):=(Y2 (((Zl s_ d user)).1) name)
theorem EU (s_:Yk) (d:K Zj) (user:W) (name:D):ACalls Tryz.prog 98 [.a [.h s_.1,.h s_.2.1,.i s_.2.2],.h d,.i user,.s name] (.o 0 (Y9 s_ d user name)):=by
 refine en Qa Tryz.func98 λw0 F0 hG=> ?_
 exact sn Qa [1,2,3,4,8] [4] p0 <| tn Qa [3,8,9] [] (pc 3 (Pt s_ d user) p0) <| tu Qa [(8,.o 1280 (Y2 (((Zl s_ d user)).1) name))] [0,1,2,3] [] [] (pc 2 (Eu (((Zl s_ d user)).1) name) p0) <| Qd <| po0 [] (show Y9 s_ d user name=(Y2 (((Zl s_ d user)).1) name) from rfl)
def Nr (f:Yj) (u:W):A:=((Q0 u 0 2)&&((f.2.1==u)|| f.2.2.1))
theorem EV (f:Yj) (u:W):ACalls Tryz.prog 220 [.a [.i f.1,.i f.2.1,.b f.2.2.1,.i f.2.2.2.1,.h f.2.2.2.2],.i u] (.b (Nr f u)):=by
 refine en Qa Tryz.func220 λw0 F0 hG=> ?_
 refine sn Qa [1,2,4] [2] p0 <| Qb <| mz [(2,.p 2 0),(4,.b E)] [0] [(2, [.i f.1,.i f.2.1,.b f.2.2.1,.i f.2.2.2.1,.h f.2.2.2.2])] [] <| jn [(4,.b ((Q0 u 0 2)&&((f.2.1==u)|| f.2.2.1)))] [1,2,4] [] [2] (Q0 u 0 2) (λh1=> ?_) (λh1=> ?_) ?_
 ·have h1w:=K1.1 h1;refine Xx (f.2.1==u) (λh2=> ?_) (λh2=> ?_)
  ·refine rn Qa [4] [] (pc 1 (cb h1 (Ys u 0 2)) (pt 6 h2 p0)) ?_;exact zA (by rw[h1,h2]<;>kernel_rfl)
  refine rn Qa [4] [] (pc 1 (cb h1 (Ys u 0 2)) (pf 6 h2 p0)) ?_;exact zA (by rw[h1,h2]<;>kernel_rfl)
 ·refine rn Qa [4] [] (pc 1 (cb h1 (Ys u 0 2)) p0) ?_;exact zA (by rw[h1]<;>kernel_rfl)
 exact Qd <| pb [] (show Nr f u=((Q0 u 0 2)&&((f.2.1==u)|| f.2.2.1)) from rfl)
def Yq (f:Yj):Yj:=f
theorem QK (f:Yj):ACalls Tryz.prog 121 [.a [.i f.1,.i f.2.1,.b f.2.2.1,.i f.2.2.2.1,.h f.2.2.2.2]] (.a [.i ((Yq f).1),.i ((Yq f).2.1),.b ((Yq f).2.2.1),.i ((Yq f).2.2.2.1),.o 0 ((Yq f).2.2.2.2)]):=by
 refine en Qa Tryz.func121 λw0 F0 hG=> ?_
 refine sn Qa [1,2] [1,2] p0 <| wB 1 4 .sh f.2.2.2.2 (λhw1 hl2=> ?_)
 exact tn Qa [1,2] [1,2] (po 3 (.flat) (px (Ct (n:=(([]:K (K PV)).length+((eL f.2.2.2.2):K (K PV)).length)) (Eb (rfl) (Yr f.2.2.2.2) (by first|omega|(simp only[zJ,zY];omega) | (simp;omega) | simp))) (px (Hx (Uh f.2.2.2.2)) p0))) <| tu Qa [(2,.p 2 0)] [0] [(2, [.i f.1,.i f.2.1,.b f.2.2.1,.i f.2.2.2.1,.o 384 f.2.2.2.2])] [] p0 <| Qd <| pz [] (show Yq f=f from rfl) (λz=> .a [.i z.1,.i z.2.1,.b z.2.2.1,.i z.2.2.2.1,.o 0 z.2.2.2.2])
def I5 (id:W) (k0:H) (a0:Yj) (_:uB):Rd (W) (uB) (uB):=(bif (a0.1==id) then (.ret (k0:W)) else (.next ()))
def I6 (_:H) (_:uB):uB:=()
def Pu (s_:Yk) (id:W):W:=(Out.on (X4 (I5 id) I6 s_.2.1 0 ()) (λ_=> -1))
theorem AI (s_:Yk) (id:W):ACalls Tryz.prog 221 [.a [.h s_.1,.h s_.2.1,.i s_.2.2],.i id] (.i (Pu s_ id)):=by
 refine en Qa Tryz.func221 λw0 F0 hG=> ?_
 refine sn Qa [1,2,4] [2] p0 <| Qb <| tn Qa [1,2,4,5] [2] p0 <| mz [(2,.p 2 0),(4,.i 0),(5,.i 0)] [0] [(2, [.h s_.1,.h s_.2.1,.i s_.2.2])] [] <| wB 2 1 .sh s_.2.1 (λhw1 hl2=> ?_)
 refine Qoj (I5 id) I6 s_.2.1 () (λk0 _=> [(5,.i (k0:W))]) [5] (λ_ _=> []) [] (λ_=> []) [1,2,5] (λ_=> []) [2] wf0 (λk0 s0 O U=> ?_) (λk0 s0 O U=> ?_) (λy0 hD0=> ?_)
 ·obtain ⟨a0,V⟩:=Xh (l:=s_.2.1) (i:=k0) O;refine Qb <| sn Qa [1,2,4,5,10] [2] (pl 3 s_.2.1 (pe 4 (zB ((k0:W)<(s_.2.1.length:W))) p0)) <| ckT <| Qf <| Qb <| Qo <| tn Qa [1,2,4,5,20] [2] (pn 3 V p0) <| ck (a0.1==id) (λh3=> ?_) (λh3=> ?_)
  ·refine tu Qa [(4,.i (k0:W))] [4] [] [] p0 <| Qd ?_
   have hr4:(X4 (I5 id) I6 s_.2.1 0 ())= .ret (k0:W):=Ka V (Q9 h3 (rfl)) U;exact pi [] (On hr4)
  have h3d:=X0 h3;refine Qf <| qu Qa [(5,.i ((k0+1:H):W))] [5] [] [] (pe 1 (Jl (Qn k0 (by omega))) p0) ?_
  exact xw _ (Qs V (Qj h3 (rfl)) U)
 ·exact Qb <| sn Qa [1,2,4,5,10] [2] (pl 3 s_.2.1 (pe 4 (zC ((k0:W)<(s_.2.1.length:W))) p0)) <| ckF <| Q4 <| xw _ (Xj O (rfl) U)
 exact sn Qa [4] [] p0 <| Qd <| pi [] (Vp hD0 (rfl))
def Dz (u:W) (_:H) (a0:Yj) (s0:K Yj):Rd (Yk) (K Yj) (K Yj):=(bif (Nr a0 u) then (.next (s0++ [(Yq a0)])) else (.next s0))
def D0 (_:H) (s0:K Yj):(K Yj):=s0
def D1 (s_:Yk) (k1:H) (s1:K Yj):Rd (Yk) (K Yj) (K Yj):=(bif decide ((Pu (s_.1,s1,s_.2.2) ((nth s1 k1).2.2.2.1))<(0:W)) then (.next (zS s1 k1 ((nth s1 k1).1,(nth s1 k1).2.1,(nth s1 k1).2.2.1,0,(nth s1 k1).2.2.2.2))) else (.next s1))
def D2 (_:H) (s1:K Yj):(K Yj):=s1
def Vn (s_:Yk) (u:W):Yk:=(Out.on (X4 (Dz u) D0 s_.2.1 0 []) (λy0=>(Out.on (Ks (D1 s_) D2 (zE y0) 0 y0) (λy1=>(s_.1,y1,s_.2.2)))))
theorem QM (s_:Yk) (u:W):ACalls Tryz.prog 173 [.a [.h s_.1,.h s_.2.1,.i s_.2.2],.i u] (.a [.o 0 ((Vn s_ u).1),.o 1 ((Vn s_ u).2.1),.i ((Vn s_ u).2.2)]):=by
 refine en Qa Tryz.func173 λw0 F0 hG=> ?_
 refine sn Qa [1,2,4] [2,4] p0 <| wB 2 0 .sh s_.1 (λhw1 hl2=> ?_)
 refine tN Qa Yo [1,2,4,5] [2,4,5] (po 3 (.flat) (px (Ct (n:=(([]:K (K PV)).length+((eL s_.1):K (K PV)).length)) (Eb (rfl) (Yr s_.1) (by first|omega|(simp only[zJ,zY];omega) | (simp;omega) | simp))) (px (Hx (Uh s_.1)) p0))) <| Qb <| tu Qa [(2,.p 2 0),(4,.p 4 0),(5,.p 5 0),(6,.i 0)] [0] [(2, [.h s_.1,.h s_.2.1,.i s_.2.2]),(4, [.e 2,.e 5,.i 0]),(5, [.o 704 s_.1,.e 5,.i s_.2.2])] [] p0 <| wB 2 1 .sh s_.2.1 (λhw3 hl4=> ?_)
 refine JM (Dz u) D0 s_.2.1 [] (λk0 _=> [(6,.i (k0:W))]) [6] (λ_ s0=> [(5, [.o 704 s_.1,.o 147212 s0,.i s_.2.2])]) [5] (λ_=> []) [1,2,6] (λy0=> [(5, [.o 704 s_.1,.o 147362 y0,.i s_.2.2])]) [2,5] (λk0 s0=>zE s0<=k0) (L5 [(I,5,1,I,320008,5)] [] [] [(320008,147212)] (by kernel_rfl)) (by simp) (λk0 s0 O U=> ?_) (λk0 s0 O U=> ?_) (λy0 hD0=> ?_)
 ·have hA0_0:=U.2;obtain ⟨a0,V⟩:=Xh (l:=s_.2.1) (i:=k0) O;refine Qb <| su Qa [(19,.b I)] [] [] [] (pl 3 s_.2.1 (pe 4 (zB ((k0:W)<(s_.2.1.length:W))) p0)) <| ckT <| Qf <| Qb <| Qo <| sn Qa [1,2,4,5,6,28] [2,4,5] (pn 3 V (pc 6 (EV a0 u) p0)) <| ck (Nr a0 u) (λh5=> ?_) (λh5=> ?_)
  ·refine wB 5 1 (.own I 147212) s0 (λhw6 hl7=> ?_);refine qU Qa Yo [] [19] [(5, [.o 704 s_.1,.slc (.own I 2432) 5 ((eL s0)++ [[.i ((Yq a0).1),.i ((Yq a0).2.1),.b ((Yq a0).2.2.1),.i ((Yq a0).2.2.2.1),.h ((Yq a0).2.2.2.2)]]),.i s_.2.2])] [5] (pn 5 V (pc 7 (QK a0) (pa s0 [(Yq a0)] p0))) ?_;refine eqn [] [] [(5, [.o 704 s_.1,.o 2432 (s0++ [(Yq a0)]),.i s_.2.2])] [5] (by rw[show ((eL s0)++ [[.i ((Yq a0).1),.i ((Yq a0).2.1),.b ((Yq a0).2.2.1),.i ((Yq a0).2.2.2.1),.h ((Yq a0).2.2.2.2)]])=(eL (s0++ [(Yq a0)])) from Jc (rfl) (rfl)];first | done | kernel_rfl) ?_;refine rn Qa [1,2,4,5,6] [2,4,5] (pe 1 (Jl (Qn k0 (by omega))) p0) ?_;exact zQ (s0++ [(Yq a0)]) (zT (Xg [(2432,147212)] (by kernel_rfl)) ⟨Qs V (Q9 h5 (rfl)) U.1,by first|omega|(simp;omega) | simp⟩)
  refine Qf <| qn Qa [1,2,4,5,6] [2,4,5] (pe 1 (Jl (Qn k0 (by omega))) p0) ?_
  exact xw s0 ⟨Qs V (Qj h5 (rfl)) U.1,by first|omega|(simp;omega) | simp⟩
 ·have hA0_0:=U.2;exact Qb <| su Qa [(19,.b E)] [] [] [] (pl 3 s_.2.1 (pe 4 (zC ((k0:W)<(s_.2.1.length:W))) p0)) <| ckF <| Q4 <| zQ _ (zT (Xg [(147212,147362)] (by kernel_rfl)) (Xj O (rfl) U.1))
 refine Qb <| sn Qa [4,5,7] [4,5] p0 <| mz [(7,.i 0)] [] [] [] <| Qma (D1 s_) D2 (zE y0) y0 (λk1 _=> [(7,.i (k1:W))]) [7] (λ_ s1=> [(5, [.o 704 s_.1,.o 147362 s1,.i s_.2.2])]) [5] (λ_=> []) [7] (λy1=> [(5, [.o 704 s_.1,.o 147362 y1,.i s_.2.2])]) [5] (λ_ s1=>zE s1=zE y0) (λy1=>zE y1=zE y0) wf0 (by simp) (λk1 s1 hk1 hI1=> ?_) (λk1 s1 hk1 hI1=> ?_) (λy1 hD1=> ?_)
 ·have hA1_0:=hI1.2;refine Qb <| sn Qa [4,5,7,44] [4,5] (pl 3 s1 (pe 4 (zB ((k1:W)<(s1.length:W))) p0)) <| ckT <| Qf <| Qb <| Qo <| wB 5 1 (.own I 147362) s1 (λhw9 hl10=> ?_)
  have hx8:=ng s1 k1;refine tN Qa Yo [4,5,7,55] [4,5] (pN 4 hx8 (pc 7 (AI (s_.1,s1,s_.2.2) ((nth s1 k1).2.2.2.1)) p0)) <| ck (decide ((Pu (s_.1,s1,s_.2.2) ((nth s1 k1).2.2.2.1))<(0:W))) (λh11=> ?_) (λh11=> ?_)
  ·have h11d:=uL h11;refine qu Qa [] [] [(5, [.o 704 s_.1,.slc (.own I 147362) 5 (setRow (eL s1) k1 3 [.i 0]),.i s_.2.2])] [5] (pN 3 hx8 p0) ?_;refine eqn [] [] [(5, [.o 704 s_.1,.o 147362 (zS s1 k1 ((nth s1 k1).1,(nth s1 k1).2.1,(nth s1 k1).2.2.1,0,(nth s1 k1).2.2.2.2)),.i s_.2.2])] [5] (by rw[Ke (y:=((nth s1 k1).1,(nth s1 k1).2.1,(nth s1 k1).2.2.1,0,(nth s1 k1).2.2.2.2)) hx8 rfl]<;>kernel_rfl) ?_;refine rn Qa [4,5,7] [4,5] (pe 1 (Jl (Qn k1 (by omega))) p0) ?_;exact xw (zS s1 k1 ((nth s1 k1).1,(nth s1 k1).2.1,(nth s1 k1).2.2.1,0,(nth s1 k1).2.2.2.2)) ⟨Z6 hk1 (Q9 h11 (rfl)) hI1.1,(by first|omega|(simp only[zM];omega))⟩
  have h11d:=uI h11;refine Qf <| qu Qa [(7,.i ((k1+1:H):W))] [7] [] [] (pe 1 (Jl (Qn k1 (by omega))) p0) ?_
  exact xw s1 ⟨Z6 hk1 (Qj h11 (rfl)) hI1.1,(by first|omega|(simp only[zM];omega))⟩
 ·have hA1_0:=hI1.2;exact Qb <| sn Qa [4,5,7,44] [4,5] (pl 3 s1 (pe 4 (zC ((k1:W)<(s1.length:W))) p0)) <| ckF <| Q4 <| xw s1 ⟨U6 hk1 (rfl) hI1.1,by first|omega|(simp only[zM];omega)⟩
 have hD1_0:=hD1.2;exact sn Qa [4] [4] p0 <| Qd <| pz [] (show Vn s_ u=_ from Vp hD0 (Vp hD1.1 (rfl))) (λz=> .a [.o 0 z.1,.o 1 z.2.1,.i z.2.2])
def Jy (s_:Yk) (d:K Zj) (u:W):(K Qp)×A:=(bif ((!(Q0 u 0 2))|| (!(Z4 s_))) then ([],E) else (((V9 (Vn s_ u) d)).1,((V9 (Vn s_ u) d)).2))
theorem Pv (s_:Yk) (d:K Zj) (u:W):ACalls Tryz.prog 125 [.a [.h s_.1,.h s_.2.1,.i s_.2.2],.h d,.i u] (.tup [(E, [.o 0 (((Jy s_ d u)).1)]),(E, [.b (((Jy s_ d u)).2)])]):=by
 refine en Qa Tryz.func125 λw0 F0 hG=> ?_
 refine sn Qa [1,2,3,6,7] [3] p0 <| Qb <| Qb <| mz [(3,.p 3 0),(6,.e 0),(7,.b E)] [0] [(3, [.h s_.1,.h s_.2.1,.i s_.2.2])] [] <| jn [(15,.b ((!(Q0 u 0 2))|| (!(Z4 s_))))] [] [] [] (!(Q0 u 0 2)) (λh1=> ?_) (λh1=> ?_) ?_
 ·have h1n:(Q0 u 0 2)=E:=Vt h1;refine rn Qa [1,2,3,6,7,15] [3] (pc 1 (cb h1n (Ys u 0 2)) (pe 2 (show .b (!E)= .b I from rfl) p0)) ?_;exact zA (by rw[h1]<;>kernel_rfl)
 ·have h1n:(Q0 u 0 2)=I:=Zz h1;have h1nw:=K1.1 h1n;refine rn Qa [1,2,3,6,7,15] [3] (pc 1 (cb h1n (Ys u 0 2)) (pe 2 (show .b (!I)= .b E from rfl) (pc 5 (Bb s_) p0))) ?_;exact zA (by rw[h1]<;>kernel_rfl)
 refine ck ((!(Q0 u 0 2))|| (!(Z4 s_))) (λh2=> ?_) (λh2=> ?_)
 ·exact sn Qa [1,2,3,6,7] [3] p0 <| Qd <| pz [] (show Jy s_ d u=_ from Q9 h2 (rfl)) (λz=> .tup [(E, [.o 0 z.1]),(E, [.b z.2])])
 have h2l:((!(Q0 u 0 2)))=E:=JL h2;have h2ln:(Q0 u 0 2)=I:=Zz h2l;have h2lnw:=K1.1 h2ln;exact Qf <| sn Qa [6,7] [] (pc 2 (QM s_ u) (pc 4 (Sb (Vn s_ u) d) p0)) <| Qd <| pz [] (show Jy s_ d u=_ from Qj h2 (rfl)) (λz=> .tup [(E, [.o 0 z.1]),(E, [.b z.2])])
def Zm (s_:Yk) (d:K Zj) (u:W) (name:D):(K W):=(Wk (((Jy s_ d u)).1) name)
theorem EW (s_:Yk) (d:K Zj) (u:W) (name:D):ACalls Tryz.prog 78 [.a [.h s_.1,.h s_.2.1,.i s_.2.2],.h d,.i u,.s name] (.o 0 (Zm s_ d u name)):=by
 refine en Qa Tryz.func78 λw0 F0 hG=> ?_
 exact sn Qa [1,2,3,4,8] [4] p0 <| tn Qa [3,8,9] [] (pc 3 (Pv s_ d u) p0) <| tu Qa [(8,.o 1280 (Wk (((Jy s_ d u)).1) name))] [0,1,2,3] [] [] (pc 2 (I2 (((Jy s_ d u)).1) name) p0) <| Qd <| po0 [] (show Zm s_ d u name=(Wk (((Jy s_ d u)).1) name) from rfl)
theorem LW {α R S T:Type} {f:H->α->S->Rd R S T} {g:H->S->Rd R S T} {e e':H->S->T} (hf:∀k a s,f k a s=g k s) (he:∀k s,e k s=e' k s):∀(l:K α) (k:H) (s:S),X4 f e l k s=Ks g e' l.length k s
 | [],k,s=>by simp[X4,Ks,he]
 | a::l,k,s=>by
   simp only[X4,Ks,zJ,hf];cases g k s with
   | next s'=>exact LW hf he l (k+1) s'
   | brk t=>rfl
   | ret r=>rfl
theorem Qbv (s:Yk) (u:W):Vn s u=Ky s u:=by
 unfold Vn Ky;rw[Io (f:=Dz u) (g:=Dv u) (e:=D0) (e':=Dw) (λ_ _=>rfl) s.2.1 0 _ (λi a t _=>rfl)]
 congr 1
 funext y
 rw[LW (f:=Dx s) (g:=D1 s) (e:=Dy) (e':=D2) (λ_ _ _=>rfl) (λ_ _=>rfl)]
theorem PY (s:Yk) (d:K Zj) (u:W):Jy s d u=Zl s d u:=by
 unfold Jy Zl;rw[EF,Qbv,UO];have h:Q0 u 0 2=V5 u:=rfl;rw[h,Bool.or_comm]
theorem Qbw (s:Yk) (d:K Zj) (u:W) (n:D):Zm s d u n=Y9 s d u n:=by
 unfold Zm Y9;rw[PY];rfl
theorem Qmv {s:Yk} (h:Xk s=I):s.2.1.length<=12:=by
 unfold Xk at h;cases hf:X4 (Zw s) Kw s.2.1 0 () with
 | brk t=>
   rw[hf] at h;simp only[Out.on,zK,uS] at h;omega
 | ret r=>
   rw[hf] at h;obtain rfl:r=I:=h;exfalso
   have key:∀(l:K Yj) k,X4 (Zw s) Kw l k ()≠ .ret I:=by
    intro l
    induction l with
    | nil=>intro k h;simp[X4] at h
    | cons a l ih=>
      intro k h;simp only[X4] at h;unfold Zw at h;split at h
      . rename_i hf;exact ih _ h
      . cases h
      rename_i r hf;cases h;revert hf;generalize (_|| _:A)=c;cases c<;>simp
   exact key _ _ hf
theorem Qo6 {fs:K Yj} {p:Yj->A} {x:W} (h:x∈sel fs (λf=>f.1) p):∃f,f∈fs/\f.1=x:=by
 obtain ⟨f,hf,e⟩:=yW.1 h;exact ⟨f,(yR.1 hf).1,e⟩
theorem Qfk {s:Yk} (h:Xk s=I) {f:Yj} (hf:f∈s.2.1):1<=f.1/\f.1<=60:=by
 have hv:Jf s.1 f=I:=by
  unfold Xk at h;obtain ⟨i,hi⟩:=yF hf;cases hl:X4 (Zw s) Kw s.2.1 0 () with
  | brk t=>
    have:=T0 (λk a t=>by unfold Zw;generalize (_|| _:A)=c;cases c<;>simp) hl i f hi;unfold Zw at this;cases hv:Jf s.1 f with
    | true=>rfl
    | false=>rw[hv] at this;simp at this
  | ret r=>
    rw[hl] at h;obtain rfl:r=I:=h;exfalso
    have key:∀(l:K Yj) k,X4 (Zw s) Kw l k ()≠ .ret I:=by
     intro l
     induction l with
     | nil=>intro k h;simp[X4] at h
     | cons a l ih=>
       intro k h;simp only[X4] at h;unfold Zw at h;split at h
       . rename_i hf;exact ih _ h
       . cases h
       rename_i r hf;cases h;revert hf;generalize (_|| _:A)=c;cases c<;>simp
    exact key _ _ hl
 unfold Jf at hv;cases hl:X4 (K7 s.1 f) Wx f.2.2.2.2 0 () with
 | brk t=>
   rw[hl] at hv;simp only[Out.on] at hv;cases hw:Xo f.1 1 60 with
   | true=>exact Ki.1 hw
   | false=>rw[hw] at hv;simp at hv
 | ret r=>
   rw[hl] at hv;obtain rfl:r=I:=hv;exfalso
   have key:∀(l:K Ui) k,X4 (K7 s.1 f) Wx l k ()≠ .ret I:=by
    intro l
    induction l with
    | nil=>intro k h;simp[X4] at h
    | cons a l ih=>
      intro k h;simp only[X4] at h;unfold K7 at h;split at h
      . rename_i hf;exact ih _ h
      . cases h
      rename_i r hf;cases h;revert hf;generalize (bif decide (((k:H):W)>(0:W)) then _ else _:A)=c;cases c<;>simp
   exact key _ _ hl
theorem Qmw (s:Yk) (d:K Zj) (u:W):((Zl s d u)).1.length<=5/\∀x,x∈((Zl s d u)).1->x.2.length<=12/\∀n,n∈x.2->1<=n/\n<=60:=by
 unfold Zl;cases hc:((!(Xk s))|| (!(V5 u))) with
 | true=>exact ⟨zV _,λx hx=>by simp at hx⟩
 | false=>
   simp only[uC];cases he:(Jk (Ky s u) d).2 with
   | false=>rw[PW he];exact ⟨zV _,λx hx=>by simp at hx⟩
   | true=>
     obtain ⟨h1,h2,h3,h4⟩:=PU he;have h5:=Qmv h2;have hlen:=uN zE h3;rw[zU,zU] at hlen;refine ⟨by omega,λx hx=> ?_⟩;obtain ⟨p,hp⟩:=h4 x hx;refine ⟨by rw[hp];exact yX (Qe8 _ _ _) h5,λn hn=> ?_⟩;rw[hp] at hn;obtain ⟨f,hf,rfl⟩:=Qo6 hn;exact Qfk h2 hf
theorem TY (nm:D):∀(o:K Qp) (k:H),X4 (Vk nm) W6 o k ()= .brk ()\/∃x,x∈o/\X4 (Vk nm) W6 o k ()= .ret x.2
 | [],_=> .inl rfl
 | b ::o,k=>by
   simp only[X4,Vk];cases (b.1.toList==nm.toList) with
   | true=>exact .inr ⟨b,zG ..,rfl⟩
   | false=>
     simp only[uC];rcases TY nm o (k+1) with h | ⟨x,hx,h⟩
     . exact .inl h
     exact .inr ⟨x,zL _ hx,h⟩
theorem EX (s:Yk) (d:K Zj) (u:W) (n:D):(Y9 s d u n).length<=12:=by
 unfold Y9 Y2;rcases TY n (Zl s d u).1 0 with h | ⟨x,hx,h⟩
 . rw[h];exact zV _
 rw[h];exact ((Qmw s d u).2 x hx).1
theorem LX (l:K W):GoD.size l=l.length:=Qbh (λ_=>rfl)
open GoE (enc wide)
def W8 (d:K Zj):A:=((Qu d)).2
theorem QN (d:K Zj):ACalls Tryz.prog 149 [.h d] (.b (W8 d)):=by
 refine en Qa Tryz.func149 λw0 F0 hG=> ?_
 exact sn Qa [0,2] [] p0 <| tn Qa [2,4] [] (pc 1 (Pn d) p0) <| tu Qa [(2,.b (((Qu d)).2))] [0] [] [] p0 <| Qd <| pb [] (show W8 d=((Qu d)).2 from rfl)
def Ql (x:Qq):A:=((Xk x.1)&&(W8 x.2))
theorem Ws (x:Qq):ACalls Tryz.prog 99 [.a [.h x.1.1,.h x.1.2.1,.i x.1.2.2,.h x.2]] (.b (Ql x)):=by
 refine en Qa Tryz.func99 λw0 F0 hG=> ?_
 refine sn Qa [1,2] [1] p0 <| Qb <| mz [(1,.p 1 0),(2,.b E)] [0] [(1, [.h x.1.1,.h x.1.2.1,.i x.1.2.2,.h x.2])] [] <| jn [(2,.b ((Xk x.1)&&(W8 x.2)))] [1,2] [] [1] (Xk x.1) (λh1=> ?_) (λh1=> ?_) ?_
 ·refine rn Qa [2] [] (pc 2 (cb h1 (Hj x.1)) (pc 6 (QN x.2) p0)) ?_;exact zA (by rw[h1]<;>kernel_rfl)
 ·refine rn Qa [2] [] (pc 2 (cb h1 (Hj x.1)) p0) ?_;exact zA (by rw[h1]<;>kernel_rfl)
 exact Qd <| pb [] (show Ql x=((Xk x.1)&&(W8 x.2)) from rfl)
def Hc (d:K Zj):A:=((Yf d)).2
theorem QO (d:K Zj):ACalls Tryz.prog 128 [.h d] (.b (Hc d)):=by
 refine en Qa Tryz.func128 λw0 F0 hG=> ?_
 exact sn Qa [0,2] [] p0 <| tn Qa [2,4] [] (pc 1 (Pm d) p0) <| tu Qa [(2,.b (((Yf d)).2))] [0] [] [] p0 <| Qd <| pb [] (show Hc d=((Yf d)).2 from rfl)
def Q7 (x:Qq):A:=((Z4 x.1)&&(Hc x.2))
theorem Ju (x:Qq):ACalls Tryz.prog 79 [.a [.h x.1.1,.h x.1.2.1,.i x.1.2.2,.h x.2]] (.b (Q7 x)):=by
 refine en Qa Tryz.func79 λw0 F0 hG=> ?_
 refine sn Qa [1,2] [1] p0 <| Qb <| mz [(1,.p 1 0),(2,.b E)] [0] [(1, [.h x.1.1,.h x.1.2.1,.i x.1.2.2,.h x.2])] [] <| jn [(2,.b ((Z4 x.1)&&(Hc x.2)))] [1,2] [] [1] (Z4 x.1) (λh1=> ?_) (λh1=> ?_) ?_
 ·refine rn Qa [2] [] (pc 2 (cb h1 (Bb x.1)) (pc 6 (QO x.2) p0)) ?_;exact zA (by rw[h1]<;>kernel_rfl)
 ·refine rn Qa [2] [] (pc 2 (cb h1 (Bb x.1)) p0) ?_;exact zA (by rw[h1]<;>kernel_rfl)
 exact Qd <| pb [] (show Q7 x=((Z4 x.1)&&(Hc x.2)) from rfl)
def Yx (f:Y7):D:=(bif (!(Q1 f.1)) then ⟨#[]⟩ else (bif (f.2==(1:W)) then (((⟨#[102,105,101,108,100,32]⟩:D)++f.1)++(⟨#[32,105,110,116]⟩:D)) else (bif (f.2==(2:W)) then (((⟨#[102,105,101,108,100,32]⟩:D)++f.1)++(⟨#[32,115,116,114,105,110,103]⟩:D)) else ⟨#[]⟩)))
theorem YU (f:Y7):ACalls Tryz.prog 100 [.a [.s f.1,.i f.2]] (.s (Yx f)):=by
 refine en Qa Tryz.func100 λw0 F0 hG=> ?_
 refine sn Qa [1,2] [1] p0 <| Qb <| Qo <| tn Qa [1,2,3] [1] (pc 2 (Zc f.1) p0) <| ck (!(Q1 f.1)) (λh1=> ?_) (λh1=> ?_)
 ·exact tu Qa [(2,.s ⟨#[]⟩)] [0] [] [] p0 <| Qd <| ps [] (Q9 h1 (rfl))
 have h1n:(Q1 f.1)=I:=Zz h1;have h1nz:=EG h1n;refine tu Qa [(1,.p 1 0),(2,.s ⟨#[]⟩),(8,.b (f.2==(1:W)))] [0] [(1, [.s f.1,.i f.2])] [] p0 <| ck (f.2==(1:W)) (λh2=> ?_) (λh2=> ?_)
 ·have h2d:=eq_of_beq h2;exact sn Qa [2] [] (px (Zs (n:=(zD (⟨#[102,105,101,108,100,32]⟩:D)+zD f.1)) (by have hq0:zD (⟨#[102,105,101,108,100,32]⟩:D)=6:=rfl;unfold uM;first|omega|(simp only[zF];omega))) (px (Zs (n:=(zD ((⟨#[102,105,101,108,100,32]⟩:D)++f.1)+zD (⟨#[32,105,110,116]⟩:D))) (by have hq0:zD (⟨#[102,105,101,108,100,32]⟩:D)=6:=rfl;have hq1:zD (⟨#[32,105,110,116]⟩:D)=4:=rfl;unfold uM;first|omega|(simp only[zF];omega))) p0)) <| Qd <| ps [] (Qj h1 (Q9 h2 (rfl)))
 have h2d:=X0 h2;refine sn Qa [1,2,16] [1] p0 <| ck (f.2==(2:W)) (λh3=> ?_) (λh3=> ?_)
 ·have h3d:=eq_of_beq h3;exact tn Qa [2] [] (px (Zs (n:=(zD (⟨#[102,105,101,108,100,32]⟩:D)+zD f.1)) (by have hq0:zD (⟨#[102,105,101,108,100,32]⟩:D)=6:=rfl;unfold uM;first|omega|(simp only[zF];omega))) (px (Zs (n:=(zD ((⟨#[102,105,101,108,100,32]⟩:D)++f.1)+zD (⟨#[32,115,116,114,105,110,103]⟩:D))) (by have hq0:zD (⟨#[102,105,101,108,100,32]⟩:D)=6:=rfl;have hq1:zD (⟨#[32,115,116,114,105,110,103]⟩:D)=7:=rfl;unfold uM;first|omega|(simp only[zF];omega))) p0)) <| Qd <| ps [] (Qj h1 (Qj h2 (Q9 h3 (rfl))))
 exact Qf <| tn Qa [2] [] p0 <| Qd <| ps [] (Qj h1 (Qj h2 (Qj h3 (rfl))))
def Kg (f:Y7):D:=(bif (!(Xs f.1)) then ⟨#[]⟩ else (bif (f.2==(1:W)) then (((⟨#[102,105,101,108,100,32]⟩:D)++f.1)++(⟨#[32,105,110,116]⟩:D)) else (bif (f.2==(2:W)) then (((⟨#[102,105,101,108,100,32]⟩:D)++f.1)++(⟨#[32,115,116,114,105,110,103]⟩:D)) else ⟨#[]⟩)))
theorem YV (f:Y7):ACalls Tryz.prog 80 [.a [.s f.1,.i f.2]] (.s (Kg f)):=by
 refine en Qa Tryz.func80 λw0 F0 hG=> ?_
 refine sn Qa [1,2] [1] p0 <| Qb <| Qo <| tn Qa [1,2,3] [1] (pc 2 (Yh f.1) p0) <| ck (!(Xs f.1)) (λh1=> ?_) (λh1=> ?_)
 ·exact tu Qa [(2,.s ⟨#[]⟩)] [0] [] [] p0 <| Qd <| ps [] (Q9 h1 (rfl))
 have h1n:(Xs f.1)=I:=Zz h1;have h1nz:=Qou h1n;refine tu Qa [(1,.p 1 0),(2,.s ⟨#[]⟩),(8,.b (f.2==(1:W)))] [0] [(1, [.s f.1,.i f.2])] [] p0 <| ck (f.2==(1:W)) (λh2=> ?_) (λh2=> ?_)
 ·have h2d:=eq_of_beq h2;exact sn Qa [2] [] (px (Zs (n:=(zD (⟨#[102,105,101,108,100,32]⟩:D)+zD f.1)) (by have hq0:zD (⟨#[102,105,101,108,100,32]⟩:D)=6:=rfl;unfold uM;first|omega|(simp only[zF];omega))) (px (Zs (n:=(zD ((⟨#[102,105,101,108,100,32]⟩:D)++f.1)+zD (⟨#[32,105,110,116]⟩:D))) (by have hq0:zD (⟨#[102,105,101,108,100,32]⟩:D)=6:=rfl;have hq1:zD (⟨#[32,105,110,116]⟩:D)=4:=rfl;unfold uM;first|omega|(simp only[zF];omega))) p0)) <| Qd <| ps [] (Qj h1 (Q9 h2 (rfl)))
 have h2d:=X0 h2;refine sn Qa [1,2,16] [1] p0 <| ck (f.2==(2:W)) (λh3=> ?_) (λh3=> ?_)
 ·have h3d:=eq_of_beq h3;exact tn Qa [2] [] (px (Zs (n:=(zD (⟨#[102,105,101,108,100,32]⟩:D)+zD f.1)) (by have hq0:zD (⟨#[102,105,101,108,100,32]⟩:D)=6:=rfl;unfold uM;first|omega|(simp only[zF];omega))) (px (Zs (n:=(zD ((⟨#[102,105,101,108,100,32]⟩:D)++f.1)+zD (⟨#[32,115,116,114,105,110,103]⟩:D))) (by have hq0:zD (⟨#[102,105,101,108,100,32]⟩:D)=6:=rfl;have hq1:zD (⟨#[32,115,116,114,105,110,103]⟩:D)=7:=rfl;unfold uM;first|omega|(simp only[zF];omega))) p0)) <| Qd <| ps [] (Qj h1 (Qj h2 (Q9 h3 (rfl))))
 exact Qf <| tn Qa [2] [] p0 <| Qd <| ps [] (Qj h1 (Qj h2 (Qj h3 (rfl))))
def I7 (s_:D) (k0:H) (s0:W):Rd (W) (W) (W):=(.next (xL (IntKind.i64.wrap (IntKind.i64.wrap (33*s0)+IntKind.i64.wrap (Z9 s_ (k0:W)))) 65521))
def I8 (_:H) (s0:W):W:=s0
def Wt (s_:D):W:=(Out.on (Ks (I7 s_) I8 (zD s_:W).toNat 0 3) (λy0=>y0))
theorem AJ (s_:D):ACalls Tryz.prog 229 [.s s_] (.i (Wt s_)):=by
 refine en Qa Tryz.func229 λw0 F0 hG=> ?_
 refine sn Qa [0,2] [] p0 <| tn Qa [0,2,3] [] p0 <| Qb <| tu Qa [(2,.i 0),(3,.i 3),(6,.i (zD s_:W)),(7,.i 0)] [] [] [] p0 <| stT 0 0 s_ (λhs1=> ?_)
 refine Qqh (I7 s_) I8 (zD s_:W).toNat 3 (λk0 s0=> [(3,.i s0),(7,.i (k0:W))]) [3,7] (λy0=> [(3,.i y0)]) [0,3,6,7] (λ_ s0=>0<=s0/\s0<=65520) wf0 ⟨(by decide),(by decide)⟩ (λk0 s0 O U=> ?_) (λk0 s0 O U=> ?_) (λy0 hD0=> ?_)
 ·have hA0_0:=U.2.1;have hA0_1:=U.2.2;have hsb:=QD s_ (k0:W);have hcn:=YO hA0_0 hA0_1 hsb.1 hsb.2;refine sn Qa [0,2,3,6,7,8] [] (pe 0 (zB ((k0:W)<(zD s_:W))) p0) <| Qb <| ckT <| Qf <| Qb <| Qo <| tn Qa [0,2,3,4,6,7] [] p0 <| qu Qa [(3,.i (xL (IntKind.i64.wrap (IntKind.i64.wrap (33*s0)+IntKind.i64.wrap (Z9 s_ (k0:W)))) 65521))] [3] [] [] (px (Cx (i:=(k0:W)) (n:=(zD s_)) (by omega)) (px (Qly (n:=65521) (by omega)) (px (Qdw (k:= .i64) (n:=xL (IntKind.i64.wrap (IntKind.i64.wrap (33*s0)+IntKind.i64.wrap (Z9 s_ (k0:W)))) 65521) (by unfold InR;simp only[IntKind.min,IntKind.max,IntKind.bits,IntKind.signed];omega)) p0))) ?_
  refine rn Qa [0,2,3,6,7] [] (pe 0 (Jl (Qn k0 (by omega))) p0) ?_;exact xw (xL (IntKind.i64.wrap (IntKind.i64.wrap (33*s0)+IntKind.i64.wrap (Z9 s_ (k0:W)))) 65521) ⟨Z6 O (rfl) U.1,(by first | exact hcn.1 | exact hcn.2),(by first | exact hcn.1 | exact hcn.2)⟩
 ·have hA0_0:=U.2.1;have hA0_1:=U.2.2;exact sn Qa [0,2,3,6,7,8] [] (pe 0 (zC ((k0:W)<(zD s_:W))) p0) <| Qb <| ckF <| Q4 <| xw _ (U6 O (rfl) U.1)
 exact sn Qa [2] [] p0 <| Qd <| pi [] (Vp hD0 (rfl))
def Ez (s_:D) (k0:H) (s0:W):Rd (W) (W) (W):=(.next (xL (IntKind.i64.wrap (IntKind.i64.wrap (s0*33)+IntKind.i64.wrap (Z9 s_ (k0:W)))) 65521))
def I9 (_:H) (s0:W):W:=s0
def Uo (s_:D):W:=(Out.on (Ks (Ez s_) I9 (zD s_:W).toNat 0 3) (λy0=>y0))
theorem AK (s_:D):ACalls Tryz.prog 215 [.s s_] (.i (Uo s_)):=by
 refine en Qa Tryz.func215 λw0 F0 hG=> ?_
 refine sn Qa [0,2] [] p0 <| tn Qa [0,2,3] [] p0 <| Qb <| tu Qa [(2,.i 0),(3,.i 3),(4,.i 0)] [] [] [] p0 <| stT 0 0 s_ (λhs1=> ?_)
 refine Qqh (Ez s_) I9 (zD s_:W).toNat 3 (λk0 s0=> [(3,.i s0),(4,.i (k0:W))]) [3,4] (λy0=> [(3,.i y0)]) [0,3,4] (λ_ s0=>0<=s0/\s0<=65520) wf0 ⟨(by decide),(by decide)⟩ (λk0 s0 O U=> ?_) (λk0 s0 O U=> ?_) (λy0 hD0=> ?_)
 ·have hA0_0:=U.2.1;have hA0_1:=U.2.2;have hsb:=QD s_ (k0:W);have hcn:=PK hA0_0 hA0_1 hsb.1 hsb.2;refine Qb <| sn Qa [0,2,3,4,8] [] (pe 3 (zB ((k0:W)<(zD s_:W))) p0) <| ckT <| Qf <| Qb <| Qo <| qn Qa [0,2,3,4] [] (px (Cx (i:=(k0:W)) (n:=(zD s_)) (by omega)) (px (Qly (n:=65521) (by omega)) (px (Qdw (k:= .i64) (n:=xL (IntKind.i64.wrap (IntKind.i64.wrap (s0*33)+IntKind.i64.wrap (Z9 s_ (k0:W)))) 65521) (by unfold InR;simp only[IntKind.min,IntKind.max,IntKind.bits,IntKind.signed];omega)) p0))) ?_
  refine qu Qa [(3,.i (xL (IntKind.i64.wrap (IntKind.i64.wrap (s0*33)+IntKind.i64.wrap (Z9 s_ (k0:W)))) 65521)),(4,.i ((k0+1:H):W))] [3,4] [] [] (pe 1 (Jl (Qn k0 (by omega))) p0) ?_;exact xw (xL (IntKind.i64.wrap (IntKind.i64.wrap (s0*33)+IntKind.i64.wrap (Z9 s_ (k0:W)))) 65521) ⟨Z6 O (rfl) U.1,(by first | exact hcn.1 | exact hcn.2),(by first | exact hcn.1 | exact hcn.2)⟩
 ·have hA0_0:=U.2.1;have hA0_1:=U.2.2;exact Qb <| sn Qa [0,2,3,4,8] [] (pe 3 (zC ((k0:W)<(zD s_:W))) p0) <| ckF <| Q4 <| xw _ (U6 O (rfl) U.1)
 exact sn Qa [2] [] p0 <| Qd <| pi [] (Vp hD0 (rfl))
def E0 (s_:D) (k0:H) (s0:Z×W):Rd Z (Z×W) Z:=(bif (Z9 s_ (k0:W)==(10:W)) then (.next (s0.1++ [(ByteArray.extract s_ s0.2.toNat (k0:W).toNat)],((k0+1:H):W))) else (.next (s0.1,s0.2)))
def Ik (_:H) (s0:Z×W):Z:=s0.1
def Y0 (s_:D):Z:=(Out.on (Ks (E0 s_) Ik (zD s_:W).toNat 0 ([],0)) (λy0=>y0))
theorem LY (s_:D) (hp:zD s_<=1073741000):ACalls Tryz.prog 164 [.s s_] (.o 0 (Y0 s_)):=by
 refine en Qa Tryz.func164 λw0 F0 hG=> ?_
 refine sn Qa [0,2] [] p0 <| tn Qa [0,2,3] [] p0 <| tu Qa [(2,.e 0),(3,.one (.slc (.own I 384) 1 [])),(4,.i 0)] [] [] [] p0 <| Qb <| sn Qa [0,2,3,4,5] [] p0 <| mz [(5,.i 0)] [] [] [] <| stT 0 0 s_ (λhs1=> ?_)
 refine Qqh (E0 s_) Ik (zD s_:W).toNat ([],0) (λk0 s0=> [(3,.o 147202 s0.1),(4,.i s0.2),(5,.i (k0:W))]) [3,4,5] (λy0=> [(3,.o 147352 y0)]) [0,3,4,5] (λk0 s0=>zE s0.1<=k0/\0<=s0.2/\s0.2<=(k0:W)/\zE s0.1<=k0) (Xg [(384,147202)] (by kernel_rfl)) ⟨(by simp),(by first | omega | simp),(by first | omega | simp),(by first | omega | simp)⟩ (λk0 s0 O U=> ?_) (λk0 s0 O U=> ?_) (λy0 hD0=> ?_)
 ·have hA0_0:=U.2.1;have hA0_1:=U.2.2.1;have hA0_2:=U.2.2.2.1;have hA0_3:=U.2.2.2.2;refine Qb <| sn Qa [0,2,3,4,5,10] [] (pe 3 (zB ((k0:W)<(zD s_:W))) p0) <| ckT <| Qf <| Qb <| Qo <| tn Qa [0,2,3,4,5,16] [] (px (Cx (i:=(k0:W)) (n:=(zD s_)) (by omega)) p0) <| ck (Z9 s_ (k0:W)==(10:W)) (λh2=> ?_) (λh2=> ?_)
  ·have h2d:=eq_of_beq h2;refine wT 3 0 (.own I 147202) s0.1 (λhw3 hl4=> ?_);refine tu Qa [(3,.one (.slc (.own I 1472) 1 ((eL s0.1)++ [[.s (ByteArray.extract s_ s0.2.toNat (k0:W).toNat)]])))] [3] [] [] (px (Gc (lo:=s0.2) (hi:=(k0:W)) (n:=(zD s_)) (⟨by omega,by omega,by omega⟩)) (pa s0.1 [(ByteArray.extract s_ s0.2.toNat (k0:W).toNat)] p0)) <| eqn [(3,.o 1472 (s0.1++ [(ByteArray.extract s_ s0.2.toNat (k0:W).toNat)]))] [3] [] [] (by rw[show ((eL s0.1)++ [[.s (ByteArray.extract s_ s0.2.toNat (k0:W).toNat)]])=(eL (s0.1++ [(ByteArray.extract s_ s0.2.toNat (k0:W).toNat)])) from Jc (rfl) (rfl)];first | done | kernel_rfl) ?_
   refine rn Qa [0,2,3,4,5] [] (pe 1 (Jl (Qn k0 (by omega))) p0) ?_;refine qn Qa [0,2,3,4,5] [] (pe 1 (Jl (Qn k0 (by omega))) p0) ?_;exact zQ (s0.1++ [(ByteArray.extract s_ s0.2.toNat (k0:W).toNat)],((k0+1:H):W)) (zT (Xg [(1472,147202)] (by kernel_rfl)) ⟨Z6 O (Q9 h2 (rfl)) U.1,by first|omega|(simp;omega) | simp,(by first|omega|(simp;omega)),(by first|omega|(simp;omega)),(by first|omega|(simp;omega))⟩)
  have h2d:=X0 h2;refine Qf <| qu Qa [(5,.i ((k0+1:H):W))] [5] [] [] (pe 1 (Jl (Qn k0 (by omega))) p0) ?_
  exact xw (s0.1,s0.2) ⟨Z6 O (Qj h2 (rfl)) U.1,by first|omega|(simp;omega) | simp,(by first|omega|(simp;omega)),(by first|omega|(simp;omega)),(by first|omega|(simp;omega))⟩
 ·have hA0_0:=U.2.1;have hA0_1:=U.2.2.1;have hA0_2:=U.2.2.2.1;have hA0_3:=U.2.2.2.2;exact Qb <| sn Qa [0,2,3,4,5,10] [] (pe 3 (zC ((k0:W)<(zD s_:W))) p0) <| ckF <| Q4 <| zQ _ (zT (Xg [(147202,147352)] (by kernel_rfl)) (U6 O (rfl) U.1))
 exact sn Qa [2] [] p0 <| Qd <| po0 [] (Vp hD0 (rfl))
def Kh (text:D) (k0:H) (s0:W):Rd (W×A) (W) (W):=(bif (decide (Z9 text (k0:W)<(48:W))|| decide (Z9 text (k0:W)>(57:W))) then (.ret (0,E)) else (.next (IntKind.i64.wrap (IntKind.i64.wrap (IntKind.i64.wrap (10*s0)+IntKind.i64.wrap (Z9 text (k0:W)))-48))))
def Hd (_:H) (s0:W):W:=s0
def Xf (text:D):W×A:=(bif decide ((zD text:W)>(10:W)) then (0,E) else (Out.on (Ks (Kh text) Hd (zD text:W).toNat 0 0) (λy0=>(bif (decide (y0>(1000000000:W))|| (!((Qz y0).toList==text.toList))) then (0,E) else (y0,I)))))
theorem La (text:D):ACalls Tryz.prog 165 [.s text] (.tup [(E, [.i (((Xf text)).1)]),(E, [.b (((Xf text)).2)])]):=by
 refine en Qa Tryz.func165 λw0 F0 hG=> ?_
 refine sn Qa [0,2,3] [] p0 <| Qb <| tn Qa [0,2,3,8] [] p0 <| ck (decide ((zD text:W)>(10:W))) (λh1=> ?_) (λh1=> ?_)
 ·exact tu Qa [(2,.i 0),(3,.b E)] [] [] [] p0 <| Qd <| pz [] (show Xf text=_ from Q9 h1 (rfl)) (λz=> .tup [(E, [.i z.1]),(E, [.b z.2])])
 have h1d:=uI h1;refine Qf <| tu Qa [(2,.i 0),(3,.b E),(4,.i 0)] [] [] [] p0 <| Qb <| sn Qa [0,2,3,4,5] [] p0 <| mz [(5,.i 0)] [] [] [] <| stT 0 0 text (λhs2=> ?_)
 refine Ql9 (Kh text) Hd (zD text:W).toNat 0 (λk0 s0=> [(4,.i s0),(5,.i (k0:W))]) [4,5] (λy0=> [(4,.i y0)]) [4,5] (λk0 s0=>0<=s0/\s0<10^k0) (λy0=>0<=y0) wf0 ⟨(by decide),(by decide)⟩ (λk0 s0 O U=> ?_) (λk0 s0 O U=> ?_) (λy0 hD0=> ?_)
 ·have hA0_0:=U.2.1;have hA0_1:=U.2.2;have hsb:=QD text (k0:W);have hpn:=PN (c:=Z9 text (k0:W)) hA0_0 hA0_1 (by omega);refine Qb <| sn Qa [0,2,3,4,5,12] [] (pe 3 (zB ((k0:W)<(zD text:W))) p0) <| ckT <| Qf <| Qb <| Qo <| Qb <| Qb <| mz [(12,.b I)] [] [] [] <| jn [(24,.b (decide (Z9 text (k0:W)<(48:W))|| decide (Z9 text (k0:W)>(57:W))))] [12] [] [] (decide (Z9 text (k0:W)<(48:W))) (λh3=> ?_) (λh3=> ?_) ?_
  ·have h3d:=uL h3;refine rn Qa [0,2,3,4,5,24] [] (px (Cx (i:=(k0:W)) (n:=(zD text)) (by omega)) (pt 3 h3 p0)) ?_;exact zA (by rw[h3]<;>kernel_rfl)
  ·have h3d:=uI h3;refine rn Qa [0,2,3,4,5,24] [] (px (Cx (i:=(k0:W)) (n:=(zD text)) (by omega)) (pf 3 h3 (px (Cx (i:=(k0:W)) (n:=(zD text)) (by omega)) p0))) ?_;exact zA (by rw[h3]<;>kernel_rfl)
  refine ck (decide (Z9 text (k0:W)<(48:W))|| decide (Z9 text (k0:W)>(57:W))) (λh4=> ?_) (λh4=> ?_)
  ·refine su Qa [] [24] [] [] p0 <| Qd ?_
   have hr5:(Ks (Kh text) Hd (zD text:W).toNat 0 0)= .ret (0,E):=Ty O (Q9 h4 (rfl)) U.1;exact pz [] (show Xf text=_ from Qj h1 (On hr5)) (λz=> .tup [(E, [.i z.1]),(E, [.b z.2])])
  have h4l:(decide (Z9 text (k0:W)<(48:W)))=E:=JL h4;have h4ld:=uI h4l;have h4r:(decide (Z9 text (k0:W)>(57:W)))=E:=WL h4;have h4rd:=uI h4r;refine Qf <| rn Qa [0,2,3,4,5] [] (px (Cx (i:=(k0:W)) (n:=(zD text)) (by omega)) p0) ?_
  refine qn Qa [0,2,3,4,5] [] (pe 1 (Jl (Qn k0 (by omega))) p0) ?_;exact xw (IntKind.i64.wrap (IntKind.i64.wrap (IntKind.i64.wrap (10*s0)+IntKind.i64.wrap (Z9 text (k0:W)))-48)) ⟨Z6 O (Qj h4 (rfl)) U.1,(by first | (have hz:=hpn (by omega) (by omega);rw[hz.1];first | exact hz.2.1 | exact hz.2.2)),(by first | (have hz:=hpn (by omega) (by omega);rw[hz.1];first | exact hz.2.1 | exact hz.2.2))⟩
 ·have hA0_0:=U.2.1;have hA0_1:=U.2.2;exact Qb <| sn Qa [0,2,3,4,5,12] [] (pe 3 (zC ((k0:W)<(zD text:W))) p0) <| ckF <| Q4 <| xw s0 ⟨U6 O (rfl) U.1,by first|omega|(simp only[zM];omega)⟩
 have hD0_0:=hD0.2;refine Qb <| Qb <| jn [(40,.b (decide (y0>(1000000000:W))|| (!((Qz y0).toList==text.toList))))] [0] [] [] (decide (y0>(1000000000:W))) (λh6=> ?_) (λh6=> ?_) ?_
 ·refine rn Qa [2,3,4,40] [] (pt 1 h6 p0) ?_;exact zA (by rw[h6]<;>kernel_rfl)
 ·have h6d:=uI h6;have hk7:=J4 (n:=y0) (by omega);refine rn Qa [2,3,4,40] [] (pf 1 h6 (pc 4 (Wp y0 (by omega)) p0)) ?_;exact zA (by rw[h6]<;>kernel_rfl)
 refine ck (decide (y0>(1000000000:W))|| (!((Qz y0).toList==text.toList))) (λh8=> ?_) (λh8=> ?_)
 ·exact sn Qa [2,3,4] [] p0 <| Qd <| pz [] (show Xf text=_ from Qj h1 (Vp hD0.1 (Q9 h8 (rfl)))) (λz=> .tup [(E, [.i z.1]),(E, [.b z.2])])
 exact Qf <| sn Qa [2,3] [] p0 <| Qd <| pz [] (show Xf text=_ from Qj h1 (Vp hD0.1 (Qj h8 (rfl)))) (λz=> .tup [(E, [.i z.1]),(E, [.b z.2])])
def Qy (op:W):D:=(bif (!(Xo op 1 9)) then ⟨#[63]⟩ else (nth [(⟨#[97,108,108]⟩:D),⟨#[104,97,115]⟩,⟨#[101,113]⟩,⟨#[108,116]⟩,⟨#[110,111,116]⟩,⟨#[97,110,100]⟩,⟨#[111,114]⟩,⟨#[105,110]⟩,⟨#[108,105,110,107,101,100]⟩] (IntKind.i64.wrap (op-1)).toNat))
theorem Pw (op:W):ACalls Tryz.prog 208 [.i op] (.s (Qy op)):=by
 refine en Qa Tryz.func208 λw0 F0 hG=> ?_
 refine sn Qa [0,2] [] p0 <| tn Qa [0,2,3] [] p0 <| Qb <| tu Qa [(2,.s ⟨#[]⟩),(3,.o 256 [(⟨#[97,108,108]⟩:D),⟨#[104,97,115]⟩,⟨#[101,113]⟩,⟨#[108,116]⟩,⟨#[110,111,116]⟩,⟨#[97,110,100]⟩,⟨#[111,114]⟩,⟨#[105,110]⟩,⟨#[108,105,110,107,101,100]⟩]),(7,.b (!(Xo op 1 9)))] [] [] [] (pc 1 (Js op 1 9) p0) <| ck (!(Xo op 1 9)) (λh1=> ?_) (λh1=> ?_)
 ·exact sn Qa [0,2,3] [] p0 <| Qd <| ps [] (Q9 h1 (rfl))
 have h1n:(Xo op 1 9)=I:=Zz h1;have h1nw:=Ki.1 h1n;have h1nw:=Ki.1 h1n;have h1nx:=IntWalk.i64_in (op-1) (by have:=Ki.1 h1n;omega);refine Qf <| wT 3 0 (.own I 256) [(⟨#[97,108,108]⟩:D),⟨#[104,97,115]⟩,⟨#[101,113]⟩,⟨#[108,116]⟩,⟨#[110,111,116]⟩,⟨#[97,110,100]⟩,⟨#[111,114]⟩,⟨#[105,110]⟩,⟨#[108,105,110,107,101,100]⟩] (λhw3 hl4=> ?_)
 have hx2:=ng [(⟨#[97,108,108]⟩:D),⟨#[104,97,115]⟩,⟨#[101,113]⟩,⟨#[108,116]⟩,⟨#[110,111,116]⟩,⟨#[97,110,100]⟩,⟨#[111,114]⟩,⟨#[105,110]⟩,⟨#[108,105,110,107,101,100]⟩] (IntKind.i64.wrap (op-1)).toNat (by simp only[zJ,zY];omega);exact sn Qa [2] [] (pG 3 (IntKind.i64.wrap (op-1)) hx2 p0) <| Qd <| ps [] (Qj h1 (rfl))
def X2 (op:W):D:=(bif (!(Q0 op 1 9)) then ⟨#[63]⟩ else (nth ([⟨#[]⟩,⟨#[97,108,108]⟩,⟨#[104,97,115]⟩,⟨#[101,113]⟩,⟨#[108,116]⟩,⟨#[110,111,116]⟩,⟨#[97,110,100]⟩,⟨#[111,114]⟩,⟨#[105,110]⟩,⟨#[108,105,110,107,101,100]⟩]:Z) op.toNat))
theorem Px (op:W):ACalls Tryz.prog 180 [.i op] (.s (X2 op)):=by
 refine en Qa Tryz.func180 λw0 F0 hG=> ?_
 refine sn Qa [0,2] [] p0 <| Qb <| tn Qa [0,2,5] [] (pc 1 (Ys op 1 9) p0) <| ck (!(Q0 op 1 9)) (λh1=> ?_) (λh1=> ?_)
 ·exact tu Qa [(2,.s ⟨#[63]⟩)] [] [] [] p0 <| Qd <| ps [] (Q9 h1 (rfl))
 have h1n:(Q0 op 1 9)=I:=Zz h1;have h1nw:=K1.1 h1n;have h1nw:=K1.1 h1n;refine Qf ?_;have hx2:=ng ([⟨#[]⟩,⟨#[97,108,108]⟩,⟨#[104,97,115]⟩,⟨#[101,113]⟩,⟨#[108,116]⟩,⟨#[110,111,116]⟩,⟨#[97,110,100]⟩,⟨#[111,114]⟩,⟨#[105,110]⟩,⟨#[108,105,110,107,101,100]⟩]:Z) op.toNat (by simp only[zJ,zY];omega);exact tu Qa [(2,.s (nth ([⟨#[]⟩,⟨#[97,108,108]⟩,⟨#[104,97,115]⟩,⟨#[101,113]⟩,⟨#[108,116]⟩,⟨#[110,111,116]⟩,⟨#[97,110,100]⟩,⟨#[111,114]⟩,⟨#[105,110]⟩,⟨#[108,105,110,107,101,100]⟩]:Z) op.toNat))] [0] [] [] (pG 2 op hx2 p0) <| Qd <| ps [] (Qj h1 (rfl))
def Hp (line:D) (k0:H) (_:uB):Rd (Z×A) (uB) (uB):=(bif (!(Xo (IntKind.i64.wrap (Z9 line (k0:W))) 32 126)) then (.ret ([],E)) else (.next ()))
def Bf (_:H) (_:uB):uB:=()
def Xu (line:D):Z×A:=(bif decide ((zD line:W)>(600:W)) then ([],E) else (Out.on (Ks (Hp line) Bf (zD line:W).toNat 0 ()) (λ_=>(bif decide (((Vb line).length:W)>(24:W)) then ([],E) else ((Vb line),I)))))
theorem YW (line:D):ACalls Tryz.prog 297 [.s line] (.tup [(E, [.o 0 (((Xu line)).1)]),(E, [.b (((Xu line)).2)])]):=by
 refine en Qa Tryz.func297 λw0 F0 hG=> ?_
 refine sn Qa [0,2,3] [] p0 <| Qb <| tn Qa [0,2,3,8] [] p0 <| ck (decide ((zD line:W)>(600:W))) (λh1=> ?_) (λh1=> ?_)
 ·have h1d:=uL h1;refine tu Qa [(2,.e 0),(3,.b E)] [] [] [] p0 <| opn [(E,2,0,I,384000,1)] ?_
  exact Qd <| pz [] (show Xu line=_ from Q9 h1 (rfl)) (λz=> .tup [(E, [.o 0 z.1]),(E, [.b z.2])])
 have h1d:=uI h1;refine Qf <| Qb <| tu Qa [(2,.e 0),(3,.b E),(10,.i (zD line:W)),(11,.i 0)] [] [] [] p0 <| stT 0 0 line (λhs2=> ?_)
 refine Ql9 (Hp line) Bf (zD line:W).toNat () (λk0 _=> [(11,.i (k0:W))]) [11] (λ_=> []) [10,11] (λk0 _=>∀j:H,j<k0->Z9 line (j:W)<=126) (λ_=>∀j:H,j<zD line->Z9 line (j:W)<=126) wf0 (by (intro j hj;omega)) (λk0 s0 O U=> ?_) (λk0 s0 O U=> ?_) (λy0 hD0=> ?_)
 ·have hA0_0:=U.2;have hsb:=QD line (k0:W);have hsw:=Qmp hsb;refine su Qa [(12,.b I)] [] [] [] (pe 0 (zB ((k0:W)<(zD line:W))) p0) <| Qb <| ckT <| Qf <| Qb <| Qo <| sn Qa [0,2,3,4,10,11] [] p0 <| tn Qa [0,2,3,10,11,19] [] (px (Cx (i:=(k0:W)) (n:=(zD line)) (by omega)) (pc 4 (Js (IntKind.i64.wrap (Z9 line (k0:W))) 32 126) p0)) <| ck (!(Xo (IntKind.i64.wrap (Z9 line (k0:W))) 32 126)) (λh3=> ?_) (λh3=> ?_)
  ·have h3n:(Xo (IntKind.i64.wrap (Z9 line (k0:W))) 32 126)=E:=Vt h3;refine tu Qa [] [12] [] [] p0 <| opn [(E,2,0,I,384000,1)] ?_
   refine Qd ?_;have hr4:(Ks (Hp line) Bf (zD line:W).toNat 0 ())= .ret ([],E):=Ty O (Q9 h3 (rfl)) U.1;exact pz [] (show Xu line=_ from Qj h1 (On hr4)) (λz=> .tup [(E, [.o 0 z.1]),(E, [.b z.2])])
  have h3n:(Xo (IntKind.i64.wrap (Z9 line (k0:W))) 32 126)=I:=Zz h3;have h3nw:=Ki.1 h3n;have h3nw:=Ki.1 h3n;refine Qf <| qu Qa [(11,.i ((k0+1:H):W))] [11,12] [] [] (pe 0 (Jl (Qn k0 (by omega))) p0) ?_
  exact xw () ⟨Z6 O (Qj h3 (rfl)) U.1,(by (intro j hj;rcases Nat.lt_succ_iff_lt_or_eq.1 hj with hj | rfl;exact hA0_0 j hj;first | exact (hsw ‹_›).2 | (apply (hsw _).2;simp_all)))⟩
 ·have hA0_0:=U.2;exact sn Qa [0,2,3,10,11,12] [] (pe 0 (zC ((k0:W)<(zD line:W))) p0) <| Qb <| ckF <| Q4 <| xw () ⟨U6 O (rfl) U.1,by (intro j hj;first | exact hA0_0 j (by omega) | (simp_all;done))⟩
 have hD0_0:=hD0.2;refine sn Qa [2,3,5] [] (pc 1 (UE line (by omega) (Qiw (by assumption))) p0) <| Qb <| tn Qa [2,3,5,25] [] (pl 1 (Vb line) p0) <| ck (decide (((Vb line).length:W)>(24:W))) (λh5=> ?_) (λh5=> ?_)
 ·have h5d:=uL h5;refine tu Qa [(5,.o 1408 (Vb line))] [0] [] [] p0 <| opn [(E,2,0,I,384000,1)] ?_
  exact Qd <| pz [] (show Xu line=_ from Qj h1 (Vp hD0.1 (Q9 h5 (rfl)))) (λz=> .tup [(E, [.o 0 z.1]),(E, [.b z.2])])
 have h5d:=uI h5;exact Qf <| tu Qa [(2,.o 1408 (Vb line)),(3,.b I)] [0,2,3] [] [] p0 <| Qd <| pz [] (show Xu line=_ from Qj h1 (Vp hD0.1 (Qj h5 (rfl)))) (λz=> .tup [(E, [.o 0 z.1]),(E, [.b z.2])])
def V1 (line:D) (k0:H) (s0:Z×W):Rd (Z×A) (Z×W) Z:=(bif (decide ((k0:W)<(zD line:W))&&(decide (Z9 line (k0:W)<(32:W))|| decide (Z9 line (k0:W)>(126:W)))) then (.ret ([],E)) else (bif (decide ((k0:W)<(zD line:W))&&(Z9 line (k0:W) !=(32:W))) then (.next (s0.1,s0.2)) else (bif decide (s0.2<(k0:W)) then (.next (s0.1++ [(ByteArray.extract line s0.2.toNat (k0:W).toNat)],((k0+1:H):W))) else (.next (s0.1,((k0+1:H):W))))))
def Wz (_:H) (s0:Z×W):Z:=s0.1
def Qc (line:D):Z×A:=(bif decide ((zD line:W)>(600:W)) then ([],E) else (Out.on (Ks (V1 line) Wz ((zD line:W)+1).toNat 0 ([],0)) (λy0=>(bif decide ((y0.length:W)>(24:W)) then ([],E) else (y0,I)))))
theorem Mv (line:D):ACalls Tryz.prog 250 [.s line] (.tup [(E, [.o 0 (((Qc line)).1)]),(E, [.b (((Qc line)).2)])]):=by
 refine en Qa Tryz.func250 λw0 F0 hG=> ?_
 refine sn Qa [0,2,3] [] p0 <| tn Qa [0,2,3,4] [] p0 <| Qb <| tu Qa [(2,.e 0),(3,.b E),(4,.one (.slc (.own I 448) 1 [])),(10,.b (decide ((zD line:W)>(600:W))))] [] [] [] p0 <| ck (decide ((zD line:W)>(600:W))) (λh1=> ?_) (λh1=> ?_)
 ·exact sn Qa [0,2,3,4] [] p0 <| Qd <| pz [] (show Qc line=_ from Q9 h1 (rfl)) (λz=> .tup [(E, [.o 0 z.1]),(E, [.b z.2])])
 have h1d:=uI h1;refine Qf <| sn Qa [0,2,3,4,5] [] p0 <| Qb <| tn Qa [0,2,3,4,5,6] [] p0 <| mz [(5,.i 0),(6,.i 0)] [10] [] [] <| stT 0 0 line (λhs2=> ?_)
 refine Ql9 (V1 line) Wz ((zD line:W)+1).toNat ([],0) (λk0 s0=> [(4,.o 147203 s0.1),(5,.i s0.2),(6,.i (k0:W))]) [4,5,6] (λy0=> [(4,.o 147353 y0)]) [0,4,5,6] (λk0 s0=>zE s0.1<=k0/\0<=s0.2/\s0.2<=(k0:W)/\∀y,y∈s0.1->zD y<=600) (λy0=>∀x,x∈y0->zD x<=600) (Xg [(448,147203)] (by kernel_rfl)) ⟨(by simp),(by first | omega | simp),(by first | omega | simp),(by first | omega | simp)⟩ (λk0 s0 O U=> ?_) (λk0 s0 O U=> ?_) (λy0 hD0=> ?_)
 ·have hA0_0:=U.2.1;have hA0_1:=U.2.2.1;have hA0_2:=U.2.2.2.1;have hA0_3:=U.2.2.2.2;refine Qb <| su Qa [(15,.b I)] [] [] [] (pe 3 (zB ((k0:W)<=(zD line:W))) p0) <| ckT <| Qf <| Qb <| Qo <| Qb <| Qb <| jn [(33,.b (decide ((k0:W)<(zD line:W))&&(decide (Z9 line (k0:W)<(32:W))|| decide (Z9 line (k0:W)>(126:W)))))] [15] [] [] (decide ((k0:W)<(zD line:W))) (λh3=> ?_) (λh3=> ?_) ?_
  ·have h3d:=uL h3;refine Xx (decide (Z9 line (k0:W)<(32:W))) (λh4=> ?_) (λh4=> ?_)
   ·have h4d:=uL h4;refine rn Qa [0,2,3,4,5,6,33] [] (pt 3 h3 (px (Cx (i:=(k0:W)) (n:=(zD line)) (by omega)) (pt 8 h4 p0))) ?_;exact zA (by rw[h3,h4]<;>kernel_rfl)
   have h4d:=uI h4;refine rn Qa [0,2,3,4,5,6,33] [] (pt 3 h3 (px (Cx (i:=(k0:W)) (n:=(zD line)) (by omega)) (pf 8 h4 (px (Cx (i:=(k0:W)) (n:=(zD line)) (by omega)) p0)))) ?_;exact zA (by rw[h3,h4]<;>kernel_rfl)
  ·refine rn Qa [0,2,3,4,5,6,33] [] (pf 3 h3 p0) ?_;exact zA (by rw[h3]<;>kernel_rfl)
  refine ck (decide ((k0:W)<(zD line:W))&&(decide (Z9 line (k0:W)<(32:W))|| decide (Z9 line (k0:W)>(126:W)))) (λh5=> ?_) (λh5=> ?_)
  ·refine sn Qa [0,2,3,4,5,6] [] p0 <| Qd ?_
   have hr6:(Ks (V1 line) Wz ((zD line:W)+1).toNat 0 ([],0))= .ret ([],E):=Ty O (Q9 h5 (rfl)) U.1;exact pz [] (show Qc line=_ from Qj h1 (On hr6)) (λz=> .tup [(E, [.o 0 z.1]),(E, [.b z.2])])
  refine Qf <| Qb <| Qb <| jn [(44,.b (decide ((k0:W)<(zD line:W))&&(Z9 line (k0:W) !=(32:W))))] [33] [] [] (decide ((k0:W)<(zD line:W))) (λh7=> ?_) (λh7=> ?_) ?_
  ·have h7d:=uL h7;refine rn Qa [0,2,3,4,5,6,44] [] (pt 3 h7 (px (Cx (i:=(k0:W)) (n:=(zD line)) (by omega)) p0)) ?_;exact zA (by rw[h7]<;>kernel_rfl)
  ·refine rn Qa [0,2,3,4,5,6,44] [] (pf 3 h7 p0) ?_;exact zA (by rw[h7]<;>kernel_rfl)
  refine ck (decide ((k0:W)<(zD line:W))&&(Z9 line (k0:W) !=(32:W))) (λh8=> ?_) (λh8=> ?_)
  ·have h8l:(decide ((k0:W)<(zD line:W)))=I:=WK h8;have h8ld:=uL h8l;have h8r:((Z9 line (k0:W) !=(32:W)))=I:=JK h8;have h8rd:=Pe h8r;refine Q4 <| rn Qa [0,2,3,4,5,6] [] (pe 1 (Jl (Qn k0 (by omega))) p0) ?_
   exact xw (s0.1,s0.2) ⟨Z6 O (Qj h5 (Q9 h8 (rfl))) U.1,by first|omega|(simp;omega) | simp,(by first|omega|(simp;omega) | exact hA0_3 | (intro y hy;rcases zR.1 hy with hy | hy;exact hA0_3 y hy;rw[zP.1 hy,ByteArray.size_extract];omega)),(by first|omega|(simp;omega) | exact hA0_3 | (intro y hy;rcases zR.1 hy with hy | hy;exact hA0_3 y hy;rw[zP.1 hy,ByteArray.size_extract];omega)),(by first|omega|(simp;omega) | exact hA0_3 | (intro y hy;rcases zR.1 hy with hy | hy;exact hA0_3 y hy;rw[zP.1 hy,ByteArray.size_extract];omega))⟩
  refine Qf <| Qb <| sn Qa [0,2,3,4,5,6,47] [] p0 <| ck (decide (s0.2<(k0:W))) (λh9=> ?_) (λh9=> ?_)
  ·have h9d:=uL h9;refine wT 4 0 (.own I 147203) s0.1 (λhw10 hl11=> ?_);refine qu Qa [(4,.one (.slc (.own I 3456) 1 ((eL s0.1)++ [[.s (ByteArray.extract line s0.2.toNat (k0:W).toNat)]])))] [4,44] [] [] (px (Gc (lo:=s0.2) (hi:=(k0:W)) (n:=(zD line)) (⟨by omega,by omega,by omega⟩)) (pa s0.1 [(ByteArray.extract line s0.2.toNat (k0:W).toNat)] p0)) ?_;refine eqn [(4,.o 3456 (s0.1++ [(ByteArray.extract line s0.2.toNat (k0:W).toNat)]))] [4] [] [] (by rw[show ((eL s0.1)++ [[.s (ByteArray.extract line s0.2.toNat (k0:W).toNat)]])=(eL (s0.1++ [(ByteArray.extract line s0.2.toNat (k0:W).toNat)])) from Jc (rfl) (rfl)];first | done | kernel_rfl) ?_;refine rn Qa [0,2,3,4,5,6] [] (pe 1 (Jl (Qn k0 (by omega))) p0) ?_;refine qn Qa [0,2,3,4,5,6] [] (pe 1 (Jl (Qn k0 (by omega))) p0) ?_;exact zQ (s0.1++ [(ByteArray.extract line s0.2.toNat (k0:W).toNat)],((k0+1:H):W)) (zT (Xg [(3456,147203)] (by kernel_rfl)) ⟨Z6 O (Qj h5 (Qj h8 (Q9 h9 (rfl)))) U.1,by first|omega|(simp;omega) | simp,(by first|omega|(simp;omega) | exact hA0_3 | (intro y hy;rcases zR.1 hy with hy | hy;exact hA0_3 y hy;rw[zP.1 hy,ByteArray.size_extract];omega)),(by first|omega|(simp;omega) | exact hA0_3 | (intro y hy;rcases zR.1 hy with hy | hy;exact hA0_3 y hy;rw[zP.1 hy,ByteArray.size_extract];omega)),(by first|omega|(simp;omega) | exact hA0_3 | (intro y hy;rcases zR.1 hy with hy | hy;exact hA0_3 y hy;rw[zP.1 hy,ByteArray.size_extract];omega))⟩)
  have h9d:=uI h9;refine Qf <| qn Qa [0,2,3,4,5,6] [] (pe 1 (Jl (Qn k0 (by omega))) p0) ?_
  refine qu Qa [(5,.i ((k0+1:H):W)),(6,.i ((k0+1:H):W))] [5,6,44] [] [] (pe 1 (Jl (Qn k0 (by omega))) p0) ?_;exact xw (s0.1,((k0+1:H):W)) ⟨Z6 O (Qj h5 (Qj h8 (Qj h9 (rfl)))) U.1,by first|omega|(simp;omega) | simp,(by first|omega|(simp;omega) | exact hA0_3 | (intro y hy;rcases zR.1 hy with hy | hy;exact hA0_3 y hy;rw[zP.1 hy,ByteArray.size_extract];omega)),(by first|omega|(simp;omega) | exact hA0_3 | (intro y hy;rcases zR.1 hy with hy | hy;exact hA0_3 y hy;rw[zP.1 hy,ByteArray.size_extract];omega)),(by first|omega|(simp;omega) | exact hA0_3 | (intro y hy;rcases zR.1 hy with hy | hy;exact hA0_3 y hy;rw[zP.1 hy,ByteArray.size_extract];omega))⟩
 ·have hA0_0:=U.2.1;have hA0_1:=U.2.2.1;have hA0_2:=U.2.2.2.1;have hA0_3:=U.2.2.2.2;exact Qb <| su Qa [(15,.b E)] [] [] [] (pe 3 (zC ((k0:W)<=(zD line:W))) p0) <| ckF <| Q4 <| zQ s0.1 (zT (Xg [(147203,147353)] (by kernel_rfl)) ⟨U6 O (rfl) U.1,by first | omega | exact hA0_3⟩)
 have hD0_0:=hD0.2;refine Qb <| sn Qa [2,3,4,59] [] (pl 1 y0 p0) <| ck (decide ((y0.length:W)>(24:W))) (λh12=> ?_) (λh12=> ?_)
 ·exact tn Qa [2,3,4] [] p0 <| Qd <| pz [] (show Qc line=_ from Qj h1 (Vp hD0.1 (Q9 h12 (rfl)))) (λz=> .tup [(E, [.o 0 z.1]),(E, [.b z.2])])
 exact Qf <| tn Qa [2,3] [] p0 <| Qd <| pz [] (show Qc line=_ from Qj h1 (Vp hD0.1 (Qj h12 (rfl)))) (λz=> .tup [(E, [.o 0 z.1]),(E, [.b z.2])])
theorem Fy (x:Qq):Q7 x=Ql x:=by
 unfold Q7 Ql Hc W8;rw[EF,Af]
theorem Qfl (f:Y7):Kg f=Yx f:=by
 unfold Kg Yx;rw[KF]
theorem PZ (f:Y7):(Yx f).size<=20:=by
 unfold Yx;cases hv:Q1 f.1 with
 | false=>exact zV _
 | true=>
   have h1:f.1.size=1:=by
    unfold Q1 at hv;simp only[zK,uQ] at hv;omega
   simp only[zZ,uC];have e1:(⟨#[102,105,101,108,100,32]⟩:D).size=6:=rfl;have e2:(⟨#[32,105,110,116]⟩:D).size=4:=rfl;have e3:(⟨#[32,115,116,114,105,110,103]⟩:D).size=7:=rfl;cases (f.2==(1:W)) with
   | true=>simp only[uE,zF];omega
   | false=>
     cases (f.2==(2:W)) with
     | true=>simp only[uE,uC,zF];omega
     | false=>exact zV _
theorem YX {x:Qq} (h:Ql x=I):Xk x.1=I:=by
 unfold Ql at h;simp only[zK] at h;exact h.1
theorem QP {α:Type} {l:K α} {p:H->α->A} {f:H->α->uB->Rd A uB uB} {e:H->uB->uB} {b:A} (hf:∀k a u,f k a u=bif p k a then .ret E else .next ()) (h:Out.on (X4 f e l 0 ()) (λ_=>b)=I):b=I/\∀(i:H) a,l[i]? =uA a->p i a=E:=by
 cases hr:X4 f e l 0 () with
 | brk t=>
   rw[hr] at h;refine ⟨h,λi a hi=> ?_⟩;have:=T0 (λk a t=>by rw[hf];cases p k a<;>simp) hr i a hi;rw[yD,hf] at this;cases hp:p i a with
   | false=>rfl
   | true=>rw[hp] at this;simp at this
 | ret r=>
   rw[hr] at h;obtain rfl:r=I:=h;exfalso
   have key:∀(l:K α) k,X4 f e l k ()≠ .ret I:=by
    intro l
    induction l with
    | nil=>intro k h;simp[X4] at h
    | cons a l ih=>
      intro k h;simp only[X4,hf] at h;cases hp:p k a with
      | false=>rw[hp] at h;exact ih _ h
      | true=>rw[hp] at h;simp at h
   exact key _ _ hr
theorem bo {a b:A} (h:(a|| b)=E):a=E/\b=E:=by cases a<;>cases b<;>simp_all
theorem bn {a:A} (h:(!a)=E):a=I:=by cases a<;>simp_all
theorem RA {s:Yk} (h:Xk s=I):Jr s.1=I/\s.2.1.length<=12/\(1<=s.2.2/\s.2.2<=61)/\∀f,f∈s.2.1->Jf s.1 f=I:=by
 unfold Xk at h;obtain ⟨h1,h2⟩:=QP (λ_ _ _=>rfl) h;simp only[zK,uS] at h1;refine ⟨h1.1,by omega,Ki.1 h1.2.2,λf hf=> ?_⟩;obtain ⟨i,hi⟩:=yF hf;exact bn (bo (h2 i f hi)).1
theorem KQ {s:K Y7} (h:Jr s=I):s.length<=5/\∀f,f∈s->Q1 f.1=I/\(f.2=1\/f.2=2):=by
 unfold Jr at h;obtain ⟨h1,h2⟩:=QP (λ_ _ _=>rfl) h;refine ⟨by have:=uL h1;omega,λf hf=> ?_⟩;obtain ⟨i,hi⟩:=yF hf;have:=bo (h2 i f hi);refine ⟨bn this.1, ?_⟩;by_cases e1:f.2=1
 . exact .inl e1
 refine .inr (yO λe2=> ?_);have h3:=this.2;have e1':(f.2 !=(1:W))=I:=by simpa using e1
 have e2':(f.2 !=(2:W))=I:=by simpa using e2
 rw[e1',e2'] at h3;simp at h3
theorem Dj {a b:D} (h:(a.toList==b.toList)=I):a=b:=uL (toList_inj.symm.trans h)
theorem Qmx {s:K Y7} {n:D} (h:Ak s n≠0):∃f,f∈s/\f.1=n:=by
 refine yO λhn=>h ?_
 have key:∀(l:K Y7) k,(∀f,f∈l->f.1≠n)->∃u,X4 (Av n) Df l k ()= .brk u:=by
  intro l
  induction l with
  | nil=>intro k _;exact ⟨_,rfl⟩
  | cons a l ih=>
    intro k hl
    have ha:(a.1.toList==n.toList)=E:=by
     cases hc:(a.1.toList==n.toList) with
     | false=>rfl
     | true=>exact absurd (Dj hc) (hl a (zG ..))
    simp only[X4];unfold Av;rw[ha];exact ih _ λf hf=>hl f (zL _ hf)
 unfold Ak;obtain ⟨u,hu⟩:=key s 0 λf hf e=>hn ⟨f,hf,e⟩
 rw[hu];rfl
theorem TZ {α:Type} [DecidableEq α]:∀{l m:K α},l.Nodup->(∀x,x∈l->x∈m)->l.length<=m.length
 | [],_,_,_=>zV _
 | a::l,m,hn,hs=>by
   have ha:=hs a (zG ..);have hn':=List.nodup_cons.1 hn;have:=TZ (l:=l) (m:=m.erase a) hn'.2 λx hx=>(List.mem_erase_of_ne (λe=>hn'.1 (by rw[←e];exact hx))).2 (hs x (zL _ hx))
   rw[List.length_erase_of_mem ha] at this;have:=yY ha;simp only[zJ];omega
def FBd (f:Yj):Prop:=(1<=f.1/\f.1<=60)/\(0<=f.2.1/\f.2.1<=2)/\(0<=f.2.2.2.1/\f.2.2.2.1<=60)/\f.2.2.2.2.length<=5/\∀a,a∈f.2.2.2.2->Q1 a.1=I/\Q6 a.2=I/\a.2.1≠0
theorem Qfm:∀(l:K D),(∀(i:H) a,l[i]? =uA a->0<i->bl (nth l (i-1)) a=I)->l.Nodup:=λl h=>by
 have hp:l.Pairwise (λa b=>bl a b=I):=by
  induction l with
  | nil=>exact .nil
  | cons a l ih=>
    have h':∀(i:H) x,l[i]? =uA x->0<i->bl (nth l (i-1)) x=I:=λi x hi h0=>by
     have:=h (i+1) x (by simpa using hi) (by omega);rw[show i+1-1=(i-1)+1 by omega] at this;simpa [nth] using this
    have ihp:=ih h';refine List.pairwise_cons.2 ⟨λx hx=> ?_,ihp⟩;cases l with
    | nil=>cases hx
    | cons b l=>
      have hab:bl a b=I:=by simpa [nth] using h 1 b (by simp) (by omega)
      rcases yJ.1 hx with rfl | hx
      . exact hab
      exact DY hab ((List.pairwise_cons.1 ihp).1 x hx)
 exact hp.imp λ{a b} hab e=>by subst e;rw[Qkm] at hab;cases hab
theorem Qje {s:K Y7} {f:Yj} (h:Jf s f=I):FBd f:=by
 unfold Jf at h;obtain ⟨h1,h2⟩:=QP (λ_ _ _=>rfl) h;simp only[zK] at h1
 have hm:∀(i:H) a,f.2.2.2.2[i]? =uA a->Ja s a.1 a.2=I/\(0<i->bl (nth f.2.2.2.2 (i-1)).1 a.1=I):=λi a hi=>by
  have h3:=h2 i a hi;cases hc:decide (((i:H):W)>(0:W)) with
  | false=>
    rw[hc] at h3;exact ⟨bn h3,λh0=>absurd (uI hc) (by omega)⟩
  | true=>
    rw[hc] at h3;have h4:=bo h3;refine ⟨bn h4.2,λ_=> ?_⟩;have h5:=bn h4.1;rw[show zO (((i:H):W)-1)=i-1 by omega] at h5;exact h5
 have hsch:=KQ h1.2.2.2
 have hk:∀a,a∈f.2.2.2.2->(∃g,g∈s/\g.1=a.1)/\Q6 a.2=I/\a.2.1≠0:=λa ha=>by
  obtain ⟨i,hi⟩:=yF ha;have h6:=(hm i a hi).1;unfold Ja at h6;simp only[zK,bne_iff_ne,ne_eq,uQ] at h6;exact ⟨Qmx (h6.2.2▸h6.2.1),h6.1,h6.2.1⟩
 have hlen:f.2.2.2.2.length<=5:=by
  have hnd:(f.2.2.2.2.map (·.1)).Nodup:=Qfm _ λi a hi h0=>by
   rw[List.getElem?_map,Option.map_eq_some_iff] at hi;obtain ⟨x,hx,rfl⟩:=hi;have h7:=(hm i x hx).2 h0;have hlt:=(yC.1 hx).1
   rw[show nth (f.2.2.2.2.map (·.1)) (i-1)=(nth f.2.2.2.2 (i-1)).1 from by
    have e:=Cu (l:=f.2.2.2.2) (i:=i-1) (by omega);unfold nth;rw[yB,List.getElem?_map,e];rfl]
   exact h7
  have:=TZ hnd (m:=s.map (·.1)) λx hx=>by
   obtain ⟨a,ha,rfl⟩:=yW.1 hx;obtain ⟨⟨g,hg,e⟩,_⟩:=hk a ha;exact yW.2 ⟨g,hg,e⟩
  rw[zU,zU] at this;omega
 refine ⟨Ki.1 h1.1, ?_,Ki.1 h1.2.2.1,hlen,λa ha=> ?_⟩
 . have:=h1.2.1;unfold V5 at this;exact Ki.1 this
 obtain ⟨⟨g,hg,e⟩,h8⟩:=hk a ha;exact ⟨e▸(hsch.2 g hg).1,h8⟩
theorem Mb {x:Qq} (h:Ql x=I):x.1.1.length<=5/\x.1.2.1.length<=12/\(1<=x.1.2.2/\x.1.2.2<=61)/\∀f,f∈x.1.2.1->FBd f:=by
 obtain ⟨h1,h2,h3,h4⟩:=RA (YX h);exact ⟨(KQ h1).1,h2,h3,λf hf=>Qje (h4 f hf)⟩
theorem EY {x:Qq} (h:Q7 x=I):x.1.1.length<=5/\x.1.2.1.length<=12/\(1<=x.1.2.2/\x.1.2.2<=61)/\∀f,f∈x.1.2.1->FBd f:=Mb ((Fy x).symm.trans h)
theorem UQ (s:D):∀(n k:H) (a:W),0<=a->a<=65520->∃y,Ks (I7 s) I8 n k a= .brk y/\Ks (Ez s) I9 n k a= .brk y/\0<=y/\y<=65520
 | 0,k,a,h0,h1=>⟨a,rfl,rfl,h0,h1⟩
 | n+1,k,a,h0,h1=>by
   have hb:=QD s ((k:H):W);have hn:=YO h0 h1 hb.1 hb.2;obtain ⟨y,e1,e2,e3⟩:=UQ s n (k+1) _ hn.1 hn.2;refine ⟨y,e1, ?_,e3⟩;simp only[Ks];unfold Ez;rw[Int.mul_comm a 33];exact e2
theorem Qaa (s:D):0<=Wt s/\Wt s<=65520:=by
 obtain ⟨y,e1,_,e3⟩:=UQ s (zO (s.size:W)) 0 3 (by decide) (by decide);unfold Wt;rw[e1];exact e3
theorem Qab (s:D):Uo s=Wt s:=by
 obtain ⟨y,e1,e2,_⟩:=UQ s (zO (s.size:W)) 0 3 (by decide) (by decide);unfold Uo Wt;rw[e1,e2]
theorem Qfn (s:D):0<=Uo s/\Uo s<=65520:=by rw[Qab];exact Qaa s
theorem EZ {v:K4} (h:Q6 v=I) (h1:(v.1==(1:W))=I):0<=v.2.1/\v.2.1<=999:=by
 unfold Q6 at h;have e:v.1=1:=eq_of_beq h1;rw[e] at h;simp only[show ((1:W)==0)=E from rfl,show ((1:W)==1)=I from rfl,uE,uC,zK] at h;exact Ki.1 h.1
theorem Lp {s:D} (h:Xc s=I):1<=s.size/\s.size<=6:=by
 unfold Xc at h;cases hf:Ks (X7 s) Km (zO (s.size:W)) 0 () with
 | brk t=>rw[hf] at h;have:=Ki.1 h;omega
 | ret r=>
   rw[hf] at h;obtain rfl:r=I:=h;exfalso
   have key:∀n k,Ks (X7 s) Km n k ()≠ .ret I:=by
    intro n
    induction n with
    | zero=>intro k h;simp[Ks] at h
    | succ n ih=>
      intro k h;simp only[Ks] at h;unfold X7 at h;cases hc:(decide (Z9 s ((k:H):W)<(97:W))|| decide (Z9 s ((k:H):W)>(122:W))) with
      | true=>rw[hc] at h;simp at h
      | false=>rw[hc] at h;exact ih _ h
   exact key _ _ hf
theorem Qfo {v:K4} (h:Q6 v=I) (h1:(v.1==(2:W))=I):Xc v.2.2=I/\v.2.1=0:=by
 unfold Q6 at h;have e:v.1=2:=eq_of_beq h1;rw[e] at h;simp only[show ((2:W)==0)=E from rfl,show ((2:W)==1)=E from rfl,show ((2:W)==2)=I from rfl,uE,uC,zK,uQ] at h;exact h
open GoD (rd own)
theorem Qo7 {α:Type} [GoD α] {a b:α} (h:¬a=b):eqb a b=E:=by
 unfold eqb;exact @decide_eq_false _ (_) h
theorem Sd (r:K uF):∀(l:K uF) (acc:H),Lib.decFrom acc (l++r)=(Lib.decFrom acc l).bind (λa=>Lib.decFrom a r)
 | [],acc=>rfl
 | b::l,acc=>by
   simp only[yA,Lib.decFrom];cases Lib.digitVal b with
   | none=>rfl
   | some d=>exact Sd r l _
theorem UR (d:H) (h:d<10):Lib.digitVal (UInt8.ofNat (48+d))=uA d:=by
 have h1:(UInt8.ofNat (48+d)).toNat=48+d:=by rw[xM];omega
 unfold Lib.digitVal;rw[h1,uH (by omega)]
 congr 1
 omega
theorem Se:∀n:H,Lib.decFrom 0 (Lib.decDigits n)=uA n:=by
 intro n
 induction n using Nat.strongRecOn with
 | ind n ih=>
   by_cases h:n<10
   . rw[Po h];simp only[Lib.decFrom,UR n h];simp
   rw[KN h,Sd,ih (n / 10) (by omega)];simp only[Option.bind_some,Lib.decFrom,UR (n % 10) (Nat.mod_lt _ (by decide))]
   congr 1
   omega
theorem YY:∀n:H,∀b,b∈Lib.decDigits n->48<=b.toNat/\b.toNat<=57:=by
 intro n
 induction n using Nat.strongRecOn with
 | ind n ih=>
   intro b hb;by_cases h:n<10
   . rw[Po h] at hb;have e:=zP.1 hb;rw[e,xM];omega
   rw[KN h] at hb;rcases zR.1 hb with hb | hb
   . exact ih (n / 10) (by omega) b hb
   have e:=zP.1 hb;rw[e,xM];omega
theorem UT (n:H):Lib.decDigits n≠ []:=by
 by_cases h:n<10
 . rw[Po h];simp
 rw[KN h];simp
theorem Ta (n:H):Lib.atoi (Lib.decDigits n)=uA (n:W):=by
 have h1:=Se n;have h2:=YY n;have h3:=UT n;generalize Lib.decDigits n=l at*;cases l with
 | nil=>exact absurd rfl h3
 | cons b r=>
   have hb:=h2 b (by simp)
   have e45:(b==45)=E:=by
    rw[uG];intro e;rw[e] at hb;exact absurd hb.1 (by decide)
   have e43:(b==43)=E:=by
    rw[uG];intro e;rw[e] at hb;exact absurd hb.1 (by decide)
   simp only[Lib.atoi,e45,e43,Lib.decNat,List.isEmpty_cons,h1];rfl
theorem Qbx (k n:H) (h:n<10^(k+1)):(Lib.decDigits n).length<=k+1:=PM k n h
theorem UU (n:H):Qz (n:W)=⟨(Lib.decDigits n).toArray⟩:=by
 unfold Qz Lib.itoa;rw[uK (by omega)];rfl
theorem Br (n:H):(Qz (n:W)).data.toList=Lib.decDigits n:=by rw[UU]
def Gl (s:D):uW H:=match Lib.atoi s.data.toList with
 | some m=>if m.toNat<=1000000000/\Qz (m.toNat:W)=s then uA m.toNat else uD
 | none=>uD
theorem YZ {s:D} {n:H} (h:n<=1000000000) (e:Qz (n:W)=s):Gl s=uA n:=by
 subst e;unfold Gl;rw[Br,Ta];exact uH ⟨h,rfl⟩
theorem QQ {s:D} (h:∀n:H,n<=1000000000->Qz (n:W)≠s):Gl s=uD:=by
 unfold Gl;split
 . rename_i m _;exact uK λh2=>h _ h2.1 h2.2
 rfl
def Qqn:uW H->uJ
 | some n=> .tuple #[.int .i64 n,.bool I]
 | none=> .tuple #[.int .i64 0,.bool E]
def errOk (w : World) : Prop := ∃ tp p, w.var? Tryz.prog "strconv.ErrSyntax" = some #[.iface tp p]
theorem Qq2 : Tryz.prog.globalNamed "strconv.ErrSyntax" = some 2 := by kernel_rfl
theorem errOk.keep {w w':uP} (h:errOk w) (hb:Below w.heap.size w w'):errOk w':=by
 obtain ⟨tp,p,h⟩:=h;exact ⟨tp,p,Go.Joins.var_stays Qq2 h hb (zX _)⟩
set_option maxRecDepth 20000 in
theorem UV (w:uP) (s:D) (hs:s.size<=uM) (ht:tabOk w) (he:errOk w):Calls Tryz.prog 184 #[.string s] w (Ret w (Qqn (Gl s))):=by
 unfold uM at hs;have HT:=Lib.hid ht;clear ht;have HE:=Lib.hid he;clear he;by_cases hlen:10<s.size
 . have hno:Gl s=uD:=QQ λn hn e=>by
    have h1:=Qbx 9 n (by omega);have h2:s.size=(Lib.decDigits n).length:=by rw[←e,UU];simp[zD]
    omega
   rw[hno];clear hno;go_enter Tryz.func184,Tryz.ntmps184
   go_wp2
   refine bodyPost_ret (v:= .tuple #[.int .i64 0,.bool E]) (by simp[results,Tryz.results184,go_sem]) rfl ⟨rfl,Below.refl _ _⟩
 cases ha:Lib.atoi s.data.toList with
 | none=>
   have hno:Gl s=uD:=QQ λn hn e=>by
    rw[←e,Br,Ta] at ha;cases ha
   rw[hno];clear hno;have HA:=Lib.hid ha;clear ha;go_enter Tryz.func184,Tryz.ntmps184
   go_wp2_with (go_at_call 227;obtain ⟨tp,p,hv⟩:=HE.out;refine (Sh.strconv_Atoi_err_var s (by omega) HA.out tp p w hv).mono ?_;clear hv;rintro e1 w1 ⟨N,rfl,hN,_,hb⟩;have HB:=Lib.hid hb;clear hb)
   refine bodyPost_ret (v:= .tuple #[.int .i64 0,.bool E]) (by simp[results,Tryz.results184,go_sem]) rfl ⟨rfl,HB.out⟩
 | some v=>
   have hun:∀n:H,Qz (n:W)=s->v=(n:W):=λn e=>by
    rw[←e,Br,Ta] at ha;exact (Option.some.inj ha).symm
   have HUN:=Lib.hid hun;clear hun;have HA:=Lib.hid ha;clear ha;cases hr:inR v 0 1000000000
   . have hno:Gl s=uD:=QQ λn hn e=>by
      have h1:=HUN.out n e;rw[h1,KM (by omega) (by omega)] at hr;cases hr
     rw[hno];clear hno;have HR:=Lib.hid hr;clear hr;go_enter Tryz.func184,Tryz.ntmps184
     go_wp2_with (first | (go_at_call 227;refine (Sh.strconv_Atoi s _ (by omega) HA.out w).mono ?_;rintro e1 w1 ⟨rfl,t1,hw1⟩;have hG1:Below w.heap.size w w1:=(by rw[hw1];exact Go.Joins.below_bytesWorld _ _ _ _ (zX _));clear hw1;have hz1:=hG1.size) | (go_at_call 200;refine P8 (w:=w) (EH _ v 0 1000000000 E HR.out) (by go_grown) ?_;intro g2 hG2 hb2 hz3 hz4;clear hb2 hz4))
     refine bodyPost_ret (v:= .tuple #[.int .i64 0,.bool E]) (by simp[results,Tryz.results184,go_sem]) rfl ⟨rfl,(by go_grown)⟩
   have hrn:∃n:H,v=(n:W)/\n<=1000000000:=by
    unfold inR at hr;simp only[zK,uS] at hr;exact ⟨v.toNat,by omega,by omega⟩
   obtain ⟨n,rfl,hn⟩:=hrn;have HR:=Lib.hid hr;clear hr;have hni:I64 (n:W):=by unfold I64;omega
   have HNI:=Lib.hid hni;clear hni;by_cases he:Qz (n:W)=s
   . rw[YZ hn he];have HEQ:=Lib.hid he;clear he;go_enter Tryz.func184,Tryz.ntmps184
     go_wp2_with (first | (go_at_call 227;refine (Sh.strconv_Atoi s _ (by omega) HA.out w).mono ?_;rintro e1 w1 ⟨rfl,t1,hw1⟩;have hG1:Below w.heap.size w w1:=(by rw[hw1];exact Go.Joins.below_bytesWorld _ _ _ _ (zX _));clear hw1;have hz1:=hG1.size) | (go_at_call 200;refine P8 (w:=w) (EH _ n 0 1000000000 I HR.out) (by go_grown) ?_;intro g2 hG2 hb2 hz3 hz4;clear hb2 hz4) | (go_at_call 101;have hcon:=(λw1 h=>I1 w1 n HNI.out h);rw[HEQ.out] at hcon;refine P8 (w:=w) (hcon _ (HT.out.keep (by go_grown))) (by go_grown) ?_;clear hcon;intro g3 hG3 hb3 hz5 hz6;clear hb3 hz6))
     refine bodyPost_ret (v:= .tuple #[.int .i64 n,.bool I]) (by simp[results,Tryz.results184,go_sem]) rfl ⟨rfl,(by go_grown)⟩
   have hno:Gl s=uD:=QQ λm hm e=>by
    have h1:=HUN.out m e;have h2:n=m:=by omega
    exact he (h2▸e)
   rw[hno];clear hno;generalize hu:Qz (n:W)=u at*;have HU:=Lib.hid hu;clear hu;have hne:(u.toList==s.toList)=E:=by rw[Qmc];exact Qo7 he
   go_enter Tryz.func184,Tryz.ntmps184
   go_wp2_with (first | (go_at_call 227;refine (Sh.strconv_Atoi s _ (by omega) HA.out w).mono ?_;rintro e1 w1 ⟨rfl,t1,hw1⟩;have hG1:Below w.heap.size w w1:=(by rw[hw1];exact Go.Joins.below_bytesWorld _ _ _ _ (zX _));clear hw1;have hz1:=hG1.size) | (go_at_call 200;refine P8 (w:=w) (EH _ n 0 1000000000 I HR.out) (by go_grown) ?_;intro g2 hG2 hb2 hz3 hz4;clear hb2 hz4) | (go_at_call 101;have hcon:=(λw1 h=>I1 w1 n HNI.out h);rw[HU.out] at hcon;refine P8 (w:=w) (hcon _ (HT.out.keep (by go_grown))) (by go_grown) ?_;clear hcon;intro g3 hG3 hb3 hz5 hz6;clear hb3 hz6))
   refine bodyPost_ret (v:= .tuple #[.int .i64 0,.bool E]) (by simp[results,Tryz.results184,go_sem]) rfl ⟨rfl,(by go_grown)⟩
def Qg (s:D):W×A:=match Gl s with
 | some n=>(n,I)
 | none=>(0,E)
theorem QR {s:D} {n:H} (h:Gl s=uA n):n<=1000000000/\Qz (n:W)=s:=by
 unfold Gl at h;split at h
 . split at h
   . rename_i h2;cases h
     exact h2
   cases h
 cases h
section
variable {P:uT}
theorem LZ {f:H} (hok:F9 P f) {s:D} (h:∀w,Good P w->s.size<=uM->Calls P f #[.string s] w (Ret w (Qqn (Gl s)))):ACalls P f [.s s] (.tup [(E, [.i (Qg s).1]),(E, [.b (Qg s).2])]):=by
 refine ⟨hok,λw hg F vals hF hall=> ?_⟩;cases hall with
 | cons h1 h2=>
   cases h2
   obtain ⟨rfl,hs⟩:=h1;refine (h w hg hs).mono ?_
   rintro e w' ⟨rfl,hb⟩
   refine ⟨_,λ_=> [],rfl,hb,λ_=>List.nodup_nil,λk b hm=>by simp at hm,λk k' b hm=>by simp at hm, ?_⟩;unfold Qg Qqn;split
   . rename_i n hn;have:=(QR hn).1;exact ⟨[_,_],rfl,.cons ⟨_,rfl,rfl,by constructor<;>simp[IntKind.min,IntKind.max,IntKind.bits,IntKind.signed]<;>omega⟩ (.cons ⟨_,rfl,rfl⟩ .nil)⟩
   exact ⟨[_,_],rfl,.cons ⟨_,rfl,rfl,by constructor<;>decide⟩ (.cons ⟨_,rfl,rfl⟩ .nil)⟩
end
theorem Ac (s:D):ACalls Tryz.prog 184 [.s s] (.tup [(E, [.i (Qg s).1]),(E, [.b (Qg s).2])]):=LZ (by unfold F9;kernel_rfl) λw hg hs=>UV w s hs (hg.tab _ Qql) (hg.err _ Qq2)
open GoE (enc wide)
def Xv (v:K4):D:=(bif (!(Q6 v)) then ⟨#[63]⟩ else (bif (v.1==(1:W)) then (Qz v.2.1) else (bif (v.1==(2:W)) then v.2.2 else ⟨#[45]⟩)))
theorem Mw (v:K4):ACalls Tryz.prog 152 [.a [.i v.1,.i v.2.1,.s v.2.2]] (.s (Xv v)):=by
 refine en Qa Tryz.func152 λw0 F0 hG=> ?_
 refine sn Qa [1,2] [1] p0 <| Qb <| Qo <| tn Qa [1,2,3] [1] (pc 1 (Jt v) p0) <| ck (!(Q6 v)) (λh1=> ?_) (λh1=> ?_)
 ·exact tu Qa [(2,.s ⟨#[63]⟩)] [0] [] [] p0 <| Qd <| ps [] (Q9 h1 (rfl))
 have h1n:(Q6 v)=I:=Zz h1;refine tu Qa [(1,.p 1 0),(2,.s ⟨#[]⟩),(7,.b (v.1==(1:W)))] [0] [(1, [.i v.1,.i v.2.1,.s v.2.2])] [] p0 <| ck (v.1==(1:W)) (λh2=> ?_) (λh2=> ?_)
 ·have h2v:=EZ h1n h2;have h2d:=eq_of_beq h2;have hk3:=J4 (n:=v.2.1) (by omega);exact sn Qa [2] [] (pc 2 (U3 v.2.1 (by omega)) p0) <| Qd <| ps [] (Qj h1 (Q9 h2 (rfl)))
 refine sn Qa [1,2,14] [1] p0 <| ck (v.1==(2:W)) (λh4=> ?_) (λh4=> ?_)
 ·exact tn Qa [2] [] p0 <| Qd <| ps [] (Qj h1 (Qj h2 (Q9 h4 (rfl))))
 exact Qf <| tn Qa [2] [] p0 <| Qd <| ps [] (Qj h1 (Qj h2 (Qj h4 (rfl))))
def Zf (v:K4):D:=(bif (!(Xw v)) then ⟨#[63]⟩ else (bif (v.1==(1:W)) then (Qz v.2.1) else (bif (v.1==(2:W)) then v.2.2 else ⟨#[45]⟩)))
theorem Cm (v:K4):ACalls Tryz.prog 131 [.a [.i v.1,.i v.2.1,.s v.2.2]] (.s (Zf v)):=by
 refine en Qa Tryz.func131 λw0 F0 hG=> ?_
 refine sn Qa [1,2] [1] p0 <| Qb <| Qo <| tn Qa [1,2,3] [1] (pc 1 (Za v) p0) <| ck (!(Xw v)) (λh1=> ?_) (λh1=> ?_)
 ·exact tu Qa [(2,.s ⟨#[63]⟩)] [0] [] [] p0 <| Qd <| ps [] (Q9 h1 (rfl))
 have h1n:(Xw v)=I:=Zz h1;refine tu Qa [(1,.p 1 0),(2,.s ⟨#[]⟩),(7,.b (v.1==(1:W)))] [0] [(1, [.i v.1,.i v.2.1,.s v.2.2])] [] p0 <| ck (v.1==(1:W)) (λh2=> ?_) (λh2=> ?_)
 ·have h2v:=EZ h1n h2;have h2d:=eq_of_beq h2;have hk3:=J4 (n:=v.2.1) (by omega);exact sn Qa [2] [] (pc 2 (Wp v.2.1 (by omega)) p0) <| Qd <| ps [] (Qj h1 (Q9 h2 (rfl)))
 refine sn Qa [1,2,14] [1] p0 <| ck (v.1==(2:W)) (λh4=> ?_) (λh4=> ?_)
 ·exact tn Qa [2] [] p0 <| Qd <| ps [] (Qj h1 (Qj h2 (Q9 h4 (rfl))))
 exact Qf <| tn Qa [2] [] p0 <| Qd <| ps [] (Qj h1 (Qj h2 (Qj h4 (rfl))))
def Kn (n:W):K4:=(1,n,⟨#[]⟩)
theorem AL (n:W):ACalls Tryz.prog 332 [.i n] (.a [.i ((Kn n).1),.i ((Kn n).2.1),.s ((Kn n).2.2)]):=by
 refine en Qa Tryz.func332 λw0 F0 hG=> ?_
 exact sn Qa [0,2] [2] p0 <| tn Qa [2] [2] p0 <| Qd <| pz [] (show Kn n=(1,n,⟨#[]⟩) from rfl) (λz=> .a [.i z.1,.i z.2.1,.s z.2.2])
def Jh (s_:D):K4:=(2,0,s_)
theorem ZA (s_:D):ACalls Tryz.prog 333 [.s s_] (.a [.i ((Jh s_).1),.i ((Jh s_).2.1),.s ((Jh s_).2.2)]):=by
 refine en Qa Tryz.func333 λw0 F0 hG=> ?_
 exact sn Qa [0,2] [2] p0 <| tn Qa [2] [2] p0 <| Qd <| pz [] (show Jh s_=(2,0,s_) from rfl) (λz=> .a [.i z.1,.i z.2.1,.s z.2.2])
def Qx (s_:D):K4×A:=(bif (Qg s_).2 then (bif (!(Q6 (Kn ((Qg s_).1)))) then ((0,0,⟨#[]⟩),E) else ((Kn ((Qg s_).1)),I)) else (bif (!(s_.toList==(⟨#[45]⟩:D).toList)) then (bif (!(Q6 (Jh s_))) then ((0,0,⟨#[]⟩),E) else ((Jh s_),I)) else (bif (!(Q6 (0,0,⟨#[]⟩))) then ((0,0,⟨#[]⟩),E) else ((0,0,⟨#[]⟩),I))))
theorem Od (s_:D):ACalls Tryz.prog 296 [.s s_] (.tup [(I, [.i ((((Qx s_)).1).1),.i ((((Qx s_)).1).2.1),.s ((((Qx s_)).1).2.2)]),(E, [.b (((Qx s_)).2)])]):=by
 refine en Qa Tryz.func296 λw0 F0 hG=> ?_
 refine sn Qa [0,2,3] [2] p0 <| tn Qa [0,2,3,4,5] [2] (pc 1 (Ac s_) p0) <| tu Qa [(2,.p 2 0),(3,.b E),(4,.i ((Qg s_).1)),(5,.b ((Qg s_).2)),(6,.p 6 0)] [] [(2, [.i 0,.i 0,.s ⟨#[]⟩]),(6, [.i 0,.i 0,.s ⟨#[]⟩])] [] p0 <| Qb <| Qo <| sn Qa [0,2,3,4,6,13] [2,6] p0 <| ck ((Qg s_).2) (λh1=> ?_) (λh1=> ?_)
 ·refine qn Qa [2,3,6] [2,6] (pc 1 (AL ((Qg s_).1)) p0) ?_;refine Qb <| tu Qa [(24,.b (!(Q6 (Kn ((Qg s_).1)))))] [0,4,5] [(6, [.i ((Kn ((Qg s_).1)).1),.i ((Kn ((Qg s_).1)).2.1),.s ((Kn ((Qg s_).1)).2.2)])] [6] (pc 1 (Jt (Kn ((Qg s_).1))) p0) <| ck (!(Q6 (Kn ((Qg s_).1)))) (λh2=> ?_) (λh2=> ?_)
  ·exact su Qa [] [24] [] [] p0 <| Qd <| pz [] (show Qx s_=_ from Q9 h1 (Q9 h2 (rfl))) (λz=> .tup [(I, [.i z.1.1,.i z.1.2.1,.s z.1.2.2]),(E, [.b z.2])])
  exact Qf <| sn Qa [2,3] [2] p0 <| Qd <| pz [] (show Qx s_=_ from Q9 h1 (Qj h2 (rfl))) (λz=> .tup [(I, [.i z.1.1,.i z.1.2.1,.s z.1.2.2]),(E, [.b z.2])])
 refine tn Qa [0,2,3,6,17] [2,6] p0 <| ck (!(s_.toList==(⟨#[45]⟩:D).toList)) (λh3=> ?_) (λh3=> ?_)
 ·refine qu Qa [] [0,4,5] [(6, [.i ((Jh s_).1),.i ((Jh s_).2.1),.s ((Jh s_).2.2)])] [6] (pc 1 (ZA s_) p0) ?_;refine Qb <| sn Qa [2,3,6,24] [2,6] (pc 1 (Jt (Jh s_)) p0) <| ck (!(Q6 (Jh s_))) (λh4=> ?_) (λh4=> ?_)
  ·exact tu Qa [] [] [] [] p0 <| Qd <| pz [] (show Qx s_=_ from Qj h1 (Q9 h3 (Q9 h4 (rfl)))) (λz=> .tup [(I, [.i z.1.1,.i z.1.2.1,.s z.1.2.2]),(E, [.b z.2])])
  exact Qf <| tn Qa [2,3] [2] p0 <| Qd <| pz [] (show Qx s_=_ from Qj h1 (Q9 h3 (Qj h4 (rfl)))) (λz=> .tup [(I, [.i z.1.1,.i z.1.2.1,.s z.1.2.2]),(E, [.b z.2])])
 refine Qf <| Qb <| tu Qa [(24,.b (!(Q6 (0,0,⟨#[]⟩))))] [0,4,5] [] [] (pc 1 (Jt (0,0,⟨#[]⟩)) p0) <| ck (!(Q6 (0,0,⟨#[]⟩))) (λh5=> ?_) (λh5=> ?_)
 ·exact su Qa [] [24] [] [] p0 <| Qd <| pz [] (show Qx s_=_ from Qj h1 (Qj h3 (Q9 h5 (rfl)))) (λz=> .tup [(I, [.i z.1.1,.i z.1.2.1,.s z.1.2.2]),(E, [.b z.2])])
 exact Qf <| sn Qa [2,3] [2] p0 <| Qd <| pz [] (show Qx s_=_ from Qj h1 (Qj h3 (Qj h5 (rfl)))) (λz=> .tup [(I, [.i z.1.1,.i z.1.2.1,.s z.1.2.2]),(E, [.b z.2])])
def Yy (w:D):K4:=(2,0,w)
theorem ZB (w:D):ACalls Tryz.prog 282 [.s w] (.a [.i ((Yy w).1),.i ((Yy w).2.1),.s ((Yy w).2.2)]):=by
 refine en Qa Tryz.func282 λw0 F0 hG=> ?_
 exact sn Qa [0,2] [2] p0 <| tn Qa [2] [2] p0 <| Qd <| pz [] (show Yy w=(2,0,w) from rfl) (λz=> .a [.i z.1,.i z.2.1,.s z.2.2])
def Z5 (n:W):K4:=(1,n,⟨#[]⟩)
theorem AM (n:W):ACalls Tryz.prog 283 [.i n] (.a [.i ((Z5 n).1),.i ((Z5 n).2.1),.s ((Z5 n).2.2)]):=by
 refine en Qa Tryz.func283 λw0 F0 hG=> ?_
 exact sn Qa [0,2] [2] p0 <| tn Qa [2] [2] p0 <| Qd <| pz [] (show Z5 n=(1,n,⟨#[]⟩) from rfl) (λz=> .a [.i z.1,.i z.2.1,.s z.2.2])
def Xp (s_:D):K4×A:=(bif (s_.toList==(⟨#[45]⟩:D).toList) then ((0,0,⟨#[]⟩),I) else (bif ((Xf s_)).2 then (bif ((!(Xw (Z5 (((Xf s_)).1))))|| (!((Zf (Z5 (((Xf s_)).1))).toList==s_.toList))) then ((0,0,⟨#[]⟩),E) else ((Z5 (((Xf s_)).1)),I)) else (bif ((!(Xw (Yy s_)))|| (!((Zf (Yy s_)).toList==s_.toList))) then ((0,0,⟨#[]⟩),E) else ((Yy s_),I))))
theorem Oe (s_:D):ACalls Tryz.prog 253 [.s s_] (.tup [(I, [.i ((((Xp s_)).1).1),.i ((((Xp s_)).1).2.1),.s ((((Xp s_)).1).2.2)]),(E, [.b (((Xp s_)).2)])]):=by
 refine en Qa Tryz.func253 λw0 F0 hG=> ?_
 refine sn Qa [0,2,3] [2] p0 <| Qb <| tn Qa [0,2,3,8] [2] p0 <| ck (s_.toList==(⟨#[45]⟩:D).toList) (λh1=> ?_) (λh1=> ?_)
 ·exact tu Qa [(2,.p 2 0),(3,.b I)] [] [(2, [.i 0,.i 0,.s ⟨#[]⟩])] [] p0 <| Qd <| pz [] (show Xp s_=_ from Q9 h1 (rfl)) (λz=> .tup [(I, [.i z.1.1,.i z.1.2.1,.s z.1.2.2]),(E, [.b z.2])])
 refine Qf <| tu Qa [(2,.p 2 0),(3,.b E),(4,.i (((Xf s_)).1)),(5,.b (((Xf s_)).2))] [] [(2, [.i 0,.i 0,.s ⟨#[]⟩])] [] (pc 1 (La s_) p0) <| sn Qa [0,2,3,4,5,6] [2,6] (pc 1 (ZB s_) p0) <| Qb <| tn Qa [0,2,3,4,6,17] [2,6] p0 <| ck (((Xf s_)).2) (λh2=> ?_) (λh2=> ?_)
 ·refine qu Qa [(6,.p 6 0)] [4,5] [(6, [.i ((Z5 (((Xf s_)).1)).1),.i ((Z5 (((Xf s_)).1)).2.1),.s ((Z5 (((Xf s_)).1)).2.2)])] [] (pc 1 (AM (((Xf s_)).1)) p0) ?_;refine Qb <| Qb <| jn [(28,.b ((!(Xw (Z5 (((Xf s_)).1))))|| (!((Zf (Z5 (((Xf s_)).1))).toList==s_.toList))))] [0] [] [] (!(Xw (Z5 (((Xf s_)).1)))) (λh3=> ?_) (λh3=> ?_) ?_
  ·have h3n:(Xw (Z5 (((Xf s_)).1)))=E:=Vt h3;refine rn Qa [2,3,6,28] [2,6] (pc 1 (cb h3n (Za (Z5 (((Xf s_)).1)))) (pe 2 (show .b (!E)= .b I from rfl) p0)) ?_;exact zA (by rw[h3]<;>kernel_rfl)
  ·have h3n:(Xw (Z5 (((Xf s_)).1)))=I:=Zz h3;refine rn Qa [2,3,6,28] [2,6] (pc 1 (cb h3n (Za (Z5 (((Xf s_)).1)))) (pe 2 (show .b (!I)= .b E from rfl) (pc 5 (Cm (Z5 (((Xf s_)).1))) p0))) ?_;exact zA (by rw[h3]<;>kernel_rfl)
  refine ck ((!(Xw (Z5 (((Xf s_)).1))))|| (!((Zf (Z5 (((Xf s_)).1))).toList==s_.toList))) (λh4=> ?_) (λh4=> ?_)
  ·exact su Qa [] [28] [] [] p0 <| Qd <| pz [] (show Xp s_=_ from Qj h1 (Q9 h2 (Q9 h4 (rfl)))) (λz=> .tup [(I, [.i z.1.1,.i z.1.2.1,.s z.1.2.2]),(E, [.b z.2])])
  exact Qf <| sn Qa [2,3] [2] p0 <| Qd <| pz [] (show Xp s_=_ from Qj h1 (Q9 h2 (Qj h4 (rfl)))) (λz=> .tup [(I, [.i z.1.1,.i z.1.2.1,.s z.1.2.2]),(E, [.b z.2])])
 refine Qf <| Qb <| Qb <| mz [(6,.p 6 0),(17,.b (((Xf s_)).2))] [5] [(6, [.i ((Yy s_).1),.i ((Yy s_).2.1),.s ((Yy s_).2.2)])] [] <| jn [(28,.b ((!(Xw (Yy s_)))|| (!((Zf (Yy s_)).toList==s_.toList))))] [0,4,17] [] [] (!(Xw (Yy s_))) (λh5=> ?_) (λh5=> ?_) ?_
 ·have h5n:(Xw (Yy s_))=E:=Vt h5;refine rn Qa [2,3,6,28] [2,6] (pc 1 (cb h5n (Za (Yy s_))) (pe 2 (show .b (!E)= .b I from rfl) p0)) ?_;exact zA (by rw[h5]<;>kernel_rfl)
 ·have h5n:(Xw (Yy s_))=I:=Zz h5;refine rn Qa [2,3,6,28] [2,6] (pc 1 (cb h5n (Za (Yy s_))) (pe 2 (show .b (!I)= .b E from rfl) (pc 5 (Cm (Yy s_)) p0))) ?_;exact zA (by rw[h5]<;>kernel_rfl)
 refine ck ((!(Xw (Yy s_)))|| (!((Zf (Yy s_)).toList==s_.toList))) (λh6=> ?_) (λh6=> ?_)
 ·exact su Qa [] [28] [] [] p0 <| Qd <| pz [] (show Xp s_=_ from Qj h1 (Qj h2 (Q9 h6 (rfl)))) (λz=> .tup [(I, [.i z.1.1,.i z.1.2.1,.s z.1.2.2]),(E, [.b z.2])])
 exact Qf <| sn Qa [2,3] [2] p0 <| Qd <| pz [] (show Xp s_=_ from Qj h1 (Qj h2 (Qj h6 (rfl)))) (λz=> .tup [(I, [.i z.1.1,.i z.1.2.1,.s z.1.2.2]),(E, [.b z.2])])
def Qh (p:Z) (at_:W):D:=(bif decide (at_>=(p.length:W)) then ⟨#[]⟩ else (nth p at_.toNat))
theorem V2 (p:Z) (at_:W) (hp:0<=at_):ACalls Tryz.prog 251 [.h p,.i at_] (.s (Qh p at_)):=by
 refine en Qa Tryz.func251 λw0 F0 hG=> ?_
 refine sn Qa [0,1,4] [] p0 <| Qb <| tn Qa [0,1,4,8] [] (pl 2 p p0) <| ck (decide (at_>=(p.length:W))) (λh1=> ?_) (λh1=> ?_)
 ·exact tu Qa [(4,.s ⟨#[]⟩)] [] [] [] p0 <| Qd <| ps [] (Q9 h1 (rfl))
 have h1d:=uI h1;refine Qf <| wT 0 0 .sh p (λhw3 hl4=> ?_)
 have hx2:=ng p at_.toNat;exact tu Qa [(4,.s (nth p at_.toNat))] [0,1] [] [] (pg 2 at_ hx2 p0) <| Qd <| ps [] (Qj h1 (rfl))
def Hz (k0:H) (a0:D) (s0:D):Rd (D) (D) (D):=(bif decide ((k0:W)>(0:W)) then (.next ((s0++(⟨#[32]⟩:D))++a0)) else (.next (s0++a0)))
def Cz (_:H) (s0:D):D:=s0
def V3 (p:Z):D:=(Out.on (X4 Hz Cz p 0 ⟨#[]⟩) (λy0=>y0))
theorem QS (p:Z) (hp:zE p<=24) (hq:∀y,y∈p->zD y<=600):ACalls Tryz.prog 255 [.h p] (.s (V3 p)):=by
 refine en Qa Tryz.func255 λw0 F0 hG=> ?_
 have hq1:zD (⟨#[32]⟩:D)=1:=rfl;refine sn Qa [0,2] [] p0 <| tn Qa [0,2,3] [] p0 <| Qb <| tu Qa [(2,.s ⟨#[]⟩),(3,.s ⟨#[]⟩),(4,.i 0)] [] [] [] p0 <| wT 0 0 .sh p (λhw1 hl2=> ?_)
 refine AB Hz Cz p ⟨#[]⟩ (λk0 s0=> [(3,.s s0),(4,.i (k0:W))]) [3,4] (λy0=> [(3,.s y0)]) [0,3,4] (λk0 s0=>zD s0<=700*k0) wf0 (by decide) (λk0 s0 O U=> ?_) (λk0 s0 O U=> ?_) (λy0 hD0=> ?_)
 ·have hA0_0:=U.2;obtain ⟨a0,V⟩:=Xh (l:=p) (i:=k0) O;have hx1:=hq _ (yE V);refine Qb <| sn Qa [0,2,3,4,8] [] (pl 2 p (pe 3 (zB ((k0:W)<(p.length:W))) p0)) <| ckT <| Qf <| Qb <| Qo <| Qb <| tn Qa [0,2,3,4,12] [] p0 <| ck (decide ((k0:W)>(0:W))) (λh3=> ?_) (λh3=> ?_)
  ·have h3d:=uL h3;refine qu Qa [(3,.s (s0++(⟨#[32]⟩:D)))] [3] [] [] (px (Zs (n:=(zD s0+zD (⟨#[32]⟩:D))) (by have hq0:zD (⟨#[32]⟩:D)=1:=rfl;unfold uM;first|omega|(simp only[zF];omega))) p0) ?_;refine rn Qa [0,2,3,4] [] (pn 3 V (px (Zs (n:=(zD (s0++(⟨#[32]⟩:D))+zD a0)) (by have hq0:zD (⟨#[32]⟩:D)=1:=rfl;unfold uM;first|omega|(simp only[zF];omega))) p0)) ?_;refine qn Qa [0,2,3,4] [] (pe 1 (Jl (Qn k0 (by omega))) p0) ?_;exact xw ((s0++(⟨#[32]⟩:D))++a0) ⟨Qs V (Q9 h3 (rfl)) U.1,(by first|omega|(simp only[zF];omega))⟩
  have h3d:=uI h3;refine Qf <| qu Qa [(3,.s (s0++a0))] [3] [] [] (pn 3 V (px (Zs (n:=(zD s0+zD a0)) (by unfold uM;first|omega|(simp only[zF];omega))) p0)) ?_
  refine rn Qa [0,2,3,4] [] (pe 1 (Jl (Qn k0 (by omega))) p0) ?_;exact xw (s0++a0) ⟨Qs V (Qj h3 (rfl)) U.1,(by first|omega|(simp only[zF];omega))⟩
 ·have hA0_0:=U.2;exact Qb <| sn Qa [0,2,3,4,8] [] (pl 2 p (pe 3 (zC ((k0:W)<(p.length:W))) p0)) <| ckF <| Q4 <| xw _ (Xj O (rfl) U.1)
 exact sn Qa [2] [] p0 <| Qd <| ps [] (Vp hD0 (rfl))
def Y5 (p:Z) (at_:W):W:=((Xf (Qh p at_))).1
theorem Lq (p:Z) (at_:W) (hp:0<=at_):ACalls Tryz.prog 252 [.h p,.i at_] (.i (Y5 p at_)):=by
 refine en Qa Tryz.func252 λw0 F0 hG=> ?_
 exact sn Qa [0,1,4] [] p0 <| tn Qa [4,5] [] (pc 2 (V2 p at_ (by omega)) (pc 3 (La (Qh p at_)) p0)) <| tu Qa [(4,.i (((Xf (Qh p at_))).1))] [0,1] [] [] p0 <| Qd <| pi [] (show Y5 p at_=((Xf (Qh p at_))).1 from rfl)
def Lb (b:Z) (k0:H) (a0:D) (_:uB):Rd (A) (uB) (uB):=(bif (!(a0.toList==(nth b k0).toList)) then (.ret E) else (.next ()))
def Lc (_:H) (_:uB):uB:=()
def Ah (a_:Z) (b:Z):A:=(bif ((a_.length:W) !=(b.length:W)) then E else (Out.on (X4 (Lb b) Lc a_ 0 ()) (λ_=>I)))
theorem Sf (a_:Z) (b:Z):ACalls Tryz.prog 40 [.h a_,.h b] (.b (Ah a_ b)):=by
 refine en Qa Tryz.func40 λw0 F0 hG=> ?_
 refine sn Qa [0,1,4] [] p0 <| Qb <| tn Qa [0,1,4,10] [] (pl 1 a_ (pl 3 b p0)) <| ck ((a_.length:W) !=(b.length:W)) (λh1=> ?_) (λh1=> ?_)
 ·exact tu Qa [(4,.b E)] [] [] [] p0 <| Qd <| pb [] (Q9 h1 (rfl))
 have h1d:=Uw h1;refine Qf <| Qb <| tu Qa [(4,.b E),(5,.i 0)] [] [] [] p0 <| wT 0 0 .sh a_ (λhw2 hl3=> ?_)
 refine R2 (Lb b) Lc a_ () (λk0 _=> [(5,.i (k0:W))]) [5] (λ_=> []) [0,1,5] wf0 (λk0 s0 O U=> ?_) (λk0 s0 O U=> ?_) (λy0 hD0=> ?_)
 ·obtain ⟨a0,V⟩:=Xh (l:=a_) (i:=k0) O;refine Qb <| sn Qa [0,1,4,5,14] [] (pl 2 a_ (pe 3 (zB ((k0:W)<(a_.length:W))) p0)) <| ckT <| Qf <| Qb <| Qo <| wT 1 0 .sh b (λhw5 hl6=> ?_)
  have hx4:=ng b k0;refine tN Qa Yo [0,1,4,5,25] [] (pn 2 V (pn 6 hx4 p0)) <| ck (!(a0.toList==(nth b k0).toList)) (λh7=> ?_) (λh7=> ?_)
  ·refine tu Qa [] [] [] [] p0 <| Qd ?_
   have hr8:(X4 (Lb b) Lc a_ 0 ())= .ret E:=Ka V (Q9 h7 (rfl)) U;exact pb [] (Qj h1 (On hr8))
  refine Qf <| qu Qa [(5,.i ((k0+1:H):W))] [5] [] [] (pe 1 (Jl (Qn k0 (by omega))) p0) ?_
  exact xw _ (Qs V (Qj h7 (rfl)) U)
 ·exact Qb <| sn Qa [0,1,4,5,14] [] (pl 2 a_ (pe 3 (zC ((k0:W)<(a_.length:W))) p0)) <| ckF <| Q4 <| xw _ (Xj O (rfl) U)
 exact sn Qa [4] [] p0 <| Qd <| pb [] (Qj h1 (Vp hD0 (rfl)))
theorem Fz (a b:K uF):Bp (a++b)=Bp a++Bp b:=by
 apply xZ;rw[ByteArray.data_append];show (a++b).toArray=a.toArray++b.toArray;simp
theorem Jz (s a:D):Xl s [a]=a:=by
 unfold Xl;rw[zW,xR,Lib.join_one,Un]
theorem Wa (s a b:D) (l:K D):Xl s (a::b::l)=a++s++Xl s (b::l):=by
 unfold Xl;simp only[zW];rw[Lib.join_cons,Lib.join_cons];unfold Lib.joinTail;simp only[zW,yZ];rw[Fz,Fz,Fz,Fz,Un,Un,Un];simp only[ByteArray.append_assoc]
theorem K2 (s a b:D):Xl s [a,b]=(a++s)++b:=by rw[Wa,Jz]
theorem Kr (s a b c:D):Xl s [a,b,c]=(((a++s)++b)++s)++c:=by
 rw[Wa,K2];simp only[ByteArray.append_assoc]
theorem Fl (s:D):∀{l m:K D},l≠ []->m≠ []->Xl s (l++m)=Xl s l++s++Xl s m
 | [],_,h,_=>absurd rfl h
 | [a], [],_,h=>absurd rfl h
 | [a],b::m,_,_=>by rw[List.singleton_append,Wa,Jz]
 | a::b::l,m,_,h=>by
   have ih:=Fl s (l:=b::l) (m:=m) (λe=>by cases e) h;rw[yA] at ih;rw[yA,yA,Wa,ih,Wa];simp only[ByteArray.append_assoc]
theorem CN {s:D} {m:H} (hs:s.size=1):∀{l:K D},(∀y,y∈l->y.size<=m)->(Xl s l).size<=l.length*(m+1)
 | [],_=>zV _
 | [a],h=>by rw[Jz];have:=h a (zG ..);simp only[zJ,zY];omega
 | a::b::l,h=>by
   rw[Wa,zF,zF];have h1:=h a (zG ..);have h2:=CN hs (l:=b::l) λy hy=>h y (zL _ hy)
   simp only[zJ,xV] at h2⊢;omega
theorem W0 {s:D} {m n:H} {l:K D} (hs:s.size=1) (h:∀y,y∈l->y.size<=m) (hl:l.length<=n):(Xl s l).size<=n*(m+1):=
 yX (CN hs h) (yM _ hl)
theorem UW {c:uF} (a b:D) (l:K D):(Xl ⟨#[c]⟩ (a::b::l)).data.toList=a.data.toList++c::(Xl ⟨#[c]⟩ (b::l)).data.toList:=by
 rw[Wa,ByteArray.data_append,ByteArray.data_append];simp
theorem RB {c:uF}:∀{l:K uF},c∉l->UC c l= [l]
 | [],_=>rfl
 | b::l,h=>by
   have hb:¬b=c:=λe=>h (by rw[e];exact zG ..)
   rw[UC,uK hb,RB λhm=>h (zL _ hm)]
theorem FA {c:uF} (r:K uF):∀{l:K uF},c∉l->UC c (l++c::r)=l::UC c r
 | [],_=>by rw[yH,UC,uH rfl]
 | b::l,h=>by
   have hb:¬b=c:=λe=>h (by rw[e];exact zG ..)
   rw[yA,UC,uK hb,FA r λhm=>h (zL _ hm)]
theorem Qac {c:uF}:∀{l:K D},l≠ []->(∀y,y∈l->c∉y.data.toList)->Qt c (Xl ⟨#[c]⟩ l)=l
 | [],h,_=>absurd rfl h
 | [a],_,h=>by
   rw[Jz];unfold Qt;rw[RB (h a (zG ..)),zW,xR,Un]
 | a::b::l,_,h=>by
   have ih:=Qac (c:=c) (l:=b::l) (λe=>by cases e) λy hy=>h y (zL _ hy)
   unfold Qt at ih⊢;rw[UW,FA _ (h a (zG ..)),zW,ih,Un]
theorem ZC (c:uF) (s:D):1<=(Qt c s).length:=by
 obtain ⟨p,ps,h⟩:=UD c s.data.toList;unfold Qt;rw[h,zW,zJ];omega
theorem MA (c:uF):∀l:K uF,Lib.join (UC c l) [c]=l
 | []=>by rw[UC,Lib.join_one]
 | b::l=>by
   have ih:=MA c l;obtain ⟨p,ps,h⟩:=UD c l;rw[h] at ih;rw[Lib.join_cons] at ih;by_cases hb:b=c
   . rw[UC,uH hb,h,Lib.join_cons];unfold Lib.joinTail at ih⊢;rw[zW,yZ,yH,xO,ih,hb];rfl
   rw[UC,uK hb,h];show Lib.join ((b::p)::ps) [c]=_;rw[Lib.join_cons,yA,ih]
theorem Qjf (c:uF) (s:D):Xl ⟨#[c]⟩ (Qt c s)=s:=by
 unfold Xl Qt;rw[wD,show ((λx:D=>x.data.toList) ∘ Bp)=id from funext λ_=>rfl,List.map_id];show Bp (Lib.join (UC c s.data.toList) [c])=s;rw[MA,Un]
theorem JE (s:D):∀(l:K D) (k:H),(Xl s (l.drop k)).size<=(Xl s l).size
 | l,0=>zX _
 | [],k+1=>by rw[List.drop_nil];exact zX _
 | [a],k+1=>by rw[xF,List.drop_nil];exact zV _
 | a::b::l,k+1=>by
   have:=JE s (b::l) k;rw[xF,Wa,zF];omega
theorem Qfp (c:uF) (s:D) (k:H):(Xl ⟨#[c]⟩ ((Qt c s).drop k)).size<=s.size:=by
 have:=JE ⟨#[c]⟩ (Qt c s) k
 rwa [Qjf] at this
def Word (s:D):Prop:=1<=s.size/\∀b,b∈s.data.toList->33<=b.toNat/\b.toNat<=126
theorem Word.no {s:D} (h:Word s) {c:uF} (hc:c.toNat<33):c∉s.data.toList:=λhm=>by have:=(h.2 c hm).1;omega
theorem Word.ne {s:D} (h:Word s):s.data.toList≠ []:=λe=>by
 have h1:=h.1;have h2:s.data.toList.length=s.size:=xG;rw[e] at h2;simp at h2;omega
theorem Word.sp {s:D} (h:Word s) {b:uF} (hb:b∈s.data.toList):Lib.isSp b=E:=by
 have h1:=h.2 b hb;cases hs:Lib.isSp b with
 | false=>rfl
 | true=>
   exfalso;unfold Lib.isSp at hs;simp only[yS,uQ] at hs;rcases hs with ((((rfl | rfl) | rfl) | rfl) | rfl) | rfl<;>revert h1<;>decide
theorem Tb:∀(l cur r:K uF),(∀b,b∈l->Lib.isSp b=E)->Lib.fieldsGo cur (l++r)=Lib.fieldsGo (cur++l) r
 | [],cur,r,_=>by rw[yH,xE]
 | b::l,cur,r,h=>by
   rw[yA,Lib.fieldsGo_more _ _ _ (h b (zG ..)),Tb l _ r λx hx=>h x (zL _ hx),xO,List.singleton_append]
theorem Tc:∀{l:K D},(∀y,y∈l->Word y)->Vb (Xl ⟨#[32]⟩ l)=l
 | [],_=>rfl
 | [a],h=>by
   have ha:=h a (zG ..);rw[Jz];unfold Vb Lib.fields;have:=Tb a.data.toList [] [] λb hb=>ha.sp hb
   rw[xE,yH] at this;rw[this];unfold Lib.fieldsGo;rw[uK (by simpa using ha.ne),zW,xR,Un]
 | a::b::l,h=>by
   have ha:=h a (zG ..);have ih:=Tc (l:=b::l) λy hy=>h y (zL _ hy)
   unfold Vb Lib.fields at ih⊢;rw[UW,Tb _ _ _ λb hb=>ha.sp hb,yH,Lib.fieldsGo_end _ _ _ rfl ha.ne,zW,ih,Un]
theorem ZD {l:K D} (h:∀y,y∈l->Word y):∀b,b∈(Xl ⟨#[32]⟩ l).data.toList->32<=b.toNat/\b.toNat<=126:=by
 match l,h with
 | [],_=>intro b hb;simp[Xl,Lib.join,Bp,List.intercalate] at hb
 | [a],h=>
   intro b hb;rw[Jz] at hb;have:=(h a (zG ..)).2 b hb;omega
 | a::b::l,h=>
   intro x hx;rw[UW] at hx;rcases zR.1 hx with hx | hx
   . have:=(h a (zG ..)).2 x hx;omega
   rcases yJ.1 hx with rfl | hx
   . decide
   exact ZD (λy hy=>h y (zL _ hy)) x hx
theorem RC (v:K4):(Xv v).size<=10:=by
 unfold Xv;cases hv:Q6 v with
 | false=>exact show (1:H)<=10 by decide
 | true=>
   simp only[zZ,uC];cases h1:(v.1==(1:W)) with
   | true=>have h2:=EZ hv h1;exact J4 (by omega)
   | false=>
     cases h2:(v.1==(2:W)) with
     | true=>exact yX (Lp (Qfo hv h2).1).2 (by decide)
     | false=>exact show (1:H)<=10 by decide
theorem Qo8 (v:K4):Zf v=Xv v:=rfl
theorem Qkw (v:K4):(Zf v).size<=10:=RC v
theorem KR {op:W} (h:Xo op 1 9=I):op=1\/op=2\/op=3\/op=4\/op=5\/op=6\/op=7\/op=8\/op=9:=by
 have:=Ki.1 h;omega
theorem Qad (op:W):X2 op=Qy op:=by
 unfold X2 Qy;rw[←WM];cases h:Xo op 1 9 with
 | false=>rfl
 | true=>rcases KR h with rfl | rfl | rfl | rfl | rfl | rfl | rfl | rfl | rfl<;>rfl
theorem Qfq (op:W):(Qy op).size<=6:=by
 cases h:Xo op 1 9 with
 | false=>unfold Qy;rw[h];exact show (1:H)<=6 by decide
 | true=>rcases KR h with rfl | rfl | rfl | rfl | rfl | rfl | rfl | rfl | rfl<;>decide
theorem Qkx (op:W):(X2 op).size<=6:=Qad op▸Qfq op
theorem CO (p:K D):V3 p=Xl ⟨#[32]⟩ p:=by
 have e0:∀a:D,(⟨#[]⟩:D)++a=a:=λa=>by apply xZ;rw[ByteArray.data_append];simp
 have key:∀(l:K D) (k:H) (a s:D),X4 Hz Cz l (k+1) (s++a)= .brk (s++Xl ⟨#[32]⟩ (a::l)):=by
  intro l
  induction l with
  | nil=>intro k a s;rw[Jz];rfl
  | cons b l ih=>
    intro k a s
    have hf:Hz (k+1) b (s++a)= .next ((s++a++⟨#[32]⟩)++b):=by
     unfold Hz;rw[uR (show (((k+1:H):H):W)>0 by omega),uE]
    simp only[X4,hf];have:=ih (k+1) b (s++a++⟨#[32]⟩);rw[this,Wa];simp only[ByteArray.append_assoc]
 unfold V3;cases p with
 | nil=>rfl
 | cons a l=>
   have h0:X4 Hz Cz (a::l) 0 ⟨#[]⟩=X4 Hz Cz l (0+1) ((⟨#[]⟩:D)++a):=rfl;rw[h0,key,e0];rfl
theorem Qmy {n:Q2} {k:W} (h:Zd n k=I):n.2.2.2.1.size<=6:=by
 have e:∀{a:D},(a.toList==(⟨#[]⟩:D).toList)=I->a.size<=6:=λh=>by rw[Dj h];decide
 have e1:∀{a:D},Q1 a=I->a.size<=6:=λh=>by rw[EG h];decide
 have e2:∀{a:D},Xc a=I->a.size<=6:=λh=>(Lp h).2
 unfold Zd at h
 cases h1:(n.1==(1:W))<;>cases h2:(n.1==(2:W))<;>cases h3:(n.1==(3:W))<;>cases h4:(n.1==(4:W))<;>cases h5:(n.1==(5:W))<;>cases h6:(n.1==(6:W))<;>cases h7:(n.1==(7:W))<;>cases h8:(n.1==(8:W))<;>cases h9:(n.1==(9:W))<;>simp only[h1,h2,h3,h4,h5,h6,h7,h8,h9,uE,uC,zK] at h<;>first
  | exact e h.2.2.2.1
  | exact e h.1.2.2.2.1
  | exact e1 h.2
  | exact e1 h.2.1
  | exact e2 h.2
  | cases h
theorem UX {q:K Q2} {at_:W} (hv:Qk q=I) (ha:0<=at_) (hb:at_<(q.length:W)):(nth q (zO at_)).2.2.2.1.size<=6:=Qmy (YH hv (Cu (by omega)))
theorem Qae {f:Yj} (h:FBd f):∀y,y∈ [(⟨#[102,105,108,101]⟩:D),(Qz f.1),(Qz f.2.1),(bif f.2.2.1 then ⟨#[115]⟩ else ⟨#[111]⟩),(Qz f.2.2.2.1)]->y.size<=10:=λy hy=>by
 have h1:=h.1;have h2:=h.2.1;have h3:=h.2.2.1;simp only[yJ,List.mem_nil_iff,or_false] at hy;rcases hy with rfl | rfl | rfl | rfl | rfl
 . decide
 . exact J4 (by omega)
 . exact J4 (by omega)
 . cases f.2.2.1<;>decide
 exact J4 (by omega)
theorem Qfr {f:Yj} (h:FBd f) {l:K D} {k:H} {a:Ui} (ha:f.2.2.2.2[k]? =uA a) (hl:∀y,y∈l->y.size<=10):∀y,y∈l++ [a.1,Xv a.2]->y.size<=10:=λy hy=>by
 rcases zR.1 hy with hy | hy
 . exact hl y hy
 have:=h.2.2.2.2 a (yE ha);simp only[yJ,List.mem_nil_iff,or_false] at hy;rcases hy with rfl | rfl
 . rw[EG this.1];decide
 exact RC _
theorem Qfs {f:Yj} (h:FBd f) {a:Ui} (ha:a∈f.2.2.2.2):a.1.size<=10:=by
 rw[EG (h.2.2.2.2 a ha).1];decide
def G2 (b:uF):A:=decide (32<=b.toNat)&&decide (b.toNat<=126)
theorem Mx {s:D} {k:H} {c:uF} (h:s.data.toList[k]? =uA c):Z9 s ((k:H):W)=(c.toNat:W):=by
 unfold Z9;rw[zN,yB,h];rfl
theorem D3 (s:D):s.data.toList.length=s.size:=xG
theorem Gm {α:Type} {l r:K α} {k:H} {c:α} (h:l.drop k=c::r):l[k]? =uA c/\l.drop (k+1)=r/\k<l.length:=by
 have h1:l[k]? =uA c:=by
  have:=uN (λx=>x[0]?) h;simpa using this
 refine ⟨h1, ?_,(yC.1 h1).1⟩;have:=uN (List.drop 1) h;rw[xK] at this;simpa [Nat.add_comm] using this
theorem Qqo {c:uF} (h:G2 c=I) (h2:c.toNat≠32):Lib.isSp c=E:=by
 unfold G2 at h;simp only[zK,uS] at h;cases hs:Lib.isSp c with
 | false=>rfl
 | true=>
   exfalso;unfold Lib.isSp at hs;simp only[yS,uQ] at hs;rcases hs with ((((rfl | rfl) | rfl) | rfl) | rfl) | rfl<;>revert h h2<;>decide
theorem Qo9 {c:uF} (h:c.toNat=32):Lib.isSp c=I:=by
 have:c=32:=UInt8.toNat_inj.1 h;rw[this];rfl
theorem Py (s:D) (b k:H):ByteArray.extract s b k=Bp ((s.data.toList.drop b).take (k-b)):=by
 apply xZ;rw[ByteArray.data_extract];apply Array.toList_inj.1;rw[Array.toList_extract];unfold Bp;simp[List.extract_eq_take_drop]
theorem Mc {R S T:Type} {f:H->S->Rd R S T} {e:H->S->T} {n k:H} {s s':S} (h:f k s= .next s'):Ks f e (n+1) k s=Ks f e n (k+1) s':=by rw[Ks,h]
theorem CP {R S T:Type} {f:H->S->Rd R S T} {e:H->S->T} {n k:H} {s:S} {r:R} (h:f k s= .ret r):Ks f e (n+1) k s= .ret r:=by rw[Ks,h]
theorem Qft (line:D):∀(rest:K uF) (k b:H) (s1:K D),line.data.toList.drop k=rest->k<=line.size->b<=k->
 Ks (V1 line) Wz (rest.length+1) k (s1,(b:W))=if rest.all G2 then .brk (s1++(Lib.fieldsGo ((line.data.toList.drop b).take (k-b)) rest).map Bp) else .ret ([],E)
 | [], k,b,s1,hr,hk,hb=>by
   have hks:k=line.size:=by
    have:=uN zE hr;rw[yN,D3] at this;simp only[zY] at this;omega
   have hlt:decide (((k:H):W)<(line.size:W))=E:=uO (by omega);simp only[zY,Ks];unfold V1;rw[hlt];simp only[Bool.false_and,uC,List.all_nil,if_true]
   have hl:((line.data.toList.drop b).take (k-b)).length=k-b:=by
    rw[xC,yN,D3];omega
   unfold Lib.fieldsGo;by_cases hbk:b<k
   . rw[uR (show (b:W)<((k:H):W) by omega)]
     have hne:((line.data.toList.drop b).take (k-b)).isEmpty=E:=by
      cases hx:(line.data.toList.drop b).take (k-b) with
      | nil=>rw[hx] at hl;simp at hl;omega
      | cons _ _=>rfl
     rw[hne];simp only[uE,Wz,zN];rw[Py];rfl
   rw[uO (show¬(b:W)<((k:H):W) by omega)]
   have hne:((line.data.toList.drop b).take (k-b)).isEmpty=I:=by
    rw[show k-b=0 by omega];rfl
   rw[hne];simp only[uC,Wz,if_true,xR,xE]
 | c :: rest,k,b,s1,hr,hk,hb=>by
   obtain ⟨hc,hd,hlt0⟩:=Gm hr;rw[D3] at hlt0;have hlt:decide (((k:H):W)<(line.size:W))=I:=uR (by omega);have hs:=Mx hc;rw[zJ]
   have hf:V1 line k (s1,(b:W))=(bif (decide ((c.toNat:W)<(32:W))|| decide ((c.toNat:W)>(126:W))) then (.ret ([],E)) else (bif ((c.toNat:W) !=(32:W)) then (.next (s1,(b:W))) else (bif decide ((b:W)<((k:H):W)) then (.next (s1++ [(ByteArray.extract line (zO (b:W)) (zO ((k:H):W)))],((k+1:H):W))) else (.next (s1,((k+1:H):W)))))):=by
    unfold V1;rw[hlt,hs,yI,yI]
   rw[List.all_cons];cases hok:G2 c with
   | false=>
     have h1:(decide ((c.toNat:W)<(32:W))|| decide ((c.toNat:W)>(126:W)))=I:=by
      unfold G2 at hok;simp only[Bool.and_eq_false_iff,decide_eq_false_iff_not] at hok;simp only[yS,uS];omega
     rw[h1,uE] at hf;rw[CP hf];rfl
   | true =>
     have h1:(decide ((c.toNat:W)<(32:W))|| decide ((c.toNat:W)>(126:W)))=E:=by
      unfold G2 at hok;simp only[zK,uS] at hok;simp only[xW,decide_eq_false_iff_not];omega
     rw[h1,uC] at hf;rw[yI];by_cases h32:c.toNat=32
     . have h2:((c.toNat:W) !=(32:W))=E:=by rw[h32];rfl
       rw[h2,uC] at hf;have hsp:=Qo9 h32
       have hl:((line.data.toList.drop b).take (k-b)).length=k-b:=by
        rw[xC,yN,D3];omega
       have ih:=λs2=>Qft line rest (k+1) (k+1) s2 hd (by omega) (zX _)
       simp only[Nat.sub_self,List.take_zero] at ih;by_cases hbk:b<k
       . rw[uR (show (b:W)<((k:H):W) by omega),uE] at hf;have hne:(line.data.toList.drop b).take (k-b)≠ []:=λe=>by rw[e] at hl;simp at hl;omega
         rw[Mc hf,ih,Lib.fieldsGo_end _ _ _ hsp hne,zN,zN,Py];split
         . rw[zW,xO,List.singleton_append]
         rfl
       rw[uO (show¬(b:W)<((k:H):W) by omega),uC] at hf;have hne:(line.data.toList.drop b).take (k-b)= []:=by rw[show k-b=0 by omega];rfl
       rw[Mc hf,ih,hne,Lib.fieldsGo_sp _ _ hsp]
     have h2:((c.toNat:W) !=(32:W))=I:=by
      rw[bne_iff_ne];omega
     rw[h2,uE] at hf;have ih:=Qft line rest (k+1) b s1 hd (by omega) (by omega);rw[Mc hf,ih,Lib.fieldsGo_more _ _ _ (Qqo hok h32)]
     have e:(line.data.toList.drop b).take (k+1-b)=(line.data.toList.drop b).take (k-b)++ [c]:=by
      have:(line.data.toList.drop b)[k-b]? =uA c:=by rw[xJ,show b+(k-b)=k by omega];exact hc
      rw[show k+1-b=(k-b)+1 by omega,xA,this];rfl
     rw[e]
theorem MB (line:D):∀(rest:K uF) (k:H),line.data.toList.drop k=rest->Ks (Hp line) Bf rest.length k ()=if rest.all G2 then .brk () else .ret ([],E)
 | [],k,_=>rfl
 | c ::rest,k,hr=>by
   obtain ⟨hc,hd,_⟩:=Gm hr;simp only[zJ,Ks];unfold Hp;rw[Mx hc,IntWalk.i64_in (c.toNat:W) (by have:=c.toNat_lt;omega)]
   have e:Xo (c.toNat:W) 32 126=G2 c:=by
    unfold Xo G2
    congr 1
    . exact uY.2 (by omega)
    exact uY.2 (by omega)
   rw[e,List.all_cons];cases hok:G2 c with
   | false=>rfl
   | true=>
     simp only[zZ,uC,yI];exact MB line rest (k+1) hd
theorem Qfu (line:D):Qc line=Xu line:=by
 unfold Qc Xu;cases decide ((zD line:W)>(600:W)) with
 | true=>rfl
 | false=>
   simp only[uC];have h1:=Qft line line.data.toList 0 0 [] rfl (zV _) (zX _);have h2:=MB line line.data.toList 0 rfl;rw[D3] at h1 h2;rw[show zO ((zD line:W)+1)=line.size+1 by omega,show zO (zD line:W)=line.size by omega];rw[show (([]:K D),(0:W))=([],((0:H):W)) from rfl,h1,h2];cases line.data.toList.all G2 with
   | false=>rfl
   | true=>
     simp only[if_true,Out.on,Nat.sub_self,List.take_zero,yH];rfl
theorem Qpa (line:D):(Xu line).1.length<=24/\∀y,y∈(Xu line).1->y.size<=600:=by
 unfold Xu;cases hc:decide ((zD line:W)>(600:W)) with
 | true=>exact ⟨zV _,λy hy=>by cases hy⟩
 | false=>
   have h6:=uI hc;simp only[uC];have h2:=MB line line.data.toList 0 rfl;rw[D3] at h2;rw[show zO (zD line:W)=line.size by omega,h2];cases line.data.toList.all G2 with
   | false=>exact ⟨zV _,λy hy=>by cases hy⟩
   | true=>
     simp only[if_true,Out.on];cases h3:decide (((Vb line).length:W)>(24:W)) with
     | true=>exact ⟨zV _,λy hy=>by cases hy⟩
     | false=>
       have:=uI h3;simp only[uC];refine ⟨by omega,λy hy=> ?_⟩;have:=(QE line).2 y hy;omega
theorem My (line:D):(Qc line).1.length<=24/\∀y,y∈(Qc line).1->y.size<=600:=by rw[Qfu];exact Qpa line
theorem QT {l:K D} (h:∀y,y∈l->Word y) (hl:l.length<=24) (hs:(Xl ⟨#[32]⟩ l).size<=600):Xu (Xl ⟨#[32]⟩ l)=(l,I):=by
 unfold Xu;rw[uO (show¬((Xl ⟨#[32]⟩ l).size:W)>600 by omega)];simp only[uC];have h2:=MB (Xl ⟨#[32]⟩ l) (Xl ⟨#[32]⟩ l).data.toList 0 rfl;rw[D3] at h2;rw[show zO (zD (Xl ⟨#[32]⟩ l):W)=(Xl ⟨#[32]⟩ l).size by omega,h2]
 have ha:(Xl ⟨#[32]⟩ l).data.toList.all G2=I:=List.all_eq_true.2 λb hb=>by
  have:=ZD h b hb;unfold G2;simp only[zK,uS];exact this
 rw[ha,Tc h];simp only[if_true,Out.on];rw[uO (show¬(l.length:W)>24 by omega)];rfl
end
end Go.Proofs.YteleondjndkpbaaGreatDoor
