/- Texts of this proof, put together by a program: Zc, Mk, Ty, App, Fk, Kn, Cka, Ckb. -/
import Derived.Test.YtgmlioidliojkaaGreatDoorP2
import Derived.Orders
import Derived.LoopN
import Derived.KernelRfl
import Derived.Deep.DeepAppendWide
import Derived.Deep.DeepAppendRoom
import Derived.Maps.AppendAt
import Derived.Test.YtgmlioidliojkaaGreatDoorProg
import Derived.Outline
import Derived.Lib.SliceRun
set_option linter.unusedVariables false
set_option linter.unusedSimpArgs false
namespace Go.Proofs.YtgmlioidliojkaaGreatDoor
open _root_.Array renaming getD_eq_getD_getElem? → zM, getElem?_eq_some_iff → yB, getElem?_append_left → yG, mapM_eq_mapM_toList → yK, replicate → xJ, getElem?_toList → xM
open _root_.Bool renaming and_eq_true → zI, not_eq_true' → zO, and_comm → xU
open _root_.ByteArray renaming size → zE
open _root_.Classical renaming byContradiction → yM
open _root_.Int renaming toNat → zH
open _root_.List renaming getElem?_eq_some_iff → zF, getElem?_eq_getElem → zK, mem_cons → zL, eq_nil_of_length_eq_zero → zN, mem_append_right → zQ, mem_cons_of_mem → zR, mem_append_left → zT, mem_append → zV, mem_singleton → zX, map_congr_left → zY, map_cons → zZ, mem_cons_self → yA, pairwise_iff_getElem → yC, getElem?_append_right → yH, mem_of_getElem? → yI, getElem?_append_left → yL, map_append → yN, length_append → yO, nodup_nil → yQ, length_cons → yU, take_append_of_le_length → yX, append_nil → yY, mem_map → yZ, map_id' → xA, drop_drop → xB, pairwise_cons → xC, replicate → xD, flatten_replicate_nil → xE, getElem?_cons_succ → xG, mem_flatMap → xH, cons_append → xI, nil_append → xL, map → xN, mem_of_mem_take → xO, mapM_cons → xP, drop_take → xQ, take_take → xR, pairwise_append → xS, getElem_of_mem → xT
open _root_.Nat renaming beq → zP, le_refl → zS, le_trans → zU, add_mul → zW, mul_le_mul_right → yD, one_mul → yE, zero_lt_one → yF, lt_of_lt_of_le → yP, eq_of_beq_eq_true → yT, le_add_right → yV, zero_le → yW, lt_trichotomy → xF, min_eq_left → xK, lt_or_ge → xV, zero_add → xW
open _root_.Option renaming map_some → zG, map_eq_some_iff → zJ, bind_some → yJ
open _root_.Option.some renaming inj → zD, injEq → yR
open _root_.Prod renaming snd → yS
section
open Go.RowKit
structure Rec where
 avs:List AV
 bn:List (Nat×List C)
 res:Res
 obs:List Ob
def L9 (s:St):List Operand->Option (List AV)
 | []=>some []
 | x::r=>match BU s x,L9 s r with
   | some v,some vs=>some (v::vs)
   | _,_=>none
def Sj:List C->List Nat
 | []=> []
 | c::r=>c.bkeys++Sj r
def Bx (s:St):List Nat->List (Nat×List C)
 | []=> []
 | k::r=>match get s.bx k with
   | some cs=>(k,cs)::Bx s r
   | none=>Bx s r
def HG (tt : List (Nat×TI)) (orc:Orc) (bn:List (Nat×List C)) (dst:Option Nat) (op:Op) (avs:List AV):Option (Res×List Ob):=
 match Qbw tt orc bn op avs with
 | some (v,obs)=>(match orc with
   | .val v'=>some (⟨v', [],none,none⟩,.eq v v'::obs)
   | _=>some (⟨v, [],none,none⟩,obs))
 | none => match Qi8 tt bn dst op avs with
   | some x=>some x
   | none => match Qjb tt orc dst op avs with
     | some x=>some x
     | none => match Qjg orc bn dst op avs with
       | some x=>some x
       | none =>match Qb2 tt orc op avs with
         | some (v,obs)=>(match orc with
           | .val v'=>some (⟨v', [],none,none⟩,.eq v v'::obs)
           | _=>some (⟨v, [],none,none⟩,obs))
         | none =>match Qb3 tt op avs with
           | some x=>some x
           | none=>match Qjh tt dst op avs with
             | some x=>some x
             | none=>match Qjk orc bn dst op avs with
               | some x=>some x
               | none=>Qjl orc bn dst op avs
def II (tt:List (Nat×TI)) (orc:Orc) (bn:List (Nat×List C)) (dst:Option Nat) (op:Op) (avs:List AV):Option (Res×List Ob):=
 match HF tt orc op avs with
 | some (v,obs)=>some (⟨v, [],none,none⟩,obs)
 | none=>HG tt orc bn dst op avs
def Fw (ops:List Oper) (s:St) (o:Oper):Option Bool:=
 match o.guard with
 | none=>some true
 | some (j,want)=>match ops[j]? with
   | some oj=>(match oj.dst with
     | some t=>(match get s.tm t with
       | some (.one (.bool b))=>some (match b,want with
         | true,true=>true
         | false,false=>true
         | _,_=>false)
       | some (.tup [])=>some false
       | _=>none)
     | none=>none)
   | none=>none
def OJ (N:Nat):Option Nat->Bool
 | none=>true
 | some d=>Nat.blt d N
def I3 (tt:List (Nat×TI)) (N:Nat) (orc:Orc) (ops:List Oper) (s:St) (o:Oper):Option Rec:=
 bif OJ N o.dst then
  match Fw ops s o with
  | some true=>(match L9 s o.op.operands.toList with
    | some avs=>(match II tt orc (Bx s (Sj (Y1 avs))) o.dst o.op avs with
      | some (r,obs)=>some ⟨avs,Bx s (Sj (Y1 avs)),r,obs⟩
      | none=>none)
    | none=>none)
  | some false=>some ⟨[], [],⟨.tup [], [],none,none⟩, []⟩
  | none=>none
 else none
section
variable {P:Program} {N:Nat} {w0:Base} {F0:Nat->Prop} {J:Inj} {a:Act} {w:World} {s:St}
theorem CT : ∀ {xs :List Operand} {vs:List AV},L9 s xs=some vs->All2 (λx v=>BU s x=some v) xs vs
 | [], vs, h => by obtain rfl: []=vs:=by simpa [L9] using h
                   exact .nil
 | x::r,vs,h=>by
   simp only[L9] at h;split at h
   . rename_i v vs' e1 e2;obtain rfl:=zD h;exact .cons e1 (CT e2)
   cases h
theorem QP:∀{ks:List Nat} {k:Nat} {c:List C},get (Bx s ks) k=some c->get s.bx k=some c
 | [],k,c,h=>by simp[Bx,get] at h
 | x ::r,k,c,h=>by
   simp only[Bx] at h;split at h
   . rename_i cs hx;simp only[get] at h;split at h
     . rename_i e;subst e;rw[hx];exact h
     exact QP h
   exact QP h
theorem Qai {tt:List (Nat×TI)} (htt:Nj P tt=true) {orc:Orc} {bn:List (Nat×List C)} {o:Oper} {avs:List AV} {r:Res} {obs:List Ob} (h:HG tt orc bn o.dst o.op avs=some (r,obs)) (hob:AllOb (Jk P w0) (U9 P w0) obs)
 (hdst:∀d,o.dst=some d->d<N) (hrel:Rel N w0 F0 J a w s) (hops:All2 (λx v=>BU s x=some v) o.op.operands.toList avs) (hbn:∀k c,get bn k=some c->get s.bx k=some c) {K:Act->World->Prop} {Q:Exit->Act->World->Prop}
 (hK:∀J' a' w',Rel N w0 F0 J' a' w' (s.step o.dst r)->K a' w'):o.wp P a w K Q:=by
 unfold HG at h
 have hbx:∀k c,get bn k=some c->∃arr e,w.heap[J.B k]? =some (.cells arr e (0,0))/\All2 (CR J w) arr.toList c:=λk c hk=>by
  obtain ⟨_,_,_,h⟩:=hrel.bo k c (hbn k c hk);exact h
 split at h
 . rename_i v obs' hp
   have key:∀v',AllOb (Jk P w0) (U9 P w0) obs'->v=v'->(∀J' a' w',Rel N w0 F0 J' a' w' (s.step o.dst ⟨v', [],none,none⟩)->K a' w')->o.wp P a w K Q:=by
    intro v' hob' e hK';obtain ⟨u,hu,hr⟩:=Qfp (P:=P) (A:=Jk P w0) (J:=J) (w:=w) htt hp hob' rfl (ρ:=a.eval) (λ_=>rfl) (Gw hrel hops) hbx;exact Hz hu (hK' J _ _ (hrel.pure o.dst hdst v' u λ_=>e▸hr))
   split at h
   . rename_i v';obtain ⟨rfl,rfl⟩:(⟨v', [],none,none⟩:Res)=r/\ .eq v v'::obs'=obs:=by simpa using h
     obtain ⟨e,hob'⟩:=AllOb.cons hob;exact key v' hob' e hK
   obtain ⟨rfl,rfl⟩:(⟨v, [],none,none⟩:Res)=r/\obs'=obs:=by simpa using h
   exact key v hob rfl hK
 split at h
 . rename_i x hx;obtain rfl:=zD h;exact Qfs (P:=P) htt hx hdst hrel hops hbn hK
 split at h
 . rename_i x hx;obtain rfl:=zD h;exact Qft (P:=P) htt hx hob hdst hrel hops hK
 split at h
 . rename_i x hx;obtain rfl:=zD h;exact Qfu (P:=P) hx hob hdst hrel hops hbn hK
 split at h
 . rename_i v obs' hp;have hval:(∃v',orc= .val v')\/∀v',orc≠ .val v':=by cases orc<;>simp
   rcases hval with ⟨v',rfl⟩ | hne
   . obtain ⟨rfl,rfl⟩:(⟨v', [],none,none⟩:Res)=r/\ .eq v v'::obs'=obs:=by simpa using h
     obtain ⟨e,hob'⟩:=AllOb.cons hob;obtain ⟨u,hu,hr⟩:=IG (P:=P) (A:=Jk P w0) (J:=J) (w:=w) htt hp hob' rfl (ρ:=a.eval) (Gw hrel hops);have e:v=v':=e;exact Hz hu (hK _ _ _ (hrel.pure o.dst hdst _ _ λ_=>e▸hr))
   have h2:some ((⟨v, [],none,none⟩:Res),obs')=some (r,obs):=by
    split at h
    . exact absurd rfl (hne _)
    exact h
   obtain ⟨rfl,rfl⟩:(⟨v, [],none,none⟩:Res)=r/\obs'=obs:=by simpa using h2
   obtain ⟨u,hu,hr⟩:=IG (P:=P) (A:=Jk P w0) (J:=J) (w:=w) htt hp hob rfl (ρ:=a.eval) (Gw hrel hops);exact Hz hu (hK _ _ _ (hrel.pure o.dst hdst _ _ λ_=>hr))
 split at h
 . rename_i x hx;obtain rfl:=zD h;exact Qb5 (P:=P) htt hx hdst hrel hops hK
 split at h
 . rename_i x hx;obtain rfl:=zD h;exact Qfw (P:=P) htt hx hob hdst hrel hops hK
 split at h
 . rename_i x hx;obtain rfl:=zD h;exact Qfy (P:=P) hx hob hdst hrel hops hbn hK
 exact Qf2 (P:=P) h hob hdst hrel hops hbn hK
theorem Qcb {tt:List (Nat×TI)} (htt:Nj P tt=true) {orc:Orc} {bn:List (Nat×List C)} {o:Oper} {avs:List AV} {r:Res} {obs:List Ob} (h:II tt orc bn o.dst o.op avs=some (r,obs)) (hob:AllOb (Jk P w0) (U9 P w0) obs)
 (hdst:∀d,o.dst=some d->d<N) (hrel:Rel N w0 F0 J a w s) (hops:All2 (λx v=>BU s x=some v) o.op.operands.toList avs) (hbn:∀k c,get bn k=some c->get s.bx k=some c) {K:Act->World->Prop} {Q:Exit->Act->World->Prop}
 (hK:∀J' a' w',Rel N w0 F0 J' a' w' (s.step o.dst r)->K a' w'):o.wp P a w K Q:=by
 unfold II at h;split at h
 . rename_i v obs' hp;obtain ⟨rfl,rfl⟩:(⟨v, [],none,none⟩:Res)=r/\obs'=obs:=by simpa using h
   obtain ⟨u,hu,hr⟩:=Qah (P:=P) (A:=Jk P w0) (J:=J) (w:=w) htt hp hob rfl (ρ:=a.eval) (Gw hrel hops);exact Hz hu (hK _ _ _ (hrel.pure o.dst hdst _ _ λ_=>hr))
 exact Qai htt h hob hdst hrel hops hbn hK
theorem RZ {ops:Array Oper} {o:Oper} {b:Bool} (hrel:Rel N w0 F0 J a w s) (h:Fw ops.toList s o=some b):Region.wanted o (yielded ops a.tmps)=b:=by
 unfold Fw at h;unfold Region.wanted;split at h
 . rename_i hg;rw[hg];exact zD h
 rename_i j want hg;rw[hg];split at h
 . rename_i oj hj;split at h
   . rename_i t ht;split at h
     . rename_i c hc;have h1:a.tmps.getD t undef= .bool c:=hrel.tm t _ hc
       have h2:a.tmps[t]? =some (.bool c):=by
        rw[zM] at h1;cases hq:a.tmps[t]? with
        | none=>rw[hq] at h1;simp[undef] at h1
        | some u=>rw[hq] at h1;simp at h1;rw[h1]
       have hj':ops[j]? =some oj:=by simpa using hj
       simp only[yielded,hj',yJ,ht,h2];obtain rfl:=zD h;cases c<;>cases want<;>rfl
     . rename_i hc;obtain ⟨vs,h1,hv⟩:=hrel.tm t _ hc;cases hv
       have hj':ops[j]? =some oj:=by simpa using hj
       obtain rfl:=zD h;rw[zM] at h1;cases hq:a.tmps[t]? with
       | none=>simp[yielded,hj',ht,hq]
       | some u=>
         rw[hq] at h1;obtain rfl:u=_:=h1;simp[yielded,hj',ht,hq]
     cases h
   cases h
 cases h
theorem Qcc {tt:List (Nat×TI)} (htt:Nj P tt=true) {orc:Orc} {ops:Array Oper} {i:Nat} {o:Oper} (hi:ops[i]? =some o) {ρ:Rec} (h:I3 tt N orc ops.toList s o=some ρ) (hob:AllOb (Jk P w0) (U9 P w0) ρ.obs) (hrel:Rel N w0 F0 J a w s)
 {K:Act->World->Prop} {Q:Exit->Act->World->Prop} (hK:∀J' a' w',Rel N w0 F0 J' a' w' (s.step o.dst ρ.res)->K a' w'):wpOp P ops Q i K a w:=by
 unfold I3 at h;cases hd:OJ N o.dst with
 | false=>rw[hd] at h;cases h
 | true =>
   rw[hd] at h;simp only[cond_true] at h;have hdst:∀d,o.dst=some d->d<N:=λd e=>by rw[e] at hd;simpa [OJ] using hd
   unfold wpOp;simp only[hi];split at h
   . rename_i hg;have hw:=RZ hrel hg;split at h
     . rename_i avs havs;split at h
       . rename_i r obs he;obtain rfl:=zD h;rw[if_pos hw];exact .inl (Qcb (P:=P) htt he hob hdst hrel (CT havs) (λk c hk=>QP hk) hK)
       cases h
     cases h
   . rename_i hg;obtain rfl:=zD h;have hw:=RZ hrel hg;rw[if_neg (by rw[hw];simp)];exact hK J _ _ (hrel.pure o.dst hdst _ _ λ_=>⟨[],rfl,.nil⟩)
   cases h
def EP (orcs:List (Nat×Orc)) (i:Nat):Orc:=match get orcs i with
 | some x=>x
 | none=> .no
def Ry (tt:List (Nat×TI)) (N:Nat) (orcs:List (Nat×Orc)) (ops:List Oper):List Oper->Nat->St->Option (St×List Ob)
 | [],_,s=>some (s, [])
 | o ::r,i,s=>match I3 tt N (EP orcs i) ops s o with
   | some ρ=>(match Ry tt N orcs ops r (i+1) (s.step o.dst ρ.res) with
     | some (s',obs)=>some (s',ρ.obs++obs)
     | none=>none)
   | none=>none
theorem IJ {tt:List (Nat×TI)} (htt:Nj P tt=true) {orcs:List (Nat×Orc)} {ops:Array Oper} {Q:Exit->Act->World->Prop}:∀(l:List Oper) (i:Nat) {s s':St} {obs:List Ob} {J:Inj} {a:Act} {w:World},ops.toList.drop i=l->
 Ry tt N orcs ops.toList l i s=some (s',obs)->AllOb (Jk P w0) (U9 P w0) obs->Rel N w0 F0 J a w s->(∀J' a' w',Rel N w0 F0 J' a' w' s'->Q .normal a' w')->wpOps P ops Q (List.range' i l.length) a w
 | [],i,s,s',obs,J,a,w,_,h,_,hrel,hQ=>by
   obtain ⟨rfl,rfl⟩:s=s'/\ []=obs:=by simpa [Ry] using h
   exact hQ J a w hrel
 | o :: r,i,s,s',obs,J,a,w,hl,h,hob,hrel,hQ=>by
   simp only[Ry] at h;split at h
   . rename_i ρ hρ;split at h
     . rename_i s'' obs' hr;obtain ⟨rfl,rfl⟩:s''=s'/\ρ.obs++obs'=obs:=by simpa using h
       obtain ⟨ho1,ho2⟩:=AllOb.append hob
       have hi:ops[i]? =some o:=by
        have:=congrArg (·[0]?) hl;simpa using this
       have hl':ops.toList.drop (i+1)=r:=by rw[←xB,hl];rfl
       rw[yU,List.range'_succ,wpOps_cons];exact Qcc (P:=P) htt hi hρ ho1 hrel λJ' a' w' hR=>IJ htt r (i+1) hl' hr ho2 hR hQ
     cases h
   cases h
end
end
section
open Go.RowKit
section
variable (P:Program) (N:Nat) (w0:Base) (F0:Nat->Prop)
def QX (Q:Exit->St->Prop):Exit->Act->World->Prop:=λe a w=>∃J s,Rel N w0 F0 J a w s/\Q e s
def AWP (c:Code) (Q:Exit->St->Prop) (s:St):Prop:=∀J a w,Rel N w0 F0 J a w s->c.wp P (QX N w0 F0 Q) a w
end
def Weak (s s':St):Prop:=∀N w0 F0 J a w,Rel N w0 F0 J a w s->∃J',Rel N w0 F0 J' a w s'
def Exit.thenS (K:St->Prop) (Q:Exit->St->Prop):Exit->St->Prop
 | .normal,s=>K s
 | e,s=>Q e s
def Exit.inBlockS (id:Nat) (Q:Exit->St->Prop):Exit->St->Prop
 | .exit i,s=>bif zP i id then Q .normal s else Q (.exit i) s
 | e,s=>Q e s
section
variable {P:Program} {N:Nat} {w0:Base} {F0:Nat->Prop} {Q:Exit->St->Prop} {s s':St}
theorem Weak.refl (s:St):Weak s s:=λ_ _ _ J _ _ h=>⟨J,h⟩
theorem Weak.trans {s s' s'':St} (h:Weak s s') (h':Weak s' s''):Weak s s'':=λN w0 F0 J a w hr=>by
 obtain ⟨J',hr'⟩:=h N w0 F0 J a w hr;exact h' N w0 F0 J' a w hr'
theorem P9 {c:Code} (hw:Weak s s') (h:AWP P N w0 F0 c Q s'):AWP P N w0 F0 c Q s:=λJ a w hr=>by
 obtain ⟨J',hr'⟩:=hw N w0 F0 J a w hr;exact h J' a w hr'
theorem Qf3 {c:Code} {Q':Exit->St->Prop} (h:AWP P N w0 F0 c Q s) (hq:∀e s,Q e s->Q' e s):AWP P N w0 F0 c Q' s:=λJ a w hr=>
 wp_mono (h J a w hr) λe a w ⟨J,s,h1,h2⟩=>⟨J,s,h1,hq e s h2⟩
theorem Qc {x y:Code} (h:AWP P N w0 F0 x (Exit.thenS (AWP P N w0 F0 y Q) Q) s):AWP P N w0 F0 (.seq x y) Q s:=λJ a w hr=>by
 refine wp_seq (wp_mono (h J a w hr) ?_)
 rintro e a' w' ⟨J',s',hR,hq⟩
 cases e with
 | normal=>exact hq J' a' w' hR
 | _=>exact ⟨J',s',hR,hq⟩
theorem Qg (h:Q .normal s):AWP P N w0 F0 .skip Q s:=λJ a w hr=>wp_skip ⟨J,s,hr,h⟩
theorem Q3 {id:Nat} (h:Q (.exit id) s):AWP P N w0 F0 (.exit id) Q s:=λJ a w hr=>wp_exit ⟨J,s,hr,h⟩
theorem Qe (h:Q .ret s):AWP P N w0 F0 .ret Q s:=λJ a w hr=>wp_ret ⟨J,s,hr,h⟩
theorem YF {t:Nat} {x y:Code} {b:Bool} (hc:get s.tm t=some (.one (.bool b))) (h1:b=true->AWP P N w0 F0 x Q s) (h2:b=false->AWP P N w0 F0 y Q s):AWP P N w0 F0 (.cond (.tmp t) x y) Q s:=λJ a w hr=>
 wp_cond_split (t:=b) (hr.tm t _ hc) (λe=>h1 e J a w hr) (λe=>h2 e J a w hr)
theorem Qv {id:Nat} {c:Code} (h:AWP P N w0 F0 c (Exit.inBlockS id Q) s):AWP P N w0 F0 (.block id c) Q s:=λJ a w hr=>by
 refine wp_block (wp_mono (h J a w hr) ?_)
 rintro e a' w' ⟨J',s',hR,hq⟩
 cases e with
 | exit i=>
   simp only[Exit.inBlockS] at hq;simp only[Exit.inBlock];split<;>rename_i hi
   . subst hi;simp only[Nat.beq_refl,cond_true] at hq;exact ⟨J',s',hR,hq⟩
   rw[show zP i id=false by
    cases hb:zP i id with
    | false=>rfl
    | true=>exact absurd (yT hb) hi] at hq
   exact ⟨J',s',hR,hq⟩
 | _=>exact ⟨J',s',hR,hq⟩
theorem HH {c:Code} {Q:Exit->Act->World->Prop}:∀(n m:Nat),n<=m->∀a w,Code.rounds P c Q n a w->Code.rounds P c Q m a w
 | 0,_,_,_,_,h=>h.elim
 | n+1,0,h,_,_,_=>absurd h (by omega)
 | n +1,m+1,hnm,a,w,h=>wp_mono (show c.wp P (Exit.then (Code.rounds P c Q n) Q) a w from h) λe a w hq=>by
     cases e with
     | normal=>exact HH n m (by omega) a w hq
     | _=>exact hq
theorem Qf4 {c:Code} (I:Nat->St->Prop) {n:Nat} (h0:I n s) (hI:∀n s,I n s->AWP P N w0 F0 c (Exit.thenS (λs'=>∃m s'',m<n/\Weak s' s''/\I m s'') Q) s):AWP P N w0 F0 (.loop c) Q s:=λJ a w hr=>by
 have key:∀n s J a w,I n s->Rel N w0 F0 J a w s->Code.rounds P c (QX N w0 F0 Q) (n+1) a w:=by
  intro n
  induction n using Nat.strongRecOn with
  | _ n ih=>
    intro s J a w hi hr;refine wp_mono (hI n s hi J a w hr) ?_
    rintro e a' w' ⟨J',s',hR,hq⟩
    cases e with
    | normal=>
      obtain ⟨m,s'',hm,hw,hi'⟩:=hq;obtain ⟨J'',hR'⟩:=hw N w0 F0 J' a' w' hR;exact HH (m+1) n hm a' w' (ih m hm s'' J'' a' w' hi' hR')
    | _=>exact ⟨J',s',hR,hq⟩
 exact wp_loop_rounds (n+1) (key n s J a w h0 hr)
def OK {α:Type} (l:List (Nat×α)):List Nat->List (Nat×α)
 | []=> []
 | t::r=>match get l t with
   | some v=>(t,v)::OK l r
   | none=>OK l r
theorem Oa {α:Type} {l:List (Nat×α)} {t:Nat} {v:α}:∀{ts:List Nat},get (OK l ts) t=some v->get l t=some v
 | [],h=>by simp[OK,get] at h
 | x ::r,h=>by
   simp only[OK] at h;split at h
   . rename_i u hu;simp only[get] at h;split at h
     . rename_i e;subst e;rw[hu];exact h
     exact Oa h
   exact Oa h
def St.keep (s:St) (ts bs:List Nat):St:=⟨OK s.tm ts,OK s.bx bs⟩
theorem Qcd (ts bs:List Nat) (h:s.keep ts bs=s'):Weak s s':=λN w0 F0 J a w hr=>⟨J,by
 subst h;exact hr.less (λt v hv=>Oa hv) λk c hc=>Oa hc⟩
def QQ (tt:List (Nat×TI)) (N:Nat) (orcs:List (Nat×Orc)) (ops:List Oper) (ts bs:List Nat) (s:St):Option (St×List Ob):=
 match Ry tt N orcs ops ops 0 s with
 | some (s',obs)=>some (s'.keep ts bs,obs)
 | none=>none
theorem QR {tt:List (Nat×TI)} (htt:Nj P tt=true) (orcs:List (Nat×Orc)) (ts bs:List Nat) {id:Nat} {ops:Array Oper} {obs:List Ob} (h:QQ tt N orcs ops.toList ts bs s=some (s',obs)) (hob:AllOb (Jk P w0) (U9 P w0) obs) (hQ:Q .normal s'):
 AWP P N w0 F0 (.region id ops false) Q s:=λJ a w hr=>by
 unfold QQ at h;split at h
 . rename_i s1 obs1 h1;obtain ⟨rfl,rfl⟩:s1.keep ts bs=s'/\obs1=obs:=by simpa using h
   refine wp_region ?_;have:=IJ (P:=P) (Q:=QX N w0 F0 Q) htt ops.toList 0 rfl h1 hob hr λJ' a' w' hR=>⟨J',_,hR.less (λt v hv=>Oa hv) (λk c hc=>Oa hc),hQ⟩
   rw[List.range_eq_range'];simpa using this
 cases h
def Ra (k k' x:Nat):Nat:=bif zP x k then k' else bif zP x k' then k else x
def Qla (k k':Nat):Tok->Tok
 | .own d x=> .own d (Ra k k' x)
 | .vw x=> .vw (Ra k k' x)
 | t=>t
def Qjm (k k':Nat):C->C
 | .slc t n l=> .slc (Qla k k' t) n l
 | .rptr t cs=> .rptr (Qla k k' t) cs
 | .ept d x n i o cs=> .ept d (Ra k k' x) n i o cs
 | c=>c
theorem CU {a b:Nat} (h:a≠b):zP a b=false:=by
 cases hb:zP a b with
 | false=>rfl
 | true=>exact absurd (yT hb) h
theorem Dq (k k' x:Nat):Ra k k' (Ra k k' x)=x:=by
 simp only[Ra];by_cases h1:x=k
 . subst h1;simp;by_cases h2:k'=x
   . simp[h2]
   have:zP k' x=false:=CU h2;simp[this]
 have e1:zP x k=false:=CU h1;simp only[e1,cond_false];by_cases h2:x=k'
 . subst h2;simp
 have e2:zP x k'=false:=CU h2;simp[e1,e2]
def Inj.swap (J:Inj) (k k':Nat):Inj:=⟨J.F,λx=>J.L (Ra k k' x),J.B⟩
theorem SA {J:Inj} {w:World} {k k':Nat} {v:Value} {c:C} (h:CR J w v c):CR (J.swap k k') w v (Qjm k k' c):=by
 cases c with
 | slc t n l=>
   cases t with
   | sh | emp | put=>exact h
   | own d x=>
     cases d with
     | true=>show OwnDeep (J.L (Ra k k' (Ra k k' x))) w v n l;rw[Dq];exact h
     | false=>show OwnTop J.F (J.L (Ra k k' (Ra k k' x))) w v n l;rw[Dq];exact h
   | vw x=>
     refine VV.keep (X:=J.X (.vw x)) (λb hb=>⟨?_,rfl⟩) h;show b∈J.L (Ra k k' (Ra k k' x))\/J.F b;rw[Dq];exact hb
 | ept d x n i o cs=>
   obtain ⟨g,r,vs,h1,h2,h3,h4⟩:=h;refine ⟨g,r,vs, ?_,h2,h3.keep λb hb=>⟨?_,rfl⟩,h4⟩
   . show J.L (Ra k k' (Ra k k' x))=_;rw[Dq];exact h1
   cases d with
   | true=>
     show b∈J.L (Ra k k' (Ra k k' x))\/J.F b;rw[Dq];exact hb
   | false=>exact hb
 | rptr t cs=>
   refine Reads.keep h λb hb=>⟨?_,rfl⟩
   cases t with
   | vw x=>
     show b∈J.L (Ra k k' (Ra k k' x))\/J.F b;rw[Dq];exact hb
   | _=>exact hb
 | _=>exact h
theorem Rel.swap {J:Inj} {a:Act} {w:World} (h:Rel N w0 F0 J a w s) (k k':Nat):Rel N w0 F0 (J.swap k k') a w (s.map (Qjm k k')) where
 below:=h.below
 nodef:=h.nodef
 size:=h.size
 fl:=h.fl
 f0:=h.f0
 nd x:=h.nd _
 lo x:=h.lo _
 nb:=h.nb
 cb:=h.cb
 dj x y b hx hy:=by
  have:=h.dj _ _ b hx hy;rw[←Dq k k' x,this,Dq]
 bo x c hc:=by
  simp only[St.map,I2 (xN _)] at hc;obtain ⟨y,hy,rfl⟩:=zJ.1 hc;obtain ⟨h1,h2,h3,arr,e,h4,h5⟩:=h.bo x y hy;exact ⟨h1,h2,λk=>h3 _,arr,e,h4,h5.map _ λa b _ hr=>SA hr⟩
 bi x y c c' hc hc' hB:=by
  simp only[St.map,I2 (xN _)] at hc hc';obtain ⟨z,hz,rfl⟩:=zJ.1 hc;obtain ⟨z',hz',rfl⟩:=zJ.1 hc';exact h.bi x y z z' hz hz' hB
 tm t v hv:=by
  simp only[St.map,I2 (AV.map _)] at hv;obtain ⟨y,hy,rfl⟩:=zJ.1 hv;exact AR.map _ (h.tm t y hy) λu c _ hc=>SA hc
def St.swaps (s:St):List (Nat×Nat)->St
 | []=>s
 | (k,k')::r=>(s.map (Qjm k k')).swaps r
theorem CV:∀(l:List (Nat×Nat)) (s:St),Weak s (s.swaps l)
 | [],s=>Weak.refl s
 | (k,k')::r,s=>Weak.trans (λN w0 F0 J a w h=>⟨_,h.swap k k'⟩) (CV r _)
theorem CW (ks:List Nat) {J:Inj} {a:Act} {w:World} (hr:Rel N w0 F0 J a w s):∃J':Inj,(∀k,k∈ks->J'.L k= [])/\Rel N w0 F0 J' a w (s.map (U0 (Yb ks) none)):=by
 let J':Inj:=⟨λb=>J.F b\/∃k,k∈ks/\b∈J.L k,λk=>if k∈ks then [] else J.L k,J.B⟩
 have hL:∀k b,b∈J'.L k->k∉ks/\b∈J.L k:=λk b hm=>by
  have hm:b∈(if k∈ks then [] else J.L k):=hm;split at hm
  . simp at hm
  rename_i hn;exact ⟨hn,hm⟩
 have hT:Turns J J' w w (Yb ks) none:=by
  constructor
  . exact λb hb=>⟨.inl hb,rfl⟩
  . intro k hk;rw[Wf] at hk;split at hk
    . cases hk
    rename_i hn;exact ⟨if_neg hn,λ_ _=>rfl⟩
  . intro k hk b hb;rw[Wf] at hk;split at hk
    . rename_i hm;exact ⟨.inr ⟨k,hm,hb⟩,rfl⟩
    cases hk
  . intro k k' hk;rw[Wf] at hk;split at hk<;>cases hk
  . intro k t hk;rw[Wf] at hk;split at hk
    . simp at hk;exact .inl hk.symm
    cases hk
  . exact λ_ _=>rfl
  intro k d m i o cs hk;rw[Wf] at hk;split at hk<;>cases hk
 have hN:Names w0 F0 J' w:=by
  constructor
  . exact λb hb=>hb.elim (hr.fl b) λ⟨k,_,hm⟩=>⟨(hr.lo k b hm).2.1,.inr (hr.lo k b hm).1⟩
  . exact λb hb=> .inl (hr.f0 b hb)
  . intro k;show (if _ then _ else _:List Nat).Nodup;split
    . simp
    exact hr.nd k
  . intro k b hm;obtain ⟨hn,hm⟩:=hL k b hm;obtain ⟨h1,h2,h3⟩:=hr.lo k b hm;exact ⟨h1,h2,λhF=>hF.elim h3 λ⟨k',hk',hm'⟩=>hn (hr.dj k k' b hm hm'▸hk')⟩
  intro k k' b hm hm';exact hr.dj k k' b (hL k b hm).2 (hL k' b hm').2
 have h0:=hr.upd (w':=w) (J':=J') none (by simp) ⟨.one .dead,Yb ks,none,none⟩ undef hr.below hT hN (λh=>absurd rfl h) (λk c hk _=>by
  obtain ⟨_,h2,h3,_⟩:=hr.bo k c hk;exact ⟨by simp,λhF=>hF.elim h2 λ⟨k',_,hm⟩=>h3 k' hm,λk' hm=>h3 k' (hL k' _ hm).2,rfl⟩) (λk c hk=>by cases hk)
 refine ⟨J',λk hk=>if_pos hk, ?_⟩;have h0:Rel N w0 F0 J' a w (match Yb ks,(none:Option Nat) with | [],none=>s | rl,kb=>s.map (U0 rl kb)):=h0;cases ks with
 | nil =>
   have hid:s.map (U0 (Yb []) none)=s:=by
    have hc:(U0 (Yb []) none)=id:=by
     funext c
     cases c with
     | slc t n l=>cases t<;>rfl
     | rptr t cs=>cases t<;>rfl
     | _=>rfl
    rw[hc];obtain ⟨tm,bx⟩:=s;simp only[St.map]
    congr 1
    . conv=>rhs;rw[←List.map_id tm]
      refine zY λp _=> ?_
      obtain ⟨t,v⟩:=p;cases v<;>simp[AV.map]
    simp
   rw[hid];exact h0
 | cons k ks=>exact h0
theorem Fx (ks:List Nat) (h:s.map (U0 (Yb ks) none)=s'):Weak s s':=λN w0 F0 J a w hr=>by
 subst h;obtain ⟨J',_,h⟩:=CW ks hr;exact ⟨J',h⟩
def Qf5 (d:Bool) (k n:Nat):C->C
 | .slc .emp _ []=> .slc (.own d k) n []
 | c=>c
def OL (i:Nat) (d:Bool) (k n:Nat):List C->List C
 | []=> []
 | c::r=>match i with
   | 0=>Qf5 d k n c::r
   | i+1=>c::OL i d k n r
def Qh7 (i:Nat) (d:Bool) (k n:Nat):AV->AV
 | .one c=> .one (Qf5 d k n c)
 | .agg cs=> .agg (OL i d k n cs)
 | v=>v
theorem SB {J:Inj} {w:World} {v:Value} {d:Bool} {k n:Nat} (_:J.L k= []) {c:C} (h:CR J w v c):CR J w v (Qf5 d k n c):=by
 unfold Qf5;split
 . obtain ⟨_,oa,rfl⟩:=h;cases d with
   | true=>show OwnDeep (J.L k) w _ n [];exact ⟨[],.emp oa n,yQ,(λb hb=>by simp at hb),.inl rfl⟩
   | false=>exact .inl ⟨rfl,oa,rfl⟩
 exact h
theorem EQ {J:Inj} {w:World} {d:Bool} {k n:Nat} (hk:J.L k= []):∀(i:Nat) {cs:List C} {vs:List Value},All2 (CR J w) vs cs->All2 (CR J w) vs (OL i d k n cs)
 | _, [],_,h=>by unfold OL;exact h
 | 0,c::r,_,.cons h1 h2=>by unfold OL;exact .cons (SB hk h1) h2
 | i+1,c::r,_,.cons h1 h2=>by unfold OL;exact .cons h1 (EQ hk i h2)
theorem Qce {J:Inj} {w:World} {v:Value} {d:Bool} {k n:Nat} (hk:J.L k= []) (i:Nat) {x:AV} (h:AR J w v x):AR J w v (Qh7 i d k n x):=by
 cases x with
 | one c=>exact SB hk h
 | agg cs=>obtain ⟨vs,e,h⟩:=h;exact ⟨vs,e,EQ hk i h⟩
 | tup l=>exact h
def Qk1 {α:Type} (t:Nat) (f:α->α):List (Nat×α)->List (Nat×α)
 | []=> []
 | (k,a)::r=>(k,if k=t then f a else a)::Qk1 t f r
theorem YG {α:Type} {t u:Nat} {f:α->α} {v:α}:∀{l:List (Nat×α)},get (Qk1 t f l) u=some v->∃y,get l u=some y/\(v=f y\/v=y)
 | [],h=>by simp[Qk1,get] at h
 | (k,a)::r,h=>by
   simp only[Qk1,get] at h⊢;by_cases hk:k=u
   . simp only[hk,if_true] at h⊢;refine ⟨a,rfl, ?_⟩;by_cases hu:u=t
     . simp only[hu,if_true] at h;exact .inl (zD h).symm
     simp only[hu,if_false] at h;exact .inr (zD h).symm
   simp only[hk,if_false] at h⊢;exact YG h
def St.open1 (s:St):Bool×Nat×Nat×Bool×Nat×Nat->St
 | (true,t,i,d,k,n)=>⟨(s.map (U0 (Yb [k]) none)).tm,Qk1 t (OL i d k n) (s.map (U0 (Yb [k]) none)).bx⟩
 | (false,t,i,d,k,n)=>⟨Qk1 t (Qh7 i d k n) (s.map (U0 (Yb [k]) none)).tm,(s.map (U0 (Yb [k]) none)).bx⟩
theorem Qaj (o:Bool×Nat×Nat×Bool×Nat×Nat) (s:St):Weak s (s.open1 o):=λN w0 F0 J a w hr=>by
 obtain ⟨b,t,i,d,k,n⟩:=o;obtain ⟨J',hk,h⟩:=CW [k] hr;have hk:=hk k yA;refine ⟨J', ?_⟩;cases b with
 | true=>
   refine {h with bo:=λx c hc=> ?_,bi:=λx y c c' hc hc'=> ?_}
   . obtain ⟨y,hy,e⟩:=YG hc;obtain ⟨h1,h2,h3,arr,ty,h4,h5⟩:=h.bo x y hy;refine ⟨h1,h2,h3,arr,ty,h4, ?_⟩;rcases e with rfl | rfl
     . exact EQ hk i h5
     exact h5
   obtain ⟨_,hy,_⟩:=YG hc;obtain ⟨_,hy',_⟩:=YG hc';exact h.bi x y _ _ hy hy'
 | false=>
   refine {h with tm:=λx v hv=> ?_};obtain ⟨y,hy,e⟩:=YG hv;have h5:=h.tm x y hy;rcases e with rfl | rfl
   . exact Qce hk i h5
   exact h5
def St.opens (s:St):List (Bool×Nat×Nat×Bool×Nat×Nat)->St
 | []=>s
 | o::r=>(s.open1 o).opens r
theorem JW:∀(l:List (Bool×Nat×Nat×Bool×Nat×Nat)) (s:St),Weak s (s.opens l)
 | [],s=>Weak.refl s
 | o::r,s=>Weak.trans (Qaj o s) (JW r _)
theorem Qcf {c:Code} (l:List (Bool×Nat×Nat×Bool×Nat×Nat)) (he:s.opens l=s') (h:AWP P N w0 F0 c Q s'):AWP P N w0 F0 c Q s:=P9 (he▸JW l s) h
def Qmk (k:Nat):C->C
 | .slc (.own true x) n l=>bif zP x k then .slc (.own false x) n l else .slc (.own true x) n l
 | .ept true x n i o cs=>bif zP x k then .rptr (.vw x) cs else .ept true x n i o cs
 | c=>c
def Inj.dem (J:Inj) (k:Nat):Inj:=⟨λb=>J.F b\/(b∈J.L k/\b∉(J.L k).take 1),λx=>if x=k then (J.L k).take 1 else J.L x,J.B⟩
theorem Qcg {J:Inj} {k:Nat} {t:Tok}:∀b,J.X t b->(J.dem k).X t b:=by
 intro b hb;cases t with
 | sh=>exact .inl hb
 | emp | own | put=>exact hb.elim
 | vw x =>
   rcases hb with hb | hb
   . by_cases hx:x=k
     . subst hx;by_cases hm:b∈(J.L x).take 1
       . exact .inl (by show b∈(if x=x then _ else _);rw[if_pos rfl];exact hm)
       exact .inr (.inr ⟨hb,hm⟩)
     exact .inl (by show b∈(if x=k then _ else _);rw[if_neg hx];exact hb)
   exact .inr (.inl hb)
theorem Qch {J:Inj} {w:World} {v:Value} {k:Nat} {c:C} (h:CR J w v c):CR (J.dem k) w v (Qmk k c):=by
 have hF:∀b,J.F b->(J.dem k).F b/\w.heap[b]? =w.heap[b]? :=λb hb=>⟨.inl hb,rfl⟩
 have hL:∀x,x≠k->(J.dem k).L x=J.L x:=λx hx=>if_neg hx
 have hLk:(J.dem k).L k=(J.L k).take 1:=if_pos rfl;cases c with
 | int | bool | str | dead=>exact h
 | slc t n l=>
   cases t with
   | sh=>exact VV.keep hF h
   | emp=>exact h
   | put=>exact h.elim
   | vw x=>exact VV.keep (λb hb=>⟨Qcg (t:= .vw x) b hb,rfl⟩) h
   | own d x=>
     cases d with
     | false=>
       show OwnTop _ ((J.dem k).L x) w v n l;rcases h with h | ⟨g,cap,cur,e,e1,hv,hg,hs,hr,h1,h2⟩
       . exact .inl h
       refine .inr ⟨g,cap,cur,e, ?_,hv,hg,hs,hr.keep hF,h1,h2⟩;by_cases hx:x=k
       . subst hx;rw[hLk,e1];rfl
       rw[hL x hx];exact e1
     | true =>
       show CR (J.dem k) w v (bif zP x k then .slc (.own false x) n l else .slc (.own true x) n l);cases hb:zP x k with
       | false=>
         have hx:x≠k:=λe=>by subst e;simp at hb
         show OwnDeep ((J.dem k).L x) w v n l;rw[hL x hx];exact h
       | true=>
         obtain rfl:=yT hb;show OwnTop _ ((J.dem x).L x) w v n l;rw[hLk];obtain ⟨L',h1,h2,h3,h4⟩:=h;generalize hp:PV.slc n l=p at h1;cases h1 with
         | int | bool | str | any=>cases hp
         | emp oa n'=>cases hp;exact .inl ⟨rfl,oa,rfl⟩
         | @slc g cap n' cur e L1 l' hg hs hr h5 h6=>
           cases hp
           rcases h4 with h4 | ⟨g',r1,r2,e1,e2⟩
           . cases h4
           cases e1
           obtain ⟨n1,_⟩:=List.nodup_cons.1 h2;refine .inr ⟨g,cap,cur,e,by rw[e2];rfl,rfl,hg,hs,hr.vr λb hb=> .inr ⟨h3 b (zR _ hb),λhm=> ?_⟩,h5,h6⟩;rw[e2] at hm;simp at hm;exact n1 (hm▸hb)
 | ptr=>exact h
 | fn=>exact h
 | fnr f caps=>
   obtain ⟨vs,rfl,ha⟩:=h;exact ⟨vs,rfl,ha.imp λ_ _ _ h=>h.keep hF⟩
 | rptr t cs=>exact Reads.keep h λb hb=>⟨Qcg b hb,rfl⟩
 | ept d x n i o cs=>
   obtain ⟨g,r,vs,h1,h2,h3,h4,h5⟩:=h;cases d with
   | false=>
     refine ⟨g,if x=k then [] else r,vs, ?_,h2,h3.keep hF,h4,h5⟩;by_cases hx:x=k
     . subst hx;rw[hLk,h1,if_pos rfl];rfl
     rw[hL x hx,if_neg hx];exact h1
   | true=>
     show CR (J.dem k) w v (bif zP x k then .rptr (.vw x) cs else .ept true x n i o cs);cases hb:zP x k with
     | false=>
       have hx:x≠k:=λe=>by subst e;simp at hb
       exact ⟨g,r,vs,by rw[hL x hx];exact h1,h2,h3.keep λb hb=>⟨Qcg (t:= .vw x) b hb,rfl⟩,h4,h5⟩
     | true=>exact ⟨g,i*n+o,vs,h2,Qcg (t:= .vw x) g (.inl (by rw[h1];exact yA)),h3.keep λb hb=>⟨Qcg (t:= .vw x) b hb,rfl⟩,h4⟩
theorem OM (k:Nat) (s:St):Weak s (s.map (Qmk k)):=λN w0 F0 J a w h=>by
 have hsub:∀x b,b∈(J.dem k).L x->b∈J.L x:=λx b hb=>by
  have hb:b∈(if x=k then (J.L k).take 1 else J.L x):=hb;split at hb
  . rename_i hx;subst hx;exact xO hb
  exact hb
 refine ⟨J.dem k,{below:=h.below,nodef:=h.nodef,size:=h.size,fl:=λb hb=> ?_,f0:=λb hb=> .inl (h.f0 b hb),nd:=λx=> ?_,lo:=λx b hb=> ?_,dj:=λx y b hx hy=>h.dj x y b (hsub x b hx) (hsub y b hy),nb:=h.nb,cb:=h.cb,bo:=λx c hc=> ?_,bi:=λx y c c' hc hc' hB=> ?_,tm:=λt v hv=> ?_}⟩
 . rcases hb with hb | ⟨hb,_⟩
   . exact h.fl b hb
   exact ⟨(h.lo k b hb).2.1,.inr (h.lo k b hb).1⟩
 . show (if _ then _ else _:List Nat).Nodup;split
   . exact (List.take_sublist 1 _).nodup (h.nd k)
   exact h.nd x
 . obtain ⟨h1,h2,h3⟩:=h.lo x b (hsub x b hb);refine ⟨h1,h2,λhF=> ?_⟩;rcases hF with hF | ⟨hm,hn⟩
   . exact h3 hF
   have hx:=h.dj x k b (hsub x b hb) hm;subst hx;exact hn (by have hb:b∈(if x=x then (J.L x).take 1 else J.L x):=hb;rw[if_pos rfl] at hb;exact hb)
 . simp only[St.map,I2 (xN _)] at hc;obtain ⟨y,hy,rfl⟩:=zJ.1 hc;obtain ⟨h1,h2,h3,arr,e,h4,h5⟩:=h.bo x y hy;refine ⟨h1,λhF=> ?_,λz hz=>h3 z (hsub z _ hz),arr,e,h4,h5.map _ λa b _ hr=>Qch hr⟩;rcases hF with hF | ⟨hm,_⟩
   . exact h2 hF
   exact h3 k hm
 . simp only[St.map,I2 (xN _)] at hc hc';obtain ⟨z,hz,rfl⟩:=zJ.1 hc;obtain ⟨z',hz',rfl⟩:=zJ.1 hc';exact h.bi x y z z' hz hz' hB
 simp only[St.map,I2 (AV.map _)] at hv;obtain ⟨y,hy,rfl⟩:=zJ.1 hv;exact AR.map _ (h.tm t y hy) λu c _ hc=>Qch hc
def St.demotes (s:St):List Nat->St
 | []=>s
 | k::r=>(s.map (Qmk k)).demotes r
theorem Sk:∀(l:List Nat) (s:St),Weak s (s.demotes l)
 | [],s=>Weak.refl s
 | k::r,s=>Weak.trans (OM k s) (Sk r _)
end
end
section
open Go.RowKit
def CX:Nat->List AV->List (Nat×AV)
 | _, []=> []
 | i,v::r=>(i,v)::CX (i+1) r
def BV (args:List AV):St:=⟨CX 0 args, []⟩
def IK (tt:List (Nat×TI)) (s:St):List ResultVar->Option (List AV)
 | []=>some []
 | .tmp t::r=>match get s.tm t,IK tt s r with
   | some v,some vs=>some (v::vs)
   | _,_=>none
 | .cell a t::r=>match get s.tm a,get tt t,IK tt s r with
   | some (.one (.ptr k off)),some ti,some vs=>(match get s.bx k with
     | some cells=>(match Qab ti ((cells.drop off).take ti.size) with
       | some v=>some (v::vs)
       | none=>none)
     | none=>none)
   | _,_,_=>none
def Qlb:AV->Option (Bool×List C)
 | .one c=>some (false, [c])
 | .agg cs=>some (true,cs)
 | .tup _=>none
def QS:List AV->Option (List (Bool×List C))
 | []=>some []
 | v::r=>match Qlb v,QS r with
   | some p,some ps=>some (p::ps)
   | _,_=>none
def Qci:List AV->Option AV
 | [v]=>some v
 | vs=>(QS vs).map .tup
def Qh8 (k:Nat):List Nat->Nat
 | []=>0
 | x::r=>bif zP x k then 0 else Qh8 k r+1
def Qm2 (ks:List Nat):C->C
 | .slc (.own b k) n l=> .slc (.own b (Qh8 k ks)) n l
 | c=>c
def Qjn:C->Bool
 | .int _ _=>true
 | .bool _=>true
 | .str _=>true
 | .slc .sh _ _=>true
 | .slc .emp _ _=>true
 | .slc (.own _ _) _ _=>true
 | _=>false
def QT (tt:List (Nat×TI)) (rs:List ResultVar) (s:St):Option AV:=
 match IK tt s rs with
 | some vs=>(match Qci vs with
   | some v=>bif Cw Qjn v.cells&&L8 (Q1 v.cells) then some (v.map (Qm2 (Q1 v.cells))) else none
   | none=>none)
 | none=>none
def Qf6 (tt:List (Nat×TI)) (rs:List ResultVar) (r:AV):Exit->St->Prop
 | .normal,s=>∃frz,QT tt rs (s.map (U0 (Yb frz) none))=some r
 | .ret,s=>∃frz,QT tt rs (s.map (U0 (Yb frz) none))=some r
 | _,_=>False
theorem Tj {tt:List (Nat×TI)} {rs:List ResultVar} {r b:AV} {s:St} (frz:List Nat) (h:QT tt rs (s.map (U0 (Yb frz) none))=some b) (e:b=r):Qf6 tt rs r .ret s:=⟨frz,e▸h⟩
def YH (tmps:Array Value):ResultVar->Sem Value
 | .tmp t=>pure (tmps.getD t undef)
 | .cell a t=>do loadVar t (←asAddr (tmps.getD a undef))
theorem Tk (fn:Func) (tmps:Array Value):results fn tmps=(do
 let vs←fn.results.mapM (YH tmps)
 pure (if h:vs.size=1 then vs[0] else .tuple vs)):=by
 unfold results
 congr 2
def ON (J:Inj) (ks:List Nat) (i:Nat):List Nat:=match ks[i]? with
 | some k=>J.L k
 | none=> []
theorem Rb {J:Inj} {ks:List Nat} {i b:Nat} (h:b∈ON J ks i):∃k,ks[i]? =some k/\b∈J.L k:=by
 unfold ON at h;split at h
 . rename_i k hk;exact ⟨k,hk,h⟩
 simp at h
section
variable {P:Program} {N:Nat} {w0:Base} {F0:Nat->Prop} {J:Inj} {a:Act} {w:World} {s:St}
theorem Sl:∀{args:List AV} {i t:Nat} {v:AV},get (CX i args) t=some v->i<=t/\args[t-i]? =some v
 | [],i,t,v,h=>by simp[CX,get] at h
 | x::r,i,t,v,h=>by
   simp only[CX,get] at h;split at h
   . rename_i e;subst e;exact ⟨zS _,by simpa using h⟩
   rename_i hne;obtain ⟨h1,h2⟩:=Sl h;refine ⟨by omega, ?_⟩;obtain ⟨j,hj⟩:∃j,t-i=j+1:=⟨t-i-1,by omega⟩;rw[hj,xG,show j=t-(i+1) by omega];exact h2
theorem YI {tt:List (Nat×TI)} (htt:Nj P tt=true) (hrel:Rel N w0 F0 J a w s):∀{rs:List ResultVar} {vs:List AV},IK tt s rs=some vs->
 ∃us:List Value,(rs.mapM (YH a.tmps)).run P w= .ok us w/\All2 (AR J w) us vs
 | [],vs,h=>by
   obtain rfl: []=vs:=by simpa [IK] using h
   exact ⟨[],by simp,.nil⟩
 | .tmp t::r,vs,h=>by
   simp only[IK] at h;split at h
   . rename_i v vs' e1 e2;obtain rfl:=zD h;obtain ⟨us,h1,h2⟩:=YI htt hrel e2;exact ⟨a.tmps.getD t undef::us,by simp[xP,YH,h1],.cons (hrel.tm t v e1) h2⟩
   cases h
 | .cell x t::r,vs,h=>by
   simp only[IK] at h;split at h
   . rename_i k off ti vs' e1 e2 e3;split at h
     . rename_i cells hk;split at h
       . rename_i v hval;obtain rfl:=zD h;obtain ⟨us,h1,h2⟩:=YI htt hrel e3;have hx:a.tmps.getD x undef= .pointer (some ⟨J.B k,off,none⟩):=hrel.tm x _ e1;obtain ⟨_,_,_,arr,e,hheap,hall⟩:=hrel.bo k cells hk
         have hc:∀(j:Nat) (u:Value),((arr.toList.drop off).take ti.size)[j]? =some u->w.cell? ⟨J.B k,off+j,none⟩=some u:=by
          have:=Gh (k:=ti.size) (Eb (w:=w) (vs:=arr.toList) (b:=J.B k) (off:=0) (k:=off) (λj u hj=>by
           rw[xM] at hj;simp[World.cell?,hheap,hj]))
          simpa using this
         obtain ⟨u,hu,hr⟩:=WW (P:=P) (Z7 htt e2) ((hall.drop off).take ti.size) hval hc;exact ⟨u::us,by simp[xP,YH,hx,asAddr,hu,h1],.cons hr h2⟩
       cases h
     cases h
   cases h
theorem ER:∀{vs:List AV} {ps:List (Bool×List C)} {us:List Value},QS vs=some ps->All2 (AR J w) us vs->All2 (VA J w) us ps
 | [],ps,us,h,hu=>by
   obtain rfl: []=ps:=by simpa [QS] using h
   cases hu
   exact .nil
 | v :: r,ps,us,h,hu=>by
   simp only[QS] at h;split at h
   . rename_i p ps' e1 e2;obtain rfl:=zD h;cases hu with
     | cons h1 h2=>
       refine .cons ?_ (ER e2 h2);cases v with
       | one c=>obtain rfl:=zD e1;exact ⟨c,rfl,h1⟩
       | agg cs=>obtain rfl:=zD e1;exact h1
       | tup l=>cases e1
   cases h
theorem YJ:∀{ks:List Nat} {k:Nat},k∈ks->ks[Qh8 k ks]? =some k
 | [],k,h=>by simp at h
 | x::r,k,h=>by
   simp only[Qh8];by_cases hx:x=k
   . subst hx;simp
   rw[CU hx];simp only[cond_false,xG];exact YJ ((zL.1 h).resolve_left λe=>hx e.symm)
theorem SC {w':World} {tt:List (Nat×TI)} (htt:Nj P tt=true) {fn:Func} {r:AV} (hrel:Rel N ⟨w,λ_=>False,none⟩ F0 J a w' s) (h:QT tt fn.results.toList s=some r):∃v,(results fn a.tmps).run P w'= .ok v w'/\Qk0 F0 w r (.returned v) w':=by
 unfold QT at h;split at h
 . rename_i vs hvs;split at h
   . rename_i x hx;cases hc:(Cw Qjn x.cells&&L8 (Q1 x.cells)) with
     | false=>rw[hc] at h;cases h
     | true =>
       rw[hc] at h;obtain rfl:=zD h;simp only[zI] at hc;obtain ⟨hok,hnd⟩:=hc;have hnd:=Nd.1 hnd;obtain ⟨us,hrun,hall⟩:=YI (P:=P) htt hrel hvs
       have hres:∃v,(results fn a.tmps).run P w'= .ok v w'/\AR J w' v x:=by
        have hm:(fn.results.mapM (YH a.tmps)).run P w'= .ok us.toArray w':=by
         rw[yK];simp[hrun]
        have hgen:(results fn a.tmps).run P w'= .ok (if h:us.toArray.size=1 then us.toArray[0] else .tuple us.toArray) w':=by
         rw[Tk];simp only[Sem.run_bind,hm,Result.andThen_ok,Sem.run_pure]
        cases hall with
        | nil=>
          obtain rfl:AV.tup []=x:=by simpa [Qci,QS] using hx
          exact ⟨.tuple #[],by rw[hgen];simp, [],rfl,.nil⟩
        | cons h1 h2=>
          cases h2 with
          | nil=>
            obtain rfl:=zD hx;exact ⟨_,by rw[hgen];simp,h1⟩
          | cons h2 h3=>
            obtain ⟨ps,hps,rfl⟩:=zJ.1 hx;exact ⟨_,by rw[hgen];simp,_,rfl,ER hps (.cons h1 (.cons h2 h3))⟩
       obtain ⟨v,hv,hvr⟩:=hres;refine ⟨v,hv,v,ON J (Q1 x.cells),rfl,hrel.below.below (λ_ h=>h),λi=> ?_,λi b hb=> ?_,λi i' b hb hb'=> ?_, ?_⟩
       . unfold ON;split
         . exact hrel.nd _
         simp
       . obtain ⟨k,_,hm⟩:=Rb hb;exact ⟨(hrel.lo k b hm).1.elim id False.elim,(hrel.lo k b hm).2.1⟩
       . obtain ⟨k,hk,hm⟩:=Rb hb;obtain ⟨k',hk',hm'⟩:=Rb hb';have:=hrel.dj k k' b hm hm';subst this;obtain ⟨l1,e1⟩:=zF.1 hk;obtain ⟨l2,e2⟩:=zF.1 hk';rcases xF i i' with hlt | he | hlt
         . exact absurd (e1.trans e2.symm) (yC.1 hnd i i' l1 l2 hlt)
         . exact he
         exact absurd (e2.trans e1.symm) (yC.1 hnd i' i l2 l1 hlt)
       refine AR.map _ hvr λu c hcm hcr=> ?_
       have hF:∀b,J.F b->(F0 b\/(w.heap.size<=b/\b<w'.heap.size/\∀i,b∉ON J (Q1 x.cells) i)):=λb hb=>by
        obtain ⟨h1,h2⟩:=hrel.fl b hb;refine h2.imp id λh2=>⟨h2.elim id False.elim,h1,λi hm=> ?_⟩
        obtain ⟨k,_,hm⟩:=Rb hm;exact (hrel.lo k b hm).2.2 hb
       have hfo:=B5 hok c hcm;cases c with
       | int | bool | str=>exact hcr
       | slc t n l=>
         cases t with
         | emp=>exact hcr
         | sh=>exact VV.keep (λb hb=>⟨hF b hb,rfl⟩) hcr
         | vw k=>cases hfo
         | put=>exact hcr.elim
         | own b k=>
           cases b with
           | false=>
             show OwnTop _ (ON J (Q1 x.cells) (Qh8 k (Q1 x.cells))) w' u _ _;unfold ON;rw[YJ (P6 hcm rfl)];exact OwnTop.keep (F:=J.F) hcr (λb hb=>⟨hF b hb,rfl⟩) λ_ _=>rfl
           | true=>
             show OwnDeep (ON J (Q1 x.cells) (Qh8 k (Q1 x.cells))) w' u _ _;unfold ON;rw[YJ (P6 hcm rfl)];exact hcr
       | _=>cases hfo
   cases h
 cases h
theorem Qcj {tt:List (Nat×TI)} (htt:Nj P tt=true) {f:Nat} {fn:Func} {c:Code} (hf:P.funcs[f]? =some fn) (hb:fn.body=some c) (hok:E9 P f) {args:List AV} {r:AV} (hn:args.length<=fn.ntmps)
 (h:∀w0 F0,GoodAt P w0->AWP P fn.ntmps w0 F0 c (Qf6 tt fn.results.toList r) (BV args)):ACalls P f args r:=by
 refine ⟨hok,λw hg F vals hF hall=>calls_of_wp hf hb ?_⟩;have hlen:=hall.length;refine wp_mono (h ⟨w,λ_=>False,none⟩ F (.of hg) (WE F) _ w ?_) ?_
 . refine {below:=Base.Keeps.refl _,nodef:=rfl,size:= ?_,fl:=λb hb=>⟨hF b hb,.inl hb⟩,f0:=λb hb=>hb,nd:=λk=>by simp[WE],lo:=λk b hb=>by simp[WE] at hb,dj:=λk k' b hb=>by simp[WE] at hb,bo:=λk c hc=>by simp[BV,get] at hc,nb:= .inl rfl,cb:=(λb hb=>by cases hb),bi:=λk k' c c' hc=>by simp[BV,get] at hc,tm:=λt v hv=> ?_}
   . simp;omega
   obtain ⟨_,ht⟩:=Sl hv;obtain ⟨u,hu,hr⟩:=hall.get' ht;have hlt:t<vals.length:=(zF.1 hu).1
   have:(vals.toArray++xJ (fn.ntmps-vals.toArray.size) undef).getD t undef=u:=by
    rw[zM,yG (by simpa using hlt)];simp at hu⊢;rw[hu];rfl
   rw[this];exact hr
 rintro e a' w' ⟨J',s',hR,hq⟩
 cases e with
 | normal=>
   obtain ⟨frz,hq⟩:=hq;obtain ⟨J'',hR⟩:=Fx frz rfl _ _ _ _ _ _ hR;obtain ⟨v,h1,h2⟩:=SC (P:=P) htt (fn:=fn) hR hq;exact ⟨hR.nodef,v,h1,h2⟩
 | ret=>
   obtain ⟨frz,hq⟩:=hq;obtain ⟨J'',hR⟩:=Fx frz rfl _ _ _ _ _ _ hR;obtain ⟨v,h1,h2⟩:=SC (P:=P) htt (fn:=fn) hR hq;exact ⟨hR.nodef,v,h1,h2⟩
 | _=>exact hq.elim
end
end
section
open Go.RowKit
open GoD (rd own)
class GoE (α:Type) extends GoD α where
 enc:α->List PV
 enc_len:∀a,(enc a).length=GoD.n α
 no_any:∀{a:α} {p:PV},p∈enc a->p≠ .any
 n_pos:0<GoD.n α
 /-- no list in it is longer than what any append makes -/
 wide:α->Prop
 wide_size:∀{a:α},GoD.size a<=1073741824->wide a
 vc_wide:∀{X:Nat->Prop} {w:World} {cs:List Value} {a:α},VC X w cs (enc a)->wide a
 rd_vc:∀{w:World} {cs:List Value} {a:α},rd w cs a->wide a->VC (λb=>b<w.heap.size) w cs (enc a)
 vc_rd:∀{X:Nat->Prop} {w:World} {cs:List Value} {a:α},VC X w cs (enc a)->rd w cs a
 own_oc:∀{L:List Nat} {w:World} {cs:List Value} {a:α},own L w cs a->wide a->OC w L cs (enc a)
 oc_own:∀{L:List Nat} {w:World} {cs:List Value} {a:α},OC w L cs (enc a)->L.Nodup->own L w cs a
open GoE (enc wide)
instance instGoEInt:GoE Int where
 enc a:= [.int .i64 a]
 no_any h:=by rw[zX.1 h];simp
 enc_len _:=rfl
 n_pos:=yF
 wide _:=True
 wide_size _:=trivial
 vc_wide _:=trivial
 rd_vc h _:=by obtain ⟨rfl,h⟩:=h;exact .cons (.int ((JO _).2 h)) .nil
 vc_rd h:=by
  cases h with
  | cons h1 h2=>cases h2;cases h1;exact ⟨rfl,(JO _).1 ‹_›⟩
 own_oc h _:=by obtain ⟨rfl,rfl,h⟩:=h;exact OC.cons (L1:= []) (L2:= []) (.int ((JO _).2 h)) .nil
 oc_own h _:=by
  cases h with
  | cons h1 h2=>cases h2;cases h1;exact ⟨rfl,rfl,(JO _).1 ‹_›⟩
instance instGoEBool:GoE Bool where
 enc a:= [.bool a]
 no_any h:=by rw[zX.1 h];simp
 enc_len _:=rfl
 n_pos:=yF
 wide _:=True
 wide_size _:=trivial
 vc_wide _:=trivial
 rd_vc h _:=by rw[show _=_ from h];exact .cons (.bool _) .nil
 vc_rd h:=by
  cases h with
  | cons h1 h2=>cases h2;cases h1;rfl
 own_oc h _:=by obtain ⟨rfl,rfl⟩:=h;exact OC.cons (L1:= []) (L2:= []) (.bool _) .nil
 oc_own h _:=by
  cases h with
  | cons h1 h2=>cases h2;cases h1;exact ⟨rfl,rfl⟩
instance instGoEStr:GoE ByteArray where
 enc a:= [.str a]
 no_any h:=by rw[zX.1 h];simp
 enc_len _:=rfl
 n_pos:=yF
 wide _:=True
 wide_size _:=trivial
 vc_wide _:=trivial
 rd_vc h _:=by obtain ⟨rfl,h⟩:=h;exact .cons (.str h) .nil
 vc_rd h:=by
  cases h with
  | cons h1 h2=>cases h2;cases h1;exact ⟨rfl,‹_›⟩
 own_oc h _:=by obtain ⟨rfl,rfl,h⟩:=h;exact OC.cons (L1:= []) (L2:= []) (.str h) .nil
 oc_own h _:=by
  cases h with
  | cons h1 h2=>cases h2;cases h1;exact ⟨rfl,rfl,‹_›⟩
theorem VC.split {X:Nat->Prop} {w:World}:∀{ps ps':List PV} {vs:List Value},VC X w vs (ps++ps')->∃vs1 vs2,vs=vs1++vs2/\VC X w vs1 ps/\VC X w vs2 ps'
 | [],ps',vs,h=>⟨[],vs,rfl,.nil,h⟩
 | p ::ps,ps',vs,h=>by
   generalize hq:p::ps++ps'=q at h;cases h with
   | nil=>cases hq
   | cons h1 h2=>
     cases hq
     obtain ⟨vs1,vs2,rfl,h3,h4⟩:=VC.split h2;exact ⟨_,vs2,rfl,.cons h1 h3,h4⟩
instance instGoEProd {α β:Type} [GoE α] [GoE β]:GoE (α×β) where
 enc p:=enc p.1++enc p.2
 no_any h:=(zV.1 h).elim GoE.no_any GoE.no_any
 enc_len p:=by rw[yO,GoE.enc_len,GoE.enc_len];rfl
 n_pos:=yP (GoE.n_pos (α:=α)) (yV _ _)
 wide p:=wide p.1/\wide p.2
 wide_size h:=⟨GoE.wide_size (zU (yV _ _) h),GoE.wide_size (zU (Nat.le_add_left _ _) h)⟩
 vc_wide h:=by
  obtain ⟨c1,c2,rfl,h1,h2⟩:=VC.split h;exact ⟨GoE.vc_wide h1,GoE.vc_wide h2⟩
 rd_vc h hw:=by
  obtain ⟨c1,c2,rfl,h1,h2⟩:=h;exact VC.append (GoE.rd_vc h2 hw.2) (GoE.rd_vc h1 hw.1)
 vc_rd h:=by
  obtain ⟨c1,c2,rfl,h1,h2⟩:=VC.split h;exact ⟨c1,c2,rfl,GoE.vc_rd h1,GoE.vc_rd h2⟩
 own_oc h hw:=by
  obtain ⟨_,c1,c2,L1,L2,rfl,rfl,h1,h2⟩:=h;exact OC.append (GoE.own_oc h2 hw.2) (GoE.own_oc h1 hw.1)
 oc_own h hn:=by
  obtain ⟨L1,L2,c1,c2,rfl,rfl,h1,h2⟩:=OC.split h;obtain ⟨n1,n2,_⟩:=List.nodup_append.1 hn;exact ⟨hn,c1,c2,L1,L2,rfl,rfl,GoE.oc_own h1 n1,GoE.oc_own h2 n2⟩
def eL {α:Type} [GoE α] (l:List α):List (List PV):=l.map enc
section
variable {α:Type} [GoE α]
theorem ES (a:α) (l:List α):eL (a::l)=enc a::eL l:=rfl
theorem Qck (l m:List α):eL (l++m)=eL l++eL m:=by simp[eL]
theorem Zu (l:List α):(eL l).length=l.length:=by simp[eL]
theorem Qjo (l:List α) (k:Nat):(eL l).take k=eL (l.take k):=by simp[eL]
theorem Qjp (l:List α) (k:Nat):(eL l).drop k=eL (l.drop k):=by simp[eL]
theorem Qcl {l:List α} {i:Nat} {a:α} (h:l[i]? =some a):(eL l)[i]? =some (enc a):=by simp[eL,h]
theorem Qcm {w:World} {X:Nat->Prop} {b off:Nat}:∀(l:List α),(∀i a,l[i]? =some a->∃ce:List Value,ce.length=GoD.n α/\(∀j v,ce[j]? =some v->w.cell? ⟨b,off+i*GoD.n α+j,none⟩=some v)/\VC X w ce (enc a))->
 ∃cs,(∀(j:Nat) (u:Value),cs[j]? =some u->w.cell? ⟨b,off+j,none⟩=some u)/\VR X w (GoD.n α) cs (eL l)
 | [],_=>⟨[],by simp,.nil _⟩
 | a ::l,h=>by
   obtain ⟨ce,h1,h2,h3⟩:=h 0 a rfl
   obtain ⟨cs,h4,h5⟩:=Qcm (b:=b) (off:=off+GoD.n α) l λi x hx=>by
    obtain ⟨c,k1,k2,k3⟩:=h (i+1) x (by simpa using hx);refine ⟨c,k1,λj v hj=> ?_,k3⟩;have:=k2 j v hj;rw[zW,yE] at this;rw[show off+GoD.n α+i*GoD.n α+j=off+(i*GoD.n α+GoD.n α)+j by omega];exact this
   refine ⟨ce++cs,λj u hj=> ?_,.cons h3 (GoE.enc_len a) h5⟩;rcases xV j ce.length with hlt | hge
   . rw[yL hlt] at hj;have:=h2 j u hj;simpa using this
   rw[yH hge] at hj;have:=h4 _ u hj;rw[show off+GoD.n α+(j-ce.length)=off+j by omega] at this;exact this
theorem SD {w:World}:∀(l:List α) (Ls:List (List Nat)) (cs:List Value),(∀a,a∈l->wide a)->Ls.length=l.length->cs.length=l.length*GoD.n α->(∀i Li a,Ls[i]? =some Li->l[i]? =some a->own Li w ((cs.drop (i*GoD.n α)).take (GoD.n α)) a)->OR w (GoD.n α) Ls.flatten cs (eL l)
 | [],Ls,cs,_,h1,h2,_=>by
   obtain rfl:Ls= []:=zN h1;obtain rfl:cs= []:=zN (by simpa using h2);exact .nil _
 | a::l, [],cs,_,h1,_,_=>by simp at h1
 | a ::l,Li::Ls,cs,hw,h1,h2,h=>by
   have h0:=h 0 Li a rfl rfl;rw[Nat.zero_mul,List.drop_zero] at h0
   have hr:=SD l Ls (cs.drop (GoD.n α)) (λx hx=>hw x (zR _ hx)) (by simpa using h1) (by rw[List.length_drop,h2,yU,zW,yE];omega) λi Lj x hi hx=>by
    have:=h (i+1) Lj x (by simpa using hi) (by simpa using hx);rw[zW,yE,Nat.add_comm,←xB] at this;exact this
   rw[←List.take_append_drop (GoD.n α) cs];exact .cons (GoE.own_oc h0 (hw a yA)) (GoE.enc_len a) hr
theorem SE {w:World}:∀(l:List α) (L:List Nat) (cs:List Value),OR w (GoD.n α) L cs (eL l)->L.Nodup->∃Ls:List (List Nat),L=Ls.flatten/\Ls.length=l.length/\∀i Li a,Ls[i]? =some Li->l[i]? =some a->own Li w ((cs.drop (i*GoD.n α)).take (GoD.n α)) a
 | [],L,cs,h,_=>by cases h;exact ⟨[],rfl,rfl,by simp⟩
 | a :: l,L,cs,h,hn=>by
   cases h with
   | @cons _ L1 L2 ce cs' _ _ h1 h2 h3=>
     obtain ⟨n1,n2,_⟩:=List.nodup_append.1 hn;obtain ⟨Ls,rfl,e2,e3⟩:=SE l L2 cs' h3 n2;have hce:ce.length=GoD.n α:=by rw[h1.length,GoE.enc_len]
     refine ⟨L1::Ls,rfl,by simp[e2],λi Li x hi hx=> ?_⟩;cases i with
     | zero=>
       simp at hi hx;subst hi hx;rw[Nat.zero_mul,List.drop_zero,←hce,List.take_left];exact GoE.oc_own h1 n1
     | succ i=>
       have:=e3 i Li x (by simpa using hi) (by simpa using hx);rw[zW,yE,Nat.add_comm,←xB,←hce,List.drop_left,hce];exact this
def Qf7 (l:List α):Prop:=l.length<=1073741824/\∀a,a∈l->wide a
theorem Qh9 {w:World} {v:Value} {l:List α} (h:rdS w [v] l) (hw:Qf7 l):VV (λb=>b<w.heap.size) w v (.slc (GoD.n α) (eL l)):=by
 obtain ⟨oa,cap,e,hl,hm,hel⟩:=h;obtain rfl:v=_:=by simpa using e
 cases hlc:l with
 | nil=>exact .emp oa _ hm
 | cons a l'=>
   obtain ⟨b,off,ce0,hoa,hc0,hcell,hrd0⟩:=hel 0 a (by rw[hlc];rfl);subst hoa
   obtain ⟨cs,h1,h2⟩:=Qcm (X:=λb=>b<w.heap.size) (w:=w) (b:=b) (off:=off) l λi x hx=>by
    obtain ⟨b',off',ce,e',k1,k2,k3⟩:=hel i x hx;obtain ⟨rfl,rfl⟩:b=b'/\off=off':=by simpa using e'
    exact ⟨ce,k1,k2,GoE.rd_vc k3 (hw.2 x (yI hx))⟩
   rw[←hlc,←Zu (l:=l)];refine .slc ?_ h1 h2 (by rw[Zu];exact hl) ⟨hm,by rw[Zu];exact hw.1⟩;have hnp:=GoE.n_pos (α:=α);have:=hcell 0 ce0[0] (zK (by omega));exact World.block_lt_of_cell? _ _ this
theorem Qia {X:Nat->Prop} {w:World} {v:Value} {l:List α} (h:VV X w v (.slc (GoD.n α) (eL l))):rdS w [v] l:=by
 generalize hp:PV.slc (GoD.n α) (eL l)=p at h;cases h with
 | int | bool | str | any=>cases hp
 | @emp oa cap n hcap=>
   simp only[PV.slc.injEq] at hp
   have:l= []:=by
    cases l with
    | nil=>rfl
    | cons a l=>simp[eL] at hp
   subst this;exact ⟨oa,cap,rfl,yW _,hcap,by simp⟩
 | @slc b off cap n cs l' hb hc hr h1 h2=>
   simp only[PV.slc.injEq] at hp;obtain ⟨rfl,rfl⟩:=hp;refine ⟨_,cap,by rw[Zu],by simpa [Zu] using h1,h2.1,λi a hi=>⟨b,off,(cs.drop (i*GoD.n α)).take (GoD.n α),rfl, ?_, ?_, ?_⟩⟩
   . exact (hr.get (Qcl hi)).1.length.trans (GoE.enc_len a)
   . exact Gh (Eb hc)
   exact GoE.vc_rd (hr.get (Qcl hi)).1
theorem Qcn {L:List Nat} {w:World} {v:Value} {l:List α} (h:Qk4 L w [v] l) (hw:Qf7 l):OV w L v (.slc (GoD.n α) (eL l)):=by
 obtain ⟨hnd,⟨rfl,rfl,oa,e⟩ | ⟨g,cap,cur,e,Ls,hv,hg,hl,hm,hs,rfl,hLs,hel⟩⟩:=h
 . obtain rfl:v=_:=by simpa using e
   exact .emp oa _
 obtain rfl:v=_:=by simpa using hv
 rw[←Zu (l:=l)];refine .slc hg hs ?_ (by simpa [Zu] using hl) ⟨hm,by rw[Zu];exact hw.1⟩;have hroom:l.length*GoD.n α<=cur.size:=by rw[hs];exact yD _ hl
 refine SD l Ls _ hw.2 hLs (by simp[Zu];omega) λi Li a hi ha=> ?_
 have hlt:i<l.length:=(zF.1 ha).1;have:=hel i Li a hi ha
 rw[xQ,xR,Zu,xK (by
  have:=yD (GoD.n α) (show i+1<=l.length by omega);rw[zW,yE] at this;omega)]
 exact this
theorem Qjq {L:List Nat} {w:World} {v:Value} {l:List α} (h:OV w L v (.slc (GoD.n α) (eL l))) (hn:L.Nodup):Qk4 L w [v] l:=by
 generalize hp:PV.slc (GoD.n α) (eL l)=p at h;cases h with
 | int | bool | str | any=>cases hp
 | emp oa n=>
   simp only[PV.slc.injEq] at hp
   have:l= []:=by
    cases l with
    | nil=>rfl
    | cons a l=>simp[eL] at hp
   subst this;exact ⟨by simp,.inl ⟨rfl,rfl,oa,rfl⟩⟩
 | @slc g cap n cur e L l' hg hs hr h1 h2=>
   simp only[PV.slc.injEq] at hp;obtain ⟨rfl,rfl⟩:=hp;obtain ⟨Ls,rfl,e2,e3⟩:=SE l L _ hr (List.nodup_cons.1 hn).2;refine ⟨hn,.inr ⟨g,cap,cur,e,Ls,by rw[Zu],hg,by simpa [Zu] using h1,h2.1,hs,rfl,e2,λi Li a hi ha=> ?_⟩⟩;have hlt:i<l.length:=(zF.1 ha).1;have:=e3 i Li a hi ha
   rw[xQ,xR,Zu,xK (by
    have:=yD (GoD.n α) (show i+1<=l.length by omega);rw[zW,yE] at this;omega)] at this
   exact this
theorem IL {X:Nat->Prop} {w:World}:∀{l:List α} {cs:List Value},VR X w (GoD.n α) cs (eL l)->∀a,a∈l->wide a
 | [],_,_,a,ha=>by simp at ha
 | x ::l,cs,h,a,ha=>by
   cases h with
   | cons h1 h2 h3=>
     rcases zL.1 ha with rfl | ha
     . exact GoE.vc_wide h1
     exact IL h3 a ha
theorem QU {X:Nat->Prop} {w:World} {v:Value} {l:List α} (h:VV X w v (.slc (GoD.n α) (eL l))):Qf7 l:=by
 generalize hp:PV.slc (GoD.n α) (eL l)=p at h;cases h with
 | int | bool | str | any=>cases hp
 | emp oa n hcap=>
   simp only[PV.slc.injEq] at hp
   have:l= []:=by
    cases l with
    | nil=>rfl
    | cons a l=>simp[eL] at hp
   subst this;exact ⟨yW _,by simp⟩
 | @slc b off cap n cs l' hb hc hr h1 h2=>
   simp only[PV.slc.injEq] at hp;obtain ⟨rfl,rfl⟩:=hp;exact ⟨by have:=h2.2;rwa [Zu] at this,IL hr⟩
end
theorem VC.one {X:Nat->Prop} {w:World} {v:Value} {p:PV} (h:VC X w [v] [p]):VV X w v p:=by cases h;assumption
theorem OC.one {w:World} {L:List Nat} {v:Value} {p:PV} (h:OC w L [v] [p]):OV w L v p:=by
 generalize hv: [v]=vs at h;generalize hp: [p]=ps at h;cases h with
 | nil=>cases hv
 | cons h1 h2=>
   cases hv
   cases hp
   cases h2
   rw[yY];exact h1
theorem VC.one' {X:Nat->Prop} {w:World} {vs:List Value} {p:PV} (h:VC X w vs [p]):∃v,vs= [v]/\VV X w v p:=by
 cases h with
 | cons h1 h2=>cases h2;exact ⟨_,rfl,h1⟩
theorem OC.one' {w:World} {L:List Nat} {vs:List Value} {p:PV} (h:OC w L vs [p]):∃v,vs= [v]/\OV w L v p:=by
 obtain ⟨v,e⟩:∃v,vs= [v]:=by
  have:=h.length
  match vs,this with
  | [v],_=>exact ⟨v,rfl⟩
 subst e;exact ⟨v,rfl,h.one⟩
instance instGoEList {α:Type} [GoE α]:GoE (List α) where
 enc l:= [.slc (GoD.n α) (eL l)]
 no_any h:=by rw[zX.1 h];simp
 enc_len _:=rfl
 n_pos:=yF
 wide:=Qf7
 wide_size h:=⟨zU (EH _) h,λa ha=>by
  obtain ⟨i,hi⟩:=List.mem_iff_getElem?.1 ha;exact GoE.wide_size (zU (XX hi) h)⟩
 vc_wide hc:=by
  obtain ⟨v,rfl,h⟩:=VC.one' hc;exact QU h
 rd_vc h hw:=by
  have h:rdS _ _ _:=h;obtain ⟨oa,cap,rfl,_⟩:=id h;exact .cons (Qh9 h hw) .nil
 vc_rd hc:=by
  obtain ⟨v,rfl,h⟩:=VC.one' hc;exact Qia h
 own_oc h hw:=by
  have h:Qk4 _ _ _ _:=h;obtain ⟨oa,cap,rfl,_⟩:=RR h;have:=OC.cons (Qcn h hw) .nil;rw[yY] at this;exact this
 oc_own hc hn:=by
  obtain ⟨v,rfl,h⟩:=OC.one' hc;exact Qjq h hn
section
variable {X:Nat->Prop} {F:Nat->Prop} {w w':World} {L:Nat->List Nat}
end
section
variable {α:Type} [GoE α] {P:Program}
def Qjr (l:List α):AV:= .one (.slc .sh (GoD.n α) (eL l))
def Qk2 (l:List α):AV:= .one (.slc (.own true 0) (GoD.n α) (eL l))
def Qml (b:Bool):AV:= .one (.bool b)
theorem Qjs {w:World} {v:Value} {l:List α} (h:rd w [v] l) (hw:wide l):AR (WE λb=>b<w.heap.size) w v (Qjr l):=Qh9 h hw
theorem ACalls.run {f:Nat} {args:List AV} {r:AV} (h:ACalls P f args r) {w:World} [hg:Good P w] {vals:List Value} (hv:All2 (AR (WE λb=>b<w.heap.size) w) vals args):Calls P f vals.toArray w (Qk0 (λb=>b<w.heap.size) w r):=
 h.2 w hg _ vals (λ_ h=>h) hv
theorem Qf8 {w:World} {F:Nat->Prop} {b:Bool} {e:Ending} {w':World} (h:Qk0 F w (Qml b) e w'):Ret w (.bool b) e w':=by
 obtain ⟨v,L,rfl,hb,_,_,_,rfl⟩:=h;exact ⟨rfl,hb⟩
end
end
section
open Go.RowKit
open GoE (enc)
section
variable {A:Nat->List AV->AV->Prop} {T:TakeT}
theorem Qjt {P:Program} {w0:Base} [GoodAt P w0] {f:Nat} {args:List AV} {r:AV} (h:ACalls P f args r):(Ob.call f args r).holds (Jk P w0) T:=h.at
theorem QV {P:Program} {w0:Base} [GoodAt P w0] {f n:Nat} {l:List (List PV)} {args:List AV} {mix turn:Bool} {l':List (List PV)} (h:ATake P f n l args mix turn l'):(Ob.take f n l args mix turn l').holds A (U9 P w0):=h.at
theorem Xk {P:Program} {w0:Base} [GoodAt P w0] {f:Nat} {cs:List C} {args:List AV} {r:AV} {cs':List C} (h:AGive P f cs args r cs'):(Ob.give f cs args r cs').holds A (U9 P w0):=h.at
theorem Qlc {P:Program} {w0:Base} [GoodAt P w0] {f:Nat} {args:List AV} {cs:List C} (h:ANew P f args cs):(Ob.new f args cs).holds A (U9 P w0):=h.at
theorem Qmm {a b:AV} (h:a=b):(Ob.eq a b).holds A T:=h
theorem Ph {lo hi:Int} {n:Nat} (h:0<=lo/\lo<=hi/\hi<=n):(Ob.rng lo hi n).holds A T:=h
theorem YK {i:Int} {n:Nat} (h:0<=i/\i<n):(Ob.idx i n).holds A T:=h
theorem Cp {l:List (List PV)} (h:Ln l):(Ob.flat l).holds A T:=h
theorem Ey {n:Nat} (h:n<=1073741824):(Ob.len n).holds A T:=h
theorem Sm {n:Nat} (h:n<=maxLen):(Ob.slen n).holds A T:=h
theorem Qld {n:Int} (h:n≠0):(Ob.nz n).holds A T:=h
theorem Qib {k:IntKind} {n:Int} (h:InR k n):(Ob.inr k n).holds A T:=h
end
theorem Qo (k:Nat) (h:k<9223372036854775807):IntKind.i64.wrap ((k:Int)+1)=((k+1:Nat):Int):=by
 rw[IntWalk.i64_in _ (by omega)];rfl
theorem Xm {α:Type} {l:List α} {i:Nat} (h:i<l.length):∃x,l[i]? =some x:=⟨l[i],zK h⟩
class FlatE (α:Type) [GoE α]:Prop where
 flat:∀a:α,∀p,p∈enc a->p.flat
instance:FlatE Int:=⟨λa p hp=>by obtain rfl:=zX.1 hp;trivial⟩
instance:FlatE Bool:=⟨λa p hp=>by obtain rfl:=zX.1 hp;trivial⟩
instance:FlatE ByteArray:=⟨λa p hp=>by obtain rfl:=zX.1 hp;trivial⟩
instance {α β:Type} [GoE α] [GoE β] [FlatE α] [FlatE β]:FlatE (α×β):=⟨λa p hp=>(zV.1 hp).elim (FlatE.flat a.1 p) (FlatE.flat a.2 p)⟩
theorem B8 {α:Type} [GoE α] [FlatE α] (l:List α):Ln (eL l):=λr hr p hp=>by
 obtain ⟨a,_,rfl⟩:=yZ.1 hr;exact FlatE.flat a p hp
theorem Qic {α:Type} [GoD α] {l:List α} {i:Nat} {a:α} {N:Nat} (h:l[i]? =some a) (hs:GoD.size l<=N):GoD.size a<=N:=zU (XX h) hs
theorem Qle {α β:Type} [GoD α] [GoD β] {p:α×β} {N:Nat} (hs:GoD.size p<=N):GoD.size p.1<=N:=zU (yV _ _) hs
theorem Qlf {α β:Type} [GoD α] [GoD β] {p:α×β} {N:Nat} (hs:GoD.size p<=N):GoD.size p.2<=N:=zU (Nat.le_add_left _ _) hs
section
variable {P:Program} {α β:Type} [GoE α] [GoE β]
theorem Nn {f:Nat} (hok:E9 P f) {l:List α} {r:List β} (h:∀w v,GoD.rd w [v] l->GoE.wide l->Calls P f #[v] w (RetS w r)) (hw:GoE.wide l->GoE.wide r):ACalls P f [Qjr l] (Qk2 r):=by
 refine ⟨hok,λw _ F vals hF hall=> ?_⟩;cases hall with
 | cons h1 h2=>
   cases h2
   refine (h w _ (Qia h1) (QU h1)).mono ?_
   rintro e w' ⟨v,L,rfl,hb,ho,hL⟩
   have hlt:=GoD.own_lt ho
   have hmem:∀k b,b∈(if k=0 then L else [])->k=0/\b∈L:=λk b hm=>by
    by_cases hk:k=0
    . rw[if_pos hk] at hm;exact ⟨hk,hm⟩
    rw[if_neg hk] at hm;simp at hm
   refine ⟨v,λk=>if k=0 then L else [],rfl,hb,λk=> ?_,λk b hm=>⟨hL b (hmem k b hm).2,hlt b (hmem k b hm).2⟩,λk k' b hm hm'=>(hmem k b hm).1.trans (hmem k' b hm').1.symm,OwnDeep.of (Qcn ho (hw (QU h1))) (GoD.own_nd ho)⟩;by_cases hk:k=0
   . simp only[if_pos hk];exact GoD.own_nd ho
   simp only[if_neg hk];exact yQ
end
theorem Hr {P:Program} {N:Nat} {w0:Base} {F0:Nat->Prop} {Q:Exit->St->Prop} {s s':St} {c:Code} (l:List Nat) (he:s.demotes l=s') (h:AWP P N w0 F0 c Q s'):AWP P N w0 F0 c Q s:=P9 (he▸Sk l s) h
theorem Jm {α:Type} [GoE α] {o:Nat} {ps:List PV} {y:α}:∀{l:List α} {i:Nat} {x:α},l[i]? =some x->(GoE.enc x).take o++ps++(GoE.enc x).drop (o+ps.length)=GoE.enc y->setRow (eL l) i o ps=eL (l.set i y)
 | [],i,x,h,_=>by simp at h
 | a::l,0,x,h,e=>by
   obtain rfl:a=x:=by simpa using h
   show ((GoE.enc a).take o++ps++(GoE.enc a).drop (o+ps.length))::eL l=_;rw[e];rfl
 | a::l,i+1,x,h,e=>by
   show GoE.enc a::setRow (eL l) i o ps=_;rw[Jm (l:=l) (i:=i) (x:=x) (by simpa using h) e];rfl
end
section
open Go.RowKit
def Pi:List Operand->List Nat
 | []=> []
 | .tmp t::r=>t::Pi r
 | _::r=>Pi r
def BW (ops:List Oper) (o:Oper):List Nat:=
 Pi o.op.operands.toList++(match o.guard with
  | some (j,_)=>(match ops[j]? with
    | some oj=>(match oj.dst with
      | some t=> [t]
      | none=> [])
    | none=> [])
  | none=> [])
def H0:List (Nat×Option Tok)->List Nat
 | []=> []
 | p::r=>p.1::H0 r
def NT:List (Nat×Option Tok)->List Tok
 | []=> []
 | (_,some t)::r=>t::NT r
 | _::r=>NT r
def ET:Tok->Tok->Bool
 | .sh,.sh=>true
 | .emp,.emp=>true
 | .own d k,.own d' k'=>(match d,d' with
   | true,true=>true
   | false,false=>true
   | _,_=>false)&&zP k k'
 | .vw k,.vw k'=>zP k k'
 | _,_=>false
def VJ:Tok->Bool
 | .put _ _ _ _ _=>false
 | _=>true
def R8:List (Nat×Option Tok)->Bool
 | []=>true
 | (_,some t)::r=>VJ t&&R8 r
 | (_,none)::r=>R8 r
def HI (t:Tok):List Tok->Bool
 | []=>false
 | x::r=>ET x t|| HI t r
def Qak (r:Res) (c:C):Bool:=
 (match c.key with
  | some k=> !(Se k (H0 r.rl))
  | none=>true)&&(match r.kb with
  | some b=> !(Se b c.bkeys)
  | none=>true)
def Qju (r:Res) (c:C):Bool:=
 R8 r.rl&&match c with
 | .dead=>false
 | .slc t _ _=> !(HI t (NT r.rl))
 | .rptr t _=> !(HI t (NT r.rl))
 | _=>true
def Qid (r:Res):Bool:=match r.rl,r.kb with
 | [],none=>true
 | _,_=>false
def Qfd (r:Res) (c:C):Bool:=Qid r|| Qju r c
def Oz:List (Nat×List C)->List C
 | []=> []
 | p::r=>p.2++Oz r
def Sn:List Tok->List Nat
 | []=> []
 | t::r=>(match t.key with
   | some k=> [k]
   | none=> [])++Sn r
def Qal (a b:Option Nat):Bool:=match a,b with
 | some x,some y=> !(zP x y)
 | _,_=>true
def Lp (a:Option Nat) (l:List Nat):Bool:=match a with
 | some x=> !(Se x l)
 | none=>true
def YL (r:Res):Option Nat:=match r.bx with
 | some p=>some p.1
 | none=>none
def EU (r:Res):List C:=match r.bx with
 | some p=>p.2
 | none=> []
def Qco (ops:List Oper) (oa:Oper) (ra:Rec) (ob:Oper) (rb:Rec):Bool:=
 Qal oa.dst ob.dst&&Lp oa.dst (BW ops ob)&&Lp ob.dst (BW ops oa)&&
 Cw (Qfd ra.res) (Y1 rb.avs)&&Cw (Qfd ra.res) (Oz rb.bn)&&Cw (Qak rb.res) (Y1 ra.avs)&&Cw (Qak rb.res) (Oz ra.bn)&&
 Cw (Qak ra.res) rb.res.av.cells&&Cw (Qak ra.res) (EU rb.res)&&Cw (Qak rb.res) ra.res.av.cells&&Cw (Qak rb.res) (EU ra.res)&&
 P4 (H0 ra.res.rl) (H0 rb.res.rl++Sn (NT rb.res.rl))&&P4 (H0 rb.res.rl) (Sn (NT ra.res.rl))&&
 Qal (YL ra.res) (YL rb.res)&&Lp (YL ra.res) (Sj (Y1 rb.avs))&&Lp (YL rb.res) (Sj (Y1 ra.avs))&&R8 ra.res.rl&&R8 rb.res.rl
section
theorem AV.map_map (f g:C->C) (v:AV):(v.map f).map g=v.map (g ∘ f):=by
 cases v<;>simp[AV.map,Function.comp_def]
theorem AV.map_id' {f:C->C} {v:AV} (h:∀c,c∈v.cells->f c=c):v.map f=v:=by
 cases v with
 | one c=>simp[AV.map,h c (by simp[AV.cells])]
 | agg cs=>
   simp only[AV.map]
   congr 1
   exact (zY λc hc=>h c hc).trans (xA cs)
 | tup l=>
   simp only[AV.map]
   congr 1
   refine (zY λp hp=> ?_).trans (xA l);obtain ⟨a,cs⟩:=p;have:cs.map f=cs:=(zY λc hc=>h c (by simp only[AV.cells,xH];exact ⟨_,hp,hc⟩)).trans (xA cs);simp[this]
theorem AV.map_inj' {f:C->C} {v u:AV} (h:v.map f=u) (hn:∀c0 c,f c0=c->c∈u.cells->c0=c):v=u:=by
 have key:∀(l m:List C),l.map f=m->(∀c,c∈m->c∈u.cells)->l=m:=by
  intro l
  induction l with
  | nil=>intro m h _;exact h
  | cons c l ih=>
    intro m h hm;cases m with
    | nil=>cases h
    | cons d m=>
      simp only[zZ,List.cons.injEq] at h;rw[hn c d h.1 (hm d (by simp)),ih m h.2 λc hc=>hm c (by simp[hc])]
 cases v with
 | one c=>
   simp only[AV.map] at h;subst h;exact congrArg AV.one (hn c _ rfl (by simp[AV.cells]))
 | agg cs=>
   simp only[AV.map] at h;subst h;exact congrArg AV.agg (key cs _ rfl λc hc=>hc)
 | tup l=>
   simp only[AV.map] at h;subst h
   congr 1
   have :∀(ps:List (Bool×List C)),(∀p,p∈ps->p∈l)->ps=ps.map λp=>(p.1,p.2.map f):=by
    intro ps
    induction ps with
    | nil=>intro _;rfl
    | cons p ps ih=>
      intro hp;obtain ⟨a,cs⟩:=p;simp only[zZ];rw[←ih λp hq=>hp p (by simp[hq])]
      congr 2
      exact key cs _ rfl λc hc=>by
       simp only[AV.cells,xH,yZ];exact ⟨(a,cs.map f),⟨(a,cs),hp _ (by simp),rfl⟩,hc⟩
   exact this l λp hp=>hp
theorem Gi {rl:List (Nat×Option Tok)} {k:Nat}:k∉H0 rl->get rl k=none:=by
 induction rl with
 | nil=>intro _;rfl
 | cons p r ih=>
   intro h;simp only[H0,zL,not_or] at h;obtain ⟨a,b⟩:=p;simp only[get];rw[if_neg λe=>h.1 e.symm];exact ih h.2
theorem WY {rl:List (Nat×Option Tok)} {k:Nat} {t:Tok}:get rl k=some (some t)->t∈NT rl/\k∈H0 rl:=by
 induction rl with
 | nil=>intro h;cases h
 | cons p r ih=>
   intro h;obtain ⟨a,b⟩:=p;simp only[get] at h;split at h
   . rename_i e;obtain rfl:=zD h;exact ⟨by simp[NT],by simp[H0,e]⟩
   obtain ⟨h1,h2⟩:=ih h;refine ⟨?_,by simp[H0,h2]⟩;cases b<;>simp[NT,h1]
theorem IM (t:Tok) (ht:VJ t=true):ET t t=true:=by
 cases t with
 | own d k=>cases d<;>simp[ET]
 | put=>cases ht
 | _=>simp[ET]
theorem JX {t:Tok} (ht:VJ t=true):∀{l:List Tok},t∈l->HI t l=true
 | x::r,h=>by
   rcases zL.1 h with rfl | h
   . simp[HI,IM t ht]
   simp[HI,JX ht h]
theorem So {rl:List (Nat×Option Tok)} {k:Nat} {t:Tok} (hp:R8 rl=true):get rl k=some (some t)->VJ t=true:=by
 induction rl with
 | nil=>intro h;cases h
 | cons p r ih=>
   intro h;obtain ⟨a,b⟩:=p
   have hr:R8 r=true/\(∀t,b=some t->VJ t=true):=by
    cases b with
    | none=>exact ⟨hp,λt e=>by cases e⟩
    | some t=>simp only[R8,zI] at hp;exact ⟨hp.2,λt' e=>by cases e;exact hp.1⟩
   simp only[get] at h;split at h
   . exact hr.2 t (zD h)
   exact ih hr.1 h
theorem HJ (t:Tok) (n:Nat) (l:List (List PV)):UL t n l t= .slc t n l:=by cases t<;>rfl
theorem CY (t:Tok) (cs:List PV):NW t cs t= .rptr t cs:=by cases t<;>rfl
theorem Qam {t':Tok} (h:VJ t'=true) (t:Tok) (n:Nat) (l:List (List PV)):UL t n l t'= .slc t' n l:=by cases t'<;>first | rfl | cases h
theorem Qcp {t':Tok} (h:VJ t'=true) (t:Tok) (cs:List PV):NW t cs t'= .rptr t' cs:=by cases t'<;>first | rfl | cases h
theorem CZ {rl:List (Nat×Option Tok)} (hp:R8 rl=true) {t t':Tok} (h:Mx rl t=some t'):t'=t\/VJ t'=true:=by
 unfold Mx at h;split at h
 . exact .inl (zD h).symm
 split at h
 . exact .inl (zD h).symm
 rename_i x hg;subst h;exact .inr (So hp hg)
theorem JY {rl:List (Nat×Option Tok)} (hp:R8 rl=true) {t t':Tok} (h:Mx rl t=some t') (n:Nat) (l:List (List PV)):UL t n l t'= .slc t' n l:=by
 rcases CZ hp h with rfl | h
 . exact HJ _ n l
 exact Qam h t n l
theorem HK {rl:List (Nat×Option Tok)} (hp:R8 rl=true) {t t':Tok} (h:Mx rl t=some t') (cs:List PV):NW t cs t'= .rptr t' cs:=by
 rcases CZ hp h with rfl | h
 . exact CY _ cs
 exact Qcp h t cs
theorem JZ {t:Tok} {k:Nat} (hk:t.key=some k):∀{l:List Tok},t∈l->k∈Sn l
 | x::r,h=>by
   simp only[Sn];rcases zL.1 h with rfl | h
   . exact zT _ (by rw[hk];simp)
   exact zQ _ (JZ hk h)
theorem Gj {k:Nat} {l:List Nat} (h:Se k l=false):k∉l:=λhm=>by rw[Ec.2 hm] at h;cases h
theorem DA {b:Nat}:∀{caps:List (Nat×Nat)},b∉caps.map (·.1)->Pe b caps=false
 | [],_=>rfl
 | c::r,h=>by
   simp only[zZ,zL,not_or] at h;simp only[Pe,Bool.or_eq_false_iff];exact ⟨CU λe=>h.1 e.symm,DA h.2⟩
theorem Qcq {r:Res} {c:C} (h:Qak r c=true):U0 r.rl r.kb c=c:=by
 simp only[Qak,zI] at h;obtain ⟨h1,h2⟩:=h
 have hT:∀t:Tok,(match t.key with | some k=> !(Se k (H0 r.rl)) | none=>true)=true->Mx r.rl t=some t:=by
  intro t ht;unfold Mx;cases hk:t.key with
  | none=>rfl
  | some k=>
    rw[hk] at ht;simp only[zO] at ht;simp only[Gi (Gj ht)]
 cases c with
 | slc t n l=>simp only[U0,hT t h1,HJ]
 | rptr t cs=>simp only[U0,hT t h1,CY]
 | ept d k n i o cs=>
   have hk:get r.rl k=none:=Gi (Gj (by simpa [C.key] using h1));simp only[U0,hk]
 | ptr k off=>
   cases hb:r.kb with
   | none=>rfl
   | some b=>
     rw[hb] at h2;simp only[zO,C.bkeys] at h2;have:=Gj h2;simp only[U0,CU (a:=k) (b:=b) λe=>this (by simp[e]),cond_false]
 | fn f caps=>
   cases hb:r.kb with
   | none=>rfl
   | some b=>
     rw[hb] at h2;simp only[zO,C.bkeys] at h2;simp only[U0,DA (Gj h2),cond_false]
 | _=>rfl
theorem Qf9 {r:Res} {c0 c:C} (h:U0 r.rl r.kb c0=c) (hn:Qju r c=true):c0=c:=by
 simp only[Qju,zI] at hn;obtain ⟨hp,hn⟩:=hn
 have hT:∀t t':Tok,Mx r.rl t=some t'->HI t' (NT r.rl)=false->t=t':=by
  intro t t' ht hm;unfold Mx at ht;cases hk:t.key with
  | none=>rw[hk] at ht;exact zD ht
  | some k=>
    rw[hk] at ht;simp only[] at ht;cases hg:get r.rl k with
    | none=>rw[hg] at ht;exact zD ht
    | some x=>
      rw[hg] at ht;simp only[] at ht;subst ht;rw[JX (So hp hg) (WY hg).1] at hm;cases hm
 cases c0 with
 | slc t n l=>
   simp only[U0] at h;split at h
   . rename_i t' ht;rw[JY hp ht] at h;subst h;simp only[zO] at hn;rw[hT t t' ht hn]
   subst h;cases hn
 | rptr t cs=>
   simp only[U0] at h;split at h
   . rename_i t' ht;rw[HK hp ht] at h;subst h;simp only[zO] at hn;rw[hT t t' ht hn]
   subst h;cases hn
 | ept d k n i o cs=>
   simp only[U0] at h;split at h
   . exact h
   . rename_i t' hg;have hm:=JX (So hp hg) (WY hg).1;split at h
     . subst h;simp[hm] at hn
     . subst h;simp[hm] at hn
     . cases So hp hg
     subst h;cases hn
   subst h;cases hn
 | ptr k off=>
   simp only[U0] at h;split at h
   . exact h
   rename_i b hb;cases hkb:zP k b with
   | true=>rw[hkb] at h;subst h;cases hn
   | false=>rw[hkb] at h;exact h
 | fn f caps=>
   simp only[U0] at h;split at h
   . exact h
   rename_i b hb;cases hkb:Pe b caps with
   | true=>rw[hkb] at h;subst h;cases hn
   | false=>rw[hkb] at h;exact h
 | _=>exact h
theorem KA:U0 [] none=id:=by
 funext c
 cases c with
 | slc t n l=>cases t<;>rfl
 | rptr t cs=>cases t<;>rfl
 | _=>rfl
theorem Qcr {r:Res} {c0 c:C} (h:U0 r.rl r.kb c0=c) (hn:Qfd r c=true):c0=c:=by
 simp only[Qfd,Bool.or_eq_true] at hn;rcases hn with hq | hn
 . have e:U0 r.rl r.kb=id:=by
    unfold Qid at hq;split at hq
    . rename_i e1 e2;rw[e1,e2,KA]
    cases hq
   rw[e] at h;exact h
 exact Qf9 h hn
theorem Qcs {ra rb:Res} (h1:P4 (H0 ra.rl) (H0 rb.rl++Sn (NT rb.rl))=true) (h2:P4 (H0 rb.rl) (Sn (NT ra.rl))=true) (p1:R8 ra.rl=true) (p2:R8 rb.rl=true) (c:C):U0 rb.rl rb.kb (U0 ra.rl ra.kb c)=U0 ra.rl ra.kb (U0 rb.rl rb.kb c):=by
 have hT :∀t:Tok,(Mx ra.rl t).bind (Mx rb.rl)=(Mx rb.rl t).bind (Mx ra.rl):=by
  have gen:∀(r r':Res),P4 (H0 r.rl) (H0 r'.rl)=true->P4 (H0 r'.rl) (Sn (NT r.rl))=true->∀(t:Tok) (k:Nat) (x:Option Tok),t.key=some k->get r.rl k=some x->(Mx r.rl t).bind (Mx r'.rl)=(Mx r'.rl t).bind (Mx r.rl):=by
   intro r r' d1 d2 t k x hk hx;have hka:k∈H0 r.rl:=yM λhn=>by rw[Gi hn] at hx;cases hx
   have hkb:get r'.rl k=none:=Gi (Gy d1 k hka);have e1:Mx r.rl t=x:=by unfold Mx;rw[hk];simp only[hx]
   have e2:Mx r'.rl t=some t:=by unfold Mx;rw[hk];simp only[hkb]
   rw[e1,e2];simp only[yJ,e1];cases x with
   | none=>rfl
   | some t'=>
     simp only[yJ];unfold Mx;cases hk':t'.key with
     | none=>rfl
     | some k'=>
       have hm:=JZ hk' (WY hx).1;have hn:k'∉H0 r'.rl:=λh=>Gy d2 k' h hm
       simp only[Gi hn]
  have d11:P4 (H0 ra.rl) (H0 rb.rl)=true:=by
   revert h1;generalize H0 ra.rl=l
   induction l with
   | nil=>intro _;rfl
   | cons x l ih=>
     intro h;simp only[P4,zI,zO] at h⊢;refine ⟨?_,ih h.2⟩;cases hm:Se x (H0 rb.rl) with
     | false=>rfl
     | true=>exact absurd (zT _ (Ec.1 hm)) (Gj h.1)
  have d12:P4 (H0 ra.rl) (Sn (NT rb.rl))=true:=by
   revert h1;generalize H0 ra.rl=l
   induction l with
   | nil=>intro _;rfl
   | cons x l ih=>
     intro h;simp only[P4,zI,zO] at h⊢;refine ⟨?_,ih h.2⟩;cases hm:Se x (Sn (NT rb.rl)) with
     | false=>rfl
     | true=>exact absurd (zQ _ (Ec.1 hm)) (Gj h.1)
  have d21:P4 (H0 rb.rl) (H0 ra.rl)=true:=by
   have hx:∀x,x∈H0 rb.rl->x∉H0 ra.rl:=λx hb ha=>Gy d11 x ha hb
   revert hx;generalize H0 rb.rl=l
   induction l with
   | nil=>intro _;rfl
   | cons x l ih=>
     intro hx;simp only[P4,zI,zO];refine ⟨?_,ih λy hy=>hx y (by simp[hy])⟩;cases hm:Se x (H0 ra.rl) with
     | false=>rfl
     | true=>exact absurd (Ec.1 hm) (hx x (by simp))
  intro t;cases hk:t.key with
  | none=>
    have e1:Mx ra.rl t=some t:=by unfold Mx;rw[hk]
    have e2:Mx rb.rl t=some t:=by unfold Mx;rw[hk]
    rw[e1,e2];simp[e1,e2]
  | some k=>
    cases ha:get ra.rl k with
    | some x=>exact gen ra rb d11 h2 t k x hk ha
    | none=>
      cases hb:get rb.rl k with
      | some x=>exact (gen rb ra d21 d12 t k x hk hb).symm
      | none=>
        have e1:Mx ra.rl t=some t:=by unfold Mx;rw[hk];simp only[ha]
        have e2:Mx rb.rl t=some t:=by unfold Mx;rw[hk];simp only[hb]
        rw[e1,e2];simp[e1,e2]
 have hs:∀(x y:List (Nat×Option Tok)),R8 x=true->R8 y=true->∀(kx ky:Option Nat) (t:Tok) (n:Nat) (l:List (List PV)),U0 y ky (U0 x kx (.slc t n l))=(match (Mx x t).bind (Mx y) with | some t'=> .slc t' n l | none=> .dead):=by
  intro x y px py kx ky t n l;simp only[U0];cases hx:Mx x t with
  | none=>rfl
  | some t'=>
    simp only[JY px hx,yJ];cases hy:Mx y t' with
    | none=>simp only[hy]
    | some t2=>simp only[hy,JY py hy]
 have hp:∀(x y:List (Nat×Option Tok)),R8 x=true->R8 y=true->∀(kx ky:Option Nat) (t:Tok) (cs:List PV),U0 y ky (U0 x kx (.rptr t cs))=(match (Mx x t).bind (Mx y) with | some t'=> .rptr t' cs | none=> .dead):=by
  intro x y px py kx ky t cs;simp only[U0];cases hx:Mx x t with
  | none=>rfl
  | some t'=>
    simp only[HK px hx,yJ];cases hy:Mx y t' with
    | none=>simp only[hy]
    | some t2=>simp only[hy,HK py hy]
 have he :∀(r r':Res),R8 r.rl=true->(∀x,x∈H0 r'.rl->x∉Sn (NT r.rl))->∀(d:Bool) (k n i o:Nat) (cs:List PV),get r'.rl k=none->U0 r'.rl r'.kb (U0 r.rl r.kb (.ept d k n i o cs))=U0 r.rl r.kb (U0 r'.rl r'.kb (.ept d k n i o cs)):=by
  intro r r' hnp dd d k n i o cs hg;have e1:U0 r'.rl r'.kb (.ept d k n i o cs)= .ept d k n i o cs:=by simp only[U0,hg]
  rw[e1];have key:∀y,U0 r.rl r.kb (.ept d k n i o cs)=y->U0 r'.rl r'.kb y=y->U0 r'.rl r'.kb (U0 r.rl r.kb (.ept d k n i o cs))=U0 r.rl r.kb (.ept d k n i o cs):=λy h1 h2=>by rw[h1,h2]
  cases hx:get r.rl k with
  | none=>exact key _ (by simp only[U0,hx]) e1
  | some x=>
    cases x with
    | none=>exact key .dead (by simp only[U0,hx]) rfl
    | some t'=>
      cases t' with
      | sh=>exact key (.rptr .sh cs) (by simp only[U0,hx]) rfl
      | vw k'=>
        have hm:=JZ (t:= .vw k') rfl (WY hx).1;have hn:get r'.rl k'=none:=Gi λh=>dd k' h hm
        exact key (.rptr (.vw k') cs) (by simp only[U0,hx]) (by simp only[U0,Mx,Tok.key,hn,NW])
      | put=>cases So hnp hx
      | emp | own=>exact key .dead (by simp only[U0,hx]) rfl
 cases c with
 | slc t n l=>rw[hs _ _ p1 p2,hs _ _ p2 p1,hT]
 | rptr t cs=>rw[hp _ _ p1 p2,hp _ _ p2 p1,hT]
 | ept d k n i o cs=>
   cases hg:get rb.rl k with
   | none=>exact he ra rb p1 (λx hx=>Gy h2 x hx) d k n i o cs hg
   | some x=>
     have hkb:k∈H0 rb.rl:=yM λhn=>by rw[Gi hn] at hg;cases hg
     have hga:get ra.rl k=none:=Gi λha=>Gy h1 k ha (zT _ hkb)
     exact (he rb ra p2 (λx hx hm=>Gy h1 x hx (zQ _ hm)) d k n i o cs hga).symm
 | ptr k off=>
   cases ra.kb with
   | none=>cases rb.kb with
     | none=>rfl
     | some y=>simp only[U0];cases h1:zP k y<;>simp[U0]
   | some x=>
     cases rb.kb with
     | none=>simp only[U0];cases h1:zP k x<;>simp[U0]
     | some y=>simp only[U0];cases h1:zP k x<;>cases h2:zP k y<;>simp[U0,h1,h2]
 | fn f caps=>
   cases ra.kb with
   | none=>cases rb.kb with
     | none=>rfl
     | some y=>simp only[U0];cases h1:Pe y caps<;>simp[U0]
   | some x=>
     cases rb.kb with
     | none=>simp only[U0];cases h1:Pe x caps<;>simp[U0]
     | some y=>simp only[U0];cases h1:Pe x caps<;>cases h2:Pe y caps<;>simp[U0,h1,h2]
 | _=>rfl
def M (r:Res) (v:AV):AV:=v.map (U0 r.rl r.kb)
def ML (r:Res) (l:List C):List C:=l.map (U0 r.rl r.kb)
theorem O0 (s:St) (dst:Option Nat) (r:Res) (t:Nat):get (s.step dst r).tm t=if dst=some t then some r.av else (get s.tm t).map (M r):=by
 have h:get (match r.rl,r.kb with | [],none=>s | rl,kb=>s.map (U0 rl kb)).tm t=(get s.tm t).map (M r):=by
  unfold M;split
  . rename_i e1 e2;rw[e1,e2,KA];cases get s.tm t with
    | none=>rfl
    | some v=>rw[zG,AV.map_id' (f:=id) λc _=>rfl]
  simp only[St.map,I2 (AV.map _)]
 cases dst with
 | none=>simp only[St.step];rw[if_neg (by simp)];exact h
 | some d=>
   simp only[St.step,QK,yR];split
   . rfl
   exact h
theorem QW (s:St) (dst:Option Nat) (r:Res) (k:Nat):get (s.step dst r).bx k=if YL r=some k then some (EU r) else (get s.bx k).map (ML r):=by
 have h:get (match r.rl,r.kb with | [],none=>s | rl,kb=>s.map (U0 rl kb)).bx k=(get s.bx k).map (ML r):=by
  unfold ML;split
  . rename_i e1 e2;rw[e1,e2,KA];cases get s.bx k<;>simp
  simp only[St.map,I2 (xN _)]
 unfold YL EU;simp only[St.step];cases r.bx with
 | none=>simp only[];rw[if_neg (by simp)];exact h
 | some p=>
   obtain ⟨x,y⟩:=p;simp only[QK,yR];split
   . rfl
   exact h
section
variable {tt:List (Nat×TI)} {N:Nat} {orc:Orc} {ops:List Oper}
structure SameLooks (ops:List Oper) (o:Oper) (s t:St):Prop where
 tm:∀x,x∈BW ops o->get s.tm x=get t.tm x
 bx:∀vs,L9 s o.op.operands.toList=some vs->∀k,k∈Sj (Y1 vs)->get s.bx k=get t.bx k
theorem DB {s t:St}:∀{xs:List Operand},(∀x,x∈Pi xs->get s.tm x=get t.tm x)->L9 s xs=L9 t xs
 | [],_=>rfl
 | x ::r,h=>by
   have h2:L9 s r=L9 t r:=DB λy hy=>h y (by cases x<;>simp[Pi,hy])
   have h1:BU s x=BU t x:=by
    cases x with
    | tmp y=>exact h y (by simp[Pi])
    | _=>rfl
   simp only[L9,h1,h2]
theorem Sp {s t:St}:∀{ks:List Nat},(∀k,k∈ks->get s.bx k=get t.bx k)->Bx s ks=Bx t ks
 | [],_=>rfl
 | k::r,h=>by simp only[Bx,h k (by simp),Sp (ks:=r) λx hx=>h x (by simp[hx])]
theorem DC {o:Oper} {s t:St} (h:SameLooks ops o s t):I3 tt N orc ops s o=I3 tt N orc ops t o:=by
 have h1:L9 s o.op.operands.toList=L9 t o.op.operands.toList:=DB λx hx=>h.tm x (zT _ hx)
 have h2:Fw ops s o=Fw ops t o:=by
  unfold Fw;cases hg:o.guard with
  | none=>rfl
  | some g=>
    obtain ⟨j,want⟩:=g;simp only[];cases hj:ops[j]? with
    | none=>rfl
    | some oj=>
      simp only[];cases hd:oj.dst with
      | none=>rfl
      | some x=>simp only[h.tm x (zQ _ (by simp[hg,hj,hd]))]
 unfold I3;rw[h2,h1];cases hv:L9 t o.op.operands.toList with
 | none=>rfl
 | some vs=>simp only[Sp (h.bx vs (h1.trans hv))]
theorem QY {s:St} {k:Nat} {cs:List C}:∀{ks:List Nat},k∈ks->get s.bx k=some cs->∀c,c∈cs->c∈Oz (Bx s ks)
 | x::r,hk,hg,c,hc=>by
   simp only[Bx];rcases zL.1 hk with rfl | hk
   . rw[hg];simp[Oz,hc]
   have:=QY hk hg c hc;split
   . simp[Oz,this]
   exact this
theorem SF {o:Oper} {s t:St} {ρ:Rec} (hg:Fw ops t o=Fw ops s o) (h:I3 tt N orc ops s o=some ρ)
 (hk:∀vs,ρ.avs=vs->L9 s o.op.operands.toList=some vs->ρ.bn=Bx s (Sj (Y1 vs))->L9 t o.op.operands.toList=some vs/\Bx t (Sj (Y1 vs))=Bx s (Sj (Y1 vs))):I3 tt N orc ops t o=some ρ:=by
 unfold I3 at h⊢;rw[hg];cases hd:OJ N o.dst with
 | false=>rw[hd] at h;cases h
 | true =>
   rw[hd] at h;simp only[cond_true] at h⊢;split at h
   . split at h
     . rename_i vs hvs;split at h
       . rename_i r obs he;obtain rfl:=zD h;obtain ⟨h1,h2⟩:=hk vs rfl hvs rfl;simp only[h1,h2,he]
       cases h
     cases h
   . exact h
   cases h
theorem Qct {t t':Tok} {n:Nat} {l:List (List PV)} {b:Bool} (h:UL t n l t'= .bool b):False:=by
 cases t' with
 | put d m i o cs=>
   cases t with
   | own d0 k=>
     simp only[UL] at h;cases hb:Qbt d0 d&&zP n m<;>rw[hb] at h<;>cases h
   | _=>cases h
 | _=>cases h
theorem Qga {t t':Tok} {cs:List PV} {b:Bool} (h:NW t cs t'= .bool b):False:=by
 cases t' with
 | put=>cases t<;>cases h
 | _=>cases h
theorem Qcu {rl:List (Nat×Option Tok)} {kb:Option Nat} {c:C} {b:Bool}:U0 rl kb c= .bool b↔c= .bool b:=by
 constructor
 . intro h;cases c with
   | slc t n l=>
     simp only[U0] at h;split at h
     . exact (Qct h).elim
     cases h
   | rptr t cs=>
     simp only[U0] at h;split at h
     . exact (Qga h).elim
     cases h
   | ept d k n i o cs=>
     simp only[U0] at h;split at h
     . cases h
     . split at h<;>cases h
     cases h
   | ptr k off=>
     simp only[U0] at h;split at h
     . cases h
     rename_i x y;cases hk:zP k y<;>rw[hk] at h<;>cases h
   | fn f caps=>
     simp only[U0] at h;split at h
     . cases h
     rename_i x y;cases hk:Pe y caps<;>rw[hk] at h<;>cases h
   | _=>exact h
 intro h;subst h;rfl
theorem DD {o :Oper} {s:St} {dst:Option Nat} {r:Res} (hd:∀x,x∈BW ops o->dst≠some x):Fw ops (s.step dst r) o=Fw ops s o:=by
 unfold Fw;cases hg:o.guard with
 | none=>rfl
 | some g =>
   obtain ⟨j,want⟩:=g;simp only[];cases hj:ops[j]? with
   | none=>rfl
   | some oj =>
     simp only[];cases hdj:oj.dst with
     | none=>rfl
     | some x =>
       have hx:dst≠some x:=hd x (zQ _ (by simp[hg,hj,hdj]));simp only[O0,if_neg hx];cases hv:get s.tm x with
       | none=>rfl
       | some v=>
         simp only[zG];cases v with
         | one c=>
           simp only[M,AV.map];cases c with
           | bool b=>rfl
           | _=>
             generalize hc:U0 r.rl r.kb _=c';cases c' with
             | bool b=>exact absurd (Qcu.1 hc) (by simp)
             | _=>rfl
         | agg cs=>rfl
         | tup l=>cases l<;>rfl
theorem Qmn {r:Res} {v:AV} (h:∀c,c∈v.cells->Qak r c=true):M r v=v:=AV.map_id' λc hc=>Qcq (h c hc)
theorem Qmo {r:Res} {l:List C} (h:∀c,c∈l->Qak r c=true):ML r l=l:=(zY λc hc=>Qcq (h c hc)).trans (xA l)
theorem Qm3 {r:Res} {v u:AV} (h:M r v=u) (hn:∀c,c∈u.cells->Qfd r c=true):v=u:=AV.map_inj' h λ_ c hc hm=>Qcr hc (hn c hm)
theorem Qmw {r:Res}:∀{l m:List C},ML r l=m->(∀c,c∈m->Qfd r c=true)->l=m
 | [],m,h,_=>h
 | c ::l,m,h,hn=>by
   cases m with
   | nil=>cases h
   | cons d m=>
     simp only[ML,zZ,List.cons.injEq] at h;rw[Qcr h.1 (hn d (by simp)),Qmw (l:=l) h.2 λc hc=>hn c (by simp[hc])]
theorem Rc {a:Option Nat} {l:List Nat} (h:Lp a l=true):∀x,x∈l->a≠some x:=λx hx e=>by
 subst e;simp only[Lp,zO] at h;exact Gj h hx
theorem IN {o:Oper} {x:Nat} (h:x∈Pi o.op.operands.toList):x∈BW ops o:=zT _ h
theorem Qgb {o:Oper} {s:St} {dst:Option Nat} {r:Res} {ρ:Rec} (h:I3 tt N orc ops (s.step dst r) o=some ρ) (hd:Lp dst (BW ops o)=true) (h1:Cw (Qfd r) (Y1 ρ.avs)=true) (h2:Cw (Qfd r) (Oz ρ.bn)=true) (h3:Lp (YL r) (Sj (Y1 ρ.avs))=true):I3 tt N orc ops s o=some ρ:=by
 have hd':=Rc hd;refine SF (DD hd').symm h λvs hvs hop hbn=> ?_
 subst hvs;rw[hbn] at h2
 have hop':∀(xs:List Operand) (vs:List AV),(∀x,x∈Pi xs->dst≠some x)->(∀c,c∈Y1 vs->Qfd r c=true)->L9 (s.step dst r) xs=some vs->L9 s xs=some vs:=by
  intro xs
  induction xs with
  | nil=>intro vs _ _ h;exact h
  | cons x xs ih=>
    intro vs hx hn h;simp only[L9] at h⊢;split at h
    . rename_i v vs' e1 e2;obtain rfl:=zD h;have hxs:=ih vs' (λy hy=>hx y (by cases x<;>simp[Pi,hy])) (λc hc=>hn c (by simp only[Y1];exact zQ _ hc)) e2
      have h0:BU s x=some v:=by
       cases x with
       | tmp y=>
         have e1:get (s.step dst r).tm y=some v:=e1;rw[O0,if_neg (hx y (by simp[Pi]))] at e1;obtain ⟨u,hu,hm⟩:=zJ.1 e1;show get s.tm y=some v;rw[hu,Qm3 hm λc hc=>hn c (by simp only[Y1];exact zT _ hc)]
       | _=>exact e1
      simp only[h0,hxs]
    cases h
 have hv:=hop' _ _ (λx hx=>hd' x (IN hx)) (B5 h1) hop;refine ⟨hv, ?_⟩
 have : ∀ks:List Nat,(∀k,k∈ks->YL r≠some k)->(∀c,c∈Oz (Bx (s.step dst r) ks)->Qfd r c=true)->Bx s ks=Bx (s.step dst r) ks:=by
  intro ks
  induction ks with
  | nil=>intro _ _;rfl
  | cons k ks ih=>
    intro hk hn;have e:get (s.step dst r).bx k=(get s.bx k).map (ML r):=by rw[QW,if_neg (hk k (by simp))]
    have hg:get s.bx k=get (s.step dst r).bx k:=by
     rw[e];cases hc:get s.bx k with
     | none=>rfl
     | some cs=>
       rw[hc] at e;simp only[zG] at e⊢;exact congrArg some (Qmw (l:=cs) rfl λc hc'=>hn c (QY (by simp) e c hc'))
    simp only[Bx,hg];split
    . rename_i cs hcs;rw[ih (λx hx=>hk x (by simp[hx])) λc hc=>hn c (by simp[Bx,hcs,Oz,hc])]
    rename_i hcs;exact ih (λx hx=>hk x (by simp[hx])) λc hc=>hn c (by simp[Bx,hcs,hc])
 exact this _ (Rc h3) (B5 h2)
theorem Qjv {o:Oper} {s:St} {dst:Option Nat} {r:Res} {ρ:Rec} (h:I3 tt N orc ops s o=some ρ) (hd:Lp dst (BW ops o)=true) (h1:Cw (Qak r) (Y1 ρ.avs)=true) (h2:Cw (Qak r) (Oz ρ.bn)=true) (h3:Lp (YL r) (Sj (Y1 ρ.avs))=true):I3 tt N orc ops (s.step dst r) o=some ρ:=by
 have hd':=Rc hd;refine SF (DD hd') h λvs hvs hop hbn=> ?_
 subst hvs;rw[hbn] at h2
 have hop':∀(xs:List Operand) (vs:List AV),(∀x,x∈Pi xs->dst≠some x)->(∀c,c∈Y1 vs->Qak r c=true)->L9 s xs=some vs->L9 (s.step dst r) xs=some vs:=by
  intro xs
  induction xs with
  | nil=>intro vs _ _ h;exact h
  | cons x xs ih=>
    intro vs hx hn h;simp only[L9] at h⊢;split at h
    . rename_i v vs' e1 e2;obtain rfl:=zD h;have hxs:=ih vs' (λy hy=>hx y (by cases x<;>simp[Pi,hy])) (λc hc=>hn c (by simp only[Y1];exact zQ _ hc)) e2
      have h0:BU (s.step dst r) x=some v:=by
       cases x with
       | tmp y=>
         have e1:get s.tm y=some v:=e1;show get (s.step dst r).tm y=some v;rw[O0,if_neg (hx y (by simp[Pi])),e1,zG,Qmn λc hc=>hn c (by simp only[Y1];exact zT _ hc)]
       | _=>exact e1
      simp only[h0,hxs]
    cases h
 refine ⟨hop' _ _ (λx hx=>hd' x (IN hx)) (B5 h1) hop,Sp λk hk=> ?_⟩;rw[QW,if_neg (Rc h3 k hk)];cases hc:get s.bx k with
 | none=>rfl
 | some cs=>rw[zG,Qmo λc hc'=>B5 h2 c (QY hk hc c hc')]
theorem YM {a b:Option Nat} (h:Qal a b=true):∀x,a=some x->b≠some x:=λx e e'=>by
 subst e;subst e';simp[Qal] at h
theorem Qjw {oa ob:Oper} {ra rb:Rec} {s:St} (hap:Qco ops oa ra ob rb=true) {orca orcb:Orc} (ha:I3 tt N orca ops s oa=some ra) (hb:I3 tt N orcb ops (s.step oa.dst ra.res) ob=some rb):
 I3 tt N orcb ops s ob=some rb/\I3 tt N orca ops (s.step ob.dst rb.res) oa=some ra/\((s.step oa.dst ra.res).step ob.dst rb.res).eqv ((s.step ob.dst rb.res).step oa.dst ra.res):=by
 simp only[Qco,zI] at hap;obtain ⟨⟨⟨⟨⟨⟨⟨⟨⟨⟨⟨⟨⟨⟨⟨⟨⟨d1,d2⟩,d3⟩,n1⟩,n2⟩,f1⟩,f2⟩,g1⟩,g2⟩,g3⟩,g4⟩,k1⟩,k2⟩,b1⟩,b2⟩,b3⟩,q1⟩,q2⟩:=hap;have hcomm:=Qcs k1 k2 q1 q2;refine ⟨Qgb hb d2 n1 n2 b2,Qjv ha d3 f1 f2 b3,λt=> ?_,λk=> ?_⟩
 . simp only[O0];by_cases ht:ob.dst=some t
   . rw[if_pos ht,if_neg (λe=>YM d1 t e ht),if_pos ht,zG,Qmn (B5 g1)]
   rw[if_neg ht,if_neg ht];by_cases ht':oa.dst=some t
   . rw[if_pos ht',if_pos ht',zG,Qmn (B5 g3)]
   rw[if_neg ht',if_neg ht'];cases get s.tm t with
   | none=>rfl
   | some v=>
     simp only[zG,M,AV.map_map]
     congr 2
     funext c
     exact hcomm c
 simp only[QW];by_cases ht:YL rb.res=some k
 . rw[if_pos ht,if_neg (λe=>YM b1 k e ht),if_pos ht,zG,Qmo (B5 g2)]
 rw[if_neg ht,if_neg ht];by_cases ht':YL ra.res=some k
 . rw[if_pos ht',if_pos ht',zG,Qmo (B5 g4)]
 rw[if_neg ht',if_neg ht'];cases get s.bx k with
 | none=>rfl
 | some l=>
   simp only[zG,ML,List.map_map]
   congr 2
   funext c
   exact hcomm c
end
end
end
section
open Go.RowKit
abbrev Ma:=Nat×Oper×Rec
def Fy (o:Oper):List Nat:=(o.after.toList.filter λe=>Region.binds .any e).map (·.on)
def Qan:List Nat->List Nat
 | []=> []
 | x::r=>bif Se x r then Qan r else x::Qan r
def Qfe (l:List (List Nat)) (i:Nat):List Nat:=match l[i]? with
 | some x=>x
 | none=> []
def SG:List Oper->List (List Nat)->List (List Nat)
 | [],acc=>acc
 | o::r,acc=>SG r (acc++ [Qan (Fy o++(Fy o).flatMap λe=>Qfe acc e)])
def Qgc (i:Nat):List Nat->Bool
 | []=>true
 | x::r=>Nat.blt x i&&Qgc i r
def HL:List Oper->Nat->Bool
 | [],_=>true
 | o::r,i=>Qgc i (Fy o)&&HL r (i+1)
def Qff (orcs:List (Nat×Orc)) (i:Nat) (o:Oper):Option (Nat×Nat):=match o.op,o.guard,o.dst,get orcs i with
 | .move (.tmp u),none,some v,none=>some (u,v)
 | _,_,_,_=>none
def DE (ops:List Oper) (m:Nat×Nat) (z:Oper):Bool:= !(Se m.2 (BW ops z))&&Qal z.dst (some m.1)&&Qal z.dst (some m.2)
def DF (orcs:List (Nat×Orc)) (ops:List Oper) (y x:Ma):Bool:=match Qff orcs y.1 y.2.1,Qff orcs x.1 x.2.1 with
 | none,none=>Qco ops y.2.1 y.2.2 x.2.1 x.2.2
 | some m,_=>DE ops m x.2.1
 | none,some m=>DE ops m y.2.1
def Oc (orcs:List (Nat×Orc)) (ops:List Oper) (anc:List (List Nat)) (x:Ma):List Ma->Bool
 | []=>true
 | y::r=>(Se x.1 (Qfe anc y.1)|| DF orcs ops x y)&&Oc orcs ops anc x r
def O1 (orcs:List (Nat×Orc)) (ops:List Oper) (anc:List (List Nat)):List Ma->Bool
 | []=>true
 | x::r=>Oc orcs ops anc x r&&O1 orcs ops anc r
def IP (tt:List (Nat×TI)) (N:Nat) (orcs:List (Nat×Orc)) (ops:List Oper):List Oper->Nat->St->Option (St×List Ma)
 | [],_,s=>some (s, [])
 | o ::r,i,s=>match I3 tt N (EP orcs i) ops s o with
   | some ρ=>(match IP tt N orcs ops r (i+1) (s.step o.dst ρ.res) with
     | some (s',l)=>some (s',(i,o,ρ)::l)
     | none=>none)
   | none=>none
def Qgd:List Ma->List Ob
 | []=> []
 | x::r=>x.2.2.obs++Qgd r
def I4 (tt:List (Nat×TI)) (N:Nat) (orcs:List (Nat×Orc)) (ops:List Oper) (ts bs:List Nat) (s:St):Option (St×List Ob):=
 bif HL ops 0 then
  match IP tt N orcs ops ops 0 s with
  | some (s',l)=>bif O1 orcs ops (SG ops []) l then some (s'.keep ts bs,Qgd l) else none
  | none=>none
 else none
section
variable {P:Program} {tt:List (Nat×TI)} {N:Nat} {orcs:List (Nat×Orc)} {ops:Array Oper} {w0:Base} {F0:Nat->Prop}
def Qjx (tt:List (Nat×TI)) (N:Nat) (orcs:List (Nat×Orc)) (ops:List Oper):List Ma->St->St->Prop
 | [],s,s'=>s.eqv s'
 | x::r,s,s'=>∃ρ:Rec,I3 tt N (EP orcs x.1) ops s x.2.1=some ρ/\(Qff orcs x.1 x.2.1=none->ρ=x.2.2)/\Qjx tt N orcs ops r (s.step x.2.1.dst ρ.res) s'
theorem Qge (s:St):s.eqv s:=⟨λ_=>rfl,λ_=>rfl⟩
theorem SH {s t:St} (h:s.eqv t):t.eqv s:=⟨λx=>(h.1 x).symm,λx=>(h.2 x).symm⟩
theorem Qcv {s t u:St} (h:s.eqv t) (h':t.eqv u):s.eqv u:=⟨λx=>(h.1 x).trans (h'.1 x),λx=>(h.2 x).trans (h'.2 x)⟩
theorem Qgf {s t:St} (h:s.eqv t) (dst:Option Nat) (r:Res):(s.step dst r).eqv (t.step dst r):=⟨λx=>by rw[O0,O0,h.1 x],λx=>by rw[QW,QW,h.2 x]⟩
theorem Qcw {s t:St} (h:s.eqv t) {orc:Orc} {l:List Oper} (o:Oper):I3 tt N orc l s o=I3 tt N orc l t o:=DC ⟨λx _=>h.1 x,λ_ _ k _=>h.2 k⟩
theorem WZ:∀{l:List Ma} {s t s':St},s.eqv t->Qjx tt N orcs ops.toList l s s'->Qjx tt N orcs ops.toList l t s'
 | [],s,t,s',h,hr=>Qcv (SH h) hr
 | x::r,s,t,s',h,⟨ρ,h1,h2,hr⟩=>⟨ρ,(Qcw h _).symm.trans h1,h2,WZ (Qgf h _ _) hr⟩
theorem YN {i:Nat} {o:Oper} {m:Nat×Nat} (h:Qff orcs i o=some m):o.op= .move (.tmp m.1)/\o.guard=none/\o.dst=some m.2/\EP orcs i= .no:=by
 unfold Qff at h;split at h
 . rename_i u v h1 h2 h3 h4;obtain rfl:=zD h;exact ⟨h1,h2,h3,by unfold EP;rw[h4]⟩
 cases h
theorem Qcx {l:List Oper} {i:Nat} {o:Oper} {m:Nat×Nat} {s:St} {ρ:Rec} (h:Qff orcs i o=some m) (hr:I3 tt N (EP orcs i) l s o=some ρ):OJ N o.dst=true/\∃x,get s.tm m.1=some x/\ρ.res=⟨x, [],none,none⟩/\ρ.obs= []:=by
 obtain ⟨h1,h2,h3,h4⟩:=YN h;unfold I3 at hr;cases hd:OJ N o.dst with
 | false=>rw[hd] at hr;cases hr
 | true=>
   rw[hd] at hr;refine ⟨rfl, ?_⟩;have hg:Fw l s o=some true:=by unfold Fw;rw[h2]
   simp only[hg,h1,h4,Op.operands,L9,BU,cond_true] at hr;cases hx:get s.tm m.1 with
   | none=>simp[hx,L9,BU] at hr
   | some x=>
     simp[hx,L9,BU,II,HG,HF,Qbw] at hr;obtain rfl:=hr;exact ⟨x,rfl,rfl,rfl⟩
theorem Qie {l:List Oper} {i:Nat} {o:Oper} {m:Nat×Nat} {s:St} {x:AV} (h:Qff orcs i o=some m) (hd:OJ N o.dst=true) (hx:get s.tm m.1=some x):∃ρ,I3 tt N (EP orcs i) l s o=some ρ/\ρ.res=⟨x, [],none,none⟩:=by
 obtain ⟨h1,h2,h3,h4⟩:=YN h;have hg:Fw l s o=some true:=by unfold Fw;rw[h2]
 unfold I3;simp[hd,hg,h1,h4,Op.operands,L9,BU,hx,II,HG,HF,Qbw]
theorem Qcy (x v:AV):M ⟨x, [],none,none⟩ v=v:=AV.map_id' λc _=>by rw[KA];rfl
theorem Qcz (x:AV) (l:List C):ML ⟨x, [],none,none⟩ l=l:=by
 show l.map (U0 [] none)=l;rw[KA,List.map_id]
theorem Qc0 {l:List Oper} {orc:Orc} {m:Nat×Nat} {z:Oper} {s:St} {x:AV} (hf:DE l m z=true) (hx:get s.tm m.1=some x) (ρ:Rec):
 I3 tt N orc l (s.step (some m.2) ⟨x, [],none,none⟩) z=I3 tt N orc l s z/\get (s.step z.dst ρ.res).tm m.1=some (M ρ.res x)/\((s.step (some m.2) ⟨x, [],none,none⟩).step z.dst ρ.res).eqv ((s.step z.dst ρ.res).step (some m.2) ⟨M ρ.res x, [],none,none⟩):=by
 simp only[DE,zI,zO] at hf;obtain ⟨⟨f1,f2⟩,f3⟩:=hf;have f1:=Gj f1;refine ⟨DC ⟨λy hy=> ?_,λ_ _ k _=> ?_⟩, ?_,λy=> ?_,λk=> ?_⟩
 . rw[O0,if_neg (λe=>f1 (by cases e;exact hy))];cases get s.tm y with
   | none=>rfl
   | some v=>rw[zG,Qcy]
 . rw[QW,if_neg (by simp[YL])];cases get s.bx k with
   | none=>rfl
   | some v=>simp[ML,KA]
 . rw[O0,if_neg (λe=>YM f2 _ e rfl),hx];rfl
 . simp only[O0];by_cases h1:z.dst=some y
   . rw[if_pos h1,if_neg (λe=>YM f3 _ h1 e),if_pos h1,zG,Qcy]
   rw[if_neg h1,if_neg h1];by_cases h2:some m.2=some y
   . rw[if_pos h2,if_pos h2,zG]
   rw[if_neg h2,if_neg h2];cases get s.tm y with
   | none=>rfl
   | some v=>simp only[zG,Qcy]
 have hn:∀y:AV,¬YL ⟨y, [],none,none⟩=some k:=λ_ e=>by cases e
 simp only[QW];by_cases h1:YL ρ.res=some k
 . rw[if_pos h1,if_neg (hn _),if_pos h1,zG,Qcz]
 rw[if_neg h1,if_neg (hn _),if_neg (hn _),if_neg h1];cases get s.bx k with
 | none=>rfl
 | some v=>simp only[zG,Qcz]
theorem DG {x:Ma} {post:List Ma}:∀{pre:List Ma} {s s':St},(∀y,y∈pre->DF orcs ops.toList y x=true)->Qjx tt N orcs ops.toList (pre++x::post) s s'->Qjx tt N orcs ops.toList (x::(pre++post)) s s'
 | [],_,_,_,h=>h
 | y :: pre,s,s',ha,h=>by
   obtain ⟨ρy,hy,hy',hr⟩:=h;obtain ⟨ρx,hx,hx',hr'⟩:=DG (λz hz=>ha z (zR _ hz)) hr;have hap:=ha y yA;unfold DF at hap;cases hmy:Qff orcs y.1 y.2.1 with
   | some m=>
     rw[hmy] at hap;obtain ⟨hd,x0,h1,h2,_⟩:=Qcx hmy hy;have hdst:=(YN hmy).2.2.1;obtain ⟨e1,e2,e3⟩:=Qc0 (tt:=tt) (N:=N) (orc:=EP orcs x.1) hap h1 ρx;rw[h2,hdst] at hx hr';obtain ⟨ρm,h3,h4⟩:=Qie (tt:=tt) (l:=ops.toList) hmy hd e2;refine ⟨ρx,e1.symm.trans hx,hx',ρm,h3,λe=>(by rw[hmy] at e;cases e), ?_⟩;rw[h4,hdst];exact WZ e3 hr'
   | none=>
     rw[hmy] at hap;cases hmx:Qff orcs x.1 x.2.1 with
     | some m=>
       rw[hmx] at hap;obtain ⟨hd,x1,h1,h2,_⟩:=Qcx hmx hx;have hdst:=(YN hmx).2.2.1;have hf:DE ops.toList m y.2.1=true:=hap
       have hne:y.2.1.dst≠some m.1:=λe=>by
        simp only[DE,zI] at hf;exact YM hf.1.2 _ e rfl
       rw[O0,if_neg hne] at h1;obtain ⟨x0,hx0,hM⟩:=zJ.1 h1;obtain ⟨e1,e2,e3⟩:=Qc0 (tt:=tt) (N:=N) (orc:=EP orcs y.1) hf hx0 ρy;obtain ⟨ρm,h3,h4⟩:=Qie (tt:=tt) (l:=ops.toList) hmx hd hx0;refine ⟨ρm,h3,λe=>(by rw[hmx] at e;cases e),ρy, ?_,λ_=>hy' hmy, ?_⟩
       . rw[h4,hdst];exact e1.trans hy
       rw[h4,hdst];rw[h2,hdst,←hM] at hr';exact WZ (SH e3) hr'
     | none=>
       rw[hmx] at hap;obtain rfl:=hy' hmy;obtain rfl:=hx' hmx;obtain ⟨h1,h2,h3⟩:=Qjw hap hy hx;exact ⟨_,h1,λ_=>rfl,_,h2,λ_=>rfl,WZ h3 hr'⟩
theorem HM:∀{l:List Oper} {i:Nat} {s s':St} {R:List Ma},IP tt N orcs ops.toList l i s=some (s',R)->Qjx tt N orcs ops.toList R s s'/\R.map (·.1)=List.range' i l.length/\R.map (·.2.1)=l
 | [],i,s,s',R,h=>by
   obtain ⟨rfl,rfl⟩:s=s'/\ []=R:=by simpa [IP] using h
   exact ⟨Qge s,rfl,rfl⟩
 | o :: r,i,s,s',R,h=>by
   simp only[IP] at h;split at h
   . rename_i ρ hρ;split at h
     . rename_i s'' l' hr;obtain ⟨rfl,rfl⟩:s''=s'/\(i,o,ρ)::l'=R:=by simpa using h
       obtain ⟨h1,h2,h3⟩:=HM hr;exact ⟨⟨ρ,hρ,λ_=>rfl,h1⟩,by simp[h2,List.range'_succ],by simp[h3]⟩
     cases h
   cases h
inductive Anc (ops:Array Oper):Nat->Nat->Prop
 | one {x q:Nat} {o:Oper}:ops[q]? =some o->x∈Fy o->Anc ops x q
 | more {x e q:Nat} {o:Oper}:ops[q]? =some o->e∈Fy o->Anc ops x e->Anc ops x q
theorem HN {x:Nat}:∀{l:List Nat},x∈Qan l->x∈l
 | [],h=>h
 | y ::r,h=>by
   simp only[Qan] at h;cases hm:Se y r with
   | true=>rw[hm] at h;exact zR _ (HN h)
   | false=>
     rw[hm] at h;rcases zL.1 h with rfl | h
     . exact yA
     exact zR _ (HN h)
theorem Qc1:∀{l:List Oper} {acc:List (List Nat)},ops.toList.drop acc.length=l->(∀q x,x∈Qfe acc q->Anc ops x q)->∀q x,x∈Qfe (SG l acc) q->Anc ops x q
 | [],_,_,h,q,x,hx=>h q x hx
 | o ::r,acc,hl,h,q,x,hx=>by
   refine Qc1 (l:=r) (acc:=acc++ [Qan (Fy o++(Fy o).flatMap λe=>Qfe acc e)]) ?_ ?_ q x hx
   . rw[yO,List.length_singleton,←xB,hl];rfl
   intro q x hx
   have ho:ops[acc.length]? =some o:=by
    have:=congrArg (·[0]?) hl;simpa using this
   unfold Qfe at hx;rcases xF q acc.length with hlt | he | hgt
   . rw[yL hlt] at hx;exact h q x hx
   . subst he;rw[yH (zS _),Nat.sub_self] at hx;simp only[List.getElem?_cons_zero] at hx;rcases zV.1 (HN hx) with hx | hx
     . exact .one ho hx
     obtain ⟨e,he,hx⟩:=xH.1 hx;exact .more ho he (h e x hx)
   rw[List.getElem?_eq_none (by simp;omega)] at hx;simp at hx
theorem Qao {listed:Array Bool} (hc:∀(j:Nat) (o:Oper),ops[j]? =some o->listed.getD j false=true->∀e,e∈Fy o->listed.getD e false=true) {x q:Nat} (h:Anc ops x q):(∀o,ops[q]? =some o->∀e,e∈Fy o->listed.getD e false=true)->listed.getD x false=true:=by
 induction h with
 | one ho hx=>intro hq;exact hq _ ho _ hx
 | more ho he _ ih=>intro hq;exact ih λo' ho' e' he'=>hc _ o' ho' (hq _ ho _ he) e' he'
theorem IQ {o:Oper} {e:Nat}:e∈Fy o↔∃x,x∈o.after/\Region.binds .any x=true/\x.on=e:=by
 unfold Fy;simp only[yZ,List.mem_filter,Array.mem_toList_iff];exact ⟨λ⟨x,⟨h1,h2⟩,h3⟩=>⟨x,h1,h2,h3⟩,λ⟨x,h1,h2,h3⟩=>⟨x,⟨h1,h2⟩,h3⟩⟩
theorem SJ {i:Nat}:∀{l:List Nat},Qgc i l=true->∀x,x∈l->x<i
 | [],_,x,hx=>by simp at hx
 | y::r,h,x,hx=>by
   simp only[Qgc,zI,Nat.blt_eq] at h;rcases zL.1 hx with rfl | hx
   . exact h.1
   exact SJ h.2 x hx
theorem DH:∀{l:List Oper} {i:Nat},HL l i=true->∀(j:Nat) (o:Oper),l[j]? =some o->∀e,e∈Fy o->e<i+j
 | [],_,_,j,o,h,_,_=>by simp at h
 | x::r,i,h,j,o,hj,e,he=>by
   simp only[HL,zI] at h;cases j with
   | zero=>simp at hj;subst hj;exact SJ h.1 e he
   | succ j=>have:=DH h.2 j o (by simpa using hj) e he;omega
theorem SK {anc:List (List Nat)} {x y:Ma}:∀{l:List Ma},Oc orcs ops.toList anc x l=true->y∈l->Se x.1 (Qfe anc y.1)=true\/DF orcs ops.toList x y=true
 | z::r,h,hy=>by
   simp only[Oc,zI,Bool.or_eq_true] at h;rcases zL.1 hy with rfl | hy
   . exact h.1
   exact SK h.2 hy
theorem IR {anc:List (List Nat)} {x:Ma} {post:List Ma}:∀{pre:List Ma},O1 orcs ops.toList anc (pre++x::post)=true->∀y,y∈pre->Se y.1 (Qfe anc x.1)=true\/DF orcs ops.toList y x=true
 | [],_,y,hy=>by simp at hy
 | z::pre,h,y,hy=>by
   rw[xI] at h;simp only[O1,zI] at h;rcases zL.1 hy with rfl | hy
   . exact SK h.1 (by simp)
   exact IR h.2 y hy
theorem YO {anc:List (List Nat)} {z x:Ma} {post:List Ma}:∀{pre:List Ma},Oc orcs ops.toList anc z (pre++x::post)=true->Oc orcs ops.toList anc z (pre++post)=true
 | [],h=>by simp only[xL,Oc,zI] at h;exact h.2
 | y::pre,h=>by
   simp only[xI,Oc,zI] at h⊢;exact ⟨h.1,YO h.2⟩
theorem DI {anc:List (List Nat)} {x:Ma} {post:List Ma}:∀{pre:List Ma},O1 orcs ops.toList anc (pre++x::post)=true->O1 orcs ops.toList anc (pre++post)=true
 | [],h=>by simp only[xL,O1,zI] at h;exact h.2
 | y::pre,h=>by
   simp only[xI,O1,zI] at h⊢;exact ⟨YO h.1,DI h.2⟩
theorem Qjy {l:List Ma} (h:AllOb (Jk P w0) (U9 P w0) (Qgd l)):∀x,x∈l->AllOb (Jk P w0) (U9 P w0) x.2.2.obs:=by
 induction l with
 | nil=>intro x hx;simp at hx
 | cons y r ih=>
   intro x hx;obtain ⟨h1,h2⟩:=AllOb.append h;rcases zL.1 hx with rfl | hx
   . exact h1
   exact ih h2 x hx
theorem Qjz (htt:Nj P tt=true) {Q:Exit->Act->World->Prop} {sf:St} {anc:List (List Nat)} (hanc:∀q x,x∈Qfe anc q->Anc ops x q) (hlt:∀(j:Nat) (o:Oper),ops[j]? =some o->∀e,e∈Fy o->e<j) (hQ:∀J a w,Rel N w0 F0 J a w sf->Q .normal a w):
 ∀ (n:Nat) (R:List Ma) (listed:Array Bool) (s:St) (J:Inj) (a:Act) (w:World),R.length=n->listed.size=ops.size->(R.map (·.1)).Pairwise (· < ·)->(∀x,x∈R->ops[x.1]? =some x.2.1)->(∀j,j<ops.size->(listed.getD j true=false↔j∈R.map (·.1)))->
   (∀(j:Nat) (o:Oper),ops[j]? =some o->listed.getD j false=true->∀e,e∈Fy o->listed.getD e false=true)->O1 orcs ops.toList anc R=true->(∀x,x∈R->AllOb (Jk P w0) (U9 P w0) x.2.2.obs)->Qjx tt N orcs ops.toList R s sf->Rel N w0 F0 J a w s->wpAny P .any ops Q n listed a w:=by
 intro n
 have hget:∀(listed:Array Bool) (j:Nat),j<listed.size->(listed.getD j true=false↔¬listed.getD j false=true):=by
  intro listed j hj;simp[zM,Array.getElem?_eq_getElem hj]
 have hready:∀(R:List Ma) (listed:Array Bool),listed.size=ops.size->(∀j,j<ops.size->(listed.getD j true=false↔j∈R.map (·.1)))->∀i,i∈Region.ready .any ops listed->i∈R.map (·.1)/\∀o,ops[i]? =some o->∀e,e∈Fy o->listed.getD e false=true:=by
  intro R listed hsz hR i hi;obtain ⟨h0,o,ho,hall⟩:=mem_ready.1 hi;have hlt:i<ops.size:=(yB.1 ho).1;refine ⟨(hR i hlt).1 h0,λo' ho' e he=> ?_⟩;rw[ho] at ho';obtain rfl:=zD ho';obtain ⟨x,h1,h2,rfl⟩:=IQ.1 he;exact hall x h1 h2
 induction n with
 | zero=>
   intro R listed s J a w hn hsz _ _ hR _ _ _ hr hrel;obtain rfl:R= []:=zN hn;refine ⟨?_,hQ J a w (hrel.eqv hr)⟩;cases hrd:Region.ready .any ops listed with
   | nil=>rfl
   | cons i r=>
     have:=(hready [] listed hsz hR i (by rw[hrd];simp)).1;simp at this
 | succ n ih=>
   intro R listed s J a w hn hsz hsort hops hR hclosed hpairs hobs hr hrel;refine ⟨λhnil=> ?_,λi hi=> ?_⟩
   . exfalso;cases R with
     | nil=>simp at hn
     | cons x r=>
       have hx:=hops x (by simp);have hxl:x.1<ops.size:=(yB.1 hx).1
       have:x.1∈Region.ready .any ops listed:=by
        refine mem_ready.2 ⟨(hR x.1 hxl).2 (by simp),x.2.1,hx,λe he hb=> ?_⟩;have hel:=hlt x.1 x.2.1 hx e.on (IQ.2 ⟨e,he,hb,rfl⟩);refine yM λhne=> ?_
        have:=(hR e.on (by omega)).1 ((hget listed e.on (by omega)).2 hne);simp only[zZ,zL] at this;rcases this with h | h
        . omega
        have:x.1<e.on:=(xC.1 hsort).1 e.on h;omega
       rw[hnil] at this;simp at this
   obtain ⟨hiR,hedges⟩:=hready R listed hsz hR i hi;obtain ⟨x,hx,rfl⟩:=yZ.1 hiR;obtain ⟨pre,post,rfl⟩:=List.append_of_mem hx
   have hap:∀y,y∈pre->DF orcs ops.toList y x=true:=λy hy=>by
    rcases IR hpairs y hy with h | h
    . exfalso;have hl:=Qao hclosed (hanc _ _ (Ec.1 h)) hedges;have hyo:=hops y (by simp[hy]);have hyl:y.1<ops.size:=(yB.1 hyo).1;exact (hget listed y.1 (by omega)).1 ((hR y.1 hyl).2 (by simp only[yN,zV];exact .inl (yZ.2 ⟨y,hy,rfl⟩))) hl
    exact h
   obtain ⟨ρ,hrec,hρ,hrest⟩:=DG hap hr
   have hobx:AllOb (Jk P w0) (U9 P w0) ρ.obs:=by
    cases hmv:Qff orcs x.1 x.2.1 with
    | none=>rw[hρ hmv];exact hobs x (by simp)
    | some m=>obtain ⟨_,_,_,_,e⟩:=Qcx hmv hrec;rw[e];trivial
   have hxo:=hops x (by simp);have hxl:x.1<ops.size:=(yB.1 hxo).1
   have hdup:x.1∉(pre++post).map (·.1):=λhm=>by
    simp only[yN,zZ,xS,xC] at hsort;simp only[yN,zV] at hm;rcases hm with hm | hm
    . have:=hsort.2.2 _ hm x.1 (by simp);omega
    have:=hsort.2.1.1 _ hm;omega
   refine Qcc (P:=P) htt hxo hrec hobx hrel λJ' a' w' hrel'=>ih (pre++post) _ _ J' a' w' (by simp at hn⊢;omega) (by simpa using hsz) ?_ ?_ ?_ ?_ (DI hpairs) ?_ hrest hrel'
   . simp only[yN,zZ,xS,xC] at hsort⊢;exact ⟨hsort.1,hsort.2.1.2,λa ha b hb=>hsort.2.2 a ha b (by simp[hb])⟩
   . intro y hy;exact hops y (by simp only[zV,zL] at hy⊢;exact hy.elim .inl λh=> .inr (.inr h))
   . intro j hj;by_cases hji:x.1=j
     . subst hji;constructor
       . intro h;simp[hsz,hj] at h
       intro h;exact absurd h hdup
     rw[getD_set_ne true hji,hR j hj];simp only[yN,zZ,zV,zL];exact ⟨λh=>h.elim .inl λh=>h.elim (λe=>absurd e.symm hji) .inr,λh=>h.elim .inl λh=> .inr (.inr h)⟩
   . intro j o ho hl e he;by_cases hji:x.1=j
     . subst hji;exact getD_set_true (hedges o ho e he)
     rw[getD_set_ne false hji] at hl;exact getD_set_true (hclosed j o ho hl e he)
   intro y hy;exact hobs y (by simp only[zV,zL] at hy⊢;exact hy.elim .inl λh=> .inr (.inr h))
theorem EV (htt:Nj P tt=true) (hm:P.follows .mixedOrders=true) {Q:Exit->St->Prop} {s s':St} (orcs:List (Nat×Orc)) (ts bs:List Nat) {id:Nat} {ops:Array Oper} {obs:List Ob} (h:I4 tt N orcs ops.toList ts bs s=some (s',obs))
 (hob:AllOb (Jk P w0) (U9 P w0) obs) (hQ:Q .normal s'):AWP P N w0 F0 (.region id ops true) Q s:=λJ a w hr=>by
 unfold I4 at h;cases he:HL ops.toList 0 with
 | false=>rw[he] at h;cases h
 | true =>
   rw[he] at h;simp only[cond_true] at h;split at h
   . rename_i s1 R h1;cases hp:O1 orcs ops.toList (SG ops.toList []) R with
     | false=>rw[hp] at h;cases h
     | true=>
       rw[hp] at h;obtain ⟨rfl,rfl⟩:s1.keep ts bs=s'/\Qgd R=obs:=by simpa using h
       obtain ⟨hruns,hidx,hop⟩:=HM h1;have hlen:R.length=ops.size:=by have:=congrArg List.length hop;simpa using this
       refine wp_region_any hm (Qjz (P:=P) htt (Qc1 (acc:= []) (l:=ops.toList) rfl (λq x hx=>by simp[Qfe] at hx)) (λj o ho e hx=>by have:=DH he j o (by simpa using ho) e hx;omega)
        (λJ' a' w' hR=>⟨J',_,hR.less (λt v hv=>Oa hv) (λk c hc=>Oa hc),hQ⟩) ops.size R _ s J a _ hlen (by simp) ?_ ?_ ?_ ?_ hp (Qjy hob) hruns ?_)
       . rw[hidx];exact List.pairwise_lt_range'
       . intro x hx;obtain ⟨k,hk,rfl⟩:=xT hx
         have e1:R[k].1=k:=by
          have:=congrArg (·[k]?) hidx;simp only[List.getElem?_map,zK hk,zG] at this;rw[List.getElem?_range' (by simpa [←hlen] using hk)] at this;simpa using this
         have e2:=congrArg (·[k]?) hop;simp only[List.getElem?_map,zK hk,zG] at e2;rw[e1];simpa using e2.symm
       . intro j hj;rw[hidx];simp[hj,List.mem_range'_1]
       . intro j o _ hl;simp only[zM,Array.getElem?_replicate] at hl;split at hl<;>simp at hl
       refine {hr with below:= ?_,fl:=hr.fl,bo:= ?_,tm:= ?_}
       . exact hr.below.trans ⟨rfl,rfl,rfl,zS _,λ_ _=>rfl⟩
       . intro k c hk;obtain ⟨h1,h2,h3,arr,e,h4,h5⟩:=hr.bo k c hk;exact ⟨h1,h2,h3,arr,e,h4,h5.imp λv c _ hc=>hc.keep ⟨λb hb=>⟨hb,rfl⟩,λk _=>⟨rfl,λ_ _=>rfl⟩,λ_ _=>rfl⟩⟩
       intro t v hv;exact (hr.tm t v hv).keep λc _=>⟨λb hb=>⟨hb,rfl⟩,λk _=>⟨rfl,λ_ _=>rfl⟩,λ_ _=>rfl⟩
   cases h
end
open GoE (enc wide)
def nth {α:Type} [Inhabited α] (l:List α) (i:Nat):α:=l.getD i default
theorem Wg {α:Type} [Inhabited α] {l:List α} {i:Nat} (h:i<l.length):l[i]? =some (nth l i):=by
 simp[nth,List.getD,zK h]
theorem Od {α:Type} [Inhabited α] {l:List α} {i:Nat} {a:α} (h:l[i]? =some a):nth l i=a:=by simp[nth,List.getD,h]
def dn (s:Int):Nat->Int
 | 0=>s
 | k+1=>dn s k-1
theorem OO (s:Int):∀k,dn s k=s-(k:Int)
 | 0=>by simp[dn]
 | k+1=>by rw[dn,OO s k];omega
section
variable {α:Type} [GoE α]
theorem IS {J:Inj} {w:World} {v:Value} {tok:Tok} {l:List α} (h:CR J w v (.slc tok (GoD.n α) (eL l))):wide l:=by
 cases tok with
 | sh=>exact QU h
 | emp=>
   obtain ⟨h,_⟩:=h;cases l with
   | nil=>exact ⟨yW _,by simp⟩
   | cons a l=>simp[eL] at h
 | vw k=>exact QU h
 | put=>exact h.elim
 | own d k=>
   cases d with
   | true=>exact QU (OwnDeep.vv (X:=λ_=>True) h λ_ _=>⟨trivial,rfl⟩)
   | false=>exact QU (OwnTop.vv (X:=λ_=>True) h (λ_ _=>⟨trivial,rfl⟩) λ_ _=>⟨trivial,rfl⟩)
theorem EW {l:List α} {i:Nat} {a:α} (h:l[i]? =some a) (hw:wide l):wide a:=hw.2 a (yI h)
theorem Gz {l:List α} (hw:wide l):l.length<=1073741824:=hw.1
theorem EX {β:Type} [GoE β] {p:α×β} (hw:wide p):wide p.2:=hw.2
theorem HO {l:List α} (k:Nat) (hw:wide l):wide (List.take k l):=⟨zU (by simp[Nat.min_le_right]) hw.1,λa h=>hw.2 a (xO h)⟩
theorem HP {l:List α} (k:Nat) (hw:wide l):wide (List.drop k l):=⟨zU (by simp) hw.1,λa h=>hw.2 a (List.mem_of_mem_drop h)⟩
end
section
variable {P:Program} {N:Nat} {w0:Base} {F0:Nat->Prop} {Q:Exit->St->Prop} {s s':St} {c:Code} {α:Type} [GoE α]
end
abbrev PV.i (n:Int):PV:= .int .i64 n
abbrev PV.b (b:Bool):PV:= .bool b
abbrev PV.s (x:ByteArray):PV:= .str x
abbrev PV.h {α:Type} [GoE α] (l:List α):PV:= .slc (GoD.n α) (eL l)
abbrev C.i (n:Int):C:= .int .i64 n
abbrev C.b (b:Bool):C:= .bool b
abbrev C.s (x:ByteArray):C:= .str x
abbrev C.e (n:Nat):C:= .slc .emp n []
abbrev C.h {α:Type} [GoE α] (l:List α):C:= .slc .sh (GoD.n α) (eL l)
abbrev C.o {α:Type} [GoE α] (k:Nat) (l:List α):C:= .slc (.own true k) (GoD.n α) (eL l)
abbrev C.q {α:Type} [GoE α] (k:Nat) (l:List α):C:= .slc (.own false k) (GoD.n α) (eL l)
abbrev C.v {α:Type} [GoE α] (k:Nat) (l:List α):C:= .slc (.vw k) (GoD.n α) (eL l)
abbrev AV.i (n:Int):AV:= .one (.int .i64 n)
abbrev AV.b (b:Bool):AV:= .one (.bool b)
abbrev AV.s (x:ByteArray):AV:= .one (.str x)
abbrev AV.e (n:Nat):AV:= .one (.slc .emp n [])
abbrev AV.h {α:Type} [GoE α] (l:List α):AV:= .one (.slc .sh (GoD.n α) (eL l))
abbrev AV.o {α:Type} [GoE α] (k:Nat) (l:List α):AV:= .one (.slc (.own true k) (GoD.n α) (eL l))
abbrev AV.q {α:Type} [GoE α] (k:Nat) (l:List α):AV:= .one (.slc (.own false k) (GoD.n α) (eL l))
abbrev AV.v {α:Type} [GoE α] (k:Nat) (l:List α):AV:= .one (.slc (.vw k) (GoD.n α) (eL l))
abbrev AV.p (k o:Nat):AV:= .one (.ptr k o)
abbrev AV.a (cs:List C):AV:= .agg cs
section
variable {A:Nat->List AV->AV->Prop} {T:TakeT}
theorem o1 {x:Ob} (h:x.holds A T):AllOb A T [x]:=h
theorem o2 {x y:Ob} {r:List Ob} (h:x.holds A T) (h':AllOb A T (y::r)):AllOb A T (x::y::r):=⟨h,h'⟩
end
section
variable {α:Type} [GoE α]
theorem Qlg (l:List α):AV.one (.int .i64 ((eL l).length:Int))=AV.one (.int .i64 (l.length:Int)):=by rw[Zu]
theorem Qq {a b:Bool} (h:a=b):AV.one (.bool a)=AV.one (.bool b):=h▸rfl
theorem zB (p:Prop) [Decidable p] (h:p:=by omega):AV.one (.bool (decide p))=AV.one (.bool true):=Qq (decide_eq_true h)
theorem zC (p:Prop) [Decidable p] (h:¬p:=by omega):AV.one (.bool (decide p))=AV.one (.bool false):=Qq (decide_eq_false h)
theorem OP (t:Tok) (n k:Nat) (lo:Int) (l:List α) (hk:lo.toNat=k):AV.one (.slc t n (((eL l).take (zH ((eL l).length:Int))).drop (zH lo)))=AV.one (.slc t n (eL (List.drop k l))):=by
 subst hk;rw[Int.toNat_natCast,List.take_length,Qjp]
theorem KB (t:Tok) (n k:Nat) (hi:Int) (l:List α) (hk:hi.toNat=k):AV.one (.slc t n (((eL l).take (zH hi)).drop (zH 0)))=AV.one (.slc t n (eL (List.take k l))):=by
 subst hk;rw[Qjo];rfl
theorem Qap {l:List α} {i:Int} {k:Nat} {a:α} (h0:0<=i) (hk:i.toNat=k) (h:l[k]? =some a):0<=i/\(eL l)[i.toNat]? =some (enc a):=⟨h0,by rw[hk];exact Qcl h⟩
theorem G0 {a b m n:Nat} (ha:a=m) (hb:b=n) (h:m+n<=1073741824):a+b<=1073741824:=by omega
theorem IT {l:List α} {lo hi:Int} (h0:0<=lo) (h1:lo<=hi) (h2:hi<=(l.length:Int)):0<=lo/\lo<=hi/\hi<=((eL l).length:Int):=by rw[Zu];exact ⟨h0,h1,h2⟩
theorem OQ {l:List α} {lo:Int} (h0:0<=lo) (h2:lo<=(l.length:Int)):0<=lo/\lo<=((eL l).length:Int)/\((eL l).length:Int)<=((eL l).length:Int):=by rw[Zu];exact ⟨h0,h2,Int.le_refl _⟩
end
theorem Ju {α:Type} [GoE α] {A B:List (List PV)} {a b:List α} (ha:A=eL a) (hb:B=eL b):A++B=eL (a++b):=by rw[ha,hb,Qck]
theorem Qgg {α:Type} [GoE α] (n:Nat) (a:α):xD n (enc a)=eL (xD n a):=by simp[eL]
theorem Y4 {α:Type} [BEq α] [LawfulBEq α] {a b:α} (h:(a==b)=false):a≠b:=by simpa using h
theorem Sq {α:Type} [BEq α] [LawfulBEq α] {a b:α} (h:(a !=b)=true):a≠b:=by simpa using h
theorem Vi {α:Type} [BEq α] [LawfulBEq α] {a b:α} (h:(a !=b)=false):a=b:=by simpa using h
theorem Q4 {α:Sort _} {c:Bool} {a b r:α} (h:c=true) (e:a=r):(bif c then a else b)=r:=by subst h;exact e
theorem Qi {α:Sort _} {c:Bool} {a b r:α} (h:c=false) (e:b=r):(bif c then a else b)=r:=by subst h;exact e
def lt {α R:Type} (t:α) (f:α->R):R:=f t
theorem Zt {α R:Type} {t v:α} {f:α->R} {r:R} (h:t=v) (e:f v=r):lt t f=r:=by subst h;exact e
theorem SL {a b:Int} (h:0<=a/\a<=9223372036854775807):InR .i64 (Int.tmod a b):=by
 have h1:0<=Int.tmod a b:=Int.tmod_nonneg b h.1;have h2:=Int.natAbs_tmod a b;have h3:=Nat.mod_le a.natAbs b.natAbs;constructor<;>simp[IntKind.min,IntKind.max,IntKind.bits,IntKind.signed]<;>omega
inductive Rd (R S T:Type) where
 | next (s:S)
 | brk (t:T)
 | ret (r:R)
inductive Out (R T:Type) where
 | brk (t:T)
 | ret (r:R)
def Out.on {R T:Type} (o:Out R T) (f:T->R):R:=match o with
 | .brk t=>f t
 | .ret r=>r
theorem Wk {R T:Type} {o:Out R T} {f:T->R} {t:T} {r:R} (h:o= .brk t) (e:f t=r):o.on f=r:=by subst h;exact e
theorem Pd {R T:Type} {o:Out R T} {f:T->R} {r:R} (h:o= .ret r):o.on f=r:=by subst h;rfl
def Xz {α R S T:Type} (f:Nat->α->S->Rd R S T) (e:Nat->S->T):List α->Nat->S->Out R T
 | [],k,s=> .brk (e k s)
 | a::l,k,s=>match f k a s with
   | .next s'=>Xz f e l (k+1) s'
   | .brk t=> .brk t
   | .ret r=> .ret r
def Uy {R S T:Type} (f:Nat->S->Rd R S T) (e:Nat->S->T):Nat->Nat->S->Out R T
 | 0,k,s=> .brk (e k s)
 | n+1,k,s=>match f k s with
   | .next s'=>Uy f e n (k+1) s'
   | .brk t=> .brk t
   | .ret r=> .ret r
section
variable {α R S T:Type} {f:Nat->α->S->Rd R S T} {e:Nat->S->T} {l:List α} {k:Nat} {s:S} {a:α} {o:Out R T}
theorem QZ (h:l[k]? =some a):l.drop k=a::l.drop (k+1):=by
 obtain ⟨hlt,rfl⟩:=zF.1 h;exact List.drop_eq_getElem_cons hlt
theorem Qt {s':S} (hx:l[k]? =some a) (h:f k a s= .next s') (hI:o=Xz f e (l.drop k) k s):o=Xz f e (l.drop (k+1)) (k+1) s':=by
 rw[hI,QZ hx];simp only[Xz,h]
theorem EY {t:T} (hx:l[k]? =some a) (h:f k a s= .brk t) (hI:o=Xz f e (l.drop k) k s):o= .brk t:=by
 rw[hI,QZ hx];simp only[Xz,h]
theorem Jv {r:R} (hx:l[k]? =some a) (h:f k a s= .ret r) (hI:o=Xz f e (l.drop k) k s):o= .ret r:=by
 rw[hI,QZ hx];simp only[Xz,h]
theorem Xn {t:T} (hk:k=l.length) (h:e k s=t) (hI:o=Xz f e (l.drop k) k s):o= .brk t:=by
 rw[hI,hk,List.drop_length,←hk];simp only[Xz,h]
end
section
variable {R S T:Type} {f:Nat->S->Rd R S T} {e:Nat->S->T} {n k:Nat} {s:S} {o:Out R T}
theorem V2 {s':S} (hk:k<n) (h:f k s= .next s') (hI:o=Uy f e (n-k) k s):o=Uy f e (n-(k+1)) (k+1) s':=by
 rw[hI,show n-k=n-(k+1)+1 by omega];simp only[Uy,h]
theorem SM {r:R} (hk:k<n) (h:f k s= .ret r) (hI:o=Uy f e (n-k) k s):o= .ret r:=by
 rw[hI,show n-k=n-(k+1)+1 by omega];simp only[Uy,h]
theorem Dc {t:T} (hk:k=n) (h:e k s=t) (hI:o=Uy f e (n-k) k s):o= .brk t:=by
 rw[hI,hk,Nat.sub_self,←hk];simp only[Uy,h]
end
def whl {R S T:Type} (f:S->Rd R S T):Nat->S->Option (Out R T)
 | 0,_=>none
 | n+1,s=>match f s with
   | .next s'=>whl f n s'
   | .brk t=>some (.brk t)
   | .ret r=>some (.ret r)
section
variable {R S T:Type} {f:S->Rd R S T} {n:Nat} {s:S} {o:Out R T}
theorem Qgh {s':S} (h:f s= .next s') (hI:whl f (n+1) s=some o):whl f n s'=some o:=by simpa only[whl,h] using hI
theorem Qj0 {t:T} (h:f s= .brk t) (hI:whl f (n+1) s=some o):o= .brk t:=by simp only[whl,h] at hI;exact (zD hI).symm
theorem Qj1 {r:R} (h:f s= .ret r) (hI:whl f (n+1) s=some o):o= .ret r:=by simp only[whl,h] at hI;exact (zD hI).symm
end
instance {R T:Type} [Inhabited T]:Inhabited (Out R T):=⟨.brk default⟩
def I0 {R S T:Type} [Inhabited T] (f:S->Rd R S T) (n:Nat) (s:S):Out R T:=(whl f n s).getD default
theorem Fl {R S T:Type} [Inhabited T] {f:S->Rd R S T} {n:Nat} {s:S} (h:(whl f n s).isSome=true):whl f n s=some (I0 f n s):=by
 unfold I0;cases hw:whl f n s with
 | none=>rw[hw] at h;cases h
 | some o=>rfl
theorem G1 {R S T:Type} {f:S->Rd R S T} {s:S} {o:Out R T}:¬whl f 0 s=some o:=by simp[whl]
def QL (id:Nat) (A B:St->Prop) (Q:Exit->St->Prop):Exit->St->Prop
 | .normal,s=>A s
 | .exit i,s=>bif zP i id then B s else Q (.exit i) s
 | e,s=>Q e s
section
variable {P:Program} {N:Nat} {w0:Base} {F0:Nat->Prop} {Q:Exit->St->Prop} {s s':St} {c:Code} {σ τ:Type} {id:Nat}
theorem Bb (mk:Nat->σ->St) (after:τ->St) (I:Nat->σ->Prop) (D:τ->Prop) (len:Nat) (x0:σ) (h0:Weak s (mk 0 x0)) (i0:I 0 x0)
 (hr:∀k x,k<len->I k x->AWP P N w0 F0 c (QL id (λs'=>∃x',Weak s' (mk (k+1) x')/\I (k+1) x') (λs'=>∃y,Weak s' (after y)/\D y) Q) (mk k x))
 (he:∀k x,k=len->I k x->AWP P N w0 F0 c (QL id (λ_=>False) (λs'=>∃y,Weak s' (after y)/\D y) Q) (mk k x))
 (ha:∀y,D y->Q .normal (after y)):AWP P N w0 F0 (.block id (.loop c)) Q s:=by
 refine Qv (P9 h0 (Qf4 (λn s=>∃k x,k<=len/\n=len-k/\s=mk k x/\I k x) (n:=len) ⟨0,x0,yW _,by omega,rfl,i0⟩ ?_))
 rintro n _ ⟨k,x,hk,rfl,rfl,hi⟩
 have hex:∀(A:St->Prop) (i:Nat) (s':St),QL id A (λs'=>∃y,Weak s' (after y)/\D y) Q (.exit i) s'->∀(J:Inj) (a:Act) (w:World),Rel N w0 F0 J a w s'->∃J s,Rel N w0 F0 J a w s/\Exit.inBlockS id Q (.exit i) s:=by
  intro A i s' hq J a w hR;simp only[QL] at hq;cases hb:zP i id with
  | true=>
    rw[hb] at hq;obtain ⟨y,hw,hd⟩:=hq;obtain ⟨J',hR'⟩:=hw N w0 F0 J a w hR;exact ⟨J',_,hR',by simp only[Exit.inBlockS,hb,cond_true];exact ha y hd⟩
  | false=>
    rw[hb] at hq;exact ⟨J,s',hR,by simp only[Exit.inBlockS,hb,cond_false];exact hq⟩
 intro J a w hrel;by_cases h:k<len
 . refine wp_mono (hr k x h hi J a w hrel) ?_
   rintro e a' w' ⟨J',s',hR,hq⟩
   cases e with
   | normal=>
     obtain ⟨x',hw,hi'⟩:=hq;exact ⟨J',s',hR,len-(k+1),_,by omega,hw,k+1,x',by omega,rfl,rfl,hi'⟩
   | exit i=>exact hex _ i s' hq J' a' w' hR
   | _=>exact ⟨J',s',hR,hq⟩
 obtain rfl:k=len:=by omega
 refine wp_mono (he _ x rfl hi J a w hrel) ?_
 rintro e a' w' ⟨J',s',hR,hq⟩
 cases e with
 | normal=>exact hq.elim
 | exit i=>exact hex _ i s' hq J' a' w' hR
 | _=>exact ⟨J',s',hR,hq⟩
theorem Qaq (mk:σ->St) (after:τ->St) (I:Nat->σ->Prop) (D:τ->Prop) (n:Nat) (x0:σ) (h0:Weak s (mk x0)) (i0:I n x0) (hz:∀x,¬I 0 x)
 (hr:∀n x,I (n+1) x->AWP P N w0 F0 c (QL id (λs'=>∃x',Weak s' (mk x')/\I n x') (λs'=>∃y,Weak s' (after y)/\D y) Q) (mk x))
 (ha:∀y,D y->Q .normal (after y)):AWP P N w0 F0 (.block id (.loop c)) Q s:=by
 refine Bb (λ_=>mk) after (λk x=>∃m,m+k=n/\I m x) D n x0 h0 ⟨n,rfl,i0⟩ (λk x hk ⟨m,hm,hi⟩=> ?_) (λk x hk ⟨m,hm,hi⟩=> ?_) ha
 . obtain ⟨m,rfl⟩:∃j,m=j+1:=⟨m-1,by omega⟩;refine Qf3 (hr m x hi) λe s' hq=> ?_
   cases e with
   | normal=>obtain ⟨x',hw,hi'⟩:=hq;exact ⟨x',hw,m,by omega,hi'⟩
   | _=>exact hq
 obtain rfl:m=0:=by omega
 exact (hz x hi).elim
def QJ (s3:St) (e:Exit) (s':St):Prop:=e= .normal/\Weak s' s3
theorem Qgi (s3:St) (b:Bool) (h1:b=true->AWP P N w0 F0 c (QJ s3) s) (h0:b=false->AWP P N w0 F0 c (QJ s3) s) (hQ:Q .normal s3):AWP P N w0 F0 c Q s:=by
 have key:AWP P N w0 F0 c (QJ s3) s:=by cases hb:b with
  | true=>exact h1 hb
  | false=>exact h0 hb
 intro J a w hr;refine wp_mono (key J a w hr) ?_
 rintro e a' w' ⟨J',s',hR,rfl,hw⟩
 obtain ⟨J2,hR2⟩:=hw N w0 F0 J' a' w' hR;exact ⟨J2,s3,hR2,hQ⟩
theorem Xu (b:Bool) (h1:b=true->AWP P N w0 F0 c Q s) (h0:b=false->AWP P N w0 F0 c Q s):AWP P N w0 F0 c Q s:=by cases hb:b with
 | true=>exact h1 hb
 | false=>exact h0 hb
theorem Qc2 {t:Nat} {x y:Code} (hc:get s.tm t=some (.one (.bool true))) (h1:AWP P N w0 F0 x Q s):AWP P N w0 F0 (.cond (.tmp t) x y) Q s:=YF hc (λ_=>h1) (λh=>by cases h)
theorem Qc3 {t:Nat} {x y:Code} (hc:get s.tm t=some (.one (.bool false))) (h1:AWP P N w0 F0 y Q s):AWP P N w0 F0 (.cond (.tmp t) x y) Q s:=YF hc (λh=>by cases h) (λ_=>h1)
theorem Qar {t:Nat} {x y:Code} {b:Bool} (hc:get s.tm t=some (.one (.bool b))) (hb:b=true) (h1:AWP P N w0 F0 x Q s):AWP P N w0 F0 (.cond (.tmp t) x y) Q s:=YF hc (λ_=>h1) (λh=>absurd (hb.symm.trans h) (by decide))
theorem Qas {t:Nat} {x y:Code} {b:Bool} (hc:get s.tm t=some (.one (.bool b))) (hb:b=false) (h1:AWP P N w0 F0 y Q s):AWP P N w0 F0 (.cond (.tmp t) x y) Q s:=YF hc (λh=>absurd (hb.symm.trans h) (by decide)) (λ_=>h1)
end
theorem XA {a b:Bool} (h:(a&&b)=true):a=true:=by cases a<;>simp_all
theorem KC {a b:Bool} (h:(a&&b)=true):b=true:=by cases a<;>simp_all
theorem Re {a b:Bool} (h:(a|| b)=false):a=false:=by cases a<;>simp_all
theorem Pz {a b:Bool} (h:(a|| b)=false):b=false:=by cases a<;>simp_all
theorem Vj {b:Bool} (h:(!b)=true):b=false:=by cases b<;>simp_all
theorem Za {b:Bool} (h:(!b)=false):b=true:=by cases b<;>simp_all
def Qj2 {α:Type} (d:List Nat):List (Nat×α)->List (Nat×α)
 | []=> []
 | p::r=>bif Se p.1 d then Qj2 d r else p::Qj2 d r
def Qmx {α:Type} (u:List (Nat×α)) (d:List Nat) (l:List (Nat×α)):List (Nat×α):=u++Qj2 d l
def Rf {α:Type}:List (Nat×α)->List Nat
 | []=> []
 | p::r=>p.1::Rf r
def St.up (s:St) (u:List (Nat×AV)) (d:List Nat) (bu:List (Nat×List C)) (bd:List Nat):St:=⟨Qmx u d s.tm,Qmx bu bd s.bx⟩
def St.fit (s s':St):St:=s.keep (Rf s'.tm) (Rf s'.bx)
theorem Qf {s s':St} (h:s.fit s'=s'):Weak s s':=Qcd _ _ h
theorem zA {α:Type} {e:α} {s s':St} (h:s.fit s'=s'):e=e/\Weak s s':=⟨rfl,Qf h⟩
def St.cellT (s:St) (t i:Nat):Option C:=match get s.tm t with
 | some (.one c)=>(match i with | 0=>some c | _=>none)
 | some (.agg cs)=>cs[i]?
 | _=>none
def St.cellB (s:St) (b i:Nat):Option C:=match get s.bx b with
 | some cs=>cs[i]?
 | _=>none
section
variable {P:Program} {N:Nat} {w0:Base} {F0:Nat->Prop} {Q:Exit->St->Prop} {s:St} {c:Code}
theorem ck {t:Nat} {x y:Code} (b:Bool) (h1:b=true->AWP P N w0 F0 x Q s) (h2:b=false->AWP P N w0 F0 y Q s) (hc:get s.tm t=some (.one (.bool b)):=by kernel_rfl):AWP P N w0 F0 (.cond (.tmp t) x y) Q s:=YF hc h1 h2
theorem ckT {t:Nat} {x y:Code} (h1:AWP P N w0 F0 x Q s) (hc:get s.tm t=some (.one (.bool true)):=by kernel_rfl):AWP P N w0 F0 (.cond (.tmp t) x y) Q s:=Qc2 hc h1
theorem ckF {t:Nat} {x y:Code} (h1:AWP P N w0 F0 y Q s) (hc:get s.tm t=some (.one (.bool false)):=by kernel_rfl):AWP P N w0 F0 (.cond (.tmp t) x y) Q s:=Qc3 hc h1
theorem ckt {t:Nat} {x y:Code} {b:Bool} (hb:b=true) (h1:AWP P N w0 F0 x Q s) (hc:get s.tm t=some (.one (.bool b)):=by kernel_rfl):AWP P N w0 F0 (.cond (.tmp t) x y) Q s:=Qar hc hb h1
theorem ckf {t:Nat} {x y:Code} {b:Bool} (hb:b=false) (h1:AWP P N w0 F0 y Q s) (hc:get s.tm t=some (.one (.bool b)):=by kernel_rfl):AWP P N w0 F0 (.cond (.tmp t) x y) Q s:=Qas hc hb h1
theorem jn (u:List (Nat×AV)) (d:List Nat) (bu:List (Nat×List C)) (bd:List Nat) (b:Bool) (h1:b=true->AWP P N w0 F0 c (QJ (s.up u d bu bd)) s) (h0:b=false->AWP P N w0 F0 c (QJ (s.up u d bu bd)) s) (hQ:Q .normal (s.up u d bu bd)):AWP P N w0 F0 c Q s:=Qgi _ b h1 h0 hQ
theorem eqn (u:List (Nat×AV)) (d:List Nat) (bu:List (Nat×List C)) (bd:List Nat) (h:s.fit (s.up u d bu bd)=s.up u d bu bd) (k:AWP P N w0 F0 c Q (s.up u d bu bd)):AWP P N w0 F0 c Q s:=P9 (Qf h) k
theorem Qc4 {J:Inj} {a:Act} {w:World} (h:Rel N w0 F0 J a w s) {t i:Nat} {x:C} (hc:s.cellT t i=some x):∃u,CR J w u x:=by
 unfold St.cellT at hc;split at hc
 . rename_i y hg;split at hc
   . obtain rfl:=zD hc;exact ⟨_,h.tm t _ hg⟩
   cases hc
 . rename_i cs hg;obtain ⟨vs,_,ha⟩:=h.tm t _ hg;obtain ⟨u,_,hu⟩:=ha.get' hc;exact ⟨u,hu⟩
 cases hc
theorem Qj3 {J:Inj} {a:Act} {w:World} (h:Rel N w0 F0 J a w s) {b i:Nat} {x:C} (hc:s.cellB b i=some x):∃u,CR J w u x:=by
 unfold St.cellB at hc;split at hc
 . rename_i cs hg;obtain ⟨_,_,_,arr,e,_,ha⟩:=h.bo b _ hg;obtain ⟨u,_,hu⟩:=ha.get' hc;exact ⟨u,hu⟩
 cases hc
theorem wdT {α:Type} [GoE α] (t i:Nat) (tok:Tok) (l:List α) (k:wide l->AWP P N w0 F0 c Q s) (h:s.cellT t i=some (.slc tok (GoD.n α) (eL l)):=by kernel_rfl):AWP P N w0 F0 c Q s:=λJ a w hr=>k (by obtain ⟨u,hu⟩:=Qc4 hr h;exact IS hu) J a w hr
theorem wdB {α:Type} [GoE α] (b i:Nat) (tok:Tok) (l:List α) (k:wide l->AWP P N w0 F0 c Q s) (h:s.cellB b i=some (.slc tok (GoD.n α) (eL l)):=by kernel_rfl):AWP P N w0 F0 c Q s:=λJ a w hr=>k (by obtain ⟨u,hu⟩:=Qj3 hr h;exact IS hu) J a w hr
theorem stT (t i:Nat) (x:ByteArray) (k:x.size<=9223372036854775807->AWP P N w0 F0 c Q s) (h:s.cellT t i=some (.str x):=by kernel_rfl):AWP P N w0 F0 c Q s:=λJ a w hr=>k (by obtain ⟨u,hu⟩:=Qc4 hr h;exact hu.2) J a w hr
theorem blk {σ τ:Type} {id:Nat} (u:Nat->σ->List (Nat×AV)) (d:List Nat) (bu:Nat->σ->List (Nat×List C)) (bd:List Nat) (ua:τ->List (Nat×AV)) (da:List Nat) (ba:τ->List (Nat×List C)) (bda:List Nat) (I:Nat->σ->Prop) (D:τ->Prop) (len:Nat) (x0:σ)
 (h0:Weak s (s.up (u 0 x0) d (bu 0 x0) bd)) (i0:I 0 x0)
 (hr:∀k x,k<len->I k x->AWP P N w0 F0 c (QL id (λs'=>∃x',Weak s' (s.up (u (k+1) x') d (bu (k+1) x') bd)/\I (k+1) x') (λs'=>∃y,Weak s' (s.up (ua y) da (ba y) bda)/\D y) Q) (s.up (u k x) d (bu k x) bd))
 (he:∀k x,k=len->I k x->AWP P N w0 F0 c (QL id (λ_=>False) (λs'=>∃y,Weak s' (s.up (ua y) da (ba y) bda)/\D y) Q) (s.up (u k x) d (bu k x) bd))
 (ha:∀y,D y->Q .normal (s.up (ua y) da (ba y) bda)):AWP P N w0 F0 (.block id (.loop c)) Q s:=Bb _ _ I D len x0 h0 i0 hr he ha
theorem blw {σ τ:Type} {id:Nat} (u:σ->List (Nat×AV)) (d:List Nat) (bu:σ->List (Nat×List C)) (bd:List Nat) (ua:τ->List (Nat×AV)) (da:List Nat) (ba:τ->List (Nat×List C)) (bda:List Nat) (I:Nat->σ->Prop) (D:τ->Prop) (n:Nat) (x0:σ)
 (h0:Weak s (s.up (u x0) d (bu x0) bd)) (i0:I n x0) (hz:∀x,¬I 0 x)
 (hr:∀n x,I (n+1) x->AWP P N w0 F0 c (QL id (λs'=>∃x',Weak s' (s.up (u x') d (bu x') bd)/\I n x') (λs'=>∃y,Weak s' (s.up (ua y) da (ba y) bda)/\D y) Q) (s.up (u x) d (bu x) bd))
 (ha:∀y,D y->Q .normal (s.up (ua y) da (ba y) bda)):AWP P N w0 F0 (.block id (.loop c)) Q s:=Qaq _ _ I D n x0 h0 i0 hz hr ha
end
theorem Jl {a b:Int} (h:a=b):AV.i a=AV.i b:=h▸rfl
theorem cb {P:Program} {f:Nat} {args:List AV} {a b:Bool} (h:a=b) (c:ACalls P f args (.b a)):ACalls P f args (.b b):=h▸c
theorem Xg {s s':St} (sw:List (Nat×Nat)) (h:(s.swaps sw).fit s'=s'):Weak s s':=(CV sw s).trans (Qf h)
theorem Ao {s s':St} (os:List (Bool×Nat×Nat×Bool×Nat×Nat)) (fz ds:List Nat) (sw:List (Nat×Nat)) (h:((((s.opens os).map (U0 (Yb fz) none)).demotes ds).swaps sw).fit s'=s'):Weak s s':=
 (JW os s).trans ((Fx fz rfl).trans ((Sk ds _).trans (Xg sw h)))
theorem opn {P:Program} {N:Nat} {w0:Base} {F0:Nat->Prop} {Q:Exit->St->Prop} {s:St} {c:Code} (l:List (Bool×Nat×Nat×Bool×Nat×Nat)) (h:AWP P N w0 F0 c Q (s.opens l)):AWP P N w0 F0 c Q s:=Qcf l rfl h
open GoE (enc wide)
def PL (A:Nat->List AV->AV->Prop) (T:TakeT) (_:List (Nat×Orc)) (obs:List Ob):Prop:=AllOb A T obs
section
variable {A:Nat->List AV->AV->Prop} {T:TakeT} {orcs:List (Nat×Orc)} {obs:List Ob}
theorem Pj {x:Ob} {r:List Ob} (h:x.holds A T) (k:AllOb A T r):AllOb A T (x::r):=by
 cases r with
 | nil=>exact h
 | cons y r=>exact ⟨h,k⟩
theorem p0:PL A T [] []:=trivial
theorem px {x:Ob} (h:x.holds A T) (k:PL A T orcs obs):PL A T orcs (x::obs):=Pj h k
theorem po (i:Nat) (o:Orc) (k:PL A T orcs obs):PL A T ((i,o)::orcs) obs:=k
theorem pe (i:Nat) {a b:AV} (h:a=b) (k:PL A T orcs obs):PL A T ((i,.val b)::orcs) (.eq a b::obs):=Pj (x:= .eq a b) h k
theorem pr (i:Nat) {l:List (List PV)} {j:Int} {r:List PV} (h:0<=j/\l[j.toNat]? =some r) (k:PL A T orcs obs):PL A T ((i,.row r)::orcs) (.elem l j r::obs):=Pj (x:= .elem l j r) h k
theorem pR (i:Nat) {l:List (List PV)} {j:Int} {r:List PV} (h:0<=j/\l[j.toNat]? =some r) (k:PL A T orcs obs):PL A T ((i,.rowE r)::orcs) (.elem l j r::obs):=Pj (x:= .elem l j r) h k
end
section
variable {P:Program} {w0:Base} {T:TakeT} {orcs:List (Nat×Orc)} {obs:List Ob}
theorem pc [GoodAt P w0] (i:Nat) {f:Nat} {args:List AV} {r:AV} (h:ACalls P f args r) (k:PL (Jk P w0) T orcs obs):PL (Jk P w0) T ((i,.val r)::orcs) (.call f args r::obs):=Pj (Qjt h) k
end
section
variable {A:Nat->List AV->AV->Prop} {T:TakeT} {orcs:List (Nat×Orc)} {obs:List Ob}
theorem pl (i:Nat) {α:Type} [GoE α] (l:List α) (k:PL A T orcs obs):PL A T ((i,.val (.i (l.length:Int)))::orcs) (.eq (.one (.int .i64 ((eL l).length:Int))) (.i (l.length:Int))::obs):=pe i (Qlg l) k
theorem pt (i:Nat) {b:Bool} (h:b=true) (k:PL A T orcs obs):PL A T ((i,.val (.b true))::orcs) (.eq (.one (.bool b)) (.b true)::obs):=pe i (Qq h) k
theorem pf (i:Nat) {b:Bool} (h:b=false) (k:PL A T orcs obs):PL A T ((i,.val (.b false))::orcs) (.eq (.one (.bool b)) (.b false)::obs):=pe i (Qq h) k
theorem pg (i:Nat) {α:Type} [GoE α] {l:List α} (j:Int) {k:Nat} {a:α} (h:l[k]? =some a) (r:PL A T orcs obs) (h0:0<=j:=by omega) (hk:j.toNat=k:=by rfl):PL A T ((i,.row (enc a))::orcs) (.elem (eL l) j (enc a)::obs):=pr i (Qap h0 hk h) r
theorem pG (i:Nat) {α:Type} [GoE α] {l:List α} (j:Int) {k:Nat} {a:α} (h:l[k]? =some a) (r:PL A T orcs obs) (h0:0<=j:=by omega) (hk:j.toNat=k:=by rfl):PL A T ((i,.rowE (enc a))::orcs) (.elem (eL l) j (enc a)::obs):=pR i (Qap h0 hk h) r
theorem pn (i:Nat) {α:Type} [GoE α] {l:List α} {k:Nat} {a:α} (h:l[k]? =some a) (r:PL A T orcs obs):PL A T ((i,.row (enc a))::orcs) (.elem (eL l) (k:Int) (enc a)::obs):=pr i (Qap (Int.natCast_nonneg k) rfl h) r
theorem pN (i:Nat) {α:Type} [GoE α] {l:List α} {k:Nat} {a:α} (h:l[k]? =some a) (r:PL A T orcs obs):PL A T ((i,.rowE (enc a))::orcs) (.elem (eL l) (k:Int) (enc a)::obs):=pR i (Qap (Int.natCast_nonneg k) rfl h) r
theorem pa {α:Type} [GoE α] (a b:List α) (r:PL A T orcs obs) (h:a.length+b.length<=1073741824:=by first|omega|(simp only[yU,List.length_nil];omega) | (simp;omega) | simp):PL A T orcs (.len ((eL a).length+(eL b).length)::obs):=px (Ey (G0 (Zu a) (Zu b) h)) r
end
def nx (tt:List (Nat×TI)) (N:Nat) (orcs:List (Nat×Orc)) (ops:List Oper) (ts bs:List Nat) (s:St):St:=match Ry tt N orcs ops ops 0 s with
 | some (s',_)=>s'.keep ts bs
 | none=>s
def nd (tt:List (Nat×TI)) (N:Nat) (orcs:List (Nat×Orc)) (ops:List Oper) (ts bs:List Nat) (s:St):St:=match I4 tt N orcs ops ts bs s with
 | some (s',_)=>s'
 | none=>s
def hd (x _:St):St:=x
section
variable {P:Program} {N:Nat} {w0:Base} {F0:Nat->Prop} {Q:Exit->St->Prop} {s x:St} {c y:Code} {tt:List (Nat×TI)} {orcs:List (Nat×Orc)} {obs:List Ob} {id:Nat} {ops:Array Oper}
theorem rn0 (htt:Nj P tt=true) (ts bs:List Nat) (hob:PL (Jk P w0) (U9 P w0) orcs obs) (hQ:Q .normal (nx tt N orcs ops.toList ts bs s))
 (h:(Ry tt N orcs ops.toList ops.toList 0 s).map yS=some obs):AWP P N w0 F0 (.region id ops false) Q s:=by
 cases hr:Ry tt N orcs ops.toList ops.toList 0 s with
 | none=>rw[hr] at h;cases h
 | some x=>
   obtain ⟨s',obs'⟩:=x;rw[hr] at h;obtain rfl:obs'=obs:=zD h;refine QR htt orcs ts bs (s':=nx tt N orcs ops.toList ts bs s) ?_ hob hQ;unfold QQ nx;rw[hr]
theorem rN0 (htt:Nj P tt=true) (hm:P.follows .mixedOrders=true) (ts bs:List Nat) (hob:PL (Jk P w0) (U9 P w0) orcs obs) (hQ:Q .normal (nd tt N orcs ops.toList ts bs s))
 (h:(I4 tt N orcs ops.toList ts bs s).map yS=some obs):AWP P N w0 F0 (.region id ops true) Q s:=by
 cases hr:I4 tt N orcs ops.toList ts bs s with
 | none=>rw[hr] at h;cases h
 | some x=>
   obtain ⟨s',obs'⟩:=x;rw[hr] at h;obtain rfl:obs'=obs:=zD h;refine EV htt hm orcs ts bs (s':=nd tt N orcs ops.toList ts bs s) ?_ hob hQ;unfold nd;rw[hr]
theorem rn (htt:Nj P tt=true) (ts bs:List Nat) (hob:PL (Jk P w0) (U9 P w0) orcs obs) (hQ:Q .normal (hd (nx tt N orcs ops.toList ts bs s) s))
 (h:(Ry tt N orcs ops.toList ops.toList 0 s).map yS=some obs:=by kernel_rfl):AWP P N w0 F0 (.region id ops false) Q s:=rn0 htt ts bs (s:=s) hob hQ h
theorem sn (htt:Nj P tt=true) (ts bs:List Nat) (hob:PL (Jk P w0) (U9 P w0) orcs obs) (hQ:AWP P N w0 F0 y Q (hd (nx tt N orcs ops.toList ts bs s) s))
 (h:(Ry tt N orcs ops.toList ops.toList 0 s).map yS=some obs:=by kernel_rfl):AWP P N w0 F0 (.seq (.region id ops false) y) Q s:=Qc (rn htt ts bs hob hQ h)
theorem ru (htt:Nj P tt=true) (u:List (Nat×AV)) (d:List Nat) (bu:List (Nat×List C)) (bd:List Nat) (hob:PL (Jk P w0) (U9 P w0) orcs obs) (hQ:Q .normal (s.up u d bu bd))
 (h:QQ tt N orcs ops.toList (Rf (s.up u d bu bd).tm) (Rf (s.up u d bu bd).bx) s=some (s.up u d bu bd,obs):=by kernel_rfl):AWP P N w0 F0 (.region id ops false) Q s:=QR htt orcs _ _ (s:=s) h hob hQ
theorem su (htt:Nj P tt=true) (u:List (Nat×AV)) (d:List Nat) (bu:List (Nat×List C)) (bd:List Nat) (hob:PL (Jk P w0) (U9 P w0) orcs obs) (hQ:AWP P N w0 F0 y Q (s.up u d bu bd))
 (h:QQ tt N orcs ops.toList (Rf (s.up u d bu bd).tm) (Rf (s.up u d bu bd).bx) s=some (s.up u d bu bd,obs):=by kernel_rfl):AWP P N w0 F0 (.seq (.region id ops false) y) Q s:=Qc (ru htt u d bu bd hob hQ h)
theorem rN (htt:Nj P tt=true) (hm:P.follows .mixedOrders=true) (ts bs:List Nat) (hob:PL (Jk P w0) (U9 P w0) orcs obs) (hQ:Q .normal (hd (nd tt N orcs ops.toList ts bs s) s))
 (h:(I4 tt N orcs ops.toList ts bs s).map yS=some obs:=by kernel_rfl):AWP P N w0 F0 (.region id ops true) Q s:=rN0 htt hm ts bs (s:=s) hob hQ h
theorem sN (htt:Nj P tt=true) (hm:P.follows .mixedOrders=true) (ts bs:List Nat) (hob:PL (Jk P w0) (U9 P w0) orcs obs) (hQ:AWP P N w0 F0 y Q (hd (nd tt N orcs ops.toList ts bs s) s))
 (h:(I4 tt N orcs ops.toList ts bs s).map yS=some obs:=by kernel_rfl):AWP P N w0 F0 (.seq (.region id ops true) y) Q s:=Qc (rN htt hm ts bs hob hQ h)
theorem rU (htt:Nj P tt=true) (hm:P.follows .mixedOrders=true) (u:List (Nat×AV)) (d:List Nat) (bu:List (Nat×List C)) (bd:List Nat) (hob:PL (Jk P w0) (U9 P w0) orcs obs) (hQ:Q .normal (s.up u d bu bd))
 (h:I4 tt N orcs ops.toList (Rf (s.up u d bu bd).tm) (Rf (s.up u d bu bd).bx) s=some (s.up u d bu bd,obs):=by kernel_rfl):AWP P N w0 F0 (.region id ops true) Q s:=EV htt hm orcs _ _ (s:=s) h hob hQ
theorem sU (htt:Nj P tt=true) (hm:P.follows .mixedOrders=true) (u:List (Nat×AV)) (d:List Nat) (bu:List (Nat×List C)) (bd:List Nat) (hob:PL (Jk P w0) (U9 P w0) orcs obs) (hQ:AWP P N w0 F0 y Q (s.up u d bu bd))
 (h:I4 tt N orcs ops.toList (Rf (s.up u d bu bd).tm) (Rf (s.up u d bu bd).bx) s=some (s.up u d bu bd,obs):=by kernel_rfl):AWP P N w0 F0 (.seq (.region id ops true) y) Q s:=Qc (rU htt hm u d bu bd hob hQ h)
theorem qn (htt:Nj P tt=true) (ts bs:List Nat) (hob:PL (Jk P w0) (U9 P w0) orcs obs) (hQ:Q .normal (hd (nx tt N orcs ops.toList ts bs x) s))
 (h:(Ry tt N orcs ops.toList ops.toList 0 x).map yS=some obs:=by kernel_rfl):AWP P N w0 F0 (.region id ops false) Q (hd x s):=rn0 htt ts bs (s:=x) hob hQ h
theorem tn (htt:Nj P tt=true) (ts bs:List Nat) (hob:PL (Jk P w0) (U9 P w0) orcs obs) (hQ:AWP P N w0 F0 y Q (hd (nx tt N orcs ops.toList ts bs x) s))
 (h:(Ry tt N orcs ops.toList ops.toList 0 x).map yS=some obs:=by kernel_rfl):AWP P N w0 F0 (.seq (.region id ops false) y) Q (hd x s):=Qc (qn htt ts bs hob hQ h)
theorem qu (htt:Nj P tt=true) (u:List (Nat×AV)) (d:List Nat) (bu:List (Nat×List C)) (bd:List Nat) (hob:PL (Jk P w0) (U9 P w0) orcs obs) (hQ:Q .normal (s.up u d bu bd))
 (h:QQ tt N orcs ops.toList (Rf (s.up u d bu bd).tm) (Rf (s.up u d bu bd).bx) x=some (s.up u d bu bd,obs):=by kernel_rfl):AWP P N w0 F0 (.region id ops false) Q (hd x s):=QR htt orcs _ _ (s:=x) h hob hQ
theorem tu (htt:Nj P tt=true) (u:List (Nat×AV)) (d:List Nat) (bu:List (Nat×List C)) (bd:List Nat) (hob:PL (Jk P w0) (U9 P w0) orcs obs) (hQ:AWP P N w0 F0 y Q (s.up u d bu bd))
 (h:QQ tt N orcs ops.toList (Rf (s.up u d bu bd).tm) (Rf (s.up u d bu bd).bx) x=some (s.up u d bu bd,obs):=by kernel_rfl):AWP P N w0 F0 (.seq (.region id ops false) y) Q (hd x s):=Qc (qu htt u d bu bd hob hQ h)
theorem qN (htt:Nj P tt=true) (hm:P.follows .mixedOrders=true) (ts bs:List Nat) (hob:PL (Jk P w0) (U9 P w0) orcs obs) (hQ:Q .normal (hd (nd tt N orcs ops.toList ts bs x) s))
 (h:(I4 tt N orcs ops.toList ts bs x).map yS=some obs:=by kernel_rfl):AWP P N w0 F0 (.region id ops true) Q (hd x s):=rN0 htt hm ts bs (s:=x) hob hQ h
theorem tN (htt:Nj P tt=true) (hm:P.follows .mixedOrders=true) (ts bs:List Nat) (hob:PL (Jk P w0) (U9 P w0) orcs obs) (hQ:AWP P N w0 F0 y Q (hd (nd tt N orcs ops.toList ts bs x) s))
 (h:(I4 tt N orcs ops.toList ts bs x).map yS=some obs:=by kernel_rfl):AWP P N w0 F0 (.seq (.region id ops true) y) Q (hd x s):=Qc (qN htt hm ts bs hob hQ h)
theorem qU (htt:Nj P tt=true) (hm:P.follows .mixedOrders=true) (u:List (Nat×AV)) (d:List Nat) (bu:List (Nat×List C)) (bd:List Nat) (hob:PL (Jk P w0) (U9 P w0) orcs obs) (hQ:Q .normal (s.up u d bu bd))
 (h:I4 tt N orcs ops.toList (Rf (s.up u d bu bd).tm) (Rf (s.up u d bu bd).bx) x=some (s.up u d bu bd,obs):=by kernel_rfl):AWP P N w0 F0 (.region id ops true) Q (hd x s):=EV htt hm orcs _ _ (s:=x) h hob hQ
theorem tU (htt:Nj P tt=true) (hm:P.follows .mixedOrders=true) (u:List (Nat×AV)) (d:List Nat) (bu:List (Nat×List C)) (bd:List Nat) (hob:PL (Jk P w0) (U9 P w0) orcs obs) (hQ:AWP P N w0 F0 y Q (s.up u d bu bd))
 (h:I4 tt N orcs ops.toList (Rf (s.up u d bu bd).tm) (Rf (s.up u d bu bd).bx) x=some (s.up u d bu bd,obs):=by kernel_rfl):AWP P N w0 F0 (.seq (.region id ops true) y) Q (hd x s):=Qc (qU htt hm u d bu bd hob hQ h)
theorem mz (u:List (Nat×AV)) (d:List Nat) (bu:List (Nat×List C)) (bd:List Nat) (k:AWP P N w0 F0 c Q (s.up u d bu bd)) (h:x.fit (s.up u d bu bd)=s.up u d bu bd:=by kernel_rfl):AWP P N w0 F0 c Q (hd x s):=P9 (s:=x) (Qf h) k
theorem wT {α:Type} [GoE α] (t i:Nat) (tok:Tok) (l:List α) (k:wide l->l.length<=1073741824->AWP P N w0 F0 c Q s) (h:s.cellT t i=some (.slc tok (GoD.n α) (eL l)):=by kernel_rfl):AWP P N w0 F0 c Q s:=wdT t i tok l (λhw=>k hw (Gz hw)) h
theorem wB {α:Type} [GoE α] (b i:Nat) (tok:Tok) (l:List α) (k:wide l->l.length<=1073741824->AWP P N w0 F0 c Q s) (h:s.cellB b i=some (.slc tok (GoD.n α) (eL l)):=by kernel_rfl):AWP P N w0 F0 c Q s:=wdB b i tok l (λhw=>k hw (Gz hw)) h
end
section
variable {P:Program} {N:Nat} {w0:Base} {F0:Nat->Prop} {Q:Exit->St->Prop} {s:St} {c:Code} {α R σ τ:Type} {id:Nat}
theorem P0 (f:Nat->α->σ->Rd R σ τ) (e:Nat->σ->τ) (l:List α) (x0:σ) (u:Nat->σ->List (Nat×AV)) (d:List Nat) (ua:τ->List (Nat×AV)) (da:List Nat)
 (h0:Weak s (s.up (u 0 x0) d [] []))
 (hr:∀k x,k<l.length->Xz f e l 0 x0=Xz f e (l.drop k) k x->AWP P N w0 F0 c (QL id (λs'=>∃x',Weak s' (s.up (u (k+1) x') d [] [])/\(Xz f e l 0 x0=Xz f e (l.drop (k+1)) (k+1) x')) (λs'=>∃y,Weak s' (s.up (ua y) da [] [])/\Xz f e l 0 x0= .brk y) Q) (s.up (u k x) d [] []))
 (he:∀k x,k=l.length->Xz f e l 0 x0=Xz f e (l.drop k) k x->AWP P N w0 F0 c (QL id (λ_=>False) (λs'=>∃y,Weak s' (s.up (ua y) da [] [])/\Xz f e l 0 x0= .brk y) Q) (s.up (u k x) d [] []))
 (ha:∀y,Xz f e l 0 x0= .brk y->Q .normal (s.up (ua y) da [] [])):AWP P N w0 F0 (.block id (.loop c)) Q s:=Bb (λk x=>s.up (u k x) d [] []) (λy=>s.up (ua y) da [] []) (λk x=>Xz f e l 0 x0=Xz f e (l.drop k) k x) (λy=>Xz f e l 0 x0= .brk y) l.length x0 h0 rfl hr he ha
theorem KD (f:Nat->α->σ->Rd R σ τ) (e:Nat->σ->τ) (l:List α) (x0:σ) (u:Nat->σ->List (Nat×AV)) (d:List Nat) (ua:τ->List (Nat×AV)) (da:List Nat) (A:Nat->σ->Prop)
 (h0:Weak s (s.up (u 0 x0) d [] [])) (i0:A 0 x0)
 (hr:∀k x,k<l.length->Xz f e l 0 x0=Xz f e (l.drop k) k x/\A k x->AWP P N w0 F0 c (QL id (λs'=>∃x',Weak s' (s.up (u (k+1) x') d [] [])/\(Xz f e l 0 x0=Xz f e (l.drop (k+1)) (k+1) x'/\A (k+1) x')) (λs'=>∃y,Weak s' (s.up (ua y) da [] [])/\Xz f e l 0 x0= .brk y) Q) (s.up (u k x) d [] []))
 (he:∀k x,k=l.length->Xz f e l 0 x0=Xz f e (l.drop k) k x/\A k x->AWP P N w0 F0 c (QL id (λ_=>False) (λs'=>∃y,Weak s' (s.up (ua y) da [] [])/\Xz f e l 0 x0= .brk y) Q) (s.up (u k x) d [] []))
 (ha:∀y,Xz f e l 0 x0= .brk y->Q .normal (s.up (ua y) da [] [])):AWP P N w0 F0 (.block id (.loop c)) Q s:=Bb (λk x=>s.up (u k x) d [] []) (λy=>s.up (ua y) da [] []) (λk x=>Xz f e l 0 x0=Xz f e (l.drop k) k x/\A k x) (λy=>Xz f e l 0 x0= .brk y) l.length x0 h0 ⟨rfl,i0⟩ hr he ha
theorem Qmy (f:Nat->α->σ->Rd R σ τ) (e:Nat->σ->τ) (l:List α) (x0:σ) (u:Nat->σ->List (Nat×AV)) (d:List Nat) (ua:τ->List (Nat×AV)) (da:List Nat) (B:τ->Prop)
 (h0:Weak s (s.up (u 0 x0) d [] []))
 (hr:∀k x,k<l.length->Xz f e l 0 x0=Xz f e (l.drop k) k x->AWP P N w0 F0 c (QL id (λs'=>∃x',Weak s' (s.up (u (k+1) x') d [] [])/\(Xz f e l 0 x0=Xz f e (l.drop (k+1)) (k+1) x')) (λs'=>∃y,Weak s' (s.up (ua y) da [] [])/\(Xz f e l 0 x0= .brk y/\B y)) Q) (s.up (u k x) d [] []))
 (he:∀k x,k=l.length->Xz f e l 0 x0=Xz f e (l.drop k) k x->AWP P N w0 F0 c (QL id (λ_=>False) (λs'=>∃y,Weak s' (s.up (ua y) da [] [])/\(Xz f e l 0 x0= .brk y/\B y)) Q) (s.up (u k x) d [] []))
 (ha:∀y,Xz f e l 0 x0= .brk y/\B y->Q .normal (s.up (ua y) da [] [])):AWP P N w0 F0 (.block id (.loop c)) Q s:=Bb (λk x=>s.up (u k x) d [] []) (λy=>s.up (ua y) da [] []) (λk x=>Xz f e l 0 x0=Xz f e (l.drop k) k x) (λy=>Xz f e l 0 x0= .brk y/\B y) l.length x0 h0 rfl hr he ha
theorem Qbq (f:Nat->α->σ->Rd R σ τ) (e:Nat->σ->τ) (l:List α) (x0:σ) (u:Nat->σ->List (Nat×AV)) (d:List Nat) (ua:τ->List (Nat×AV)) (da:List Nat) (A:Nat->σ->Prop) (B:τ->Prop)
 (h0:Weak s (s.up (u 0 x0) d [] [])) (i0:A 0 x0)
 (hr:∀k x,k<l.length->Xz f e l 0 x0=Xz f e (l.drop k) k x/\A k x->AWP P N w0 F0 c (QL id (λs'=>∃x',Weak s' (s.up (u (k+1) x') d [] [])/\(Xz f e l 0 x0=Xz f e (l.drop (k+1)) (k+1) x'/\A (k+1) x')) (λs'=>∃y,Weak s' (s.up (ua y) da [] [])/\(Xz f e l 0 x0= .brk y/\B y)) Q) (s.up (u k x) d [] []))
 (he:∀k x,k=l.length->Xz f e l 0 x0=Xz f e (l.drop k) k x/\A k x->AWP P N w0 F0 c (QL id (λ_=>False) (λs'=>∃y,Weak s' (s.up (ua y) da [] [])/\(Xz f e l 0 x0= .brk y/\B y)) Q) (s.up (u k x) d [] []))
 (ha:∀y,Xz f e l 0 x0= .brk y/\B y->Q .normal (s.up (ua y) da [] [])):AWP P N w0 F0 (.block id (.loop c)) Q s:=Bb (λk x=>s.up (u k x) d [] []) (λy=>s.up (ua y) da [] []) (λk x=>Xz f e l 0 x0=Xz f e (l.drop k) k x/\A k x) (λy=>Xz f e l 0 x0= .brk y/\B y) l.length x0 h0 ⟨rfl,i0⟩ hr he ha
theorem Qgj (f:Nat->α->σ->Rd R σ τ) (e:Nat->σ->τ) (l:List α) (x0:σ) (u:Nat->σ->List (Nat×AV)) (d:List Nat) (bu:Nat->σ->List (Nat×List C)) (bd:List Nat) (ua:τ->List (Nat×AV)) (da:List Nat) (ba:τ->List (Nat×List C)) (bda:List Nat)
 (h0:Weak s (s.up (u 0 x0) d (bu 0 x0) bd))
 (hr:∀k x,k<l.length->Xz f e l 0 x0=Xz f e (l.drop k) k x->AWP P N w0 F0 c (QL id (λs'=>∃x',Weak s' (s.up (u (k+1) x') d (bu (k+1) x') bd)/\(Xz f e l 0 x0=Xz f e (l.drop (k+1)) (k+1) x')) (λs'=>∃y,Weak s' (s.up (ua y) da (ba y) bda)/\Xz f e l 0 x0= .brk y) Q) (s.up (u k x) d (bu k x) bd))
 (he:∀k x,k=l.length->Xz f e l 0 x0=Xz f e (l.drop k) k x->AWP P N w0 F0 c (QL id (λ_=>False) (λs'=>∃y,Weak s' (s.up (ua y) da (ba y) bda)/\Xz f e l 0 x0= .brk y) Q) (s.up (u k x) d (bu k x) bd))
 (ha:∀y,Xz f e l 0 x0= .brk y->Q .normal (s.up (ua y) da (ba y) bda)):AWP P N w0 F0 (.block id (.loop c)) Q s:=Bb (λk x=>s.up (u k x) d (bu k x) bd) (λy=>s.up (ua y) da (ba y) bda) (λk x=>Xz f e l 0 x0=Xz f e (l.drop k) k x) (λy=>Xz f e l 0 x0= .brk y) l.length x0 h0 rfl hr he ha
theorem YP (f:Nat->α->σ->Rd R σ τ) (e:Nat->σ->τ) (l:List α) (x0:σ) (u:Nat->σ->List (Nat×AV)) (d:List Nat) (bu:Nat->σ->List (Nat×List C)) (bd:List Nat) (ua:τ->List (Nat×AV)) (da:List Nat) (ba:τ->List (Nat×List C)) (bda:List Nat) (A:Nat->σ->Prop)
 (h0:Weak s (s.up (u 0 x0) d (bu 0 x0) bd)) (i0:A 0 x0)
 (hr:∀k x,k<l.length->Xz f e l 0 x0=Xz f e (l.drop k) k x/\A k x->AWP P N w0 F0 c (QL id (λs'=>∃x',Weak s' (s.up (u (k+1) x') d (bu (k+1) x') bd)/\(Xz f e l 0 x0=Xz f e (l.drop (k+1)) (k+1) x'/\A (k+1) x')) (λs'=>∃y,Weak s' (s.up (ua y) da (ba y) bda)/\Xz f e l 0 x0= .brk y) Q) (s.up (u k x) d (bu k x) bd))
 (he:∀k x,k=l.length->Xz f e l 0 x0=Xz f e (l.drop k) k x/\A k x->AWP P N w0 F0 c (QL id (λ_=>False) (λs'=>∃y,Weak s' (s.up (ua y) da (ba y) bda)/\Xz f e l 0 x0= .brk y) Q) (s.up (u k x) d (bu k x) bd))
 (ha:∀y,Xz f e l 0 x0= .brk y->Q .normal (s.up (ua y) da (ba y) bda)):AWP P N w0 F0 (.block id (.loop c)) Q s:=Bb (λk x=>s.up (u k x) d (bu k x) bd) (λy=>s.up (ua y) da (ba y) bda) (λk x=>Xz f e l 0 x0=Xz f e (l.drop k) k x/\A k x) (λy=>Xz f e l 0 x0= .brk y) l.length x0 h0 ⟨rfl,i0⟩ hr he ha
theorem Ql9 (f:Nat->σ->Rd R σ τ) (e:Nat->σ->τ) (l:Nat) (x0:σ) (u:Nat->σ->List (Nat×AV)) (d:List Nat) (ua:τ->List (Nat×AV)) (da:List Nat)
 (h0:Weak s (s.up (u 0 x0) d [] []))
 (hr:∀k x,k<l->Uy f e l 0 x0=Uy f e (l-k) k x->AWP P N w0 F0 c (QL id (λs'=>∃x',Weak s' (s.up (u (k+1) x') d [] [])/\(Uy f e l 0 x0=Uy f e (l-(k+1)) (k+1) x')) (λs'=>∃y,Weak s' (s.up (ua y) da [] [])/\Uy f e l 0 x0= .brk y) Q) (s.up (u k x) d [] []))
 (he:∀k x,k=l->Uy f e l 0 x0=Uy f e (l-k) k x->AWP P N w0 F0 c (QL id (λ_=>False) (λs'=>∃y,Weak s' (s.up (ua y) da [] [])/\Uy f e l 0 x0= .brk y) Q) (s.up (u k x) d [] []))
 (ha:∀y,Uy f e l 0 x0= .brk y->Q .normal (s.up (ua y) da [] [])):AWP P N w0 F0 (.block id (.loop c)) Q s:=Bb (λk x=>s.up (u k x) d [] []) (λy=>s.up (ua y) da [] []) (λk x=>Uy f e l 0 x0=Uy f e (l-k) k x) (λy=>Uy f e l 0 x0= .brk y) l x0 h0 rfl hr he ha
theorem Qma (f:Nat->σ->Rd R σ τ) (e:Nat->σ->τ) (l:Nat) (x0:σ) (u:Nat->σ->List (Nat×AV)) (d:List Nat) (ua:τ->List (Nat×AV)) (da:List Nat) (A:Nat->σ->Prop) (B:τ->Prop)
 (h0:Weak s (s.up (u 0 x0) d [] [])) (i0:A 0 x0)
 (hr:∀k x,k<l->Uy f e l 0 x0=Uy f e (l-k) k x/\A k x->AWP P N w0 F0 c (QL id (λs'=>∃x',Weak s' (s.up (u (k+1) x') d [] [])/\(Uy f e l 0 x0=Uy f e (l-(k+1)) (k+1) x'/\A (k+1) x')) (λs'=>∃y,Weak s' (s.up (ua y) da [] [])/\(Uy f e l 0 x0= .brk y/\B y)) Q) (s.up (u k x) d [] []))
 (he:∀k x,k=l->Uy f e l 0 x0=Uy f e (l-k) k x/\A k x->AWP P N w0 F0 c (QL id (λ_=>False) (λs'=>∃y,Weak s' (s.up (ua y) da [] [])/\(Uy f e l 0 x0= .brk y/\B y)) Q) (s.up (u k x) d [] []))
 (ha:∀y,Uy f e l 0 x0= .brk y/\B y->Q .normal (s.up (ua y) da [] [])):AWP P N w0 F0 (.block id (.loop c)) Q s:=Bb (λk x=>s.up (u k x) d [] []) (λy=>s.up (ua y) da [] []) (λk x=>Uy f e l 0 x0=Uy f e (l-k) k x/\A k x) (λy=>Uy f e l 0 x0= .brk y/\B y) l x0 h0 ⟨rfl,i0⟩ hr he ha
theorem Qc5 (f:Nat->σ->Rd R σ τ) (e:Nat->σ->τ) (l:Nat) (x0:σ) (u:Nat->σ->List (Nat×AV)) (d:List Nat) (bu:Nat->σ->List (Nat×List C)) (bd:List Nat) (ua:τ->List (Nat×AV)) (da:List Nat) (ba:τ->List (Nat×List C)) (bda:List Nat) (A:Nat->σ->Prop)
 (h0:Weak s (s.up (u 0 x0) d (bu 0 x0) bd)) (i0:A 0 x0)
 (hr:∀k x,k<l->Uy f e l 0 x0=Uy f e (l-k) k x/\A k x->AWP P N w0 F0 c (QL id (λs'=>∃x',Weak s' (s.up (u (k+1) x') d (bu (k+1) x') bd)/\(Uy f e l 0 x0=Uy f e (l-(k+1)) (k+1) x'/\A (k+1) x')) (λs'=>∃y,Weak s' (s.up (ua y) da (ba y) bda)/\Uy f e l 0 x0= .brk y) Q) (s.up (u k x) d (bu k x) bd))
 (he:∀k x,k=l->Uy f e l 0 x0=Uy f e (l-k) k x/\A k x->AWP P N w0 F0 c (QL id (λ_=>False) (λs'=>∃y,Weak s' (s.up (ua y) da (ba y) bda)/\Uy f e l 0 x0= .brk y) Q) (s.up (u k x) d (bu k x) bd))
 (ha:∀y,Uy f e l 0 x0= .brk y->Q .normal (s.up (ua y) da (ba y) bda)):AWP P N w0 F0 (.block id (.loop c)) Q s:=Bb (λk x=>s.up (u k x) d (bu k x) bd) (λy=>s.up (ua y) da (ba y) bda) (λk x=>Uy f e l 0 x0=Uy f e (l-k) k x/\A k x) (λy=>Uy f e l 0 x0= .brk y) l x0 h0 ⟨rfl,i0⟩ hr he ha
theorem Qmp (f:Nat->σ->Rd R σ τ) (e:Nat->σ->τ) (l:Nat) (x0:σ) (u:Nat->σ->List (Nat×AV)) (d:List Nat) (bu:Nat->σ->List (Nat×List C)) (bd:List Nat) (ua:τ->List (Nat×AV)) (da:List Nat) (ba:τ->List (Nat×List C)) (bda:List Nat) (A:Nat->σ->Prop) (B:τ->Prop)
 (h0:Weak s (s.up (u 0 x0) d (bu 0 x0) bd)) (i0:A 0 x0)
 (hr:∀k x,k<l->Uy f e l 0 x0=Uy f e (l-k) k x/\A k x->AWP P N w0 F0 c (QL id (λs'=>∃x',Weak s' (s.up (u (k+1) x') d (bu (k+1) x') bd)/\(Uy f e l 0 x0=Uy f e (l-(k+1)) (k+1) x'/\A (k+1) x')) (λs'=>∃y,Weak s' (s.up (ua y) da (ba y) bda)/\(Uy f e l 0 x0= .brk y/\B y)) Q) (s.up (u k x) d (bu k x) bd))
 (he:∀k x,k=l->Uy f e l 0 x0=Uy f e (l-k) k x/\A k x->AWP P N w0 F0 c (QL id (λ_=>False) (λs'=>∃y,Weak s' (s.up (ua y) da (ba y) bda)/\(Uy f e l 0 x0= .brk y/\B y)) Q) (s.up (u k x) d (bu k x) bd))
 (ha:∀y,Uy f e l 0 x0= .brk y/\B y->Q .normal (s.up (ua y) da (ba y) bda)):AWP P N w0 F0 (.block id (.loop c)) Q s:=Bb (λk x=>s.up (u k x) d (bu k x) bd) (λy=>s.up (ua y) da (ba y) bda) (λk x=>Uy f e l 0 x0=Uy f e (l-k) k x/\A k x) (λy=>Uy f e l 0 x0= .brk y/\B y) l x0 h0 ⟨rfl,i0⟩ hr he ha
end
section
variable {tt:List (Nat×TI)} {rs:List ResultVar} {s:St} {τ:Type}
theorem pz (frz:List Nat) {F v:τ} (e:F=v) (g:τ->AV) (h:QT tt rs (s.map (U0 (Yb frz) none))=some (g v):=by kernel_rfl):Qf6 tt rs (g F) .ret s:=Tj frz h (e▸rfl)
theorem pb {F v:Bool} (frz:List Nat) (e:F=v) (h:QT tt rs (s.map (U0 (Yb frz) none))=some (.b v):=by kernel_rfl):Qf6 tt rs (.b F) .ret s:=Tj frz h (e▸rfl)
theorem pi {F v:Int} (frz:List Nat) (e:F=v) (h:QT tt rs (s.map (U0 (Yb frz) none))=some (.i v):=by kernel_rfl):Qf6 tt rs (.i F) .ret s:=Tj frz h (e▸rfl)
theorem ps {F v:ByteArray} (frz:List Nat) (e:F=v) (h:QT tt rs (s.map (U0 (Yb frz) none))=some (.s v):=by kernel_rfl):Qf6 tt rs (.s F) .ret s:=Tj frz h (e▸rfl)
theorem po0 {α:Type} [GoE α] {F v:List α} (frz:List Nat) (e:F=v) (h:QT tt rs (s.map (U0 (Yb frz) none))=some (.o 0 v):=by kernel_rfl):Qf6 tt rs (.o 0 F) .ret s:=Tj frz h (e▸rfl)
theorem ph0 {α:Type} [GoE α] {F v:List α} (frz:List Nat) (e:F=v) (h:QT tt rs (s.map (U0 (Yb frz) none))=some (.h v):=by kernel_rfl):Qf6 tt rs (.h F) .ret s:=Tj frz h (e▸rfl)
end
theorem wn {R S T:Type} {f:S->Rd R S T} {n:Nat} {s s':S} {o:Out R T} (hI:whl f (n+1) s=some o) (h:f s= .next s'):whl f n s'=some o:=Qgh h hI
theorem wb {R S T:Type} {f:S->Rd R S T} {n:Nat} {s:S} {t:T} {o:Out R T} (hI:whl f (n+1) s=some o) (h:f s= .brk t):o= .brk t:=Qj0 h hI
theorem ng {α:Type} [Inhabited α] (l:List α) (i:Nat) (h:i<l.length:=by omega):l[i]? =some (nth l i):=Wg h
theorem en {P:Program} {tt:List (Nat×TI)} (htt:Nj P tt=true) {f:Nat} {fn:Func} {c:Code} (hf:P.funcs[f]? =some fn) {args:List AV} {r:AV}
 (h:∀w0 F0,GoodAt P w0->AWP P fn.ntmps w0 F0 c (Qf6 tt fn.results.toList r) (BV args)) (hb:fn.body=some c:=by exact rfl) (hok:E9 P f:=by unfold E9;kernel_rfl) (hn:args.length<=fn.ntmps:=by exact Nat.le_of_ble_eq_true rfl):ACalls P f args r:=Qcj htt hf hb hok hn h
theorem nm {α:Type} (t:α):∃z,t=z:=⟨_,rfl⟩
theorem wf0 {s s':St} (h:s.fit s'=s':=by kernel_rfl):Weak s s':=Qf h
theorem xw {α:Type} {s:St} {t:α->St} {b:α->Prop} (w:α) (hb:b w) (h:s.fit (t w)=t w:=by kernel_rfl):∃x,Weak s (t x)/\b x:=⟨w,Qf h,hb⟩
end
section
section
variable {α R S T:Type} {f g:Nat->α->S->Rd R S T} {e e':Nat->S->T}
theorem Pk (he:∀k s,e k s=e' k s):∀(l:List α) (k:Nat) (s:S),(∀i a s,l[i]? =some a->f (k+i) a s=g (k+i) a s)->Xz f e l k s=Xz g e' l k s
 | [],k,s,_=>by simp only[Xz,he]
 | a ::l,k,s,h=>by
   have h0:=h 0 a s rfl;simp only[Xz];rw[Nat.add_zero] at h0;rw[h0];cases g k a s with
   | next s'=>
     refine Pk he l (k+1) s' λi a s hi=> ?_
     have:=h (i+1) a s (by simpa using hi)
     rwa [show k+(i+1)=k+1+i by omega] at this
   | brk t=>rfl
   | ret r=>rfl
theorem Ed (hf:∀k a s,f k a s=g k a s) (he:∀k s,e k s=e' k s) (l:List α) (k:Nat) (s:S):Xz f e l k s=Xz g e' l k s:=Pk he l k s λ_ _ _ _=>hf _ _ _
end
section
variable {R S T:Type} {f g:Nat->S->Rd R S T} {e e':Nat->S->T}
theorem DJ (he:∀k s,e k s=e' k s):∀(n k:Nat) (s:S),(∀i s,k<=i->i<k+n->f i s=g i s)->Uy f e n k s=Uy g e' n k s
 | 0,k,s,_=>by simp only[Uy,he]
 | n+1,k,s,h=>by
   simp only[Uy];rw[h k s (zS _) (by omega)];cases g k s with
   | next s'=>exact DJ he n (k+1) s' λi s h1 h2=>h i s (by omega) (by omega)
   | brk t=>rfl
   | ret r=>rfl
end
section
variable {α R T:Type} {f:Nat->α->Unit->Rd R Unit T} {e:Nat->Unit->T}
theorem Mz (hb :∀k a t,f k a ()≠ .brk t):∀{l:List α} {k:Nat} {t:T},Xz f e l k ()= .brk t->∀(i:Nat) (a:α),l[i]? =some a->f (k+i) a ()= .next ()
 | [],_,_,_,i,a,hi=>by simp at hi
 | x :: l, k, t,h,i,a,hi=>by
   simp only[Xz] at h;cases hf:f k x () with
   | next s'=>
     rw[hf] at h;cases i with
     | zero => obtain rfl:x=a:=by simpa using hi
               exact hf
     | succ i=>
       have:=Mz hb (k:=k+1) h i a (by simpa using hi)
       rwa [show k+1+i=k+(i+1) by omega] at this
   | brk t'=>exact (hb k x t' hf).elim
   | ret r=>rw[hf] at h;cases h
theorem Rg:∀(l:List α) (k:Nat),(∀i a,l[i]? =some a->f (k+i) a ()= .next ())->Xz f e l k ()= .brk (e (k+l.length) ())
 | [],k,_=>by simp[Xz]
 | x ::l,k,h=>by
   have h0:=h 0 x rfl;rw[Nat.add_zero] at h0;simp only[Xz,h0]
   rw[Rg l (k+1) λi a hi=>by
    have:=h (i+1) a (by simpa using hi)
    rwa [show k+(i+1)=k+1+i by omega] at this]
   rw[yU,show k+1+l.length=k+(l.length+1) by omega]
end
theorem U2 {α β R T:Type} {f:Nat->α->List β->Rd R (List β) T} {e:Nat->List β->T} {p:α->Bool} {g:α->β} (hf:∀k a s,f k a s=(bif p a then .next (s++ [g a]) else .next s)):∀(l:List α) (k:Nat) (s:List β),Xz f e l k s= .brk (e (k+l.length) (s++(l.filter p).map g))
 | [],k,s=>by simp[Xz]
 | a::l,k,s=>by
   simp only[Xz,hf];cases hp:p a with
   | true=>simp only[cond_true];rw[U2 hf l (k+1),show k+1+l.length=k+(l.length+1) by omega];simp[hp]
   | false=>simp only[cond_false];rw[U2 hf l (k+1),show k+1+l.length=k+(l.length+1) by omega];simp[hp]
theorem Bk {α β R T:Type} {f:Nat->α->List β->Rd R (List β) T} {e:Nat->List β->T} {g:α->β} (hf:∀k a s,f k a s= .next (s++ [g a])):∀(l:List α) (k:Nat) (s:List β),Xz f e l k s= .brk (e (k+l.length) (s++l.map g))
 | [],k,s=>by simp[Xz]
 | a::l,k,s=>by
   simp only[Xz,hf];rw[Bk hf l (k+1),show k+1+l.length=k+(l.length+1) by omega];simp
theorem Qc6 {R S T:Type} {f:S->Rd R S T} (m:S->Int) (N:Int) (h:∀s s',0<=m s->f s= .next s'->m s<N/\m s'=m s+1):∀(n:Nat) (s:S),0<=m s->N<=m s+n->(whl f (n+1) s).isSome=true
 | n, s,h0,hn=>by
   simp only[whl];cases hf:f s with
   | brk t=>rfl
   | ret r=>rfl
   | next s'=>
     obtain ⟨h1,h2⟩:=h s s' h0 hf;cases n with
     | zero=>omega
     | succ n=>exact Qc6 m N h n s' (by omega) (by omega)
theorem SN {R S T:Type} {f:S->Rd R S T} (m:S->Nat) (h:∀s s',f s= .next s'->m s'<m s):∀(n:Nat) (s:S),m s<n->(whl f n s).isSome=true
 | 0,s,hn=>absurd hn (Nat.not_lt_zero _)
 | n+1,s,hn=>by
   simp only[whl];cases hf:f s with
   | brk t=>rfl
   | ret r=>rfl
   | next s'=>exact SN m h n s' (by have:=h s s' hf;omega)
end
section
open Go.RowKit
def Qlh (cs:List C) (args:List AV):St:=⟨CX 0 (.one (.ptr bxK 0)::args), [(bxK,cs)]⟩
def Qli (tt:List (Nat×TI)) (rs:List ResultVar) (r:AV) (cs:List C) (e:Exit) (s:St):Prop:=
 (e= .ret\/e= .normal)/\∃frz,QT tt rs (s.map (U0 (Yb frz) none))=some r/\get s.bx bxK=some cs
theorem B9 {tt:List (Nat×TI)} {rs:List ResultVar} {r b:AV} {cs cs0:List C} {s:St} (frz:List Nat) (e:b=r) (ec:cs0=cs) (h:QT tt rs (s.map (U0 (Yb frz) none))=some b:=by kernel_rfl) (h':get s.bx bxK=some cs0:=by kernel_rfl):Qli tt rs r cs .ret s:=⟨.inl rfl,frz,e▸h,ec▸h'⟩
def Qlj (rs:List ResultVar) (cs:List C) (e:Exit) (s:St):Prop:=
 (e= .ret\/e= .normal)/\∃frz t k,rs= [.tmp t]/\get s.tm t=some (.one (.ptr k 0))/\get (s.map (U0 (Yb frz) none)).bx k=some cs
theorem Qm4 {rs:List ResultVar} {cs cs0:List C} {s:St} (frz:List Nat) (t k:Nat) (ec:cs0=cs) (hr:rs= [.tmp t]:=by rfl) (h:get s.tm t=some (.one (.ptr k 0)):=by kernel_rfl) (h':get (s.map (U0 (Yb frz) none)).bx k=some cs0:=by kernel_rfl):Qlj rs cs .ret s:=⟨.inl rfl,frz,t,k,hr,h,ec▸h'⟩
section
variable {P:Program} {N:Nat} {w0:Base} {F0:Nat->Prop} {J:Inj} {a:Act} {w:World} {s:St}
theorem Qc7 {w':World} {tt:List (Nat×TI)} (htt:Nj P tt=true) {fn:Func} {r:AV} (hrel:Rel N w0 F0 J a w' s) (h:QT tt fn.results.toList s=some r):∃v L',(results fn a.tmps).run P w'= .ok v w'/\(∀k,(L' k).Nodup)/\(∀k x,x∈L' k->∃k0,x∈J.L k0)/\(∀k k' x,x∈L' k->x∈L' k'->k=k')/\AR ⟨J.F,L',λ_=>0⟩ w' v r:=by
 unfold QT at h;split at h
 . rename_i vs hvs;split at h
   . rename_i x hx;cases hc:(Cw Qjn x.cells&&L8 (Q1 x.cells)) with
     | false=>rw[hc] at h;cases h
     | true =>
       rw[hc] at h;obtain rfl:=zD h;simp only[zI] at hc;obtain ⟨hok,hnd⟩:=hc;have hnd:=Nd.1 hnd;obtain ⟨us,hrun,hall⟩:=YI (P:=P) htt hrel hvs
       have hres:∃v,(results fn a.tmps).run P w'= .ok v w'/\AR J w' v x:=by
        have hm:(fn.results.mapM (YH a.tmps)).run P w'= .ok us.toArray w':=by
         rw[yK];simp[hrun]
        have hgen:(results fn a.tmps).run P w'= .ok (if h:us.toArray.size=1 then us.toArray[0] else .tuple us.toArray) w':=by
         rw[Tk];simp only[Sem.run_bind,hm,Result.andThen_ok,Sem.run_pure]
        cases hall with
        | nil=>
          obtain rfl:AV.tup []=x:=by simpa [Qci,QS] using hx
          exact ⟨.tuple #[],by rw[hgen];simp, [],rfl,.nil⟩
        | cons h1 h2=>
          cases h2 with
          | nil=>
            obtain rfl:=zD hx;exact ⟨_,by rw[hgen];simp,h1⟩
          | cons h2 h3=>
            obtain ⟨ps,hps,rfl⟩:=zJ.1 hx;exact ⟨_,by rw[hgen];simp,_,rfl,ER hps (.cons h1 (.cons h2 h3))⟩
       obtain ⟨v,hv,hvr⟩:=hres;refine ⟨v,ON J (Q1 x.cells),hv,λi=> ?_,λi b hb=> ?_,λi i' b hb hb'=> ?_, ?_⟩
       . unfold ON;split
         . exact hrel.nd _
         simp
       . obtain ⟨k,_,hm⟩:=Rb hb;exact ⟨k,hm⟩
       . obtain ⟨k,hk,hm⟩:=Rb hb;obtain ⟨k',hk',hm'⟩:=Rb hb';have:=hrel.dj k k' b hm hm';subst this;obtain ⟨l1,e1⟩:=zF.1 hk;obtain ⟨l2,e2⟩:=zF.1 hk';rcases xF i i' with hlt | he | hlt
         . exact absurd (e1.trans e2.symm) (yC.1 hnd i i' l1 l2 hlt)
         . exact he
         exact absurd (e2.trans e1.symm) (yC.1 hnd i' i l2 l1 hlt)
       refine AR.map _ hvr λu c hcm hcr=> ?_
       have hfo:=B5 hok c hcm;cases c with
       | int | bool | str=>exact hcr
       | slc t n l=>
         cases t with
         | emp=>exact hcr
         | sh=>exact VV.keep (λb hb=>⟨hb,rfl⟩) hcr
         | vw k=>cases hfo
         | put=>exact hcr.elim
         | own b k=>
           cases b with
           | false=>
             show OwnTop J.F (ON J (Q1 x.cells) (Qh8 k (Q1 x.cells))) w' u _ _;unfold ON;rw[YJ (P6 hcm rfl)];exact hcr
           | true=>
             show OwnDeep (ON J (Q1 x.cells) (Qh8 k (Q1 x.cells))) w' u _ _;unfold ON;rw[YJ (P6 hcm rfl)];exact hcr
       | _=>cases hfo
   cases h
 cases h
theorem Qc8 {cs:List C} (h:Cw N9 cs=true) (frz:List Nat):cs.map (U0 (Yb frz) none)=cs:=by
 have:∀c,c∈cs->U0 (Yb frz) none c=c:=λc hc=>by
  have:=B5 h c hc;cases c with
  | slc t n l=>
    cases t with
    | sh=>rfl
    | _=>cases this
  | int | bool | str=>rfl
  | _=>cases this
 exact (zY this).trans (xA cs)
theorem V3 {tt:List (Nat×TI)} (htt:Nj P tt=true) {f:Nat} {fn:Func} {c:Code} (hf:P.funcs[f]? =some fn) (hb:fn.body=some c) (hok:E9 P f) {cs cs':List C} {args:List AV} {r:AV} (hn:args.length+1<=fn.ntmps) (hN:fn.ntmps<=bxK) (hp:Cw N9 cs=true) (hp':Cw N9 cs'=true)
 (h:∀w0 F0,GoodAt P w0->AWP P fn.ntmps w0 F0 c (Qli tt fn.results.toList r cs') (Qlh cs args)):AGive P f cs args r cs':=by
 refine ⟨hok,λw F L b vals hG hF hnd hLF hbF hbL hbox hargs=>calls_of_wp hf hb ?_⟩;have hlen:=hargs.length;obtain ⟨arr,e,hheap,hcells⟩:=hbox;have hblt:=Ye hheap
 have hLk:∀k x,x∈(Si F L b).L k->k=63/\x∈L:=λk x hm=>by
  have hm:x∈(if k=63 then L else []):=hm;split at hm
  . rename_i e;exact ⟨e,hm⟩
  simp at hm
 refine wp_mono (h ⟨w,λx=>x=b\/x∈L,some b⟩ F hG (Si F L b) _ w ?_) ?_
 . refine { below:=Base.Keeps.refl _,nodef:=rfl,size:= ?_,fl:=λx hx=>⟨hF x hx,.inl hx⟩,f0:=λx hx=>hx,nd:=λk=> ?_,lo:=λk x hx=>⟨.inr (.inr (hLk k x hx).2),hLF x (hLk k x hx).2⟩,dj:=λk k' x hx hx'=>(hLk k x hx).1.trans (hLk k' x hx').1.symm,
            bo:=λk c hc=> ?_,nb:= .inr hN,cb:=λx hx=>(zD hx),bi:=λk k' c c' hc hc' _=> ?_,tm:=λt v' hv=> ?_}
   . simp;omega
   . show (if k=63 then L else []:List Nat).Nodup;split
     . exact hnd
     exact yQ
   . have hc:get [(bxK,cs)] k=some c:=hc;simp only[get] at hc;split at hc
     . obtain rfl:=zD hc;exact ⟨.inr (.inl rfl),hbF,λk' hm=>hbL (hLk k' _ hm).2,arr,e,hheap,Nm (J:=WE F) (J':=Si F L b) (λx hx=>⟨hx,rfl⟩) hcells hp⟩
     cases hc
   . have hc:get [(bxK,cs)] k=some c:=hc;have hc':get [(bxK,cs)] k'=some c':=hc';simp only[get] at hc hc';split at hc
     . split at hc'
       . rename_i e1 e2;exact e1.symm.trans e2
       cases hc'
     cases hc
   obtain ⟨_,ht⟩:=Sl hv;have hall:All2 (AR (Si F L b) w) (.pointer (some ⟨b,0,none⟩)::vals) (.one (.ptr bxK 0)::args):= .cons rfl hargs;obtain ⟨u,hu,hr⟩:=hall.get' ht;have hlt:t<(Value.pointer (some ⟨b,0,none⟩)::vals).length:=(zF.1 hu).1
   have:((Value.pointer (some ⟨b,0,none⟩)::vals).toArray++xJ (fn.ntmps-(Value.pointer (some ⟨b,0,none⟩)::vals).toArray.size) undef).getD t undef=u:=by
    rw[zM,yG (by simpa using hlt)];simp at hu⊢;rw[hu];rfl
   rw[this];exact hr
 rintro e' a' w' ⟨J',s',hR,he,frz,hg,hbx⟩
 obtain ⟨J'',hR⟩:=Fx frz rfl _ _ _ _ _ _ hR;obtain ⟨v,L',h1,h2,h3,h4,h5⟩:=Qc7 (P:=P) htt (fn:=fn) hR hg;have hB:J''.B bxK=b:=hR.cb b rfl
 have hbx:get (s'.map (U0 (Yb frz) none)).bx bxK=some cs':=by
  simp only[St.map,I2 (xN _),hbx,zG,Qc8 hp']
 obtain ⟨_,b2,b3,arr',e2,b4,b5⟩:=hR.bo bxK cs' hbx;rw[hB] at b2 b3 b4
 have hmem:∀k x,x∈L' k->x<w'.heap.size/\(w.heap.size<=x\/x∈L)/\x≠b/\¬J''.F x:=λk x hx=>by
  obtain ⟨k0,hm⟩:=h3 k x hx;obtain ⟨g1,g2,g3⟩:=hR.lo k0 x hm;have hne:x≠b:=λe=>b3 k0 (e▸hm)
  exact ⟨g2,g1.imp id λg=>g.resolve_left hne,hne,g3⟩
 have hFF:∀x,J''.F x->(UX F L w w' L').F x:=λx hx=>by
  obtain ⟨g1,g2⟩:=hR.fl x hx;rcases g2 with g2 | g2 | g2
  . exact .inl g2
  . exact .inr ⟨.inl g2,g1,λk hm=>(hmem k x hm).2.2.2 hx⟩
  have hne:x≠b:=λe=>b2 (e▸hx)
  exact .inr ⟨.inr (g2.resolve_left hne),g1,λk hm=>(hmem k x hm).2.2.2 hx⟩
 have hT:Qmi F L b w r cs' (.returned v) w':=by
  refine ⟨v,L',rfl,hR.below.os,hR.below.tape,hR.below.output,hR.below.size,λk hk hn1 hn2=>hR.below.block k hk λhx=>hx.elim hn1 hn2,h2,λk x hx=>⟨(hmem k x hx).1,(hmem k x hx).2.1⟩,h4, ?_,arr',e2,b4,Nm (J:=J'') (λx hx=>⟨hFF x hx,rfl⟩) b5 hp'⟩;refine h5.keep λc hc=>⟨λx hx=>⟨hFF x hx,rfl⟩,λk _=>⟨rfl,λ_ _=>rfl⟩,λk _=>rfl⟩
 rcases he with rfl | rfl
 . exact ⟨hR.nodef,v,h1,hT⟩
 exact ⟨hR.nodef,v,h1,hT⟩
theorem Qj4 {f:Nat} {fn:Func} {c:Code} (hf:P.funcs[f]? =some fn) (hb:fn.body=some c) (hok:E9 P f) {args:List AV} {cs:List C} (hn:args.length<=fn.ntmps) (hp:Cw N9 cs=true)
 (h:∀w0 F0,GoodAt P w0->AWP P fn.ntmps w0 F0 c (Qlj fn.results.toList cs) (BV args)):ANew P f args cs:=by
 refine ⟨hok,λw hg F vals hF hall=>calls_of_wp hf hb ?_⟩;have hlen:=hall.length;refine wp_mono (h ⟨w,λ_=>False,none⟩ F (.of hg) (WE F) _ w ?_) ?_
 . refine {below:=Base.Keeps.refl _,nodef:=rfl,size:= ?_,fl:=λb hb=>⟨hF b hb,.inl hb⟩,f0:=λb hb=>hb,nd:=λk=>by simp[WE],lo:=λk b hb=>by simp[WE] at hb,dj:=λk k' b hb=>by simp[WE] at hb,bo:=λk c hc=>by simp[BV,get] at hc,nb:= .inl rfl,cb:=(λb hb=>by cases hb),bi:=λk k' c c' hc=>by simp[BV,get] at hc,tm:=λt v hv=> ?_}
   . simp;omega
   obtain ⟨_,ht⟩:=Sl hv;obtain ⟨u,hu,hr⟩:=hall.get' ht;have hlt:t<vals.length:=(zF.1 hu).1
   have:(vals.toArray++xJ (fn.ntmps-vals.toArray.size) undef).getD t undef=u:=by
    rw[zM,yG (by simpa using hlt)];simp at hu⊢;rw[hu];rfl
   rw[this];exact hr
 rintro e' a' w' ⟨J',s',hR0,he,frz,t,k,hrs,ht,hbx⟩
 obtain ⟨J'',hR⟩:=Fx frz rfl _ _ _ _ _ _ hR0;have hbel:=hR.below.below (λ_ h=>h);obtain ⟨b1,b2,b3,arr',e2,b4,b5⟩:=hR.bo k cs hbx
 have ht:get (s'.map (U0 (Yb frz) none)).tm t=some (.one (.ptr k 0)):=by
  simp only[St.map,I2 (AV.map _),ht,zG];rfl
 have htv:a'.tmps.getD t undef= .pointer (some ⟨J''.B k,0,none⟩):=hR.tm t _ ht
 have h1:(results fn a'.tmps).run P w'= .ok (.pointer (some ⟨J''.B k,0,none⟩)) w':=by
  have hm:(fn.results.mapM (YH a'.tmps)).run P w'= .ok #[.pointer (some ⟨J''.B k,0,none⟩)] w':=by
   rw[yK,hrs];simp[xP,YH,htv]
  rw[Tk];simp only[Sem.run_bind,hm,Result.andThen_ok,Sem.run_pure];simp
 have hb0:w.heap.size<=J''.B k:=b1.elim id False.elim
 have hT:Qmj F w cs (.returned (.pointer (some ⟨J''.B k,0,none⟩))) w':=by
  refine ⟨J''.B k,rfl,hbel,hb0,arr',e2,b4,Nm (J:=J'') (λx hx=>⟨?_,rfl⟩) b5 hp⟩;obtain ⟨g1,g2⟩:=hR.fl x hx;rcases g2 with g2 | g2 | g2
  . exact .inl g2
  . exact .inr ⟨g2,g1,λe=>b2 (e▸hx)⟩
  exact g2.elim
 rcases he with rfl | rfl
 . exact ⟨hR.nodef,_,h1,hT⟩
 exact ⟨hR.nodef,_,h1,hT⟩
end
theorem AGive.emp {P:Program} {f:Nat} {cs cs':List C} {n m:Nat} {post:List AV} {r:AV} (h:AGive P f cs (.one (.slc (.own true 63) n [])::post) r cs') (hk:∀x,x∈post->∀c,c∈x.cells->c.key=none/\c.bkeys= []):AGive P f cs (.one (.slc .emp m [])::post) r cs':=by
 refine ⟨h.1,λw F L b vals hG hF hnd hLF hbF hbL hbox hargs=> ?_⟩;cases hargs with
 | @cons v _ vs _ h1 h2=>
 have h1:([]:List (List PV))= []/\∃oa,v= .slice oa 0 0:=h1;obtain ⟨_,oa,rfl⟩:=h1;have hG':GoodAt P ⟨w,λx=>x=b\/x∈([]:List Nat),some b⟩:=⟨λw' hk=>hG.at_ w' ⟨hk.os,hk.tape,hk.output,hk.size,λk hk' hn=>hk.block k hk' λhx=>hn (.inl (hx.resolve_right (by simp)))⟩⟩
 have key:∀{us:List Value} {ys:List AV},All2 (AR (Si F L b) w) us ys->(∀x,x∈ys->∀c,c∈x.cells->c.key=none/\c.bkeys= [])->All2 (AR (Si F [] b) w) us ys:=by
  intro us ys ha
  induction ha with
  | nil=>intro _;exact .nil
  | cons h1 _ ih=>
    intro hx;refine .cons (h1.keep λc hc=> ?_) (ih λx hm=>hx x (zR _ hm));obtain ⟨e1,e2⟩:=hx _ (yA ..) c hc;exact ⟨λb hb=>⟨hb,rfl⟩,(λk hk=>by rw[e1] at hk;cases hk),(λk hk=>by rw[e2] at hk;simp at hk)⟩
 have h0:AR (Si F [] b) w (.slice oa 0 0) (.one (.slc (.own true 63) n [])):=by
  show OwnDeep ((Si F [] b).L 63) w _ n [];exact ⟨[],.emp oa n,yQ,(λb hb=>by simp at hb),.inl rfl⟩
 refine (h.2 w F [] b _ hG' hF yQ (λx hx=>by simp at hx) hbF (by simp) hbox (.cons h0 (key h2 hk))).mono λe w' hret=> ?_
 obtain ⟨u,L',g1,g2,g3,g4,g5,g6,g7,g8,g9,g10,arr,ty,g11,g12⟩:=hret;have hFF:∀x,(UX F [] w w' L').F x->(UX F L w w' L').F x/\w'.heap[x]? =w'.heap[x]? :=λx hx=>⟨hx.imp id λ⟨q1,q2⟩=>⟨.inl (q1.resolve_right (by simp)),q2⟩,rfl⟩
 have hkk:∀c,Keeps (UX F [] w w' L') (UX F L w w' L') w' w' c:=λc=>⟨hFF,λk _=>⟨rfl,λ_ _=>rfl⟩,λ_ _=>rfl⟩
 exact ⟨u,L',g1,g2,g3,g4,g5,λk q1 q2 _=>g6 k q1 q2 (by simp),g7,λk x hx=>⟨(g8 k x hx).1,.inl ((g8 k x hx).2.resolve_right (by simp))⟩,g9,g10.keep λc _=>hkk c,arr,ty,g11,g12.imp λv c _ hc=>hc.keep (hkk c)⟩
end
section
open Go.RowKit
open GoD (rd own)
structure Chg (L:List Nat) (w w':World):Prop where
 os:w'.os=w.os
 tape:w'.tape=w.tape
 output:w'.output=w.output
 size:w.heap.size<=w'.heap.size
 block:∀b,b<w.heap.size->b∉L->w'.heap[b]? =w.heap[b]?
theorem Chg.refl (L:List Nat) (w:World):Chg L w w:=⟨rfl,rfl,rfl,Nat.le_refl _,λ_ _ _=>rfl⟩
theorem Chg.trans {L:List Nat} {a b c:World} (h:Chg L a b) (k:Chg L b c):Chg L a c:=
 ⟨k.os.trans h.os,k.tape.trans h.tape,k.output.trans h.output,zU h.size k.size,λi hi hn=>(k.block i (yP hi h.size) hn).trans (h.block i hi hn)⟩
theorem Chg.mono {L M:List Nat} {w w':World} (h:Chg L w w') (hs:∀b,b∈L->b∈M):Chg M w w':=
 ⟨h.os,h.tape,h.output,h.size,λb hb hn=>h.block b hb (λhm=>hn (hs b hm))⟩
theorem Chg.of_below {L:List Nat} {w w':World} (h:Below w.heap.size w w'):Chg L w w':=⟨h.os,h.tape,h.output,h.size,λb hb _=>h.block b hb⟩
theorem Chg.below {L:List Nat} {B:Nat} {w w':World} (h:Chg L w w') (hB:B<=w.heap.size) (hL:∀b,b∈L->B<=b):Below B w w':=
 ⟨h.os,h.tape,h.output,h.size,λk hk=>h.block k (by omega) (λhm=>by have:=hL k hm;omega)⟩
theorem Chg.cell {L:List Nat} {w w':World} (h:Chg L w w') {b:Nat} (hb:b<w.heap.size) (hn:b∉L) (o:Nat):w'.cell? ⟨b,o,none⟩=w.cell? ⟨b,o,none⟩:=
 World.cell?_of_block (h.block b hb hn)
theorem Chg.frozen {L:List Nat} {w w':World} (h:Chg L w w') {b:Nat} (hb:b<w.heap.size) (hn:b∉L) (o:Nat):w'.frozen? ⟨b,o,none⟩=w.frozen? ⟨b,o,none⟩:=
 World.frozen?_of_block (h.block b hb hn)
section
variable {α β:Type} [GoD α] [GoD β]
structure Upd (g lo m:Nat) (Li:List Nat) (w w':World):Prop where
 chg:Chg (g::Li) w w'
 row:∀cur e,w.heap[g]? =some (.cells cur e (0,0))->∃cur',w'.heap[g]? =some (.cells cur' e (0,0))/\cur'.size=cur.size/\∀j,(j<lo\/lo+m<=j)->cur'[j]? =cur[j]?
theorem Upd.refl (g lo m:Nat) (Li:List Nat) (w:World):Upd g lo m Li w w:=⟨Chg.refl _ _,λcur _ h=>⟨cur,h,rfl,λ_ _=>rfl⟩⟩
theorem Upd.setCell {g lo m:Nat} {Li:List Nat} {w w':World} (h:Upd g lo m Li w w') (o:Nat) (ho:lo<=o/\o<lo+m) (v:Value):Upd g lo m Li w (w'.setCell ⟨g,o,none⟩ v):=by
 refine ⟨h.chg.trans ⟨rfl,rfl,rfl,by simp,λb _ hn=>Sd w' g o v (λe=>hn (by simp[e]))⟩,λcur e hc=> ?_⟩;obtain ⟨cur',h1,h2,h3⟩:=h.row cur e hc;refine ⟨_,Sc w' g o v h1,by simpa using h2,λj hj=> ?_⟩;rw[Array.getElem?_setIfInBounds,if_neg (by omega)];exact h3 j hj
theorem Upd.mark {g lo m:Nat} {Li M:List Nat} {w w' w'':World} (h:Upd g lo m Li w w') (hc:Chg M w' w'') (hs:∀b,b∈M->b∈Li) (hg:g∉M) (hlt:g<w'.heap.size):Upd g lo m Li w w'':=by
 refine ⟨h.chg.trans (hc.mono λb hb=>zR _ (hs b hb)),λcur e hcur=> ?_⟩;obtain ⟨cur',h1,h2,h3⟩:=h.row cur e hcur;exact ⟨cur',(hc.block g hlt hg).trans h1,h2,h3⟩
theorem Upd.below {g lo m:Nat} {Li:List Nat} {w w' w'':World} (h:Upd g lo m Li w w') (hc:Below w'.heap.size w' w'') (hlt:g<w'.heap.size):Upd g lo m Li w w'':=
 h.mark (M:= []) (Chg.of_below hc) (by simp) (by simp) hlt
theorem Qc9 {w:World} {oa:Option Addr} {l:List α} {n cap:Nat} (h:rd w [.slice oa n cap] l):l.length<=9223372036854775807:=by
 obtain ⟨_,cap,_,h1,h2,_⟩:=h;unfold maxLen at h2;omega
end
section
variable {α:Type} [GoD α]
end
end
section
open Go.RowKit
open GoD (rd own)
abbrev B3:=Int×Int×ByteArray
abbrev Jf:=ByteArray×Int
abbrev Bl:=ByteArray×B3
abbrev Xe:=Int×Int×Bool×Int×(List Bl)
abbrev Qz:=(List Jf)×(List Xe)×Int
abbrev Yw:=Int×Int×Int×ByteArray×B3
abbrev X0:=ByteArray×(List Yw)
abbrev Qm:=ByteArray×(List Int)
abbrev I5:=ByteArray×(List Int)×(List Int)
abbrev X4:=Qz×(List X0)×(List Qm)
abbrev E3:=Int×Xe×Int×X0
theorem VK {α:Type} {l:List α} (h:l.length=1):∃x0,l= [x0]:=by
 match l,h with
 | [x0],_=>exact ⟨x0,rfl⟩
theorem NU {α:Type} {l:List α} (h:l.length=2):∃x0 x1,l= [x0,x1]:=by
 match l,h with
 | [x0,x1],_=>exact ⟨x0,x1,rfl⟩
end
section
open Go.RowKit
open GoD (rd own)
theorem Qj5 {P:Program} (w:World) (base:Nat) (t ty e:TypeId) (i:TypeInfo) (z:Value) (ht:P.underlying t=some (.slice e)) (hi:P.info? e=some i) (hz:i.zero=some z)
 (hzs:z.cells.size=i.size) (hsz:0<i.size) (hb:i.bytes<=1000) {v:Value} {n:Nat} {xs:List Value} (hown:w.ownsRow base e i.size v n xs)
 (a:Addr) (m c:Nat) (news:List Value) (hl:news.length=m*i.size) (hnews:∀j u,news[j]? =some u->w.cell? (a.add j)=some u) (h1:∀u∈news,u.oneCell'=true)
 (hnm:n+m<=1073741824) (hbase:base<=w.heap.size):
 ∃ v' w',(Builtin.append_ #[t,t] ty #[v,.slice (some a) m c]).run P w= .ok v' w'/\w'.ownsRow base e i.size v' (n+m) (xs++news)/\w.grownBy w' v.ownBlock/\
   (∀g,v'.ownBlock=some g->v.ownBlock=some g\/w.heap.size<=g)/\(∀x k c,v= .slice (some x) k c->c<n+m->(∀g,v'.ownBlock=some g->w.heap.size<=g)/\w.grownBy w' none):=by
 have hbytes:((n+m)+(n+m) / 4+192)*i.bytes<=281474976710656:=zU (Nat.mul_le_mul (show _<=1342177472 by omega) hb) (by decide);have h63:n+m<=maxLen:=by unfold maxLen;omega
 rcases hown.2 with ⟨rfl,rfl⟩ | ⟨g,cap,cur,rfl,hbg,hg,hnc,hcm,hcs,htake⟩
 . have h0:w.ownsRow w.heap.size e i.size (.slice none 0 0) 0 xs:=⟨hown.1,.inl ⟨rfl,rfl⟩⟩;obtain ⟨v',w',hr,hw,hgr,_⟩:=run_append_own_wide w w.heap.size t ty e i z i.size i.bytes ht hi hz rfl rfl hzs hsz _ 0 xs h0 a m c news hl hnews h1 h63 hbytes (zS _);refine ⟨v',w',hr,⟨hw.1, ?_⟩,hgr,λg hg=> .inr (World.ownsRow.lt hw g hg).1,λx k c h=>(by cases h)⟩;rcases hw.2 with h | ⟨g,cap,cur,h1,h2,h3⟩
   . exact .inl h
   exact .inr ⟨g,cap,cur,h1,zU hbase h2,h3⟩
 by_cases hroom:n+m<=cap
 . obtain ⟨w',hr,hw,hgr⟩:=run_append_own_spare w base t ty e i i.size ht hi rfl g n cap xs hown a m c news hl hnews h1 hroom;exact ⟨_,w',hr,hw,hgr,λk hk=> .inl hk,λx k c h hlt=>(by cases h;omega)⟩
 have hgs:cap<n+m:=by omega
 have hr:=run_append_grow (P:=P) w t ty e i z ht hi hz ⟨g,0,none⟩ n cap xs hown.1 (hown.cells (g:=g) rfl) a m c news hl hnews hgs (by unfold maxLen at h63;omega) (growslice_fits_wide hgs hbytes)
 refine ⟨_,_,hr,⟨by rw[yO,hown.1,hl,zW],.inr ⟨w.heap.size,_,_,rfl,hbase,heap_alloc_new w.drew _,grownCap_ge w (n+m) cap e,grownCap_le_maxLen w (n+m) cap e h63, ?_, ?_⟩⟩,
  ⟨rfl,rfl,rfl,by simp,λk hk _=>heap_alloc_old w.drew _ hk⟩,λk hk=> .inr ?_,λx k c _ _=>⟨λg' hk=> ?_,rfl,rfl,rfl,by simp,λk hk _=>heap_alloc_old w.drew _ hk⟩⟩
 . have hge:=grownCap_ge w (n+m) cap e;simp only[Array.size_append,List.size_toArray,size_zeroCells,hzs,hown.1,hl,←zW]
   congr 1
   omega
 . simp only[Array.toList_append,List.append_assoc];rw[←List.append_assoc,yX (by simp[hown.1,hl,zW]),List.take_of_length_le (by simp[hown.1,hl,zW])]
 . simp only[Value.ownBlock,yR] at hk;omega
 simp only[Value.ownBlock,yR] at hk;omega
section
variable {α:Type} [GoD α]
def App (e:TypeId) (w0 w:World) (L:List Nat) (v:Value) (l:List α):Prop:=
 ∃ (xs:List Value) (Ls:List (List Nat)),w.ownsRow w0.heap.size e (GoD.n α) v l.length xs/\L=v.ownBlock.toList++Ls.flatten/\L.Nodup/\(∀b,b∈L->w0.heap.size<=b/\b<w.heap.size)/\Ls.length=l.length/\
   ∀i Li a,Ls[i]? =some Li->l[i]? =some a->own Li w ((xs.drop (i*GoD.n α)).take (GoD.n α)) a
def AppR (e:TypeId) (w0 w:World) (v:Value) (l:List α):Prop:=
 ∃(xs:List Value),w.ownsRow w0.heap.size e (GoD.n α) v l.length xs/\∀i a,l[i]? =some a->rd w0 ((xs.drop (i*GoD.n α)).take (GoD.n α)) a
theorem VL {w w':World} {base:Nat} {e:TypeId} {sz n:Nat} {v:Value} {xs:List Value} (h:w.ownsRow base e sz v n xs) (hb:∀b,v.ownBlock=some b->w'.heap[b]? =w.heap[b]?):w'.ownsRow base e sz v n xs:=by
 refine ⟨h.1, ?_⟩;rcases h.2 with h | ⟨g,cap,cur,rfl,h2,h3,h4⟩
 . exact .inl h
 exact .inr ⟨g,cap,cur,rfl,h2,(hb g rfl).trans h3,h4⟩
theorem App.keep {e:TypeId} {w0 w w':World} {L:List Nat} {v:Value} {l:List α} (h:App e w0 w L v l) (hb:Below w.heap.size w w'):App e w0 w' L v l:=by
 obtain ⟨xs,Ls,h1,h2,h3,h4,h5,h6⟩:=h;exact ⟨xs,Ls,VL h1 (λb hm=>hb.block b (World.ownsRow.lt h1 b hm).2),h2,h3,λb hm=>⟨(h4 b hm).1,yP (h4 b hm).2 hb.size⟩,h5,λi Li a x y=>Qbr (h6 i Li a x y) hb⟩
theorem AppR.keep {e:TypeId} {w0 w w':World} {v:Value} {l:List α} (h:AppR e w0 w v l) (hb:Below w.heap.size w w'):AppR e w0 w' v l:=by
 obtain ⟨xs,h1,h2⟩:=h;exact ⟨xs,VL h1 (λb hm=>hb.block b (World.ownsRow.lt h1 b hm).2),h2⟩
theorem App.alloc {e:TypeId} {w0 w:World} {L:List Nat} {v:Value} {l:List α} (h:App e w0 w L v l) (o:Obj):App e w0 (w.alloc o) L v l:=h.keep ((Below.refl _ _).alloc (Nat.le_refl _) _)
theorem App.drew {e:TypeId} {w0 w:World} {L:List Nat} {v:Value} {l:List α} (h:App e w0 w L v l):App e w0 w.drew L v l:=h.keep ((Below.refl _ _).drew)
theorem AppR.alloc {e:TypeId} {w0 w:World} {v:Value} {l:List α} (h:AppR e w0 w v l) (o:Obj):AppR e w0 (w.alloc o) v l:=h.keep ((Below.refl _ _).alloc (Nat.le_refl _) _)
theorem AppR.drew {e:TypeId} {w0 w:World} {v:Value} {l:List α} (h:AppR e w0 w v l):AppR e w0 w.drew v l:=h.keep ((Below.refl _ _).drew)
theorem App.nil {e:TypeId} (w0 w:World):App e w0 w [] (.slice none 0 0) ([]:List α):=⟨[], [],⟨by simp,.inl ⟨rfl,rfl⟩⟩,rfl,by simp,by simp,rfl,by simp⟩
theorem AppR.nil {e:TypeId} (w0 w:World):AppR e w0 w (.slice none 0 0) ([]:List α):=⟨[],⟨by simp,.inl ⟨rfl,rfl⟩⟩,by simp⟩
theorem App.done {e:TypeId} {w0 w:World} {L:List Nat} {v:Value} {l:List α} (h:App e w0 w L v l):own L w [v] l:=by
 obtain ⟨xs,Ls,⟨h1,h2⟩,rfl,h3,h4,h5,h6⟩:=h;refine ⟨h3, ?_⟩;rcases h2 with ⟨rfl,hl⟩ | ⟨g,cap,cur,rfl,_,hg,hnc,hcm,hcs,rfl⟩
 . have:l= []:=zN hl;subst this;have:Ls= []:=zN h5;subst this;exact .inl ⟨rfl,rfl,none,rfl⟩
 refine .inr ⟨g,cap,cur,e,Ls,rfl,hg,hnc,hcm,hcs,rfl,h5,λi Li a hi ha=> ?_⟩;have h:=h6 i Li a hi ha;have hil:i<l.length:=(zF.1 ha).1
 rw[xQ,xR,xK (by
  have:=yD (GoD.n α) (show i+1<=l.length by omega);rw[zW,yE] at this;omega)] at h
 exact h
theorem App.ge {e:TypeId} {w0 w:World} {L:List Nat} {v:Value} {l:List α} (h:App e w0 w L v l):∀b,b∈L->w0.heap.size<=b:=by
 obtain ⟨_,_,_,_,_,h4,_⟩:=h;exact λb hb=>(h4 b hb).1
theorem App.lt {e:TypeId} {w0 w:World} {L:List Nat} {v:Value} {l:List α} (h:App e w0 w L v l):∀b,b∈L->b<w.heap.size:=by
 obtain ⟨_,_,_,_,_,h4,_⟩:=h;exact λb hb=>(h4 b hb).2
theorem AppR.done {e:TypeId} {w0 w:World} {v:Value} {l:List α} (h:AppR e w0 w v l) (hb:Below w0.heap.size w0 w):rd w [v] l:=by
 obtain ⟨xs,⟨h1,h2⟩,h6⟩:=h;rcases h2 with ⟨rfl,hl⟩ | ⟨g,cap,cur,rfl,_,hg,hnc,hcm,hcs,rfl⟩
 . have:l= []:=zN hl;subst this;exact ⟨none,0,rfl,zS _,yW _,by simp⟩
 refine ⟨some ⟨g,0,none⟩,cap,rfl,hnc,hcm,λi a ha=>⟨g,0,_,rfl,GoD.rd_len (h6 i a ha),λj u hj=> ?_,Te (h6 i a ha) hb⟩⟩;have hlt:=(zF.1 hj).1;simp only[List.length_take] at hlt;rw[Gu (by omega),List.getElem?_take] at hj;split at hj
 . rw[xW];rw[xM] at hj;simp[World.cell?,hg,hj]
 cases hj
theorem AppR.slice {e:TypeId} {w0 w:World} {v:Value} {l:List α} (h:AppR e w0 w v l):∃oa cap,v= .slice oa l.length cap:=by
 obtain ⟨xs,⟨_,h2⟩,_⟩:=h;rcases h2 with ⟨rfl,hl⟩ | ⟨g,cap,cur,rfl,_⟩
 . exact ⟨none,0,by rw[hl]⟩
 exact ⟨_,_,rfl⟩
theorem App.slice {e:TypeId} {w0 w:World} {L:List Nat} {v:Value} {l:List α} (h:App e w0 w L v l):∃oa cap,v= .slice oa l.length cap:=GU h.done
end
end
section
open Go.RowKit
open GoD (rd own)
theorem OS {P:Program} (w:World) (t ty e:TypeId) (i:TypeInfo) (ht:P.underlying t=some (.slice e)) (hi:P.info? e=some i) (g n cap:Nat) (hn:n<=cap):
 (Builtin.append_ #[t,t] ty #[.slice (some ⟨g,0,none⟩) n cap,.slice none 0 0]).run P w= .ok (.slice (some ⟨g,0,none⟩) n cap) w:=by
 simp[Builtin.append_,run_underlying ht,sizeOf,typeInfo,hi,Builtin.lenOf,Builtin.firstCells,loadCells,loadCellsFrom,hn,storeCells]
section
variable {α:Type} [GoD α]
def Plain (α:Type) [GoD α]:Prop:=0<GoD.n α/\∀(w w':World) (cs:List Value) (a:α),rd w cs a->own [] w' cs a/\∀u∈cs,u.oneCell'=true
theorem G2:Plain Int:=⟨yF,λw w' cs a h=>⟨⟨rfl,h.1,h.2⟩,by rw[h.1];simp[Value.oneCell']⟩⟩
theorem Pm:Plain ByteArray:=⟨yF,λw w' cs a h=>⟨⟨rfl,h.1,h.2⟩,by rw[h.1];simp[Value.oneCell']⟩⟩
theorem C0 {β:Type} [GoD β] (h1:Plain α) (h2:Plain β):Plain (α×β):=by
 refine ⟨yP h1.1 (yV _ _),λw w' cs a h=> ?_⟩;obtain ⟨c1,c2,rfl,k1,k2⟩:=h;obtain ⟨o1,u1⟩:=h1.2 w w' _ _ k1;obtain ⟨o2,u2⟩:=h2.2 w w' _ _ k2;refine ⟨Qfh o1 o2 (by simp),λu hu=> ?_⟩;rcases zV.1 hu with hu | hu
 . exact u1 u hu
 exact u2 u hu
theorem Qgk {w:World} {oa:Option Addr} {cap:Nat} {l:List α} (hn:0<GoD.n α) (h:rd w [.slice oa l.length cap] l):l= []\/∃(b off:Nat) (news:List Value),oa=some ⟨b,off,none⟩/\news.length=l.length*GoD.n α/\(∀j u,news[j]? =some u->w.cell? ⟨b,off+j,none⟩=some u)/\
 ∀i a,l[i]? =some a->rd w ((news.drop (i*GoD.n α)).take (GoD.n α)) a:=by
 obtain ⟨oa',cap',e,hl,hm,hel⟩:=h;obtain ⟨rfl,rfl⟩:oa=oa'/\cap=cap':=by simpa using e
 cases hcase:l with
 | nil=>exact .inl rfl
 | cons a0 l0=>
   right
   obtain ⟨b,off,_,rfl,_⟩:=hel 0 a0 (by simp[hcase]);rw[←hcase]
   have key:∀k,k<=l.length->∃news:List Value,news.length=k*GoD.n α/\(∀j u,news[j]? =some u->w.cell? ⟨b,off+j,none⟩=some u)/\∀i a,i<k->l[i]? =some a->rd w ((news.drop (i*GoD.n α)).take (GoD.n α)) a:=by
    intro k
    induction k with
    | zero=>intro _;exact ⟨[],by simp,by simp,λi a hi=>absurd hi (Nat.not_lt_zero _)⟩
    | succ k ih=>
      intro hk;obtain ⟨news,h1,h2,h3⟩:=ih (by omega);obtain ⟨b',off',ce,e',hcl,hcc,hr⟩:=hel k _ (zK (by omega:k<l.length));obtain ⟨rfl,rfl⟩:b=b'/\off=off':=by simpa using e'
      refine ⟨news++ce,by rw[yO,h1,hcl,zW,yE],λj u hj=> ?_,λi a hi ha=> ?_⟩
      . rcases xV j news.length with h | h
        . rw[yL h] at hj;exact h2 j u hj
        rw[yH h] at hj;have:=hcc _ u hj;rw[show off+k*GoD.n α+(j-news.length)=off+j by rw[←h1];omega] at this;exact this
      rcases xV i k with h | h
      . have hmul:=yD (GoD.n α) (show i+1<=k by omega);rw[zW,yE] at hmul;rw[List.drop_append_of_le_length (by omega),yX (by rw[List.length_drop];omega)];exact h3 i a h ha
      obtain rfl:i=k:=by omega
      rw[zK (by omega)] at ha;obtain rfl:=zD ha;rw[←h1,List.drop_left,←hcl,List.take_length];exact hr
   obtain ⟨news,h1,h2,h3⟩:=key l.length (zS _);exact ⟨b,off,news,rfl,h1,h2,λi a ha=>h3 i a (zF.1 ha).1 ha⟩
theorem Qat {P:Program} (w:World) (t ty e:TypeId) (hpl:Plain α) (ht:P.underlying t=some (.slice e))
 (hinf:(P.info? e).map (λi=>(i.zero.map (·.cells.size),i.size,decide (i.bytes<=1000)))=some (some (GoD.n α),GoD.n α,true)) {g:Nat} (hg:w.heap[g]? =some (.cells #[] e (0,0)))
 {y:Value} {l:List α} (hr:rd w [y] l) (hl:l.length<=1073741824):
 ∃v' w' L,(Builtin.append_ #[t,t] ty #[.slice (some ⟨g,0,none⟩) 0 0,y]).run P w= .ok v' w'/\own L w' [v'] l/\Ext w w'/\∀b∈L,w.heap.size<=b/\b<w'.heap.size:=by
 obtain ⟨i,z,hi,hz,hsize,hzn,hb⟩:=Qi1 hinf;obtain ⟨oa,cap,rfl⟩:=QI hr;have hown:w.ownsRow g e i.size (.slice (some ⟨g,0,none⟩) 0 0) 0 []:=⟨by simp,.inr ⟨g,0, #[],rfl,zS _,hg,zS _,yW _,by simp,by simp⟩⟩;have h0:own [] w [.slice (some ⟨g,0,none⟩) 0 0] ([]:List α):=⟨by simp,.inl ⟨rfl,rfl,_,rfl⟩⟩;rcases Qgk hpl.1 hr with rfl | ⟨b,off,news,rfl,hnl,hnews,hrd⟩
 . cases oa with
   | none=>
     obtain ⟨_,_,ee,_,_,_⟩:=hr;by_cases hc:cap=0
     . subst hc;exact ⟨_,w, [],OS w t ty e i ht hi g 0 0 (zS _),h0,Ext.refl w,by simp⟩
     refine ⟨_,w, [], ?_,h0,Ext.refl w,by simp⟩;simp[Builtin.append_,run_underlying ht,sizeOf,typeInfo,hi,Builtin.lenOf,Builtin.firstCells,loadCells,loadCellsFrom,storeCells]
   | some ad=>
     refine ⟨_,w, [], ?_,h0,Ext.refl w,by simp⟩;simp[Builtin.append_,run_underlying ht,sizeOf,typeInfo,hi,Builtin.lenOf,Builtin.firstCells,loadCells,loadCellsFrom,storeCells]
 cases hlc:l with
 | nil=>
   subst hlc;refine ⟨_,w, [], ?_,h0,Ext.refl w,by simp⟩;simp[Builtin.append_,run_underlying ht,sizeOf,typeInfo,hi,Builtin.lenOf,Builtin.firstCells,loadCells,loadCellsFrom,storeCells]
 | cons a0 l0=>
   rw[←hlc];have hpos:0<l.length:=by rw[hlc];simp
   have h1:∀u∈news,Value.oneCell' u=true:=λu hu=>by
    obtain ⟨j,hj,rfl⟩:=xT hu;have hnp:=hpl.1;have hjn:j / GoD.n α<l.length:=by rw[Nat.div_lt_iff_lt_mul hnp];omega
    have hx:=(hpl.2 w w _ _ (hrd _ _ (zK hjn))).2;refine hx _ (yI (i:=j % GoD.n α) ?_);rw[Gu (Nat.mod_lt _ hnp),Nat.mul_comm,Nat.div_add_mod,zK hj]
   obtain ⟨v',w',hr',hw,hgr,_,hfresh⟩:=Qj5 (P:=P) w g t ty e i z ht hi hz (by rw[hsize];exact hzn) (by rw[hsize];exact hpl.1) hb hown ⟨b,off,none⟩ l.length cap news (by rw[hsize];exact hnl) (λj u hj=>by
    have:=hnews j u hj;unfold Addr.add;by_cases hj0:j=0
    . subst hj0;simpa using this
    simpa [hj0] using this) h1 (by omega) (Nat.le_of_lt (Ye hg))
   obtain ⟨hf1,hf2⟩:=hfresh _ _ _ rfl (by omega);have hext:Ext w w':=(Below.refl _ _).grown hf2 (zS _) (λk hk=>by cases hk);rw[xW,xL,hsize] at hw
   have hA:App e w w' (v'.ownBlock.toList++(xD l.length ([]:List Nat)).flatten) v' l:=by
    refine ⟨news,xD l.length [],⟨hw.1, ?_⟩,rfl, ?_, ?_,by simp,λi Li a hLi ha=> ?_⟩
    . rcases hw.2 with h | ⟨g',cap',cur,h1,h2,h3⟩
      . exact .inl h
      exact .inr ⟨g',cap',cur,h1,hf1 g' (by rw[h1];rfl),h3⟩
    . simp only[xE,yY];cases v'.ownBlock<;>simp
    . intro b' hb';simp only[xE,yY] at hb';have hb2:v'.ownBlock=some b':=by simpa using hb'
      exact ⟨hf1 b' hb2,(World.ownsRow.lt hw b' hb2).2⟩
    have:Li= []:=by
     have:=yI hLi;exact (List.mem_replicate.1 this).2
    subst this;exact (hpl.2 w w' _ _ (hrd i a ha)).1
   exact ⟨v',w',_,hr',hA.done,hext,λb hb=>⟨hA.ge b hb,hA.lt b hb⟩⟩
theorem G3 {P:Program} {w:World} {ops:Array Oper} {rest:List Oper} {o:Oper} {a:Act} {Q:Exit->Act->World->Prop} (s x:Operand) (t e:TypeId) (hpl:Plain α) (g:Nat) {y:Value} {l:List α} (hr:rd w [y] l) (hl:l.length<=1073741824)
 (hg:w.heap[g]? =some (.cells #[] e (0,0))) (hgd:o.guard=none) (ho:o.op= .call {callee:= .builtin .append,args:= #[s,x],argTypes:= #[t,t]}) (ht:P.underlying t=some (.slice e))
 (hinf:(P.info? e).map (λi=>(i.zero.map (·.cells.size),i.size,decide (i.bytes<=1000)))=some (some (GoD.n α),GoD.n α,true)) (hs:a.eval s= .slice (some ⟨g,0,none⟩) 0 0) (hx:a.eval x=y)
 (k:∀v' w' L,own L w' [v'] l->Ext w w'->(∀b∈L,w.heap.size<=b/\b<w'.heap.size)->wpList P ops Q rest (a.put o.dst v') w'):wpList P ops Q (o::rest) a w:=by
 refine wpList_plain hgd λ_ hK=> ?_
 obtain ⟨v',w',L,hr',h1,h2,h3⟩:=Qat (P:=P) w t o.type e hpl ht hinf hg hr hl;unfold Oper.wp execOp;simp only[ho,resolve,invoke,builtin,Sem.run_bind,Sem.run_pure,Result.andThen_ok,List.map_toArray,zZ,List.map_nil,hs,hx,hr'];exact hK _ _ (k v' w' L h1 h2 h3)
end
section
variable {P:Program} {o:Oper} {a:Act} {w:World} {K:Act->World->Prop} {Q:Exit->Act->World->Prop}
def New0 (e:TypeId) (v:Value) (L:List Nat) (w:World):Prop:=L= []/\∃g,v= .slice (some ⟨g,0,none⟩) 0 0/\w.heap[g]? =some (.cells #[] e (0,0))
theorem New0.keep {e:TypeId} {v:Value} {L:List Nat} {w w':World} (h:New0 e v L w) (hx:Ext w w'):New0 e v L w':=by
 obtain ⟨h1,g,h2,h3⟩:=h;exact ⟨h1,g,h2,(hx.block g (Ye h3)).trans h3⟩
end
end
section
open Go.RowKit
open GoD (rd own)
theorem Qau (w:World) (v:Value) (l:List Int) (ha:rd w [v] l) (hl:l.length<=1073741824):Calls Tryz.prog 147 #[v] w (RetS w l):=by
 have HA:=Lib.hid ha;obtain ⟨oa,cap,e,hlc,hm,hel⟩:=ha;obtain rfl:v=_:=by simpa using e
 clear e;have q22:∀(w:World) (a:Option Addr) (n c n' c':Nat),(binOp .eql 76 (.slice a n c) (.slice none n' c')).run Tryz.prog w= .ok (.bool a.isNone) w:=λw a n c n' c'=>Lib.run_eql_slice_nil w _ _ a n c n' c' Tryz.underlying76
 cases oa with
 | none=>
   have hnil:l= []:=by
    cases l with
    | nil=>rfl
    | cons a l=>obtain ⟨b,off,ce,h,_⟩:=hel 0 a rfl;cases h
   clear hel;subst hnil;go_enter Tryz.func147,Tryz.ntmps147
   go_wp2
   go_ret
   all_goals exact ⟨_, [],rfl,Below.refl _ _,⟨by simp,.inl ⟨rfl,rfl,_,rfl⟩⟩,by simp⟩
 | some ad=>
   clear hel;go_enter Tryz.func147,Tryz.ntmps147
   go_wp2_with (at_builtin;refine G3 (α:=Int) _ _ 76 3 G2 w.heap.size (Te HA.out (by go_grown)) hl (heap_alloc_new w _) rfl rfl Tryz.underlying76 (by kernel_rfl) rfl rfl ?_;intro v2 w2 L2 ho2 hx2 hL2)
   go_ret
   have hb:Below w.heap.size w w2:=Ni (show Below w.heap.size w _ by go_grown) hx2;exact ⟨v2,L2,rfl,hb,ho2,λb hb'=>by have:=(hL2 b hb').1;simp only[World.size_alloc] at this;omega⟩
theorem KE (l:List Int):ACalls Tryz.prog 147 [Qjr l] (Qk2 l):=Nn (by unfold E9;kernel_rfl) (λw v h hw=>Qau w v l h (by have:=hw.1;omega)) id
theorem EZ (w:World) (v:Value) (l:List ByteArray) (ha:rd w [v] l) (hl:l.length<=1073741824):Calls Tryz.prog 110 #[v] w (RetS w l):=by
 have HA:=Lib.hid ha;obtain ⟨oa,cap,e,hlc,hm,hel⟩:=ha;obtain rfl:v=_:=by simpa using e
 clear e;have q22:∀(w:World) (a:Option Addr) (n c n' c':Nat),(binOp .eql 55 (.slice a n c) (.slice none n' c')).run Tryz.prog w= .ok (.bool a.isNone) w:=λw a n c n' c'=>Lib.run_eql_slice_nil w _ _ a n c n' c' Tryz.underlying55
 cases oa with
 | none=>
   have hnil:l= []:=by
    cases l with
    | nil=>rfl
    | cons a l=>obtain ⟨b,off,ce,h,_⟩:=hel 0 a rfl;cases h
   clear hel;subst hnil;go_enter Tryz.func110,Tryz.ntmps110
   go_wp2
   go_ret
   all_goals exact ⟨_, [],rfl,Below.refl _ _,⟨by simp,.inl ⟨rfl,rfl,_,rfl⟩⟩,by simp⟩
 | some ad=>
   clear hel;go_enter Tryz.func110,Tryz.ntmps110
   go_wp2_with (at_builtin;refine G3 (α:=ByteArray) _ _ 55 9 Pm w.heap.size (Te HA.out (by go_grown)) hl (heap_alloc_new w _) rfl rfl Tryz.underlying55 (by kernel_rfl) rfl rfl ?_;intro v2 w2 L2 ho2 hx2 hL2)
   go_ret
   have hb:Below w.heap.size w w2:=Ni (show Below w.heap.size w _ by go_grown) hx2;exact ⟨v2,L2,rfl,hb,ho2,λb hb'=>by have:=(hL2 b hb').1;simp only[World.size_alloc] at this;omega⟩
theorem YQ (l:List ByteArray):ACalls Tryz.prog 110 [Qjr l] (Qk2 l):=Nn (by unfold E9;kernel_rfl) (λw v h hw=>EZ w v l h (by have:=hw.1;omega)) id
theorem OT (w:World) (v:Value) (l:List Bl) (ha:rd w [v] l) (hl:l.length<=1073741824):Calls Tryz.prog 151 #[v] w (RetS w l):=by
 have HA:=Lib.hid ha;obtain ⟨oa,cap,e,hlc,hm,hel⟩:=ha;obtain rfl:v=_:=by simpa using e
 clear e;have q22:∀(w:World) (a:Option Addr) (n c n' c':Nat),(binOp .eql 32 (.slice a n c) (.slice none n' c')).run Tryz.prog w= .ok (.bool a.isNone) w:=λw a n c n' c'=>Lib.run_eql_slice_nil w _ _ a n c n' c' Tryz.underlying32
 cases oa with
 | none=>
   have hnil:l= []:=by
    cases l with
    | nil=>rfl
    | cons a l=>obtain ⟨b,off,ce,h,_⟩:=hel 0 a rfl;cases h
   clear hel;subst hnil;go_enter Tryz.func151,Tryz.ntmps151
   go_wp2
   go_ret
   all_goals exact ⟨_, [],rfl,Below.refl _ _,⟨by simp,.inl ⟨rfl,rfl,_,rfl⟩⟩,by simp⟩
 | some ad=>
   clear hel;go_enter Tryz.func151,Tryz.ntmps151
   go_wp2_with (at_builtin;refine G3 (α:=Bl) _ _ 32 145 (C0 Pm (C0 G2 (C0 G2 Pm))) w.heap.size (Te HA.out (by go_grown)) hl (heap_alloc_new w _) rfl rfl Tryz.underlying32 (by kernel_rfl) rfl rfl ?_;intro v2 w2 L2 ho2 hx2 hL2)
   go_ret
   have hb:Below w.heap.size w w2:=Ni (show Below w.heap.size w _ by go_grown) hx2;exact ⟨v2,L2,rfl,hb,ho2,λb hb'=>by have:=(hL2 b hb').1;simp only[World.size_alloc] at this;omega⟩
theorem OU (l:List Bl):ACalls Tryz.prog 151 [Qjr l] (Qk2 l):=Nn (by unfold E9;kernel_rfl) (λw v h hw=>OT w v l h (by have:=hw.1;omega)) id
theorem OW (w:World) (v:Value) (l:List Yw) (ha:rd w [v] l) (hl:l.length<=1073741824):Calls Tryz.prog 190 #[v] w (RetS w l):=by
 have HA:=Lib.hid ha;obtain ⟨oa,cap,e,hlc,hm,hel⟩:=ha;obtain rfl:v=_:=by simpa using e
 clear e;have q22:∀(w:World) (a:Option Addr) (n c n' c':Nat),(binOp .eql 35 (.slice a n c) (.slice none n' c')).run Tryz.prog w= .ok (.bool a.isNone) w:=λw a n c n' c'=>Lib.run_eql_slice_nil w _ _ a n c n' c' Tryz.underlying35
 cases oa with
 | none=>
   have hnil:l= []:=by
    cases l with
    | nil=>rfl
    | cons a l=>obtain ⟨b,off,ce,h,_⟩:=hel 0 a rfl;cases h
   clear hel;subst hnil;go_enter Tryz.func190,Tryz.ntmps190
   go_wp2
   go_ret
   all_goals exact ⟨_, [],rfl,Below.refl _ _,⟨by simp,.inl ⟨rfl,rfl,_,rfl⟩⟩,by simp⟩
 | some ad=>
   clear hel;go_enter Tryz.func190,Tryz.ntmps190
   go_wp2_with (at_builtin;refine G3 (α:=Yw) _ _ 35 149 (C0 G2 (C0 G2 (C0 G2 (C0 Pm (C0 G2 (C0 G2 Pm)))))) w.heap.size (Te HA.out (by go_grown)) hl (heap_alloc_new w _) rfl rfl Tryz.underlying35 (by kernel_rfl) rfl rfl ?_;intro v2 w2 L2 ho2 hx2 hL2)
   go_ret
   have hb:Below w.heap.size w w2:=Ni (show Below w.heap.size w _ by go_grown) hx2;exact ⟨v2,L2,rfl,hb,ho2,λb hb'=>by have:=(hL2 b hb').1;simp only[World.size_alloc] at this;omega⟩
theorem OX (l:List Yw):ACalls Tryz.prog 190 [Qjr l] (Qk2 l):=Nn (by unfold E9;kernel_rfl) (λw v h hw=>OW w v l h (by have:=hw.1;omega)) id
theorem IU (w:World) (v:Value) (l:List Jf) (ha:rd w [v] l) (hl:l.length<=1073741824):Calls Tryz.prog 144 #[v] w (RetS w l):=by
 have HA:=Lib.hid ha;obtain ⟨oa,cap,e,hlc,hm,hel⟩:=ha;obtain rfl:v=_:=by simpa using e
 clear e;have q22:∀(w:World) (a:Option Addr) (n c n' c':Nat),(binOp .eql 24 (.slice a n c) (.slice none n' c')).run Tryz.prog w= .ok (.bool a.isNone) w:=λw a n c n' c'=>Lib.run_eql_slice_nil w _ _ a n c n' c' Tryz.underlying24
 cases oa with
 | none=>
   have hnil:l= []:=by
    cases l with
    | nil=>rfl
    | cons a l=>obtain ⟨b,off,ce,h,_⟩:=hel 0 a rfl;cases h
   clear hel;subst hnil;go_enter Tryz.func144,Tryz.ntmps144
   go_wp2
   go_ret
   all_goals exact ⟨_, [],rfl,Below.refl _ _,⟨by simp,.inl ⟨rfl,rfl,_,rfl⟩⟩,by simp⟩
 | some ad=>
   clear hel;go_enter Tryz.func144,Tryz.ntmps144
   go_wp2_with (at_builtin;refine G3 (α:=Jf) _ _ 24 143 (C0 Pm G2) w.heap.size (Te HA.out (by go_grown)) hl (heap_alloc_new w _) rfl rfl Tryz.underlying24 (by kernel_rfl) rfl rfl ?_;intro v2 w2 L2 ho2 hx2 hL2)
   go_ret
   have hb:Below w.heap.size w w2:=Ni (show Below w.heap.size w _ by go_grown) hx2;exact ⟨v2,L2,rfl,hb,ho2,λb hb'=>by have:=(hL2 b hb').1;simp only[World.size_alloc] at this;omega⟩
theorem VM (l:List Jf):ACalls Tryz.prog 144 [Qjr l] (Qk2 l):=Nn (by unfold E9;kernel_rfl) (λw v h hw=>IU w v l h (by have:=hw.1;omega)) id
open GoE (enc wide)
abbrev Z:=List ByteArray
def tt:List (Nat×TI):= [(3,⟨.int .i64,1, [.i 0], []⟩),
 (4,⟨.bool,1, [.b false], []⟩),
 (5,⟨.int .u8,1, [.int .u8 0], []⟩),
 (9,⟨.str,1, [.s ⟨#[]⟩], []⟩),
 (22,⟨.sli 5,1, [.e 1], []⟩),
 (24,⟨.sli 143,1, [.e 2], []⟩),
 (25,⟨.sli 34,1, [.e 5], []⟩),
 (27,⟨.struct [(0,1,false),(1,1,false),(2,1,false)],3, [.e 2,.e 5,.i 0], []⟩),
 (28,⟨.sli 37,1, [.e 2], []⟩),
 (29,⟨.sli 117,1, [.e 2], []⟩),
 (31,⟨.struct [(0,3,true),(3,1,false),(4,1,false)],5, [.e 2,.e 5,.i 0,.e 2,.e 2], []⟩),
 (32,⟨.sli 145,1, [.e 4], []⟩),
 (34,⟨.struct [(0,1,false),(1,1,false),(2,1,false),(3,1,false),(4,1,false)],5, [.i 0,.i 0,.b false,.i 0,.e 4], []⟩),
 (35,⟨.sli 149,1, [.e 7], []⟩),
 (37,⟨.struct [(0,1,false),(1,1,false)],2, [.s ⟨#[]⟩,.e 7], []⟩),
 (39,⟨.struct [(0,1,false),(1,5,true),(6,1,false),(7,2,true)],9, [.i 0,.i 0,.i 0,.b false,.i 0,.e 4,.i 0,.s ⟨#[]⟩,.e 7], []⟩),
 (44,⟨.sli 174,1, [.e 3], []⟩),
 (55,⟨.sli 9,1, [.e 1], []⟩),
 (72,⟨.struct [(0,1,false),(1,1,false),(2,1,false)],3, [.e 1,.i 0,.i 0], []⟩),
 (76,⟨.sli 3,1, [.e 1], []⟩),
 (117,⟨.struct [(0,1,false),(1,1,false)],2, [.s ⟨#[]⟩,.e 1], []⟩),
 (120,⟨.struct [(0,1,false),(1,1,false),(2,1,false)],3, [.i 0,.i 0,.s ⟨#[]⟩], [.int,.int,.str]⟩),
 (143,⟨.struct [(0,1,false),(1,1,false)],2, [.s ⟨#[]⟩,.i 0], [.str,.int]⟩),
 (145,⟨.struct [(0,1,false),(1,3,true)],4, [.s ⟨#[]⟩,.i 0,.i 0,.s ⟨#[]⟩], [.str,.int,.int,.str]⟩),
 (149,⟨.struct [(0,1,false),(1,1,false),(2,1,false),(3,1,false),(4,3,true)],7, [.i 0,.i 0,.i 0,.s ⟨#[]⟩,.i 0,.i 0,.s ⟨#[]⟩], [.int,.int,.int,.str,.int,.int,.str]⟩),
 (174,⟨.struct [(0,1,false),(1,1,false),(2,1,false)],3, [.s ⟨#[]⟩,.e 1,.e 1], []⟩),
 (227,⟨.sli 4,1, [.e 1], []⟩)]
theorem Qb:Nj Tryz.prog tt=true:=by kernel_rfl
theorem Zg:Tryz.prog.follows .mixedOrders=true:=by kernel_rfl
def Zp (n:Int) (low:Int) (high_:Int):Bool:=(decide (low<=n)&&decide (n<=high_))
theorem Vu (n:Int) (low:Int) (high_:Int):ACalls Tryz.prog 90 [.i n,.i low,.i high_] (.b (Zp n low high_)):=by
 refine en Qb Tryz.func90 λw0 F0 hG=> ?_
 refine sn Qb [0,1,2,6] [] p0 <| Qc <| mz [(6,.b false)] [] [] [] <| jn [(6,.b (decide (low<=n)&&decide (n<=high_)))] [0,1,2,6] [] [] (decide (low<=n)) (λh1=> ?_) (λh1=> ?_) ?_
 ·refine rn Qb [6] [] (pt 2 h1 p0) ?_;exact zA (by rw[h1]<;>kernel_rfl)
 ·refine rn Qb [6] [] (pf 2 h1 p0) ?_;exact zA (by rw[h1]<;>kernel_rfl)
 exact Qe <| pb [] (show Zp n low high_=(decide (low<=n)&&decide (n<=high_)) from rfl)
def Us (s_:ByteArray) (k0:Nat) (_:Unit):Rd (Bool) (Unit) (Unit):=(bif (decide (Ea s_ (k0:Int)<(97:Int))|| decide (Ea s_ (k0:Int)>(122:Int))) then (.ret false) else (.next ()))
def H1 (_:Nat) (_:Unit):Unit:=()
def Zd (s_:ByteArray):Bool:=(Out.on (Uy (Us s_) H1 (zE s_:Int).toNat 0 ()) (λ_=>(Zp (zE s_:Int) 1 6)))
theorem V7 (s_:ByteArray):ACalls Tryz.prog 159 [.s s_] (.b (Zd s_)):=by
 refine en Qb Tryz.func159 λw0 F0 hG=> ?_
 refine sn Qb [0,2] [] p0 <| Qc <| tn Qb [0,2,5,6] [] p0 <| mz [(2,.b false),(5,.i (zE s_:Int)),(6,.i 0)] [] [] [] <| stT 0 0 s_ (λhs1=> ?_)
 refine Ql9 (Us s_) H1 (zE s_:Int).toNat () (λk0 _=> [(6,.i (k0:Int))]) [6] (λ_=> []) [5,6] wf0 (λk0 s0 hk0 U=> ?_) (λk0 s0 hk0 U=> ?_) (λy0 hD0=> ?_)
 ·refine sn Qb [0,2,5,6,7] [] (pe 0 (zB ((k0:Int)<(zE s_:Int))) p0) <| Qc <| ckT <| Qg <| Qc <| Qv <| tn Qb [0,2,3,5,6] [] p0 <| Qc <| mz [(3,.i (k0:Int))] [] [] [] <| jn [(18,.b (decide (Ea s_ (k0:Int)<(97:Int))|| decide (Ea s_ (k0:Int)>(122:Int))))] [3] [] [] (decide (Ea s_ (k0:Int)<(97:Int))) (λh2=> ?_) (λh2=> ?_) ?_
  ·have h2d:=of_decide_eq_true h2;refine rn Qb [0,2,5,6,18] [] (px (YK (i:=(k0:Int)) (n:=(zE s_)) (by omega)) (pt 3 h2 p0)) ?_;exact zA (by rw[h2]<;>kernel_rfl)
  ·have h2d:=of_decide_eq_false h2;refine rn Qb [0,2,5,6,18] [] (px (YK (i:=(k0:Int)) (n:=(zE s_)) (by omega)) (pf 3 h2 (px (YK (i:=(k0:Int)) (n:=(zE s_)) (by omega)) p0))) ?_;exact zA (by rw[h2]<;>kernel_rfl)
  refine ck (decide (Ea s_ (k0:Int)<(97:Int))|| decide (Ea s_ (k0:Int)>(122:Int))) (λh3=> ?_) (λh3=> ?_)
  ·refine su Qb [] [18] [] [] p0 <| Qe ?_
   have hr4:(Uy (Us s_) H1 (zE s_:Int).toNat 0 ())= .ret false:=SM hk0 (Q4 h3 (rfl)) U;exact pb [] (Pd hr4)
  have h3l:(decide (Ea s_ (k0:Int)<(97:Int)))=false:=Re h3;have h3ld:=of_decide_eq_false h3l;have h3r:(decide (Ea s_ (k0:Int)>(122:Int)))=false:=Pz h3;have h3rd:=of_decide_eq_false h3r;refine Qg <| rn Qb [0,2,5,6] [] (pe 0 (Jl (Qo k0 (by omega))) p0) ?_
  exact xw _ (V2 hk0 (Qi h3 (rfl)) U)
 ·exact sn Qb [0,2,5,6,7] [] (pe 0 (zC ((k0:Int)<(zE s_:Int))) p0) <| Qc <| ckF <| Q3 <| xw _ (Dc hk0 (rfl) U)
 exact sn Qb [2] [] (pc 2 (Vu (zE s_:Int) 1 6) p0) <| Qe <| pb [] (Wk hD0 (rfl))
def Vk (v:B3):Bool:=(bif (v.1==(0:Int)) then ((v.1==0)&&((v.2.1==0)&&((v.2.2.toList==(⟨#[]⟩:ByteArray).toList)&&true))) else (bif (v.1==(1:Int)) then ((Zp v.2.1 0 999)&&(v.2.2.toList==(⟨#[]⟩:ByteArray).toList)) else (bif (v.1==(2:Int)) then ((Zd v.2.2)&&(v.2.1==(0:Int))) else false)))
theorem Uh (v:B3):ACalls Tryz.prog 229 [.a [.i v.1,.i v.2.1,.s v.2.2]] (.b (Vk v)):=by
 refine en Qb Tryz.func229 λw0 F0 hG=> ?_
 refine sn Qb [1,2] [1] p0 <| Qc <| tn Qb [1,2,4] [1] p0 <| Qv <| tu Qb [(1,.p 1 0),(2,.b false),(4,.i v.1),(5,.b (v.1==(0:Int)))] [0] [(1, [.i v.1,.i v.2.1,.s v.2.2])] [] p0 <| ck (v.1==(0:Int)) (λh1=> ?_) (λh1=> ?_)
 ·exact sn Qb [2] [] p0 <| Qe <| pb [] (Q4 h1 (rfl))
 refine sn Qb [1,2,4,10] [1] p0 <| ck (v.1==(1:Int)) (λh2=> ?_) (λh2=> ?_)
 ·refine Qc <| mz [(10,.b (v.1==(1:Int)))] [5] [] [] <| jn [(2,.b ((Zp v.2.1 0 999)&&(v.2.2.toList==(⟨#[]⟩:ByteArray).toList)))] [1,2,4,10] [] [1] (Zp v.2.1 0 999) (λh3=> ?_) (λh3=> ?_) ?_
  ·refine rn Qb [2] [] (pc 2 (cb h3 (Vu v.2.1 0 999)) p0) ?_;exact zA (by rw[h3]<;>kernel_rfl)
  ·refine rn Qb [2] [] (pc 2 (cb h3 (Vu v.2.1 0 999)) p0) ?_;exact zA (by rw[h3]<;>kernel_rfl)
  exact Qe <| pb [] (Qi h1 (Q4 h2 (rfl)))
 refine tn Qb [1,2,20] [1] p0 <| ck (v.1==(2:Int)) (λh4=> ?_) (λh4=> ?_)
 ·refine Qc <| mz [(20,.b (v.1==(2:Int)))] [4,5] [] [] <| jn [(2,.b ((Zd v.2.2)&&(v.2.1==(0:Int))))] [1,2,20] [] [1] (Zd v.2.2) (λh5=> ?_) (λh5=> ?_) ?_
  ·refine rn Qb [2] [] (pc 2 (cb h5 (V7 v.2.2)) p0) ?_;exact zA (by rw[h5]<;>kernel_rfl)
  ·refine rn Qb [2] [] (pc 2 (cb h5 (V7 v.2.2)) p0) ?_;exact zA (by rw[h5]<;>kernel_rfl)
  exact Qe <| pb [] (Qi h1 (Qi h2 (Q4 h4 (rfl))))
 exact Qg <| tu Qb [] [1,4,5] [] [1] p0 <| Qe <| pb [] (Qi h1 (Qi h2 (Qi h4 (rfl))))
def Xf (x:Int) (least:Int) (most:Int):Bool:=(decide (x>=least)&&decide (x<=most))
theorem Z8 (x:Int) (least:Int) (most:Int):ACalls Tryz.prog 23 [.i x,.i least,.i most] (.b (Xf x least most)):=by
 refine en Qb Tryz.func23 λw0 F0 hG=> ?_
 refine sn Qb [0,1,2,6] [] p0 <| Qc <| mz [(6,.b false)] [] [] [] <| jn [(6,.b (decide (x>=least)&&decide (x<=most)))] [0,1,2,6] [] [] (decide (x>=least)) (λh1=> ?_) (λh1=> ?_) ?_
 ·refine rn Qb [6] [] (pt 2 h1 p0) ?_;exact zA (by rw[h1]<;>kernel_rfl)
 ·refine rn Qb [6] [] (pf 2 h1 p0) ?_;exact zA (by rw[h1]<;>kernel_rfl)
 exact Qe <| pb [] (show Xf x least most=(decide (x>=least)&&decide (x<=most)) from rfl)
def By (s_:ByteArray) (k0:Nat) (_:Unit):Rd (Bool) (Unit) (Unit):=(bif (decide (Ea s_ (k0:Int)<(97:Int))|| decide (Ea s_ (k0:Int)>(122:Int))) then (.ret false) else (.next ()))
def C1 (_:Nat) (_:Unit):Unit:=()
def I6 (s_:ByteArray) (most:Int):Bool:=(Out.on (Uy (By s_) C1 (zE s_:Int).toNat 0 ()) (λ_=>(Xf (zE s_:Int) 1 most)))
theorem YR (s_:ByteArray) (most:Int):ACalls Tryz.prog 221 [.s s_,.i most] (.b (I6 s_ most)):=by
 refine en Qb Tryz.func221 λw0 F0 hG=> ?_
 refine sn Qb [0,1,4] [] p0 <| Qc <| tn Qb [0,1,4,5] [] p0 <| mz [(4,.b false),(5,.i 0)] [] [] [] <| stT 0 0 s_ (λhs1=> ?_)
 refine Ql9 (By s_) C1 (zE s_:Int).toNat () (λk0 _=> [(5,.i (k0:Int))]) [5] (λ_=> []) [5] wf0 (λk0 s0 hk0 U=> ?_) (λk0 s0 hk0 U=> ?_) (λy0 hD0=> ?_)
 ·refine Qc <| sn Qb [0,1,4,5,9] [] (pe 3 (zB ((k0:Int)<(zE s_:Int))) p0) <| ckT <| Qg <| Qc <| Qv <| Qc <| mz [(9,.b true)] [] [] [] <| jn [(21,.b (decide (Ea s_ (k0:Int)<(97:Int))|| decide (Ea s_ (k0:Int)>(122:Int))))] [9] [] [] (decide (Ea s_ (k0:Int)<(97:Int))) (λh2=> ?_) (λh2=> ?_) ?_
  ·have h2d:=of_decide_eq_true h2;refine rn Qb [0,1,4,5,21] [] (px (YK (i:=(k0:Int)) (n:=(zE s_)) (by omega)) (pt 3 h2 p0)) ?_;exact zA (by rw[h2]<;>kernel_rfl)
  ·have h2d:=of_decide_eq_false h2;refine rn Qb [0,1,4,5,21] [] (px (YK (i:=(k0:Int)) (n:=(zE s_)) (by omega)) (pf 3 h2 (px (YK (i:=(k0:Int)) (n:=(zE s_)) (by omega)) p0))) ?_;exact zA (by rw[h2]<;>kernel_rfl)
  refine ck (decide (Ea s_ (k0:Int)<(97:Int))|| decide (Ea s_ (k0:Int)>(122:Int))) (λh3=> ?_) (λh3=> ?_)
  ·refine su Qb [] [21] [] [] p0 <| Qe ?_
   have hr4:(Uy (By s_) C1 (zE s_:Int).toNat 0 ())= .ret false:=SM hk0 (Q4 h3 (rfl)) U;exact pb [] (Pd hr4)
  have h3l:(decide (Ea s_ (k0:Int)<(97:Int)))=false:=Re h3;have h3ld:=of_decide_eq_false h3l;have h3r:(decide (Ea s_ (k0:Int)>(122:Int)))=false:=Pz h3;have h3rd:=of_decide_eq_false h3r;refine Qg <| rn Qb [0,1,4,5] [] (pe 1 (Jl (Qo k0 (by omega))) p0) ?_
  exact xw _ (V2 hk0 (Qi h3 (rfl)) U)
 ·exact Qc <| sn Qb [0,1,4,5,9] [] (pe 3 (zC ((k0:Int)<(zE s_:Int))) p0) <| ckF <| Q3 <| xw _ (Dc hk0 (rfl) U)
 exact sn Qb [4] [] (pc 3 (Z8 (zE s_:Int) 1 most) p0) <| Qe <| pb [] (Wk hD0 (rfl))
def Zm (s_:ByteArray):Bool:=(I6 s_ 6)
theorem Kp (s_:ByteArray):ACalls Tryz.prog 182 [.s s_] (.b (Zm s_)):=by
 refine en Qb Tryz.func182 λw0 F0 hG=> ?_
 exact sn Qb [0,2] [] p0 <| tn Qb [2] [] (pc 1 (YR s_ 6) p0) <| Qe <| pb [] (show Zm s_=(I6 s_ 6) from rfl)
def Kx (v:B3):Bool:=(bif (v.1==(0:Int)) then ((v.1==0)&&((v.2.1==0)&&((v.2.2.toList==(⟨#[]⟩:ByteArray).toList)&&true))) else (bif (v.1==(1:Int)) then ((Xf v.2.1 0 999)&&(v.2.2.toList==(⟨#[]⟩:ByteArray).toList)) else (bif (v.1==(2:Int)) then ((Zm v.2.2)&&(v.2.1==(0:Int))) else false)))
theorem Kj (v:B3):ACalls Tryz.prog 216 [.a [.i v.1,.i v.2.1,.s v.2.2]] (.b (Kx v)):=by
 refine en Qb Tryz.func216 λw0 F0 hG=> ?_
 refine sn Qb [1,2] [1] p0 <| Qc <| tn Qb [1,2,4] [1] p0 <| Qv <| tu Qb [(1,.p 1 0),(2,.b false),(4,.i v.1),(5,.b (v.1==(0:Int)))] [0] [(1, [.i v.1,.i v.2.1,.s v.2.2])] [] p0 <| ck (v.1==(0:Int)) (λh1=> ?_) (λh1=> ?_)
 ·exact sn Qb [2] [] p0 <| Qe <| pb [] (Q4 h1 (rfl))
 refine sn Qb [1,2,4,10] [1] p0 <| ck (v.1==(1:Int)) (λh2=> ?_) (λh2=> ?_)
 ·refine Qc <| mz [(10,.b (v.1==(1:Int)))] [5] [] [] <| jn [(2,.b ((Xf v.2.1 0 999)&&(v.2.2.toList==(⟨#[]⟩:ByteArray).toList)))] [1,2,4,10] [] [1] (Xf v.2.1 0 999) (λh3=> ?_) (λh3=> ?_) ?_
  ·refine rn Qb [2] [] (pc 2 (cb h3 (Z8 v.2.1 0 999)) p0) ?_;exact zA (by rw[h3]<;>kernel_rfl)
  ·refine rn Qb [2] [] (pc 2 (cb h3 (Z8 v.2.1 0 999)) p0) ?_;exact zA (by rw[h3]<;>kernel_rfl)
  exact Qe <| pb [] (Qi h1 (Q4 h2 (rfl)))
 refine tn Qb [1,2,20] [1] p0 <| ck (v.1==(2:Int)) (λh4=> ?_) (λh4=> ?_)
 ·refine Qc <| mz [(20,.b (v.1==(2:Int)))] [4,5] [] [] <| jn [(2,.b ((Zm v.2.2)&&(v.2.1==(0:Int))))] [1,2,20] [] [1] (Zm v.2.2) (λh5=> ?_) (λh5=> ?_) ?_
  ·refine rn Qb [2] [] (pc 2 (cb h5 (Kp v.2.2)) p0) ?_;exact zA (by rw[h5]<;>kernel_rfl)
  ·refine rn Qb [2] [] (pc 2 (cb h5 (Kp v.2.2)) p0) ?_;exact zA (by rw[h5]<;>kernel_rfl)
  exact Qe <| pb [] (Qi h1 (Qi h2 (Q4 h4 (rfl))))
 exact Qg <| tu Qb [] [1,4,5] [] [1] p0 <| Qe <| pb [] (Qi h1 (Qi h2 (Qi h4 (rfl))))
def Yr (s_:ByteArray):Bool:=(I6 s_ 1)
theorem Y5 (s_:ByteArray):ACalls Tryz.prog 212 [.s s_] (.b (Yr s_)):=by
 refine en Qb Tryz.func212 λw0 F0 hG=> ?_
 exact sn Qb [0,2] [] p0 <| tn Qb [2] [] (pc 1 (YR s_ 1) p0) <| Qe <| pb [] (show Yr s_=(I6 s_ 1) from rfl)
def Zx (s_:ByteArray):Bool:=(((zE s_:Int)==(1:Int))&&(decide (Ea s_ 0>=(97:Int))&&decide (Ea s_ 0<=(122:Int))))
theorem Jc (s_:ByteArray):ACalls Tryz.prog 209 [.s s_] (.b (Zx s_)):=by
 refine en Qb Tryz.func209 λw0 F0 hG=> ?_
 refine sn Qb [0,2] [] p0 <| Qc <| mz [(2,.b false)] [] [] [] <| jn [(2,.b (((zE s_:Int)==(1:Int))&&(decide (Ea s_ 0>=(97:Int))&&decide (Ea s_ 0<=(122:Int)))))] [0,2] [] [] ((zE s_:Int)==(1:Int)) (λh1=> ?_) (λh1=> ?_) ?_
 ·have h1d:=eq_of_beq h1;refine Xu (decide (Ea s_ 0>=(97:Int))) (λh2=> ?_) (λh2=> ?_)
  ·have h2d:=of_decide_eq_true h2;refine rn Qb [2] [] (pt 2 h1 (px (YK (i:=0) (n:=(zE s_)) (by omega)) (pt 6 h2 (px (YK (i:=0) (n:=(zE s_)) (by omega)) p0)))) ?_;exact zA (by rw[h1,h2]<;>kernel_rfl)
  have h2d:=of_decide_eq_false h2;refine rn Qb [2] [] (pt 2 h1 (px (YK (i:=0) (n:=(zE s_)) (by omega)) (pf 6 h2 p0))) ?_;exact zA (by rw[h1,h2]<;>kernel_rfl)
 ·refine rn Qb [2] [] (pf 2 h1 p0) ?_;exact zA (by rw[h1]<;>kernel_rfl)
 exact Qe <| pb [] (show Zx s_=(((zE s_:Int)==(1:Int))&&(decide (Ea s_ 0>=(97:Int))&&decide (Ea s_ 0<=(122:Int)))) from rfl)
def Jz (n:Yw) (at_:Int):Bool:=(bif (n.1==(1:Int)) then ((n.1==n.1)&&((n.2.1==0)&&((n.2.2.1==0)&&((n.2.2.2.1.toList==(⟨#[]⟩:ByteArray).toList)&&((n.2.2.2.2.1==0)&&((n.2.2.2.2.2.1==0)&&((n.2.2.2.2.2.2.toList==(⟨#[]⟩:ByteArray).toList)&&true))))))) else (bif (n.1==(2:Int)) then (((n.1==n.1)&&((n.2.1==0)&&((n.2.2.1==0)&&((n.2.2.2.1.toList==n.2.2.2.1.toList)&&((n.2.2.2.2.1==0)&&((n.2.2.2.2.2.1==0)&&((n.2.2.2.2.2.2.toList==(⟨#[]⟩:ByteArray).toList)&&true)))))))&&(Zx n.2.2.2.1)) else (bif (bif (n.1==(3:Int)) then (n.1==(3:Int)) else (n.1==(4:Int))) then (((n.1==n.1)&&((n.2.1==0)&&((n.2.2.1==0)&&((n.2.2.2.1.toList==n.2.2.2.1.toList)&&((n.2.2.2.2.1==n.2.2.2.2.1)&&((n.2.2.2.2.2.1==n.2.2.2.2.2.1)&&((n.2.2.2.2.2.2.toList==n.2.2.2.2.2.2.toList)&&true)))))))&&((Zx n.2.2.2.1)&&((Vk n.2.2.2.2)&&((n.2.2.2.2.1 !=(0:Int))&&((n.1==(3:Int))|| (n.2.2.2.2.1==(1:Int))))))) else (bif (n.1==(5:Int)) then (((n.1==n.1)&&((n.2.1==n.2.1)&&((n.2.2.1==0)&&((n.2.2.2.1.toList==(⟨#[]⟩:ByteArray).toList)&&((n.2.2.2.2.1==0)&&((n.2.2.2.2.2.1==0)&&((n.2.2.2.2.2.2.toList==(⟨#[]⟩:ByteArray).toList)&&true)))))))&&(decide (at_>(0:Int))&&(Zp n.2.1 0 (IntKind.i64.wrap (at_-1))))) else (bif (bif (n.1==(6:Int)) then (n.1==(6:Int)) else (n.1==(7:Int))) then (((n.1==n.1)&&((n.2.1==n.2.1)&&((n.2.2.1==n.2.2.1)&&((n.2.2.2.1.toList==(⟨#[]⟩:ByteArray).toList)&&((n.2.2.2.2.1==0)&&((n.2.2.2.2.2.1==0)&&((n.2.2.2.2.2.2.toList==(⟨#[]⟩:ByteArray).toList)&&true)))))))&&(decide (at_>(0:Int))&&((Zp n.2.1 0 (IntKind.i64.wrap (at_-1)))&&(Zp n.2.2.1 0 (IntKind.i64.wrap (at_-1)))))) else (bif (n.1==(8:Int)) then (((n.1==n.1)&&((n.2.1==0)&&((n.2.2.1==0)&&((n.2.2.2.1.toList==n.2.2.2.1.toList)&&((n.2.2.2.2.1==0)&&((n.2.2.2.2.2.1==0)&&((n.2.2.2.2.2.2.toList==(⟨#[]⟩:ByteArray).toList)&&true)))))))&&(Zd n.2.2.2.1)) else (bif (n.1==(9:Int)) then (((n.1==n.1)&&((n.2.1==0)&&((n.2.2.1==0)&&((n.2.2.2.1.toList==n.2.2.2.1.toList)&&((n.2.2.2.2.1==0)&&((n.2.2.2.2.2.1==0)&&((n.2.2.2.2.2.2.toList==(⟨#[]⟩:ByteArray).toList)&&true)))))))&&(Zd n.2.2.2.1)) else false)))))))
theorem I7 (n:Yw) (at_:Int):ACalls Tryz.prog 203 [.a [.i n.1,.i n.2.1,.i n.2.2.1,.s n.2.2.2.1,.i n.2.2.2.2.1,.i n.2.2.2.2.2.1,.s n.2.2.2.2.2.2],.i at_] (.b (Jz n at_)):=by
 refine en Qb Tryz.func203 λw0 F0 hG=> ?_
 refine sn Qb [1,2,4] [2] p0 <| tn Qb [1,2,4,5] [2,5] p0 <| Qc <| tu Qb [(2,.p 2 0),(4,.b false),(5,.p 5 0),(10,.i n.1)] [0] [(2, [.i n.1,.i n.2.1,.i n.2.2.1,.s n.2.2.2.1,.i n.2.2.2.2.1,.i n.2.2.2.2.2.1,.s n.2.2.2.2.2.2]),(5, [.i n.1,.i 0,.i 0,.s ⟨#[]⟩,.i 0,.i 0,.s ⟨#[]⟩])] [] p0 <| Qv <| sn Qb [1,2,4,5,10,11] [2,5] p0 <| ck (n.1==(1:Int)) (λh1=> ?_) (λh1=> ?_)
 ·exact Qg <| tn Qb [4] [] p0 <| Qe <| pb [] (Q4 h1 (rfl))
 refine tn Qb [1,2,4,5,10,13] [2,5] p0 <| ck (n.1==(2:Int)) (λh2=> ?_) (λh2=> ?_)
 ·refine tu Qb [] [1,10] [(5, [.i n.1,.i 0,.i 0,.s n.2.2.2.1,.i 0,.i 0,.s ⟨#[]⟩])] [5] p0 <| Qc <| jn [(4,.b (((n.1==n.1)&&((n.2.1==0)&&((n.2.2.1==0)&&((n.2.2.2.1.toList==n.2.2.2.1.toList)&&((n.2.2.2.2.1==0)&&((n.2.2.2.2.2.1==0)&&((n.2.2.2.2.2.2.toList==(⟨#[]⟩:ByteArray).toList)&&true)))))))&&(Zx n.2.2.2.1)))] [4] [] [] ((n.1==n.1)&&((n.2.1==0)&&((n.2.2.1==0)&&((n.2.2.2.1.toList==n.2.2.2.1.toList)&&((n.2.2.2.2.1==0)&&((n.2.2.2.2.2.1==0)&&((n.2.2.2.2.2.2.toList==(⟨#[]⟩:ByteArray).toList)&&true))))))) (λh3=> ?_) (λh3=> ?_) ?_
  ·refine rn Qb [2,4,5] [2,5] (pt 2 h3 (pc 6 (Jc n.2.2.2.1) p0)) ?_;exact zA (by rw[h3]<;>kernel_rfl)
  ·refine ru Qb [] [] [] [] (pf 2 h3 p0) ?_;exact zA (by rw[h3]<;>kernel_rfl)
  exact Qe <| pb [] (Qi h1 (Q4 h2 (rfl)))
 refine Qc <| tu Qb [(26,.b (n.1==(3:Int)))] [] [] [] p0 <| jn [(26,.b (bif (n.1==(3:Int)) then (n.1==(3:Int)) else (n.1==(4:Int))))] [26] [] [] (n.1==(3:Int)) (λh4=> ?_) (λh4=> ?_) ?_
 ·refine ckt h4 ?_;exact Qg <| ⟨rfl,Qf (by rw[h4]<;>kernel_rfl)⟩
 ·refine ckf h4 ?_;refine rn Qb [1,2,4,5,10,26] [2,5] p0 ?_;exact zA (by rw[h4]<;>kernel_rfl)
 refine ck (bif (n.1==(3:Int)) then (n.1==(3:Int)) else (n.1==(4:Int))) (λh5=> ?_) (λh5=> ?_)
 ·refine sN Qb Zg [2,4,5] [2,5] p0 <| Qc <| mz [] [1,10,26] [(5, [.i n.1,.i 0,.i 0,.s n.2.2.2.1,.i n.2.2.2.2.1,.i n.2.2.2.2.2.1,.s n.2.2.2.2.2.2])] [5] <| jn [(4,.b (((n.1==n.1)&&((n.2.1==0)&&((n.2.2.1==0)&&((n.2.2.2.1.toList==n.2.2.2.1.toList)&&((n.2.2.2.2.1==n.2.2.2.2.1)&&((n.2.2.2.2.2.1==n.2.2.2.2.2.1)&&((n.2.2.2.2.2.2.toList==n.2.2.2.2.2.2.toList)&&true)))))))&&((Zx n.2.2.2.1)&&((Vk n.2.2.2.2)&&((n.2.2.2.2.1 !=(0:Int))&&((n.1==(3:Int))|| (n.2.2.2.2.1==(1:Int))))))))] [4] [] [] ((n.1==n.1)&&((n.2.1==0)&&((n.2.2.1==0)&&((n.2.2.2.1.toList==n.2.2.2.1.toList)&&((n.2.2.2.2.1==n.2.2.2.2.1)&&((n.2.2.2.2.2.1==n.2.2.2.2.2.1)&&((n.2.2.2.2.2.2.toList==n.2.2.2.2.2.2.toList)&&true))))))) (λh6=> ?_) (λh6=> ?_) ?_
  ·refine Xu (Zx n.2.2.2.1) (λh7=> ?_) (λh7=> ?_)
   ·refine Xu (Vk n.2.2.2.2) (λh8=> ?_) (λh8=> ?_)
    ·refine Xu (n.2.2.2.2.1 !=(0:Int)) (λh9=> ?_) (λh9=> ?_)
     ·refine Xu (n.1==(3:Int)) (λh10=> ?_) (λh10=> ?_)
      ·refine rn Qb [2,4,5] [2,5] (pt 2 h6 (pc 6 (cb h7 (Jc n.2.2.2.1)) (pc 11 (cb h8 (Uh n.2.2.2.2)) (pt 17 h9 (pt 22 h10 p0))))) ?_;exact zA (by rw[h6,h7,h8,h9,h10]<;>kernel_rfl)
      refine rn Qb [2,4,5] [2,5] (pt 2 h6 (pc 6 (cb h7 (Jc n.2.2.2.1)) (pc 11 (cb h8 (Uh n.2.2.2.2)) (pt 17 h9 (pf 22 h10 p0))))) ?_;exact zA (by rw[h6,h7,h8,h9,h10]<;>kernel_rfl)
     refine ru Qb [] [] [] [] (pt 2 h6 (pc 6 (cb h7 (Jc n.2.2.2.1)) (pc 11 (cb h8 (Uh n.2.2.2.2)) (pf 17 h9 p0)))) ?_;exact zA (by rw[h6,h7,h8,h9]<;>kernel_rfl)
    refine ru Qb [] [] [] [] (pt 2 h6 (pc 6 (cb h7 (Jc n.2.2.2.1)) (pc 11 (cb h8 (Uh n.2.2.2.2)) p0))) ?_;exact zA (by rw[h6,h7,h8]<;>kernel_rfl)
   refine ru Qb [] [] [] [] (pt 2 h6 (pc 6 (cb h7 (Jc n.2.2.2.1)) p0)) ?_;exact zA (by rw[h6,h7]<;>kernel_rfl)
  ·refine ru Qb [] [] [] [] (pf 2 h6 p0) ?_;exact zA (by rw[h6]<;>kernel_rfl)
  exact Qe <| pb [] (Qi h1 (Qi h2 (Q4 h5 (rfl))))
 refine sn Qb [1,2,4,5,10,65] [2,5] p0 <| ck (n.1==(5:Int)) (λh11=> ?_) (λh11=> ?_)
 ·refine tn Qb [1,2,4,5] [2,5] p0 <| Qc <| mz [] [10,26] [(5, [.i n.1,.i n.2.1,.i 0,.s ⟨#[]⟩,.i 0,.i 0,.s ⟨#[]⟩])] [5] <| jn [(4,.b (((n.1==n.1)&&((n.2.1==n.2.1)&&((n.2.2.1==0)&&((n.2.2.2.1.toList==(⟨#[]⟩:ByteArray).toList)&&((n.2.2.2.2.1==0)&&((n.2.2.2.2.2.1==0)&&((n.2.2.2.2.2.2.toList==(⟨#[]⟩:ByteArray).toList)&&true)))))))&&(decide (at_>(0:Int))&&(Zp n.2.1 0 (IntKind.i64.wrap (at_-1))))))] [1,4] [] [] ((n.1==n.1)&&((n.2.1==n.2.1)&&((n.2.2.1==0)&&((n.2.2.2.1.toList==(⟨#[]⟩:ByteArray).toList)&&((n.2.2.2.2.1==0)&&((n.2.2.2.2.2.1==0)&&((n.2.2.2.2.2.2.toList==(⟨#[]⟩:ByteArray).toList)&&true))))))) (λh12=> ?_) (λh12=> ?_) ?_
  ·refine Xu (decide (at_>(0:Int))) (λh13=> ?_) (λh13=> ?_)
   ·refine rn Qb [2,4,5] [2,5] (pt 2 h12 (pt 5 h13 (pc 12 (Vu n.2.1 0 (IntKind.i64.wrap (at_-1))) p0))) ?_;exact zA (by rw[h12,h13]<;>kernel_rfl)
   refine ru Qb [] [1] [] [] (pt 2 h12 (pf 5 h13 p0)) ?_;exact zA (by rw[h12,h13]<;>kernel_rfl)
  ·refine ru Qb [] [1] [] [] (pf 2 h12 p0) ?_;exact zA (by rw[h12]<;>kernel_rfl)
  exact Qe <| pb [] (Qi h1 (Qi h2 (Qi h5 (Q4 h11 (rfl)))))
 refine Qc <| tn Qb [1,2,4,5,10,84] [2,5] p0 <| mz [(84,.b (n.1==(6:Int)))] [26] [] [] <| jn [(84,.b (bif (n.1==(6:Int)) then (n.1==(6:Int)) else (n.1==(7:Int))))] [84] [] [] (n.1==(6:Int)) (λh14=> ?_) (λh14=> ?_) ?_
 ·refine ckt h14 ?_;exact Qg <| ⟨rfl,Qf (by rw[h14]<;>kernel_rfl)⟩
 ·refine ckf h14 ?_;refine rn Qb [1,2,4,5,10,84] [2,5] p0 ?_;exact zA (by rw[h14]<;>kernel_rfl)
 refine ck (bif (n.1==(6:Int)) then (n.1==(6:Int)) else (n.1==(7:Int))) (λh15=> ?_) (λh15=> ?_)
 ·refine sN Qb Zg [1,2,4,5] [2,5] p0 <| Qc <| mz [] [10,84] [(5, [.i n.1,.i n.2.1,.i n.2.2.1,.s ⟨#[]⟩,.i 0,.i 0,.s ⟨#[]⟩])] [5] <| jn [(4,.b (((n.1==n.1)&&((n.2.1==n.2.1)&&((n.2.2.1==n.2.2.1)&&((n.2.2.2.1.toList==(⟨#[]⟩:ByteArray).toList)&&((n.2.2.2.2.1==0)&&((n.2.2.2.2.2.1==0)&&((n.2.2.2.2.2.2.toList==(⟨#[]⟩:ByteArray).toList)&&true)))))))&&(decide (at_>(0:Int))&&((Zp n.2.1 0 (IntKind.i64.wrap (at_-1)))&&(Zp n.2.2.1 0 (IntKind.i64.wrap (at_-1)))))))] [1,4] [] [] ((n.1==n.1)&&((n.2.1==n.2.1)&&((n.2.2.1==n.2.2.1)&&((n.2.2.2.1.toList==(⟨#[]⟩:ByteArray).toList)&&((n.2.2.2.2.1==0)&&((n.2.2.2.2.2.1==0)&&((n.2.2.2.2.2.2.toList==(⟨#[]⟩:ByteArray).toList)&&true))))))) (λh16=> ?_) (λh16=> ?_) ?_
  ·refine Xu (decide (at_>(0:Int))) (λh17=> ?_) (λh17=> ?_)
   ·refine Xu (Zp n.2.1 0 (IntKind.i64.wrap (at_-1))) (λh18=> ?_) (λh18=> ?_)
    ·refine rn Qb [2,4,5] [2,5] (pt 2 h16 (pt 5 h17 (pc 12 (cb h18 (Vu n.2.1 0 (IntKind.i64.wrap (at_-1)))) (pc 19 (Vu n.2.2.1 0 (IntKind.i64.wrap (at_-1))) p0)))) ?_;exact zA (by rw[h16,h17,h18]<;>kernel_rfl)
    refine ru Qb [] [1] [] [] (pt 2 h16 (pt 5 h17 (pc 12 (cb h18 (Vu n.2.1 0 (IntKind.i64.wrap (at_-1)))) p0))) ?_;exact zA (by rw[h16,h17,h18]<;>kernel_rfl)
   refine ru Qb [] [1] [] [] (pt 2 h16 (pf 5 h17 p0)) ?_;exact zA (by rw[h16,h17]<;>kernel_rfl)
  ·refine ru Qb [] [1] [] [] (pf 2 h16 p0) ?_;exact zA (by rw[h16]<;>kernel_rfl)
  exact Qe <| pb [] (Qi h1 (Qi h2 (Qi h5 (Qi h11 (Q4 h15 (rfl))))))
 refine Qc <| sn Qb [2,4,5,10,114] [2,5] p0 <| ck (n.1==(8:Int)) (λh19=> ?_) (λh19=> ?_)
 ·refine Qg <| ckt h19 ?_
  refine tn Qb [2,4,5] [2,5] p0 <| Qc <| mz [] [1,10,84] [(5, [.i n.1,.i 0,.i 0,.s n.2.2.2.1,.i 0,.i 0,.s ⟨#[]⟩])] [5] <| jn [(4,.b (((n.1==n.1)&&((n.2.1==0)&&((n.2.2.1==0)&&((n.2.2.2.1.toList==n.2.2.2.1.toList)&&((n.2.2.2.2.1==0)&&((n.2.2.2.2.2.1==0)&&((n.2.2.2.2.2.2.toList==(⟨#[]⟩:ByteArray).toList)&&true)))))))&&(Zd n.2.2.2.1)))] [4] [] [] ((n.1==n.1)&&((n.2.1==0)&&((n.2.2.1==0)&&((n.2.2.2.1.toList==n.2.2.2.1.toList)&&((n.2.2.2.2.1==0)&&((n.2.2.2.2.2.1==0)&&((n.2.2.2.2.2.2.toList==(⟨#[]⟩:ByteArray).toList)&&true))))))) (λh20=> ?_) (λh20=> ?_) ?_
  ·refine rn Qb [2,4,5] [2,5] (pt 2 h20 (pc 6 (V7 n.2.2.2.1) p0)) ?_;exact zA (by rw[h20]<;>kernel_rfl)
  ·refine ru Qb [] [] [] [] (pf 2 h20 p0) ?_;exact zA (by rw[h20]<;>kernel_rfl)
  exact Qe <| pb [] (Qi h1 (Qi h2 (Qi h5 (Qi h11 (Qi h15 (Q4 h19 (rfl)))))))
 refine qn Qb [2,4,5,114] [2,5] p0 ?_;refine ck (n.1==(9:Int)) (λh21=> ?_) (λh21=> ?_)
 ·refine tu Qb [] [1,10,84] [(5, [.i n.1,.i 0,.i 0,.s n.2.2.2.1,.i 0,.i 0,.s ⟨#[]⟩])] [5] p0 <| Qc <| jn [(4,.b (((n.1==n.1)&&((n.2.1==0)&&((n.2.2.1==0)&&((n.2.2.2.1.toList==n.2.2.2.1.toList)&&((n.2.2.2.2.1==0)&&((n.2.2.2.2.2.1==0)&&((n.2.2.2.2.2.2.toList==(⟨#[]⟩:ByteArray).toList)&&true)))))))&&(Zd n.2.2.2.1)))] [4] [] [] ((n.1==n.1)&&((n.2.1==0)&&((n.2.2.1==0)&&((n.2.2.2.1.toList==n.2.2.2.1.toList)&&((n.2.2.2.2.1==0)&&((n.2.2.2.2.2.1==0)&&((n.2.2.2.2.2.2.toList==(⟨#[]⟩:ByteArray).toList)&&true))))))) (λh22=> ?_) (λh22=> ?_) ?_
  ·refine rn Qb [2,4,5] [2,5] (pt 2 h22 (pc 6 (V7 n.2.2.2.1) p0)) ?_;exact zA (by rw[h22]<;>kernel_rfl)
  ·refine ru Qb [] [] [] [] (pf 2 h22 p0) ?_;exact zA (by rw[h22]<;>kernel_rfl)
  exact Qe <| pb [] (Qi h1 (Qi h2 (Qi h5 (Qi h11 (Qi h15 (Qi h19 (Q4 h21 (rfl))))))))
 exact tu Qb [] [1,10,84] [] [] p0 <| Qe <| pb [] (Qi h1 (Qi h2 (Qi h5 (Qi h11 (Qi h15 (Qi h19 (Qi h21 (rfl))))))))
def Vz (at_:Int) (_:Nat) (a0:Yw) (s0:Int):Rd (Int) (Int) (Int):=(bif ((a0.2.1==at_)&&(((a0.1==(6:Int))|| (a0.1==(7:Int)))|| (a0.1==(5:Int)))) then (bif ((a0.2.2.1==at_)&&((a0.1==(6:Int))|| (a0.1==(7:Int)))) then (.next (IntKind.i64.wrap (IntKind.i64.wrap (s0+1)+1))) else (.next (IntKind.i64.wrap (s0+1)))) else (bif ((a0.2.2.1==at_)&&((a0.1==(6:Int))|| (a0.1==(7:Int)))) then (.next (IntKind.i64.wrap (s0+1))) else (.next s0)))
def A6 (_:Nat) (s0:Int):Int:=s0
def Va (q:List Yw) (at_:Int):Int:=(Out.on (Xz (Vz at_) A6 q 0 0) (λy0=>y0))
theorem Sr (q:List Yw) (at_:Int):ACalls Tryz.prog 204 [.h q,.i at_] (.i (Va q at_)):=by
 refine en Qb Tryz.func204 λw0 F0 hG=> ?_
 refine sn Qb [0,1,4] [] p0 <| tn Qb [0,1,4,5] [] p0 <| Qc <| tu Qb [(4,.i 0),(5,.i 0),(9,.h q),(10,.i (q.length:Int)),(11,.i 0)] [0] [] [] (pl 1 q p0) <| wT 9 0 .sh q (λhw1 hl2=> ?_)
 refine P0 (Vz at_) A6 q 0 (λk0 s0=> [(5,.i s0),(11,.i (k0:Int))]) [5,11] (λy0=> [(5,.i y0)]) [1,5,9,10,11] wf0 (λk0 s0 hk0 U=> ?_) (λk0 s0 hk0 U=> ?_) (λy0 hD0=> ?_)
 ·obtain ⟨a0,hx0⟩:=Xm (l:=q) (i:=k0) hk0;refine su Qb [(12,.b true)] [] [] [] (pe 0 (zB ((k0:Int)<(q.length:Int))) p0) <| Qc <| ckT <| Qg <| Qc <| Qv <| sn Qb [1,4,5,7,9,10,11] [7] (pn 0 hx0 p0) <| Qc <| mz [(7,.p 7 0)] [12] [(7, [.i a0.1,.i a0.2.1,.i a0.2.2.1,.s a0.2.2.2.1,.i a0.2.2.2.2.1,.i a0.2.2.2.2.2.1,.s a0.2.2.2.2.2.2])] [] <| jn [(8,.b ((a0.1==(6:Int))|| (a0.1==(7:Int))))] [] [] [] (a0.1==(6:Int)) (λh3=> ?_) (λh3=> ?_) ?_
  ·refine ru Qb [(8,.b true)] [] [] [] (pt 2 h3 p0) ?_;exact zA (by rw[h3]<;>kernel_rfl)
  ·refine rn Qb [1,4,5,7,8,9,10,11] [7] (pf 2 h3 p0) ?_;exact zA (by rw[h3]<;>kernel_rfl)
  refine Qc <| Qc <| jn [(34,.b ((a0.2.1==at_)&&(((a0.1==(6:Int))|| (a0.1==(7:Int)))|| (a0.1==(5:Int)))))] [] [] [] (a0.2.1==at_) (λh4=> ?_) (λh4=> ?_) ?_
  ·refine Xu ((a0.1==(6:Int))|| (a0.1==(7:Int))) (λh5=> ?_) (λh5=> ?_)
   ·refine ru Qb [(34,.b true)] [] [] [] (pt 3 h4 (pt 5 h5 p0)) ?_;exact zA (by rw[h4,h5]<;>kernel_rfl)
   refine rn Qb [1,4,5,7,8,9,10,11,34] [7] (pt 3 h4 (pf 5 h5 p0)) ?_;exact zA (by rw[h4,h5]<;>kernel_rfl)
  ·refine ru Qb [(34,.b false)] [] [] [] (pf 3 h4 p0) ?_;exact zA (by rw[h4]<;>kernel_rfl)
  refine ck ((a0.2.1==at_)&&(((a0.1==(6:Int))|| (a0.1==(7:Int)))|| (a0.1==(5:Int)))) (λh6=> ?_) (λh6=> ?_)
  ·have h6l:((a0.2.1==at_))=true:=XA h6;have h6ld:=eq_of_beq h6l;refine rn Qb [1,4,5,7,8,9,10,11] [7] p0 ?_;refine Qc <| mz [(5,.i (IntKind.i64.wrap (s0+1)))] [5,34] [] [] <| jn [(43,.b ((a0.2.2.1==at_)&&((a0.1==(6:Int))|| (a0.1==(7:Int)))))] [7,8] [] [7] (a0.2.2.1==at_) (λh7=> ?_) (λh7=> ?_) ?_
   ·refine rn Qb [1,4,5,9,10,11,43] [] (pt 3 h7 p0) ?_;exact zA (by rw[h7]<;>kernel_rfl)
   ·refine rn Qb [1,4,5,9,10,11,43] [] (pf 3 h7 p0) ?_;exact zA (by rw[h7]<;>kernel_rfl)
   refine ck ((a0.2.2.1==at_)&&((a0.1==(6:Int))|| (a0.1==(7:Int)))) (λh8=> ?_) (λh8=> ?_)
   ·have h8l:((a0.2.2.1==at_))=true:=XA h8;have h8ld:=eq_of_beq h8l;refine rn Qb [1,4,5,9,10,11] [] p0 ?_;refine qn Qb [1,4,5,9,10,11] [] (pe 0 (Jl (Qo k0 (by omega))) p0) ?_;exact xw _ (Qt hx0 (Q4 h6 (Q4 h8 (rfl))) U)
   refine Qg <| rn Qb [1,4,5,9,10,11] [] (pe 0 (Jl (Qo k0 (by omega))) p0) ?_
   exact xw _ (Qt hx0 (Q4 h6 (Qi h8 (rfl))) U)
  refine Qg <| Qc <| jn [(43,.b ((a0.2.2.1==at_)&&((a0.1==(6:Int))|| (a0.1==(7:Int)))))] [7,8,34] [] [7] (a0.2.2.1==at_) (λh9=> ?_) (λh9=> ?_) ?_
  ·refine rn Qb [1,4,5,9,10,11,43] [] (pt 3 h9 p0) ?_;exact zA (by rw[h9]<;>kernel_rfl)
  ·refine rn Qb [1,4,5,9,10,11,43] [] (pf 3 h9 p0) ?_;exact zA (by rw[h9]<;>kernel_rfl)
  refine ck ((a0.2.2.1==at_)&&((a0.1==(6:Int))|| (a0.1==(7:Int)))) (λh10=> ?_) (λh10=> ?_)
  ·have h10l:((a0.2.2.1==at_))=true:=XA h10;have h10ld:=eq_of_beq h10l;refine rn Qb [1,4,5,9,10,11] [] p0 ?_;refine qn Qb [1,4,5,9,10,11] [] (pe 0 (Jl (Qo k0 (by omega))) p0) ?_;exact xw _ (Qt hx0 (Qi h6 (Q4 h10 (rfl))) U)
  refine Qg <| rn Qb [1,4,5,9,10,11] [] (pe 0 (Jl (Qo k0 (by omega))) p0) ?_
  exact xw _ (Qt hx0 (Qi h6 (Qi h10 (rfl))) U)
 ·exact su Qb [(12,.b false)] [] [] [] (pe 0 (zC ((k0:Int)<(q.length:Int))) p0) <| Qc <| ckF <| Q3 <| xw _ (Xn hk0 (rfl) U)
 exact sn Qb [4] [] p0 <| Qe <| pi [] (Wk hD0 (rfl))
def Jg (q:List Yw) (k0:Nat) (a0:Yw) (_:Unit):Rd (Bool) (Unit) (Unit):=(bif ((!(Jz a0 (k0:Int)))|| (decide ((k0:Int)<((q.length:Int)-1))&&((Va q (k0:Int)) !=(1:Int)))) then (.ret false) else (.next ()))
def W5 (_:Nat) (_:Unit):Unit:=()
def Xb (q:List Yw):Bool:=(Out.on (Xz (Jg q) W5 q 0 ()) (λ_=>(Zp (q.length:Int) 1 9)))
theorem Bm (q:List Yw):ACalls Tryz.prog 160 [.h q] (.b (Xb q)):=by
 refine en Qb Tryz.func160 λw0 F0 hG=> ?_
 refine sn Qb [0,2] [] p0 <| Qc <| tn Qb [0,2,5,6,7] [] (pl 1 q p0) <| mz [(2,.b false),(5,.h q),(6,.i (q.length:Int)),(7,.i 0)] [] [] [] <| wT 0 0 .sh q (λhw1 hl2=> ?_)
 refine P0 (Jg q) W5 q () (λk0 _=> [(7,.i (k0:Int))]) [7] (λ_=> []) [5,6,7] wf0 (λk0 s0 hk0 U=> ?_) (λk0 s0 hk0 U=> ?_) (λy0 hD0=> ?_)
 ·obtain ⟨a0,hx0⟩:=Xm (l:=q) (i:=k0) hk0;refine sn Qb [0,2,5,6,7,8] [] (pe 0 (zB ((k0:Int)<(q.length:Int))) p0) <| Qc <| ckT <| Qg <| Qc <| Qv <| tn Qb [0,2,3,4,5,6,7] [4] (pn 1 hx0 p0) <| Qc <| mz [(3,.i (k0:Int)),(4,.p 4 0)] [] [(4, [.i a0.1,.i a0.2.1,.i a0.2.2.1,.s a0.2.2.2.1,.i a0.2.2.2.2.1,.i a0.2.2.2.2.2.1,.s a0.2.2.2.2.2.2])] [] <| jn [(28,.b ((!(Jz a0 (k0:Int)))|| (decide ((k0:Int)<((q.length:Int)-1))&&((Va q (k0:Int)) !=(1:Int)))))] [3,4] [] [4] (!(Jz a0 (k0:Int))) (λh3=> ?_) (λh3=> ?_) ?_
  ·have h3n:(Jz a0 (k0:Int))=false:=Vj h3;refine rn Qb [0,2,5,6,7,28] [] (pc 2 (cb h3n (I7 a0 (k0:Int))) (pe 3 (show .b (!false)= .b true from rfl) p0)) ?_;exact zA (by rw[h3]<;>kernel_rfl)
  ·have h3n:(Jz a0 (k0:Int))=true:=Za h3;refine Xu (decide ((k0:Int)<((q.length:Int)-1))) (λh4=> ?_) (λh4=> ?_)
   ·have h4d:=of_decide_eq_true h4;refine rn Qb [0,2,5,6,7,28] [] (pc 2 (cb h3n (I7 a0 (k0:Int))) (pe 3 (show .b (!true)= .b false from rfl) (pl 7 q (pe 8 (Jl (IntWalk.i64_in ((q.length:Int)-1) (by omega))) (pt 9 h4 (pc 13 (Sr q (k0:Int)) p0)))))) ?_;exact zA (by rw[h3,h4]<;>kernel_rfl)
   have h4d:=of_decide_eq_false h4;refine rn Qb [0,2,5,6,7,28] [] (pc 2 (cb h3n (I7 a0 (k0:Int))) (pe 3 (show .b (!true)= .b false from rfl) (pl 7 q (pe 8 (Jl (IntWalk.i64_in ((q.length:Int)-1) (by omega))) (pf 9 h4 p0))))) ?_;exact zA (by rw[h3,h4]<;>kernel_rfl)
  refine ck ((!(Jz a0 (k0:Int)))|| (decide ((k0:Int)<((q.length:Int)-1))&&((Va q (k0:Int)) !=(1:Int)))) (λh5=> ?_) (λh5=> ?_)
  ·refine su Qb [] [28] [] [] p0 <| Qe ?_
   have hr6:(Xz (Jg q) W5 q 0 ())= .ret false:=Jv hx0 (Q4 h5 (rfl)) U;exact pb [] (Pd hr6)
  refine Qg <| rn Qb [0,2,5,6,7] [] (pe 0 (Jl (Qo k0 (by omega))) p0) ?_
  exact xw _ (Qt hx0 (Qi h5 (rfl)) U)
 ·exact sn Qb [0,2,5,6,7,8] [] (pe 0 (zC ((k0:Int)<(q.length:Int))) p0) <| Qc <| ckF <| Q3 <| xw _ (Xn hk0 (rfl) U)
 exact sn Qb [2] [] (pl 1 q (pc 2 (Vu (q.length:Int) 1 9) p0)) <| Qe <| pb [] (Wk hD0 (rfl))
def Ui (n:Yw) (at_:Int):Bool:=(bif (n.1==(1:Int)) then ((n.1==1)&&((n.2.1==0)&&((n.2.2.1==0)&&((n.2.2.2.1.toList==(⟨#[]⟩:ByteArray).toList)&&((n.2.2.2.2.1==0)&&((n.2.2.2.2.2.1==0)&&((n.2.2.2.2.2.2.toList==(⟨#[]⟩:ByteArray).toList)&&true))))))) else (bif (n.1==(2:Int)) then ((Yr n.2.2.2.1)&&((n.1==n.1)&&((n.2.1==0)&&((n.2.2.1==0)&&((n.2.2.2.1.toList==n.2.2.2.1.toList)&&((n.2.2.2.2.1==0)&&((n.2.2.2.2.2.1==0)&&((n.2.2.2.2.2.2.toList==(⟨#[]⟩:ByteArray).toList)&&true)))))))) else (bif (n.1==(3:Int)) then ((Yr n.2.2.2.1)&&((Kx n.2.2.2.2)&&((n.2.2.2.2.1 !=(0:Int))&&((n.2.1==(0:Int))&&(n.2.2.1==(0:Int)))))) else (bif (n.1==(4:Int)) then ((Yr n.2.2.2.1)&&((Kx n.2.2.2.2)&&((n.2.2.2.2.1==(1:Int))&&((n.2.1==(0:Int))&&(n.2.2.1==(0:Int)))))) else (bif (n.1==(5:Int)) then (((Xf n.2.1 0 (IntKind.i64.wrap (at_-1)))&&decide (at_>(0:Int)))&&((n.2.2.1==(0:Int))&&((n.2.2.2.1.toList==(⟨#[]⟩:ByteArray).toList)&&((n.2.2.2.2.1==0)&&((n.2.2.2.2.2.1==0)&&((n.2.2.2.2.2.2.toList==(⟨#[]⟩:ByteArray).toList)&&true)))))) else (bif (bif (n.1==(6:Int)) then (n.1==(6:Int)) else (n.1==(7:Int))) then ((((Xf n.2.1 0 (IntKind.i64.wrap (at_-1)))&&decide (at_>(0:Int)))&&(Xf n.2.2.1 0 (IntKind.i64.wrap (at_-1))))&&((n.2.2.2.1.toList==(⟨#[]⟩:ByteArray).toList)&&((n.2.2.2.2.1==0)&&((n.2.2.2.2.2.1==0)&&((n.2.2.2.2.2.2.toList==(⟨#[]⟩:ByteArray).toList)&&true))))) else (bif (n.1==(8:Int)) then ((Zm n.2.2.2.1)&&((n.1==n.1)&&((n.2.1==0)&&((n.2.2.1==0)&&((n.2.2.2.1.toList==n.2.2.2.1.toList)&&((n.2.2.2.2.1==0)&&((n.2.2.2.2.2.1==0)&&((n.2.2.2.2.2.2.toList==(⟨#[]⟩:ByteArray).toList)&&true)))))))) else (bif (n.1==(9:Int)) then ((Zm n.2.2.2.1)&&((n.1==n.1)&&((n.2.1==0)&&((n.2.2.1==0)&&((n.2.2.2.1.toList==n.2.2.2.1.toList)&&((n.2.2.2.2.1==0)&&((n.2.2.2.2.2.1==0)&&((n.2.2.2.2.2.2.toList==(⟨#[]⟩:ByteArray).toList)&&true)))))))) else false))))))))
theorem I8 (n:Yw) (at_:Int):ACalls Tryz.prog 222 [.a [.i n.1,.i n.2.1,.i n.2.2.1,.s n.2.2.2.1,.i n.2.2.2.2.1,.i n.2.2.2.2.2.1,.s n.2.2.2.2.2.2],.i at_] (.b (Ui n at_)):=by
 refine en Qb Tryz.func222 λw0 F0 hG=> ?_
 refine sn Qb [1,2,4] [2] p0 <| Qc <| mz [(2,.p 2 0),(4,.b false)] [0] [(2, [.i n.1,.i n.2.1,.i n.2.2.1,.s n.2.2.2.1,.i n.2.2.2.2.1,.i n.2.2.2.2.2.1,.s n.2.2.2.2.2.2])] [] <| jn [(5,.b ((Xf n.2.1 0 (IntKind.i64.wrap (at_-1)))&&decide (at_>(0:Int))))] [] [] [] (Xf n.2.1 0 (IntKind.i64.wrap (at_-1))) (λh1=> ?_) (λh1=> ?_) ?_
 ·refine rn Qb [1,2,4,5] [2] (pc 4 (cb h1 (Z8 n.2.1 0 (IntKind.i64.wrap (at_-1)))) p0) ?_;exact zA (by rw[h1]<;>kernel_rfl)
 ·refine rn Qb [1,2,4,5] [2] (pc 4 (cb h1 (Z8 n.2.1 0 (IntKind.i64.wrap (at_-1)))) p0) ?_;exact zA (by rw[h1]<;>kernel_rfl)
 refine Qc <| jn [(6,.b (((Xf n.2.1 0 (IntKind.i64.wrap (at_-1)))&&decide (at_>(0:Int)))&&(Xf n.2.2.1 0 (IntKind.i64.wrap (at_-1)))))] [1] [] [] ((Xf n.2.1 0 (IntKind.i64.wrap (at_-1)))&&decide (at_>(0:Int))) (λh2=> ?_) (λh2=> ?_) ?_
 ·refine rn Qb [2,4,5,6] [2] (pt 0 h2 (pc 6 (Z8 n.2.2.1 0 (IntKind.i64.wrap (at_-1))) p0)) ?_;exact zA (by rw[h2]<;>kernel_rfl)
 ·refine rn Qb [2,4,5,6] [2] (pf 0 h2 p0) ?_;exact zA (by rw[h2]<;>kernel_rfl)
 refine Qc <| sn Qb [2,4,5,6,25] [2] p0 <| Qv <| tn Qb [2,4,5,6,25,26] [2] p0 <| ck (n.1==(1:Int)) (λh3=> ?_) (λh3=> ?_)
 ·exact tu Qb [(4,.b ((n.1==1)&&((n.2.1==0)&&((n.2.2.1==0)&&((n.2.2.2.1.toList==(⟨#[]⟩:ByteArray).toList)&&((n.2.2.2.2.1==0)&&((n.2.2.2.2.2.1==0)&&((n.2.2.2.2.2.2.toList==(⟨#[]⟩:ByteArray).toList)&&true))))))))] [2,4,5,6] [] [2] p0 <| Qe <| pb [] (Q4 h3 (rfl))
 refine tu Qb [(25,.i n.1),(31,.b (n.1==(2:Int)))] [] [] [] p0 <| ck (n.1==(2:Int)) (λh4=> ?_) (λh4=> ?_)
 ·refine Qc <| jn [(4,.b ((Yr n.2.2.2.1)&&((n.1==n.1)&&((n.2.1==0)&&((n.2.2.1==0)&&((n.2.2.2.1.toList==n.2.2.2.1.toList)&&((n.2.2.2.2.1==0)&&((n.2.2.2.2.2.1==0)&&((n.2.2.2.2.2.2.toList==(⟨#[]⟩:ByteArray).toList)&&true)))))))))] [2,4,5,6,25,31] [] [2] (Yr n.2.2.2.1) (λh5=> ?_) (λh5=> ?_) ?_
  ·refine rn Qb [4] [] (pc 2 (cb h5 (Y5 n.2.2.2.1)) p0) ?_;exact zA (by rw[h5]<;>kernel_rfl)
  ·refine rn Qb [4] [] (pc 2 (cb h5 (Y5 n.2.2.2.1)) p0) ?_;exact zA (by rw[h5]<;>kernel_rfl)
  exact Qe <| pb [] (Qi h3 (Q4 h4 (rfl)))
 refine sn Qb [2,4,5,6,25,45] [2] p0 <| ck (n.1==(3:Int)) (λh6=> ?_) (λh6=> ?_)
 ·refine Qc <| mz [(45,.b (n.1==(3:Int)))] [31] [] [] <| jn [(4,.b ((Yr n.2.2.2.1)&&((Kx n.2.2.2.2)&&((n.2.2.2.2.1 !=(0:Int))&&((n.2.1==(0:Int))&&(n.2.2.1==(0:Int)))))))] [2,4,5,6,25,45] [] [2] (Yr n.2.2.2.1) (λh7=> ?_) (λh7=> ?_) ?_
  ·refine Xu (Kx n.2.2.2.2) (λh8=> ?_) (λh8=> ?_)
   ·refine Xu (n.2.2.2.2.1 !=(0:Int)) (λh9=> ?_) (λh9=> ?_)
    ·refine Xu (n.2.1==(0:Int)) (λh10=> ?_) (λh10=> ?_)
     ·refine rn Qb [4] [] (pc 2 (cb h7 (Y5 n.2.2.2.1)) (pc 6 (cb h8 (Kj n.2.2.2.2)) (pt 12 h9 (pt 17 h10 p0)))) ?_;exact zA (by rw[h7,h8,h9,h10]<;>kernel_rfl)
     refine rn Qb [4] [] (pc 2 (cb h7 (Y5 n.2.2.2.1)) (pc 6 (cb h8 (Kj n.2.2.2.2)) (pt 12 h9 (pf 17 h10 p0)))) ?_;exact zA (by rw[h7,h8,h9,h10]<;>kernel_rfl)
    refine rn Qb [4] [] (pc 2 (cb h7 (Y5 n.2.2.2.1)) (pc 6 (cb h8 (Kj n.2.2.2.2)) (pf 12 h9 p0))) ?_;exact zA (by rw[h7,h8,h9]<;>kernel_rfl)
   refine rn Qb [4] [] (pc 2 (cb h7 (Y5 n.2.2.2.1)) (pc 6 (cb h8 (Kj n.2.2.2.2)) p0)) ?_;exact zA (by rw[h7,h8]<;>kernel_rfl)
  ·refine rn Qb [4] [] (pc 2 (cb h7 (Y5 n.2.2.2.1)) p0) ?_;exact zA (by rw[h7]<;>kernel_rfl)
  exact Qe <| pb [] (Qi h3 (Qi h4 (Q4 h6 (rfl))))
 refine tn Qb [2,4,5,6,25,71] [2] p0 <| ck (n.1==(4:Int)) (λh11=> ?_) (λh11=> ?_)
 ·refine Qc <| mz [(71,.b (n.1==(4:Int)))] [31] [] [] <| jn [(4,.b ((Yr n.2.2.2.1)&&((Kx n.2.2.2.2)&&((n.2.2.2.2.1==(1:Int))&&((n.2.1==(0:Int))&&(n.2.2.1==(0:Int)))))))] [2,4,5,6,25,71] [] [2] (Yr n.2.2.2.1) (λh12=> ?_) (λh12=> ?_) ?_
  ·refine Xu (Kx n.2.2.2.2) (λh13=> ?_) (λh13=> ?_)
   ·refine Xu (n.2.2.2.2.1==(1:Int)) (λh14=> ?_) (λh14=> ?_)
    ·refine Xu (n.2.1==(0:Int)) (λh15=> ?_) (λh15=> ?_)
     ·refine rn Qb [4] [] (pc 2 (cb h12 (Y5 n.2.2.2.1)) (pc 6 (cb h13 (Kj n.2.2.2.2)) (pt 12 h14 (pt 17 h15 p0)))) ?_;exact zA (by rw[h12,h13,h14,h15]<;>kernel_rfl)
     refine rn Qb [4] [] (pc 2 (cb h12 (Y5 n.2.2.2.1)) (pc 6 (cb h13 (Kj n.2.2.2.2)) (pt 12 h14 (pf 17 h15 p0)))) ?_;exact zA (by rw[h12,h13,h14,h15]<;>kernel_rfl)
    refine rn Qb [4] [] (pc 2 (cb h12 (Y5 n.2.2.2.1)) (pc 6 (cb h13 (Kj n.2.2.2.2)) (pf 12 h14 p0))) ?_;exact zA (by rw[h12,h13,h14]<;>kernel_rfl)
   refine rn Qb [4] [] (pc 2 (cb h12 (Y5 n.2.2.2.1)) (pc 6 (cb h13 (Kj n.2.2.2.2)) p0)) ?_;exact zA (by rw[h12,h13]<;>kernel_rfl)
  ·refine rn Qb [4] [] (pc 2 (cb h12 (Y5 n.2.2.2.1)) p0) ?_;exact zA (by rw[h12]<;>kernel_rfl)
  exact Qe <| pb [] (Qi h3 (Qi h4 (Qi h6 (Q4 h11 (rfl)))))
 refine tu Qb [(97,.b (n.1==(5:Int)))] [31] [] [] p0 <| ck (n.1==(5:Int)) (λh16=> ?_) (λh16=> ?_)
 ·refine Qc <| jn [(4,.b (((Xf n.2.1 0 (IntKind.i64.wrap (at_-1)))&&decide (at_>(0:Int)))&&((n.2.2.1==(0:Int))&&((n.2.2.2.1.toList==(⟨#[]⟩:ByteArray).toList)&&((n.2.2.2.2.1==0)&&((n.2.2.2.2.2.1==0)&&((n.2.2.2.2.2.2.toList==(⟨#[]⟩:ByteArray).toList)&&true)))))))] [2,4,5,6,25,97] [] [2] ((Xf n.2.1 0 (IntKind.i64.wrap (at_-1)))&&decide (at_>(0:Int))) (λh17=> ?_) (λh17=> ?_) ?_
  ·refine Xu (n.2.2.1==(0:Int)) (λh18=> ?_) (λh18=> ?_)
   ·refine Xu (n.2.2.2.1.toList==(⟨#[]⟩:ByteArray).toList) (λh19=> ?_) (λh19=> ?_)
    ·refine rn Qb [4] [] (pt 0 h17 (pt 4 h18 (pt 9 h19 p0))) ?_;exact zA (by rw[h17,h18,h19]<;>kernel_rfl)
    refine rn Qb [4] [] (pt 0 h17 (pt 4 h18 (pf 9 h19 p0))) ?_;exact zA (by rw[h17,h18,h19]<;>kernel_rfl)
   refine rn Qb [4] [] (pt 0 h17 (pf 4 h18 p0)) ?_;exact zA (by rw[h17,h18]<;>kernel_rfl)
  ·refine rn Qb [4] [] (pf 0 h17 p0) ?_;exact zA (by rw[h17]<;>kernel_rfl)
  exact Qe <| pb [] (Qi h3 (Qi h4 (Qi h6 (Qi h11 (Q4 h16 (rfl))))))
 refine Qc <| sn Qb [2,4,6,25,116] [2] p0 <| mz [(116,.b (n.1==(6:Int)))] [5,97] [] [] <| jn [(116,.b (bif (n.1==(6:Int)) then (n.1==(6:Int)) else (n.1==(7:Int))))] [116] [] [] (n.1==(6:Int)) (λh20=> ?_) (λh20=> ?_) ?_
 ·refine ckt h20 ?_;exact Qg <| ⟨rfl,Qf (by rw[h20]<;>kernel_rfl)⟩
 ·refine ckf h20 ?_;refine rn Qb [2,4,6,25,116] [2] p0 ?_;exact zA (by rw[h20]<;>kernel_rfl)
 refine ck (bif (n.1==(6:Int)) then (n.1==(6:Int)) else (n.1==(7:Int))) (λh21=> ?_) (λh21=> ?_)
 ·refine Qc <| jn [(4,.b ((((Xf n.2.1 0 (IntKind.i64.wrap (at_-1)))&&decide (at_>(0:Int)))&&(Xf n.2.2.1 0 (IntKind.i64.wrap (at_-1))))&&((n.2.2.2.1.toList==(⟨#[]⟩:ByteArray).toList)&&((n.2.2.2.2.1==0)&&((n.2.2.2.2.2.1==0)&&((n.2.2.2.2.2.2.toList==(⟨#[]⟩:ByteArray).toList)&&true))))))] [2,4,6,25,116] [] [2] (((Xf n.2.1 0 (IntKind.i64.wrap (at_-1)))&&decide (at_>(0:Int)))&&(Xf n.2.2.1 0 (IntKind.i64.wrap (at_-1)))) (λh22=> ?_) (λh22=> ?_) ?_
  ·refine Xu (n.2.2.2.1.toList==(⟨#[]⟩:ByteArray).toList) (λh23=> ?_) (λh23=> ?_)
   ·refine rn Qb [4] [] (pt 0 h22 (pt 4 h23 p0)) ?_;exact zA (by rw[h22,h23]<;>kernel_rfl)
   refine rn Qb [4] [] (pt 0 h22 (pf 4 h23 p0)) ?_;exact zA (by rw[h22,h23]<;>kernel_rfl)
  ·refine rn Qb [4] [] (pf 0 h22 p0) ?_;exact zA (by rw[h22]<;>kernel_rfl)
  exact Qe <| pb [] (Qi h3 (Qi h4 (Qi h6 (Qi h11 (Qi h16 (Q4 h21 (rfl)))))))
 refine Qc <| sn Qb [2,4,25,131] [2] p0 <| ck (n.1==(8:Int)) (λh24=> ?_) (λh24=> ?_)
 ·refine Qg <| ckt h24 ?_
  refine Qc <| mz [(131,.b (n.1==(8:Int)))] [6,116] [] [] <| jn [(4,.b ((Zm n.2.2.2.1)&&((n.1==n.1)&&((n.2.1==0)&&((n.2.2.1==0)&&((n.2.2.2.1.toList==n.2.2.2.1.toList)&&((n.2.2.2.2.1==0)&&((n.2.2.2.2.2.1==0)&&((n.2.2.2.2.2.2.toList==(⟨#[]⟩:ByteArray).toList)&&true)))))))))] [2,4,25,131] [] [2] (Zm n.2.2.2.1) (λh25=> ?_) (λh25=> ?_) ?_
  ·refine rn Qb [4] [] (pc 2 (cb h25 (Kp n.2.2.2.1)) p0) ?_;exact zA (by rw[h25]<;>kernel_rfl)
  ·refine rn Qb [4] [] (pc 2 (cb h25 (Kp n.2.2.2.1)) p0) ?_;exact zA (by rw[h25]<;>kernel_rfl)
  exact Qe <| pb [] (Qi h3 (Qi h4 (Qi h6 (Qi h11 (Qi h16 (Qi h21 (Q4 h24 (rfl))))))))
 refine qn Qb [2,4,131] [2] p0 ?_;refine ck (n.1==(9:Int)) (λh26=> ?_) (λh26=> ?_)
 ·refine Qc <| mz [(131,.b (n.1==(9:Int)))] [6,25,116] [] [] <| jn [(4,.b ((Zm n.2.2.2.1)&&((n.1==n.1)&&((n.2.1==0)&&((n.2.2.1==0)&&((n.2.2.2.1.toList==n.2.2.2.1.toList)&&((n.2.2.2.2.1==0)&&((n.2.2.2.2.2.1==0)&&((n.2.2.2.2.2.2.toList==(⟨#[]⟩:ByteArray).toList)&&true)))))))))] [2,4,131] [] [2] (Zm n.2.2.2.1) (λh27=> ?_) (λh27=> ?_) ?_
  ·refine rn Qb [4] [] (pc 2 (cb h27 (Kp n.2.2.2.1)) p0) ?_;exact zA (by rw[h27]<;>kernel_rfl)
  ·refine rn Qb [4] [] (pc 2 (cb h27 (Kp n.2.2.2.1)) p0) ?_;exact zA (by rw[h27]<;>kernel_rfl)
  exact Qe <| pb [] (Qi h3 (Qi h4 (Qi h6 (Qi h11 (Qi h16 (Qi h21 (Qi h24 (Q4 h26 (rfl)))))))))
 exact Qg <| tu Qb [] [2,6,25,116] [] [2] p0 <| Qe <| pb [] (Qi h3 (Qi h4 (Qi h6 (Qi h11 (Qi h16 (Qi h21 (Qi h24 (Qi h26 (rfl)))))))))
def A7 (at_:Int) (_:Nat) (a0:Yw) (s0:Int):Rd (Int) (Int) (Int):=(bif (bif ((a0.1==(6:Int))|| (a0.1==(7:Int))) then (a0.2.1==at_) else ((a0.1==(5:Int))&&(a0.2.1==at_))) then (bif (((a0.1==(6:Int))|| (a0.1==(7:Int)))&&(a0.2.2.1==at_)) then (.next (IntKind.i64.wrap (IntKind.i64.wrap (s0+1)+1))) else (.next (IntKind.i64.wrap (s0+1)))) else (bif (((a0.1==(6:Int))|| (a0.1==(7:Int)))&&(a0.2.2.1==at_)) then (.next (IntKind.i64.wrap (s0+1))) else (.next s0)))
def C9 (_:Nat) (s0:Int):Int:=s0
def U3 (q:List Yw) (at_:Int):Int:=(Out.on (Xz (A7 at_) C9 q 0 0) (λy0=>y0))
theorem Ss (q:List Yw) (at_:Int):ACalls Tryz.prog 223 [.h q,.i at_] (.i (U3 q at_)):=by
 refine en Qb Tryz.func223 λw0 F0 hG=> ?_
 refine sn Qb [0,1,4] [] p0 <| tn Qb [0,1,4,5] [] p0 <| Qc <| tu Qb [(4,.i 0),(5,.i 0),(6,.i 0)] [] [] [] p0 <| wT 0 0 .sh q (λhw1 hl2=> ?_)
 refine P0 (A7 at_) C9 q 0 (λk0 s0=> [(5,.i s0),(6,.i (k0:Int))]) [5,6] (λy0=> [(5,.i y0)]) [0,1,5,6] wf0 (λk0 s0 hk0 U=> ?_) (λk0 s0 hk0 U=> ?_) (λy0 hD0=> ?_)
 ·obtain ⟨a0,hx0⟩:=Xm (l:=q) (i:=k0) hk0;refine Qc <| sn Qb [0,1,4,5,6,11] [] (pl 2 q (pe 3 (zB ((k0:Int)<(q.length:Int))) p0)) <| ckT <| Qg <| Qc <| Qv <| Qc <| mz [(11,.b true)] [] [] [] <| jn [(7,.b ((a0.1==(6:Int))|| (a0.1==(7:Int))))] [11] [] [] (a0.1==(6:Int)) (λh3=> ?_) (λh3=> ?_) ?_
  ·refine rn Qb [0,1,4,5,6,7] [] (pn 2 hx0 (pt 5 h3 p0)) ?_;exact zA (by rw[h3]<;>kernel_rfl)
  ·refine rn Qb [0,1,4,5,6,7] [] (pn 2 hx0 (pf 5 h3 (pn 9 hx0 p0))) ?_;exact zA (by rw[h3]<;>kernel_rfl)
  refine Qc <| Qc <| jn [(45,.b (bif ((a0.1==(6:Int))|| (a0.1==(7:Int))) then (a0.2.1==at_) else ((a0.1==(5:Int))&&(a0.2.1==at_))))] [] [] [] ((a0.1==(6:Int))|| (a0.1==(7:Int))) (λh4=> ?_) (λh4=> ?_) ?_
  ·refine rn Qb [0,1,4,5,6,7,45] [] (pt 0 h4 (pn 12 hx0 p0)) ?_;exact zA (by rw[h4]<;>kernel_rfl)
  ·refine Xu (a0.1==(5:Int)) (λh5=> ?_) (λh5=> ?_)
   ·refine rn Qb [0,1,4,5,6,7,45] [] (pf 0 h4 (pn 4 hx0 (pt 7 h5 (pn 12 hx0 p0)))) ?_;exact zA (by rw[h4,h5]<;>kernel_rfl)
   refine ru Qb [(45,.b false)] [] [] [] (pf 0 h4 (pn 4 hx0 (pf 7 h5 p0))) ?_;exact zA (by rw[h4,h5]<;>kernel_rfl)
  refine ck (bif ((a0.1==(6:Int))|| (a0.1==(7:Int))) then (a0.2.1==at_) else ((a0.1==(5:Int))&&(a0.2.1==at_))) (λh6=> ?_) (λh6=> ?_)
  ·refine rn Qb [0,1,4,5,6,7] [] p0 ?_;refine Qc <| mz [(5,.i (IntKind.i64.wrap (s0+1)))] [5,45] [] [] <| jn [(57,.b (((a0.1==(6:Int))|| (a0.1==(7:Int)))&&(a0.2.2.1==at_)))] [7] [] [] ((a0.1==(6:Int))|| (a0.1==(7:Int))) (λh7=> ?_) (λh7=> ?_) ?_
   ·refine rn Qb [0,1,4,5,6,57] [] (pt 0 h7 (pn 4 hx0 p0)) ?_;exact zA (by rw[h7]<;>kernel_rfl)
   ·refine rn Qb [0,1,4,5,6,57] [] (pf 0 h7 p0) ?_;exact zA (by rw[h7]<;>kernel_rfl)
   refine ck (((a0.1==(6:Int))|| (a0.1==(7:Int)))&&(a0.2.2.1==at_)) (λh8=> ?_) (λh8=> ?_)
   ·have h8r:((a0.2.2.1==at_))=true:=KC h8;have h8rd:=eq_of_beq h8r;refine rn Qb [0,1,4,5,6] [] p0 ?_;refine qn Qb [0,1,4,5,6] [] (pe 1 (Jl (Qo k0 (by omega))) p0) ?_;exact xw _ (Qt hx0 (Q4 h6 (Q4 h8 (rfl))) U)
   refine Qg <| rn Qb [0,1,4,5,6] [] (pe 1 (Jl (Qo k0 (by omega))) p0) ?_
   exact xw _ (Qt hx0 (Q4 h6 (Qi h8 (rfl))) U)
  refine Qg <| Qc <| jn [(57,.b (((a0.1==(6:Int))|| (a0.1==(7:Int)))&&(a0.2.2.1==at_)))] [7,45] [] [] ((a0.1==(6:Int))|| (a0.1==(7:Int))) (λh9=> ?_) (λh9=> ?_) ?_
  ·refine rn Qb [0,1,4,5,6,57] [] (pt 0 h9 (pn 4 hx0 p0)) ?_;exact zA (by rw[h9]<;>kernel_rfl)
  ·refine rn Qb [0,1,4,5,6,57] [] (pf 0 h9 p0) ?_;exact zA (by rw[h9]<;>kernel_rfl)
  refine ck (((a0.1==(6:Int))|| (a0.1==(7:Int)))&&(a0.2.2.1==at_)) (λh10=> ?_) (λh10=> ?_)
  ·have h10r:((a0.2.2.1==at_))=true:=KC h10;have h10rd:=eq_of_beq h10r;refine rn Qb [0,1,4,5,6] [] p0 ?_;refine qn Qb [0,1,4,5,6] [] (pe 1 (Jl (Qo k0 (by omega))) p0) ?_;exact xw _ (Qt hx0 (Qi h6 (Q4 h10 (rfl))) U)
  refine Qg <| rn Qb [0,1,4,5,6] [] (pe 1 (Jl (Qo k0 (by omega))) p0) ?_
  exact xw _ (Qt hx0 (Qi h6 (Qi h10 (rfl))) U)
 ·exact Qc <| sn Qb [0,1,4,5,6,11] [] (pl 2 q (pe 3 (zC ((k0:Int)<(q.length:Int))) p0)) <| ckF <| Q3 <| xw _ (Xn hk0 (rfl) U)
 exact sn Qb [4] [] p0 <| Qe <| pi [] (Wk hD0 (rfl))
def Ap (q:List Yw) (k0:Nat) (a0:Yw) (_:Unit):Rd (Bool) (Unit) (Unit):=(bif ((!(Ui a0 (k0:Int)))|| (decide ((k0:Int)<((q.length:Int)-1))&&((U3 q (k0:Int)) !=(1:Int)))) then (.ret false) else (.next ()))
def Cq (_:Nat) (_:Unit):Unit:=()
def Z5 (q:List Yw):Bool:=(Out.on (Xz (Ap q) Cq q 0 ()) (λ_=>(Xf (q.length:Int) 1 9)))
theorem Hm (q:List Yw):ACalls Tryz.prog 183 [.h q] (.b (Z5 q)):=by
 refine en Qb Tryz.func183 λw0 F0 hG=> ?_
 refine sn Qb [0,2] [] p0 <| Qc <| tn Qb [0,2,3] [] p0 <| mz [(2,.b false),(3,.i 0)] [] [] [] <| wT 0 0 .sh q (λhw1 hl2=> ?_)
 refine P0 (Ap q) Cq q () (λk0 _=> [(3,.i (k0:Int))]) [3] (λ_=> []) [3] wf0 (λk0 s0 hk0 U=> ?_) (λk0 s0 hk0 U=> ?_) (λy0 hD0=> ?_)
 ·obtain ⟨a0,hx0⟩:=Xm (l:=q) (i:=k0) hk0;refine Qc <| sn Qb [0,2,3,7] [] (pl 2 q (pe 3 (zB ((k0:Int)<(q.length:Int))) p0)) <| ckT <| Qg <| Qc <| Qv <| Qc <| mz [(7,.b true)] [] [] [] <| jn [(29,.b ((!(Ui a0 (k0:Int)))|| (decide ((k0:Int)<((q.length:Int)-1))&&((U3 q (k0:Int)) !=(1:Int)))))] [7] [] [] (!(Ui a0 (k0:Int))) (λh3=> ?_) (λh3=> ?_) ?_
  ·have h3n:(Ui a0 (k0:Int))=false:=Vj h3;refine rn Qb [0,2,3,29] [] (pn 2 hx0 (pc 5 (cb h3n (I8 a0 (k0:Int))) (pe 6 (show .b (!false)= .b true from rfl) p0))) ?_;exact zA (by rw[h3]<;>kernel_rfl)
  ·have h3n:(Ui a0 (k0:Int))=true:=Za h3;refine Xu (decide ((k0:Int)<((q.length:Int)-1))) (λh4=> ?_) (λh4=> ?_)
   ·have h4d:=of_decide_eq_true h4;refine rn Qb [0,2,3,29] [] (pn 2 hx0 (pc 5 (cb h3n (I8 a0 (k0:Int))) (pe 6 (show .b (!true)= .b false from rfl) (pl 10 q (pe 11 (Jl (IntWalk.i64_in ((q.length:Int)-1) (by omega))) (pt 12 h4 (pc 16 (Ss q (k0:Int)) p0))))))) ?_;exact zA (by rw[h3,h4]<;>kernel_rfl)
   have h4d:=of_decide_eq_false h4;refine rn Qb [0,2,3,29] [] (pn 2 hx0 (pc 5 (cb h3n (I8 a0 (k0:Int))) (pe 6 (show .b (!true)= .b false from rfl) (pl 10 q (pe 11 (Jl (IntWalk.i64_in ((q.length:Int)-1) (by omega))) (pf 12 h4 p0)))))) ?_;exact zA (by rw[h3,h4]<;>kernel_rfl)
  refine ck ((!(Ui a0 (k0:Int)))|| (decide ((k0:Int)<((q.length:Int)-1))&&((U3 q (k0:Int)) !=(1:Int)))) (λh5=> ?_) (λh5=> ?_)
  ·refine sn Qb [0,2,3] [] p0 <| Qe ?_
   have hr6:(Xz (Ap q) Cq q 0 ())= .ret false:=Jv hx0 (Q4 h5 (rfl)) U;exact pb [] (Pd hr6)
  refine Qg <| rn Qb [0,2,3] [] (pe 1 (Jl (Qo k0 (by omega))) p0) ?_
  exact xw _ (Qt hx0 (Qi h5 (rfl)) U)
 ·exact Qc <| sn Qb [0,2,3,7] [] (pl 2 q (pe 3 (zC ((k0:Int)<(q.length:Int))) p0)) <| ckF <| Q3 <| xw _ (Xn hk0 (rfl) U)
 exact sn Qb [2] [] (pl 1 q (pc 2 (Z8 (q.length:Int) 1 9) p0)) <| Qe <| pb [] (Wk hD0 (rfl))
theorem IV (a b c:Int):Zp a b c=Xf a b c:=rfl
theorem Pn {a b c:Int}:Zp a b c=true↔b<=a/\a<=c:=by simp[Zp]
theorem Dr {a b c:Int}:Xf a b c=true↔b<=a/\a<=c:=by simp[Xf]
theorem Qda (s:ByteArray):Zd s=Zm s:=rfl
theorem SO (s:ByteArray):Zx s=Yr s:=by
 unfold Zx Yr I6;by_cases h:s.size=1
 . simp only[h,Int.toNat_natCast,Uy,By];by_cases h1:Ea s 0<97<;>by_cases h2:Ea s 0>122<;>simp[h1,h2,Out.on,Xf,C1]<;>omega
 have h1:((s.size:Int)==1)=false:=by simpa using λe:(s.size:Int)=1=>h (by omega)
 have h2:Xf (s.size:Int) 1 1=false:=by simp[Xf];omega
 rw[h1,h2,Bool.false_and];cases hf:Uy (By s) C1 (zH (s.size:Int)) 0 () with
 | brk t=>rfl
 | ret r=>
   have key:∀n k,∀r,Uy (By s) C1 n k ()= .ret r->r=false:=by
    intro n
    induction n with
    | zero=>intro k r h;simp[Uy] at h
    | succ n ih=>
      intro k r h;simp only[Uy,By] at h;cases hc:(decide (Ea s ((k:Nat):Int)<(97:Int))|| decide (Ea s ((k:Nat):Int)>(122:Int))) with
      | true=>rw[hc] at h;simp only[cond_true] at h;cases h;rfl
      | false=>rw[hc] at h;exact ih _ _ h
   exact (key _ _ _ hf).symm
theorem Qdb (v:B3):Vk v=Kx v:=rfl
theorem Qgl (n:Yw) (k:Int):Jz n k=Ui n k:=by
 unfold Jz Ui;rw[SO,Qdb,Qda];simp only[IV];by_cases h1:n.1=1
 . simp[h1]
 by_cases h2:n.1=2
 . simp[h1,h2,xU]
 by_cases h3:n.1=3
 . simp[h1,h2,h3];ac_rfl
 by_cases h4:n.1=4
 . simp[h1,h2,h3,h4];cases h:(n.2.2.2.2.1==1)<;>simp_all<;>ac_rfl
 by_cases h5:n.1=5
 . simp[h1,h2,h3,h4,h5];ac_rfl
 by_cases h6:n.1=6
 . simp[h1,h2,h3,h4,h5,h6];ac_rfl
 by_cases h7:n.1=7
 . simp[h1,h2,h3,h4,h5,h6,h7];ac_rfl
 by_cases h8:n.1=8
 . simp[h1,h2,h3,h4,h5,h6,h7,h8,xU]
 by_cases h9:n.1=9
 . simp[h1,h2,h3,h4,h5,h6,h7,h8,h9,xU]
 simp only[beq_eq_false_iff_ne.2 h1,beq_eq_false_iff_ne.2 h2,beq_eq_false_iff_ne.2 h3,beq_eq_false_iff_ne.2 h4,beq_eq_false_iff_ne.2 h5,beq_eq_false_iff_ne.2 h6,beq_eq_false_iff_ne.2 h7,beq_eq_false_iff_ne.2 h8,beq_eq_false_iff_ne.2 h9,cond_false]
theorem Qj6 (q:List Yw) (k:Int):Va q k=U3 q k:=by
 unfold Va U3
 rw[Ed (f:=Vz k) (g:=A7 k) (e:=A6) (e':=C9) (λi a s=>by
  unfold Vz A7;cases (a.2.1==k)<;>cases (a.2.2.1==k)<;>cases (a.1==6)<;>cases (a.1==7)<;>cases (a.1==5)<;>rfl) (λ_ _=>rfl)]
theorem Qgm (q:List Yw):Xb q=Z5 q:=by
 unfold Xb Z5
 rw[Ed (f:=Jg q) (g:=Ap q) (e:=W5) (e':=Cq) (λi a s=>by
  unfold Jg Ap;rw[Qgl,Qj6]) (λ_ _=>rfl)]
 rfl
theorem XB {q:List Yw} (h:Z5 q=true):Xb q=true:=(Qgm q).trans h
theorem Qdc {q:List Yw} (h:Xb q=true):(∃t,Xz (Jg q) W5 q 0 ()= .brk t)/\Zp (q.length:Int) 1 9=true:=by
 unfold Xb at h;cases hf:Xz (Jg q) W5 q 0 () with
 | brk t=>rw[hf] at h;exact ⟨⟨t,rfl⟩,h⟩
 | ret r=>
   rw[hf] at h;obtain rfl:r=true:=h;exfalso
   have key:∀(l:List Yw) k,Xz (Jg q) W5 l k ()≠ .ret true:=by
    intro l
    induction l with
    | nil=>intro k h;simp[Xz] at h
    | cons a l ih=>
      intro k h;simp only[Xz] at h;unfold Jg at h;split at h
      . rename_i hf;exact ih _ h
      . cases h
      rename_i r hf;cases h;revert hf;generalize (_|| _:Bool)=c;cases c<;>simp
   exact key _ _ hf
theorem HQ {q:List Yw} (h:Xb q=true):1<=q.length/\q.length<=9:=by
 have:=Pn.1 (Qdc h).2;omega
theorem OY {q:List Yw} (h:Xb q=true) {i:Nat} {n:Yw} (hi:q[i]? =some n):Jz n (i:Int)=true:=by
 obtain ⟨⟨t,ht⟩,_⟩:=Qdc h;have:=Mz (λk a t=>by unfold Jg;generalize (_|| _:Bool)=c;cases c<;>simp) ht i n hi;unfold Jg at this;rw[xW] at this;cases hn:Jz n (i:Int) with
 | true=>rfl
 | false=>rw[hn] at this;simp at this
theorem Qj7 {n:Yw} {k:Int} (h:Jz n k=true) (hk:0<=k/\k<4611686018427387904):(n.1=5\/n.1=6\/n.1=7->0<=n.2.1/\n.2.1<k)/\(n.1=6\/n.1=7->0<=n.2.2.1/\n.2.2.1<k):=by
 have hw:IntKind.i64.wrap (k-1)=k-1:=IntWalk.i64_in _ (by omega);unfold Jz at h;rw[hw] at h;refine ⟨λh5=> ?_,λh5=> ?_⟩
 . rcases h5 with h5 | h5 | h5<;>(simp[h5,Zp] at h;omega)
 rcases h5 with h5 | h5<;>(simp[h5,Zp] at h;omega)
theorem Mh {q:List Yw} (h:Xb q=true) {k:Int} (ha:0<=k) (hb:k<(q.length:Int)):
 ((nth q (zH k)).1=5\/(nth q (zH k)).1=6\/(nth q (zH k)).1=7->0<=(nth q (zH k)).2.1/\(nth q (zH k)).2.1<k)/\((nth q (zH k)).1=6\/(nth q (zH k)).1=7->0<=(nth q (zH k)).2.2.1/\(nth q (zH k)).2.2.1<k):=by
 have hi:q[zH k]? =some (nth q (zH k)):=Wg (by omega);have:=OY h hi;rw[Int.toNat_of_nonneg ha] at this;exact Qj7 this ⟨ha,by have:=(HQ h).2;omega⟩
section
variable {q:List Yw} {k:Int} (h:Xb q=true) (ha:0<=k) (hb:k<(q.length:Int))
include h ha hb
theorem Qif (h5:((nth q (zH k)).1==(5:Int))=true):0<=(nth q (zH k)).2.1/\(nth q (zH k)).2.1<k:=(Mh h ha hb).1 (.inl (eq_of_beq h5))
theorem SP (h5:((nth q (zH k)).1==(6:Int))=true):0<=(nth q (zH k)).2.1/\(nth q (zH k)).2.1<k:=(Mh h ha hb).1 (.inr (.inl (eq_of_beq h5)))
theorem Qav (h5:((nth q (zH k)).1==(7:Int))=true):0<=(nth q (zH k)).2.1/\(nth q (zH k)).2.1<k:=(Mh h ha hb).1 (.inr (.inr (eq_of_beq h5)))
theorem Qig (h5:((nth q (zH k)).1==(6:Int))=true):0<=(nth q (zH k)).2.2.1/\(nth q (zH k)).2.2.1<k:=(Mh h ha hb).2 (.inl (eq_of_beq h5))
theorem Qj8 (h5:((nth q (zH k)).1==(7:Int))=true):0<=(nth q (zH k)).2.2.1/\(nth q (zH k)).2.2.1<k:=(Mh h ha hb).2 (.inr (eq_of_beq h5))
theorem Qih (h5:(((nth q (zH k)).1==(6:Int))|| ((nth q (zH k)).1==(7:Int)))=true):(0<=(nth q (zH k)).2.1/\(nth q (zH k)).2.1<k)/\(0<=(nth q (zH k)).2.2.1/\(nth q (zH k)).2.2.1<k):=by
 have h6:(nth q (zH k)).1=6\/(nth q (zH k)).1=7:=by simpa using h5
 exact ⟨(Mh h ha hb).1 (.inr h6),(Mh h ha hb).2 h6⟩
end
end
end Go.Proofs.YtgmlioidliojkaaGreatDoor
