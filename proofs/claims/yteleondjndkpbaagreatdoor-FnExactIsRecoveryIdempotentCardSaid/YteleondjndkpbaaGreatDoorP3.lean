/- Texts of this proof, put together by a program: Zc, Mk, Ty, App, Fk, Kn, Cka, Ckb. -/
import Derived.Test.YteleondjndkpbaaGreatDoorP2
import Derived.Orders
import Derived.LoopN
import Derived.KernelRfl
import Derived.Deep.DeepAppendWide
import Derived.Deep.DeepAppendRoom
import Derived.Maps.AppendAt
import Derived.Test.YteleondjndkpbaaGreatDoorProg
import Derived.Outline
import Derived.Lib.SliceRun
set_option linter.unusedVariables false
set_option linter.unusedSimpArgs false
namespace Go.Proofs.YteleondjndkpbaaGreatDoor
open _root_ renaming Nat → Y, List → W, Int → H, Bool → uD, ByteArray → uE, Option → uG, if_neg → uH, Unit → uL, if_pos → uM, Array → uN, beq_eq_false_iff_ne → uO, of_decide_eq_false → uP, Inhabited → uQ, cond_true → uR, congrArg → uS, cond_false → uT, of_decide_eq_true → uV, LawfulBEq → uW
open _root_.Bool renaming true → E, false → uA
open _root_.Go renaming World → uC, Value → uF, Code → uI, Program → uJ, TypeId → uK, maxLen → uU
open _root_.Option renaming some → G, none → uB
open _root_.Array renaming getD_eq_getD_getElem? → zN, getElem?_eq_some_iff → yB, getElem?_append_left → yH, mapM_eq_mapM_toList → xC, replicate → xJ, getElem?_toList → xM
open _root_.Bool renaming and_eq_true → zH, not_eq_true' → zP, and_comm → xS
open _root_.ByteArray renaming size → zE
open _root_.Classical renaming byContradiction → yN
open _root_.Int renaming toNat → zG
open _root_.List renaming getElem?_eq_some_iff → zF, getElem?_eq_getElem → zL, mem_cons → zM, eq_nil_of_length_eq_zero → zO, mem_append_right → zR, mem_singleton → zS, mem_cons_of_mem → zT, mem_append_left → zV, mem_append → zW, map_cons → zZ, mem_cons_self → yA, pairwise_iff_getElem → yC, map_congr_left → yE, getElem?_append_right → yI, mem_of_getElem? → yJ, getElem?_append_left → yM, map_append → yO, length_append → yP, take_append_of_le_length → yV, append_nil → yW, mem_map → yX, drop_drop → yY, pairwise_cons → yZ, replicate → xA, flatten_replicate_nil → xB, length_cons → xE, getElem?_cons_succ → xF, mem_flatMap → xG, cons_append → xH, map_id' → xI, nil_append → xL, mem_of_mem_take → xN, drop_take → xO, take_take → xP, pairwise_append → xQ, getElem_of_mem → xR, map → xT
open _root_.Nat renaming beq → zQ, le_refl → zU, add_mul → zX, le_trans → zY, mul_le_mul_right → yD, one_mul → yF, zero_lt_one → yG, zero_le → yK, lt_of_lt_of_le → yQ, eq_of_beq_eq_true → yT, le_add_right → yU, lt_trichotomy → xD, min_eq_left → xK, lt_or_ge → xU, zero_add → xV
open _root_.Option renaming map_some → zJ, map_eq_some_iff → zK, bind_some → yL
open _root_.Option.some renaming inj → zD, injEq → yR
open _root_.Prod renaming snd → yS
section
open Go.RowKit
structure Rec where
 avs:W AV
 bn:W (Y×W C)
 res:Res
 obs:W Ob
def Gb (s:St):W Operand->uG (W AV)
 | []=>G []
 | x::r=>match AA s x,Gb s r with
   | some v,G vs=>G (v::vs)
   | _,_=>uB
def Oz:W C->W Y
 | []=> []
 | c::r=>c.bkeys++Oz r
def Hw (s:St):W Y->W (Y×W C)
 | []=> []
 | k::r=>match get s.bx k with
   | some cs=>(k,cs)::Hw s r
   | none=>Hw s r
def VW (tt : List (Y×TI)) (orc:Orc) (bn:W (Y×W C)) (dst:uG Y) (op:Op) (avs:W AV):uG (Res×W Ob):=
 match Qc2 tt orc bn op avs with
 | some (v,obs)=>(match orc with
   | .val v'=>G (⟨v', [],uB,uB⟩,.eq v v'::obs)
   | _=>G (⟨v, [],uB,uB⟩,obs))
 | none => match Qle tt bn dst op avs with
   | some x=>G x
   | none => match Qlh tt orc dst op avs with
     | some x=>G x
     | none => match Qll orc bn dst op avs with
       | some x=>G x
       | none => match Qda tt orc op avs with
         | some (v,obs)=>(match orc with
           | .val v'=>G (⟨v', [],uB,uB⟩,.eq v v'::obs)
           | _=>G (⟨v, [],uB,uB⟩,obs))
         | none =>match Qdb tt op avs with
           | some x=>G x
           | none =>match Qlm tt dst op avs with
             | some x=>G x
             | none=>match Qlq orc bn dst op avs with
               | some x=>G x
               | none=>match Qlr orc bn dst op avs with
                 | some x=>G x
                 | none=>Qls orc dst op avs
def IB (tt:W (Y×TI)) (orc:Orc) (bn:W (Y×W C)) (dst:uG Y) (op:Op) (avs:W AV):uG (Res×W Ob):=
 match VU tt orc op avs with
 | some (v,obs)=>G (⟨v, [],uB,uB⟩,obs)
 | none=>VW tt orc bn dst op avs
def Dl (ops:W Oper) (s:St) (o:Oper):uG uD:=
 match o.guard with
 | none=>G E
 | some (j,want)=>match ops[j]? with
   | some oj=>(match oj.dst with
     | some t=>(match get s.tm t with
       | some (.one (.bool b))=>G (match b,want with
         | true,E=>E
         | false,uA=>E
         | _,_=>uA)
       | some (.tup [])=>G uA
       | _=>uB)
     | none=>uB)
   | none=>uB
def ON (N:Y):uG Y->uD
 | none=>E
 | some d=>Nat.blt d N
def Ff (tt:W (Y×TI)) (N:Y) (orc:Orc) (ops:W Oper) (s:St) (o:Oper):uG Rec:=
 bif ON N o.dst then
  match Dl ops s o with
  | some E=>(match Gb s o.op.operands.toList with
    | some avs=>(match IB tt orc (Hw s (Oz (Y6 avs))) o.dst o.op avs with
      | some (r,obs)=>G ⟨avs,Hw s (Oz (Y6 avs)),r,obs⟩
      | none=>uB)
    | none=>uB)
  | some uA=>G ⟨[], [],⟨.tup [], [],uB,uB⟩, []⟩
  | none=>uB
 else uB
section
variable {P:uJ} {N:Y} {w0:Base} {F0:Y->Prop} {J:Inj} {a:Act} {w:uC} {s:St}
theorem BB : ∀ {xs :W Operand} {vs:W AV},Gb s xs=G vs->All2 (λx v=>AA s x=G v) xs vs
 | [], vs, h => by obtain rfl: []=vs:=by simpa [Gb] using h
                   exact .nil
 | x::r,vs,h=>by
   simp only[Gb] at h;split at h
   . rename_i v vs' e1 e2;obtain rfl:=zD h;exact .cons e1 (BB e2)
   cases h
theorem Ss:∀{ks:W Y} {k:Y} {c:W C},get (Hw s ks) k=G c->get s.bx k=G c
 | [],k,c,h=>by simp[Hw,get] at h
 | x ::r,k,c,h=>by
   simp only[Hw] at h;split at h
   . rename_i cs hx;simp only[get] at h;split at h
     . rename_i e;subst e;rw[hx];exact h
     exact Ss h
   exact Ss h
theorem Qa6 {tt:W (Y×TI)} (htt:Fb P tt=E) {orc:Orc} {bn:W (Y×W C)} {o:Oper} {avs:W AV} {r:Res} {obs:W Ob} (h:VW tt orc bn o.dst o.op avs=G (r,obs)) (hob:AllOb (Zk P w0) (Vs P w0) obs)
 (hdst:∀d,o.dst=G d->d<N) (hrel:Rel N w0 F0 J a w s) (hops:All2 (λx v=>AA s x=G v) o.op.operands.toList avs) (hbn:∀k c,get bn k=G c->get s.bx k=G c) {K:Act->uC->Prop} {Q:Exit->Act->uC->Prop}
 (hK:∀J' a' w',Rel N w0 F0 J' a' w' (s.step o.dst r)->K a' w'):o.wp P a w K Q:=by
 unfold VW at h
 have hbx:∀k c,get bn k=G c->∃arr e,w.heap[J.B k]? =G (.cells arr e (0,0))/\All2 (CR J w) arr.toList c:=λk c hk=>by
  obtain ⟨_,_,_,h⟩:=hrel.bo k c (hbn k c hk);exact h
 split at h
 . rename_i v obs' hp
   have key:∀v',AllOb (Zk P w0) (Vs P w0) obs'->v=v'->(∀J' a' w',Rel N w0 F0 J' a' w' (s.step o.dst ⟨v', [],uB,uB⟩)->K a' w')->o.wp P a w K Q:=by
    intro v' hob' e hK';obtain ⟨u,hu,hr⟩:=Qho (P:=P) (A:=Zk P w0) (J:=J) (w:=w) htt hp hob' rfl (ρ:=a.eval) (λ_=>rfl) (Db hrel hops) hbx;exact Ua hu (hK' J _ _ (hrel.pure o.dst hdst v' u λ_=>e▸hr))
   split at h
   . rename_i v';obtain ⟨rfl,rfl⟩:(⟨v', [],uB,uB⟩:Res)=r/\ .eq v v'::obs'=obs:=by simpa using h
     obtain ⟨e,hob'⟩:=AllOb.cons hob;exact key v' hob' e hK
   obtain ⟨rfl,rfl⟩:(⟨v, [],uB,uB⟩:Res)=r/\obs'=obs:=by simpa using h
   exact key v hob rfl hK
 split at h
 . rename_i x hx;obtain rfl:=zD h;exact Qhq (P:=P) htt hx hdst hrel hops hbn hK
 split at h
 . rename_i x hx;obtain rfl:=zD h;exact Qhr (P:=P) htt hx hob hdst hrel hops hK
 split at h
 . rename_i x hx;obtain rfl:=zD h;exact Qhu (P:=P) hx hob hdst hrel hops hbn hK
 split at h
 . rename_i v obs' hp;have hval:(∃v',orc= .val v')\/∀v',orc≠ .val v':=by cases orc<;>simp
   rcases hval with ⟨v',rfl⟩ | hne
   . obtain ⟨rfl,rfl⟩:(⟨v', [],uB,uB⟩:Res)=r/\ .eq v v'::obs'=obs:=by simpa using h
     obtain ⟨e,hob'⟩:=AllOb.cons hob;obtain ⟨u,hu,hr⟩:=GT (P:=P) (A:=Zk P w0) (J:=J) (w:=w) htt hp hob' rfl (ρ:=a.eval) (Db hrel hops);have e:v=v':=e;exact Ua hu (hK _ _ _ (hrel.pure o.dst hdst _ _ λ_=>e▸hr))
   have h2:G ((⟨v, [],uB,uB⟩:Res),obs')=G (r,obs):=by
    split at h
    . exact absurd rfl (hne _)
    exact h
   obtain ⟨rfl,rfl⟩:(⟨v, [],uB,uB⟩:Res)=r/\obs'=obs:=by simpa using h2
   obtain ⟨u,hu,hr⟩:=GT (P:=P) (A:=Zk P w0) (J:=J) (w:=w) htt hp hob rfl (ρ:=a.eval) (Db hrel hops);exact Ua hu (hK _ _ _ (hrel.pure o.dst hdst _ _ λ_=>hr))
 split at h
 . rename_i x hx;obtain rfl:=zD h;exact Qdd (P:=P) htt hx hdst hrel hops hK
 split at h
 . rename_i x hx;obtain rfl:=zD h;exact Qhw (P:=P) htt hx hob hdst hrel hops hK
 split at h
 . rename_i x hx;obtain rfl:=zD h;exact Qhy (P:=P) hx hob hdst hrel hops hbn hK
 split at h
 . rename_i x hx;obtain rfl:=zD h;exact Qh0 (P:=P) hx hob hdst hrel hops hbn hK
 exact Qh2 (P:=P) h hob hdst hrel hops hK
theorem Qdk {tt:W (Y×TI)} (htt:Fb P tt=E) {orc:Orc} {bn:W (Y×W C)} {o:Oper} {avs:W AV} {r:Res} {obs:W Ob} (h:IB tt orc bn o.dst o.op avs=G (r,obs)) (hob:AllOb (Zk P w0) (Vs P w0) obs)
 (hdst:∀d,o.dst=G d->d<N) (hrel:Rel N w0 F0 J a w s) (hops:All2 (λx v=>AA s x=G v) o.op.operands.toList avs) (hbn:∀k c,get bn k=G c->get s.bx k=G c) {K:Act->uC->Prop} {Q:Exit->Act->uC->Prop}
 (hK:∀J' a' w',Rel N w0 F0 J' a' w' (s.step o.dst r)->K a' w'):o.wp P a w K Q:=by
 unfold IB at h;split at h
 . rename_i v obs' hp;obtain ⟨rfl,rfl⟩:(⟨v, [],uB,uB⟩:Res)=r/\obs'=obs:=by simpa using h
   obtain ⟨u,hu,hr⟩:=Qa5 (P:=P) (A:=Zk P w0) (J:=J) (w:=w) htt hp hob rfl (ρ:=a.eval) (Db hrel hops);exact Ua hu (hK _ _ _ (hrel.pure o.dst hdst _ _ λ_=>hr))
 exact Qa6 htt h hob hdst hrel hops hbn hK
theorem SH {ops:uN Oper} {o:Oper} {b:uD} (hrel:Rel N w0 F0 J a w s) (h:Dl ops.toList s o=G b):Region.wanted o (yielded ops a.tmps)=b:=by
 unfold Dl at h;unfold Region.wanted;split at h
 . rename_i hg;rw[hg];exact zD h
 rename_i j want hg;rw[hg];split at h
 . rename_i oj hj;split at h
   . rename_i t ht;split at h
     . rename_i c hc;have h1:a.tmps.getD t undef= .bool c:=hrel.tm t _ hc
       have h2:a.tmps[t]? =G (.bool c):=by
        rw[zN] at h1;cases hq:a.tmps[t]? with
        | none=>rw[hq] at h1;simp[undef] at h1
        | some u=>rw[hq] at h1;simp at h1;rw[h1]
       have hj':ops[j]? =G oj:=by simpa using hj
       simp only[yielded,hj',yL,ht,h2];obtain rfl:=zD h;cases c<;>cases want<;>rfl
     . rename_i hc;obtain ⟨vs,h1,hv⟩:=hrel.tm t _ hc;cases hv
       have hj':ops[j]? =G oj:=by simpa using hj
       obtain rfl:=zD h;rw[zN] at h1;cases hq:a.tmps[t]? with
       | none=>simp[yielded,hj',ht,hq]
       | some u=>
         rw[hq] at h1;obtain rfl:u=_:=h1;simp[yielded,hj',ht,hq]
     cases h
   cases h
 cases h
theorem Qdl {tt:W (Y×TI)} (htt:Fb P tt=E) {orc:Orc} {ops:uN Oper} {i:Y} {o:Oper} (hi:ops[i]? =G o) {ρ:Rec} (h:Ff tt N orc ops.toList s o=G ρ) (hob:AllOb (Zk P w0) (Vs P w0) ρ.obs) (hrel:Rel N w0 F0 J a w s)
 {K:Act->uC->Prop} {Q:Exit->Act->uC->Prop} (hK:∀J' a' w',Rel N w0 F0 J' a' w' (s.step o.dst ρ.res)->K a' w'):wpOp P ops Q i K a w:=by
 unfold Ff at h;cases hd:ON N o.dst with
 | false=>rw[hd] at h;cases h
 | true =>
   rw[hd] at h;simp only[uR] at h;have hdst:∀d,o.dst=G d->d<N:=λd e=>by rw[e] at hd;simpa [ON] using hd
   unfold wpOp;simp only[hi];split at h
   . rename_i hg;have hw:=SH hrel hg;split at h
     . rename_i avs havs;split at h
       . rename_i r obs he;obtain rfl:=zD h;rw[uM hw];exact .inl (Qdk (P:=P) htt he hob hdst hrel (BB havs) (λk c hk=>Ss hk) hK)
       cases h
     cases h
   . rename_i hg;obtain rfl:=zD h;have hw:=SH hrel hg;rw[uH (by rw[hw];simp)];exact hK J _ _ (hrel.pure o.dst hdst _ _ λ_=>⟨[],rfl,.nil⟩)
   cases h
def DO (orcs:W (Y×Orc)) (i:Y):Orc:=match get orcs i with
 | some x=>x
 | none=> .no
def N8 (tt:W (Y×TI)) (N:Y) (orcs:W (Y×Orc)) (ops:W Oper):W Oper->Y->St->uG (St×W Ob)
 | [],_,s=>G (s, [])
 | o ::r,i,s=>match Ff tt N (DO orcs i) ops s o with
   | some ρ=>(match N8 tt N orcs ops r (i+1) (s.step o.dst ρ.res) with
     | some (s',obs)=>G (s',ρ.obs++obs)
     | none=>uB)
   | none=>uB
theorem IC {tt:W (Y×TI)} (htt:Fb P tt=E) {orcs:W (Y×Orc)} {ops:uN Oper} {Q:Exit->Act->uC->Prop}:∀(l:W Oper) (i:Y) {s s':St} {obs:W Ob} {J:Inj} {a:Act} {w:uC},ops.toList.drop i=l->
 N8 tt N orcs ops.toList l i s=G (s',obs)->AllOb (Zk P w0) (Vs P w0) obs->Rel N w0 F0 J a w s->(∀J' a' w',Rel N w0 F0 J' a' w' s'->Q .normal a' w')->wpOps P ops Q (List.range' i l.length) a w
 | [],i,s,s',obs,J,a,w,_,h,_,hrel,hQ=>by
   obtain ⟨rfl,rfl⟩:s=s'/\ []=obs:=by simpa [N8] using h
   exact hQ J a w hrel
 | o :: r,i,s,s',obs,J,a,w,hl,h,hob,hrel,hQ=>by
   simp only[N8] at h;split at h
   . rename_i ρ hρ;split at h
     . rename_i s'' obs' hr;obtain ⟨rfl,rfl⟩:s''=s'/\ρ.obs++obs'=obs:=by simpa using h
       obtain ⟨ho1,ho2⟩:=AllOb.append hob
       have hi:ops[i]? =G o:=by
        have:=uS (·[0]?) hl;simpa using this
       have hl':ops.toList.drop (i+1)=r:=by rw[←yY,hl];rfl
       rw[xE,List.range'_succ,wpOps_cons];exact Qdl (P:=P) htt hi hρ ho1 hrel λJ' a' w' hR=>IC htt r (i+1) hl' hr ho2 hR hQ
     cases h
   cases h
end
end
section
open Go.RowKit
section
variable (P:uJ) (N:Y) (w0:Base) (F0:Y->Prop)
def QX (Q:Exit->St->Prop):Exit->Act->uC->Prop:=λe a w=>∃J s,Rel N w0 F0 J a w s/\Q e s
def AWP (c:uI) (Q:Exit->St->Prop) (s:St):Prop:=∀J a w,Rel N w0 F0 J a w s->c.wp P (QX N w0 F0 Q) a w
end
def Weak (s s':St):Prop:=∀N w0 F0 J a w,Rel N w0 F0 J a w s->∃J',Rel N w0 F0 J' a w s'
def Exit.thenS (K:St->Prop) (Q:Exit->St->Prop):Exit->St->Prop
 | .normal,s=>K s
 | e,s=>Q e s
def Exit.inBlockS (id:Y) (Q:Exit->St->Prop):Exit->St->Prop
 | .exit i,s=>bif zQ i id then Q .normal s else Q (.exit i) s
 | e,s=>Q e s
section
variable {P:uJ} {N:Y} {w0:Base} {F0:Y->Prop} {Q:Exit->St->Prop} {s s':St}
theorem Weak.refl (s:St):Weak s s:=λ_ _ _ J _ _ h=>⟨J,h⟩
theorem Weak.trans {s s' s'':St} (h:Weak s s') (h':Weak s' s''):Weak s s'':=λN w0 F0 J a w hr=>by
 obtain ⟨J',hr'⟩:=h N w0 F0 J a w hr;exact h' N w0 F0 J' a w hr'
theorem Ei {c:uI} (hw:Weak s s') (h:AWP P N w0 F0 c Q s'):AWP P N w0 F0 c Q s:=λJ a w hr=>by
 obtain ⟨J',hr'⟩:=hw N w0 F0 J a w hr;exact h J' a w hr'
theorem Qh3 {c:uI} {Q':Exit->St->Prop} (h:AWP P N w0 F0 c Q s) (hq:∀e s,Q e s->Q' e s):AWP P N w0 F0 c Q' s:=λJ a w hr=>
 wp_mono (h J a w hr) λe a w ⟨J,s,h1,h2⟩=>⟨J,s,h1,hq e s h2⟩
theorem Qb {x y:uI} (h:AWP P N w0 F0 x (Exit.thenS (AWP P N w0 F0 y Q) Q) s):AWP P N w0 F0 (.seq x y) Q s:=λJ a w hr=>by
 refine wp_seq (wp_mono (h J a w hr) ?_)
 rintro e a' w' ⟨J',s',hR,hq⟩
 cases e with
 | normal=>exact hq J' a' w' hR
 | _=>exact ⟨J',s',hR,hq⟩
theorem Qf (h:Q .normal s):AWP P N w0 F0 .skip Q s:=λJ a w hr=>wp_skip ⟨J,s,hr,h⟩
theorem Q4 {id:Y} (h:Q (.exit id) s):AWP P N w0 F0 (.exit id) Q s:=λJ a w hr=>wp_exit ⟨J,s,hr,h⟩
theorem Qd (h:Q .ret s):AWP P N w0 F0 .ret Q s:=λJ a w hr=>wp_ret ⟨J,s,hr,h⟩
theorem Tp {t:Y} {x y:uI} {b:uD} (hc:get s.tm t=G (.one (.bool b))) (h1:b=E->AWP P N w0 F0 x Q s) (h2:b=uA->AWP P N w0 F0 y Q s):AWP P N w0 F0 (.cond (.tmp t) x y) Q s:=λJ a w hr=>
 wp_cond_split (t:=b) (hr.tm t _ hc) (λe=>h1 e J a w hr) (λe=>h2 e J a w hr)
theorem Qo {id:Y} {c:uI} (h:AWP P N w0 F0 c (Exit.inBlockS id Q) s):AWP P N w0 F0 (.block id c) Q s:=λJ a w hr=>by
 refine wp_block (wp_mono (h J a w hr) ?_)
 rintro e a' w' ⟨J',s',hR,hq⟩
 cases e with
 | exit i=>
   simp only[Exit.inBlockS] at hq;simp only[Exit.inBlock];split<;>rename_i hi
   . subst hi;simp only[Nat.beq_refl,uR] at hq;exact ⟨J',s',hR,hq⟩
   rw[show zQ i id=uA by
    cases hb:zQ i id with
    | false=>rfl
    | true=>exact absurd (yT hb) hi] at hq
   exact ⟨J',s',hR,hq⟩
 | _=>exact ⟨J',s',hR,hq⟩
theorem VX {c:uI} {Q:Exit->Act->uC->Prop}:∀(n m:Y),n<=m->∀a w,Code.rounds P c Q n a w->Code.rounds P c Q m a w
 | 0,_,_,_,_,h=>h.elim
 | n+1,0,h,_,_,_=>absurd h (by omega)
 | n +1,m+1,hnm,a,w,h=>wp_mono (show c.wp P (Exit.then (Code.rounds P c Q n) Q) a w from h) λe a w hq=>by
     cases e with
     | normal=>exact VX n m (by omega) a w hq
     | _=>exact hq
theorem Qh4 {c:uI} (I:Y->St->Prop) {n:Y} (h0:I n s) (hI:∀n s,I n s->AWP P N w0 F0 c (Exit.thenS (λs'=>∃m s'',m<n/\Weak s' s''/\I m s'') Q) s):AWP P N w0 F0 (.loop c) Q s:=λJ a w hr=>by
 have key:∀n s J a w,I n s->Rel N w0 F0 J a w s->Code.rounds P c (QX N w0 F0 Q) (n+1) a w:=by
  intro n
  induction n using Nat.strongRecOn with
  | _ n ih=>
    intro s J a w hi hr;refine wp_mono (hI n s hi J a w hr) ?_
    rintro e a' w' ⟨J',s',hR,hq⟩
    cases e with
    | normal=>
      obtain ⟨m,s'',hm,hw,hi'⟩:=hq;obtain ⟨J'',hR'⟩:=hw N w0 F0 J' a' w' hR;exact VX (m+1) n hm a' w' (ih m hm s'' J'' a' w' hi' hR')
    | _=>exact ⟨J',s',hR,hq⟩
 exact wp_loop_rounds (n+1) (key n s J a w h0 hr)
def OO {α:Type} (l:W (Y×α)):W Y->W (Y×α)
 | []=> []
 | t::r=>match get l t with
   | some v=>(t,v)::OO l r
   | none=>OO l r
theorem Ll {α:Type} {l:W (Y×α)} {t:Y} {v:α}:∀{ts:W Y},get (OO l ts) t=G v->get l t=G v
 | [],h=>by simp[OO,get] at h
 | x ::r,h=>by
   simp only[OO] at h;split at h
   . rename_i u hu;simp only[get] at h;split at h
     . rename_i e;subst e;rw[hu];exact h
     exact Ll h
   exact Ll h
def St.keep (s:St) (ts bs:W Y):St:=⟨OO s.tm ts,OO s.bx bs⟩
theorem VY (ts bs:W Y) (h:s.keep ts bs=s'):Weak s s':=λN w0 F0 J a w hr=>⟨J,by
 subst h;exact hr.less (λt v hv=>Ll hv) λk c hc=>Ll hc⟩
def Wd (tt:W (Y×TI)) (N:Y) (orcs:W (Y×Orc)) (ops:W Oper) (ts bs:W Y) (s:St):uG (St×W Ob):=
 match N8 tt N orcs ops ops 0 s with
 | some (s',obs)=>G (s'.keep ts bs,obs)
 | none=>uB
theorem Jm {tt:W (Y×TI)} (htt:Fb P tt=E) (orcs:W (Y×Orc)) (ts bs:W Y) {id:Y} {ops:uN Oper} {obs:W Ob} (h:Wd tt N orcs ops.toList ts bs s=G (s',obs)) (hob:AllOb (Zk P w0) (Vs P w0) obs) (hQ:Q .normal s'):
 AWP P N w0 F0 (.region id ops uA) Q s:=λJ a w hr=>by
 unfold Wd at h;split at h
 . rename_i s1 obs1 h1;obtain ⟨rfl,rfl⟩:s1.keep ts bs=s'/\obs1=obs:=by simpa using h
   refine wp_region ?_;have:=IC (P:=P) (Q:=QX N w0 F0 Q) htt ops.toList 0 rfl h1 hob hr λJ' a' w' hR=>⟨J',_,hR.less (λt v hv=>Ll hv) (λk c hc=>Ll hc),hQ⟩
   rw[List.range_eq_range'];simpa using this
 cases h
def M9 (k k' x:Y):Y:=bif zQ x k then k' else bif zQ x k' then k else x
def Qoc (k k':Y):Tok->Tok
 | .own d x=> .own d (M9 k k' x)
 | .vw x=> .vw (M9 k k' x)
 | t=>t
def Qlu (k k':Y):C->C
 | .slc t n l=> .slc (Qoc k k' t) n l
 | .rptr t cs=> .rptr (Qoc k k' t) cs
 | .ept d x n i o cs=> .ept d (M9 k k' x) n i o cs
 | c=>c
theorem BC {a b:Y} (h:a≠b):zQ a b=uA:=by
 cases hb:zQ a b with
 | false=>rfl
 | true=>exact absurd (yT hb) h
theorem Bi (k k' x:Y):M9 k k' (M9 k k' x)=x:=by
 simp only[M9];by_cases h1:x=k
 . subst h1;simp;by_cases h2:k'=x
   . simp[h2]
   have:zQ k' x=uA:=BC h2;simp[this]
 have e1:zQ x k=uA:=BC h1;simp only[e1,uT];by_cases h2:x=k'
 . subst h2;simp
 have e2:zQ x k'=uA:=BC h2;simp[e1,e2]
def Inj.swap (J:Inj) (k k':Y):Inj:=⟨J.F,λx=>J.L (M9 k k' x),J.B⟩
theorem SI {J:Inj} {w:uC} {k k':Y} {v:uF} {c:C} (h:CR J w v c):CR (J.swap k k') w v (Qlu k k' c):=by
 cases c with
 | slc t n l=>
   cases t with
   | sh | emp | put=>exact h
   | own d x=>
     cases d with
     | true=>show OwnDeep (J.L (M9 k k' (M9 k k' x))) w v n l;rw[Bi];exact h
     | false=>show OwnTop J.F (J.L (M9 k k' (M9 k k' x))) w v n l;rw[Bi];exact h
   | vw x=>
     refine VV.keep (X:=J.X (.vw x)) (λb hb=>⟨?_,rfl⟩) h;show b∈J.L (M9 k k' (M9 k k' x))\/J.F b;rw[Bi];exact hb
 | ept d x n i o cs=>
   obtain ⟨g,r,vs,h1,h2,h3,h4⟩:=h;refine ⟨g,r,vs, ?_,h2,h3.keep λb hb=>⟨?_,rfl⟩,h4⟩
   . show J.L (M9 k k' (M9 k k' x))=_;rw[Bi];exact h1
   cases d with
   | true=>
     show b∈J.L (M9 k k' (M9 k k' x))\/J.F b;rw[Bi];exact hb
   | false=>exact hb
 | rptr t cs=>
   refine Reads.keep h λb hb=>⟨?_,rfl⟩
   cases t with
   | vw x=>
     show b∈J.L (M9 k k' (M9 k k' x))\/J.F b;rw[Bi];exact hb
   | _=>exact hb
 | _=>exact h
theorem Rel.swap {J:Inj} {a:Act} {w:uC} (h:Rel N w0 F0 J a w s) (k k':Y):Rel N w0 F0 (J.swap k k') a w (s.map (Qlu k k')) where
 below:=h.below
 nodef:=h.nodef
 size:=h.size
 fl:=h.fl
 f0:=h.f0
 nd x:=h.nd _
 lo x:=h.lo _
 nb:=h.nb
 cb:=h.cb
 dj x y b hx hy:=by
  have:=h.dj _ _ b hx hy;rw[←Bi k k' x,this,Bi]
 bo x c hc:=by
  simp only[St.map,Is (xT _)] at hc;obtain ⟨y,hy,rfl⟩:=zK.1 hc;obtain ⟨h1,h2,h3,arr,e,h4,h5⟩:=h.bo x y hy;exact ⟨h1,h2,λk=>h3 _,arr,e,h4,h5.map _ λa b _ hr=>SI hr⟩
 bi x y c c' hc hc' hB:=by
  simp only[St.map,Is (xT _)] at hc hc';obtain ⟨z,hz,rfl⟩:=zK.1 hc;obtain ⟨z',hz',rfl⟩:=zK.1 hc';exact h.bi x y z z' hz hz' hB
 tm t v hv:=by
  simp only[St.map,Is (AV.map _)] at hv;obtain ⟨y,hy,rfl⟩:=zK.1 hv;exact AR.map _ (h.tm t y hy) λu c _ hc=>SI hc
def St.swaps (s:St):W (Y×Y)->St
 | []=>s
 | (k,k')::r=>(s.map (Qlu k k')).swaps r
theorem BD:∀(l:W (Y×Y)) (s:St),Weak s (s.swaps l)
 | [],s=>Weak.refl s
 | (k,k')::r,s=>Weak.trans (λN w0 F0 J a w h=>⟨_,h.swap k k'⟩) (BD r _)
theorem BE (ks:W Y) {J:Inj} {a:Act} {w:uC} (hr:Rel N w0 F0 J a w s):∃J':Inj,(∀k,k∈ks->J'.L k= [])/\Rel N w0 F0 J' a w (s.map (Wn (X5 ks) uB)):=by
 let J':Inj:=⟨λb=>J.F b\/∃k,k∈ks/\b∈J.L k,λk=>if k∈ks then [] else J.L k,J.B⟩
 have hL:∀k b,b∈J'.L k->k∉ks/\b∈J.L k:=λk b hm=>by
  have hm:b∈(if k∈ks then [] else J.L k):=hm;split at hm
  . simp at hm
  rename_i hn;exact ⟨hn,hm⟩
 have hT:Turns J J' w w (X5 ks) uB:=by
  constructor
  . exact λb hb=>⟨.inl hb,rfl⟩
  . intro k hk;rw[Ur] at hk;split at hk
    . cases hk
    rename_i hn;exact ⟨uH hn,λ_ _=>rfl⟩
  . intro k hk b hb;rw[Ur] at hk;split at hk
    . rename_i hm;exact ⟨.inr ⟨k,hm,hb⟩,rfl⟩
    cases hk
  . intro k k' hk;rw[Ur] at hk;split at hk<;>cases hk
  . intro k t hk;rw[Ur] at hk;split at hk
    . simp at hk;exact .inl hk.symm
    cases hk
  . exact λ_ _=>rfl
  intro k d m i o cs hk;rw[Ur] at hk;split at hk<;>cases hk
 have hN:Names w0 F0 J' w:=by
  constructor
  . exact λb hb=>hb.elim (hr.fl b) λ⟨k,_,hm⟩=>⟨(hr.lo k b hm).2.1,.inr (hr.lo k b hm).1⟩
  . exact λb hb=> .inl (hr.f0 b hb)
  . intro k;show (if _ then _ else _:W Y).Nodup;split
    . simp
    exact hr.nd k
  . intro k b hm;obtain ⟨hn,hm⟩:=hL k b hm;obtain ⟨h1,h2,h3⟩:=hr.lo k b hm;exact ⟨h1,h2,λhF=>hF.elim h3 λ⟨k',hk',hm'⟩=>hn (hr.dj k k' b hm hm'▸hk')⟩
  intro k k' b hm hm';exact hr.dj k k' b (hL k b hm).2 (hL k' b hm').2
 have h0:=hr.upd (w':=w) (J':=J') uB (by simp) ⟨.one .dead,X5 ks,uB,uB⟩ undef hr.below hT hN (λh=>absurd rfl h) (λk c hk _=>by
  obtain ⟨_,h2,h3,_⟩:=hr.bo k c hk;exact ⟨by simp,λhF=>hF.elim h2 λ⟨k',_,hm⟩=>h3 k' hm,λk' hm=>h3 k' (hL k' _ hm).2,rfl⟩) (λk c hk=>by cases hk)
 refine ⟨J',λk hk=>uM hk, ?_⟩;have h0:Rel N w0 F0 J' a w (match X5 ks,(none:uG Y) with | [],uB=>s | rl,kb=>s.map (Wn rl kb)):=h0;cases ks with
 | nil =>
   have hid:s.map (Wn (X5 []) uB)=s:=by
    have hc:(Wn (X5 []) uB)=id:=by
     funext c
     cases c with
     | slc t n l=>cases t<;>rfl
     | rptr t cs=>cases t<;>rfl
     | _=>rfl
    rw[hc];obtain ⟨tm,bx⟩:=s;simp only[St.map]
    congr 1
    . conv=>rhs;rw[←List.map_id tm]
      refine yE λp _=> ?_
      obtain ⟨t,v⟩:=p;cases v<;>simp[AV.map]
    simp
   rw[hid];exact h0
 | cons k ks=>exact h0
theorem Bj (ks:W Y) (h:s.map (Wn (X5 ks) uB)=s'):Weak s s':=λN w0 F0 J a w hr=>by
 subst h;obtain ⟨J',_,h⟩:=BE ks hr;exact ⟨J',h⟩
def Qh5 (d:uD) (k n:Y):C->C
 | .slc .emp _ []=> .slc (.own d k) n []
 | c=>c
def OP (i:Y) (d:uD) (k n:Y):W C->W C
 | []=> []
 | c::r=>match i with
   | 0=>Qh5 d k n c::r
   | i+1=>c::OP i d k n r
def Qkf (i:Y) (d:uD) (k n:Y):AV->AV
 | .one c=> .one (Qh5 d k n c)
 | .agg cs=> .agg (OP i d k n cs)
 | v=>v
theorem SJ {J:Inj} {w:uC} {v:uF} {d:uD} {k n:Y} (_:J.L k= []) {c:C} (h:CR J w v c):CR J w v (Qh5 d k n c):=by
 unfold Qh5;split
 . obtain ⟨_,oa,rfl⟩:=h;cases d with
   | true=>show OwnDeep (J.L k) w _ n [];exact ⟨[],.emp oa n,List.nodup_nil,(λb hb=>by simp at hb),.inl rfl⟩
   | false=>exact .inl ⟨rfl,oa,rfl⟩
 exact h
theorem DP {J:Inj} {w:uC} {d:uD} {k n:Y} (hk:J.L k= []):∀(i:Y) {cs:W C} {vs:W uF},All2 (CR J w) vs cs->All2 (CR J w) vs (OP i d k n cs)
 | _, [],_,h=>by unfold OP;exact h
 | 0,c::r,_,.cons h1 h2=>by unfold OP;exact .cons (SJ hk h1) h2
 | i+1,c::r,_,.cons h1 h2=>by unfold OP;exact .cons h1 (DP hk i h2)
theorem Qdm {J:Inj} {w:uC} {v:uF} {d:uD} {k n:Y} (hk:J.L k= []) (i:Y) {x:AV} (h:AR J w v x):AR J w v (Qkf i d k n x):=by
 cases x with
 | one c=>exact SJ hk h
 | agg cs=>obtain ⟨vs,e,h⟩:=h;exact ⟨vs,e,DP hk i h⟩
 | tup l=>exact h
def Qnz {α:Type} (t:Y) (f:α->α):W (Y×α)->W (Y×α)
 | []=> []
 | (k,a)::r=>(k,if k=t then f a else a)::Qnz t f r
theorem Tq {α:Type} {t u:Y} {f:α->α} {v:α}:∀{l:W (Y×α)},get (Qnz t f l) u=G v->∃y,get l u=G y/\(v=f y\/v=y)
 | [],h=>by simp[Qnz,get] at h
 | (k,a)::r,h=>by
   simp only[Qnz,get] at h⊢;by_cases hk:k=u
   . simp only[hk,if_true] at h⊢;refine ⟨a,rfl, ?_⟩;by_cases hu:u=t
     . simp only[hu,if_true] at h;exact .inl (zD h).symm
     simp only[hu,if_false] at h;exact .inr (zD h).symm
   simp only[hk,if_false] at h⊢;exact Tq h
def St.open1 (s:St):uD×Y×Y×uD×Y×Y->St
 | (E,t,i,d,k,n)=>⟨(s.map (Wn (X5 [k]) uB)).tm,Qnz t (OP i d k n) (s.map (Wn (X5 [k]) uB)).bx⟩
 | (uA,t,i,d,k,n)=>⟨Qnz t (Qkf i d k n) (s.map (Wn (X5 [k]) uB)).tm,(s.map (Wn (X5 [k]) uB)).bx⟩
theorem Qa7 (o:uD×Y×Y×uD×Y×Y) (s:St):Weak s (s.open1 o):=λN w0 F0 J a w hr=>by
 obtain ⟨b,t,i,d,k,n⟩:=o;obtain ⟨J',hk,h⟩:=BE [k] hr;have hk:=hk k yA;refine ⟨J', ?_⟩;cases b with
 | true=>
   refine {h with bo:=λx c hc=> ?_,bi:=λx y c c' hc hc'=> ?_}
   . obtain ⟨y,hy,e⟩:=Tq hc;obtain ⟨h1,h2,h3,arr,ty,h4,h5⟩:=h.bo x y hy;refine ⟨h1,h2,h3,arr,ty,h4, ?_⟩;rcases e with rfl | rfl
     . exact DP hk i h5
     exact h5
   obtain ⟨_,hy,_⟩:=Tq hc;obtain ⟨_,hy',_⟩:=Tq hc';exact h.bi x y _ _ hy hy'
 | false=>
   refine {h with tm:=λx v hv=> ?_};obtain ⟨y,hy,e⟩:=Tq hv;have h5:=h.tm x y hy;rcases e with rfl | rfl
   . exact Qdm hk i h5
   exact h5
def St.opens (s:St):W (uD×Y×Y×uD×Y×Y)->St
 | []=>s
 | o::r=>(s.open1 o).opens r
theorem YA:∀(l:W (uD×Y×Y×uD×Y×Y)) (s:St),Weak s (s.opens l)
 | [],s=>Weak.refl s
 | o::r,s=>Weak.trans (Qa7 o s) (YA r _)
theorem Qdn {c:uI} (l:W (uD×Y×Y×uD×Y×Y)) (he:s.opens l=s') (h:AWP P N w0 F0 c Q s'):AWP P N w0 F0 c Q s:=Ei (he▸YA l s) h
def Qqc (k:Y):C->C
 | .slc (.own E x) n l=>bif zQ x k then .slc (.own uA x) n l else .slc (.own E x) n l
 | .ept E x n i o cs=>bif zQ x k then .rptr (.vw x) cs else .ept E x n i o cs
 | c=>c
def Inj.dem (J:Inj) (k:Y):Inj:=⟨λb=>J.F b\/(b∈J.L k/\b∉(J.L k).take 1),λx=>if x=k then (J.L k).take 1 else J.L x,J.B⟩
theorem Qdo {J:Inj} {k:Y} {t:Tok}:∀b,J.X t b->(J.dem k).X t b:=by
 intro b hb;cases t with
 | sh=>exact .inl hb
 | emp | own | put=>exact hb.elim
 | vw x =>
   rcases hb with hb | hb
   . by_cases hx:x=k
     . subst hx;by_cases hm:b∈(J.L x).take 1
       . exact .inl (by show b∈(if x=x then _ else _);rw[uM rfl];exact hm)
       exact .inr (.inr ⟨hb,hm⟩)
     exact .inl (by show b∈(if x=k then _ else _);rw[uH hx];exact hb)
   exact .inr (.inl hb)
theorem Qdp {J:Inj} {w:uC} {v:uF} {k:Y} {c:C} (h:CR J w v c):CR (J.dem k) w v (Qqc k c):=by
 have hF:∀b,J.F b->(J.dem k).F b/\w.heap[b]? =w.heap[b]? :=λb hb=>⟨.inl hb,rfl⟩
 have hL:∀x,x≠k->(J.dem k).L x=J.L x:=λx hx=>uH hx
 have hLk:(J.dem k).L k=(J.L k).take 1:=uM rfl;cases c with
 | int | bool | str | raw | dead=>exact h
 | slc t n l=>
   cases t with
   | sh=>exact VV.keep hF h
   | emp=>exact h
   | put=>exact h.elim
   | vw x=>exact VV.keep (λb hb=>⟨Qdo (t:= .vw x) b hb,rfl⟩) h
   | own d x=>
     cases d with
     | false=>
       show OwnTop _ ((J.dem k).L x) w v n l;rcases h with h | ⟨g,cap,cur,e,e1,hv,hg,hs,hr,h1,h2⟩
       . exact .inl h
       refine .inr ⟨g,cap,cur,e, ?_,hv,hg,hs,hr.keep hF,h1,h2⟩;by_cases hx:x=k
       . subst hx;rw[hLk,e1];rfl
       rw[hL x hx];exact e1
     | true =>
       show CR (J.dem k) w v (bif zQ x k then .slc (.own uA x) n l else .slc (.own E x) n l);cases hb:zQ x k with
       | false=>
         have hx:x≠k:=λe=>by subst e;simp at hb
         show OwnDeep ((J.dem k).L x) w v n l;rw[hL x hx];exact h
       | true=>
         obtain rfl:=yT hb;show OwnTop _ ((J.dem x).L x) w v n l;rw[hLk];obtain ⟨L',h1,h2,h3,h4⟩:=h;generalize hp:PV.slc n l=p at h1;cases h1 with
         | int | bool | str | any | raw=>cases hp
         | emp oa n'=>cases hp;exact .inl ⟨rfl,oa,rfl⟩
         | @slc g cap n' cur e L1 l' hg hs hr h5 h6=>
           cases hp
           rcases h4 with h4 | ⟨g',r1,r2,e1,e2⟩
           . cases h4
           cases e1
           obtain ⟨n1,_⟩:=List.nodup_cons.1 h2;refine .inr ⟨g,cap,cur,e,by rw[e2];rfl,rfl,hg,hs,hr.vr λb hb=> .inr ⟨h3 b (zT _ hb),λhm=> ?_⟩,h5,h6⟩;rw[e2] at hm;simp at hm;exact n1 (hm▸hb)
 | ptr=>exact h
 | fn=>exact h
 | fnr f caps=>
   obtain ⟨vs,rfl,ha⟩:=h;exact ⟨vs,rfl,ha.imp λ_ _ _ h=>h.keep hF⟩
 | rptr t cs=>exact Reads.keep h λb hb=>⟨Qdo b hb,rfl⟩
 | ept d x n i o cs=>
   obtain ⟨g,r,vs,h1,h2,h3,h4,h5⟩:=h;cases d with
   | false=>
     refine ⟨g,if x=k then [] else r,vs, ?_,h2,h3.keep hF,h4,h5⟩;by_cases hx:x=k
     . subst hx;rw[hLk,h1,uM rfl];rfl
     rw[hL x hx,uH hx];exact h1
   | true=>
     show CR (J.dem k) w v (bif zQ x k then .rptr (.vw x) cs else .ept E x n i o cs);cases hb:zQ x k with
     | false=>
       have hx:x≠k:=λe=>by subst e;simp at hb
       exact ⟨g,r,vs,by rw[hL x hx];exact h1,h2,h3.keep λb hb=>⟨Qdo (t:= .vw x) b hb,rfl⟩,h4,h5⟩
     | true=>exact ⟨g,i*n+o,vs,h2,Qdo (t:= .vw x) g (.inl (by rw[h1];exact yA)),h3.keep λb hb=>⟨Qdo (t:= .vw x) b hb,rfl⟩,h4⟩
theorem OQ (k:Y) (s:St):Weak s (s.map (Qqc k)):=λN w0 F0 J a w h=>by
 have hsub:∀x b,b∈(J.dem k).L x->b∈J.L x:=λx b hb=>by
  have hb:b∈(if x=k then (J.L k).take 1 else J.L x):=hb;split at hb
  . rename_i hx;subst hx;exact xN hb
  exact hb
 refine ⟨J.dem k,{below:=h.below,nodef:=h.nodef,size:=h.size,fl:=λb hb=> ?_,f0:=λb hb=> .inl (h.f0 b hb),nd:=λx=> ?_,lo:=λx b hb=> ?_,dj:=λx y b hx hy=>h.dj x y b (hsub x b hx) (hsub y b hy),nb:=h.nb,cb:=h.cb,bo:=λx c hc=> ?_,bi:=λx y c c' hc hc' hB=> ?_,tm:=λt v hv=> ?_}⟩
 . rcases hb with hb | ⟨hb,_⟩
   . exact h.fl b hb
   exact ⟨(h.lo k b hb).2.1,.inr (h.lo k b hb).1⟩
 . show (if _ then _ else _:W Y).Nodup;split
   . exact (List.take_sublist 1 _).nodup (h.nd k)
   exact h.nd x
 . obtain ⟨h1,h2,h3⟩:=h.lo x b (hsub x b hb);refine ⟨h1,h2,λhF=> ?_⟩;rcases hF with hF | ⟨hm,hn⟩
   . exact h3 hF
   have hx:=h.dj x k b (hsub x b hb) hm;subst hx;exact hn (by have hb:b∈(if x=x then (J.L x).take 1 else J.L x):=hb;rw[uM rfl] at hb;exact hb)
 . simp only[St.map,Is (xT _)] at hc;obtain ⟨y,hy,rfl⟩:=zK.1 hc;obtain ⟨h1,h2,h3,arr,e,h4,h5⟩:=h.bo x y hy;refine ⟨h1,λhF=> ?_,λz hz=>h3 z (hsub z _ hz),arr,e,h4,h5.map _ λa b _ hr=>Qdp hr⟩;rcases hF with hF | ⟨hm,_⟩
   . exact h2 hF
   exact h3 k hm
 . simp only[St.map,Is (xT _)] at hc hc';obtain ⟨z,hz,rfl⟩:=zK.1 hc;obtain ⟨z',hz',rfl⟩:=zK.1 hc';exact h.bi x y z z' hz hz' hB
 simp only[St.map,Is (AV.map _)] at hv;obtain ⟨y,hy,rfl⟩:=zK.1 hv;exact AR.map _ (h.tm t y hy) λu c _ hc=>Qdp hc
def St.demotes (s:St):W Y->St
 | []=>s
 | k::r=>(s.map (Qqc k)).demotes r
theorem O9:∀(l:W Y) (s:St),Weak s (s.demotes l)
 | [],s=>Weak.refl s
 | k::r,s=>Weak.trans (OQ k s) (O9 r _)
end
end
section
open Go.RowKit
def BF:Y->W AV->W (Y×AV)
 | _, []=> []
 | i,v::r=>(i,v)::BF (i+1) r
def YB (args:W AV):St:=⟨BF 0 args, []⟩
def ID (tt:W (Y×TI)) (s:St):W ResultVar->uG (W AV)
 | []=>G []
 | .tmp t::r=>match get s.tm t,ID tt s r with
   | some v,G vs=>G (v::vs)
   | _,_=>uB
 | .cell a t::r=>match get s.tm a,get tt t,ID tt s r with
   | some (.one (.ptr k off)),G ti,G vs=>(match get s.bx k with
     | some cells=>(match Qaw ti ((cells.drop off).take ti.size) with
       | some v=>G (v::vs)
       | none=>uB)
     | none=>uB)
   | _,_,_=>uB
def Qod:AV->uG (uD×W C)
 | .one c=>G (uA, [c])
 | .agg cs=>G (E,cs)
 | .tup _=>uB
def Su:W AV->uG (W (uD×W C))
 | []=>G []
 | v::r=>match Qod v,Su r with
   | some p,G ps=>G (p::ps)
   | _,_=>uB
def BG:W AV->uG AV
 | [v]=>G v
 | vs=>(Su vs).map .tup
def Qkg (k:Y):W Y->Y
 | []=>0
 | x::r=>bif zQ x k then 0 else Qkg k r+1
def Qq9 (ks:W Y):C->C
 | .slc (.own b k) n l=> .slc (.own b (Qkg k ks)) n l
 | c=>c
def Qlv:C->uD
 | .int _ _=>E
 | .bool _=>E
 | .str _=>E
 | .slc .sh _ _=>E
 | .slc .emp _ _=>E
 | .slc (.own _ _) _ _=>E
 | _=>uA
def Lw (tt:W (Y×TI)) (rs:W ResultVar) (s:St):uG AV:=
 match ID tt s rs with
 | some vs=>(match BG vs with
   | some v=>bif H3 Qlv v.cells&&Ae (Qv v.cells) then G (v.map (Qq9 (Qv v.cells))) else uB
   | none=>uB)
 | none=>uB
def Qcv (tt:W (Y×TI)) (rs:W ResultVar) (r:AV):Exit->St->Prop
 | .normal,s=>∃frz,Lw tt rs (s.map (Wn (X5 frz) uB))=G r
 | .ret,s=>∃frz,Lw tt rs (s.map (Wn (X5 frz) uB))=G r
 | _,_=>False
theorem G9 {tt:W (Y×TI)} {rs:W ResultVar} {r b:AV} {s:St} (frz:W Y) (h:Lw tt rs (s.map (Wn (X5 frz) uB))=G b) (e:b=r):Qcv tt rs r .ret s:=⟨frz,e▸h⟩
def VZ (tmps:uN uF):ResultVar->Sem uF
 | .tmp t=>pure (tmps.getD t undef)
 | .cell a t=>do loadVar t (←asAddr (tmps.getD a undef))
theorem YC (fn:Func) (tmps:uN uF):results fn tmps=(do
 let vs←fn.results.mapM (VZ tmps)
 pure (if h:vs.size=1 then vs[0] else .tuple vs)):=by
 unfold results
 congr 2
def OS (J:Inj) (ks:W Y) (i:Y):W Y:=match ks[i]? with
 | some k=>J.L k
 | none=> []
theorem Na {J:Inj} {ks:W Y} {i b:Y} (h:b∈OS J ks i):∃k,ks[i]? =G k/\b∈J.L k:=by
 unfold OS at h;split at h
 . rename_i k hk;exact ⟨k,hk,h⟩
 simp at h
section
variable {P:uJ} {N:Y} {w0:Base} {F0:Y->Prop} {J:Inj} {a:Act} {w:uC} {s:St}
theorem Pa:∀{args:W AV} {i t:Y} {v:AV},get (BF i args) t=G v->i<=t/\args[t-i]? =G v
 | [],i,t,v,h=>by simp[BF,get] at h
 | x::r,i,t,v,h=>by
   simp only[BF,get] at h;split at h
   . rename_i e;subst e;exact ⟨zU _,by simpa using h⟩
   rename_i hne;obtain ⟨h1,h2⟩:=Pa h;refine ⟨by omega, ?_⟩;obtain ⟨j,hj⟩:∃j,t-i=j+1:=⟨t-i-1,by omega⟩;rw[hj,xF,show j=t-(i+1) by omega];exact h2
theorem Tr {tt:W (Y×TI)} (htt:Fb P tt=E) (hrel:Rel N w0 F0 J a w s):∀{rs:W ResultVar} {vs:W AV},ID tt s rs=G vs->
 ∃us:W uF,(rs.mapM (VZ a.tmps)).run P w= .ok us w/\All2 (AR J w) us vs
 | [],vs,h=>by
   obtain rfl: []=vs:=by simpa [ID] using h
   exact ⟨[],by simp,.nil⟩
 | .tmp t::r,vs,h=>by
   simp only[ID] at h;split at h
   . rename_i v vs' e1 e2;obtain rfl:=zD h;obtain ⟨us,h1,h2⟩:=Tr htt hrel e2;exact ⟨a.tmps.getD t undef::us,by simp[List.mapM_cons,VZ,h1],.cons (hrel.tm t v e1) h2⟩
   cases h
 | .cell x t::r,vs,h=>by
   simp only[ID] at h;split at h
   . rename_i k off ti vs' e1 e2 e3;split at h
     . rename_i cells hk;split at h
       . rename_i v hval;obtain rfl:=zD h;obtain ⟨us,h1,h2⟩:=Tr htt hrel e3;have hx:a.tmps.getD x undef= .pointer (G ⟨J.B k,off,uB⟩):=hrel.tm x _ e1;obtain ⟨_,_,_,arr,e,hheap,hall⟩:=hrel.bo k cells hk
         have hc:∀(j:Y) (u:uF),((arr.toList.drop off).take ti.size)[j]? =G u->w.cell? ⟨J.B k,off+j,uB⟩=G u:=by
          have:=D8 (k:=ti.size) (Ce (w:=w) (vs:=arr.toList) (b:=J.B k) (off:=0) (k:=off) (λj u hj=>by
           rw[xM] at hj;simp[World.cell?,hheap,hj]))
          simpa using this
         obtain ⟨u,hu,hr⟩:=JZ (P:=P) (Z8 htt e2) ((hall.drop off).take ti.size) hval hc;exact ⟨u::us,by simp[List.mapM_cons,VZ,hx,asAddr,hu,h1],.cons hr h2⟩
       cases h
     cases h
   cases h
theorem DQ:∀{vs:W AV} {ps:W (uD×W C)} {us:W uF},Su vs=G ps->All2 (AR J w) us vs->All2 (VA J w) us ps
 | [],ps,us,h,hu=>by
   obtain rfl: []=ps:=by simpa [Su] using h
   cases hu
   exact .nil
 | v :: r,ps,us,h,hu=>by
   simp only[Su] at h;split at h
   . rename_i p ps' e1 e2;obtain rfl:=zD h;cases hu with
     | cons h1 h2=>
       refine .cons ?_ (DQ e2 h2);cases v with
       | one c=>obtain rfl:=zD e1;exact ⟨c,rfl,h1⟩
       | agg cs=>obtain rfl:=zD e1;exact h1
       | tup l=>cases e1
   cases h
theorem Ts:∀{ks:W Y} {k:Y},k∈ks->ks[Qkg k ks]? =G k
 | [],k,h=>by simp at h
 | x::r,k,h=>by
   simp only[Qkg];by_cases hx:x=k
   . subst hx;simp
   rw[BC hx];simp only[uT,xF];exact Ts ((zM.1 h).resolve_left λe=>hx e.symm)
theorem SK {w':uC} {tt:W (Y×TI)} (htt:Fb P tt=E) {fn:Func} {r:AV} (hrel:Rel N ⟨w,λ_=>False,uB⟩ F0 J a w' s) (h:Lw tt fn.results.toList s=G r):∃v,(results fn a.tmps).run P w'= .ok v w'/\Qhs F0 w r (.returned v) w':=by
 unfold Lw at h;split at h
 . rename_i vs hvs;split at h
   . rename_i x hx;cases hc:(H3 Qlv x.cells&&Ae (Qv x.cells)) with
     | false=>rw[hc] at h;cases h
     | true =>
       rw[hc] at h;obtain rfl:=zD h;simp only[zH] at hc;obtain ⟨hok,hnd⟩:=hc;have hnd:=Cg.1 hnd;obtain ⟨us,hrun,hall⟩:=Tr (P:=P) htt hrel hvs
       have hres:∃v,(results fn a.tmps).run P w'= .ok v w'/\AR J w' v x:=by
        have hm:(fn.results.mapM (VZ a.tmps)).run P w'= .ok us.toArray w':=by
         rw[xC];simp[hrun]
        have hgen:(results fn a.tmps).run P w'= .ok (if h:us.toArray.size=1 then us.toArray[0] else .tuple us.toArray) w':=by
         rw[YC];simp only[Sem.run_bind,hm,Result.andThen_ok,Sem.run_pure]
        cases hall with
        | nil=>
          obtain rfl:AV.tup []=x:=by simpa [BG,Su] using hx
          exact ⟨.tuple #[],by rw[hgen];simp, [],rfl,.nil⟩
        | cons h1 h2=>
          cases h2 with
          | nil=>
            obtain rfl:=zD hx;exact ⟨_,by rw[hgen];simp,h1⟩
          | cons h2 h3=>
            obtain ⟨ps,hps,rfl⟩:=zK.1 hx;exact ⟨_,by rw[hgen];simp,_,rfl,DQ hps (.cons h1 (.cons h2 h3))⟩
       obtain ⟨v,hv,hvr⟩:=hres;refine ⟨v,hv,v,OS J (Qv x.cells),rfl,hrel.below.below (λ_ h=>h),λi=> ?_,λi b hb=> ?_,λi i' b hb hb'=> ?_, ?_⟩
       . unfold OS;split
         . exact hrel.nd _
         simp
       . obtain ⟨k,_,hm⟩:=Na hb;exact ⟨(hrel.lo k b hm).1.elim id False.elim,(hrel.lo k b hm).2.1⟩
       . obtain ⟨k,hk,hm⟩:=Na hb;obtain ⟨k',hk',hm'⟩:=Na hb';have:=hrel.dj k k' b hm hm';subst this;obtain ⟨l1,e1⟩:=zF.1 hk;obtain ⟨l2,e2⟩:=zF.1 hk';rcases xD i i' with hlt | he | hlt
         . exact absurd (e1.trans e2.symm) (yC.1 hnd i i' l1 l2 hlt)
         . exact he
         exact absurd (e2.trans e1.symm) (yC.1 hnd i' i l2 l1 hlt)
       refine AR.map _ hvr λu c hcm hcr=> ?_
       have hF:∀b,J.F b->(F0 b\/(w.heap.size<=b/\b<w'.heap.size/\∀i,b∉OS J (Qv x.cells) i)):=λb hb=>by
        obtain ⟨h1,h2⟩:=hrel.fl b hb;refine h2.imp id λh2=>⟨h2.elim id False.elim,h1,λi hm=> ?_⟩
        obtain ⟨k,_,hm⟩:=Na hm;exact (hrel.lo k b hm).2.2 hb
       have hfo:=Hf hok c hcm;cases c with
       | int | bool | str | raw=>exact hcr
       | slc t n l=>
         cases t with
         | emp=>exact hcr
         | sh=>exact VV.keep (λb hb=>⟨hF b hb,rfl⟩) hcr
         | vw k=>cases hfo
         | put=>exact hcr.elim
         | own b k=>
           cases b with
           | false=>
             show OwnTop _ (OS J (Qv x.cells) (Qkg k (Qv x.cells))) w' u _ _;unfold OS;rw[Ts (M7 hcm rfl)];exact OwnTop.keep (F:=J.F) hcr (λb hb=>⟨hF b hb,rfl⟩) λ_ _=>rfl
           | true=>
             show OwnDeep (OS J (Qv x.cells) (Qkg k (Qv x.cells))) w' u _ _;unfold OS;rw[Ts (M7 hcm rfl)];exact hcr
       | _=>cases hfo
   cases h
 cases h
theorem Tt {tt:W (Y×TI)} (htt:Fb P tt=E) {f:Y} {fn:Func} {c:uI} (hf:P.funcs[f]? =G fn) (hb:fn.body=G c) (hok:F9 P f) {args:W AV} {r:AV} (hn:args.length<=fn.ntmps)
 (h:∀w0 F0,GoodAt P w0->AWP P fn.ntmps w0 F0 c (Qcv tt fn.results.toList r) (YB args)):ACalls P f args r:=by
 refine ⟨hok,λw hg F vals hF hall=>calls_of_wp hf hb ?_⟩;have hlen:=hall.length;refine wp_mono (h ⟨w,λ_=>False,uB⟩ F (.of hg) (GE F) _ w ?_) ?_
 . refine {below:=Base.Keeps.refl _,nodef:=rfl,size:= ?_,fl:=λb hb=>⟨hF b hb,.inl hb⟩,f0:=λb hb=>hb,nd:=λk=>by simp[GE],lo:=λk b hb=>by simp[GE] at hb,dj:=λk k' b hb=>by simp[GE] at hb,bo:=λk c hc=>by simp[YB,get] at hc,nb:= .inl rfl,cb:=(λb hb=>by cases hb),bi:=λk k' c c' hc=>by simp[YB,get] at hc,tm:=λt v hv=> ?_}
   . simp;omega
   obtain ⟨_,ht⟩:=Pa hv;obtain ⟨u,hu,hr⟩:=hall.get' ht;have hlt:t<vals.length:=(zF.1 hu).1
   have:(vals.toArray++xJ (fn.ntmps-vals.toArray.size) undef).getD t undef=u:=by
    rw[zN,yH (by simpa using hlt)];simp at hu⊢;rw[hu];rfl
   rw[this];exact hr
 rintro e a' w' ⟨J',s',hR,hq⟩
 cases e with
 | normal=>
   obtain ⟨frz,hq⟩:=hq;obtain ⟨J'',hR⟩:=Bj frz rfl _ _ _ _ _ _ hR;obtain ⟨v,h1,h2⟩:=SK (P:=P) htt (fn:=fn) hR hq;exact ⟨hR.nodef,v,h1,h2⟩
 | ret=>
   obtain ⟨frz,hq⟩:=hq;obtain ⟨J'',hR⟩:=Bj frz rfl _ _ _ _ _ _ hR;obtain ⟨v,h1,h2⟩:=SK (P:=P) htt (fn:=fn) hR hq;exact ⟨hR.nodef,v,h1,h2⟩
 | _=>exact hq.elim
end
end
section
open Go.RowKit
open GoD (rd own)
class GoE (α:Type) extends GoD α where
 enc:α->W PV
 enc_len:∀a,(enc a).length=GoD.n α
 no_any:∀{a:α} {p:PV},p∈enc a->p≠ .any
 n_pos:0<GoD.n α
 /-- no list in it is longer than what any append makes -/
 wide:α->Prop
 wide_size:∀{a:α},GoD.size a<=1073741824->wide a
 vc_wide:∀{X:Y->Prop} {w:uC} {cs:W uF} {a:α},VC X w cs (enc a)->wide a
 rd_vc:∀{w:uC} {cs:W uF} {a:α},rd w cs a->wide a->VC (λb=>b<w.heap.size) w cs (enc a)
 vc_rd:∀{X:Y->Prop} {w:uC} {cs:W uF} {a:α},VC X w cs (enc a)->rd w cs a
 own_oc:∀{L:W Y} {w:uC} {cs:W uF} {a:α},own L w cs a->wide a->OC w L cs (enc a)
 oc_own:∀{L:W Y} {w:uC} {cs:W uF} {a:α},OC w L cs (enc a)->L.Nodup->own L w cs a
open GoE (enc wide)
instance instGoEInt:GoE H where
 enc a:= [.int .i64 a]
 no_any h:=by rw[zS.1 h];simp
 enc_len _:=rfl
 n_pos:=yG
 wide _:=True
 wide_size _:=trivial
 vc_wide _:=trivial
 rd_vc h _:=by obtain ⟨rfl,h⟩:=h;exact .cons (.int ((So _).2 h)) .nil
 vc_rd h:=by
  cases h with
  | cons h1 h2=>cases h2;cases h1;exact ⟨rfl,(So _).1 ‹_›⟩
 own_oc h _:=by obtain ⟨rfl,rfl,h⟩:=h;exact OC.cons (L1:= []) (L2:= []) (.int ((So _).2 h)) .nil
 oc_own h _:=by
  cases h with
  | cons h1 h2=>cases h2;cases h1;exact ⟨rfl,rfl,(So _).1 ‹_›⟩
instance instGoEBool:GoE uD where
 enc a:= [.bool a]
 no_any h:=by rw[zS.1 h];simp
 enc_len _:=rfl
 n_pos:=yG
 wide _:=True
 wide_size _:=trivial
 vc_wide _:=trivial
 rd_vc h _:=by rw[show _=_ from h];exact .cons (.bool _) .nil
 vc_rd h:=by
  cases h with
  | cons h1 h2=>cases h2;cases h1;rfl
 own_oc h _:=by obtain ⟨rfl,rfl⟩:=h;exact OC.cons (L1:= []) (L2:= []) (.bool _) .nil
 oc_own h _:=by
  cases h with
  | cons h1 h2=>cases h2;cases h1;exact ⟨rfl,rfl⟩
instance instGoEStr:GoE uE where
 enc a:= [.str a]
 no_any h:=by rw[zS.1 h];simp
 enc_len _:=rfl
 n_pos:=yG
 wide _:=True
 wide_size _:=trivial
 vc_wide _:=trivial
 rd_vc h _:=by obtain ⟨rfl,h⟩:=h;exact .cons (.str h) .nil
 vc_rd h:=by
  cases h with
  | cons h1 h2=>cases h2;cases h1;exact ⟨rfl,‹_›⟩
 own_oc h _:=by obtain ⟨rfl,rfl,h⟩:=h;exact OC.cons (L1:= []) (L2:= []) (.str h) .nil
 oc_own h _:=by
  cases h with
  | cons h1 h2=>cases h2;cases h1;exact ⟨rfl,rfl,‹_›⟩
theorem VC.split {X:Y->Prop} {w:uC}:∀{ps ps':W PV} {vs:W uF},VC X w vs (ps++ps')->∃vs1 vs2,vs=vs1++vs2/\VC X w vs1 ps/\VC X w vs2 ps'
 | [],ps',vs,h=>⟨[],vs,rfl,.nil,h⟩
 | p ::ps,ps',vs,h=>by
   generalize hq:p::ps++ps'=q at h;cases h with
   | nil=>cases hq
   | cons h1 h2=>
     cases hq
     obtain ⟨vs1,vs2,rfl,h3,h4⟩:=VC.split h2;exact ⟨_,vs2,rfl,.cons h1 h3,h4⟩
instance instGoEProd {α β:Type} [GoE α] [GoE β]:GoE (α×β) where
 enc p:=enc p.1++enc p.2
 no_any h:=(zW.1 h).elim GoE.no_any GoE.no_any
 enc_len p:=by rw[yP,GoE.enc_len,GoE.enc_len];rfl
 n_pos:=yQ (GoE.n_pos (α:=α)) (yU _ _)
 wide p:=wide p.1/\wide p.2
 wide_size h:=⟨GoE.wide_size (zY (yU _ _) h),GoE.wide_size (zY (Nat.le_add_left _ _) h)⟩
 vc_wide h:=by
  obtain ⟨c1,c2,rfl,h1,h2⟩:=VC.split h;exact ⟨GoE.vc_wide h1,GoE.vc_wide h2⟩
 rd_vc h hw:=by
  obtain ⟨c1,c2,rfl,h1,h2⟩:=h;exact VC.append (GoE.rd_vc h2 hw.2) (GoE.rd_vc h1 hw.1)
 vc_rd h:=by
  obtain ⟨c1,c2,rfl,h1,h2⟩:=VC.split h;exact ⟨c1,c2,rfl,GoE.vc_rd h1,GoE.vc_rd h2⟩
 own_oc h hw:=by
  obtain ⟨_,c1,c2,L1,L2,rfl,rfl,h1,h2⟩:=h;exact OC.append (GoE.own_oc h2 hw.2) (GoE.own_oc h1 hw.1)
 oc_own h hn:=by
  obtain ⟨L1,L2,c1,c2,rfl,rfl,h1,h2⟩:=OC.split h;obtain ⟨n1,n2,_⟩:=List.nodup_append.1 hn;exact ⟨hn,c1,c2,L1,L2,rfl,rfl,GoE.oc_own h1 n1,GoE.oc_own h2 n2⟩
def eL {α:Type} [GoE α] (l:W α):W (W PV):=l.map enc
section
variable {α:Type} [GoE α]
theorem WA (a:α) (l:W α):eL (a::l)=enc a::eL l:=rfl
theorem Qdq (l m:W α):eL (l++m)=eL l++eL m:=by simp[eL]
theorem Yr (l:W α):(eL l).length=l.length:=by simp[eL]
theorem Qdr (l:W α) (k:Y):(eL l).take k=eL (l.take k):=by simp[eL]
theorem Qds (l:W α) (k:Y):(eL l).drop k=eL (l.drop k):=by simp[eL]
theorem Qdt {l:W α} {i:Y} {a:α} (h:l[i]? =G a):(eL l)[i]? =G (enc a):=by simp[eL,h]
theorem Qdu {w:uC} {X:Y->Prop} {b off:Y}:∀(l:W α),(∀i a,l[i]? =G a->∃ce:W uF,ce.length=GoD.n α/\(∀j v,ce[j]? =G v->w.cell? ⟨b,off+i*GoD.n α+j,uB⟩=G v)/\VC X w ce (enc a))->
 ∃cs,(∀(j:Y) (u:uF),cs[j]? =G u->w.cell? ⟨b,off+j,uB⟩=G u)/\VR X w (GoD.n α) cs (eL l)
 | [],_=>⟨[],by simp,.nil _⟩
 | a ::l,h=>by
   obtain ⟨ce,h1,h2,h3⟩:=h 0 a rfl
   obtain ⟨cs,h4,h5⟩:=Qdu (b:=b) (off:=off+GoD.n α) l λi x hx=>by
    obtain ⟨c,k1,k2,k3⟩:=h (i+1) x (by simpa using hx);refine ⟨c,k1,λj v hj=> ?_,k3⟩;have:=k2 j v hj;rw[zX,yF] at this;rw[show off+GoD.n α+i*GoD.n α+j=off+(i*GoD.n α+GoD.n α)+j by omega];exact this
   refine ⟨ce++cs,λj u hj=> ?_,.cons h3 (GoE.enc_len a) h5⟩;rcases xU j ce.length with hlt | hge
   . rw[yM hlt] at hj;have:=h2 j u hj;simpa using this
   rw[yI hge] at hj;have:=h4 _ u hj;rw[show off+GoD.n α+(j-ce.length)=off+j by omega] at this;exact this
theorem SL {w:uC}:∀(l:W α) (Ls:W (W Y)) (cs:W uF),(∀a,a∈l->wide a)->Ls.length=l.length->cs.length=l.length*GoD.n α->(∀i Li a,Ls[i]? =G Li->l[i]? =G a->own Li w ((cs.drop (i*GoD.n α)).take (GoD.n α)) a)->OR w (GoD.n α) Ls.flatten cs (eL l)
 | [],Ls,cs,_,h1,h2,_=>by
   obtain rfl:Ls= []:=zO h1;obtain rfl:cs= []:=zO (by simpa using h2);exact .nil _
 | a::l, [],cs,_,h1,_,_=>by simp at h1
 | a ::l,Li::Ls,cs,hw,h1,h2,h=>by
   have h0:=h 0 Li a rfl rfl;rw[Nat.zero_mul,List.drop_zero] at h0
   have hr:=SL l Ls (cs.drop (GoD.n α)) (λx hx=>hw x (zT _ hx)) (by simpa using h1) (by rw[List.length_drop,h2,xE,zX,yF];omega) λi Lj x hi hx=>by
    have:=h (i+1) Lj x (by simpa using hi) (by simpa using hx);rw[zX,yF,Nat.add_comm,←yY] at this;exact this
   rw[←List.take_append_drop (GoD.n α) cs];exact .cons (GoE.own_oc h0 (hw a yA)) (GoE.enc_len a) hr
theorem SM {w:uC}:∀(l:W α) (L:W Y) (cs:W uF),OR w (GoD.n α) L cs (eL l)->L.Nodup->∃Ls:W (W Y),L=Ls.flatten/\Ls.length=l.length/\∀i Li a,Ls[i]? =G Li->l[i]? =G a->own Li w ((cs.drop (i*GoD.n α)).take (GoD.n α)) a
 | [],L,cs,h,_=>by cases h;exact ⟨[],rfl,rfl,by simp⟩
 | a :: l,L,cs,h,hn=>by
   cases h with
   | @cons _ L1 L2 ce cs' _ _ h1 h2 h3=>
     obtain ⟨n1,n2,_⟩:=List.nodup_append.1 hn;obtain ⟨Ls,rfl,e2,e3⟩:=SM l L2 cs' h3 n2;have hce:ce.length=GoD.n α:=by rw[h1.length,GoE.enc_len]
     refine ⟨L1::Ls,rfl,by simp[e2],λi Li x hi hx=> ?_⟩;cases i with
     | zero=>
       simp at hi hx;subst hi hx;rw[Nat.zero_mul,List.drop_zero,←hce,List.take_left];exact GoE.oc_own h1 n1
     | succ i=>
       have:=e3 i Li x (by simpa using hi) (by simpa using hx);rw[zX,yF,Nat.add_comm,←yY,←hce,List.drop_left,hce];exact this
def Qh6 (l:W α):Prop:=l.length<=1073741824/\∀a,a∈l->wide a
theorem Qoe {w:uC} {v:uF} {l:W α} (h:rdS w [v] l) (hw:Qh6 l):VV (λb=>b<w.heap.size) w v (.slc (GoD.n α) (eL l)):=by
 obtain ⟨oa,cap,e,hl,hm,hel⟩:=h;obtain rfl:v=_:=by simpa using e
 cases hlc:l with
 | nil=>exact .emp oa _ hm
 | cons a l'=>
   obtain ⟨b,off,ce0,hoa,hc0,hcell,hrd0⟩:=hel 0 a (by rw[hlc];rfl);subst hoa
   obtain ⟨cs,h1,h2⟩:=Qdu (X:=λb=>b<w.heap.size) (w:=w) (b:=b) (off:=off) l λi x hx=>by
    obtain ⟨b',off',ce,e',k1,k2,k3⟩:=hel i x hx;obtain ⟨rfl,rfl⟩:b=b'/\off=off':=by simpa using e'
    exact ⟨ce,k1,k2,GoE.rd_vc k3 (hw.2 x (yJ hx))⟩
   rw[←hlc,←Yr (l:=l)];refine .slc ?_ h1 h2 (by rw[Yr];exact hl) ⟨hm,by rw[Yr];exact hw.1⟩;have hnp:=GoE.n_pos (α:=α);have:=hcell 0 ce0[0] (zL (by omega));exact World.block_lt_of_cell? _ _ this
theorem Qkh {X:Y->Prop} {w:uC} {v:uF} {l:W α} (h:VV X w v (.slc (GoD.n α) (eL l))):rdS w [v] l:=by
 generalize hp:PV.slc (GoD.n α) (eL l)=p at h;cases h with
 | int | bool | str | any | raw=>cases hp
 | @emp oa cap n hcap=>
   simp only[PV.slc.injEq] at hp
   have:l= []:=by
    cases l with
    | nil=>rfl
    | cons a l=>simp[eL] at hp
   subst this;exact ⟨oa,cap,rfl,yK _,hcap,by simp⟩
 | @slc b off cap n cs l' hb hc hr h1 h2=>
   simp only[PV.slc.injEq] at hp;obtain ⟨rfl,rfl⟩:=hp;refine ⟨_,cap,by rw[Yr],by simpa [Yr] using h1,h2.1,λi a hi=>⟨b,off,(cs.drop (i*GoD.n α)).take (GoD.n α),rfl, ?_, ?_, ?_⟩⟩
   . exact (hr.get (Qdt hi)).1.length.trans (GoE.enc_len a)
   . exact D8 (Ce hc)
   exact GoE.vc_rd (hr.get (Qdt hi)).1
theorem Qdv {L:W Y} {w:uC} {v:uF} {l:W α} (h:Qn2 L w [v] l) (hw:Qh6 l):OV w L v (.slc (GoD.n α) (eL l)):=by
 obtain ⟨hnd,⟨rfl,rfl,oa,e⟩ | ⟨g,cap,cur,e,Ls,hv,hg,hl,hm,hs,rfl,hLs,hel⟩⟩:=h
 . obtain rfl:v=_:=by simpa using e
   exact .emp oa _
 obtain rfl:v=_:=by simpa using hv
 rw[←Yr (l:=l)];refine .slc hg hs ?_ (by simpa [Yr] using hl) ⟨hm,by rw[Yr];exact hw.1⟩;have hroom:l.length*GoD.n α<=cur.size:=by rw[hs];exact yD _ hl
 refine SL l Ls _ hw.2 hLs (by simp[Yr];omega) λi Li a hi ha=> ?_
 have hlt:i<l.length:=(zF.1 ha).1;have:=hel i Li a hi ha
 rw[xO,xP,Yr,xK (by
  have:=yD (GoD.n α) (show i+1<=l.length by omega);rw[zX,yF] at this;omega)]
 exact this
theorem Qlw {L:W Y} {w:uC} {v:uF} {l:W α} (h:OV w L v (.slc (GoD.n α) (eL l))) (hn:L.Nodup):Qn2 L w [v] l:=by
 generalize hp:PV.slc (GoD.n α) (eL l)=p at h;cases h with
 | int | bool | str | any | raw=>cases hp
 | emp oa n=>
   simp only[PV.slc.injEq] at hp
   have:l= []:=by
    cases l with
    | nil=>rfl
    | cons a l=>simp[eL] at hp
   subst this;exact ⟨by simp,.inl ⟨rfl,rfl,oa,rfl⟩⟩
 | @slc g cap n cur e L l' hg hs hr h1 h2=>
   simp only[PV.slc.injEq] at hp;obtain ⟨rfl,rfl⟩:=hp;obtain ⟨Ls,rfl,e2,e3⟩:=SM l L _ hr (List.nodup_cons.1 hn).2;refine ⟨hn,.inr ⟨g,cap,cur,e,Ls,by rw[Yr],hg,by simpa [Yr] using h1,h2.1,hs,rfl,e2,λi Li a hi ha=> ?_⟩⟩;have hlt:i<l.length:=(zF.1 ha).1;have:=e3 i Li a hi ha
   rw[xO,xP,Yr,xK (by
    have:=yD (GoD.n α) (show i+1<=l.length by omega);rw[zX,yF] at this;omega)] at this
   exact this
theorem IE {X:Y->Prop} {w:uC}:∀{l:W α} {cs:W uF},VR X w (GoD.n α) cs (eL l)->∀a,a∈l->wide a
 | [],_,_,a,ha=>by simp at ha
 | x ::l,cs,h,a,ha=>by
   cases h with
   | cons h1 h2 h3=>
     rcases zM.1 ha with rfl | ha
     . exact GoE.vc_wide h1
     exact IE h3 a ha
theorem Sv {X:Y->Prop} {w:uC} {v:uF} {l:W α} (h:VV X w v (.slc (GoD.n α) (eL l))):Qh6 l:=by
 generalize hp:PV.slc (GoD.n α) (eL l)=p at h;cases h with
 | int | bool | str | any | raw=>cases hp
 | emp oa n hcap=>
   simp only[PV.slc.injEq] at hp
   have:l= []:=by
    cases l with
    | nil=>rfl
    | cons a l=>simp[eL] at hp
   subst this;exact ⟨yK _,by simp⟩
 | @slc b off cap n cs l' hb hc hr h1 h2=>
   simp only[PV.slc.injEq] at hp;obtain ⟨rfl,rfl⟩:=hp;exact ⟨by have:=h2.2;rwa [Yr] at this,IE hr⟩
end
theorem VC.one {X:Y->Prop} {w:uC} {v:uF} {p:PV} (h:VC X w [v] [p]):VV X w v p:=by cases h;assumption
theorem OC.one {w:uC} {L:W Y} {v:uF} {p:PV} (h:OC w L [v] [p]):OV w L v p:=by
 generalize hv: [v]=vs at h;generalize hp: [p]=ps at h;cases h with
 | nil=>cases hv
 | cons h1 h2=>
   cases hv
   cases hp
   cases h2
   rw[yW];exact h1
theorem VC.one' {X:Y->Prop} {w:uC} {vs:W uF} {p:PV} (h:VC X w vs [p]):∃v,vs= [v]/\VV X w v p:=by
 cases h with
 | cons h1 h2=>cases h2;exact ⟨_,rfl,h1⟩
theorem OC.one' {w:uC} {L:W Y} {vs:W uF} {p:PV} (h:OC w L vs [p]):∃v,vs= [v]/\OV w L v p:=by
 obtain ⟨v,e⟩:∃v,vs= [v]:=by
  have:=h.length
  match vs,this with
  | [v],_=>exact ⟨v,rfl⟩
 subst e;exact ⟨v,rfl,h.one⟩
instance instGoEList {α:Type} [GoE α]:GoE (W α) where
 enc l:= [.slc (GoD.n α) (eL l)]
 no_any h:=by rw[zS.1 h];simp
 enc_len _:=rfl
 n_pos:=yG
 wide:=Qh6
 wide_size h:=⟨zY (DD _) h,λa ha=>by
  obtain ⟨i,hi⟩:=List.mem_iff_getElem?.1 ha;exact GoE.wide_size (zY (DE hi) h)⟩
 vc_wide hc:=by
  obtain ⟨v,rfl,h⟩:=VC.one' hc;exact Sv h
 rd_vc h hw:=by
  have h:rdS _ _ _:=h;obtain ⟨oa,cap,rfl,_⟩:=id h;exact .cons (Qoe h hw) .nil
 vc_rd hc:=by
  obtain ⟨v,rfl,h⟩:=VC.one' hc;exact Qkh h
 own_oc h hw:=by
  have h:Qn2 _ _ _ _:=h;obtain ⟨oa,cap,rfl,_⟩:=RW h;have:=OC.cons (Qdv h hw) .nil;rw[yW] at this;exact this
 oc_own hc hn:=by
  obtain ⟨v,rfl,h⟩:=OC.one' hc;exact Qlw h hn
def shC:PV->C:=AC .sh
def owC:Y->W PV->W C
 | _, []=> []
 | k,.slc n l::r=> .slc (.own E k) n l::owC (k+1) r
 | k,.int a b::r=> .int a b::owC k r
 | k,.bool b::r=> .bool b::owC k r
 | k,.str b::r=> .str b::owC k r
 | k,.any::r=> .dead::owC k r
 | k,.raw v::r=> .raw v::owC k r
section
variable {X:Y->Prop} {F:Y->Prop} {w w':uC} {L:Y->W Y}
theorem Qki {J:Inj}:∀{vs:W uF} {ps:W PV},VC J.F w vs ps->All2 (CR J w) vs (ps.map shC)
 | _,_,.nil=> .nil
 | _,_,.cons h1 h2=> .cons (DF (J:=J) (tok:= .sh) (X:=J.F) (λ_ _ _ h=>h) h1) (Qki h2)
theorem Qof {J:Inj}:∀{ps:W PV} {vs:W uF},All2 (CR J w) vs (ps.map shC)->(∀p,p∈ps->p≠ .any)->VC J.F w vs ps
 | [],vs,h,_=>by cases h;exact .nil
 | p ::ps,vs,h,hz=>by
   cases h with
   | cons h1 h2=>
     refine .cons ?_ (Qof h2 λp hp=>hz p (zT _ hp));cases p with
     | int=>obtain ⟨rfl,h⟩:=h1;exact .int h
     | bool=>obtain rfl:=h1;exact .bool _
     | str=>obtain ⟨rfl,h⟩:=h1;exact .str h
     | slc n l=>exact h1
     | any=>exact (hz _ yA rfl).elim
     | raw=>obtain ⟨rfl,h1,h2⟩:=h1;exact .raw h1 h2
end
section
variable {α:Type} [GoE α] {P:uJ}
def H9 (a:α):AV:= .agg ((enc a).map shC)
def Re (a:α):AV:= .agg (owC 0 (enc a))
def Qn0 (l:W α):AV:= .one (.slc .sh (GoD.n α) (eL l))
def GF (l:W α):AV:= .one (.slc (.own E 0) (GoD.n α) (eL l))
def Qpz (n:H):AV:= .one (.int .i64 n)
def Qog (b:uD):AV:= .one (.bool b)
theorem Qlx {w:uC} {cs:W uF} {a:α} (h:rd w cs a) (hw:wide a):AR (GE λb=>b<w.heap.size) w (.agg cs.toArray) (H9 a):=⟨cs,rfl,Qki (J:=GE λb=>b<w.heap.size) (GoE.rd_vc h hw)⟩
theorem ACalls.run {f:Y} {args:W AV} {r:AV} (h:ACalls P f args r) {w:uC} [hg:Good P w] {vals:W uF} (hv:All2 (AR (GE λb=>b<w.heap.size) w) vals args):Calls P f vals.toArray w (Qhs (λb=>b<w.heap.size) w r):=
 h.2 w hg _ vals (λ_ h=>h) hv
theorem Qh7 {w:uC} {F:Y->Prop} {b:uD} {e:Ending} {w':uC} (h:Qhs F w (Qog b) e w'):Ret w (.bool b) e w':=by
 obtain ⟨v,L,rfl,hb,_,_,_,rfl⟩:=h;exact ⟨rfl,hb⟩
end
end
section
open Go.RowKit
open GoE (enc)
section
variable {A:Y->W AV->AV->Prop} {T:TakeT}
theorem Lx {P:uJ} {w0:Base} [GoodAt P w0] {f:Y} {args:W AV} {r:AV} (h:ACalls P f args r):(Ob.call f args r).holds (Zk P w0) T:=h.at
theorem WB {P:uJ} {w0:Base} [GoodAt P w0] {f n:Y} {l:W (W PV)} {args:W AV} {mix turn:uD} {l':W (W PV)} (h:ATake P f n l args mix turn l'):(Ob.take f n l args mix turn l').holds A (Vs P w0):=h.at
theorem Iu {P:uJ} {w0:Base} [GoodAt P w0] {f:Y} {cs:W C} {args:W AV} {r:AV} {cs':W C} (h:AGive P f cs args r cs'):(Ob.give f cs args r cs').holds A (Vs P w0):=h.at
theorem SN {P:uJ} {w0:Base} [GoodAt P w0] {f:Y} {args:W AV} {r:AV} (h:AVal P f args r):(Ob.val f args r).holds A (Vs P w0):=h.at
theorem Qqd {a b:AV} (h:a=b):(Ob.eq a b).holds A T:=h
theorem Gc {lo hi:H} {n:Y} (h:0<=lo/\lo<=hi/\hi<=n):(Ob.rng lo hi n).holds A T:=h
theorem Cx {i:H} {n:Y} (h:0<=i/\i<n):(Ob.idx i n).holds A T:=h
theorem Hx {l:W (W PV)} (h:Da l):(Ob.flat l).holds A T:=h
theorem Ct {n:Y} (h:n<=1073741824):(Ob.len n).holds A T:=h
theorem Zs {n:Y} (h:n<=uU):(Ob.slen n).holds A T:=h
theorem Qly {n:H} (h:n≠0):(Ob.nz n).holds A T:=h
theorem Qdw {k:IntKind} {n:H} (h:InR k n):(Ob.inr k n).holds A T:=h
end
theorem Qn (k:Y) (h:k<9223372036854775807):IntKind.i64.wrap ((k:H)+1)=((k+1:Y):H):=by
 rw[IntWalk.i64_in _ (by omega)];rfl
theorem Xh {α:Type} {l:W α} {i:Y} (h:i<l.length):∃x,l[i]? =G x:=⟨l[i],zL h⟩
class FlatE (α:Type) [GoE α]:Prop where
 flat:∀a:α,∀p,p∈enc a->p.flat
instance:FlatE H:=⟨λa p hp=>by obtain rfl:=zS.1 hp;trivial⟩
instance:FlatE uD:=⟨λa p hp=>by obtain rfl:=zS.1 hp;trivial⟩
instance:FlatE uE:=⟨λa p hp=>by obtain rfl:=zS.1 hp;trivial⟩
instance {α β:Type} [GoE α] [GoE β] [FlatE α] [FlatE β]:FlatE (α×β):=⟨λa p hp=>(zW.1 hp).elim (FlatE.flat a.1 p) (FlatE.flat a.2 p)⟩
theorem Uh {α:Type} [GoE α] [FlatE α] (l:W α):Da (eL l):=λr hr p hp=>by
 obtain ⟨a,_,rfl⟩:=yX.1 hr;exact FlatE.flat a p hp
theorem WC {α β:Type} [GoD α] [GoD β] {p:α×β} {N:Y} (hs:GoD.size p<=N):GoD.size p.1<=N:=zY (yU _ _) hs
theorem R1 {α β:Type} [GoD α] [GoD β] {p:α×β} {N:Y} (hs:GoD.size p<=N):GoD.size p.2<=N:=zY (Nat.le_add_left _ _) hs
section
variable {P:uJ} {α β:Type} [GoE α] [GoE β]
theorem Iv {f:Y} (hok:F9 P f) {l:W α} {r:W β} (h:∀w v,GoD.rd w [v] l->GoE.wide l->Calls P f #[v] w (RetS w r)) (hw:GoE.wide l->GoE.wide r):ACalls P f [Qn0 l] (GF r):=by
 refine ⟨hok,λw _ F vals hF hall=> ?_⟩;cases hall with
 | cons h1 h2=>
   cases h2
   refine (h w _ (Qkh h1) (Sv h1)).mono ?_
   rintro e w' ⟨v,L,rfl,hb,ho,hL⟩
   have hlt:=GoD.own_lt ho
   have hmem:∀k b,b∈(if k=0 then L else [])->k=0/\b∈L:=λk b hm=>by
    by_cases hk:k=0
    . rw[uM hk] at hm;exact ⟨hk,hm⟩
    rw[uH hk] at hm;simp at hm
   refine ⟨v,λk=>if k=0 then L else [],rfl,hb,λk=> ?_,λk b hm=>⟨hL b (hmem k b hm).2,hlt b (hmem k b hm).2⟩,λk k' b hm hm'=>(hmem k b hm).1.trans (hmem k' b hm').1.symm,OwnDeep.of (Qdv ho (hw (Sv h1))) (GoD.own_nd ho)⟩;by_cases hk:k=0
   . simp only[uM hk];exact GoD.own_nd ho
   simp only[uH hk];exact List.nodup_nil
end
theorem WD {P:uJ} {N:Y} {w0:Base} {F0:Y->Prop} {Q:Exit->St->Prop} {s s':St} {c:uI} (l:W Y) (he:s.demotes l=s') (h:AWP P N w0 F0 c Q s'):AWP P N w0 F0 c Q s:=Ei (he▸O9 l s) h
theorem Ke {α:Type} [GoE α] {o:Y} {ps:W PV} {y:α}:∀{l:W α} {i:Y} {x:α},l[i]? =G x->(GoE.enc x).take o++ps++(GoE.enc x).drop (o+ps.length)=GoE.enc y->setRow (eL l) i o ps=eL (l.set i y)
 | [],i,x,h,_=>by simp at h
 | a::l,0,x,h,e=>by
   obtain rfl:a=x:=by simpa using h
   show ((GoE.enc a).take o++ps++(GoE.enc a).drop (o+ps.length))::eL l=_;rw[e];rfl
 | a::l,i+1,x,h,e=>by
   show GoE.enc a::setRow (eL l) i o ps=_;rw[Ke (l:=l) (i:=i) (x:=x) (by simpa using h) e];rfl
end
section
open Go.RowKit
def Mo:W Operand->W Y
 | []=> []
 | .tmp t::r=>t::Mo r
 | _::r=>Mo r
def DR (ops:W Oper) (o:Oper):W Y:=
 Mo o.op.operands.toList++(match o.guard with
  | some (j,_)=>(match ops[j]? with
    | some oj=>(match oj.dst with
      | some t=> [t]
      | none=> [])
    | none=> [])
  | none=> [])
def Ub:W (Y×uG Tok)->W Y
 | []=> []
 | p::r=>p.1::Ub r
def NU:W (Y×uG Tok)->W Tok
 | []=> []
 | (_,G t)::r=>t::NU r
 | _::r=>NU r
def DS:Tok->Tok->uD
 | .sh,.sh=>E
 | .emp,.emp=>E
 | .own d k,.own d' k'=>(match d,d' with
   | true,E=>E
   | false,uA=>E
   | _,_=>uA)&&zQ k k'
 | .vw k,.vw k'=>zQ k k'
 | _,_=>uA
def ZX:Tok->uD
 | .put _ _ _ _ _=>uA
 | _=>E
def Om:W (Y×uG Tok)->uD
 | []=>E
 | (_,G t)::r=>ZX t&&Om r
 | (_,uB)::r=>Om r
def WE (t:Tok):W Tok->uD
 | []=>uA
 | x::r=>DS x t|| WE t r
def Qa8 (r:Res) (c:C):uD:=
 (match c.key with
  | some k=> !(M2 k (Ub r.rl))
  | none=>E)&&(match r.kb with
  | some b=> !(M2 b c.bkeys)
  | none=>E)
def Qlz (r:Res) (c:C):uD:=
 Om r.rl&&match c with
 | .dead=>uA
 | .slc t _ _=> !(WE t (NU r.rl))
 | .rptr t _=> !(WE t (NU r.rl))
 | _=>E
def Qkj (r:Res):uD:=match r.rl,r.kb with
 | [],uB=>E
 | _,_=>uA
def Qhf (r:Res) (c:C):uD:=Qkj r|| Qlz r c
def Ly:W (Y×W C)->W C
 | []=> []
 | p::r=>p.2++Ly r
def Pb:W Tok->W Y
 | []=> []
 | t::r=>(match t.key with
   | some k=> [k]
   | none=> [])++Pb r
def Qa9 (a b:uG Y):uD:=match a,b with
 | some x,G y=> !(zQ x y)
 | _,_=>E
def Fv (a:uG Y) (l:W Y):uD:=match a with
 | some x=> !(M2 x l)
 | none=>E
def Tu (r:Res):uG Y:=match r.bx with
 | some p=>G p.1
 | none=>uB
def DT (r:Res):W C:=match r.bx with
 | some p=>p.2
 | none=> []
def Qdx (ops:W Oper) (oa:Oper) (ra:Rec) (ob:Oper) (rb:Rec):uD:=
 Qa9 oa.dst ob.dst&&Fv oa.dst (DR ops ob)&&Fv ob.dst (DR ops oa)&&
 H3 (Qhf ra.res) (Y6 rb.avs)&&H3 (Qhf ra.res) (Ly rb.bn)&&H3 (Qa8 rb.res) (Y6 ra.avs)&&H3 (Qa8 rb.res) (Ly ra.bn)&&
 H3 (Qa8 ra.res) rb.res.av.cells&&H3 (Qa8 ra.res) (DT rb.res)&&H3 (Qa8 rb.res) ra.res.av.cells&&H3 (Qa8 rb.res) (DT ra.res)&&
 Ox (Ub ra.res.rl) (Ub rb.res.rl++Pb (NU rb.res.rl))&&Ox (Ub rb.res.rl) (Pb (NU ra.res.rl))&&
 Qa9 (Tu ra.res) (Tu rb.res)&&Fv (Tu ra.res) (Oz (Y6 rb.avs))&&Fv (Tu rb.res) (Oz (Y6 ra.avs))&&Om ra.res.rl&&Om rb.res.rl
section
theorem AV.map_map (f g:C->C) (v:AV):(v.map f).map g=v.map (g ∘ f):=by
 cases v<;>simp[AV.map,Function.comp_def]
theorem AV.map_id' {f:C->C} {v:AV} (h:∀c,c∈v.cells->f c=c):v.map f=v:=by
 cases v with
 | one c=>simp[AV.map,h c (by simp[AV.cells])]
 | agg cs=>
   simp only[AV.map]
   congr 1
   exact (yE λc hc=>h c hc).trans (xI cs)
 | tup l=>
   simp only[AV.map]
   congr 1
   refine (yE λp hp=> ?_).trans (xI l);obtain ⟨a,cs⟩:=p;have:cs.map f=cs:=(yE λc hc=>h c (by simp only[AV.cells,xG];exact ⟨_,hp,hc⟩)).trans (xI cs);simp[this]
theorem AV.map_inj' {f:C->C} {v u:AV} (h:v.map f=u) (hn:∀c0 c,f c0=c->c∈u.cells->c0=c):v=u:=by
 have key:∀(l m:W C),l.map f=m->(∀c,c∈m->c∈u.cells)->l=m:=by
  intro l
  induction l with
  | nil=>intro m h _;exact h
  | cons c l ih=>
    intro m h hm;cases m with
    | nil=>cases h
    | cons d m=>
      simp only[zZ,List.cons.injEq] at h;rw[hn c d h.1 (hm d (by simp)),ih m h.2 λc hc=>hm c (by simp[hc])]
 cases v with
 | one c=>
   simp only[AV.map] at h;subst h;exact uS AV.one (hn c _ rfl (by simp[AV.cells]))
 | agg cs=>
   simp only[AV.map] at h;subst h;exact uS AV.agg (key cs _ rfl λc hc=>hc)
 | tup l=>
   simp only[AV.map] at h;subst h
   congr 1
   have :∀(ps:W (uD×W C)),(∀p,p∈ps->p∈l)->ps=ps.map λp=>(p.1,p.2.map f):=by
    intro ps
    induction ps with
    | nil=>intro _;rfl
    | cons p ps ih=>
      intro hp;obtain ⟨a,cs⟩:=p;simp only[zZ];rw[←ih λp hq=>hp p (by simp[hq])]
      congr 2
      exact key cs _ rfl λc hc=>by
       simp only[AV.cells,xG,yX];exact ⟨(a,cs.map f),⟨(a,cs),hp _ (by simp),rfl⟩,hc⟩
   exact this l λp hp=>hp
theorem D9 {rl:W (Y×uG Tok)} {k:Y}:k∉Ub rl->get rl k=uB:=by
 induction rl with
 | nil=>intro _;rfl
 | cons p r ih=>
   intro h;simp only[Ub,zM,not_or] at h;obtain ⟨a,b⟩:=p;simp only[get];rw[uH λe=>h.1 e.symm];exact ih h.2
theorem KC {rl:W (Y×uG Tok)} {k:Y} {t:Tok}:get rl k=G (G t)->t∈NU rl/\k∈Ub rl:=by
 induction rl with
 | nil=>intro h;cases h
 | cons p r ih=>
   intro h;obtain ⟨a,b⟩:=p;simp only[get] at h;split at h
   . rename_i e;obtain rfl:=zD h;exact ⟨by simp[NU],by simp[Ub,e]⟩
   obtain ⟨h1,h2⟩:=ih h;refine ⟨?_,by simp[Ub,h2]⟩;cases b<;>simp[NU,h1]
theorem IF (t:Tok) (ht:ZX t=E):DS t t=E:=by
 cases t with
 | own d k=>cases d<;>simp[DS]
 | put=>cases ht
 | _=>simp[DS]
theorem YD {t:Tok} (ht:ZX t=E):∀{l:W Tok},t∈l->WE t l=E
 | x::r,h=>by
   rcases zM.1 h with rfl | h
   . simp[WE,IF t ht]
   simp[WE,YD ht h]
theorem Pc {rl:W (Y×uG Tok)} {k:Y} {t:Tok} (hp:Om rl=E):get rl k=G (G t)->ZX t=E:=by
 induction rl with
 | nil=>intro h;cases h
 | cons p r ih=>
   intro h;obtain ⟨a,b⟩:=p
   have hr:Om r=E/\(∀t,b=G t->ZX t=E):=by
    cases b with
    | none=>exact ⟨hp,λt e=>by cases e⟩
    | some t=>simp only[Om,zH] at hp;exact ⟨hp.2,λt' e=>by cases e;exact hp.1⟩
   simp only[get] at h;split at h
   . exact hr.2 t (zD h)
   exact ih hr.1 h
theorem WF (t:Tok) (n:Y) (l:W (W PV)):KZ t n l t= .slc t n l:=by cases t<;>rfl
theorem BH (t:Tok) (cs:W PV):NW t cs t= .rptr t cs:=by cases t<;>rfl
theorem Qba {t':Tok} (h:ZX t'=E) (t:Tok) (n:Y) (l:W (W PV)):KZ t n l t'= .slc t' n l:=by cases t'<;>first | rfl | cases h
theorem Qdy {t':Tok} (h:ZX t'=E) (t:Tok) (cs:W PV):NW t cs t'= .rptr t' cs:=by cases t'<;>first | rfl | cases h
theorem BI {rl:W (Y×uG Tok)} (hp:Om rl=E) {t t':Tok} (h:G7 rl t=G t'):t'=t\/ZX t'=E:=by
 unfold G7 at h;split at h
 . exact .inl (zD h).symm
 split at h
 . exact .inl (zD h).symm
 rename_i x hg;subst h;exact .inr (Pc hp hg)
theorem YE {rl:W (Y×uG Tok)} (hp:Om rl=E) {t t':Tok} (h:G7 rl t=G t') (n:Y) (l:W (W PV)):KZ t n l t'= .slc t' n l:=by
 rcases BI hp h with rfl | h
 . exact WF _ n l
 exact Qba h t n l
theorem WG {rl:W (Y×uG Tok)} (hp:Om rl=E) {t t':Tok} (h:G7 rl t=G t') (cs:W PV):NW t cs t'= .rptr t' cs:=by
 rcases BI hp h with rfl | h
 . exact BH _ cs
 exact Qdy h t cs
theorem YF {t:Tok} {k:Y} (hk:t.key=G k):∀{l:W Tok},t∈l->k∈Pb l
 | x::r,h=>by
   simp only[Pb];rcases zM.1 h with rfl | h
   . exact zV _ (by rw[hk];simp)
   exact zR _ (YF hk h)
theorem Ea {k:Y} {l:W Y} (h:M2 k l=uA):k∉l:=λhm=>by rw[Cf.2 hm] at h;cases h
theorem BJ {b:Y}:∀{caps:W (Y×Y)},b∉caps.map (·.1)->Mm b caps=uA
 | [],_=>rfl
 | c::r,h=>by
   simp only[zZ,zM,not_or] at h;simp only[Mm,Bool.or_eq_false_iff];exact ⟨BC λe=>h.1 e.symm,BJ h.2⟩
theorem Qdz {r:Res} {c:C} (h:Qa8 r c=E):Wn r.rl r.kb c=c:=by
 simp only[Qa8,zH] at h;obtain ⟨h1,h2⟩:=h
 have hT:∀t:Tok,(match t.key with | some k=> !(M2 k (Ub r.rl)) | none=>E)=E->G7 r.rl t=G t:=by
  intro t ht;unfold G7;cases hk:t.key with
  | none=>rfl
  | some k=>
    rw[hk] at ht;simp only[zP] at ht;simp only[D9 (Ea ht)]
 cases c with
 | slc t n l=>simp only[Wn,hT t h1,WF]
 | rptr t cs=>simp only[Wn,hT t h1,BH]
 | ept d k n i o cs=>
   have hk:get r.rl k=uB:=D9 (Ea (by simpa [C.key] using h1));simp only[Wn,hk]
 | ptr k off=>
   cases hb:r.kb with
   | none=>rfl
   | some b=>
     rw[hb] at h2;simp only[zP,C.bkeys] at h2;have:=Ea h2;simp only[Wn,BC (a:=k) (b:=b) λe=>this (by simp[e]),uT]
 | fn f caps=>
   cases hb:r.kb with
   | none=>rfl
   | some b=>
     rw[hb] at h2;simp only[zP,C.bkeys] at h2;simp only[Wn,BJ (Ea h2),uT]
 | _=>rfl
theorem Qh8 {r:Res} {c0 c:C} (h:Wn r.rl r.kb c0=c) (hn:Qlz r c=E):c0=c:=by
 simp only[Qlz,zH] at hn;obtain ⟨hp,hn⟩:=hn
 have hT:∀t t':Tok,G7 r.rl t=G t'->WE t' (NU r.rl)=uA->t=t':=by
  intro t t' ht hm;unfold G7 at ht;cases hk:t.key with
  | none=>rw[hk] at ht;exact zD ht
  | some k=>
    rw[hk] at ht;simp only[] at ht;cases hg:get r.rl k with
    | none=>rw[hg] at ht;exact zD ht
    | some x=>
      rw[hg] at ht;simp only[] at ht;subst ht;rw[YD (Pc hp hg) (KC hg).1] at hm;cases hm
 cases c0 with
 | slc t n l=>
   simp only[Wn] at h;split at h
   . rename_i t' ht;rw[YE hp ht] at h;subst h;simp only[zP] at hn;rw[hT t t' ht hn]
   subst h;cases hn
 | rptr t cs=>
   simp only[Wn] at h;split at h
   . rename_i t' ht;rw[WG hp ht] at h;subst h;simp only[zP] at hn;rw[hT t t' ht hn]
   subst h;cases hn
 | ept d k n i o cs=>
   simp only[Wn] at h;split at h
   . exact h
   . rename_i t' hg;have hm:=YD (Pc hp hg) (KC hg).1;split at h
     . subst h;simp[hm] at hn
     . subst h;simp[hm] at hn
     . cases Pc hp hg
     subst h;cases hn
   subst h;cases hn
 | ptr k off=>
   simp only[Wn] at h;split at h
   . exact h
   rename_i b hb;cases hkb:zQ k b with
   | true=>rw[hkb] at h;subst h;cases hn
   | false=>rw[hkb] at h;exact h
 | fn f caps=>
   simp only[Wn] at h;split at h
   . exact h
   rename_i b hb;cases hkb:Mm b caps with
   | true=>rw[hkb] at h;subst h;cases hn
   | false=>rw[hkb] at h;exact h
 | _=>exact h
theorem YG:Wn [] uB=id:=by
 funext c
 cases c with
 | slc t n l=>cases t<;>rfl
 | rptr t cs=>cases t<;>rfl
 | _=>rfl
theorem Qd0 {r:Res} {c0 c:C} (h:Wn r.rl r.kb c0=c) (hn:Qhf r c=E):c0=c:=by
 simp only[Qhf,Bool.or_eq_true] at hn;rcases hn with hq | hn
 . have e:Wn r.rl r.kb=id:=by
    unfold Qkj at hq;split at hq
    . rename_i e1 e2;rw[e1,e2,YG]
    cases hq
   rw[e] at h;exact h
 exact Qh8 h hn
theorem Qd1 {ra rb:Res} (h1:Ox (Ub ra.rl) (Ub rb.rl++Pb (NU rb.rl))=E) (h2:Ox (Ub rb.rl) (Pb (NU ra.rl))=E) (p1:Om ra.rl=E) (p2:Om rb.rl=E) (c:C):Wn rb.rl rb.kb (Wn ra.rl ra.kb c)=Wn ra.rl ra.kb (Wn rb.rl rb.kb c):=by
 have hT :∀t:Tok,(G7 ra.rl t).bind (G7 rb.rl)=(G7 rb.rl t).bind (G7 ra.rl):=by
  have gen:∀(r r':Res),Ox (Ub r.rl) (Ub r'.rl)=E->Ox (Ub r'.rl) (Pb (NU r.rl))=E->∀(t:Tok) (k:Y) (x:uG Tok),t.key=G k->get r.rl k=G x->(G7 r.rl t).bind (G7 r'.rl)=(G7 r'.rl t).bind (G7 r.rl):=by
   intro r r' d1 d2 t k x hk hx;have hka:k∈Ub r.rl:=yN λhn=>by rw[D9 hn] at hx;cases hx
   have hkb:get r'.rl k=uB:=D9 (Ga d1 k hka);have e1:G7 r.rl t=x:=by unfold G7;rw[hk];simp only[hx]
   have e2:G7 r'.rl t=G t:=by unfold G7;rw[hk];simp only[hkb]
   rw[e1,e2];simp only[yL,e1];cases x with
   | none=>rfl
   | some t'=>
     simp only[yL];unfold G7;cases hk':t'.key with
     | none=>rfl
     | some k'=>
       have hm:=YF hk' (KC hx).1;have hn:k'∉Ub r'.rl:=λh=>Ga d2 k' h hm
       simp only[D9 hn]
  have d11:Ox (Ub ra.rl) (Ub rb.rl)=E:=by
   revert h1;generalize Ub ra.rl=l
   induction l with
   | nil=>intro _;rfl
   | cons x l ih=>
     intro h;simp only[Ox,zH,zP] at h⊢;refine ⟨?_,ih h.2⟩;cases hm:M2 x (Ub rb.rl) with
     | false=>rfl
     | true=>exact absurd (zV _ (Cf.1 hm)) (Ea h.1)
  have d12:Ox (Ub ra.rl) (Pb (NU rb.rl))=E:=by
   revert h1;generalize Ub ra.rl=l
   induction l with
   | nil=>intro _;rfl
   | cons x l ih=>
     intro h;simp only[Ox,zH,zP] at h⊢;refine ⟨?_,ih h.2⟩;cases hm:M2 x (Pb (NU rb.rl)) with
     | false=>rfl
     | true=>exact absurd (zR _ (Cf.1 hm)) (Ea h.1)
  have d21:Ox (Ub rb.rl) (Ub ra.rl)=E:=by
   have hx:∀x,x∈Ub rb.rl->x∉Ub ra.rl:=λx hb ha=>Ga d11 x ha hb
   revert hx;generalize Ub rb.rl=l
   induction l with
   | nil=>intro _;rfl
   | cons x l ih=>
     intro hx;simp only[Ox,zH,zP];refine ⟨?_,ih λy hy=>hx y (by simp[hy])⟩;cases hm:M2 x (Ub ra.rl) with
     | false=>rfl
     | true=>exact absurd (Cf.1 hm) (hx x (by simp))
  intro t;cases hk:t.key with
  | none=>
    have e1:G7 ra.rl t=G t:=by unfold G7;rw[hk]
    have e2:G7 rb.rl t=G t:=by unfold G7;rw[hk]
    rw[e1,e2];simp[e1,e2]
  | some k=>
    cases ha:get ra.rl k with
    | some x=>exact gen ra rb d11 h2 t k x hk ha
    | none=>
      cases hb:get rb.rl k with
      | some x=>exact (gen rb ra d21 d12 t k x hk hb).symm
      | none=>
        have e1:G7 ra.rl t=G t:=by unfold G7;rw[hk];simp only[ha]
        have e2:G7 rb.rl t=G t:=by unfold G7;rw[hk];simp only[hb]
        rw[e1,e2];simp[e1,e2]
 have hs:∀(x y:W (Y×uG Tok)),Om x=E->Om y=E->∀(kx ky:uG Y) (t:Tok) (n:Y) (l:W (W PV)),Wn y ky (Wn x kx (.slc t n l))=(match (G7 x t).bind (G7 y) with | some t'=> .slc t' n l | none=> .dead):=by
  intro x y px py kx ky t n l;simp only[Wn];cases hx:G7 x t with
  | none=>rfl
  | some t'=>
    simp only[YE px hx,yL];cases hy:G7 y t' with
    | none=>simp only[hy]
    | some t2=>simp only[hy,YE py hy]
 have hp:∀(x y:W (Y×uG Tok)),Om x=E->Om y=E->∀(kx ky:uG Y) (t:Tok) (cs:W PV),Wn y ky (Wn x kx (.rptr t cs))=(match (G7 x t).bind (G7 y) with | some t'=> .rptr t' cs | none=> .dead):=by
  intro x y px py kx ky t cs;simp only[Wn];cases hx:G7 x t with
  | none=>rfl
  | some t'=>
    simp only[WG px hx,yL];cases hy:G7 y t' with
    | none=>simp only[hy]
    | some t2=>simp only[hy,WG py hy]
 have he :∀(r r':Res),Om r.rl=E->(∀x,x∈Ub r'.rl->x∉Pb (NU r.rl))->∀(d:uD) (k n i o:Y) (cs:W PV),get r'.rl k=uB->Wn r'.rl r'.kb (Wn r.rl r.kb (.ept d k n i o cs))=Wn r.rl r.kb (Wn r'.rl r'.kb (.ept d k n i o cs)):=by
  intro r r' hnp dd d k n i o cs hg;have e1:Wn r'.rl r'.kb (.ept d k n i o cs)= .ept d k n i o cs:=by simp only[Wn,hg]
  rw[e1];have key:∀y,Wn r.rl r.kb (.ept d k n i o cs)=y->Wn r'.rl r'.kb y=y->Wn r'.rl r'.kb (Wn r.rl r.kb (.ept d k n i o cs))=Wn r.rl r.kb (.ept d k n i o cs):=λy h1 h2=>by rw[h1,h2]
  cases hx:get r.rl k with
  | none=>exact key _ (by simp only[Wn,hx]) e1
  | some x=>
    cases x with
    | none=>exact key .dead (by simp only[Wn,hx]) rfl
    | some t'=>
      cases t' with
      | sh=>exact key (.rptr .sh cs) (by simp only[Wn,hx]) rfl
      | vw k'=>
        have hm:=YF (t:= .vw k') rfl (KC hx).1;have hn:get r'.rl k'=uB:=D9 λh=>dd k' h hm
        exact key (.rptr (.vw k') cs) (by simp only[Wn,hx]) (by simp only[Wn,G7,Tok.key,hn,NW])
      | put=>cases Pc hnp hx
      | emp | own=>exact key .dead (by simp only[Wn,hx]) rfl
 cases c with
 | slc t n l=>rw[hs _ _ p1 p2,hs _ _ p2 p1,hT]
 | rptr t cs=>rw[hp _ _ p1 p2,hp _ _ p2 p1,hT]
 | ept d k n i o cs=>
   cases hg:get rb.rl k with
   | none=>exact he ra rb p1 (λx hx=>Ga h2 x hx) d k n i o cs hg
   | some x=>
     have hkb:k∈Ub rb.rl:=yN λhn=>by rw[D9 hn] at hg;cases hg
     have hga:get ra.rl k=uB:=D9 λha=>Ga h1 k ha (zV _ hkb)
     exact (he rb ra p2 (λx hx hm=>Ga h1 x hx (zR _ hm)) d k n i o cs hga).symm
 | ptr k off=>
   cases ra.kb with
   | none=>cases rb.kb with
     | none=>rfl
     | some y=>simp only[Wn];cases h1:zQ k y<;>simp[Wn]
   | some x=>
     cases rb.kb with
     | none=>simp only[Wn];cases h1:zQ k x<;>simp[Wn]
     | some y=>simp only[Wn];cases h1:zQ k x<;>cases h2:zQ k y<;>simp[Wn,h1,h2]
 | fn f caps=>
   cases ra.kb with
   | none=>cases rb.kb with
     | none=>rfl
     | some y=>simp only[Wn];cases h1:Mm y caps<;>simp[Wn]
   | some x=>
     cases rb.kb with
     | none=>simp only[Wn];cases h1:Mm x caps<;>simp[Wn]
     | some y=>simp only[Wn];cases h1:Mm x caps<;>cases h2:Mm y caps<;>simp[Wn,h1,h2]
 | _=>rfl
def M (r:Res) (v:AV):AV:=v.map (Wn r.rl r.kb)
def ML (r:Res) (l:W C):W C:=l.map (Wn r.rl r.kb)
theorem Lz (s:St) (dst:uG Y) (r:Res) (t:Y):get (s.step dst r).tm t=if dst=G t then G r.av else (get s.tm t).map (M r):=by
 have h:get (match r.rl,r.kb with | [],uB=>s | rl,kb=>s.map (Wn rl kb)).tm t=(get s.tm t).map (M r):=by
  unfold M;split
  . rename_i e1 e2;rw[e1,e2,YG];cases get s.tm t with
    | none=>rfl
    | some v=>rw[zJ,AV.map_id' (f:=id) λc _=>rfl]
  simp only[St.map,Is (AV.map _)]
 cases dst with
 | none=>simp only[St.step];rw[uH (by simp)];exact h
 | some d=>
   simp only[St.step,Sp,yR];split
   . rfl
   exact h
theorem Sw (s:St) (dst:uG Y) (r:Res) (k:Y):get (s.step dst r).bx k=if Tu r=G k then G (DT r) else (get s.bx k).map (ML r):=by
 have h:get (match r.rl,r.kb with | [],uB=>s | rl,kb=>s.map (Wn rl kb)).bx k=(get s.bx k).map (ML r):=by
  unfold ML;split
  . rename_i e1 e2;rw[e1,e2,YG];cases get s.bx k<;>simp
  simp only[St.map,Is (xT _)]
 unfold Tu DT;simp only[St.step];cases r.bx with
 | none=>simp only[];rw[uH (by simp)];exact h
 | some p=>
   obtain ⟨x,y⟩:=p;simp only[Sp,yR];split
   . rfl
   exact h
section
variable {tt:W (Y×TI)} {N:Y} {orc:Orc} {ops:W Oper}
structure SameLooks (ops:W Oper) (o:Oper) (s t:St):Prop where
 tm:∀x,x∈DR ops o->get s.tm x=get t.tm x
 bx:∀vs,Gb s o.op.operands.toList=G vs->∀k,k∈Oz (Y6 vs)->get s.bx k=get t.bx k
theorem BK {s t:St}:∀{xs:W Operand},(∀x,x∈Mo xs->get s.tm x=get t.tm x)->Gb s xs=Gb t xs
 | [],_=>rfl
 | x ::r,h=>by
   have h2:Gb s r=Gb t r:=BK λy hy=>h y (by cases x<;>simp[Mo,hy])
   have h1:AA s x=AA t x:=by
    cases x with
    | tmp y=>exact h y (by simp[Mo])
    | _=>rfl
   simp only[Gb,h1,h2]
theorem Pd {s t:St}:∀{ks:W Y},(∀k,k∈ks->get s.bx k=get t.bx k)->Hw s ks=Hw t ks
 | [],_=>rfl
 | k::r,h=>by simp only[Hw,h k (by simp),Pd (ks:=r) λx hx=>h x (by simp[hx])]
theorem BL {o:Oper} {s t:St} (h:SameLooks ops o s t):Ff tt N orc ops s o=Ff tt N orc ops t o:=by
 have h1:Gb s o.op.operands.toList=Gb t o.op.operands.toList:=BK λx hx=>h.tm x (zV _ hx)
 have h2:Dl ops s o=Dl ops t o:=by
  unfold Dl;cases hg:o.guard with
  | none=>rfl
  | some g=>
    obtain ⟨j,want⟩:=g;simp only[];cases hj:ops[j]? with
    | none=>rfl
    | some oj=>
      simp only[];cases hd:oj.dst with
      | none=>rfl
      | some x=>simp only[h.tm x (zR _ (by simp[hg,hj,hd]))]
 unfold Ff;rw[h2,h1];cases hv:Gb t o.op.operands.toList with
 | none=>rfl
 | some vs=>simp only[Pd (h.bx vs (h1.trans hv))]
theorem Sx {s:St} {k:Y} {cs:W C}:∀{ks:W Y},k∈ks->get s.bx k=G cs->∀c,c∈cs->c∈Ly (Hw s ks)
 | x::r,hk,hg,c,hc=>by
   simp only[Hw];rcases zM.1 hk with rfl | hk
   . rw[hg];simp[Ly,hc]
   have:=Sx hk hg c hc;split
   . simp[Ly,this]
   exact this
theorem SO {o:Oper} {s t:St} {ρ:Rec} (hg:Dl ops t o=Dl ops s o) (h:Ff tt N orc ops s o=G ρ)
 (hk:∀vs,ρ.avs=vs->Gb s o.op.operands.toList=G vs->ρ.bn=Hw s (Oz (Y6 vs))->Gb t o.op.operands.toList=G vs/\Hw t (Oz (Y6 vs))=Hw s (Oz (Y6 vs))):Ff tt N orc ops t o=G ρ:=by
 unfold Ff at h⊢;rw[hg];cases hd:ON N o.dst with
 | false=>rw[hd] at h;cases h
 | true =>
   rw[hd] at h;simp only[uR] at h⊢;split at h
   . split at h
     . rename_i vs hvs;split at h
       . rename_i r obs he;obtain rfl:=zD h;obtain ⟨h1,h2⟩:=hk vs rfl hvs rfl;simp only[h1,h2,he]
       cases h
     cases h
   . exact h
   cases h
theorem Qd2 {t t':Tok} {n:Y} {l:W (W PV)} {b:uD} (h:KZ t n l t'= .bool b):False:=by
 cases t' with
 | put d m i o cs=>
   cases t with
   | own d0 k=>
     simp only[KZ] at h;cases hb:Qcz d0 d&&zQ n m<;>rw[hb] at h<;>cases h
   | _=>cases h
 | _=>cases h
theorem Qh9 {t t':Tok} {cs:W PV} {b:uD} (h:NW t cs t'= .bool b):False:=by
 cases t' with
 | put=>cases t<;>cases h
 | _=>cases h
theorem Qd3 {rl:W (Y×uG Tok)} {kb:uG Y} {c:C} {b:uD}:Wn rl kb c= .bool b↔c= .bool b:=by
 constructor
 . intro h;cases c with
   | slc t n l=>
     simp only[Wn] at h;split at h
     . exact (Qd2 h).elim
     cases h
   | rptr t cs=>
     simp only[Wn] at h;split at h
     . exact (Qh9 h).elim
     cases h
   | ept d k n i o cs=>
     simp only[Wn] at h;split at h
     . cases h
     . split at h<;>cases h
     cases h
   | ptr k off=>
     simp only[Wn] at h;split at h
     . cases h
     rename_i x y;cases hk:zQ k y<;>rw[hk] at h<;>cases h
   | fn f caps=>
     simp only[Wn] at h;split at h
     . cases h
     rename_i x y;cases hk:Mm y caps<;>rw[hk] at h<;>cases h
   | _=>exact h
 intro h;subst h;rfl
theorem BM {o :Oper} {s:St} {dst:uG Y} {r:Res} (hd:∀x,x∈DR ops o->dst≠G x):Dl ops (s.step dst r) o=Dl ops s o:=by
 unfold Dl;cases hg:o.guard with
 | none=>rfl
 | some g =>
   obtain ⟨j,want⟩:=g;simp only[];cases hj:ops[j]? with
   | none=>rfl
   | some oj =>
     simp only[];cases hdj:oj.dst with
     | none=>rfl
     | some x =>
       have hx:dst≠G x:=hd x (zR _ (by simp[hg,hj,hdj]));simp only[Lz,uH hx];cases hv:get s.tm x with
       | none=>rfl
       | some v=>
         simp only[zJ];cases v with
         | one c=>
           simp only[M,AV.map];cases c with
           | bool b=>rfl
           | _=>
             generalize hc:Wn r.rl r.kb _=c';cases c' with
             | bool b=>exact absurd (Qd3.1 hc) (by simp)
             | _=>rfl
         | agg cs=>rfl
         | tup l=>cases l<;>rfl
theorem Qqe {r:Res} {v:AV} (h:∀c,c∈v.cells->Qa8 r c=E):M r v=v:=AV.map_id' λc hc=>Qdz (h c hc)
theorem Qqf {r:Res} {l:W C} (h:∀c,c∈l->Qa8 r c=E):ML r l=l:=(yE λc hc=>Qdz (h c hc)).trans (xI l)
theorem Qra {r:Res} {v u:AV} (h:M r v=u) (hn:∀c,c∈u.cells->Qhf r c=E):v=u:=AV.map_inj' h λ_ c hc hm=>Qd0 hc (hn c hm)
theorem Qqx {r:Res}:∀{l m:W C},ML r l=m->(∀c,c∈m->Qhf r c=E)->l=m
 | [],m,h,_=>h
 | c ::l,m,h,hn=>by
   cases m with
   | nil=>cases h
   | cons d m=>
     simp only[ML,zZ,List.cons.injEq] at h;rw[Qd0 h.1 (hn d (by simp)),Qqx (l:=l) h.2 λc hc=>hn c (by simp[hc])]
theorem Nb {a:uG Y} {l:W Y} (h:Fv a l=E):∀x,x∈l->a≠G x:=λx hx e=>by
 subst e;simp only[Fv,zP] at h;exact Ea h hx
theorem IG {o:Oper} {x:Y} (h:x∈Mo o.op.operands.toList):x∈DR ops o:=zV _ h
theorem Qia {o:Oper} {s:St} {dst:uG Y} {r:Res} {ρ:Rec} (h:Ff tt N orc ops (s.step dst r) o=G ρ) (hd:Fv dst (DR ops o)=E) (h1:H3 (Qhf r) (Y6 ρ.avs)=E) (h2:H3 (Qhf r) (Ly ρ.bn)=E) (h3:Fv (Tu r) (Oz (Y6 ρ.avs))=E):Ff tt N orc ops s o=G ρ:=by
 have hd':=Nb hd;refine SO (BM hd').symm h λvs hvs hop hbn=> ?_
 subst hvs;rw[hbn] at h2
 have hop':∀(xs:W Operand) (vs:W AV),(∀x,x∈Mo xs->dst≠G x)->(∀c,c∈Y6 vs->Qhf r c=E)->Gb (s.step dst r) xs=G vs->Gb s xs=G vs:=by
  intro xs
  induction xs with
  | nil=>intro vs _ _ h;exact h
  | cons x xs ih=>
    intro vs hx hn h;simp only[Gb] at h⊢;split at h
    . rename_i v vs' e1 e2;obtain rfl:=zD h;have hxs:=ih vs' (λy hy=>hx y (by cases x<;>simp[Mo,hy])) (λc hc=>hn c (by simp only[Y6];exact zR _ hc)) e2
      have h0:AA s x=G v:=by
       cases x with
       | tmp y=>
         have e1:get (s.step dst r).tm y=G v:=e1;rw[Lz,uH (hx y (by simp[Mo]))] at e1;obtain ⟨u,hu,hm⟩:=zK.1 e1;show get s.tm y=G v;rw[hu,Qra hm λc hc=>hn c (by simp only[Y6];exact zV _ hc)]
       | _=>exact e1
      simp only[h0,hxs]
    cases h
 have hv:=hop' _ _ (λx hx=>hd' x (IG hx)) (Hf h1) hop;refine ⟨hv, ?_⟩
 have : ∀ks:W Y,(∀k,k∈ks->Tu r≠G k)->(∀c,c∈Ly (Hw (s.step dst r) ks)->Qhf r c=E)->Hw s ks=Hw (s.step dst r) ks:=by
  intro ks
  induction ks with
  | nil=>intro _ _;rfl
  | cons k ks ih=>
    intro hk hn;have e:get (s.step dst r).bx k=(get s.bx k).map (ML r):=by rw[Sw,uH (hk k (by simp))]
    have hg:get s.bx k=get (s.step dst r).bx k:=by
     rw[e];cases hc:get s.bx k with
     | none=>rfl
     | some cs=>
       rw[hc] at e;simp only[zJ] at e⊢;exact uS G (Qqx (l:=cs) rfl λc hc'=>hn c (Sx (by simp) e c hc'))
    simp only[Hw,hg];split
    . rename_i cs hcs;rw[ih (λx hx=>hk x (by simp[hx])) λc hc=>hn c (by simp[Hw,hcs,Ly,hc])]
    rename_i hcs;exact ih (λx hx=>hk x (by simp[hx])) λc hc=>hn c (by simp[Hw,hcs,hc])
 exact this _ (Nb h3) (Hf h2)
theorem Ql0 {o:Oper} {s:St} {dst:uG Y} {r:Res} {ρ:Rec} (h:Ff tt N orc ops s o=G ρ) (hd:Fv dst (DR ops o)=E) (h1:H3 (Qa8 r) (Y6 ρ.avs)=E) (h2:H3 (Qa8 r) (Ly ρ.bn)=E) (h3:Fv (Tu r) (Oz (Y6 ρ.avs))=E):Ff tt N orc ops (s.step dst r) o=G ρ:=by
 have hd':=Nb hd;refine SO (BM hd') h λvs hvs hop hbn=> ?_
 subst hvs;rw[hbn] at h2
 have hop':∀(xs:W Operand) (vs:W AV),(∀x,x∈Mo xs->dst≠G x)->(∀c,c∈Y6 vs->Qa8 r c=E)->Gb s xs=G vs->Gb (s.step dst r) xs=G vs:=by
  intro xs
  induction xs with
  | nil=>intro vs _ _ h;exact h
  | cons x xs ih=>
    intro vs hx hn h;simp only[Gb] at h⊢;split at h
    . rename_i v vs' e1 e2;obtain rfl:=zD h;have hxs:=ih vs' (λy hy=>hx y (by cases x<;>simp[Mo,hy])) (λc hc=>hn c (by simp only[Y6];exact zR _ hc)) e2
      have h0:AA (s.step dst r) x=G v:=by
       cases x with
       | tmp y=>
         have e1:get s.tm y=G v:=e1;show get (s.step dst r).tm y=G v;rw[Lz,uH (hx y (by simp[Mo])),e1,zJ,Qqe λc hc=>hn c (by simp only[Y6];exact zV _ hc)]
       | _=>exact e1
      simp only[h0,hxs]
    cases h
 refine ⟨hop' _ _ (λx hx=>hd' x (IG hx)) (Hf h1) hop,Pd λk hk=> ?_⟩;rw[Sw,uH (Nb h3 k hk)];cases hc:get s.bx k with
 | none=>rfl
 | some cs=>rw[zJ,Qqf λc hc'=>Hf h2 c (Sx hk hc c hc')]
theorem Tv {a b:uG Y} (h:Qa9 a b=E):∀x,a=G x->b≠G x:=λx e e'=>by
 subst e;subst e';simp[Qa9] at h
theorem Ql1 {oa ob:Oper} {ra rb:Rec} {s:St} (hap:Qdx ops oa ra ob rb=E) {orca orcb:Orc} (ha:Ff tt N orca ops s oa=G ra) (hb:Ff tt N orcb ops (s.step oa.dst ra.res) ob=G rb):
 Ff tt N orcb ops s ob=G rb/\Ff tt N orca ops (s.step ob.dst rb.res) oa=G ra/\((s.step oa.dst ra.res).step ob.dst rb.res).eqv ((s.step ob.dst rb.res).step oa.dst ra.res):=by
 simp only[Qdx,zH] at hap;obtain ⟨⟨⟨⟨⟨⟨⟨⟨⟨⟨⟨⟨⟨⟨⟨⟨⟨d1,d2⟩,d3⟩,n1⟩,n2⟩,f1⟩,f2⟩,g1⟩,g2⟩,g3⟩,g4⟩,k1⟩,k2⟩,b1⟩,b2⟩,b3⟩,q1⟩,q2⟩:=hap;have hcomm:=Qd1 k1 k2 q1 q2;refine ⟨Qia hb d2 n1 n2 b2,Ql0 ha d3 f1 f2 b3,λt=> ?_,λk=> ?_⟩
 . simp only[Lz];by_cases ht:ob.dst=G t
   . rw[uM ht,uH (λe=>Tv d1 t e ht),uM ht,zJ,Qqe (Hf g1)]
   rw[uH ht,uH ht];by_cases ht':oa.dst=G t
   . rw[uM ht',uM ht',zJ,Qqe (Hf g3)]
   rw[uH ht',uH ht'];cases get s.tm t with
   | none=>rfl
   | some v=>
     simp only[zJ,M,AV.map_map]
     congr 2
     funext c
     exact hcomm c
 simp only[Sw];by_cases ht:Tu rb.res=G k
 . rw[uM ht,uH (λe=>Tv b1 k e ht),uM ht,zJ,Qqf (Hf g2)]
 rw[uH ht,uH ht];by_cases ht':Tu ra.res=G k
 . rw[uM ht',uM ht',zJ,Qqf (Hf g4)]
 rw[uH ht',uH ht'];cases get s.bx k with
 | none=>rfl
 | some l=>
   simp only[zJ,ML,List.map_map]
   congr 2
   funext c
   exact hcomm c
end
end
end
section
open Go.RowKit
abbrev Ge:=Y×Oper×Rec
def Dm (o:Oper):W Y:=(o.after.toList.filter λe=>Region.binds .any e).map (·.on)
def Qbb:W Y->W Y
 | []=> []
 | x::r=>bif M2 x r then Qbb r else x::Qbb r
def Qhg (l:W (W Y)) (i:Y):W Y:=match l[i]? with
 | some x=>x
 | none=> []
def SQ:W Oper->W (W Y)->W (W Y)
 | [],acc=>acc
 | o::r,acc=>SQ r (acc++ [Qbb (Dm o++(Dm o).flatMap λe=>Qhg acc e)])
def Qib (i:Y):W Y->uD
 | []=>E
 | x::r=>Nat.blt x i&&Qib i r
def WH:W Oper->Y->uD
 | [],_=>E
 | o::r,i=>Qib i (Dm o)&&WH r (i+1)
def Qhh (orcs:W (Y×Orc)) (i:Y) (o:Oper):uG (Y×Y):=match o.op,o.guard,o.dst,get orcs i with
 | .move (.tmp u),uB,G v,uB=>G (u,v)
 | _,_,_,_=>uB
def BN (ops:W Oper) (m:Y×Y) (z:Oper):uD:= !(M2 m.2 (DR ops z))&&Qa9 z.dst (G m.1)&&Qa9 z.dst (G m.2)
def BO (orcs:W (Y×Orc)) (ops:W Oper) (y x:Ge):uD:=match Qhh orcs y.1 y.2.1,Qhh orcs x.1 x.2.1 with
 | none,uB=>Qdx ops y.2.1 y.2.2 x.2.1 x.2.2
 | some m,_=>BN ops m x.2.1
 | none,G m=>BN ops m y.2.1
def Lm (orcs:W (Y×Orc)) (ops:W Oper) (anc:W (W Y)) (x:Ge):W Ge->uD
 | []=>E
 | y::r=>(M2 x.1 (Qhg anc y.1)|| BO orcs ops x y)&&Lm orcs ops anc x r
def L3 (orcs:W (Y×Orc)) (ops:W Oper) (anc:W (W Y)):W Ge->uD
 | []=>E
 | x::r=>Lm orcs ops anc x r&&L3 orcs ops anc r
def IH (tt:W (Y×TI)) (N:Y) (orcs:W (Y×Orc)) (ops:W Oper):W Oper->Y->St->uG (St×W Ge)
 | [],_,s=>G (s, [])
 | o ::r,i,s=>match Ff tt N (DO orcs i) ops s o with
   | some ρ=>(match IH tt N orcs ops r (i+1) (s.step o.dst ρ.res) with
     | some (s',l)=>G (s',(i,o,ρ)::l)
     | none=>uB)
   | none=>uB
def Qic:W Ge->W Ob
 | []=> []
 | x::r=>x.2.2.obs++Qic r
def Ej (tt:W (Y×TI)) (N:Y) (orcs:W (Y×Orc)) (ops:W Oper) (ts bs:W Y) (s:St):uG (St×W Ob):=
 bif WH ops 0 then
  match IH tt N orcs ops ops 0 s with
  | some (s',l)=>bif L3 orcs ops (SQ ops []) l then G (s'.keep ts bs,Qic l) else uB
  | none=>uB
 else uB
section
variable {P:uJ} {tt:W (Y×TI)} {N:Y} {orcs:W (Y×Orc)} {ops:uN Oper} {w0:Base} {F0:Y->Prop}
def Ql2 (tt:W (Y×TI)) (N:Y) (orcs:W (Y×Orc)) (ops:W Oper):W Ge->St->St->Prop
 | [],s,s'=>s.eqv s'
 | x::r,s,s'=>∃ρ:Rec,Ff tt N (DO orcs x.1) ops s x.2.1=G ρ/\(Qhh orcs x.1 x.2.1=uB->ρ=x.2.2)/\Ql2 tt N orcs ops r (s.step x.2.1.dst ρ.res) s'
theorem Qid (s:St):s.eqv s:=⟨λ_=>rfl,λ_=>rfl⟩
theorem SR {s t:St} (h:s.eqv t):t.eqv s:=⟨λx=>(h.1 x).symm,λx=>(h.2 x).symm⟩
theorem Qd4 {s t u:St} (h:s.eqv t) (h':t.eqv u):s.eqv u:=⟨λx=>(h.1 x).trans (h'.1 x),λx=>(h.2 x).trans (h'.2 x)⟩
theorem Qie {s t:St} (h:s.eqv t) (dst:uG Y) (r:Res):(s.step dst r).eqv (t.step dst r):=⟨λx=>by rw[Lz,Lz,h.1 x],λx=>by rw[Sw,Sw,h.2 x]⟩
theorem Qd5 {s t:St} (h:s.eqv t) {orc:Orc} {l:W Oper} (o:Oper):Ff tt N orc l s o=Ff tt N orc l t o:=BL ⟨λx _=>h.1 x,λ_ _ k _=>h.2 k⟩
theorem KD:∀{l:W Ge} {s t s':St},s.eqv t->Ql2 tt N orcs ops.toList l s s'->Ql2 tt N orcs ops.toList l t s'
 | [],s,t,s',h,hr=>Qd4 (SR h) hr
 | x::r,s,t,s',h,⟨ρ,h1,h2,hr⟩=>⟨ρ,(Qd5 h _).symm.trans h1,h2,KD (Qie h _ _) hr⟩
theorem Tw {i:Y} {o:Oper} {m:Y×Y} (h:Qhh orcs i o=G m):o.op= .move (.tmp m.1)/\o.guard=uB/\o.dst=G m.2/\DO orcs i= .no:=by
 unfold Qhh at h;split at h
 . rename_i u v h1 h2 h3 h4;obtain rfl:=zD h;exact ⟨h1,h2,h3,by unfold DO;rw[h4]⟩
 cases h
theorem Qd6 {l:W Oper} {i:Y} {o:Oper} {m:Y×Y} {s:St} {ρ:Rec} (h:Qhh orcs i o=G m) (hr:Ff tt N (DO orcs i) l s o=G ρ):ON N o.dst=E/\∃x,get s.tm m.1=G x/\ρ.res=⟨x, [],uB,uB⟩/\ρ.obs= []:=by
 obtain ⟨h1,h2,h3,h4⟩:=Tw h;unfold Ff at hr;cases hd:ON N o.dst with
 | false=>rw[hd] at hr;cases hr
 | true=>
   rw[hd] at hr;refine ⟨rfl, ?_⟩;have hg:Dl l s o=G E:=by unfold Dl;rw[h2]
   simp only[hg,h1,h4,Op.operands,Gb,AA,uR] at hr;cases hx:get s.tm m.1 with
   | none=>simp[hx,Gb,AA] at hr
   | some x=>
     simp[hx,Gb,AA,IB,VW,VU,Qc2] at hr;obtain rfl:=hr;exact ⟨x,rfl,rfl,rfl⟩
theorem Qkk {l:W Oper} {i:Y} {o:Oper} {m:Y×Y} {s:St} {x:AV} (h:Qhh orcs i o=G m) (hd:ON N o.dst=E) (hx:get s.tm m.1=G x):∃ρ,Ff tt N (DO orcs i) l s o=G ρ/\ρ.res=⟨x, [],uB,uB⟩:=by
 obtain ⟨h1,h2,h3,h4⟩:=Tw h;have hg:Dl l s o=G E:=by unfold Dl;rw[h2]
 unfold Ff;simp[hd,hg,h1,h4,Op.operands,Gb,AA,hx,IB,VW,VU,Qc2]
theorem Qd7 (x v:AV):M ⟨x, [],uB,uB⟩ v=v:=AV.map_id' λc _=>by rw[YG];rfl
theorem Qd8 (x:AV) (l:W C):ML ⟨x, [],uB,uB⟩ l=l:=by
 show l.map (Wn [] uB)=l;rw[YG,List.map_id]
theorem Qd9 {l:W Oper} {orc:Orc} {m:Y×Y} {z:Oper} {s:St} {x:AV} (hf:BN l m z=E) (hx:get s.tm m.1=G x) (ρ:Rec):
 Ff tt N orc l (s.step (G m.2) ⟨x, [],uB,uB⟩) z=Ff tt N orc l s z/\get (s.step z.dst ρ.res).tm m.1=G (M ρ.res x)/\((s.step (G m.2) ⟨x, [],uB,uB⟩).step z.dst ρ.res).eqv ((s.step z.dst ρ.res).step (G m.2) ⟨M ρ.res x, [],uB,uB⟩):=by
 simp only[BN,zH,zP] at hf;obtain ⟨⟨f1,f2⟩,f3⟩:=hf;have f1:=Ea f1;refine ⟨BL ⟨λy hy=> ?_,λ_ _ k _=> ?_⟩, ?_,λy=> ?_,λk=> ?_⟩
 . rw[Lz,uH (λe=>f1 (by cases e;exact hy))];cases get s.tm y with
   | none=>rfl
   | some v=>rw[zJ,Qd7]
 . rw[Sw,uH (by simp[Tu])];cases get s.bx k with
   | none=>rfl
   | some v=>simp[ML,YG]
 . rw[Lz,uH (λe=>Tv f2 _ e rfl),hx];rfl
 . simp only[Lz];by_cases h1:z.dst=G y
   . rw[uM h1,uH (λe=>Tv f3 _ h1 e),uM h1,zJ,Qd7]
   rw[uH h1,uH h1];by_cases h2:G m.2=G y
   . rw[uM h2,uM h2,zJ]
   rw[uH h2,uH h2];cases get s.tm y with
   | none=>rfl
   | some v=>simp only[zJ,Qd7]
 have hn:∀y:AV,¬Tu ⟨y, [],uB,uB⟩=G k:=λ_ e=>by cases e
 simp only[Sw];by_cases h1:Tu ρ.res=G k
 . rw[uM h1,uH (hn _),uM h1,zJ,Qd8]
 rw[uH h1,uH (hn _),uH (hn _),uH h1];cases get s.bx k with
 | none=>rfl
 | some v=>simp only[zJ,Qd8]
theorem BP {x:Ge} {post:W Ge}:∀{pre:W Ge} {s s':St},(∀y,y∈pre->BO orcs ops.toList y x=E)->Ql2 tt N orcs ops.toList (pre++x::post) s s'->Ql2 tt N orcs ops.toList (x::(pre++post)) s s'
 | [],_,_,_,h=>h
 | y :: pre,s,s',ha,h=>by
   obtain ⟨ρy,hy,hy',hr⟩:=h;obtain ⟨ρx,hx,hx',hr'⟩:=BP (λz hz=>ha z (zT _ hz)) hr;have hap:=ha y yA;unfold BO at hap;cases hmy:Qhh orcs y.1 y.2.1 with
   | some m=>
     rw[hmy] at hap;obtain ⟨hd,x0,h1,h2,_⟩:=Qd6 hmy hy;have hdst:=(Tw hmy).2.2.1;obtain ⟨e1,e2,e3⟩:=Qd9 (tt:=tt) (N:=N) (orc:=DO orcs x.1) hap h1 ρx;rw[h2,hdst] at hx hr';obtain ⟨ρm,h3,h4⟩:=Qkk (tt:=tt) (l:=ops.toList) hmy hd e2;refine ⟨ρx,e1.symm.trans hx,hx',ρm,h3,λe=>(by rw[hmy] at e;cases e), ?_⟩;rw[h4,hdst];exact KD e3 hr'
   | none=>
     rw[hmy] at hap;cases hmx:Qhh orcs x.1 x.2.1 with
     | some m=>
       rw[hmx] at hap;obtain ⟨hd,x1,h1,h2,_⟩:=Qd6 hmx hx;have hdst:=(Tw hmx).2.2.1;have hf:BN ops.toList m y.2.1=E:=hap
       have hne:y.2.1.dst≠G m.1:=λe=>by
        simp only[BN,zH] at hf;exact Tv hf.1.2 _ e rfl
       rw[Lz,uH hne] at h1;obtain ⟨x0,V,hM⟩:=zK.1 h1;obtain ⟨e1,e2,e3⟩:=Qd9 (tt:=tt) (N:=N) (orc:=DO orcs y.1) hf V ρy;obtain ⟨ρm,h3,h4⟩:=Qkk (tt:=tt) (l:=ops.toList) hmx hd V;refine ⟨ρm,h3,λe=>(by rw[hmx] at e;cases e),ρy, ?_,λ_=>hy' hmy, ?_⟩
       . rw[h4,hdst];exact e1.trans hy
       rw[h4,hdst];rw[h2,hdst,←hM] at hr';exact KD (SR e3) hr'
     | none=>
       rw[hmx] at hap;obtain rfl:=hy' hmy;obtain rfl:=hx' hmx;obtain ⟨h1,h2,h3⟩:=Ql1 hap hy hx;exact ⟨_,h1,λ_=>rfl,_,h2,λ_=>rfl,KD h3 hr'⟩
theorem WI:∀{l:W Oper} {i:Y} {s s':St} {R:W Ge},IH tt N orcs ops.toList l i s=G (s',R)->Ql2 tt N orcs ops.toList R s s'/\R.map (·.1)=List.range' i l.length/\R.map (·.2.1)=l
 | [],i,s,s',R,h=>by
   obtain ⟨rfl,rfl⟩:s=s'/\ []=R:=by simpa [IH] using h
   exact ⟨Qid s,rfl,rfl⟩
 | o :: r,i,s,s',R,h=>by
   simp only[IH] at h;split at h
   . rename_i ρ hρ;split at h
     . rename_i s'' l' hr;obtain ⟨rfl,rfl⟩:s''=s'/\(i,o,ρ)::l'=R:=by simpa using h
       obtain ⟨h1,h2,h3⟩:=WI hr;exact ⟨⟨ρ,hρ,λ_=>rfl,h1⟩,by simp[h2,List.range'_succ],by simp[h3]⟩
     cases h
   cases h
inductive Anc (ops:uN Oper):Y->Y->Prop
 | one {x q:Y} {o:Oper}:ops[q]? =G o->x∈Dm o->Anc ops x q
 | more {x e q:Y} {o:Oper}:ops[q]? =G o->e∈Dm o->Anc ops x e->Anc ops x q
theorem WJ {x:Y}:∀{l:W Y},x∈Qbb l->x∈l
 | [],h=>h
 | y ::r,h=>by
   simp only[Qbb] at h;cases hm:M2 y r with
   | true=>rw[hm] at h;exact zT _ (WJ h)
   | false=>
     rw[hm] at h;rcases zM.1 h with rfl | h
     . exact yA
     exact zT _ (WJ h)
theorem Qea:∀{l:W Oper} {acc:W (W Y)},ops.toList.drop acc.length=l->(∀q x,x∈Qhg acc q->Anc ops x q)->∀q x,x∈Qhg (SQ l acc) q->Anc ops x q
 | [],_,_,h,q,x,hx=>h q x hx
 | o ::r,acc,hl,h,q,x,hx=>by
   refine Qea (l:=r) (acc:=acc++ [Qbb (Dm o++(Dm o).flatMap λe=>Qhg acc e)]) ?_ ?_ q x hx
   . rw[yP,List.length_singleton,←yY,hl];rfl
   intro q x hx
   have ho:ops[acc.length]? =G o:=by
    have:=uS (·[0]?) hl;simpa using this
   unfold Qhg at hx;rcases xD q acc.length with hlt | he | hgt
   . rw[yM hlt] at hx;exact h q x hx
   . subst he;rw[yI (zU _),Nat.sub_self] at hx;simp only[List.getElem?_cons_zero] at hx;rcases zW.1 (WJ hx) with hx | hx
     . exact .one ho hx
     obtain ⟨e,he,hx⟩:=xG.1 hx;exact .more ho he (h e x hx)
   rw[List.getElem?_eq_none (by simp;omega)] at hx;simp at hx
theorem Qbc {listed:uN uD} (hc:∀(j:Y) (o:Oper),ops[j]? =G o->listed.getD j uA=E->∀e,e∈Dm o->listed.getD e uA=E) {x q:Y} (h:Anc ops x q):(∀o,ops[q]? =G o->∀e,e∈Dm o->listed.getD e uA=E)->listed.getD x uA=E:=by
 induction h with
 | one ho hx=>intro hq;exact hq _ ho _ hx
 | more ho he _ ih=>intro hq;exact ih λo' ho' e' he'=>hc _ o' ho' (hq _ ho _ he) e' he'
theorem II {o:Oper} {e:Y}:e∈Dm o↔∃x,x∈o.after/\Region.binds .any x=E/\x.on=e:=by
 unfold Dm;simp only[yX,List.mem_filter,Array.mem_toList_iff];exact ⟨λ⟨x,⟨h1,h2⟩,h3⟩=>⟨x,h1,h2,h3⟩,λ⟨x,h1,h2,h3⟩=>⟨x,⟨h1,h2⟩,h3⟩⟩
theorem SS {i:Y}:∀{l:W Y},Qib i l=E->∀x,x∈l->x<i
 | [],_,x,hx=>by simp at hx
 | y::r,h,x,hx=>by
   simp only[Qib,zH,Nat.blt_eq] at h;rcases zM.1 hx with rfl | hx
   . exact h.1
   exact SS h.2 x hx
theorem BQ:∀{l:W Oper} {i:Y},WH l i=E->∀(j:Y) (o:Oper),l[j]? =G o->∀e,e∈Dm o->e<i+j
 | [],_,_,j,o,h,_,_=>by simp at h
 | x::r,i,h,j,o,hj,e,he=>by
   simp only[WH,zH] at h;cases j with
   | zero=>simp at hj;subst hj;exact SS h.1 e he
   | succ j=>have:=BQ h.2 j o (by simpa using hj) e he;omega
theorem ST {anc:W (W Y)} {x y:Ge}:∀{l:W Ge},Lm orcs ops.toList anc x l=E->y∈l->M2 x.1 (Qhg anc y.1)=E\/BO orcs ops.toList x y=E
 | z::r,h,hy=>by
   simp only[Lm,zH,Bool.or_eq_true] at h;rcases zM.1 hy with rfl | hy
   . exact h.1
   exact ST h.2 hy
theorem IJ {anc:W (W Y)} {x:Ge} {post:W Ge}:∀{pre:W Ge},L3 orcs ops.toList anc (pre++x::post)=E->∀y,y∈pre->M2 y.1 (Qhg anc x.1)=E\/BO orcs ops.toList y x=E
 | [],_,y,hy=>by simp at hy
 | z::pre,h,y,hy=>by
   rw[xH] at h;simp only[L3,zH] at h;rcases zM.1 hy with rfl | hy
   . exact ST h.1 (by simp)
   exact IJ h.2 y hy
theorem Tx {anc:W (W Y)} {z x:Ge} {post:W Ge}:∀{pre:W Ge},Lm orcs ops.toList anc z (pre++x::post)=E->Lm orcs ops.toList anc z (pre++post)=E
 | [],h=>by simp only[xL,Lm,zH] at h;exact h.2
 | y::pre,h=>by
   simp only[xH,Lm,zH] at h⊢;exact ⟨h.1,Tx h.2⟩
theorem BR {anc:W (W Y)} {x:Ge} {post:W Ge}:∀{pre:W Ge},L3 orcs ops.toList anc (pre++x::post)=E->L3 orcs ops.toList anc (pre++post)=E
 | [],h=>by simp only[xL,L3,zH] at h;exact h.2
 | y::pre,h=>by
   simp only[xH,L3,zH] at h⊢;exact ⟨Tx h.1,BR h.2⟩
theorem Ql3 {l:W Ge} (h:AllOb (Zk P w0) (Vs P w0) (Qic l)):∀x,x∈l->AllOb (Zk P w0) (Vs P w0) x.2.2.obs:=by
 induction l with
 | nil=>intro x hx;simp at hx
 | cons y r ih=>
   intro x hx;obtain ⟨h1,h2⟩:=AllOb.append h;rcases zM.1 hx with rfl | hx
   . exact h1
   exact ih h2 x hx
theorem Ql4 (htt:Fb P tt=E) {Q:Exit->Act->uC->Prop} {sf:St} {anc:W (W Y)} (hanc:∀q x,x∈Qhg anc q->Anc ops x q) (hlt:∀(j:Y) (o:Oper),ops[j]? =G o->∀e,e∈Dm o->e<j) (hQ:∀J a w,Rel N w0 F0 J a w sf->Q .normal a w):
 ∀ (n:Y) (R:W Ge) (listed:uN uD) (s:St) (J:Inj) (a:Act) (w:uC),R.length=n->listed.size=ops.size->(R.map (·.1)).Pairwise (· < ·)->(∀x,x∈R->ops[x.1]? =G x.2.1)->(∀j,j<ops.size->(listed.getD j E=uA↔j∈R.map (·.1)))->
   (∀(j:Y) (o:Oper),ops[j]? =G o->listed.getD j uA=E->∀e,e∈Dm o->listed.getD e uA=E)->L3 orcs ops.toList anc R=E->(∀x,x∈R->AllOb (Zk P w0) (Vs P w0) x.2.2.obs)->Ql2 tt N orcs ops.toList R s sf->Rel N w0 F0 J a w s->wpAny P .any ops Q n listed a w:=by
 intro n
 have hget:∀(listed:uN uD) (j:Y),j<listed.size->(listed.getD j E=uA↔¬listed.getD j uA=E):=by
  intro listed j hj;simp[zN,Array.getElem?_eq_getElem hj]
 have hready:∀(R:W Ge) (listed:uN uD),listed.size=ops.size->(∀j,j<ops.size->(listed.getD j E=uA↔j∈R.map (·.1)))->∀i,i∈Region.ready .any ops listed->i∈R.map (·.1)/\∀o,ops[i]? =G o->∀e,e∈Dm o->listed.getD e uA=E:=by
  intro R listed hsz hR i hi;obtain ⟨h0,o,ho,hall⟩:=mem_ready.1 hi;have hlt:i<ops.size:=(yB.1 ho).1;refine ⟨(hR i hlt).1 h0,λo' ho' e he=> ?_⟩;rw[ho] at ho';obtain rfl:=zD ho';obtain ⟨x,h1,h2,rfl⟩:=II.1 he;exact hall x h1 h2
 induction n with
 | zero=>
   intro R listed s J a w hn hsz _ _ hR _ _ _ hr hrel;obtain rfl:R= []:=zO hn;refine ⟨?_,hQ J a w (hrel.eqv hr)⟩;cases hrd:Region.ready .any ops listed with
   | nil=>rfl
   | cons i r=>
     have:=(hready [] listed hsz hR i (by rw[hrd];simp)).1;simp at this
 | succ n ih=>
   intro R listed s J a w hn hsz hsort hops hR hclosed hpairs hobs hr hrel;refine ⟨λhnil=> ?_,λi hi=> ?_⟩
   . exfalso;cases R with
     | nil=>simp at hn
     | cons x r=>
       have hx:=hops x (by simp);have hxl:x.1<ops.size:=(yB.1 hx).1
       have:x.1∈Region.ready .any ops listed:=by
        refine mem_ready.2 ⟨(hR x.1 hxl).2 (by simp),x.2.1,hx,λe he hb=> ?_⟩;have hel:=hlt x.1 x.2.1 hx e.on (II.2 ⟨e,he,hb,rfl⟩);refine yN λhne=> ?_
        have:=(hR e.on (by omega)).1 ((hget listed e.on (by omega)).2 hne);simp only[zZ,zM] at this;rcases this with h | h
        . omega
        have:x.1<e.on:=(yZ.1 hsort).1 e.on h;omega
       rw[hnil] at this;simp at this
   obtain ⟨hiR,hedges⟩:=hready R listed hsz hR i hi;obtain ⟨x,hx,rfl⟩:=yX.1 hiR;obtain ⟨pre,post,rfl⟩:=List.append_of_mem hx
   have hap:∀y,y∈pre->BO orcs ops.toList y x=E:=λy hy=>by
    rcases IJ hpairs y hy with h | h
    . exfalso;have hl:=Qbc hclosed (hanc _ _ (Cf.1 h)) hedges;have hyo:=hops y (by simp[hy]);have hyl:y.1<ops.size:=(yB.1 hyo).1;exact (hget listed y.1 (by omega)).1 ((hR y.1 hyl).2 (by simp only[yO,zW];exact .inl (yX.2 ⟨y,hy,rfl⟩))) hl
    exact h
   obtain ⟨ρ,hrec,hρ,hrest⟩:=BP hap hr
   have hobx:AllOb (Zk P w0) (Vs P w0) ρ.obs:=by
    cases hmv:Qhh orcs x.1 x.2.1 with
    | none=>rw[hρ hmv];exact hobs x (by simp)
    | some m=>obtain ⟨_,_,_,_,e⟩:=Qd6 hmv hrec;rw[e];trivial
   have hxo:=hops x (by simp);have hxl:x.1<ops.size:=(yB.1 hxo).1
   have hdup:x.1∉(pre++post).map (·.1):=λhm=>by
    simp only[yO,zZ,xQ,yZ] at hsort;simp only[yO,zW] at hm;rcases hm with hm | hm
    . have:=hsort.2.2 _ hm x.1 (by simp);omega
    have:=hsort.2.1.1 _ hm;omega
   refine Qdl (P:=P) htt hxo hrec hobx hrel λJ' a' w' hrel'=>ih (pre++post) _ _ J' a' w' (by simp at hn⊢;omega) (by simpa using hsz) ?_ ?_ ?_ ?_ (BR hpairs) ?_ hrest hrel'
   . simp only[yO,zZ,xQ,yZ] at hsort⊢;exact ⟨hsort.1,hsort.2.1.2,λa ha b hb=>hsort.2.2 a ha b (by simp[hb])⟩
   . intro y hy;exact hops y (by simp only[zW,zM] at hy⊢;exact hy.elim .inl λh=> .inr (.inr h))
   . intro j hj;by_cases hji:x.1=j
     . subst hji;constructor
       . intro h;simp[hsz,hj] at h
       intro h;exact absurd h hdup
     rw[getD_set_ne E hji,hR j hj];simp only[yO,zZ,zW,zM];exact ⟨λh=>h.elim .inl λh=>h.elim (λe=>absurd e.symm hji) .inr,λh=>h.elim .inl λh=> .inr (.inr h)⟩
   . intro j o ho hl e he;by_cases hji:x.1=j
     . subst hji;exact getD_set_true (hedges o ho e he)
     rw[getD_set_ne uA hji] at hl;exact getD_set_true (hclosed j o ho hl e he)
   intro y hy;exact hobs y (by simp only[zW,zM] at hy⊢;exact hy.elim .inl λh=> .inr (.inr h))
theorem KE (htt:Fb P tt=E) (hm:P.follows .mixedOrders=E) {Q:Exit->St->Prop} {s s':St} (orcs:W (Y×Orc)) (ts bs:W Y) {id:Y} {ops:uN Oper} {obs:W Ob} (h:Ej tt N orcs ops.toList ts bs s=G (s',obs))
 (hob:AllOb (Zk P w0) (Vs P w0) obs) (hQ:Q .normal s'):AWP P N w0 F0 (.region id ops E) Q s:=λJ a w hr=>by
 unfold Ej at h;cases he:WH ops.toList 0 with
 | false=>rw[he] at h;cases h
 | true =>
   rw[he] at h;simp only[uR] at h;split at h
   . rename_i s1 R h1;cases hp:L3 orcs ops.toList (SQ ops.toList []) R with
     | false=>rw[hp] at h;cases h
     | true=>
       rw[hp] at h;obtain ⟨rfl,rfl⟩:s1.keep ts bs=s'/\Qic R=obs:=by simpa using h
       obtain ⟨hruns,hidx,hop⟩:=WI h1;have hlen:R.length=ops.size:=by have:=uS List.length hop;simpa using this
       refine wp_region_any hm (Ql4 (P:=P) htt (Qea (acc:= []) (l:=ops.toList) rfl (λq x hx=>by simp[Qhg] at hx)) (λj o ho e hx=>by have:=BQ he j o (by simpa using ho) e hx;omega)
        (λJ' a' w' hR=>⟨J',_,hR.less (λt v hv=>Ll hv) (λk c hc=>Ll hc),hQ⟩) ops.size R _ s J a _ hlen (by simp) ?_ ?_ ?_ ?_ hp (Ql3 hob) hruns ?_)
       . rw[hidx];exact List.pairwise_lt_range'
       . intro x hx;obtain ⟨k,hk,rfl⟩:=xR hx
         have e1:R[k].1=k:=by
          have:=uS (·[k]?) hidx;simp only[List.getElem?_map,zL hk,zJ] at this;rw[List.getElem?_range' (by simpa [←hlen] using hk)] at this;simpa using this
         have e2:=uS (·[k]?) hop;simp only[List.getElem?_map,zL hk,zJ] at e2;rw[e1];simpa using e2.symm
       . intro j hj;rw[hidx];simp[hj,List.mem_range'_1]
       . intro j o _ hl;simp only[zN,Array.getElem?_replicate] at hl;split at hl<;>simp at hl
       refine {hr with below:= ?_,fl:=hr.fl,bo:= ?_,tm:= ?_}
       . exact hr.below.trans ⟨rfl,rfl,rfl,zU _,λ_ _=>rfl⟩
       . intro k c hk;obtain ⟨h1,h2,h3,arr,e,h4,h5⟩:=hr.bo k c hk;exact ⟨h1,h2,h3,arr,e,h4,h5.imp λv c _ hc=>hc.keep ⟨λb hb=>⟨hb,rfl⟩,λk _=>⟨rfl,λ_ _=>rfl⟩,λ_ _=>rfl⟩⟩
       intro t v hv;exact (hr.tm t v hv).keep λc _=>⟨λb hb=>⟨hb,rfl⟩,λk _=>⟨rfl,λ_ _=>rfl⟩,λ_ _=>rfl⟩
   cases h
end
open GoE (enc wide)
def nth {α:Type} [uQ α] (l:W α) (i:Y):α:=l.getD i default
theorem Cu {α:Type} [uQ α] {l:W α} {i:Y} (h:i<l.length):l[i]? =G (nth l i):=by
 simp[nth,List.getD,zL h]
theorem BS {α:Type} [uQ α] {l:W α} {i:Y} {a:α} (h:l[i]? =G a):nth l i=a:=by simp[nth,List.getD,h]
def dn (s:H):Y->H
 | 0=>s
 | k+1=>dn s k-1
theorem OT (s:H):∀k,dn s k=s-(k:H)
 | 0=>by simp[dn]
 | k+1=>by rw[dn,OT s k];omega
section
variable {α:Type} [GoE α]
theorem IK {J:Inj} {w:uC} {v:uF} {tok:Tok} {l:W α} (h:CR J w v (.slc tok (GoD.n α) (eL l))):wide l:=by
 cases tok with
 | sh=>exact Sv h
 | emp=>
   obtain ⟨h,_⟩:=h;cases l with
   | nil=>exact ⟨yK _,by simp⟩
   | cons a l=>simp[eL] at h
 | vw k=>exact Sv h
 | put=>exact h.elim
 | own d k=>
   cases d with
   | true=>exact Sv (OwnDeep.vv (X:=λ_=>True) h λ_ _=>⟨trivial,rfl⟩)
   | false=>exact Sv (OwnTop.vv (X:=λ_=>True) h (λ_ _=>⟨trivial,rfl⟩) λ_ _=>⟨trivial,rfl⟩)
theorem Rf {l:W α} {i:Y} {a:α} (h:l[i]? =G a) (hw:wide l):wide a:=hw.2 a (yJ h)
theorem Dc {l:W α} (hw:wide l):l.length<=1073741824:=hw.1
theorem Qif {β:Type} [GoE β] {p:α×β} (hw:wide p):wide p.1:=hw.1
theorem Ia {β:Type} [GoE β] {p:α×β} (hw:wide p):wide p.2:=hw.2
theorem IM {l:W α} (k:Y) (hw:wide l):wide (List.take k l):=⟨zY (by simp[Nat.min_le_right]) hw.1,λa h=>hw.2 a (xN h)⟩
theorem IN {l:W α} (k:Y) (hw:wide l):wide (List.drop k l):=⟨zY (by simp) hw.1,λa h=>hw.2 a (List.mem_of_mem_drop h)⟩
end
section
variable {P:uJ} {N:Y} {w0:Base} {F0:Y->Prop} {Q:Exit->St->Prop} {s s':St} {c:uI} {α:Type} [GoE α]
end
abbrev PV.i (n:H):PV:= .int .i64 n
abbrev PV.b (b:uD):PV:= .bool b
abbrev PV.s (x:uE):PV:= .str x
abbrev PV.h {α:Type} [GoE α] (l:W α):PV:= .slc (GoD.n α) (eL l)
abbrev C.i (n:H):C:= .int .i64 n
abbrev C.b (b:uD):C:= .bool b
abbrev C.s (x:uE):C:= .str x
abbrev C.e (n:Y):C:= .slc .emp n []
abbrev C.h {α:Type} [GoE α] (l:W α):C:= .slc .sh (GoD.n α) (eL l)
abbrev C.o {α:Type} [GoE α] (k:Y) (l:W α):C:= .slc (.own E k) (GoD.n α) (eL l)
abbrev C.q {α:Type} [GoE α] (k:Y) (l:W α):C:= .slc (.own uA k) (GoD.n α) (eL l)
abbrev C.v {α:Type} [GoE α] (k:Y) (l:W α):C:= .slc (.vw k) (GoD.n α) (eL l)
abbrev AV.i (n:H):AV:= .one (.int .i64 n)
abbrev AV.b (b:uD):AV:= .one (.bool b)
abbrev AV.s (x:uE):AV:= .one (.str x)
abbrev AV.e (n:Y):AV:= .one (.slc .emp n [])
abbrev AV.h {α:Type} [GoE α] (l:W α):AV:= .one (.slc .sh (GoD.n α) (eL l))
abbrev AV.o {α:Type} [GoE α] (k:Y) (l:W α):AV:= .one (.slc (.own E k) (GoD.n α) (eL l))
abbrev AV.q {α:Type} [GoE α] (k:Y) (l:W α):AV:= .one (.slc (.own uA k) (GoD.n α) (eL l))
abbrev AV.v {α:Type} [GoE α] (k:Y) (l:W α):AV:= .one (.slc (.vw k) (GoD.n α) (eL l))
abbrev AV.p (k o:Y):AV:= .one (.ptr k o)
abbrev AV.a (cs:W C):AV:= .agg cs
section
variable {A:Y->W AV->AV->Prop} {T:TakeT}
theorem o1 {x:Ob} (h:x.holds A T):AllOb A T [x]:=h
theorem o2 {x y:Ob} {r:W Ob} (h:x.holds A T) (h':AllOb A T (y::r)):AllOb A T (x::y::r):=⟨h,h'⟩
end
section
variable {α:Type} [GoE α]
theorem Qoh (l:W α):AV.one (.int .i64 ((eL l).length:H))=AV.one (.int .i64 (l.length:H)):=by rw[Yr]
theorem Qm {a b:uD} (h:a=b):AV.one (.bool a)=AV.one (.bool b):=h▸rfl
theorem zB (p:Prop) [Decidable p] (h:p:=by omega):AV.one (.bool (decide p))=AV.one (.bool E):=Qm (decide_eq_true h)
theorem zC (p:Prop) [Decidable p] (h:¬p:=by omega):AV.one (.bool (decide p))=AV.one (.bool uA):=Qm (decide_eq_false h)
theorem Sy (t:Tok) (n k:Y) (lo:H) (l:W α) (hk:lo.toNat=k):AV.one (.slc t n (((eL l).take (zG ((eL l).length:H))).drop (zG lo)))=AV.one (.slc t n (eL (List.drop k l))):=by
 subst hk;rw[Int.toNat_natCast,List.take_length,Qds]
theorem OU (t:Tok) (n k:Y) (hi:H) (l:W α) (hk:hi.toNat=k):AV.one (.slc t n (((eL l).take (zG hi)).drop (zG 0)))=AV.one (.slc t n (eL (List.take k l))):=by
 subst hk;rw[Qdr];rfl
theorem Qoi (t:Tok) (n j k:Y) (lo hi:H) (l:W α) (hj:lo.toNat=j) (hk:hi.toNat=k):AV.one (.slc t n (((eL l).take (zG hi)).drop (zG lo)))=AV.one (.slc t n (eL (List.drop j (List.take k l)))):=by
 subst hj;subst hk;rw[Qdr,Qds]
theorem Qbd {l:W α} {i:H} {k:Y} {a:α} (h0:0<=i) (hk:i.toNat=k) (h:l[k]? =G a):0<=i/\(eL l)[i.toNat]? =G (enc a):=⟨h0,by rw[hk];exact Qdt h⟩
theorem Eb {a b m n:Y} (ha:a=m) (hb:b=n) (h:m+n<=1073741824):a+b<=1073741824:=by omega
theorem Qeb {l:W α} {lo hi:H} (h0:0<=lo) (h1:lo<=hi) (h2:hi<=(l.length:H)):0<=lo/\lo<=hi/\hi<=((eL l).length:H):=by rw[Yr];exact ⟨h0,h1,h2⟩
theorem Sz {l:W α} {lo:H} (h0:0<=lo) (h2:lo<=(l.length:H)):0<=lo/\lo<=((eL l).length:H)/\((eL l).length:H)<=((eL l).length:H):=by rw[Yr];exact ⟨h0,h2,Int.le_refl _⟩
end
theorem Jc {α:Type} [GoE α] {A B:W (W PV)} {a b:W α} (ha:A=eL a) (hb:B=eL b):A++B=eL (a++b):=by rw[ha,hb,Qdq]
theorem Qig {α:Type} [GoE α] (n:Y) (a:α):xA n (enc a)=eL (xA n a):=by simp[eL]
theorem X0 {α:Type} [BEq α] [uW α] {a b:α} (h:(a==b)=uA):a≠b:=by simpa using h
theorem Pe {α:Type} [BEq α] [uW α] {a b:α} (h:(a !=b)=E):a≠b:=by simpa using h
theorem Uw {α:Type} [BEq α] [uW α] {a b:α} (h:(a !=b)=uA):a=b:=by simpa using h
theorem Q9 {α:Sort _} {c:uD} {a b r:α} (h:c=E) (e:a=r):(bif c then a else b)=r:=by subst h;exact e
theorem Qj {α:Sort _} {c:uD} {a b r:α} (h:c=uA) (e:b=r):(bif c then a else b)=r:=by subst h;exact e
def lt {α R:Type} (t:α) (f:α->R):R:=f t
theorem L4 {α R:Type} {t v:α} {f:α->R} {r:R} (h:t=v) (e:f v=r):lt t f=r:=by subst h;exact e
inductive Rd (R S T:Type) where
 | next (s:S)
 | brk (t:T)
 | ret (r:R)
inductive Out (R T:Type) where
 | brk (t:T)
 | ret (r:R)
def Out.on {R T:Type} (o:Out R T) (f:T->R):R:=match o with
 | .brk t=>f t
 | .ret r=>r
theorem Vp {R T:Type} {o:Out R T} {f:T->R} {t:T} {r:R} (h:o= .brk t) (e:f t=r):o.on f=r:=by subst h;exact e
theorem On {R T:Type} {o:Out R T} {f:T->R} {r:R} (h:o= .ret r):o.on f=r:=by subst h;rfl
def X4 {α R S T:Type} (f:Y->α->S->Rd R S T) (e:Y->S->T):W α->Y->S->Out R T
 | [],k,s=> .brk (e k s)
 | a::l,k,s=>match f k a s with
   | .next s'=>X4 f e l (k+1) s'
   | .brk t=> .brk t
   | .ret r=> .ret r
def Ks {R S T:Type} (f:Y->S->Rd R S T) (e:Y->S->T):Y->Y->S->Out R T
 | 0,k,s=> .brk (e k s)
 | n+1,k,s=>match f k s with
   | .next s'=>Ks f e n (k+1) s'
   | .brk t=> .brk t
   | .ret r=> .ret r
section
variable {α R S T:Type} {f:Y->α->S->Rd R S T} {e:Y->S->T} {l:W α} {k:Y} {s:S} {a:α} {o:Out R T}
theorem DU (h:l[k]? =G a):l.drop k=a::l.drop (k+1):=by
 obtain ⟨hlt,rfl⟩:=zF.1 h;exact List.drop_eq_getElem_cons hlt
theorem Qs {s':S} (hx:l[k]? =G a) (h:f k a s= .next s') (hI:o=X4 f e (l.drop k) k s):o=X4 f e (l.drop (k+1)) (k+1) s':=by
 rw[hI,DU hx];simp only[X4,h]
theorem SU {t:T} (hx:l[k]? =G a) (h:f k a s= .brk t) (hI:o=X4 f e (l.drop k) k s):o= .brk t:=by
 rw[hI,DU hx];simp only[X4,h]
theorem Ka {r:R} (hx:l[k]? =G a) (h:f k a s= .ret r) (hI:o=X4 f e (l.drop k) k s):o= .ret r:=by
 rw[hI,DU hx];simp only[X4,h]
theorem Xj {t:T} (hk:k=l.length) (h:e k s=t) (hI:o=X4 f e (l.drop k) k s):o= .brk t:=by
 rw[hI,hk,List.drop_length,←hk];simp only[X4,h]
end
section
variable {R S T:Type} {f:Y->S->Rd R S T} {e:Y->S->T} {n k:Y} {s:S} {o:Out R T}
theorem Z6 {s':S} (hk:k<n) (h:f k s= .next s') (hI:o=Ks f e (n-k) k s):o=Ks f e (n-(k+1)) (k+1) s':=by
 rw[hI,show n-k=n-(k+1)+1 by omega];simp only[Ks,h]
theorem Ty {r:R} (hk:k<n) (h:f k s= .ret r) (hI:o=Ks f e (n-k) k s):o= .ret r:=by
 rw[hI,show n-k=n-(k+1)+1 by omega];simp only[Ks,h]
theorem U6 {t:T} (hk:k=n) (h:e k s=t) (hI:o=Ks f e (n-k) k s):o= .brk t:=by
 rw[hI,hk,Nat.sub_self,←hk];simp only[Ks,h]
end
def whl {R S T:Type} (f:S->Rd R S T):Y->S->uG (Out R T)
 | 0,_=>uB
 | n+1,s=>match f s with
   | .next s'=>whl f n s'
   | .brk t=>G (.brk t)
   | .ret r=>G (.ret r)
section
variable {R S T:Type} {f:S->Rd R S T} {n:Y} {s:S} {o:Out R T}
theorem Qih {s':S} (h:f s= .next s') (hI:whl f (n+1) s=G o):whl f n s'=G o:=by simpa only[whl,h] using hI
theorem Ql5 {t:T} (h:f s= .brk t) (hI:whl f (n+1) s=G o):o= .brk t:=by simp only[whl,h] at hI;exact (zD hI).symm
theorem Ql6 {r:R} (h:f s= .ret r) (hI:whl f (n+1) s=G o):o= .ret r:=by simp only[whl,h] at hI;exact (zD hI).symm
end
instance {R T:Type} [uQ T]:uQ (Out R T):=⟨.brk default⟩
def Oo {R S T:Type} [uQ T] (f:S->Rd R S T) (n:Y) (s:S):Out R T:=(whl f n s).getD default
theorem Nc {R S T:Type} [uQ T] {f:S->Rd R S T} {n:Y} {s:S} (h:(whl f n s).isSome=E):whl f n s=G (Oo f n s):=by
 unfold Oo;cases hw:whl f n s with
 | none=>rw[hw] at h;cases h
 | some o=>rfl
theorem Rg {R S T:Type} {f:S->Rd R S T} {s:S} {o:Out R T}:¬whl f 0 s=G o:=by simp[whl]
def QL (id:Y) (A B:St->Prop) (Q:Exit->St->Prop):Exit->St->Prop
 | .normal,s=>A s
 | .exit i,s=>bif zQ i id then B s else Q (.exit i) s
 | e,s=>Q e s
section
variable {P:uJ} {N:Y} {w0:Base} {F0:Y->Prop} {Q:Exit->St->Prop} {s s':St} {c:uI} {σ τ:Type} {id:Y}
theorem Wv (mk:Y->σ->St) (after:τ->St) (I:Y->σ->Prop) (D:τ->Prop) (len:Y) (x0:σ) (h0:Weak s (mk 0 x0)) (i0:I 0 x0)
 (hr:∀k x,k<len->I k x->AWP P N w0 F0 c (QL id (λs'=>∃x',Weak s' (mk (k+1) x')/\I (k+1) x') (λs'=>∃y,Weak s' (after y)/\D y) Q) (mk k x))
 (he:∀k x,k=len->I k x->AWP P N w0 F0 c (QL id (λ_=>False) (λs'=>∃y,Weak s' (after y)/\D y) Q) (mk k x))
 (ha:∀y,D y->Q .normal (after y)):AWP P N w0 F0 (.block id (.loop c)) Q s:=by
 refine Qo (Ei h0 (Qh4 (λn s=>∃k x,k<=len/\n=len-k/\s=mk k x/\I k x) (n:=len) ⟨0,x0,yK _,by omega,rfl,i0⟩ ?_))
 rintro n _ ⟨k,x,hk,rfl,rfl,hi⟩
 have hex:∀(A:St->Prop) (i:Y) (s':St),QL id A (λs'=>∃y,Weak s' (after y)/\D y) Q (.exit i) s'->∀(J:Inj) (a:Act) (w:uC),Rel N w0 F0 J a w s'->∃J s,Rel N w0 F0 J a w s/\Exit.inBlockS id Q (.exit i) s:=by
  intro A i s' hq J a w hR;simp only[QL] at hq;cases hb:zQ i id with
  | true=>
    rw[hb] at hq;obtain ⟨y,hw,hd⟩:=hq;obtain ⟨J',hR'⟩:=hw N w0 F0 J a w hR;exact ⟨J',_,hR',by simp only[Exit.inBlockS,hb,uR];exact ha y hd⟩
  | false=>
    rw[hb] at hq;exact ⟨J,s',hR,by simp only[Exit.inBlockS,hb,uT];exact hq⟩
 intro J a w hrel;by_cases h:k<len
 . refine wp_mono (hr k x h hi J a w hrel) ?_
   rintro e a' w' ⟨J',s',hR,hq⟩
   cases e with
   | normal=>
     obtain ⟨x',hw,hi'⟩:=hq;exact ⟨J',s',hR,len-(k+1),_,by omega,hw,k+1,x',by omega,rfl,rfl,hi'⟩
   | exit i=>exact hex _ i s' hq J' a' w' hR
   | _=>exact ⟨J',s',hR,hq⟩
 obtain rfl:k=len:=by omega
 refine wp_mono (he _ x rfl hi J a w hrel) ?_
 rintro e a' w' ⟨J',s',hR,hq⟩
 cases e with
 | normal=>exact hq.elim
 | exit i=>exact hex _ i s' hq J' a' w' hR
 | _=>exact ⟨J',s',hR,hq⟩
theorem Qbe (mk:σ->St) (after:τ->St) (I:Y->σ->Prop) (D:τ->Prop) (n:Y) (x0:σ) (h0:Weak s (mk x0)) (i0:I n x0) (hz:∀x,¬I 0 x)
 (hr:∀n x,I (n+1) x->AWP P N w0 F0 c (QL id (λs'=>∃x',Weak s' (mk x')/\I n x') (λs'=>∃y,Weak s' (after y)/\D y) Q) (mk x))
 (ha:∀y,D y->Q .normal (after y)):AWP P N w0 F0 (.block id (.loop c)) Q s:=by
 refine Wv (λ_=>mk) after (λk x=>∃m,m+k=n/\I m x) D n x0 h0 ⟨n,rfl,i0⟩ (λk x hk ⟨m,hm,hi⟩=> ?_) (λk x hk ⟨m,hm,hi⟩=> ?_) ha
 . obtain ⟨m,rfl⟩:∃j,m=j+1:=⟨m-1,by omega⟩;refine Qh3 (hr m x hi) λe s' hq=> ?_
   cases e with
   | normal=>obtain ⟨x',hw,hi'⟩:=hq;exact ⟨x',hw,m,by omega,hi'⟩
   | _=>exact hq
 obtain rfl:m=0:=by omega
 exact (hz x hi).elim
def QJ (s3:St) (e:Exit) (s':St):Prop:=e= .normal/\Weak s' s3
theorem Qii (s3:St) (b:uD) (h1:b=E->AWP P N w0 F0 c (QJ s3) s) (h0:b=uA->AWP P N w0 F0 c (QJ s3) s) (hQ:Q .normal s3):AWP P N w0 F0 c Q s:=by
 have key:AWP P N w0 F0 c (QJ s3) s:=by cases hb:b with
  | true=>exact h1 hb
  | false=>exact h0 hb
 intro J a w hr;refine wp_mono (key J a w hr) ?_
 rintro e a' w' ⟨J',s',hR,rfl,hw⟩
 obtain ⟨J2,hR2⟩:=hw N w0 F0 J' a' w' hR;exact ⟨J2,s3,hR2,hQ⟩
theorem Qec (e:s=s'):Weak s s':=e▸Weak.refl s
theorem Xx (b:uD) (h1:b=E->AWP P N w0 F0 c Q s) (h0:b=uA->AWP P N w0 F0 c Q s):AWP P N w0 F0 c Q s:=by cases hb:b with
 | true=>exact h1 hb
 | false=>exact h0 hb
theorem Qed {t:Y} {x y:uI} (hc:get s.tm t=G (.one (.bool E))) (h1:AWP P N w0 F0 x Q s):AWP P N w0 F0 (.cond (.tmp t) x y) Q s:=Tp hc (λ_=>h1) (λh=>by cases h)
theorem Tz {t:Y} {x y:uI} (hc:get s.tm t=G (.one (.bool uA))) (h1:AWP P N w0 F0 y Q s):AWP P N w0 F0 (.cond (.tmp t) x y) Q s:=Tp hc (λh=>by cases h) (λ_=>h1)
theorem Qbf {t:Y} {x y:uI} {b:uD} (hc:get s.tm t=G (.one (.bool b))) (hb:b=E) (h1:AWP P N w0 F0 x Q s):AWP P N w0 F0 (.cond (.tmp t) x y) Q s:=Tp hc (λ_=>h1) (λh=>absurd (hb.symm.trans h) (by decide))
theorem Qbg {t:Y} {x y:uI} {b:uD} (hc:get s.tm t=G (.one (.bool b))) (hb:b=uA) (h1:AWP P N w0 F0 y Q s):AWP P N w0 F0 (.cond (.tmp t) x y) Q s:=Tp hc (λh=>absurd (hb.symm.trans h) (by decide)) (λ_=>h1)
end
theorem WK {a b:uD} (h:(a&&b)=E):a=E:=by cases a<;>simp_all
theorem JK {a b:uD} (h:(a&&b)=E):b=E:=by cases a<;>simp_all
theorem JL {a b:uD} (h:(a|| b)=uA):a=uA:=by cases a<;>simp_all
theorem WL {a b:uD} (h:(a|| b)=uA):b=uA:=by cases a<;>simp_all
theorem Vt {b:uD} (h:(!b)=E):b=uA:=by cases b<;>simp_all
theorem Zz {b:uD} (h:(!b)=uA):b=E:=by cases b<;>simp_all
def Ql7 {α:Type} (d:W Y):W (Y×α)->W (Y×α)
 | []=> []
 | p::r=>bif M2 p.1 d then Ql7 d r else p::Ql7 d r
def Qqy {α:Type} (u:W (Y×α)) (d:W Y) (l:W (Y×α)):W (Y×α):=u++Ql7 d l
def Nd {α:Type}:W (Y×α)->W Y
 | []=> []
 | p::r=>p.1::Nd r
def St.up (s:St) (u:W (Y×AV)) (d:W Y) (bu:W (Y×W C)) (bd:W Y):St:=⟨Qqy u d s.tm,Qqy bu bd s.bx⟩
def St.fit (s s':St):St:=s.keep (Nd s'.tm) (Nd s'.bx)
theorem Qe {s s':St} (h:s.fit s'=s'):Weak s s':=VY _ _ h
theorem zA {α:Type} {e:α} {s s':St} (h:s.fit s'=s'):e=e/\Weak s s':=⟨rfl,Qe h⟩
def St.cellT (s:St) (t i:Y):uG C:=match get s.tm t with
 | some (.one c)=>(match i with | 0=>G c | _=>uB)
 | some (.agg cs)=>cs[i]?
 | _=>uB
def St.cellB (s:St) (b i:Y):uG C:=match get s.bx b with
 | some cs=>cs[i]?
 | _=>uB
section
variable {P:uJ} {N:Y} {w0:Base} {F0:Y->Prop} {Q:Exit->St->Prop} {s:St} {c:uI}
theorem ck {t:Y} {x y:uI} (b:uD) (h1:b=E->AWP P N w0 F0 x Q s) (h2:b=uA->AWP P N w0 F0 y Q s) (hc:get s.tm t=G (.one (.bool b)):=by kernel_rfl):AWP P N w0 F0 (.cond (.tmp t) x y) Q s:=Tp hc h1 h2
theorem ckT {t:Y} {x y:uI} (h1:AWP P N w0 F0 x Q s) (hc:get s.tm t=G (.one (.bool E)):=by kernel_rfl):AWP P N w0 F0 (.cond (.tmp t) x y) Q s:=Qed hc h1
theorem ckF {t:Y} {x y:uI} (h1:AWP P N w0 F0 y Q s) (hc:get s.tm t=G (.one (.bool uA)):=by kernel_rfl):AWP P N w0 F0 (.cond (.tmp t) x y) Q s:=Tz hc h1
theorem ckt {t:Y} {x y:uI} {b:uD} (hb:b=E) (h1:AWP P N w0 F0 x Q s) (hc:get s.tm t=G (.one (.bool b)):=by kernel_rfl):AWP P N w0 F0 (.cond (.tmp t) x y) Q s:=Qbf hc hb h1
theorem ckf {t:Y} {x y:uI} {b:uD} (hb:b=uA) (h1:AWP P N w0 F0 y Q s) (hc:get s.tm t=G (.one (.bool b)):=by kernel_rfl):AWP P N w0 F0 (.cond (.tmp t) x y) Q s:=Qbg hc hb h1
theorem jn (u:W (Y×AV)) (d:W Y) (bu:W (Y×W C)) (bd:W Y) (b:uD) (h1:b=E->AWP P N w0 F0 c (QJ (s.up u d bu bd)) s) (h0:b=uA->AWP P N w0 F0 c (QJ (s.up u d bu bd)) s) (hQ:Q .normal (s.up u d bu bd)):AWP P N w0 F0 c Q s:=Qii _ b h1 h0 hQ
theorem eqn (u:W (Y×AV)) (d:W Y) (bu:W (Y×W C)) (bd:W Y) (h:s.fit (s.up u d bu bd)=s.up u d bu bd) (k:AWP P N w0 F0 c Q (s.up u d bu bd)):AWP P N w0 F0 c Q s:=Ei (Qe h) k
theorem Qee {J:Inj} {a:Act} {w:uC} (h:Rel N w0 F0 J a w s) {t i:Y} {x:C} (hc:s.cellT t i=G x):∃u,CR J w u x:=by
 unfold St.cellT at hc;split at hc
 . rename_i y hg;split at hc
   . obtain rfl:=zD hc;exact ⟨_,h.tm t _ hg⟩
   cases hc
 . rename_i cs hg;obtain ⟨vs,_,ha⟩:=h.tm t _ hg;obtain ⟨u,_,hu⟩:=ha.get' hc;exact ⟨u,hu⟩
 cases hc
theorem Ql8 {J:Inj} {a:Act} {w:uC} (h:Rel N w0 F0 J a w s) {b i:Y} {x:C} (hc:s.cellB b i=G x):∃u,CR J w u x:=by
 unfold St.cellB at hc;split at hc
 . rename_i cs hg;obtain ⟨_,_,_,arr,e,_,ha⟩:=h.bo b _ hg;obtain ⟨u,_,hu⟩:=ha.get' hc;exact ⟨u,hu⟩
 cases hc
theorem wdT {α:Type} [GoE α] (t i:Y) (tok:Tok) (l:W α) (k:wide l->AWP P N w0 F0 c Q s) (h:s.cellT t i=G (.slc tok (GoD.n α) (eL l)):=by kernel_rfl):AWP P N w0 F0 c Q s:=λJ a w hr=>k (by obtain ⟨u,hu⟩:=Qee hr h;exact IK hu) J a w hr
theorem wdB {α:Type} [GoE α] (b i:Y) (tok:Tok) (l:W α) (k:wide l->AWP P N w0 F0 c Q s) (h:s.cellB b i=G (.slc tok (GoD.n α) (eL l)):=by kernel_rfl):AWP P N w0 F0 c Q s:=λJ a w hr=>k (by obtain ⟨u,hu⟩:=Ql8 hr h;exact IK hu) J a w hr
theorem stT (t i:Y) (x:uE) (k:x.size<=9223372036854775807->AWP P N w0 F0 c Q s) (h:s.cellT t i=G (.str x):=by kernel_rfl):AWP P N w0 F0 c Q s:=λJ a w hr=>k (by obtain ⟨u,hu⟩:=Qee hr h;exact hu.2) J a w hr
theorem blk {σ τ:Type} {id:Y} (u:Y->σ->W (Y×AV)) (d:W Y) (bu:Y->σ->W (Y×W C)) (bd:W Y) (ua:τ->W (Y×AV)) (da:W Y) (ba:τ->W (Y×W C)) (bda:W Y) (I:Y->σ->Prop) (D:τ->Prop) (len:Y) (x0:σ)
 (h0:Weak s (s.up (u 0 x0) d (bu 0 x0) bd)) (i0:I 0 x0)
 (hr:∀k x,k<len->I k x->AWP P N w0 F0 c (QL id (λs'=>∃x',Weak s' (s.up (u (k+1) x') d (bu (k+1) x') bd)/\I (k+1) x') (λs'=>∃y,Weak s' (s.up (ua y) da (ba y) bda)/\D y) Q) (s.up (u k x) d (bu k x) bd))
 (he:∀k x,k=len->I k x->AWP P N w0 F0 c (QL id (λ_=>False) (λs'=>∃y,Weak s' (s.up (ua y) da (ba y) bda)/\D y) Q) (s.up (u k x) d (bu k x) bd))
 (ha:∀y,D y->Q .normal (s.up (ua y) da (ba y) bda)):AWP P N w0 F0 (.block id (.loop c)) Q s:=Wv _ _ I D len x0 h0 i0 hr he ha
theorem blw {σ τ:Type} {id:Y} (u:σ->W (Y×AV)) (d:W Y) (bu:σ->W (Y×W C)) (bd:W Y) (ua:τ->W (Y×AV)) (da:W Y) (ba:τ->W (Y×W C)) (bda:W Y) (I:Y->σ->Prop) (D:τ->Prop) (n:Y) (x0:σ)
 (h0:Weak s (s.up (u x0) d (bu x0) bd)) (i0:I n x0) (hz:∀x,¬I 0 x)
 (hr:∀n x,I (n+1) x->AWP P N w0 F0 c (QL id (λs'=>∃x',Weak s' (s.up (u x') d (bu x') bd)/\I n x') (λs'=>∃y,Weak s' (s.up (ua y) da (ba y) bda)/\D y) Q) (s.up (u x) d (bu x) bd))
 (ha:∀y,D y->Q .normal (s.up (ua y) da (ba y) bda)):AWP P N w0 F0 (.block id (.loop c)) Q s:=Qbe _ _ I D n x0 h0 i0 hz hr ha
end
theorem Jl {a b:H} (h:a=b):AV.i a=AV.i b:=h▸rfl
theorem cb {P:uJ} {f:Y} {args:W AV} {a b:uD} (h:a=b) (c:ACalls P f args (.b a)):ACalls P f args (.b b):=h▸c
theorem Xg {s s':St} (sw:W (Y×Y)) (h:(s.swaps sw).fit s'=s'):Weak s s':=(BD sw s).trans (Qe h)
theorem L5 {s s':St} (os:W (uD×Y×Y×uD×Y×Y)) (fz ds:W Y) (sw:W (Y×Y)) (h:((((s.opens os).map (Wn (X5 fz) uB)).demotes ds).swaps sw).fit s'=s'):Weak s s':=
 (YA os s).trans ((Bj fz rfl).trans ((O9 ds _).trans (Xg sw h)))
theorem opn {P:uJ} {N:Y} {w0:Base} {F0:Y->Prop} {Q:Exit->St->Prop} {s:St} {c:uI} (l:W (uD×Y×Y×uD×Y×Y)) (h:AWP P N w0 F0 c Q (s.opens l)):AWP P N w0 F0 c Q s:=Qdn l rfl h
open GoE (enc wide)
def PL (A:Y->W AV->AV->Prop) (T:TakeT) (_:W (Y×Orc)) (obs:W Ob):Prop:=AllOb A T obs
section
variable {A:Y->W AV->AV->Prop} {T:TakeT} {orcs:W (Y×Orc)} {obs:W Ob}
theorem Mp {x:Ob} {r:W Ob} (h:x.holds A T) (k:AllOb A T r):AllOb A T (x::r):=by
 cases r with
 | nil=>exact h
 | cons y r=>exact ⟨h,k⟩
theorem p0:PL A T [] []:=trivial
theorem px {x:Ob} (h:x.holds A T) (k:PL A T orcs obs):PL A T orcs (x::obs):=Mp h k
theorem po (i:Y) (o:Orc) (k:PL A T orcs obs):PL A T ((i,o)::orcs) obs:=k
theorem pe (i:Y) {a b:AV} (h:a=b) (k:PL A T orcs obs):PL A T ((i,.val b)::orcs) (.eq a b::obs):=Mp (x:= .eq a b) h k
theorem pr (i:Y) {l:W (W PV)} {j:H} {r:W PV} (h:0<=j/\l[j.toNat]? =G r) (k:PL A T orcs obs):PL A T ((i,.row r)::orcs) (.elem l j r::obs):=Mp (x:= .elem l j r) h k
theorem pR (i:Y) {l:W (W PV)} {j:H} {r:W PV} (h:0<=j/\l[j.toNat]? =G r) (k:PL A T orcs obs):PL A T ((i,.rowE r)::orcs) (.elem l j r::obs):=Mp (x:= .elem l j r) h k
end
section
variable {P:uJ} {w0:Base} {T:TakeT} {orcs:W (Y×Orc)} {obs:W Ob}
theorem pc [GoodAt P w0] (i:Y) {f:Y} {args:W AV} {r:AV} (h:ACalls P f args r) (k:PL (Zk P w0) T orcs obs):PL (Zk P w0) T ((i,.val r)::orcs) (.call f args r::obs):=Mp (Lx h) k
end
section
variable {A:Y->W AV->AV->Prop} {T:TakeT} {orcs:W (Y×Orc)} {obs:W Ob}
theorem pl (i:Y) {α:Type} [GoE α] (l:W α) (k:PL A T orcs obs):PL A T ((i,.val (.i (l.length:H)))::orcs) (.eq (.one (.int .i64 ((eL l).length:H))) (.i (l.length:H))::obs):=pe i (Qoh l) k
theorem pt (i:Y) {b:uD} (h:b=E) (k:PL A T orcs obs):PL A T ((i,.val (.b E))::orcs) (.eq (.one (.bool b)) (.b E)::obs):=pe i (Qm h) k
theorem pf (i:Y) {b:uD} (h:b=uA) (k:PL A T orcs obs):PL A T ((i,.val (.b uA))::orcs) (.eq (.one (.bool b)) (.b uA)::obs):=pe i (Qm h) k
theorem pg (i:Y) {α:Type} [GoE α] {l:W α} (j:H) {k:Y} {a:α} (h:l[k]? =G a) (r:PL A T orcs obs) (h0:0<=j:=by omega) (hk:j.toNat=k:=by rfl):PL A T ((i,.row (enc a))::orcs) (.elem (eL l) j (enc a)::obs):=pr i (Qbd h0 hk h) r
theorem pG (i:Y) {α:Type} [GoE α] {l:W α} (j:H) {k:Y} {a:α} (h:l[k]? =G a) (r:PL A T orcs obs) (h0:0<=j:=by omega) (hk:j.toNat=k:=by rfl):PL A T ((i,.rowE (enc a))::orcs) (.elem (eL l) j (enc a)::obs):=pR i (Qbd h0 hk h) r
theorem pn (i:Y) {α:Type} [GoE α] {l:W α} {k:Y} {a:α} (h:l[k]? =G a) (r:PL A T orcs obs):PL A T ((i,.row (enc a))::orcs) (.elem (eL l) (k:H) (enc a)::obs):=pr i (Qbd (Int.natCast_nonneg k) rfl h) r
theorem pN (i:Y) {α:Type} [GoE α] {l:W α} {k:Y} {a:α} (h:l[k]? =G a) (r:PL A T orcs obs):PL A T ((i,.rowE (enc a))::orcs) (.elem (eL l) (k:H) (enc a)::obs):=pR i (Qbd (Int.natCast_nonneg k) rfl h) r
theorem pa {α:Type} [GoE α] (a b:W α) (r:PL A T orcs obs) (h:a.length+b.length<=1073741824:=by first|omega|(simp only[xE,List.length_nil];omega) | (simp;omega) | simp):PL A T orcs (.len ((eL a).length+(eL b).length)::obs):=px (Ct (Eb (Yr a) (Yr b) h)) r
end
def nx (tt:W (Y×TI)) (N:Y) (orcs:W (Y×Orc)) (ops:W Oper) (ts bs:W Y) (s:St):St:=match N8 tt N orcs ops ops 0 s with
 | some (s',_)=>s'.keep ts bs
 | none=>s
def nd (tt:W (Y×TI)) (N:Y) (orcs:W (Y×Orc)) (ops:W Oper) (ts bs:W Y) (s:St):St:=match Ej tt N orcs ops ts bs s with
 | some (s',_)=>s'
 | none=>s
def hd (x _:St):St:=x
section
variable {P:uJ} {N:Y} {w0:Base} {F0:Y->Prop} {Q:Exit->St->Prop} {s x:St} {c y:uI} {tt:W (Y×TI)} {orcs:W (Y×Orc)} {obs:W Ob} {id:Y} {ops:uN Oper}
theorem rn0 (htt:Fb P tt=E) (ts bs:W Y) (hob:PL (Zk P w0) (Vs P w0) orcs obs) (hQ:Q .normal (nx tt N orcs ops.toList ts bs s))
 (h:(N8 tt N orcs ops.toList ops.toList 0 s).map yS=G obs):AWP P N w0 F0 (.region id ops uA) Q s:=by
 cases hr:N8 tt N orcs ops.toList ops.toList 0 s with
 | none=>rw[hr] at h;cases h
 | some x=>
   obtain ⟨s',obs'⟩:=x;rw[hr] at h;obtain rfl:obs'=obs:=zD h;refine Jm htt orcs ts bs (s':=nx tt N orcs ops.toList ts bs s) ?_ hob hQ;unfold Wd nx;rw[hr]
theorem rN0 (htt:Fb P tt=E) (hm:P.follows .mixedOrders=E) (ts bs:W Y) (hob:PL (Zk P w0) (Vs P w0) orcs obs) (hQ:Q .normal (nd tt N orcs ops.toList ts bs s))
 (h:(Ej tt N orcs ops.toList ts bs s).map yS=G obs):AWP P N w0 F0 (.region id ops E) Q s:=by
 cases hr:Ej tt N orcs ops.toList ts bs s with
 | none=>rw[hr] at h;cases h
 | some x=>
   obtain ⟨s',obs'⟩:=x;rw[hr] at h;obtain rfl:obs'=obs:=zD h;refine KE htt hm orcs ts bs (s':=nd tt N orcs ops.toList ts bs s) ?_ hob hQ;unfold nd;rw[hr]
theorem rn (htt:Fb P tt=E) (ts bs:W Y) (hob:PL (Zk P w0) (Vs P w0) orcs obs) (hQ:Q .normal (hd (nx tt N orcs ops.toList ts bs s) s))
 (h:(N8 tt N orcs ops.toList ops.toList 0 s).map yS=G obs:=by kernel_rfl):AWP P N w0 F0 (.region id ops uA) Q s:=rn0 htt ts bs (s:=s) hob hQ h
theorem sn (htt:Fb P tt=E) (ts bs:W Y) (hob:PL (Zk P w0) (Vs P w0) orcs obs) (hQ:AWP P N w0 F0 y Q (hd (nx tt N orcs ops.toList ts bs s) s))
 (h:(N8 tt N orcs ops.toList ops.toList 0 s).map yS=G obs:=by kernel_rfl):AWP P N w0 F0 (.seq (.region id ops uA) y) Q s:=Qb (rn htt ts bs hob hQ h)
theorem ru (htt:Fb P tt=E) (u:W (Y×AV)) (d:W Y) (bu:W (Y×W C)) (bd:W Y) (hob:PL (Zk P w0) (Vs P w0) orcs obs) (hQ:Q .normal (s.up u d bu bd))
 (h:Wd tt N orcs ops.toList (Nd (s.up u d bu bd).tm) (Nd (s.up u d bu bd).bx) s=G (s.up u d bu bd,obs):=by kernel_rfl):AWP P N w0 F0 (.region id ops uA) Q s:=Jm htt orcs _ _ (s:=s) h hob hQ
theorem su (htt:Fb P tt=E) (u:W (Y×AV)) (d:W Y) (bu:W (Y×W C)) (bd:W Y) (hob:PL (Zk P w0) (Vs P w0) orcs obs) (hQ:AWP P N w0 F0 y Q (s.up u d bu bd))
 (h:Wd tt N orcs ops.toList (Nd (s.up u d bu bd).tm) (Nd (s.up u d bu bd).bx) s=G (s.up u d bu bd,obs):=by kernel_rfl):AWP P N w0 F0 (.seq (.region id ops uA) y) Q s:=Qb (ru htt u d bu bd hob hQ h)
theorem rN (htt:Fb P tt=E) (hm:P.follows .mixedOrders=E) (ts bs:W Y) (hob:PL (Zk P w0) (Vs P w0) orcs obs) (hQ:Q .normal (hd (nd tt N orcs ops.toList ts bs s) s))
 (h:(Ej tt N orcs ops.toList ts bs s).map yS=G obs:=by kernel_rfl):AWP P N w0 F0 (.region id ops E) Q s:=rN0 htt hm ts bs (s:=s) hob hQ h
theorem sN (htt:Fb P tt=E) (hm:P.follows .mixedOrders=E) (ts bs:W Y) (hob:PL (Zk P w0) (Vs P w0) orcs obs) (hQ:AWP P N w0 F0 y Q (hd (nd tt N orcs ops.toList ts bs s) s))
 (h:(Ej tt N orcs ops.toList ts bs s).map yS=G obs:=by kernel_rfl):AWP P N w0 F0 (.seq (.region id ops E) y) Q s:=Qb (rN htt hm ts bs hob hQ h)
theorem rU (htt:Fb P tt=E) (hm:P.follows .mixedOrders=E) (u:W (Y×AV)) (d:W Y) (bu:W (Y×W C)) (bd:W Y) (hob:PL (Zk P w0) (Vs P w0) orcs obs) (hQ:Q .normal (s.up u d bu bd))
 (h:Ej tt N orcs ops.toList (Nd (s.up u d bu bd).tm) (Nd (s.up u d bu bd).bx) s=G (s.up u d bu bd,obs):=by kernel_rfl):AWP P N w0 F0 (.region id ops E) Q s:=KE htt hm orcs _ _ (s:=s) h hob hQ
theorem sU (htt:Fb P tt=E) (hm:P.follows .mixedOrders=E) (u:W (Y×AV)) (d:W Y) (bu:W (Y×W C)) (bd:W Y) (hob:PL (Zk P w0) (Vs P w0) orcs obs) (hQ:AWP P N w0 F0 y Q (s.up u d bu bd))
 (h:Ej tt N orcs ops.toList (Nd (s.up u d bu bd).tm) (Nd (s.up u d bu bd).bx) s=G (s.up u d bu bd,obs):=by kernel_rfl):AWP P N w0 F0 (.seq (.region id ops E) y) Q s:=Qb (rU htt hm u d bu bd hob hQ h)
theorem qn (htt:Fb P tt=E) (ts bs:W Y) (hob:PL (Zk P w0) (Vs P w0) orcs obs) (hQ:Q .normal (hd (nx tt N orcs ops.toList ts bs x) s))
 (h:(N8 tt N orcs ops.toList ops.toList 0 x).map yS=G obs:=by kernel_rfl):AWP P N w0 F0 (.region id ops uA) Q (hd x s):=rn0 htt ts bs (s:=x) hob hQ h
theorem tn (htt:Fb P tt=E) (ts bs:W Y) (hob:PL (Zk P w0) (Vs P w0) orcs obs) (hQ:AWP P N w0 F0 y Q (hd (nx tt N orcs ops.toList ts bs x) s))
 (h:(N8 tt N orcs ops.toList ops.toList 0 x).map yS=G obs:=by kernel_rfl):AWP P N w0 F0 (.seq (.region id ops uA) y) Q (hd x s):=Qb (qn htt ts bs hob hQ h)
theorem qu (htt:Fb P tt=E) (u:W (Y×AV)) (d:W Y) (bu:W (Y×W C)) (bd:W Y) (hob:PL (Zk P w0) (Vs P w0) orcs obs) (hQ:Q .normal (s.up u d bu bd))
 (h:Wd tt N orcs ops.toList (Nd (s.up u d bu bd).tm) (Nd (s.up u d bu bd).bx) x=G (s.up u d bu bd,obs):=by kernel_rfl):AWP P N w0 F0 (.region id ops uA) Q (hd x s):=Jm htt orcs _ _ (s:=x) h hob hQ
theorem tu (htt:Fb P tt=E) (u:W (Y×AV)) (d:W Y) (bu:W (Y×W C)) (bd:W Y) (hob:PL (Zk P w0) (Vs P w0) orcs obs) (hQ:AWP P N w0 F0 y Q (s.up u d bu bd))
 (h:Wd tt N orcs ops.toList (Nd (s.up u d bu bd).tm) (Nd (s.up u d bu bd).bx) x=G (s.up u d bu bd,obs):=by kernel_rfl):AWP P N w0 F0 (.seq (.region id ops uA) y) Q (hd x s):=Qb (qu htt u d bu bd hob hQ h)
theorem qN (htt:Fb P tt=E) (hm:P.follows .mixedOrders=E) (ts bs:W Y) (hob:PL (Zk P w0) (Vs P w0) orcs obs) (hQ:Q .normal (hd (nd tt N orcs ops.toList ts bs x) s))
 (h:(Ej tt N orcs ops.toList ts bs x).map yS=G obs:=by kernel_rfl):AWP P N w0 F0 (.region id ops E) Q (hd x s):=rN0 htt hm ts bs (s:=x) hob hQ h
theorem tN (htt:Fb P tt=E) (hm:P.follows .mixedOrders=E) (ts bs:W Y) (hob:PL (Zk P w0) (Vs P w0) orcs obs) (hQ:AWP P N w0 F0 y Q (hd (nd tt N orcs ops.toList ts bs x) s))
 (h:(Ej tt N orcs ops.toList ts bs x).map yS=G obs:=by kernel_rfl):AWP P N w0 F0 (.seq (.region id ops E) y) Q (hd x s):=Qb (qN htt hm ts bs hob hQ h)
theorem qU (htt:Fb P tt=E) (hm:P.follows .mixedOrders=E) (u:W (Y×AV)) (d:W Y) (bu:W (Y×W C)) (bd:W Y) (hob:PL (Zk P w0) (Vs P w0) orcs obs) (hQ:Q .normal (s.up u d bu bd))
 (h:Ej tt N orcs ops.toList (Nd (s.up u d bu bd).tm) (Nd (s.up u d bu bd).bx) x=G (s.up u d bu bd,obs):=by kernel_rfl):AWP P N w0 F0 (.region id ops E) Q (hd x s):=KE htt hm orcs _ _ (s:=x) h hob hQ
theorem tU (htt:Fb P tt=E) (hm:P.follows .mixedOrders=E) (u:W (Y×AV)) (d:W Y) (bu:W (Y×W C)) (bd:W Y) (hob:PL (Zk P w0) (Vs P w0) orcs obs) (hQ:AWP P N w0 F0 y Q (s.up u d bu bd))
 (h:Ej tt N orcs ops.toList (Nd (s.up u d bu bd).tm) (Nd (s.up u d bu bd).bx) x=G (s.up u d bu bd,obs):=by kernel_rfl):AWP P N w0 F0 (.seq (.region id ops E) y) Q (hd x s):=Qb (qU htt hm u d bu bd hob hQ h)
theorem mz (u:W (Y×AV)) (d:W Y) (bu:W (Y×W C)) (bd:W Y) (k:AWP P N w0 F0 c Q (s.up u d bu bd)) (h:x.fit (s.up u d bu bd)=s.up u d bu bd:=by kernel_rfl):AWP P N w0 F0 c Q (hd x s):=Ei (s:=x) (Qe h) k
theorem wT {α:Type} [GoE α] (t i:Y) (tok:Tok) (l:W α) (k:wide l->l.length<=1073741824->AWP P N w0 F0 c Q s) (h:s.cellT t i=G (.slc tok (GoD.n α) (eL l)):=by kernel_rfl):AWP P N w0 F0 c Q s:=wdT t i tok l (λhw=>k hw (Dc hw)) h
theorem wB {α:Type} [GoE α] (b i:Y) (tok:Tok) (l:W α) (k:wide l->l.length<=1073741824->AWP P N w0 F0 c Q s) (h:s.cellB b i=G (.slc tok (GoD.n α) (eL l)):=by kernel_rfl):AWP P N w0 F0 c Q s:=wdB b i tok l (λhw=>k hw (Dc hw)) h
end
section
variable {P:uJ} {N:Y} {w0:Base} {F0:Y->Prop} {Q:Exit->St->Prop} {s:St} {c:uI} {α R σ τ:Type} {id:Y}
theorem R2 (f:Y->α->σ->Rd R σ τ) (e:Y->σ->τ) (l:W α) (x0:σ) (u:Y->σ->W (Y×AV)) (d:W Y) (ua:τ->W (Y×AV)) (da:W Y)
 (h0:Weak s (s.up (u 0 x0) d [] []))
 (hr:∀k x,k<l.length->X4 f e l 0 x0=X4 f e (l.drop k) k x->AWP P N w0 F0 c (QL id (λs'=>∃x',Weak s' (s.up (u (k+1) x') d [] [])/\(X4 f e l 0 x0=X4 f e (l.drop (k+1)) (k+1) x')) (λs'=>∃y,Weak s' (s.up (ua y) da [] [])/\X4 f e l 0 x0= .brk y) Q) (s.up (u k x) d [] []))
 (he:∀k x,k=l.length->X4 f e l 0 x0=X4 f e (l.drop k) k x->AWP P N w0 F0 c (QL id (λ_=>False) (λs'=>∃y,Weak s' (s.up (ua y) da [] [])/\X4 f e l 0 x0= .brk y) Q) (s.up (u k x) d [] []))
 (ha:∀y,X4 f e l 0 x0= .brk y->Q .normal (s.up (ua y) da [] [])):AWP P N w0 F0 (.block id (.loop c)) Q s:=Wv (λk x=>s.up (u k x) d [] []) (λy=>s.up (ua y) da [] []) (λk x=>X4 f e l 0 x0=X4 f e (l.drop k) k x) (λy=>X4 f e l 0 x0= .brk y) l.length x0 h0 rfl hr he ha
theorem AB (f:Y->α->σ->Rd R σ τ) (e:Y->σ->τ) (l:W α) (x0:σ) (u:Y->σ->W (Y×AV)) (d:W Y) (ua:τ->W (Y×AV)) (da:W Y) (A:Y->σ->Prop)
 (h0:Weak s (s.up (u 0 x0) d [] [])) (i0:A 0 x0)
 (hr:∀k x,k<l.length->X4 f e l 0 x0=X4 f e (l.drop k) k x/\A k x->AWP P N w0 F0 c (QL id (λs'=>∃x',Weak s' (s.up (u (k+1) x') d [] [])/\(X4 f e l 0 x0=X4 f e (l.drop (k+1)) (k+1) x'/\A (k+1) x')) (λs'=>∃y,Weak s' (s.up (ua y) da [] [])/\X4 f e l 0 x0= .brk y) Q) (s.up (u k x) d [] []))
 (he:∀k x,k=l.length->X4 f e l 0 x0=X4 f e (l.drop k) k x/\A k x->AWP P N w0 F0 c (QL id (λ_=>False) (λs'=>∃y,Weak s' (s.up (ua y) da [] [])/\X4 f e l 0 x0= .brk y) Q) (s.up (u k x) d [] []))
 (ha:∀y,X4 f e l 0 x0= .brk y->Q .normal (s.up (ua y) da [] [])):AWP P N w0 F0 (.block id (.loop c)) Q s:=Wv (λk x=>s.up (u k x) d [] []) (λy=>s.up (ua y) da [] []) (λk x=>X4 f e l 0 x0=X4 f e (l.drop k) k x/\A k x) (λy=>X4 f e l 0 x0= .brk y) l.length x0 h0 ⟨rfl,i0⟩ hr he ha
theorem Qqz (f:Y->α->σ->Rd R σ τ) (e:Y->σ->τ) (l:W α) (x0:σ) (u:Y->σ->W (Y×AV)) (d:W Y) (ua:τ->W (Y×AV)) (da:W Y) (B:τ->Prop)
 (h0:Weak s (s.up (u 0 x0) d [] []))
 (hr:∀k x,k<l.length->X4 f e l 0 x0=X4 f e (l.drop k) k x->AWP P N w0 F0 c (QL id (λs'=>∃x',Weak s' (s.up (u (k+1) x') d [] [])/\(X4 f e l 0 x0=X4 f e (l.drop (k+1)) (k+1) x')) (λs'=>∃y,Weak s' (s.up (ua y) da [] [])/\(X4 f e l 0 x0= .brk y/\B y)) Q) (s.up (u k x) d [] []))
 (he:∀k x,k=l.length->X4 f e l 0 x0=X4 f e (l.drop k) k x->AWP P N w0 F0 c (QL id (λ_=>False) (λs'=>∃y,Weak s' (s.up (ua y) da [] [])/\(X4 f e l 0 x0= .brk y/\B y)) Q) (s.up (u k x) d [] []))
 (ha:∀y,X4 f e l 0 x0= .brk y/\B y->Q .normal (s.up (ua y) da [] [])):AWP P N w0 F0 (.block id (.loop c)) Q s:=Wv (λk x=>s.up (u k x) d [] []) (λy=>s.up (ua y) da [] []) (λk x=>X4 f e l 0 x0=X4 f e (l.drop k) k x) (λy=>X4 f e l 0 x0= .brk y/\B y) l.length x0 h0 rfl hr he ha
theorem SV (f:Y->α->σ->Rd R σ τ) (e:Y->σ->τ) (l:W α) (x0:σ) (u:Y->σ->W (Y×AV)) (d:W Y) (ua:τ->W (Y×AV)) (da:W Y) (A:Y->σ->Prop) (B:τ->Prop)
 (h0:Weak s (s.up (u 0 x0) d [] [])) (i0:A 0 x0)
 (hr:∀k x,k<l.length->X4 f e l 0 x0=X4 f e (l.drop k) k x/\A k x->AWP P N w0 F0 c (QL id (λs'=>∃x',Weak s' (s.up (u (k+1) x') d [] [])/\(X4 f e l 0 x0=X4 f e (l.drop (k+1)) (k+1) x'/\A (k+1) x')) (λs'=>∃y,Weak s' (s.up (ua y) da [] [])/\(X4 f e l 0 x0= .brk y/\B y)) Q) (s.up (u k x) d [] []))
 (he:∀k x,k=l.length->X4 f e l 0 x0=X4 f e (l.drop k) k x/\A k x->AWP P N w0 F0 c (QL id (λ_=>False) (λs'=>∃y,Weak s' (s.up (ua y) da [] [])/\(X4 f e l 0 x0= .brk y/\B y)) Q) (s.up (u k x) d [] []))
 (ha:∀y,X4 f e l 0 x0= .brk y/\B y->Q .normal (s.up (ua y) da [] [])):AWP P N w0 F0 (.block id (.loop c)) Q s:=Wv (λk x=>s.up (u k x) d [] []) (λy=>s.up (ua y) da [] []) (λk x=>X4 f e l 0 x0=X4 f e (l.drop k) k x/\A k x) (λy=>X4 f e l 0 x0= .brk y/\B y) l.length x0 h0 ⟨rfl,i0⟩ hr he ha
theorem Qoj (f:Y->α->σ->Rd R σ τ) (e:Y->σ->τ) (l:W α) (x0:σ) (u:Y->σ->W (Y×AV)) (d:W Y) (bu:Y->σ->W (Y×W C)) (bd:W Y) (ua:τ->W (Y×AV)) (da:W Y) (ba:τ->W (Y×W C)) (bda:W Y)
 (h0:Weak s (s.up (u 0 x0) d (bu 0 x0) bd))
 (hr:∀k x,k<l.length->X4 f e l 0 x0=X4 f e (l.drop k) k x->AWP P N w0 F0 c (QL id (λs'=>∃x',Weak s' (s.up (u (k+1) x') d (bu (k+1) x') bd)/\(X4 f e l 0 x0=X4 f e (l.drop (k+1)) (k+1) x')) (λs'=>∃y,Weak s' (s.up (ua y) da (ba y) bda)/\X4 f e l 0 x0= .brk y) Q) (s.up (u k x) d (bu k x) bd))
 (he:∀k x,k=l.length->X4 f e l 0 x0=X4 f e (l.drop k) k x->AWP P N w0 F0 c (QL id (λ_=>False) (λs'=>∃y,Weak s' (s.up (ua y) da (ba y) bda)/\X4 f e l 0 x0= .brk y) Q) (s.up (u k x) d (bu k x) bd))
 (ha:∀y,X4 f e l 0 x0= .brk y->Q .normal (s.up (ua y) da (ba y) bda)):AWP P N w0 F0 (.block id (.loop c)) Q s:=Wv (λk x=>s.up (u k x) d (bu k x) bd) (λy=>s.up (ua y) da (ba y) bda) (λk x=>X4 f e l 0 x0=X4 f e (l.drop k) k x) (λy=>X4 f e l 0 x0= .brk y) l.length x0 h0 rfl hr he ha
theorem JM (f:Y->α->σ->Rd R σ τ) (e:Y->σ->τ) (l:W α) (x0:σ) (u:Y->σ->W (Y×AV)) (d:W Y) (bu:Y->σ->W (Y×W C)) (bd:W Y) (ua:τ->W (Y×AV)) (da:W Y) (ba:τ->W (Y×W C)) (bda:W Y) (A:Y->σ->Prop)
 (h0:Weak s (s.up (u 0 x0) d (bu 0 x0) bd)) (i0:A 0 x0)
 (hr:∀k x,k<l.length->X4 f e l 0 x0=X4 f e (l.drop k) k x/\A k x->AWP P N w0 F0 c (QL id (λs'=>∃x',Weak s' (s.up (u (k+1) x') d (bu (k+1) x') bd)/\(X4 f e l 0 x0=X4 f e (l.drop (k+1)) (k+1) x'/\A (k+1) x')) (λs'=>∃y,Weak s' (s.up (ua y) da (ba y) bda)/\X4 f e l 0 x0= .brk y) Q) (s.up (u k x) d (bu k x) bd))
 (he:∀k x,k=l.length->X4 f e l 0 x0=X4 f e (l.drop k) k x/\A k x->AWP P N w0 F0 c (QL id (λ_=>False) (λs'=>∃y,Weak s' (s.up (ua y) da (ba y) bda)/\X4 f e l 0 x0= .brk y) Q) (s.up (u k x) d (bu k x) bd))
 (ha:∀y,X4 f e l 0 x0= .brk y->Q .normal (s.up (ua y) da (ba y) bda)):AWP P N w0 F0 (.block id (.loop c)) Q s:=Wv (λk x=>s.up (u k x) d (bu k x) bd) (λy=>s.up (ua y) da (ba y) bda) (λk x=>X4 f e l 0 x0=X4 f e (l.drop k) k x/\A k x) (λy=>X4 f e l 0 x0= .brk y) l.length x0 h0 ⟨rfl,i0⟩ hr he ha
theorem Qqg (f:Y->σ->Rd R σ τ) (e:Y->σ->τ) (l:Y) (x0:σ) (u:Y->σ->W (Y×AV)) (d:W Y) (ua:τ->W (Y×AV)) (da:W Y)
 (h0:Weak s (s.up (u 0 x0) d [] []))
 (hr:∀k x,k<l->Ks f e l 0 x0=Ks f e (l-k) k x->AWP P N w0 F0 c (QL id (λs'=>∃x',Weak s' (s.up (u (k+1) x') d [] [])/\(Ks f e l 0 x0=Ks f e (l-(k+1)) (k+1) x')) (λs'=>∃y,Weak s' (s.up (ua y) da [] [])/\Ks f e l 0 x0= .brk y) Q) (s.up (u k x) d [] []))
 (he:∀k x,k=l->Ks f e l 0 x0=Ks f e (l-k) k x->AWP P N w0 F0 c (QL id (λ_=>False) (λs'=>∃y,Weak s' (s.up (ua y) da [] [])/\Ks f e l 0 x0= .brk y) Q) (s.up (u k x) d [] []))
 (ha:∀y,Ks f e l 0 x0= .brk y->Q .normal (s.up (ua y) da [] [])):AWP P N w0 F0 (.block id (.loop c)) Q s:=Wv (λk x=>s.up (u k x) d [] []) (λy=>s.up (ua y) da [] []) (λk x=>Ks f e l 0 x0=Ks f e (l-k) k x) (λy=>Ks f e l 0 x0= .brk y) l x0 h0 rfl hr he ha
theorem Qqh (f:Y->σ->Rd R σ τ) (e:Y->σ->τ) (l:Y) (x0:σ) (u:Y->σ->W (Y×AV)) (d:W Y) (ua:τ->W (Y×AV)) (da:W Y) (A:Y->σ->Prop)
 (h0:Weak s (s.up (u 0 x0) d [] [])) (i0:A 0 x0)
 (hr:∀k x,k<l->Ks f e l 0 x0=Ks f e (l-k) k x/\A k x->AWP P N w0 F0 c (QL id (λs'=>∃x',Weak s' (s.up (u (k+1) x') d [] [])/\(Ks f e l 0 x0=Ks f e (l-(k+1)) (k+1) x'/\A (k+1) x')) (λs'=>∃y,Weak s' (s.up (ua y) da [] [])/\Ks f e l 0 x0= .brk y) Q) (s.up (u k x) d [] []))
 (he:∀k x,k=l->Ks f e l 0 x0=Ks f e (l-k) k x/\A k x->AWP P N w0 F0 c (QL id (λ_=>False) (λs'=>∃y,Weak s' (s.up (ua y) da [] [])/\Ks f e l 0 x0= .brk y) Q) (s.up (u k x) d [] []))
 (ha:∀y,Ks f e l 0 x0= .brk y->Q .normal (s.up (ua y) da [] [])):AWP P N w0 F0 (.block id (.loop c)) Q s:=Wv (λk x=>s.up (u k x) d [] []) (λy=>s.up (ua y) da [] []) (λk x=>Ks f e l 0 x0=Ks f e (l-k) k x/\A k x) (λy=>Ks f e l 0 x0= .brk y) l x0 h0 ⟨rfl,i0⟩ hr he ha
theorem Ql9 (f:Y->σ->Rd R σ τ) (e:Y->σ->τ) (l:Y) (x0:σ) (u:Y->σ->W (Y×AV)) (d:W Y) (ua:τ->W (Y×AV)) (da:W Y) (A:Y->σ->Prop) (B:τ->Prop)
 (h0:Weak s (s.up (u 0 x0) d [] [])) (i0:A 0 x0)
 (hr:∀k x,k<l->Ks f e l 0 x0=Ks f e (l-k) k x/\A k x->AWP P N w0 F0 c (QL id (λs'=>∃x',Weak s' (s.up (u (k+1) x') d [] [])/\(Ks f e l 0 x0=Ks f e (l-(k+1)) (k+1) x'/\A (k+1) x')) (λs'=>∃y,Weak s' (s.up (ua y) da [] [])/\(Ks f e l 0 x0= .brk y/\B y)) Q) (s.up (u k x) d [] []))
 (he:∀k x,k=l->Ks f e l 0 x0=Ks f e (l-k) k x/\A k x->AWP P N w0 F0 c (QL id (λ_=>False) (λs'=>∃y,Weak s' (s.up (ua y) da [] [])/\(Ks f e l 0 x0= .brk y/\B y)) Q) (s.up (u k x) d [] []))
 (ha:∀y,Ks f e l 0 x0= .brk y/\B y->Q .normal (s.up (ua y) da [] [])):AWP P N w0 F0 (.block id (.loop c)) Q s:=Wv (λk x=>s.up (u k x) d [] []) (λy=>s.up (ua y) da [] []) (λk x=>Ks f e l 0 x0=Ks f e (l-k) k x/\A k x) (λy=>Ks f e l 0 x0= .brk y/\B y) l x0 h0 ⟨rfl,i0⟩ hr he ha
theorem Qok (f:Y->σ->Rd R σ τ) (e:Y->σ->τ) (l:Y) (x0:σ) (u:Y->σ->W (Y×AV)) (d:W Y) (bu:Y->σ->W (Y×W C)) (bd:W Y) (ua:τ->W (Y×AV)) (da:W Y) (ba:τ->W (Y×W C)) (bda:W Y) (A:Y->σ->Prop)
 (h0:Weak s (s.up (u 0 x0) d (bu 0 x0) bd)) (i0:A 0 x0)
 (hr:∀k x,k<l->Ks f e l 0 x0=Ks f e (l-k) k x/\A k x->AWP P N w0 F0 c (QL id (λs'=>∃x',Weak s' (s.up (u (k+1) x') d (bu (k+1) x') bd)/\(Ks f e l 0 x0=Ks f e (l-(k+1)) (k+1) x'/\A (k+1) x')) (λs'=>∃y,Weak s' (s.up (ua y) da (ba y) bda)/\Ks f e l 0 x0= .brk y) Q) (s.up (u k x) d (bu k x) bd))
 (he:∀k x,k=l->Ks f e l 0 x0=Ks f e (l-k) k x/\A k x->AWP P N w0 F0 c (QL id (λ_=>False) (λs'=>∃y,Weak s' (s.up (ua y) da (ba y) bda)/\Ks f e l 0 x0= .brk y) Q) (s.up (u k x) d (bu k x) bd))
 (ha:∀y,Ks f e l 0 x0= .brk y->Q .normal (s.up (ua y) da (ba y) bda)):AWP P N w0 F0 (.block id (.loop c)) Q s:=Wv (λk x=>s.up (u k x) d (bu k x) bd) (λy=>s.up (ua y) da (ba y) bda) (λk x=>Ks f e l 0 x0=Ks f e (l-k) k x/\A k x) (λy=>Ks f e l 0 x0= .brk y) l x0 h0 ⟨rfl,i0⟩ hr he ha
theorem Qma (f:Y->σ->Rd R σ τ) (e:Y->σ->τ) (l:Y) (x0:σ) (u:Y->σ->W (Y×AV)) (d:W Y) (bu:Y->σ->W (Y×W C)) (bd:W Y) (ua:τ->W (Y×AV)) (da:W Y) (ba:τ->W (Y×W C)) (bda:W Y) (A:Y->σ->Prop) (B:τ->Prop)
 (h0:Weak s (s.up (u 0 x0) d (bu 0 x0) bd)) (i0:A 0 x0)
 (hr:∀k x,k<l->Ks f e l 0 x0=Ks f e (l-k) k x/\A k x->AWP P N w0 F0 c (QL id (λs'=>∃x',Weak s' (s.up (u (k+1) x') d (bu (k+1) x') bd)/\(Ks f e l 0 x0=Ks f e (l-(k+1)) (k+1) x'/\A (k+1) x')) (λs'=>∃y,Weak s' (s.up (ua y) da (ba y) bda)/\(Ks f e l 0 x0= .brk y/\B y)) Q) (s.up (u k x) d (bu k x) bd))
 (he:∀k x,k=l->Ks f e l 0 x0=Ks f e (l-k) k x/\A k x->AWP P N w0 F0 c (QL id (λ_=>False) (λs'=>∃y,Weak s' (s.up (ua y) da (ba y) bda)/\(Ks f e l 0 x0= .brk y/\B y)) Q) (s.up (u k x) d (bu k x) bd))
 (ha:∀y,Ks f e l 0 x0= .brk y/\B y->Q .normal (s.up (ua y) da (ba y) bda)):AWP P N w0 F0 (.block id (.loop c)) Q s:=Wv (λk x=>s.up (u k x) d (bu k x) bd) (λy=>s.up (ua y) da (ba y) bda) (λk x=>Ks f e l 0 x0=Ks f e (l-k) k x/\A k x) (λy=>Ks f e l 0 x0= .brk y/\B y) l x0 h0 ⟨rfl,i0⟩ hr he ha
end
section
variable {tt:W (Y×TI)} {rs:W ResultVar} {s:St} {τ:Type}
theorem pz (frz:W Y) {F v:τ} (e:F=v) (g:τ->AV) (h:Lw tt rs (s.map (Wn (X5 frz) uB))=G (g v):=by kernel_rfl):Qcv tt rs (g F) .ret s:=G9 frz h (e▸rfl)
theorem pb {F v:uD} (frz:W Y) (e:F=v) (h:Lw tt rs (s.map (Wn (X5 frz) uB))=G (.b v):=by kernel_rfl):Qcv tt rs (.b F) .ret s:=G9 frz h (e▸rfl)
theorem pi {F v:H} (frz:W Y) (e:F=v) (h:Lw tt rs (s.map (Wn (X5 frz) uB))=G (.i v):=by kernel_rfl):Qcv tt rs (.i F) .ret s:=G9 frz h (e▸rfl)
theorem ps {F v:uE} (frz:W Y) (e:F=v) (h:Lw tt rs (s.map (Wn (X5 frz) uB))=G (.s v):=by kernel_rfl):Qcv tt rs (.s F) .ret s:=G9 frz h (e▸rfl)
theorem po0 {α:Type} [GoE α] {F v:W α} (frz:W Y) (e:F=v) (h:Lw tt rs (s.map (Wn (X5 frz) uB))=G (.o 0 v):=by kernel_rfl):Qcv tt rs (.o 0 F) .ret s:=G9 frz h (e▸rfl)
theorem ph0 {α:Type} [GoE α] {F v:W α} (frz:W Y) (e:F=v) (h:Lw tt rs (s.map (Wn (X5 frz) uB))=G (.h v):=by kernel_rfl):Qcv tt rs (.h F) .ret s:=G9 frz h (e▸rfl)
end
theorem wn {R S T:Type} {f:S->Rd R S T} {n:Y} {s s':S} {o:Out R T} (hI:whl f (n+1) s=G o) (h:f s= .next s'):whl f n s'=G o:=Qih h hI
theorem wb {R S T:Type} {f:S->Rd R S T} {n:Y} {s:S} {t:T} {o:Out R T} (hI:whl f (n+1) s=G o) (h:f s= .brk t):o= .brk t:=Ql5 h hI
theorem ng {α:Type} [uQ α] (l:W α) (i:Y) (h:i<l.length:=by omega):l[i]? =G (nth l i):=Cu h
theorem en {P:uJ} {tt:W (Y×TI)} (htt:Fb P tt=E) {f:Y} {fn:Func} {c:uI} (hf:P.funcs[f]? =G fn) {args:W AV} {r:AV}
 (h:∀w0 F0,GoodAt P w0->AWP P fn.ntmps w0 F0 c (Qcv tt fn.results.toList r) (YB args)) (hb:fn.body=G c:=by exact rfl) (hok:F9 P f:=by unfold F9;kernel_rfl) (hn:args.length<=fn.ntmps:=by exact Nat.le_of_ble_eq_true rfl):ACalls P f args r:=Tt htt hf hb hok hn h
theorem nm {α:Type} (t:α):∃z,t=z:=⟨_,rfl⟩
theorem wf0 {s s':St} (h:s.fit s'=s':=by kernel_rfl):Weak s s':=Qe h
theorem xw {α:Type} {s:St} {t:α->St} {b:α->Prop} (w:α) (hb:b w) (h:s.fit (t w)=t w:=by kernel_rfl):∃x,Weak s (t x)/\b x:=⟨w,Qe h,hb⟩
end
section
section
variable {α R S T:Type} {f g:Y->α->S->Rd R S T} {e e':Y->S->T}
theorem Io (he:∀k s,e k s=e' k s):∀(l:W α) (k:Y) (s:S),(∀i a s,l[i]? =G a->f (k+i) a s=g (k+i) a s)->X4 f e l k s=X4 g e' l k s
 | [],k,s,_=>by simp only[X4,he]
 | a ::l,k,s,h=>by
   have h0:=h 0 a s rfl;simp only[X4];rw[Nat.add_zero] at h0;rw[h0];cases g k a s with
   | next s'=>
     refine Io he l (k+1) s' λi a s hi=> ?_
     have:=h (i+1) a s (by simpa using hi)
     rwa [show k+(i+1)=k+1+i by omega] at this
   | brk t=>rfl
   | ret r=>rfl
theorem Nf (hf:∀k a s,f k a s=g k a s) (he:∀k s,e k s=e' k s) (l:W α) (k:Y) (s:S):X4 f e l k s=X4 g e' l k s:=Io he l k s λ_ _ _ _=>hf _ _ _
end
section
variable {R S T:Type} {f g:Y->S->Rd R S T} {e e':Y->S->T}
theorem BT (he:∀k s,e k s=e' k s):∀(n k:Y) (s:S),(∀i s,k<=i->i<k+n->f i s=g i s)->Ks f e n k s=Ks g e' n k s
 | 0,k,s,_=>by simp only[Ks,he]
 | n+1,k,s,h=>by
   simp only[Ks];rw[h k s (zU _) (by omega)];cases g k s with
   | next s'=>exact BT he n (k+1) s' λi s h1 h2=>h i s (by omega) (by omega)
   | brk t=>rfl
   | ret r=>rfl
end
section
variable {α R T:Type} {f:Y->α->uL->Rd R uL T} {e:Y->uL->T}
theorem T0 (hb :∀k a t,f k a ()≠ .brk t):∀{l:W α} {k:Y} {t:T},X4 f e l k ()= .brk t->∀(i:Y) (a:α),l[i]? =G a->f (k+i) a ()= .next ()
 | [],_,_,_,i,a,hi=>by simp at hi
 | x :: l, k, t,h,i,a,hi=>by
   simp only[X4] at h;cases hf:f k x () with
   | next s'=>
     rw[hf] at h;cases i with
     | zero => obtain rfl:x=a:=by simpa using hi
               exact hf
     | succ i=>
       have:=T0 hb (k:=k+1) h i a (by simpa using hi)
       rwa [show k+1+i=k+(i+1) by omega] at this
   | brk t'=>exact (hb k x t' hf).elim
   | ret r=>rw[hf] at h;cases h
end
theorem Ng {α β R T:Type} {f:Y->α->W β->Rd R (W β) T} {e:Y->W β->T} {p:α->uD} {g:α->β} (hf:∀k a s,f k a s=(bif p a then .next (s++ [g a]) else .next s)):∀(l:W α) (k:Y) (s:W β),X4 f e l k s= .brk (e (k+l.length) (s++(l.filter p).map g))
 | [],k,s=>by simp[X4]
 | a::l,k,s=>by
   simp only[X4,hf];cases hp:p a with
   | true=>simp only[uR];rw[Ng hf l (k+1),show k+1+l.length=k+(l.length+1) by omega];simp[hp]
   | false=>simp only[uT];rw[Ng hf l (k+1),show k+1+l.length=k+(l.length+1) by omega];simp[hp]
theorem Vi {α β R T:Type} {f:Y->α->W β->Rd R (W β) T} {e:Y->W β->T} {g:α->β} (hf:∀k a s,f k a s= .next (s++ [g a])):∀(l:W α) (k:Y) (s:W β),X4 f e l k s= .brk (e (k+l.length) (s++l.map g))
 | [],k,s=>by simp[X4]
 | a::l,k,s=>by
   simp only[X4,hf];rw[Vi hf l (k+1),show k+1+l.length=k+(l.length+1) by omega];simp
theorem Qef {R S T:Type} {f:S->Rd R S T} (m:S->H) (N:H) (h:∀s s',0<=m s->f s= .next s'->m s<N/\m s'=m s+1):∀(n:Y) (s:S),0<=m s->N<=m s+n->(whl f (n+1) s).isSome=E
 | n, s,h0,hn=>by
   simp only[whl];cases hf:f s with
   | brk t=>rfl
   | ret r=>rfl
   | next s'=>
     obtain ⟨h1,h2⟩:=h s s' h0 hf;cases n with
     | zero=>omega
     | succ n=>exact Qef m N h n s' (by omega) (by omega)
end
section
open Go.RowKit
def Qol (cs:W C) (args:W AV):St:=⟨BF 0 (.one (.ptr bxK 0)::args), [(bxK,cs)]⟩
def Qom (frz:W Y) (cs:W C) (s:St):Prop:=∃cx,get (s.map (Wn (X5 frz) uB)).bx bxK=G cx/\(H3 Qhd cx&&Ae (Qv cx))=E/\OI 40 cx=cs
def Qon (tt:W (Y×TI)) (rs:W ResultVar) (r:AV) (cs:W C) (e:Exit) (s:St):Prop:=
 (e= .ret\/e= .normal)/\∃frz,Lw tt rs (s.map (Wn (X5 frz) uB))=G r/\Qom frz cs s
def Qeg (frz:W Y) (s:St):uG (W C):=match get (s.map (Wn (X5 frz) uB)).bx bxK with
 | some cx=>bif H3 Qhd cx&&Ae (Qv cx) then G (OI 40 cx) else uB
 | none=>uB
theorem Qeh {frz:W Y} {cs:W C} {s:St} (h:Qeg frz s=G cs):Qom frz cs s:=by
 unfold Qeg at h;split at h
 . rename_i cx hx;cases hc:(H3 Qhd cx&&Ae (Qv cx)) with
   | true=>rw[hc] at h;exact ⟨cx,hx,hc,zD h⟩
   | false=>rw[hc] at h;cases h
 cases h
theorem SW {tt:W (Y×TI)} {rs:W ResultVar} {r b:AV} {cs cs0:W C} {s:St} (frz:W Y) (e:b=r) (ec:cs0=cs) (h:Lw tt rs (s.map (Wn (X5 frz) uB))=G b:=by kernel_rfl) (h':Qeg frz s=G cs0:=by kernel_rfl):Qon tt rs r cs .ret s:=⟨.inl rfl,frz,e▸h,ec▸Qeh h'⟩
section
variable {P:uJ} {N:Y} {w0:Base} {F0:Y->Prop} {J:Inj} {a:Act} {w:uC} {s:St}
theorem IP {w':uC} {tt:W (Y×TI)} (htt:Fb P tt=E) {fn:Func} {r:AV} (hrel:Rel N w0 F0 J a w' s) (h:Lw tt fn.results.toList s=G r):∃v L',(results fn a.tmps).run P w'= .ok v w'/\(∀k,(L' k).Nodup)/\(∀k x,x∈L' k->∃k0,x∈J.L k0)/\(∀k k' x,x∈L' k->x∈L' k'->k=k')/\AR ⟨J.F,L',λ_=>0⟩ w' v r:=by
 unfold Lw at h;split at h
 . rename_i vs hvs;split at h
   . rename_i x hx;cases hc:(H3 Qlv x.cells&&Ae (Qv x.cells)) with
     | false=>rw[hc] at h;cases h
     | true =>
       rw[hc] at h;obtain rfl:=zD h;simp only[zH] at hc;obtain ⟨hok,hnd⟩:=hc;have hnd:=Cg.1 hnd;obtain ⟨us,hrun,hall⟩:=Tr (P:=P) htt hrel hvs
       have hres:∃v,(results fn a.tmps).run P w'= .ok v w'/\AR J w' v x:=by
        have hm:(fn.results.mapM (VZ a.tmps)).run P w'= .ok us.toArray w':=by
         rw[xC];simp[hrun]
        have hgen:(results fn a.tmps).run P w'= .ok (if h:us.toArray.size=1 then us.toArray[0] else .tuple us.toArray) w':=by
         rw[YC];simp only[Sem.run_bind,hm,Result.andThen_ok,Sem.run_pure]
        cases hall with
        | nil=>
          obtain rfl:AV.tup []=x:=by simpa [BG,Su] using hx
          exact ⟨.tuple #[],by rw[hgen];simp, [],rfl,.nil⟩
        | cons h1 h2=>
          cases h2 with
          | nil=>
            obtain rfl:=zD hx;exact ⟨_,by rw[hgen];simp,h1⟩
          | cons h2 h3=>
            obtain ⟨ps,hps,rfl⟩:=zK.1 hx;exact ⟨_,by rw[hgen];simp,_,rfl,DQ hps (.cons h1 (.cons h2 h3))⟩
       obtain ⟨v,hv,hvr⟩:=hres;refine ⟨v,OS J (Qv x.cells),hv,λi=> ?_,λi b hb=> ?_,λi i' b hb hb'=> ?_, ?_⟩
       . unfold OS;split
         . exact hrel.nd _
         simp
       . obtain ⟨k,_,hm⟩:=Na hb;exact ⟨k,hm⟩
       . obtain ⟨k,hk,hm⟩:=Na hb;obtain ⟨k',hk',hm'⟩:=Na hb';have:=hrel.dj k k' b hm hm';subst this;obtain ⟨l1,e1⟩:=zF.1 hk;obtain ⟨l2,e2⟩:=zF.1 hk';rcases xD i i' with hlt | he | hlt
         . exact absurd (e1.trans e2.symm) (yC.1 hnd i i' l1 l2 hlt)
         . exact he
         exact absurd (e2.trans e1.symm) (yC.1 hnd i' i l2 l1 hlt)
       refine AR.map _ hvr λu c hcm hcr=> ?_
       have hfo:=Hf hok c hcm;cases c with
       | int | bool | str | raw=>exact hcr
       | slc t n l=>
         cases t with
         | emp=>exact hcr
         | sh=>exact VV.keep (λb hb=>⟨hb,rfl⟩) hcr
         | vw k=>cases hfo
         | put=>exact hcr.elim
         | own b k=>
           cases b with
           | false=>
             show OwnTop J.F (OS J (Qv x.cells) (Qkg k (Qv x.cells))) w' u _ _;unfold OS;rw[Ts (M7 hcm rfl)];exact hcr
           | true=>
             show OwnDeep (OS J (Qv x.cells) (Qkg k (Qv x.cells))) w' u _ _;unfold OS;rw[Ts (M7 hcm rfl)];exact hcr
       | _=>cases hfo
   cases h
 cases h
theorem DV {tt:W (Y×TI)} (htt:Fb P tt=E) {f:Y} {fn:Func} {c:uI} (hf:P.funcs[f]? =G fn) (hb:fn.body=G c) (hok:F9 P f) {cs cs':W C} {args:W AV} {r:AV} (hn:args.length+1<=fn.ntmps) (hN:fn.ntmps<=bxK) (hr:H3 AD r.cells=E) (hfa:H3 AD (Y6 args)=E)
 (h:∀w0 F0,GoodAt P w0->AWP P fn.ntmps w0 F0 c (Qon tt fn.results.toList r cs') (Qol cs args)):AGive P f cs args r cs':=by
 refine ⟨hok,λw F L b vals hG hgv hbox hargs=>calls_of_wp hf hb ?_⟩;have hlen:=hargs.length;obtain ⟨arr,e,hheap,hcells⟩:=hbox;have hblt:=Xe hheap;refine wp_mono (h ⟨w,λx=>x=b\/∃j,x∈L j,G b⟩ F hG (Qht F L b) _ w ?_) ?_
 . refine { below:=Base.Keeps.refl _,nodef:=rfl,size:= ?_,fl:=λx hx=>⟨hgv.fl x hx,.inl hx⟩,f0:=λx hx=>hx,nd:=hgv.nd,lo:=λk x hx=>⟨.inr (.inr ⟨k,hx⟩),hgv.lt k x hx⟩,dj:=hgv.dj,
            bo:=λk c hc=> ?_,nb:= .inr hN,cb:=λx hx=>(zD hx),bi:=λk k' c c' hc hc' _=> ?_,tm:=λt v' hv=> ?_}
   . simp;omega
   . have hc:get [(bxK,cs)] k=G c:=hc;simp only[get] at hc;split at hc
     . obtain rfl:=zD hc;exact ⟨.inr (.inl rfl),hgv.bF,hgv.bL,arr,e,hheap,hcells⟩
     cases hc
   . have hc:get [(bxK,cs)] k=G c:=hc;have hc':get [(bxK,cs)] k'=G c':=hc';simp only[get] at hc hc';split at hc
     . split at hc'
       . rename_i e1 e2;exact e1.symm.trans e2
       cases hc'
     cases hc
   obtain ⟨_,ht⟩:=Pa hv;have hall:All2 (AR (Qht F L b) w) (.pointer (G ⟨b,0,uB⟩)::vals) (.one (.ptr bxK 0)::args):= .cons rfl ?_
   . obtain ⟨u,hu,hr⟩:=hall.get' ht;have hlt:t<(Value.pointer (G ⟨b,0,uB⟩)::vals).length:=(zF.1 hu).1
     have:((Value.pointer (G ⟨b,0,uB⟩)::vals).toArray++xJ (fn.ntmps-(Value.pointer (G ⟨b,0,uB⟩)::vals).toArray.size) undef).getD t undef=u:=by
      rw[zN,yH (by simpa using hlt)];simp at hu⊢;rw[hu];rfl
     rw[this];exact hr
   exact OJ hargs hfa
 rintro e' a' w' ⟨J',s',hR,he,frz,hg,cx,hbx,hcx,rfl⟩
 simp only[zH] at hcx;obtain ⟨J'',hR⟩:=Bj frz rfl _ _ _ _ _ _ hR;obtain ⟨v,_,h1,_,_,_,h5⟩:=IP (P:=P) htt (fn:=fn) hR hg;have hB:J''.B bxK=b:=hR.cb b rfl;obtain ⟨_,b2,b3,arr',e2,b4,b5⟩:=hR.bo bxK cx hbx;rw[hB] at b2 b3 b4
 have hmem:∀k x,x∈ZW J'' 40 cx k->x<w'.heap.size/\(w.heap.size<=x\/∃j,x∈L j)/\x≠b/\¬J''.F x:=λk x hx=>by
  obtain ⟨k0,_,hm⟩:=KB hx;obtain ⟨g1,g2,g3⟩:=hR.lo k0 x hm;have hne:x≠b:=λe=>b3 k0 (e▸hm)
  exact ⟨g2,g1.imp id λg=>g.resolve_left hne,hne,g3⟩
 have hFF:∀x,J''.F x->(Qc8 F L w w' (ZW J'' 40 cx)).F x:=λx hx=>by
  obtain ⟨g1,g2⟩:=hR.fl x hx;rcases g2 with g2 | g2 | g2
  . exact .inl g2
  . exact .inr ⟨.inl g2,g1,λk hm=>(hmem k x hm).2.2.2 hx⟩
  have hne:x≠b:=λe=>b2 (e▸hx)
  exact .inr ⟨.inr (g2.resolve_left hne),g1,λk hm=>(hmem k x hm).2.2.2 hx⟩
 have hT:Qp9 F L b w r (OI 40 cx) (.returned v) w':=by
  refine ⟨v,ZW J'' 40 cx,rfl,hR.below.os,hR.below.tape,hR.below.output,hR.below.size,λk hk hn1 hn2=>hR.below.block k hk λhx=>hx.elim hn1 λ⟨j,hj⟩=>hn2 j hj,OK hR cx 40,λk x hx=>⟨(hmem k x hx).1,(hmem k x hx).2.1⟩,λk k' x h1 h2=>OL hR (Cg.1 hcx.2) h1 h2,Qde h5 hr,arr',e2,b4, ?_⟩;have:=DM (b:=0) (F:=(Qc8 F L w w' (ZW J'' 40 cx)).F) hFF (L:=ZW J'' 40 cx) b5 hcx.1 λ_ _=>rfl
  exact this
 rcases he with rfl | rfl
 . exact ⟨hR.nodef,v,h1,hT⟩
 exact ⟨hR.nodef,v,h1,hT⟩
theorem Qmb {J J':Inj} {w:uC} {v:uF} {x:AV} (h:AR J w v x) (hp:H3 Qn8 x.cells=E) (hL:J'.L=J.L):AR J' w v x:=by
 have :=AR.map (J':=J') (w':=w) id h λu c hc hcr=>by
  have hb:=Hf hp c hc;cases c with
  | int | bool | str=>exact hcr
  | slc t n l=>
    cases t with
    | own d k=>
      cases d with
      | true=>show OwnDeep (J'.L k) w u n l;rw[hL];exact hcr
      | false=>cases hb
    | _=>cases hb
  | _=>cases hb
 rwa [show x.map id=x by cases x<;>simp[AV.map]] at this
theorem Qei {tt:W (Y×TI)} (htt:Fb P tt=E) {f:Y} {fn:Func} {c:uI} (hf:P.funcs[f]? =G fn) (hb:fn.body=G c) (hok:F9 P f) {args:W AV} {r:AV} (hn:args.length<=fn.ntmps) (hr:H3 Qn8 r.cells=E)
 (h:∀w0 F0,GoodAt P w0->AWP P fn.ntmps w0 F0 c (Qcv tt fn.results.toList r) (YB args)):AVal P f args r:=by
 refine ⟨hok,λw F L vals hG hO hargs=>calls_of_wp hf hb ?_⟩;have hlen:=hargs.length;refine wp_mono (h ⟨w,λx=>∃j,x∈L j,uB⟩ F hG (Qpy F L) _ w ?_) ?_
 . refine { below:=Base.Keeps.refl _,nodef:=rfl,size:= ?_,fl:=λx hx=>⟨hO.fl x hx,.inl hx⟩,f0:=λx hx=>hx,nd:=hO.nd,lo:=λk x hx=>⟨.inr ⟨k,hx⟩,hO.lt k x hx⟩,dj:=hO.dj,
            bo:=λk c hc=>by simp[YB,get] at hc,nb:= .inl rfl,cb:=(λb hb=>by cases hb),bi:=λk k' c c' hc=>by simp[YB,get] at hc,tm:=λt v' hv=> ?_}
   . simp;omega
   obtain ⟨_,ht⟩:=Pa hv;obtain ⟨u,hu,hr⟩:=hargs.get' ht;have hlt:t<vals.length:=(zF.1 hu).1
   have:(vals.toArray++xJ (fn.ntmps-vals.toArray.size) undef).getD t undef=u:=by
    rw[zN,yH (by simpa using hlt)];simp at hu⊢;rw[hu];rfl
   rw[this];exact hr
 rintro e' a' w' ⟨J',s',hR,hP⟩
 have key:(∃frz,Lw tt fn.results.toList (s'.map (Wn (X5 frz) uB))=G r)->∃v,(results fn a'.tmps).run P w'= .ok v w'/\Qqa L w r (.returned v) w':=by
  rintro ⟨frz,hg⟩
  obtain ⟨J'',hR⟩:=Bj frz rfl _ _ _ _ _ _ hR;obtain ⟨v,L',h1,h2,h3,h4,h5⟩:=IP (P:=P) htt (fn:=fn) hR hg;refine ⟨v,h1,v,L',rfl,hR.below.os,hR.below.tape,hR.below.output,hR.below.size,λk hk hn=>hR.below.block k hk λ⟨j,hj⟩=>hn j hj,h2,λk x hx=> ?_,h4,Qmb h5 hr rfl⟩;obtain ⟨k0,hm⟩:=h3 k x hx;obtain ⟨g1,g2,_⟩:=hR.lo k0 x hm;exact ⟨g2,g1⟩
 cases e' with
 | normal=>obtain ⟨v,h1,h2⟩:=key hP;exact ⟨hR.nodef,v,h1,h2⟩
 | ret=>obtain ⟨v,h1,h2⟩:=key hP;exact ⟨hR.nodef,v,h1,h2⟩
 | _=>exact hP.elim
end
theorem gb {P:uJ} {f:Y} {cs:W C} {args:W AV} {a b:uD} {cs2:W C} (h:a=b) (c:AGive P f cs args (.one (.bool a)) cs2):AGive P f cs args (.one (.bool b)) cs2:=h▸c
end
section
open Go.RowKit
open GoD (rd own)
structure Chg (L:W Y) (w w':uC):Prop where
 os:w'.os=w.os
 tape:w'.tape=w.tape
 output:w'.output=w.output
 size:w.heap.size<=w'.heap.size
 block:∀b,b<w.heap.size->b∉L->w'.heap[b]? =w.heap[b]?
theorem Chg.refl (L:W Y) (w:uC):Chg L w w:=⟨rfl,rfl,rfl,Nat.le_refl _,λ_ _ _=>rfl⟩
theorem Chg.trans {L:W Y} {a b c:uC} (h:Chg L a b) (k:Chg L b c):Chg L a c:=
 ⟨k.os.trans h.os,k.tape.trans h.tape,k.output.trans h.output,zY h.size k.size,λi hi hn=>(k.block i (yQ hi h.size) hn).trans (h.block i hi hn)⟩
theorem Chg.mono {L M:W Y} {w w':uC} (h:Chg L w w') (hs:∀b,b∈L->b∈M):Chg M w w':=
 ⟨h.os,h.tape,h.output,h.size,λb hb hn=>h.block b hb (λhm=>hn (hs b hm))⟩
theorem Chg.of_below {L:W Y} {w w':uC} (h:Below w.heap.size w w'):Chg L w w':=⟨h.os,h.tape,h.output,h.size,λb hb _=>h.block b hb⟩
theorem Chg.below {L:W Y} {B:Y} {w w':uC} (h:Chg L w w') (hB:B<=w.heap.size) (hL:∀b,b∈L->B<=b):Below B w w':=
 ⟨h.os,h.tape,h.output,h.size,λk hk=>h.block k (by omega) (λhm=>by have:=hL k hm;omega)⟩
theorem Chg.cell {L:W Y} {w w':uC} (h:Chg L w w') {b:Y} (hb:b<w.heap.size) (hn:b∉L) (o:Y):w'.cell? ⟨b,o,uB⟩=w.cell? ⟨b,o,uB⟩:=
 World.cell?_of_block (h.block b hb hn)
theorem Chg.frozen {L:W Y} {w w':uC} (h:Chg L w w') {b:Y} (hb:b<w.heap.size) (hn:b∉L) (o:Y):w'.frozen? ⟨b,o,uB⟩=w.frozen? ⟨b,o,uB⟩:=
 World.frozen?_of_block (h.block b hb hn)
section
variable {α β:Type} [GoD α] [GoD β]
structure Upd (g lo m:Y) (Li:W Y) (w w':uC):Prop where
 chg:Chg (g::Li) w w'
 row:∀cur e,w.heap[g]? =G (.cells cur e (0,0))->∃cur',w'.heap[g]? =G (.cells cur' e (0,0))/\cur'.size=cur.size/\∀j,(j<lo\/lo+m<=j)->cur'[j]? =cur[j]?
theorem Upd.refl (g lo m:Y) (Li:W Y) (w:uC):Upd g lo m Li w w:=⟨Chg.refl _ _,λcur _ h=>⟨cur,h,rfl,λ_ _=>rfl⟩⟩
theorem Upd.setCell {g lo m:Y} {Li:W Y} {w w':uC} (h:Upd g lo m Li w w') (o:Y) (ho:lo<=o/\o<lo+m) (v:uF):Upd g lo m Li w (w'.setCell ⟨g,o,uB⟩ v):=by
 refine ⟨h.chg.trans ⟨rfl,rfl,rfl,by simp,λb _ hn=>Ot w' g o v (λe=>hn (by simp[e]))⟩,λcur e hc=> ?_⟩;obtain ⟨cur',h1,h2,h3⟩:=h.row cur e hc;refine ⟨_,Oq w' g o v h1,by simpa using h2,λj hj=> ?_⟩;rw[Array.getElem?_setIfInBounds,uH (by omega)];exact h3 j hj
theorem Upd.mark {g lo m:Y} {Li M:W Y} {w w' w'':uC} (h:Upd g lo m Li w w') (hc:Chg M w' w'') (hs:∀b,b∈M->b∈Li) (hg:g∉M) (hlt:g<w'.heap.size):Upd g lo m Li w w'':=by
 refine ⟨h.chg.trans (hc.mono λb hb=>zT _ (hs b hb)),λcur e hcur=> ?_⟩;obtain ⟨cur',h1,h2,h3⟩:=h.row cur e hcur;exact ⟨cur',(hc.block g hlt hg).trans h1,h2,h3⟩
theorem Upd.below {g lo m:Y} {Li:W Y} {w w' w'':uC} (h:Upd g lo m Li w w') (hc:Below w'.heap.size w' w'') (hlt:g<w'.heap.size):Upd g lo m Li w w'':=
 h.mark (M:= []) (Chg.of_below hc) (by simp) (by simp) hlt
theorem Qbh {l:W α} (h:∀a:α,GoD.size a=0):GoD.size l=l.length:=by rw[Ml,RX l h];rfl
theorem T1 (l:W α):∀k,(Sm l k).1.length=l.length:=by
 induction l with
 | nil=>intro k;rfl
 | cons x l ih=>intro k;simp[Sm,ih]
end
section
variable {α:Type} [GoD α]
end
end
section
open Go.RowKit
open GoD (rd own)
abbrev K4:=H×H×uE
abbrev Y7:=uE×H
abbrev Ui:=uE×K4
abbrev Yj:=H×H×uD×H×(W Ui)
abbrev Yk:=(W Y7)×(W Yj)×H
abbrev Q2:=H×H×H×uE×K4
abbrev Zj:=uE×(W Q2)
abbrev Qp:=uE×(W H)
abbrev Qbi:=uE×(W H)×(W H)
abbrev U7:=Yk×(W Zj)×(W Qp)
abbrev Qq:=Yk×(W Zj)
abbrev Nh:=uE×uE
abbrev Yn:=H×Qq×H
abbrev K5:=H×(W H)×(W H)
abbrev Z7:=H×uE×(W H)×(W K5)
abbrev Jd:=U7×Nh×H×(W Yn)×(W Z7)×(W H)
theorem Mq {α:Type} {l:W α} (h:l.length=1):∃x0,l= [x0]:=by
 match l,h with
 | [x0],_=>exact ⟨x0,rfl⟩
theorem BU {α:Type} {l:W α} (h:l.length=2):∃x0 x1,l= [x0,x1]:=by
 match l,h with
 | [x0,x1],_=>exact ⟨x0,x1,rfl⟩
theorem Qoo {α:Type} {l:W α} (h:l.length=3):∃x0 x1 x2,l= [x0,x1,x2]:=by
 match l,h with
 | [x0,x1,x2],_=>exact ⟨x0,x1,x2,rfl⟩
theorem Qqi {α:Type} {l:W α} (h:l.length=4):∃x0 x1 x2 x3,l= [x0,x1,x2,x3]:=by
 match l,h with
 | [x0,x1,x2,x3],_=>exact ⟨x0,x1,x2,x3,rfl⟩
theorem Qq0 {α:Type} {l:W α} (h:l.length=5):∃x0 x1 x2 x3 x4,l= [x0,x1,x2,x3,x4]:=by
 match l,h with
 | [x0,x1,x2,x3,x4],_=>exact ⟨x0,x1,x2,x3,x4,rfl⟩
theorem Qrb {α:Type} {l:W α} (h:l.length=6):∃x0 x1 x2 x3 x4 x5,l= [x0,x1,x2,x3,x4,x5]:=by
 match l,h with
 | [x0,x1,x2,x3,x4,x5],_=>exact ⟨x0,x1,x2,x3,x4,x5,rfl⟩
theorem Qrc {α:Type} {l:W α} (h:l.length=7):∃x0 x1 x2 x3 x4 x5 x6,l= [x0,x1,x2,x3,x4,x5,x6]:=by
 match l,h with
 | [x0,x1,x2,x3,x4,x5,x6],_=>exact ⟨x0,x1,x2,x3,x4,x5,x6,rfl⟩
theorem IQ {w:uC} {cs:W uF} {a:Jd} (h:rd w cs a):∃(oa1:uG Addr) (cp1:Y) (oa2:uG Addr) (cp2:Y) (oa3:uG Addr) (cp3:Y) (oa4:uG Addr) (cp4:Y) (oa5:uG Addr) (cp5:Y) (oa6:uG Addr) (cp6:Y) (oa7:uG Addr) (cp7:Y),cs= [.slice oa1 a.1.1.1.length cp1,.slice oa2 a.1.1.2.1.length cp2,.int .i64 a.1.1.2.2,.slice oa3 a.1.2.1.length cp3,.slice oa4 a.1.2.2.length cp4,.string a.2.1.1,.string a.2.1.2,.int .i64 a.2.2.1,.slice oa5 a.2.2.2.1.length cp5,.slice oa6 a.2.2.2.2.1.length cp6,.slice oa7 a.2.2.2.2.2.length cp7]:=by
 obtain ⟨_,_,rfl,⟨_,_,rfl,⟨_,_,rfl,⟨oa1,cp1,rfl,_⟩,⟨_,_,rfl,⟨oa2,cp2,rfl,_⟩,⟨rfl,_⟩⟩⟩,⟨_,_,rfl,⟨oa3,cp3,rfl,_⟩,⟨oa4,cp4,rfl,_⟩⟩⟩,⟨_,_,rfl,⟨_,_,rfl,⟨rfl,_⟩,⟨rfl,_⟩⟩,⟨_,_,rfl,⟨rfl,_⟩,⟨_,_,rfl,⟨oa5,cp5,rfl,_⟩,⟨_,_,rfl,⟨oa6,cp6,rfl,_⟩,⟨oa7,cp7,rfl,_⟩⟩⟩⟩⟩⟩:=h;exact ⟨oa1,cp1,oa2,cp2,oa3,cp3,oa4,cp4,oa5,cp5,oa6,cp6,oa7,cp7,rfl⟩
def eqb {α:Type} [GoD α] (a b:α):uD:= @decide (a=b) (GoD.deq a b)
theorem Qmc (a b:uE):(a.toList==b.toList)=eqb a b:=by
 unfold eqb;rw[ByteArray.toList_eq,ByteArray.toList_eq,Bool.eq_iff_iff];simp only[beq_iff_eq,decide_eq_true_eq];constructor
 . intro h;cases a;cases b;simp_all [Array.toList_inj]
 intro h;rw[h]
end
section
open Go.RowKit
open GoD (rd own)
theorem Qmd {P:uJ} (w:uC) (base:Y) (t ty e:uK) (i:TypeInfo) (z:uF) (ht:P.underlying t=G (.slice e)) (hi:P.info? e=G i) (hz:i.zero=G z)
 (hzs:z.cells.size=i.size) (hsz:0<i.size) (hb:i.bytes<=1000) {v:uF} {n:Y} {xs:W uF} (hown:w.ownsRow base e i.size v n xs)
 (a:Addr) (m c:Y) (news:W uF) (hl:news.length=m*i.size) (hnews:∀j u,news[j]? =G u->w.cell? (a.add j)=G u) (h1:∀u∈news,u.oneCell'=E)
 (hnm:n+m<=1073741824) (hbase:base<=w.heap.size):
 ∃ v' w',(Builtin.append_ #[t,t] ty #[v,.slice (G a) m c]).run P w= .ok v' w'/\w'.ownsRow base e i.size v' (n+m) (xs++news)/\w.grownBy w' v.ownBlock/\
   (∀g,v'.ownBlock=G g->v.ownBlock=G g\/w.heap.size<=g)/\(∀x k c,v= .slice (G x) k c->c<n+m->(∀g,v'.ownBlock=G g->w.heap.size<=g)/\w.grownBy w' uB):=by
 have hbytes:((n+m)+(n+m) / 4+192)*i.bytes<=281474976710656:=zY (Nat.mul_le_mul (show _<=1342177472 by omega) hb) (by decide);have h63:n+m<=uU:=by unfold uU;omega
 rcases hown.2 with ⟨rfl,rfl⟩ | ⟨g,cap,cur,rfl,hbg,hg,hnc,hcm,hcs,htake⟩
 . have h0:w.ownsRow w.heap.size e i.size (.slice uB 0 0) 0 xs:=⟨hown.1,.inl ⟨rfl,rfl⟩⟩;obtain ⟨v',w',hr,hw,hgr,_⟩:=run_append_own_wide w w.heap.size t ty e i z i.size i.bytes ht hi hz rfl rfl hzs hsz _ 0 xs h0 a m c news hl hnews h1 h63 hbytes (zU _);refine ⟨v',w',hr,⟨hw.1, ?_⟩,hgr,λg hg=> .inr (World.ownsRow.lt hw g hg).1,λx k c h=>(by cases h)⟩;rcases hw.2 with h | ⟨g,cap,cur,h1,h2,h3⟩
   . exact .inl h
   exact .inr ⟨g,cap,cur,h1,zY hbase h2,h3⟩
 by_cases hroom:n+m<=cap
 . obtain ⟨w',hr,hw,hgr⟩:=run_append_own_spare w base t ty e i i.size ht hi rfl g n cap xs hown a m c news hl hnews h1 hroom;exact ⟨_,w',hr,hw,hgr,λk hk=> .inl hk,λx k c h hlt=>(by cases h;omega)⟩
 have hgs:cap<n+m:=by omega
 have hr:=run_append_grow (P:=P) w t ty e i z ht hi hz ⟨g,0,uB⟩ n cap xs hown.1 (hown.cells (g:=g) rfl) a m c news hl hnews hgs (by unfold uU at h63;omega) (growslice_fits_wide hgs hbytes)
 refine ⟨_,_,hr,⟨by rw[yP,hown.1,hl,zX],.inr ⟨w.heap.size,_,_,rfl,hbase,heap_alloc_new w.drew _,grownCap_ge w (n+m) cap e,grownCap_le_maxLen w (n+m) cap e h63, ?_, ?_⟩⟩,
  ⟨rfl,rfl,rfl,by simp,λk hk _=>heap_alloc_old w.drew _ hk⟩,λk hk=> .inr ?_,λx k c _ _=>⟨λg' hk=> ?_,rfl,rfl,rfl,by simp,λk hk _=>heap_alloc_old w.drew _ hk⟩⟩
 . have hge:=grownCap_ge w (n+m) cap e;simp only[Array.size_append,List.size_toArray,size_zeroCells,hzs,hown.1,hl,←zX]
   congr 1
   omega
 . simp only[Array.toList_append,List.append_assoc];rw[←List.append_assoc,yV (by simp[hown.1,hl,zX]),List.take_of_length_le (by simp[hown.1,hl,zX])]
 . simp only[Value.ownBlock,yR] at hk;omega
 simp only[Value.ownBlock,yR] at hk;omega
section
variable {α:Type} [GoD α]
def App (e:uK) (w0 w:uC) (L:W Y) (v:uF) (l:W α):Prop:=
 ∃ (xs:W uF) (Ls:W (W Y)),w.ownsRow w0.heap.size e (GoD.n α) v l.length xs/\L=v.ownBlock.toList++Ls.flatten/\L.Nodup/\(∀b,b∈L->w0.heap.size<=b/\b<w.heap.size)/\Ls.length=l.length/\
   ∀i Li a,Ls[i]? =G Li->l[i]? =G a->own Li w ((xs.drop (i*GoD.n α)).take (GoD.n α)) a
def AppR (e:uK) (w0 w:uC) (v:uF) (l:W α):Prop:=
 ∃(xs:W uF),w.ownsRow w0.heap.size e (GoD.n α) v l.length xs/\∀i a,l[i]? =G a->rd w0 ((xs.drop (i*GoD.n α)).take (GoD.n α)) a
theorem ZY {w w':uC} {base:Y} {e:uK} {sz n:Y} {v:uF} {xs:W uF} (h:w.ownsRow base e sz v n xs) (hb:∀b,v.ownBlock=G b->w'.heap[b]? =w.heap[b]?):w'.ownsRow base e sz v n xs:=by
 refine ⟨h.1, ?_⟩;rcases h.2 with h | ⟨g,cap,cur,rfl,h2,h3,h4⟩
 . exact .inl h
 exact .inr ⟨g,cap,cur,rfl,h2,(hb g rfl).trans h3,h4⟩
theorem App.keep {e:uK} {w0 w w':uC} {L:W Y} {v:uF} {l:W α} (h:App e w0 w L v l) (hb:Below w.heap.size w w'):App e w0 w' L v l:=by
 obtain ⟨xs,Ls,h1,h2,h3,h4,h5,h6⟩:=h;exact ⟨xs,Ls,ZY h1 (λb hm=>hb.block b (World.ownsRow.lt h1 b hm).2),h2,h3,λb hm=>⟨(h4 b hm).1,yQ (h4 b hm).2 hb.size⟩,h5,λi Li a x y=>Qcx (h6 i Li a x y) hb⟩
theorem AppR.keep {e:uK} {w0 w w':uC} {v:uF} {l:W α} (h:AppR e w0 w v l) (hb:Below w.heap.size w w'):AppR e w0 w' v l:=by
 obtain ⟨xs,h1,h2⟩:=h;exact ⟨xs,ZY h1 (λb hm=>hb.block b (World.ownsRow.lt h1 b hm).2),h2⟩
theorem App.start {e:uK} {w0 w:uC} {v:uF} {c:Y} {cur:uN uF} {g:Y} (hv:v= .slice (G ⟨g,0,uB⟩) 0 c) (hg:w.heap[g]? =G (.cells cur e (0,0))) (hs:cur.size=c*GoD.n α) (hc:c<=uU) (h0:w0.heap.size<=g):App e w0 w [g] v ([]:W α):=by
 subst hv;exact ⟨[], [],⟨by simp,.inr ⟨g,c,cur,rfl,h0,hg,yK _,hc,hs,by simp⟩⟩,rfl,by simp,λb hb=>by rw[zS.1 hb];exact ⟨h0,Xe hg⟩,rfl,by simp⟩
theorem AppR.start {e:uK} {w0 w:uC} {v:uF} {c:Y} {cur:uN uF} {g:Y} (hv:v= .slice (G ⟨g,0,uB⟩) 0 c) (hg:w.heap[g]? =G (.cells cur e (0,0))) (hs:cur.size=c*GoD.n α) (hc:c<=uU) (h0:w0.heap.size<=g):AppR e w0 w v ([]:W α):=by
 subst hv;exact ⟨[],⟨by simp,.inr ⟨g,c,cur,rfl,h0,hg,yK _,hc,hs,by simp⟩⟩,by simp⟩
theorem App.fresh {e:uK} {w0 w1:uC} {g:Y} (hg:g=w1.heap.size) (h0:w0.heap.size<=g):App e w0 (w1.alloc (.cells #[] e)) [g] (.slice (G ⟨g,0,uB⟩) 0 0) ([]:W α):=by
 subst hg;exact App.start rfl (heap_alloc_new w1 _) (by simp) (by decide) h0
theorem AppR.fresh {e:uK} {w0 w1:uC} {g:Y} (hg:g=w1.heap.size) (h0:w0.heap.size<=g):AppR e w0 (w1.alloc (.cells #[] e)) (.slice (G ⟨g,0,uB⟩) 0 0) ([]:W α):=by
 subst hg;exact AppR.start rfl (heap_alloc_new w1 _) (by simp) (by decide) h0
theorem App.alloc {e:uK} {w0 w:uC} {L:W Y} {v:uF} {l:W α} (h:App e w0 w L v l) (o:Obj):App e w0 (w.alloc o) L v l:=h.keep ((Below.refl _ _).alloc (Nat.le_refl _) _)
theorem App.drew {e:uK} {w0 w:uC} {L:W Y} {v:uF} {l:W α} (h:App e w0 w L v l):App e w0 w.drew L v l:=h.keep ((Below.refl _ _).drew)
theorem AppR.alloc {e:uK} {w0 w:uC} {v:uF} {l:W α} (h:AppR e w0 w v l) (o:Obj):AppR e w0 (w.alloc o) v l:=h.keep ((Below.refl _ _).alloc (Nat.le_refl _) _)
theorem AppR.drew {e:uK} {w0 w:uC} {v:uF} {l:W α} (h:AppR e w0 w v l):AppR e w0 w.drew v l:=h.keep ((Below.refl _ _).drew)
theorem App.nil {e:uK} (w0 w:uC):App e w0 w [] (.slice uB 0 0) ([]:W α):=⟨[], [],⟨by simp,.inl ⟨rfl,rfl⟩⟩,rfl,by simp,by simp,rfl,by simp⟩
theorem AppR.nil {e:uK} (w0 w:uC):AppR e w0 w (.slice uB 0 0) ([]:W α):=⟨[],⟨by simp,.inl ⟨rfl,rfl⟩⟩,by simp⟩
theorem App.done {e:uK} {w0 w:uC} {L:W Y} {v:uF} {l:W α} (h:App e w0 w L v l):own L w [v] l:=by
 obtain ⟨xs,Ls,⟨h1,h2⟩,rfl,h3,h4,h5,h6⟩:=h;refine ⟨h3, ?_⟩;rcases h2 with ⟨rfl,hl⟩ | ⟨g,cap,cur,rfl,_,hg,hnc,hcm,hcs,rfl⟩
 . have:l= []:=zO hl;subst this;have:Ls= []:=zO h5;subst this;exact .inl ⟨rfl,rfl,uB,rfl⟩
 refine .inr ⟨g,cap,cur,e,Ls,rfl,hg,hnc,hcm,hcs,rfl,h5,λi Li a hi ha=> ?_⟩;have h:=h6 i Li a hi ha;have hil:i<l.length:=(zF.1 ha).1
 rw[xO,xP,xK (by
  have:=yD (GoD.n α) (show i+1<=l.length by omega);rw[zX,yF] at this;omega)] at h
 exact h
theorem App.ge {e:uK} {w0 w:uC} {L:W Y} {v:uF} {l:W α} (h:App e w0 w L v l):∀b,b∈L->w0.heap.size<=b:=by
 obtain ⟨_,_,_,_,_,h4,_⟩:=h;exact λb hb=>(h4 b hb).1
theorem App.lt {e:uK} {w0 w:uC} {L:W Y} {v:uF} {l:W α} (h:App e w0 w L v l):∀b,b∈L->b<w.heap.size:=by
 obtain ⟨_,_,_,_,_,h4,_⟩:=h;exact λb hb=>(h4 b hb).2
theorem AppR.done {e:uK} {w0 w:uC} {v:uF} {l:W α} (h:AppR e w0 w v l) (hb:Below w0.heap.size w0 w):rd w [v] l:=by
 obtain ⟨xs,⟨h1,h2⟩,h6⟩:=h;rcases h2 with ⟨rfl,hl⟩ | ⟨g,cap,cur,rfl,_,hg,hnc,hcm,hcs,rfl⟩
 . have:l= []:=zO hl;subst this;exact ⟨uB,0,rfl,zU _,yK _,by simp⟩
 refine ⟨G ⟨g,0,uB⟩,cap,rfl,hnc,hcm,λi a ha=>⟨g,0,_,rfl,GoD.rd_len (h6 i a ha),λj u hj=> ?_,Jb (h6 i a ha) hb⟩⟩;have hlt:=(zF.1 hj).1;simp only[List.length_take] at hlt;rw[Eg (by omega),List.getElem?_take] at hj;split at hj
 . rw[xV];rw[xM] at hj;simp[World.cell?,hg,hj]
 cases hj
theorem AppR.slice {e:uK} {w0 w:uC} {v:uF} {l:W α} (h:AppR e w0 w v l):∃oa cap,v= .slice oa l.length cap:=by
 obtain ⟨xs,⟨_,h2⟩,_⟩:=h;rcases h2 with ⟨rfl,hl⟩ | ⟨g,cap,cur,rfl,_⟩
 . exact ⟨uB,0,by rw[hl]⟩
 exact ⟨_,_,rfl⟩
theorem App.slice {e:uK} {w0 w:uC} {L:W Y} {v:uF} {l:W α} (h:App e w0 w L v l):∃oa cap,v= .slice oa l.length cap:=GJ h.done
end
end
section
open Go.RowKit
open GoD (rd own)
theorem OW {P:uJ} (w:uC) (t ty e:uK) (i:TypeInfo) (ht:P.underlying t=G (.slice e)) (hi:P.info? e=G i) (g n cap:Y) (hn:n<=cap):
 (Builtin.append_ #[t,t] ty #[.slice (G ⟨g,0,uB⟩) n cap,.slice uB 0 0]).run P w= .ok (.slice (G ⟨g,0,uB⟩) n cap) w:=by
 simp[Builtin.append_,run_underlying ht,sizeOf,typeInfo,hi,Builtin.lenOf,Builtin.firstCells,loadCells,loadCellsFrom,hn,storeCells]
section
variable {α:Type} [GoD α]
def Plain (α:Type) [GoD α]:Prop:=0<GoD.n α/\∀(w w':uC) (cs:W uF) (a:α),rd w cs a->own [] w' cs a/\∀u∈cs,u.oneCell'=E
theorem Ek:Plain H:=⟨yG,λw w' cs a h=>⟨⟨rfl,h.1,h.2⟩,by rw[h.1];simp[Value.oneCell']⟩⟩
theorem Mr:Plain uE:=⟨yG,λw w' cs a h=>⟨⟨rfl,h.1,h.2⟩,by rw[h.1];simp[Value.oneCell']⟩⟩
theorem Az {β:Type} [GoD β] (h1:Plain α) (h2:Plain β):Plain (α×β):=by
 refine ⟨yQ h1.1 (yU _ _),λw w' cs a h=> ?_⟩;obtain ⟨c1,c2,rfl,k1,k2⟩:=h;obtain ⟨o1,u1⟩:=h1.2 w w' _ _ k1;obtain ⟨o2,u2⟩:=h2.2 w w' _ _ k2;refine ⟨Qhi o1 o2 (by simp),λu hu=> ?_⟩;rcases zW.1 hu with hu | hu
 . exact u1 u hu
 exact u2 u hu
theorem Qij {w:uC} {oa:uG Addr} {cap:Y} {l:W α} (hn:0<GoD.n α) (h:rd w [.slice oa l.length cap] l):l= []\/∃(b off:Y) (news:W uF),oa=G ⟨b,off,uB⟩/\news.length=l.length*GoD.n α/\(∀j u,news[j]? =G u->w.cell? ⟨b,off+j,uB⟩=G u)/\
 ∀i a,l[i]? =G a->rd w ((news.drop (i*GoD.n α)).take (GoD.n α)) a:=by
 obtain ⟨oa',cap',e,hl,hm,hel⟩:=h;obtain ⟨rfl,rfl⟩:oa=oa'/\cap=cap':=by simpa using e
 cases hcase:l with
 | nil=>exact .inl rfl
 | cons a0 l0=>
   right
   obtain ⟨b,off,_,rfl,_⟩:=hel 0 a0 (by simp[hcase]);rw[←hcase]
   have key:∀k,k<=l.length->∃news:W uF,news.length=k*GoD.n α/\(∀j u,news[j]? =G u->w.cell? ⟨b,off+j,uB⟩=G u)/\∀i a,i<k->l[i]? =G a->rd w ((news.drop (i*GoD.n α)).take (GoD.n α)) a:=by
    intro k
    induction k with
    | zero=>intro _;exact ⟨[],by simp,by simp,λi a hi=>absurd hi (Nat.not_lt_zero _)⟩
    | succ k ih=>
      intro hk;obtain ⟨news,h1,h2,h3⟩:=ih (by omega);obtain ⟨b',off',ce,e',hcl,hcc,hr⟩:=hel k _ (zL (by omega:k<l.length));obtain ⟨rfl,rfl⟩:b=b'/\off=off':=by simpa using e'
      refine ⟨news++ce,by rw[yP,h1,hcl,zX,yF],λj u hj=> ?_,λi a hi ha=> ?_⟩
      . rcases xU j news.length with h | h
        . rw[yM h] at hj;exact h2 j u hj
        rw[yI h] at hj;have:=hcc _ u hj;rw[show off+k*GoD.n α+(j-news.length)=off+j by rw[←h1];omega] at this;exact this
      rcases xU i k with h | h
      . have hmul:=yD (GoD.n α) (show i+1<=k by omega);rw[zX,yF] at hmul;rw[List.drop_append_of_le_length (by omega),yV (by rw[List.length_drop];omega)];exact h3 i a h ha
      obtain rfl:i=k:=by omega
      rw[zL (by omega)] at ha;obtain rfl:=zD ha;rw[←h1,List.drop_left,←hcl,List.take_length];exact hr
   obtain ⟨news,h1,h2,h3⟩:=key l.length (zU _);exact ⟨b,off,news,rfl,h1,h2,λi a ha=>h3 i a (zF.1 ha).1 ha⟩
theorem Qbj {P:uJ} (w:uC) (t ty e:uK) (hpl:Plain α) (ht:P.underlying t=G (.slice e))
 (hinf:(P.info? e).map (λi=>(i.zero.map (·.cells.size),i.size,decide (i.bytes<=1000)))=G (G (GoD.n α),GoD.n α,E)) {g:Y} (hg:w.heap[g]? =G (.cells #[] e (0,0)))
 {y:uF} {l:W α} (hr:rd w [y] l) (hl:l.length<=1073741824):
 ∃v' w' L,(Builtin.append_ #[t,t] ty #[.slice (G ⟨g,0,uB⟩) 0 0,y]).run P w= .ok v' w'/\own L w' [v'] l/\Ext w w'/\∀b∈L,w.heap.size<=b/\b<w'.heap.size:=by
 obtain ⟨i,z,hi,hz,hsize,hzn,hb⟩:=Qk7 hinf;obtain ⟨oa,cap,rfl⟩:=KX hr;have hown:w.ownsRow g e i.size (.slice (G ⟨g,0,uB⟩) 0 0) 0 []:=⟨by simp,.inr ⟨g,0, #[],rfl,zU _,hg,zU _,yK _,by simp,by simp⟩⟩;have h0:own [] w [.slice (G ⟨g,0,uB⟩) 0 0] ([]:W α):=⟨by simp,.inl ⟨rfl,rfl,_,rfl⟩⟩;rcases Qij hpl.1 hr with rfl | ⟨b,off,news,rfl,hnl,hnews,hrd⟩
 . cases oa with
   | none=>
     obtain ⟨_,_,ee,_,_,_⟩:=hr;by_cases hc:cap=0
     . subst hc;exact ⟨_,w, [],OW w t ty e i ht hi g 0 0 (zU _),h0,Ext.refl w,by simp⟩
     refine ⟨_,w, [], ?_,h0,Ext.refl w,by simp⟩;simp[Builtin.append_,run_underlying ht,sizeOf,typeInfo,hi,Builtin.lenOf,Builtin.firstCells,loadCells,loadCellsFrom,storeCells]
   | some ad=>
     refine ⟨_,w, [], ?_,h0,Ext.refl w,by simp⟩;simp[Builtin.append_,run_underlying ht,sizeOf,typeInfo,hi,Builtin.lenOf,Builtin.firstCells,loadCells,loadCellsFrom,storeCells]
 cases hlc:l with
 | nil=>
   subst hlc;refine ⟨_,w, [], ?_,h0,Ext.refl w,by simp⟩;simp[Builtin.append_,run_underlying ht,sizeOf,typeInfo,hi,Builtin.lenOf,Builtin.firstCells,loadCells,loadCellsFrom,storeCells]
 | cons a0 l0=>
   rw[←hlc];have hpos:0<l.length:=by rw[hlc];simp
   have h1:∀u∈news,Value.oneCell' u=E:=λu hu=>by
    obtain ⟨j,hj,rfl⟩:=xR hu;have hnp:=hpl.1;have hjn:j / GoD.n α<l.length:=by rw[Nat.div_lt_iff_lt_mul hnp];omega
    have hx:=(hpl.2 w w _ _ (hrd _ _ (zL hjn))).2;refine hx _ (yJ (i:=j % GoD.n α) ?_);rw[Eg (Nat.mod_lt _ hnp),Nat.mul_comm,Nat.div_add_mod,zL hj]
   obtain ⟨v',w',hr',hw,hgr,_,hfresh⟩:=Qmd (P:=P) w g t ty e i z ht hi hz (by rw[hsize];exact hzn) (by rw[hsize];exact hpl.1) hb hown ⟨b,off,uB⟩ l.length cap news (by rw[hsize];exact hnl) (λj u hj=>by
    have:=hnews j u hj;unfold Addr.add;by_cases hj0:j=0
    . subst hj0;simpa using this
    simpa [hj0] using this) h1 (by omega) (Nat.le_of_lt (Xe hg))
   obtain ⟨hf1,hf2⟩:=hfresh _ _ _ rfl (by omega);have hext:Ext w w':=(Below.refl _ _).grown hf2 (zU _) (λk hk=>by cases hk);rw[xV,xL,hsize] at hw
   have hA:App e w w' (v'.ownBlock.toList++(xA l.length ([]:W Y)).flatten) v' l:=by
    refine ⟨news,xA l.length [],⟨hw.1, ?_⟩,rfl, ?_, ?_,by simp,λi Li a hLi ha=> ?_⟩
    . rcases hw.2 with h | ⟨g',cap',cur,h1,h2,h3⟩
      . exact .inl h
      exact .inr ⟨g',cap',cur,h1,hf1 g' (by rw[h1];rfl),h3⟩
    . simp only[xB,yW];cases v'.ownBlock<;>simp
    . intro b' hb';simp only[xB,yW] at hb';have hb2:v'.ownBlock=G b':=by simpa using hb'
      exact ⟨hf1 b' hb2,(World.ownsRow.lt hw b' hb2).2⟩
    have:Li= []:=by
     have:=yJ hLi;exact (List.mem_replicate.1 this).2
    subst this;exact (hpl.2 w w' _ _ (hrd i a ha)).1
   exact ⟨v',w',_,hr',hA.done,hext,λb hb=>⟨hA.ge b hb,hA.lt b hb⟩⟩
theorem El {P:uJ} {w:uC} {ops:uN Oper} {rest:W Oper} {o:Oper} {a:Act} {Q:Exit->Act->uC->Prop} (s x:Operand) (t e:uK) (hpl:Plain α) (g:Y) {y:uF} {l:W α} (hr:rd w [y] l) (hl:l.length<=1073741824)
 (hg:w.heap[g]? =G (.cells #[] e (0,0))) (hgd:o.guard=uB) (ho:o.op= .call {callee:= .builtin .append,args:= #[s,x],argTypes:= #[t,t]}) (ht:P.underlying t=G (.slice e))
 (hinf:(P.info? e).map (λi=>(i.zero.map (·.cells.size),i.size,decide (i.bytes<=1000)))=G (G (GoD.n α),GoD.n α,E)) (hs:a.eval s= .slice (G ⟨g,0,uB⟩) 0 0) (hx:a.eval x=y)
 (k:∀v' w' L,own L w' [v'] l->Ext w w'->(∀b∈L,w.heap.size<=b/\b<w'.heap.size)->wpList P ops Q rest (a.put o.dst v') w'):wpList P ops Q (o::rest) a w:=by
 refine wpList_plain hgd λ_ hK=> ?_
 obtain ⟨v',w',L,hr',h1,h2,h3⟩:=Qbj (P:=P) w t o.type e hpl ht hinf hg hr hl;unfold Oper.wp execOp;simp only[ho,resolve,invoke,builtin,Sem.run_bind,Sem.run_pure,Result.andThen_ok,List.map_toArray,zZ,List.map_nil,hs,hx,hr'];exact hK _ _ (k v' w' L h1 h2 h3)
end
section
variable {P:uJ} {o:Oper} {a:Act} {w:uC} {K:Act->uC->Prop} {Q:Exit->Act->uC->Prop}
def New0 (e:uK) (v:uF) (L:W Y) (w:uC):Prop:=L= []/\∃g,v= .slice (G ⟨g,0,uB⟩) 0 0/\w.heap[g]? =G (.cells #[] e (0,0))
theorem New0.keep {e:uK} {v:uF} {L:W Y} {w w':uC} (h:New0 e v L w) (hx:Ext w w'):New0 e v L w':=by
 obtain ⟨h1,g,h2,h3⟩:=h;exact ⟨h1,g,h2,(hx.block g (Xe h3)).trans h3⟩
end
end
section
open Go.RowKit
open GoD (rd own)
theorem Qbk (w:uC) (v:uF) (l:W H) (ha:rd w [v] l) (hl:l.length<=1073741824):Calls Tryz.prog 94 #[v] w (RetS w l):=by
 have HA:=Lib.hid ha;obtain ⟨oa,cap,e,hlc,hm,hel⟩:=ha;obtain rfl:v=_:=by simpa using e
 clear e;have q22:∀(w:uC) (a:uG Addr) (n c n' c':Y),(binOp .eql 34 (.slice a n c) (.slice uB n' c')).run Tryz.prog w= .ok (.bool a.isNone) w:=λw a n c n' c'=>Lib.run_eql_slice_nil w _ _ a n c n' c' Tryz.underlying34
 cases oa with
 | none=>
   have hnil:l= []:=by
    cases l with
    | nil=>rfl
    | cons a l=>obtain ⟨b,off,ce,h,_⟩:=hel 0 a rfl;cases h
   clear hel;subst hnil;go_enter Tryz.func94,Tryz.ntmps94
   go_wp2
   go_ret
   all_goals exact ⟨_, [],rfl,Below.refl _ _,⟨by simp,.inl ⟨rfl,rfl,_,rfl⟩⟩,by simp⟩
 | some ad=>
   clear hel;go_enter Tryz.func94,Tryz.ntmps94
   go_wp2_with (at_builtin;refine El (α:=H) _ _ 34 3 Ek w.heap.size (Jb HA.out (by go_grown)) hl (heap_alloc_new w _) rfl rfl Tryz.underlying34 (by kernel_rfl) rfl rfl ?_;intro v2 w2 L2 ho2 hx2 hL2)
   go_ret
   have hb:Below w.heap.size w w2:=F7 (show Below w.heap.size w _ by go_grown) hx2;exact ⟨v2,L2,rfl,hb,ho2,λb hb'=>by have:=(hL2 b hb').1;simp only[World.size_alloc] at this;omega⟩
theorem Ec (l:W H):ACalls Tryz.prog 94 [Qn0 l] (GF l):=Iv (by unfold F9;kernel_rfl) (λw v h hw=>Qbk w v l h (by have:=hw.1;omega)) id
theorem DW (w:uC) (v:uF) (l:W uE) (ha:rd w [v] l) (hl:l.length<=1073741824):Calls Tryz.prog 336 #[v] w (RetS w l):=by
 have HA:=Lib.hid ha;obtain ⟨oa,cap,e,hlc,hm,hel⟩:=ha;obtain rfl:v=_:=by simpa using e
 clear e;have q22:∀(w:uC) (a:uG Addr) (n c n' c':Y),(binOp .eql 102 (.slice a n c) (.slice uB n' c')).run Tryz.prog w= .ok (.bool a.isNone) w:=λw a n c n' c'=>Lib.run_eql_slice_nil w _ _ a n c n' c' Tryz.underlying102
 cases oa with
 | none=>
   have hnil:l= []:=by
    cases l with
    | nil=>rfl
    | cons a l=>obtain ⟨b,off,ce,h,_⟩:=hel 0 a rfl;cases h
   clear hel;subst hnil;go_enter Tryz.func336,Tryz.ntmps336
   go_wp2
   go_ret
   all_goals exact ⟨_, [],rfl,Below.refl _ _,⟨by simp,.inl ⟨rfl,rfl,_,rfl⟩⟩,by simp⟩
 | some ad=>
   clear hel;go_enter Tryz.func336,Tryz.ntmps336
   go_wp2_with (at_builtin;refine El (α:=uE) _ _ 102 9 Mr w.heap.size (Jb HA.out (by go_grown)) hl (heap_alloc_new w _) rfl rfl Tryz.underlying102 (by kernel_rfl) rfl rfl ?_;intro v2 w2 L2 ho2 hx2 hL2)
   go_ret
   have hb:Below w.heap.size w w2:=F7 (show Below w.heap.size w _ by go_grown) hx2;exact ⟨v2,L2,rfl,hb,ho2,λb hb'=>by have:=(hL2 b hb').1;simp only[World.size_alloc] at this;omega⟩
theorem DX (l:W uE):ACalls Tryz.prog 336 [Qn0 l] (GF l):=Iv (by unfold F9;kernel_rfl) (λw v h hw=>DW w v l h (by have:=hw.1;omega)) id
theorem OX (w:uC) (v:uF) (l:W Ui) (ha:rd w [v] l) (hl:l.length<=1073741824):Calls Tryz.prog 209 #[v] w (RetS w l):=by
 have HA:=Lib.hid ha;obtain ⟨oa,cap,e,hlc,hm,hel⟩:=ha;obtain rfl:v=_:=by simpa using e
 clear e;have q22:∀(w:uC) (a:uG Addr) (n c n' c':Y),(binOp .eql 149 (.slice a n c) (.slice uB n' c')).run Tryz.prog w= .ok (.bool a.isNone) w:=λw a n c n' c'=>Lib.run_eql_slice_nil w _ _ a n c n' c' Tryz.underlying149
 cases oa with
 | none=>
   have hnil:l= []:=by
    cases l with
    | nil=>rfl
    | cons a l=>obtain ⟨b,off,ce,h,_⟩:=hel 0 a rfl;cases h
   clear hel;subst hnil;go_enter Tryz.func209,Tryz.ntmps209
   go_wp2
   go_ret
   all_goals exact ⟨_, [],rfl,Below.refl _ _,⟨by simp,.inl ⟨rfl,rfl,_,rfl⟩⟩,by simp⟩
 | some ad=>
   clear hel;go_enter Tryz.func209,Tryz.ntmps209
   go_wp2_with (at_builtin;refine El (α:=Ui) _ _ 149 199 (Az Mr (Az Ek (Az Ek Mr))) w.heap.size (Jb HA.out (by go_grown)) hl (heap_alloc_new w _) rfl rfl Tryz.underlying149 (by kernel_rfl) rfl rfl ?_;intro v2 w2 L2 ho2 hx2 hL2)
   go_ret
   have hb:Below w.heap.size w w2:=F7 (show Below w.heap.size w _ by go_grown) hx2;exact ⟨v2,L2,rfl,hb,ho2,λb hb'=>by have:=(hL2 b hb').1;simp only[World.size_alloc] at this;omega⟩
theorem OY (l:W Ui):ACalls Tryz.prog 209 [Qn0 l] (GF l):=Iv (by unfold F9;kernel_rfl) (λw v h hw=>OX w v l h (by have:=hw.1;omega)) id
theorem IR (w:uC) (v:uF) (l:W Y7) (ha:rd w [v] l) (hl:l.length<=1073741824):Calls Tryz.prog 104 #[v] w (RetS w l):=by
 have HA:=Lib.hid ha;obtain ⟨oa,cap,e,hlc,hm,hel⟩:=ha;obtain rfl:v=_:=by simpa using e
 clear e;have q22:∀(w:uC) (a:uG Addr) (n c n' c':Y),(binOp .eql 39 (.slice a n c) (.slice uB n' c')).run Tryz.prog w= .ok (.bool a.isNone) w:=λw a n c n' c'=>Lib.run_eql_slice_nil w _ _ a n c n' c' Tryz.underlying39
 cases oa with
 | none=>
   have hnil:l= []:=by
    cases l with
    | nil=>rfl
    | cons a l=>obtain ⟨b,off,ce,h,_⟩:=hel 0 a rfl;cases h
   clear hel;subst hnil;go_enter Tryz.func104,Tryz.ntmps104
   go_wp2
   go_ret
   all_goals exact ⟨_, [],rfl,Below.refl _ _,⟨by simp,.inl ⟨rfl,rfl,_,rfl⟩⟩,by simp⟩
 | some ad=>
   clear hel;go_enter Tryz.func104,Tryz.ntmps104
   go_wp2_with (at_builtin;refine El (α:=Y7) _ _ 39 146 (Az Mr Ek) w.heap.size (Jb HA.out (by go_grown)) hl (heap_alloc_new w _) rfl rfl Tryz.underlying39 (by kernel_rfl) rfl rfl ?_;intro v2 w2 L2 ho2 hx2 hL2)
   go_ret
   have hb:Below w.heap.size w w2:=F7 (show Below w.heap.size w _ by go_grown) hx2;exact ⟨v2,L2,rfl,hb,ho2,λb hb'=>by have:=(hL2 b hb').1;simp only[World.size_alloc] at this;omega⟩
theorem ZZ (l:W Y7):ACalls Tryz.prog 104 [Qn0 l] (GF l):=Iv (by unfold F9;kernel_rfl) (λw v h hw=>IR w v l h (by have:=hw.1;omega)) id
theorem OZ (w:uC) (v:uF) (l:W Q2) (ha:rd w [v] l) (hl:l.length<=1073741824):Calls Tryz.prog 157 #[v] w (RetS w l):=by
 have HA:=Lib.hid ha;obtain ⟨oa,cap,e,hlc,hm,hel⟩:=ha;obtain rfl:v=_:=by simpa using e
 clear e;have q22:∀(w:uC) (a:uG Addr) (n c n' c':Y),(binOp .eql 152 (.slice a n c) (.slice uB n' c')).run Tryz.prog w= .ok (.bool a.isNone) w:=λw a n c n' c'=>Lib.run_eql_slice_nil w _ _ a n c n' c' Tryz.underlying152
 cases oa with
 | none=>
   have hnil:l= []:=by
    cases l with
    | nil=>rfl
    | cons a l=>obtain ⟨b,off,ce,h,_⟩:=hel 0 a rfl;cases h
   clear hel;subst hnil;go_enter Tryz.func157,Tryz.ntmps157
   go_wp2
   go_ret
   all_goals exact ⟨_, [],rfl,Below.refl _ _,⟨by simp,.inl ⟨rfl,rfl,_,rfl⟩⟩,by simp⟩
 | some ad=>
   clear hel;go_enter Tryz.func157,Tryz.ntmps157
   go_wp2_with (at_builtin;refine El (α:=Q2) _ _ 152 214 (Az Ek (Az Ek (Az Ek (Az Mr (Az Ek (Az Ek Mr)))))) w.heap.size (Jb HA.out (by go_grown)) hl (heap_alloc_new w _) rfl rfl Tryz.underlying152 (by kernel_rfl) rfl rfl ?_;intro v2 w2 L2 ho2 hx2 hL2)
   go_ret
   have hb:Below w.heap.size w w2:=F7 (show Below w.heap.size w _ by go_grown) hx2;exact ⟨v2,L2,rfl,hb,ho2,λb hb'=>by have:=(hL2 b hb').1;simp only[World.size_alloc] at this;omega⟩
theorem PA (l:W Q2):ACalls Tryz.prog 157 [Qn0 l] (GF l):=Iv (by unfold F9;kernel_rfl) (λw v h hw=>OZ w v l h (by have:=hw.1;omega)) id
open GoE (enc wide)
abbrev Z:=W uE
def tt:W (Y×TI):= [(3,⟨.int .i64,1, [.i 0], []⟩),
 (4,⟨.bool,1, [.b uA], []⟩),
 (5,⟨.int .u8,1, [.int .u8 0], []⟩),
 (9,⟨.str,1, [.s ⟨#[]⟩], []⟩),
 (22,⟨.sli 172,1, [.e 2], []⟩),
 (23,⟨.sli 176,1, [.e 5], []⟩),
 (25,⟨.struct [(0,1,uA),(1,1,uA),(2,1,uA)],3, [.e 2,.e 5,.i 0], []⟩),
 (26,⟨.sli 125,1, [.e 2], []⟩),
 (27,⟨.sli 128,1, [.e 2], []⟩),
 (29,⟨.struct [(0,3,E),(3,1,uA),(4,1,uA)],5, [.e 2,.e 5,.i 0,.e 2,.e 2], []⟩),
 (31,⟨.struct [(0,1,uA),(1,1,uA)],2, [.s ⟨#[]⟩,.s ⟨#[]⟩], []⟩),
 (32,⟨.sli 83,1, [.e 6], []⟩),
 (33,⟨.sli 87,1, [.e 4], []⟩),
 (34,⟨.sli 3,1, [.e 1], []⟩),
 (36,⟨.struct [(0,5,E),(5,2,E),(7,1,uA),(8,1,uA),(9,1,uA),(10,1,uA)],11, [.e 2,.e 5,.i 0,.e 2,.e 2,.s ⟨#[]⟩,.s ⟨#[]⟩,.i 0,.e 6,.e 4,.e 1], []⟩),
 (39,⟨.sli 146,1, [.e 2], []⟩),
 (40,⟨.sli 151,1, [.e 5], []⟩),
 (42,⟨.struct [(0,1,uA),(1,1,uA),(2,1,uA)],3, [.e 2,.e 5,.i 0], []⟩),
 (43,⟨.sli 154,1, [.e 2], []⟩),
 (44,⟨.sli 159,1, [.e 2], []⟩),
 (46,⟨.struct [(0,3,E),(3,1,uA),(4,1,uA)],5, [.e 2,.e 5,.i 0,.e 2,.e 2], []⟩),
 (47,⟨.struct [(0,1,uA),(1,1,uA)],2, [.s ⟨#[]⟩,.s ⟨#[]⟩], []⟩),
 (48,⟨.sli 109,1, [.e 6], []⟩),
 (49,⟨.sli 97,1, [.e 4], []⟩),
 (51,⟨.struct [(0,5,E),(5,2,E),(7,1,uA),(8,1,uA),(9,1,uA),(10,1,uA)],11, [.e 2,.e 5,.i 0,.e 2,.e 2,.s ⟨#[]⟩,.s ⟨#[]⟩,.i 0,.e 6,.e 4,.e 1], []⟩),
 (64,⟨.struct [(0,3,E),(3,1,uA)],4, [.e 2,.e 5,.i 0,.e 2], []⟩),
 (81,⟨.struct [(0,3,E),(3,1,uA)],4, [.e 2,.e 5,.i 0,.e 2], []⟩),
 (83,⟨.struct [(0,1,uA),(1,4,E),(5,1,uA)],6, [.i 0,.e 2,.e 5,.i 0,.e 2,.i 0], []⟩),
 (85,⟨.sli 179,1, [.e 3], []⟩),
 (87,⟨.struct [(0,1,uA),(1,1,uA),(2,1,uA),(3,1,uA)],4, [.i 0,.s ⟨#[]⟩,.e 1,.e 3], []⟩),
 (95,⟨.sli 99,1, [.e 3], []⟩),
 (97,⟨.struct [(0,1,uA),(1,1,uA),(2,1,uA),(3,1,uA)],4, [.i 0,.s ⟨#[]⟩,.e 1,.e 3], []⟩),
 (99,⟨.struct [(0,1,uA),(1,1,uA),(2,1,uA)],3, [.i 0,.e 1,.e 1], []⟩),
 (102,⟨.sli 9,1, [.e 1], []⟩),
 (109,⟨.struct [(0,1,uA),(1,4,E),(5,1,uA)],6, [.i 0,.e 2,.e 5,.i 0,.e 2,.i 0], []⟩),
 (123,⟨.sli 223,1, [.e 7], []⟩),
 (125,⟨.struct [(0,1,uA),(1,1,uA)],2, [.s ⟨#[]⟩,.e 7], []⟩),
 (128,⟨.struct [(0,1,uA),(1,1,uA)],2, [.s ⟨#[]⟩,.e 1], []⟩),
 (146,⟨.struct [(0,1,uA),(1,1,uA)],2, [.s ⟨#[]⟩,.i 0], []⟩),
 (149,⟨.sli 199,1, [.e 4], []⟩),
 (151,⟨.struct [(0,1,uA),(1,1,uA),(2,1,uA),(3,1,uA),(4,1,uA)],5, [.i 0,.i 0,.b uA,.i 0,.e 4], []⟩),
 (152,⟨.sli 214,1, [.e 7], []⟩),
 (154,⟨.struct [(0,1,uA),(1,1,uA)],2, [.s ⟨#[]⟩,.e 7], []⟩),
 (159,⟨.struct [(0,1,uA),(1,1,uA)],2, [.s ⟨#[]⟩,.e 1], []⟩),
 (172,⟨.struct [(0,1,uA),(1,1,uA)],2, [.s ⟨#[]⟩,.i 0], []⟩),
 (174,⟨.sli 265,1, [.e 4], []⟩),
 (176,⟨.struct [(0,1,uA),(1,1,uA),(2,1,uA),(3,1,uA),(4,1,uA)],5, [.i 0,.i 0,.b uA,.i 0,.e 4], []⟩),
 (179,⟨.struct [(0,1,uA),(1,1,uA),(2,1,uA)],3, [.i 0,.e 1,.e 1], []⟩),
 (197,⟨.struct [(0,1,uA),(1,1,uA),(2,1,uA)],3, [.i 0,.i 0,.s ⟨#[]⟩], [.int,.int,.str]⟩),
 (199,⟨.struct [(0,1,uA),(1,3,E)],4, [.s ⟨#[]⟩,.i 0,.i 0,.s ⟨#[]⟩], []⟩),
 (214,⟨.struct [(0,1,uA),(1,1,uA),(2,1,uA),(3,1,uA),(4,3,E)],7, [.i 0,.i 0,.i 0,.s ⟨#[]⟩,.i 0,.i 0,.s ⟨#[]⟩], [.int,.int,.int,.str,.int,.int,.str]⟩),
 (221,⟨.struct [(0,1,uA),(1,1,uA),(2,1,uA)],3, [.i 0,.i 0,.s ⟨#[]⟩], []⟩),
 (223,⟨.struct [(0,1,uA),(1,1,uA),(2,1,uA),(3,1,uA),(4,3,E)],7, [.i 0,.i 0,.i 0,.s ⟨#[]⟩,.i 0,.i 0,.s ⟨#[]⟩], []⟩),
 (236,⟨.struct [(0,1,uA),(1,1,uA),(2,1,uA)],3, [.s ⟨#[]⟩,.e 1,.e 1], []⟩),
 (265,⟨.struct [(0,1,uA),(1,3,E)],4, [.s ⟨#[]⟩,.i 0,.i 0,.s ⟨#[]⟩], []⟩),
 (337,⟨.struct [(0,1,uA),(1,1,uA)],2, [.e 1,.e 7], []⟩),
 (341,⟨.sli 4,1, [.e 1], []⟩)]
theorem Qa:Fb Tryz.prog tt=E:=by kernel_rfl
theorem Yo:Tryz.prog.follows .mixedOrders=E:=by kernel_rfl
def Xo (n:H) (low:H) (high_:H):uD:=(decide (low<=n)&&decide (n<=high_))
theorem Js (n:H) (low:H) (high_:H):ACalls Tryz.prog 200 [.i n,.i low,.i high_] (.b (Xo n low high_)):=by
 refine en Qa Tryz.func200 λw0 F0 hG=> ?_
 refine sn Qa [0,1,2,6] [] p0 <| Qb <| mz [(6,.b uA)] [] [] [] <| jn [(6,.b (decide (low<=n)&&decide (n<=high_)))] [0,1,2,6] [] [] (decide (low<=n)) (λh1=> ?_) (λh1=> ?_) ?_
 ·refine rn Qa [6] [] (pt 2 h1 p0) ?_;exact zA (by rw[h1]<;>kernel_rfl)
 ·refine rn Qa [6] [] (pf 2 h1 p0) ?_;exact zA (by rw[h1]<;>kernel_rfl)
 exact Qd <| pb [] (show Xo n low high_=(decide (low<=n)&&decide (n<=high_)) from rfl)
def X7 (s_:uE) (k0:Y) (_:uL):Rd (uD) (uL) (uL):=(bif (decide (Z9 s_ (k0:H)<(97:H))|| decide (Z9 s_ (k0:H)>(122:H))) then (.ret uA) else (.next ()))
def Km (_:Y) (_:uL):uL:=()
def Xc (s_:uE):uD:=(Out.on (Ks (X7 s_) Km (zE s_:H).toNat 0 ()) (λ_=>(Xo (zE s_:H) 1 6)))
theorem Ku (s_:uE):ACalls Tryz.prog 245 [.s s_] (.b (Xc s_)):=by
 refine en Qa Tryz.func245 λw0 F0 hG=> ?_
 refine sn Qa [0,2] [] p0 <| Qb <| tn Qa [0,2,5,6] [] p0 <| mz [(2,.b uA),(5,.i (zE s_:H)),(6,.i 0)] [] [] [] <| stT 0 0 s_ (λhs1=> ?_)
 refine Qqg (X7 s_) Km (zE s_:H).toNat () (λk0 _=> [(6,.i (k0:H))]) [6] (λ_=> []) [5,6] wf0 (λk0 s0 O U=> ?_) (λk0 s0 O U=> ?_) (λy0 hD0=> ?_)
 ·refine sn Qa [0,2,5,6,7] [] (pe 0 (zB ((k0:H)<(zE s_:H))) p0) <| Qb <| ckT <| Qf <| Qb <| Qo <| tn Qa [0,2,3,5,6] [] p0 <| Qb <| mz [(3,.i (k0:H))] [] [] [] <| jn [(18,.b (decide (Z9 s_ (k0:H)<(97:H))|| decide (Z9 s_ (k0:H)>(122:H))))] [3] [] [] (decide (Z9 s_ (k0:H)<(97:H))) (λh2=> ?_) (λh2=> ?_) ?_
  ·have h2d:=uV h2;refine rn Qa [0,2,5,6,18] [] (px (Cx (i:=(k0:H)) (n:=(zE s_)) (by omega)) (pt 3 h2 p0)) ?_;exact zA (by rw[h2]<;>kernel_rfl)
  ·have h2d:=uP h2;refine rn Qa [0,2,5,6,18] [] (px (Cx (i:=(k0:H)) (n:=(zE s_)) (by omega)) (pf 3 h2 (px (Cx (i:=(k0:H)) (n:=(zE s_)) (by omega)) p0))) ?_;exact zA (by rw[h2]<;>kernel_rfl)
  refine ck (decide (Z9 s_ (k0:H)<(97:H))|| decide (Z9 s_ (k0:H)>(122:H))) (λh3=> ?_) (λh3=> ?_)
  ·refine su Qa [] [18] [] [] p0 <| Qd ?_
   have hr4:(Ks (X7 s_) Km (zE s_:H).toNat 0 ())= .ret uA:=Ty O (Q9 h3 (rfl)) U;exact pb [] (On hr4)
  have h3l:(decide (Z9 s_ (k0:H)<(97:H)))=uA:=JL h3;have h3ld:=uP h3l;have h3r:(decide (Z9 s_ (k0:H)>(122:H)))=uA:=WL h3;have h3rd:=uP h3r;refine Qf <| rn Qa [0,2,5,6] [] (pe 0 (Jl (Qn k0 (by omega))) p0) ?_
  exact xw _ (Z6 O (Qj h3 (rfl)) U)
 ·exact sn Qa [0,2,5,6,7] [] (pe 0 (zC ((k0:H)<(zE s_:H))) p0) <| Qb <| ckF <| Q4 <| xw _ (U6 O (rfl) U)
 exact sn Qa [2] [] (pc 2 (Js (zE s_:H) 1 6) p0) <| Qd <| pb [] (Vp hD0 (rfl))
def Q6 (v:K4):uD:=(bif (v.1==(0:H)) then ((v.1==0)&&((v.2.1==0)&&((v.2.2.toList==(⟨#[]⟩:uE).toList)&&E))) else (bif (v.1==(1:H)) then ((Xo v.2.1 0 999)&&(v.2.2.toList==(⟨#[]⟩:uE).toList)) else (bif (v.1==(2:H)) then ((Xc v.2.2)&&(v.2.1==(0:H))) else uA)))
theorem Jt (v:K4):ACalls Tryz.prog 202 [.a [.i v.1,.i v.2.1,.s v.2.2]] (.b (Q6 v)):=by
 refine en Qa Tryz.func202 λw0 F0 hG=> ?_
 refine sn Qa [1,2] [1] p0 <| Qb <| tn Qa [1,2,4] [1] p0 <| Qo <| tu Qa [(1,.p 1 0),(2,.b uA),(4,.i v.1),(5,.b (v.1==(0:H)))] [0] [(1, [.i v.1,.i v.2.1,.s v.2.2])] [] p0 <| ck (v.1==(0:H)) (λh1=> ?_) (λh1=> ?_)
 ·exact sn Qa [2] [] p0 <| Qd <| pb [] (Q9 h1 (rfl))
 refine sn Qa [1,2,4,10] [1] p0 <| ck (v.1==(1:H)) (λh2=> ?_) (λh2=> ?_)
 ·refine Qb <| mz [(10,.b (v.1==(1:H)))] [5] [] [] <| jn [(2,.b ((Xo v.2.1 0 999)&&(v.2.2.toList==(⟨#[]⟩:uE).toList)))] [1,2,4,10] [] [1] (Xo v.2.1 0 999) (λh3=> ?_) (λh3=> ?_) ?_
  ·refine rn Qa [2] [] (pc 2 (cb h3 (Js v.2.1 0 999)) p0) ?_;exact zA (by rw[h3]<;>kernel_rfl)
  ·refine rn Qa [2] [] (pc 2 (cb h3 (Js v.2.1 0 999)) p0) ?_;exact zA (by rw[h3]<;>kernel_rfl)
  exact Qd <| pb [] (Qj h1 (Q9 h2 (rfl)))
 refine tn Qa [1,2,20] [1] p0 <| ck (v.1==(2:H)) (λh4=> ?_) (λh4=> ?_)
 ·refine Qb <| mz [(20,.b (v.1==(2:H)))] [4,5] [] [] <| jn [(2,.b ((Xc v.2.2)&&(v.2.1==(0:H))))] [1,2,20] [] [1] (Xc v.2.2) (λh5=> ?_) (λh5=> ?_) ?_
  ·refine rn Qa [2] [] (pc 2 (cb h5 (Ku v.2.2)) p0) ?_;exact zA (by rw[h5]<;>kernel_rfl)
  ·refine rn Qa [2] [] (pc 2 (cb h5 (Ku v.2.2)) p0) ?_;exact zA (by rw[h5]<;>kernel_rfl)
  exact Qd <| pb [] (Qj h1 (Qj h2 (Q9 h4 (rfl))))
 exact Qf <| tu Qa [] [1,4,5] [] [1] p0 <| Qd <| pb [] (Qj h1 (Qj h2 (Qj h4 (rfl))))
def Q0 (x:H) (least:H) (most:H):uD:=(decide (x>=least)&&decide (x<=most))
theorem Ys (x:H) (least:H) (most:H):ACalls Tryz.prog 122 [.i x,.i least,.i most] (.b (Q0 x least most)):=by
 refine en Qa Tryz.func122 λw0 F0 hG=> ?_
 refine sn Qa [0,1,2,6] [] p0 <| Qb <| mz [(6,.b uA)] [] [] [] <| jn [(6,.b (decide (x>=least)&&decide (x<=most)))] [0,1,2,6] [] [] (decide (x>=least)) (λh1=> ?_) (λh1=> ?_) ?_
 ·refine rn Qa [6] [] (pt 2 h1 p0) ?_;exact zA (by rw[h1]<;>kernel_rfl)
 ·refine rn Qa [6] [] (pf 2 h1 p0) ?_;exact zA (by rw[h1]<;>kernel_rfl)
 exact Qd <| pb [] (show Q0 x least most=(decide (x>=least)&&decide (x<=most)) from rfl)
def Hy (s_:uE) (k0:Y) (_:uL):Rd (uD) (uL) (uL):=(bif (decide (Z9 s_ (k0:H)<(97:H))|| decide (Z9 s_ (k0:H)>(122:H))) then (.ret uA) else (.next ()))
def A0 (_:Y) (_:uL):uL:=()
def Fg (s_:uE) (most:H):uD:=(Out.on (Ks (Hy s_) A0 (zE s_:H).toNat 0 ()) (λ_=>(Q0 (zE s_:H) 1 most)))
theorem T2 (s_:uE) (most:H):ACalls Tryz.prog 176 [.s s_,.i most] (.b (Fg s_ most)):=by
 refine en Qa Tryz.func176 λw0 F0 hG=> ?_
 refine sn Qa [0,1,4] [] p0 <| Qb <| tn Qa [0,1,4,5] [] p0 <| mz [(4,.b uA),(5,.i 0)] [] [] [] <| stT 0 0 s_ (λhs1=> ?_)
 refine Qqg (Hy s_) A0 (zE s_:H).toNat () (λk0 _=> [(5,.i (k0:H))]) [5] (λ_=> []) [5] wf0 (λk0 s0 O U=> ?_) (λk0 s0 O U=> ?_) (λy0 hD0=> ?_)
 ·refine Qb <| sn Qa [0,1,4,5,9] [] (pe 3 (zB ((k0:H)<(zE s_:H))) p0) <| ckT <| Qf <| Qb <| Qo <| Qb <| mz [(9,.b E)] [] [] [] <| jn [(21,.b (decide (Z9 s_ (k0:H)<(97:H))|| decide (Z9 s_ (k0:H)>(122:H))))] [9] [] [] (decide (Z9 s_ (k0:H)<(97:H))) (λh2=> ?_) (λh2=> ?_) ?_
  ·have h2d:=uV h2;refine rn Qa [0,1,4,5,21] [] (px (Cx (i:=(k0:H)) (n:=(zE s_)) (by omega)) (pt 3 h2 p0)) ?_;exact zA (by rw[h2]<;>kernel_rfl)
  ·have h2d:=uP h2;refine rn Qa [0,1,4,5,21] [] (px (Cx (i:=(k0:H)) (n:=(zE s_)) (by omega)) (pf 3 h2 (px (Cx (i:=(k0:H)) (n:=(zE s_)) (by omega)) p0))) ?_;exact zA (by rw[h2]<;>kernel_rfl)
  refine ck (decide (Z9 s_ (k0:H)<(97:H))|| decide (Z9 s_ (k0:H)>(122:H))) (λh3=> ?_) (λh3=> ?_)
  ·refine su Qa [] [21] [] [] p0 <| Qd ?_
   have hr4:(Ks (Hy s_) A0 (zE s_:H).toNat 0 ())= .ret uA:=Ty O (Q9 h3 (rfl)) U;exact pb [] (On hr4)
  have h3l:(decide (Z9 s_ (k0:H)<(97:H)))=uA:=JL h3;have h3ld:=uP h3l;have h3r:(decide (Z9 s_ (k0:H)>(122:H)))=uA:=WL h3;have h3rd:=uP h3r;refine Qf <| rn Qa [0,1,4,5] [] (pe 1 (Jl (Qn k0 (by omega))) p0) ?_
  exact xw _ (Z6 O (Qj h3 (rfl)) U)
 ·exact Qb <| sn Qa [0,1,4,5,9] [] (pe 3 (zC ((k0:H)<(zE s_:H))) p0) <| ckF <| Q4 <| xw _ (U6 O (rfl) U)
 exact sn Qa [4] [] (pc 3 (Ys (zE s_:H) 1 most) p0) <| Qd <| pb [] (Vp hD0 (rfl))
def Yv (s_:uE):uD:=(Fg s_ 6)
theorem Jx (s_:uE):ACalls Tryz.prog 223 [.s s_] (.b (Yv s_)):=by
 refine en Qa Tryz.func223 λw0 F0 hG=> ?_
 exact sn Qa [0,2] [] p0 <| tn Qa [2] [] (pc 1 (T2 s_ 6) p0) <| Qd <| pb [] (show Yv s_=(Fg s_ 6) from rfl)
def Xw (v:K4):uD:=(bif (v.1==(0:H)) then ((v.1==0)&&((v.2.1==0)&&((v.2.2.toList==(⟨#[]⟩:uE).toList)&&E))) else (bif (v.1==(1:H)) then ((Q0 v.2.1 0 999)&&(v.2.2.toList==(⟨#[]⟩:uE).toList)) else (bif (v.1==(2:H)) then ((Yv v.2.2)&&(v.2.1==(0:H))) else uA)))
theorem Za (v:K4):ACalls Tryz.prog 177 [.a [.i v.1,.i v.2.1,.s v.2.2]] (.b (Xw v)):=by
 refine en Qa Tryz.func177 λw0 F0 hG=> ?_
 refine sn Qa [1,2] [1] p0 <| Qb <| tn Qa [1,2,4] [1] p0 <| Qo <| tu Qa [(1,.p 1 0),(2,.b uA),(4,.i v.1),(5,.b (v.1==(0:H)))] [0] [(1, [.i v.1,.i v.2.1,.s v.2.2])] [] p0 <| ck (v.1==(0:H)) (λh1=> ?_) (λh1=> ?_)
 ·exact sn Qa [2] [] p0 <| Qd <| pb [] (Q9 h1 (rfl))
 refine sn Qa [1,2,4,10] [1] p0 <| ck (v.1==(1:H)) (λh2=> ?_) (λh2=> ?_)
 ·refine Qb <| mz [(10,.b (v.1==(1:H)))] [5] [] [] <| jn [(2,.b ((Q0 v.2.1 0 999)&&(v.2.2.toList==(⟨#[]⟩:uE).toList)))] [1,2,4,10] [] [1] (Q0 v.2.1 0 999) (λh3=> ?_) (λh3=> ?_) ?_
  ·refine rn Qa [2] [] (pc 2 (cb h3 (Ys v.2.1 0 999)) p0) ?_;exact zA (by rw[h3]<;>kernel_rfl)
  ·refine rn Qa [2] [] (pc 2 (cb h3 (Ys v.2.1 0 999)) p0) ?_;exact zA (by rw[h3]<;>kernel_rfl)
  exact Qd <| pb [] (Qj h1 (Q9 h2 (rfl)))
 refine tn Qa [1,2,20] [1] p0 <| ck (v.1==(2:H)) (λh4=> ?_) (λh4=> ?_)
 ·refine Qb <| mz [(20,.b (v.1==(2:H)))] [4,5] [] [] <| jn [(2,.b ((Yv v.2.2)&&(v.2.1==(0:H))))] [1,2,20] [] [1] (Yv v.2.2) (λh5=> ?_) (λh5=> ?_) ?_
  ·refine rn Qa [2] [] (pc 2 (cb h5 (Jx v.2.2)) p0) ?_;exact zA (by rw[h5]<;>kernel_rfl)
  ·refine rn Qa [2] [] (pc 2 (cb h5 (Jx v.2.2)) p0) ?_;exact zA (by rw[h5]<;>kernel_rfl)
  exact Qd <| pb [] (Qj h1 (Qj h2 (Q9 h4 (rfl))))
 exact Qf <| tu Qa [] [1,4,5] [] [1] p0 <| Qd <| pb [] (Qj h1 (Qj h2 (Qj h4 (rfl))))
def Q1 (s_:uE):uD:=(((zE s_:H)==(1:H))&&(decide (Z9 s_ 0>=(97:H))&&decide (Z9 s_ 0<=(122:H))))
theorem Zc (s_:uE):ACalls Tryz.prog 150 [.s s_] (.b (Q1 s_)):=by
 refine en Qa Tryz.func150 λw0 F0 hG=> ?_
 refine sn Qa [0,2] [] p0 <| Qb <| mz [(2,.b uA)] [] [] [] <| jn [(2,.b (((zE s_:H)==(1:H))&&(decide (Z9 s_ 0>=(97:H))&&decide (Z9 s_ 0<=(122:H)))))] [0,2] [] [] ((zE s_:H)==(1:H)) (λh1=> ?_) (λh1=> ?_) ?_
 ·have h1d:=eq_of_beq h1;refine Xx (decide (Z9 s_ 0>=(97:H))) (λh2=> ?_) (λh2=> ?_)
  ·have h2d:=uV h2;refine rn Qa [2] [] (pt 2 h1 (px (Cx (i:=0) (n:=(zE s_)) (by omega)) (pt 6 h2 (px (Cx (i:=0) (n:=(zE s_)) (by omega)) p0)))) ?_;exact zA (by rw[h1,h2]<;>kernel_rfl)
  have h2d:=uP h2;refine rn Qa [2] [] (pt 2 h1 (px (Cx (i:=0) (n:=(zE s_)) (by omega)) (pf 6 h2 p0))) ?_;exact zA (by rw[h1,h2]<;>kernel_rfl)
 ·refine rn Qa [2] [] (pf 2 h1 p0) ?_;exact zA (by rw[h1]<;>kernel_rfl)
 exact Qd <| pb [] (show Q1 s_=(((zE s_:H)==(1:H))&&(decide (Z9 s_ 0>=(97:H))&&decide (Z9 s_ 0<=(122:H)))) from rfl)
def Xs (s_:uE):uD:=(Fg s_ 1)
theorem Yh (s_:uE):ACalls Tryz.prog 129 [.s s_] (.b (Xs s_)):=by
 refine en Qa Tryz.func129 λw0 F0 hG=> ?_
 exact sn Qa [0,2] [] p0 <| tn Qa [2] [] (pc 1 (T2 s_ 1) p0) <| Qd <| pb [] (show Xs s_=(Fg s_ 1) from rfl)
def Zd (n:Q2) (at_:H):uD:=(bif (n.1==(1:H)) then ((n.1==n.1)&&((n.2.1==0)&&((n.2.2.1==0)&&((n.2.2.2.1.toList==(⟨#[]⟩:uE).toList)&&((n.2.2.2.2.1==0)&&((n.2.2.2.2.2.1==0)&&((n.2.2.2.2.2.2.toList==(⟨#[]⟩:uE).toList)&&E))))))) else (bif (n.1==(2:H)) then (((n.1==n.1)&&((n.2.1==0)&&((n.2.2.1==0)&&((n.2.2.2.1.toList==n.2.2.2.1.toList)&&((n.2.2.2.2.1==0)&&((n.2.2.2.2.2.1==0)&&((n.2.2.2.2.2.2.toList==(⟨#[]⟩:uE).toList)&&E)))))))&&(Q1 n.2.2.2.1)) else (bif (bif (n.1==(3:H)) then (n.1==(3:H)) else (n.1==(4:H))) then (((n.1==n.1)&&((n.2.1==0)&&((n.2.2.1==0)&&((n.2.2.2.1.toList==n.2.2.2.1.toList)&&((n.2.2.2.2.1==n.2.2.2.2.1)&&((n.2.2.2.2.2.1==n.2.2.2.2.2.1)&&((n.2.2.2.2.2.2.toList==n.2.2.2.2.2.2.toList)&&E)))))))&&((Q1 n.2.2.2.1)&&((Q6 n.2.2.2.2)&&((n.2.2.2.2.1 !=(0:H))&&((n.1==(3:H))|| (n.2.2.2.2.1==(1:H))))))) else (bif (n.1==(5:H)) then (((n.1==n.1)&&((n.2.1==n.2.1)&&((n.2.2.1==0)&&((n.2.2.2.1.toList==(⟨#[]⟩:uE).toList)&&((n.2.2.2.2.1==0)&&((n.2.2.2.2.2.1==0)&&((n.2.2.2.2.2.2.toList==(⟨#[]⟩:uE).toList)&&E)))))))&&(decide (at_>(0:H))&&(Xo n.2.1 0 (IntKind.i64.wrap (at_-1))))) else (bif (bif (n.1==(6:H)) then (n.1==(6:H)) else (n.1==(7:H))) then (((n.1==n.1)&&((n.2.1==n.2.1)&&((n.2.2.1==n.2.2.1)&&((n.2.2.2.1.toList==(⟨#[]⟩:uE).toList)&&((n.2.2.2.2.1==0)&&((n.2.2.2.2.2.1==0)&&((n.2.2.2.2.2.2.toList==(⟨#[]⟩:uE).toList)&&E)))))))&&(decide (at_>(0:H))&&((Xo n.2.1 0 (IntKind.i64.wrap (at_-1)))&&(Xo n.2.2.1 0 (IntKind.i64.wrap (at_-1)))))) else (bif (n.1==(8:H)) then (((n.1==n.1)&&((n.2.1==0)&&((n.2.2.1==0)&&((n.2.2.2.1.toList==n.2.2.2.1.toList)&&((n.2.2.2.2.1==0)&&((n.2.2.2.2.2.1==0)&&((n.2.2.2.2.2.2.toList==(⟨#[]⟩:uE).toList)&&E)))))))&&(Xc n.2.2.2.1)) else (bif (n.1==(9:H)) then (((n.1==n.1)&&((n.2.1==0)&&((n.2.2.1==0)&&((n.2.2.2.1.toList==n.2.2.2.1.toList)&&((n.2.2.2.2.1==0)&&((n.2.2.2.2.2.1==0)&&((n.2.2.2.2.2.2.toList==(⟨#[]⟩:uE).toList)&&E)))))))&&(Xc n.2.2.2.1)) else uA)))))))
theorem Fh (n:Q2) (at_:H):ACalls Tryz.prog 206 [.a [.i n.1,.i n.2.1,.i n.2.2.1,.s n.2.2.2.1,.i n.2.2.2.2.1,.i n.2.2.2.2.2.1,.s n.2.2.2.2.2.2],.i at_] (.b (Zd n at_)):=by
 refine en Qa Tryz.func206 λw0 F0 hG=> ?_
 refine sn Qa [1,2,4] [2] p0 <| tn Qa [1,2,4,5] [2,5] p0 <| Qb <| tu Qa [(2,.p 2 0),(4,.b uA),(5,.p 5 0),(10,.i n.1)] [0] [(2, [.i n.1,.i n.2.1,.i n.2.2.1,.s n.2.2.2.1,.i n.2.2.2.2.1,.i n.2.2.2.2.2.1,.s n.2.2.2.2.2.2]),(5, [.i n.1,.i 0,.i 0,.s ⟨#[]⟩,.i 0,.i 0,.s ⟨#[]⟩])] [] p0 <| Qo <| sn Qa [1,2,4,5,10,11] [2,5] p0 <| ck (n.1==(1:H)) (λh1=> ?_) (λh1=> ?_)
 ·exact Qf <| tn Qa [4] [] p0 <| Qd <| pb [] (Q9 h1 (rfl))
 refine tn Qa [1,2,4,5,10,13] [2,5] p0 <| ck (n.1==(2:H)) (λh2=> ?_) (λh2=> ?_)
 ·refine tu Qa [] [1,10] [(5, [.i n.1,.i 0,.i 0,.s n.2.2.2.1,.i 0,.i 0,.s ⟨#[]⟩])] [5] p0 <| Qb <| jn [(4,.b (((n.1==n.1)&&((n.2.1==0)&&((n.2.2.1==0)&&((n.2.2.2.1.toList==n.2.2.2.1.toList)&&((n.2.2.2.2.1==0)&&((n.2.2.2.2.2.1==0)&&((n.2.2.2.2.2.2.toList==(⟨#[]⟩:uE).toList)&&E)))))))&&(Q1 n.2.2.2.1)))] [4] [] [] ((n.1==n.1)&&((n.2.1==0)&&((n.2.2.1==0)&&((n.2.2.2.1.toList==n.2.2.2.1.toList)&&((n.2.2.2.2.1==0)&&((n.2.2.2.2.2.1==0)&&((n.2.2.2.2.2.2.toList==(⟨#[]⟩:uE).toList)&&E))))))) (λh3=> ?_) (λh3=> ?_) ?_
  ·refine rn Qa [2,4,5] [2,5] (pt 2 h3 (pc 6 (Zc n.2.2.2.1) p0)) ?_;exact zA (by rw[h3]<;>kernel_rfl)
  ·refine ru Qa [] [] [] [] (pf 2 h3 p0) ?_;exact zA (by rw[h3]<;>kernel_rfl)
  exact Qd <| pb [] (Qj h1 (Q9 h2 (rfl)))
 refine Qb <| tu Qa [(26,.b (n.1==(3:H)))] [] [] [] p0 <| jn [(26,.b (bif (n.1==(3:H)) then (n.1==(3:H)) else (n.1==(4:H))))] [26] [] [] (n.1==(3:H)) (λh4=> ?_) (λh4=> ?_) ?_
 ·refine ckt h4 ?_;exact Qf <| ⟨rfl,Qe (by rw[h4]<;>kernel_rfl)⟩
 ·refine ckf h4 ?_;refine rn Qa [1,2,4,5,10,26] [2,5] p0 ?_;exact zA (by rw[h4]<;>kernel_rfl)
 refine ck (bif (n.1==(3:H)) then (n.1==(3:H)) else (n.1==(4:H))) (λh5=> ?_) (λh5=> ?_)
 ·refine sN Qa Yo [2,4,5] [2,5] p0 <| Qb <| mz [] [1,10,26] [(5, [.i n.1,.i 0,.i 0,.s n.2.2.2.1,.i n.2.2.2.2.1,.i n.2.2.2.2.2.1,.s n.2.2.2.2.2.2])] [5] <| jn [(4,.b (((n.1==n.1)&&((n.2.1==0)&&((n.2.2.1==0)&&((n.2.2.2.1.toList==n.2.2.2.1.toList)&&((n.2.2.2.2.1==n.2.2.2.2.1)&&((n.2.2.2.2.2.1==n.2.2.2.2.2.1)&&((n.2.2.2.2.2.2.toList==n.2.2.2.2.2.2.toList)&&E)))))))&&((Q1 n.2.2.2.1)&&((Q6 n.2.2.2.2)&&((n.2.2.2.2.1 !=(0:H))&&((n.1==(3:H))|| (n.2.2.2.2.1==(1:H))))))))] [4] [] [] ((n.1==n.1)&&((n.2.1==0)&&((n.2.2.1==0)&&((n.2.2.2.1.toList==n.2.2.2.1.toList)&&((n.2.2.2.2.1==n.2.2.2.2.1)&&((n.2.2.2.2.2.1==n.2.2.2.2.2.1)&&((n.2.2.2.2.2.2.toList==n.2.2.2.2.2.2.toList)&&E))))))) (λh6=> ?_) (λh6=> ?_) ?_
  ·refine Xx (Q1 n.2.2.2.1) (λh7=> ?_) (λh7=> ?_)
   ·refine Xx (Q6 n.2.2.2.2) (λh8=> ?_) (λh8=> ?_)
    ·refine Xx (n.2.2.2.2.1 !=(0:H)) (λh9=> ?_) (λh9=> ?_)
     ·refine Xx (n.1==(3:H)) (λh10=> ?_) (λh10=> ?_)
      ·refine rn Qa [2,4,5] [2,5] (pt 2 h6 (pc 6 (cb h7 (Zc n.2.2.2.1)) (pc 11 (cb h8 (Jt n.2.2.2.2)) (pt 17 h9 (pt 22 h10 p0))))) ?_;exact zA (by rw[h6,h7,h8,h9,h10]<;>kernel_rfl)
      refine rn Qa [2,4,5] [2,5] (pt 2 h6 (pc 6 (cb h7 (Zc n.2.2.2.1)) (pc 11 (cb h8 (Jt n.2.2.2.2)) (pt 17 h9 (pf 22 h10 p0))))) ?_;exact zA (by rw[h6,h7,h8,h9,h10]<;>kernel_rfl)
     refine ru Qa [] [] [] [] (pt 2 h6 (pc 6 (cb h7 (Zc n.2.2.2.1)) (pc 11 (cb h8 (Jt n.2.2.2.2)) (pf 17 h9 p0)))) ?_;exact zA (by rw[h6,h7,h8,h9]<;>kernel_rfl)
    refine ru Qa [] [] [] [] (pt 2 h6 (pc 6 (cb h7 (Zc n.2.2.2.1)) (pc 11 (cb h8 (Jt n.2.2.2.2)) p0))) ?_;exact zA (by rw[h6,h7,h8]<;>kernel_rfl)
   refine ru Qa [] [] [] [] (pt 2 h6 (pc 6 (cb h7 (Zc n.2.2.2.1)) p0)) ?_;exact zA (by rw[h6,h7]<;>kernel_rfl)
  ·refine ru Qa [] [] [] [] (pf 2 h6 p0) ?_;exact zA (by rw[h6]<;>kernel_rfl)
  exact Qd <| pb [] (Qj h1 (Qj h2 (Q9 h5 (rfl))))
 refine sn Qa [1,2,4,5,10,65] [2,5] p0 <| ck (n.1==(5:H)) (λh11=> ?_) (λh11=> ?_)
 ·refine tn Qa [1,2,4,5] [2,5] p0 <| Qb <| mz [] [10,26] [(5, [.i n.1,.i n.2.1,.i 0,.s ⟨#[]⟩,.i 0,.i 0,.s ⟨#[]⟩])] [5] <| jn [(4,.b (((n.1==n.1)&&((n.2.1==n.2.1)&&((n.2.2.1==0)&&((n.2.2.2.1.toList==(⟨#[]⟩:uE).toList)&&((n.2.2.2.2.1==0)&&((n.2.2.2.2.2.1==0)&&((n.2.2.2.2.2.2.toList==(⟨#[]⟩:uE).toList)&&E)))))))&&(decide (at_>(0:H))&&(Xo n.2.1 0 (IntKind.i64.wrap (at_-1))))))] [1,4] [] [] ((n.1==n.1)&&((n.2.1==n.2.1)&&((n.2.2.1==0)&&((n.2.2.2.1.toList==(⟨#[]⟩:uE).toList)&&((n.2.2.2.2.1==0)&&((n.2.2.2.2.2.1==0)&&((n.2.2.2.2.2.2.toList==(⟨#[]⟩:uE).toList)&&E))))))) (λh12=> ?_) (λh12=> ?_) ?_
  ·refine Xx (decide (at_>(0:H))) (λh13=> ?_) (λh13=> ?_)
   ·refine rn Qa [2,4,5] [2,5] (pt 2 h12 (pt 5 h13 (pc 12 (Js n.2.1 0 (IntKind.i64.wrap (at_-1))) p0))) ?_;exact zA (by rw[h12,h13]<;>kernel_rfl)
   refine ru Qa [] [1] [] [] (pt 2 h12 (pf 5 h13 p0)) ?_;exact zA (by rw[h12,h13]<;>kernel_rfl)
  ·refine ru Qa [] [1] [] [] (pf 2 h12 p0) ?_;exact zA (by rw[h12]<;>kernel_rfl)
  exact Qd <| pb [] (Qj h1 (Qj h2 (Qj h5 (Q9 h11 (rfl)))))
 refine Qb <| tn Qa [1,2,4,5,10,84] [2,5] p0 <| mz [(84,.b (n.1==(6:H)))] [26] [] [] <| jn [(84,.b (bif (n.1==(6:H)) then (n.1==(6:H)) else (n.1==(7:H))))] [84] [] [] (n.1==(6:H)) (λh14=> ?_) (λh14=> ?_) ?_
 ·refine ckt h14 ?_;exact Qf <| ⟨rfl,Qe (by rw[h14]<;>kernel_rfl)⟩
 ·refine ckf h14 ?_;refine rn Qa [1,2,4,5,10,84] [2,5] p0 ?_;exact zA (by rw[h14]<;>kernel_rfl)
 refine ck (bif (n.1==(6:H)) then (n.1==(6:H)) else (n.1==(7:H))) (λh15=> ?_) (λh15=> ?_)
 ·refine sN Qa Yo [1,2,4,5] [2,5] p0 <| Qb <| mz [] [10,84] [(5, [.i n.1,.i n.2.1,.i n.2.2.1,.s ⟨#[]⟩,.i 0,.i 0,.s ⟨#[]⟩])] [5] <| jn [(4,.b (((n.1==n.1)&&((n.2.1==n.2.1)&&((n.2.2.1==n.2.2.1)&&((n.2.2.2.1.toList==(⟨#[]⟩:uE).toList)&&((n.2.2.2.2.1==0)&&((n.2.2.2.2.2.1==0)&&((n.2.2.2.2.2.2.toList==(⟨#[]⟩:uE).toList)&&E)))))))&&(decide (at_>(0:H))&&((Xo n.2.1 0 (IntKind.i64.wrap (at_-1)))&&(Xo n.2.2.1 0 (IntKind.i64.wrap (at_-1)))))))] [1,4] [] [] ((n.1==n.1)&&((n.2.1==n.2.1)&&((n.2.2.1==n.2.2.1)&&((n.2.2.2.1.toList==(⟨#[]⟩:uE).toList)&&((n.2.2.2.2.1==0)&&((n.2.2.2.2.2.1==0)&&((n.2.2.2.2.2.2.toList==(⟨#[]⟩:uE).toList)&&E))))))) (λh16=> ?_) (λh16=> ?_) ?_
  ·refine Xx (decide (at_>(0:H))) (λh17=> ?_) (λh17=> ?_)
   ·refine Xx (Xo n.2.1 0 (IntKind.i64.wrap (at_-1))) (λh18=> ?_) (λh18=> ?_)
    ·refine rn Qa [2,4,5] [2,5] (pt 2 h16 (pt 5 h17 (pc 12 (cb h18 (Js n.2.1 0 (IntKind.i64.wrap (at_-1)))) (pc 19 (Js n.2.2.1 0 (IntKind.i64.wrap (at_-1))) p0)))) ?_;exact zA (by rw[h16,h17,h18]<;>kernel_rfl)
    refine ru Qa [] [1] [] [] (pt 2 h16 (pt 5 h17 (pc 12 (cb h18 (Js n.2.1 0 (IntKind.i64.wrap (at_-1)))) p0))) ?_;exact zA (by rw[h16,h17,h18]<;>kernel_rfl)
   refine ru Qa [] [1] [] [] (pt 2 h16 (pf 5 h17 p0)) ?_;exact zA (by rw[h16,h17]<;>kernel_rfl)
  ·refine ru Qa [] [1] [] [] (pf 2 h16 p0) ?_;exact zA (by rw[h16]<;>kernel_rfl)
  exact Qd <| pb [] (Qj h1 (Qj h2 (Qj h5 (Qj h11 (Q9 h15 (rfl))))))
 refine Qb <| sn Qa [2,4,5,10,114] [2,5] p0 <| ck (n.1==(8:H)) (λh19=> ?_) (λh19=> ?_)
 ·refine Qf <| ckt h19 ?_
  refine tn Qa [2,4,5] [2,5] p0 <| Qb <| mz [] [1,10,84] [(5, [.i n.1,.i 0,.i 0,.s n.2.2.2.1,.i 0,.i 0,.s ⟨#[]⟩])] [5] <| jn [(4,.b (((n.1==n.1)&&((n.2.1==0)&&((n.2.2.1==0)&&((n.2.2.2.1.toList==n.2.2.2.1.toList)&&((n.2.2.2.2.1==0)&&((n.2.2.2.2.2.1==0)&&((n.2.2.2.2.2.2.toList==(⟨#[]⟩:uE).toList)&&E)))))))&&(Xc n.2.2.2.1)))] [4] [] [] ((n.1==n.1)&&((n.2.1==0)&&((n.2.2.1==0)&&((n.2.2.2.1.toList==n.2.2.2.1.toList)&&((n.2.2.2.2.1==0)&&((n.2.2.2.2.2.1==0)&&((n.2.2.2.2.2.2.toList==(⟨#[]⟩:uE).toList)&&E))))))) (λh20=> ?_) (λh20=> ?_) ?_
  ·refine rn Qa [2,4,5] [2,5] (pt 2 h20 (pc 6 (Ku n.2.2.2.1) p0)) ?_;exact zA (by rw[h20]<;>kernel_rfl)
  ·refine ru Qa [] [] [] [] (pf 2 h20 p0) ?_;exact zA (by rw[h20]<;>kernel_rfl)
  exact Qd <| pb [] (Qj h1 (Qj h2 (Qj h5 (Qj h11 (Qj h15 (Q9 h19 (rfl)))))))
 refine qn Qa [2,4,5,114] [2,5] p0 ?_;refine ck (n.1==(9:H)) (λh21=> ?_) (λh21=> ?_)
 ·refine tu Qa [] [1,10,84] [(5, [.i n.1,.i 0,.i 0,.s n.2.2.2.1,.i 0,.i 0,.s ⟨#[]⟩])] [5] p0 <| Qb <| jn [(4,.b (((n.1==n.1)&&((n.2.1==0)&&((n.2.2.1==0)&&((n.2.2.2.1.toList==n.2.2.2.1.toList)&&((n.2.2.2.2.1==0)&&((n.2.2.2.2.2.1==0)&&((n.2.2.2.2.2.2.toList==(⟨#[]⟩:uE).toList)&&E)))))))&&(Xc n.2.2.2.1)))] [4] [] [] ((n.1==n.1)&&((n.2.1==0)&&((n.2.2.1==0)&&((n.2.2.2.1.toList==n.2.2.2.1.toList)&&((n.2.2.2.2.1==0)&&((n.2.2.2.2.2.1==0)&&((n.2.2.2.2.2.2.toList==(⟨#[]⟩:uE).toList)&&E))))))) (λh22=> ?_) (λh22=> ?_) ?_
  ·refine rn Qa [2,4,5] [2,5] (pt 2 h22 (pc 6 (Ku n.2.2.2.1) p0)) ?_;exact zA (by rw[h22]<;>kernel_rfl)
  ·refine ru Qa [] [] [] [] (pf 2 h22 p0) ?_;exact zA (by rw[h22]<;>kernel_rfl)
  exact Qd <| pb [] (Qj h1 (Qj h2 (Qj h5 (Qj h11 (Qj h15 (Qj h19 (Q9 h21 (rfl))))))))
 exact tu Qa [] [1,10,84] [] [] p0 <| Qd <| pb [] (Qj h1 (Qj h2 (Qj h5 (Qj h11 (Qj h15 (Qj h19 (Qj h21 (rfl))))))))
def Ko (at_:H) (_:Y) (a0:Q2) (s0:H):Rd (H) (H) (H):=(bif ((a0.2.1==at_)&&(((a0.1==(6:H))|| (a0.1==(7:H)))|| (a0.1==(5:H)))) then (bif ((a0.2.2.1==at_)&&((a0.1==(6:H))|| (a0.1==(7:H)))) then (.next (IntKind.i64.wrap (IntKind.i64.wrap (s0+1)+1))) else (.next (IntKind.i64.wrap (s0+1)))) else (bif ((a0.2.2.1==at_)&&((a0.1==(6:H))|| (a0.1==(7:H)))) then (.next (IntKind.i64.wrap (s0+1))) else (.next s0)))
def U8 (_:Y) (s0:H):H:=s0
def Kb (q:W Q2) (at_:H):H:=(Out.on (X4 (Ko at_) U8 q 0 0) (λy0=>y0))
theorem Pf (q:W Q2) (at_:H):ACalls Tryz.prog 207 [.h q,.i at_] (.i (Kb q at_)):=by
 refine en Qa Tryz.func207 λw0 F0 hG=> ?_
 refine sn Qa [0,1,4] [] p0 <| tn Qa [0,1,4,5] [] p0 <| Qb <| tu Qa [(4,.i 0),(5,.i 0),(9,.h q),(10,.i (q.length:H)),(11,.i 0)] [0] [] [] (pl 1 q p0) <| wT 9 0 .sh q (λhw1 hl2=> ?_)
 refine R2 (Ko at_) U8 q 0 (λk0 s0=> [(5,.i s0),(11,.i (k0:H))]) [5,11] (λy0=> [(5,.i y0)]) [1,5,9,10,11] wf0 (λk0 s0 O U=> ?_) (λk0 s0 O U=> ?_) (λy0 hD0=> ?_)
 ·obtain ⟨a0,V⟩:=Xh (l:=q) (i:=k0) O;refine su Qa [(12,.b E)] [] [] [] (pe 0 (zB ((k0:H)<(q.length:H))) p0) <| Qb <| ckT <| Qf <| Qb <| Qo <| sn Qa [1,4,5,7,9,10,11] [7] (pn 0 V p0) <| Qb <| mz [(7,.p 7 0)] [12] [(7, [.i a0.1,.i a0.2.1,.i a0.2.2.1,.s a0.2.2.2.1,.i a0.2.2.2.2.1,.i a0.2.2.2.2.2.1,.s a0.2.2.2.2.2.2])] [] <| jn [(8,.b ((a0.1==(6:H))|| (a0.1==(7:H))))] [] [] [] (a0.1==(6:H)) (λh3=> ?_) (λh3=> ?_) ?_
  ·refine ru Qa [(8,.b E)] [] [] [] (pt 2 h3 p0) ?_;exact zA (by rw[h3]<;>kernel_rfl)
  ·refine rn Qa [1,4,5,7,8,9,10,11] [7] (pf 2 h3 p0) ?_;exact zA (by rw[h3]<;>kernel_rfl)
  refine Qb <| Qb <| jn [(34,.b ((a0.2.1==at_)&&(((a0.1==(6:H))|| (a0.1==(7:H)))|| (a0.1==(5:H)))))] [] [] [] (a0.2.1==at_) (λh4=> ?_) (λh4=> ?_) ?_
  ·refine Xx ((a0.1==(6:H))|| (a0.1==(7:H))) (λh5=> ?_) (λh5=> ?_)
   ·refine ru Qa [(34,.b E)] [] [] [] (pt 3 h4 (pt 5 h5 p0)) ?_;exact zA (by rw[h4,h5]<;>kernel_rfl)
   refine rn Qa [1,4,5,7,8,9,10,11,34] [7] (pt 3 h4 (pf 5 h5 p0)) ?_;exact zA (by rw[h4,h5]<;>kernel_rfl)
  ·refine ru Qa [(34,.b uA)] [] [] [] (pf 3 h4 p0) ?_;exact zA (by rw[h4]<;>kernel_rfl)
  refine ck ((a0.2.1==at_)&&(((a0.1==(6:H))|| (a0.1==(7:H)))|| (a0.1==(5:H)))) (λh6=> ?_) (λh6=> ?_)
  ·have h6l:((a0.2.1==at_))=E:=WK h6;have h6ld:=eq_of_beq h6l;refine rn Qa [1,4,5,7,8,9,10,11] [7] p0 ?_;refine Qb <| mz [(5,.i (IntKind.i64.wrap (s0+1)))] [5,34] [] [] <| jn [(43,.b ((a0.2.2.1==at_)&&((a0.1==(6:H))|| (a0.1==(7:H)))))] [7,8] [] [7] (a0.2.2.1==at_) (λh7=> ?_) (λh7=> ?_) ?_
   ·refine rn Qa [1,4,5,9,10,11,43] [] (pt 3 h7 p0) ?_;exact zA (by rw[h7]<;>kernel_rfl)
   ·refine rn Qa [1,4,5,9,10,11,43] [] (pf 3 h7 p0) ?_;exact zA (by rw[h7]<;>kernel_rfl)
   refine ck ((a0.2.2.1==at_)&&((a0.1==(6:H))|| (a0.1==(7:H)))) (λh8=> ?_) (λh8=> ?_)
   ·have h8l:((a0.2.2.1==at_))=E:=WK h8;have h8ld:=eq_of_beq h8l;refine rn Qa [1,4,5,9,10,11] [] p0 ?_;refine qn Qa [1,4,5,9,10,11] [] (pe 0 (Jl (Qn k0 (by omega))) p0) ?_;exact xw _ (Qs V (Q9 h6 (Q9 h8 (rfl))) U)
   refine Qf <| rn Qa [1,4,5,9,10,11] [] (pe 0 (Jl (Qn k0 (by omega))) p0) ?_
   exact xw _ (Qs V (Q9 h6 (Qj h8 (rfl))) U)
  refine Qf <| Qb <| jn [(43,.b ((a0.2.2.1==at_)&&((a0.1==(6:H))|| (a0.1==(7:H)))))] [7,8,34] [] [7] (a0.2.2.1==at_) (λh9=> ?_) (λh9=> ?_) ?_
  ·refine rn Qa [1,4,5,9,10,11,43] [] (pt 3 h9 p0) ?_;exact zA (by rw[h9]<;>kernel_rfl)
  ·refine rn Qa [1,4,5,9,10,11,43] [] (pf 3 h9 p0) ?_;exact zA (by rw[h9]<;>kernel_rfl)
  refine ck ((a0.2.2.1==at_)&&((a0.1==(6:H))|| (a0.1==(7:H)))) (λh10=> ?_) (λh10=> ?_)
  ·have h10l:((a0.2.2.1==at_))=E:=WK h10;have h10ld:=eq_of_beq h10l;refine rn Qa [1,4,5,9,10,11] [] p0 ?_;refine qn Qa [1,4,5,9,10,11] [] (pe 0 (Jl (Qn k0 (by omega))) p0) ?_;exact xw _ (Qs V (Qj h6 (Q9 h10 (rfl))) U)
  refine Qf <| rn Qa [1,4,5,9,10,11] [] (pe 0 (Jl (Qn k0 (by omega))) p0) ?_
  exact xw _ (Qs V (Qj h6 (Qj h10 (rfl))) U)
 ·exact su Qa [(12,.b uA)] [] [] [] (pe 0 (zC ((k0:H)<(q.length:H))) p0) <| Qb <| ckF <| Q4 <| xw _ (Xj O (rfl) U)
 exact sn Qa [4] [] p0 <| Qd <| pi [] (Vp hD0 (rfl))
def Zv (q:W Q2) (k0:Y) (a0:Q2) (_:uL):Rd (uD) (uL) (uL):=(bif ((!(Zd a0 (k0:H)))|| (decide ((k0:H)<((q.length:H)-1))&&((Kb q (k0:H)) !=(1:H)))) then (.ret uA) else (.next ()))
def Vq (_:Y) (_:uL):uL:=()
def Qk (q:W Q2):uD:=(Out.on (X4 (Zv q) Vq q 0 ()) (λ_=>(Xo (q.length:H) 1 9)))
theorem Vv (q:W Q2):ACalls Tryz.prog 154 [.h q] (.b (Qk q)):=by
 refine en Qa Tryz.func154 λw0 F0 hG=> ?_
 refine sn Qa [0,2] [] p0 <| Qb <| tn Qa [0,2,5,6,7] [] (pl 1 q p0) <| mz [(2,.b uA),(5,.h q),(6,.i (q.length:H)),(7,.i 0)] [] [] [] <| wT 0 0 .sh q (λhw1 hl2=> ?_)
 refine R2 (Zv q) Vq q () (λk0 _=> [(7,.i (k0:H))]) [7] (λ_=> []) [5,6,7] wf0 (λk0 s0 O U=> ?_) (λk0 s0 O U=> ?_) (λy0 hD0=> ?_)
 ·obtain ⟨a0,V⟩:=Xh (l:=q) (i:=k0) O;refine sn Qa [0,2,5,6,7,8] [] (pe 0 (zB ((k0:H)<(q.length:H))) p0) <| Qb <| ckT <| Qf <| Qb <| Qo <| tn Qa [0,2,3,4,5,6,7] [4] (pn 1 V p0) <| Qb <| mz [(3,.i (k0:H)),(4,.p 4 0)] [] [(4, [.i a0.1,.i a0.2.1,.i a0.2.2.1,.s a0.2.2.2.1,.i a0.2.2.2.2.1,.i a0.2.2.2.2.2.1,.s a0.2.2.2.2.2.2])] [] <| jn [(28,.b ((!(Zd a0 (k0:H)))|| (decide ((k0:H)<((q.length:H)-1))&&((Kb q (k0:H)) !=(1:H)))))] [3,4] [] [4] (!(Zd a0 (k0:H))) (λh3=> ?_) (λh3=> ?_) ?_
  ·have h3n:(Zd a0 (k0:H))=uA:=Vt h3;refine rn Qa [0,2,5,6,7,28] [] (pc 2 (cb h3n (Fh a0 (k0:H))) (pe 3 (show .b (!uA)= .b E from rfl) p0)) ?_;exact zA (by rw[h3]<;>kernel_rfl)
  ·have h3n:(Zd a0 (k0:H))=E:=Zz h3;refine Xx (decide ((k0:H)<((q.length:H)-1))) (λh4=> ?_) (λh4=> ?_)
   ·have h4d:=uV h4;refine rn Qa [0,2,5,6,7,28] [] (pc 2 (cb h3n (Fh a0 (k0:H))) (pe 3 (show .b (!E)= .b uA from rfl) (pl 7 q (pe 8 (Jl (IntWalk.i64_in ((q.length:H)-1) (by omega))) (pt 9 h4 (pc 13 (Pf q (k0:H)) p0)))))) ?_;exact zA (by rw[h3,h4]<;>kernel_rfl)
   have h4d:=uP h4;refine rn Qa [0,2,5,6,7,28] [] (pc 2 (cb h3n (Fh a0 (k0:H))) (pe 3 (show .b (!E)= .b uA from rfl) (pl 7 q (pe 8 (Jl (IntWalk.i64_in ((q.length:H)-1) (by omega))) (pf 9 h4 p0))))) ?_;exact zA (by rw[h3,h4]<;>kernel_rfl)
  refine ck ((!(Zd a0 (k0:H)))|| (decide ((k0:H)<((q.length:H)-1))&&((Kb q (k0:H)) !=(1:H)))) (λh5=> ?_) (λh5=> ?_)
  ·refine su Qa [] [28] [] [] p0 <| Qd ?_
   have hr6:(X4 (Zv q) Vq q 0 ())= .ret uA:=Ka V (Q9 h5 (rfl)) U;exact pb [] (On hr6)
  refine Qf <| rn Qa [0,2,5,6,7] [] (pe 0 (Jl (Qn k0 (by omega))) p0) ?_
  exact xw _ (Qs V (Qj h5 (rfl)) U)
 ·exact sn Qa [0,2,5,6,7,8] [] (pe 0 (zC ((k0:H)<(q.length:H))) p0) <| Qb <| ckF <| Q4 <| xw _ (Xj O (rfl) U)
 exact sn Qa [2] [] (pl 1 q (pc 2 (Js (q.length:H) 1 9) p0)) <| Qd <| pb [] (Vp hD0 (rfl))
def Vw (n:Q2) (at_:H):uD:=(bif (n.1==(1:H)) then ((n.1==1)&&((n.2.1==0)&&((n.2.2.1==0)&&((n.2.2.2.1.toList==(⟨#[]⟩:uE).toList)&&((n.2.2.2.2.1==0)&&((n.2.2.2.2.2.1==0)&&((n.2.2.2.2.2.2.toList==(⟨#[]⟩:uE).toList)&&E))))))) else (bif (n.1==(2:H)) then ((Xs n.2.2.2.1)&&((n.1==n.1)&&((n.2.1==0)&&((n.2.2.1==0)&&((n.2.2.2.1.toList==n.2.2.2.1.toList)&&((n.2.2.2.2.1==0)&&((n.2.2.2.2.2.1==0)&&((n.2.2.2.2.2.2.toList==(⟨#[]⟩:uE).toList)&&E)))))))) else (bif (n.1==(3:H)) then ((Xs n.2.2.2.1)&&((Xw n.2.2.2.2)&&((n.2.2.2.2.1 !=(0:H))&&((n.2.1==(0:H))&&(n.2.2.1==(0:H)))))) else (bif (n.1==(4:H)) then ((Xs n.2.2.2.1)&&((Xw n.2.2.2.2)&&((n.2.2.2.2.1==(1:H))&&((n.2.1==(0:H))&&(n.2.2.1==(0:H)))))) else (bif (n.1==(5:H)) then (((Q0 n.2.1 0 (IntKind.i64.wrap (at_-1)))&&decide (at_>(0:H)))&&((n.2.2.1==(0:H))&&((n.2.2.2.1.toList==(⟨#[]⟩:uE).toList)&&((n.2.2.2.2.1==0)&&((n.2.2.2.2.2.1==0)&&((n.2.2.2.2.2.2.toList==(⟨#[]⟩:uE).toList)&&E)))))) else (bif (bif (n.1==(6:H)) then (n.1==(6:H)) else (n.1==(7:H))) then ((((Q0 n.2.1 0 (IntKind.i64.wrap (at_-1)))&&decide (at_>(0:H)))&&(Q0 n.2.2.1 0 (IntKind.i64.wrap (at_-1))))&&((n.2.2.2.1.toList==(⟨#[]⟩:uE).toList)&&((n.2.2.2.2.1==0)&&((n.2.2.2.2.2.1==0)&&((n.2.2.2.2.2.2.toList==(⟨#[]⟩:uE).toList)&&E))))) else (bif (n.1==(8:H)) then ((Yv n.2.2.2.1)&&((n.1==n.1)&&((n.2.1==0)&&((n.2.2.1==0)&&((n.2.2.2.1.toList==n.2.2.2.1.toList)&&((n.2.2.2.2.1==0)&&((n.2.2.2.2.2.1==0)&&((n.2.2.2.2.2.2.toList==(⟨#[]⟩:uE).toList)&&E)))))))) else (bif (n.1==(9:H)) then ((Yv n.2.2.2.1)&&((n.1==n.1)&&((n.2.1==0)&&((n.2.2.1==0)&&((n.2.2.2.1.toList==n.2.2.2.1.toList)&&((n.2.2.2.2.1==0)&&((n.2.2.2.2.2.1==0)&&((n.2.2.2.2.2.2.toList==(⟨#[]⟩:uE).toList)&&E)))))))) else uA))))))))
theorem Fi (n:Q2) (at_:H):ACalls Tryz.prog 178 [.a [.i n.1,.i n.2.1,.i n.2.2.1,.s n.2.2.2.1,.i n.2.2.2.2.1,.i n.2.2.2.2.2.1,.s n.2.2.2.2.2.2],.i at_] (.b (Vw n at_)):=by
 refine en Qa Tryz.func178 λw0 F0 hG=> ?_
 refine sn Qa [1,2,4] [2] p0 <| Qb <| mz [(2,.p 2 0),(4,.b uA)] [0] [(2, [.i n.1,.i n.2.1,.i n.2.2.1,.s n.2.2.2.1,.i n.2.2.2.2.1,.i n.2.2.2.2.2.1,.s n.2.2.2.2.2.2])] [] <| jn [(5,.b ((Q0 n.2.1 0 (IntKind.i64.wrap (at_-1)))&&decide (at_>(0:H))))] [] [] [] (Q0 n.2.1 0 (IntKind.i64.wrap (at_-1))) (λh1=> ?_) (λh1=> ?_) ?_
 ·refine rn Qa [1,2,4,5] [2] (pc 4 (cb h1 (Ys n.2.1 0 (IntKind.i64.wrap (at_-1)))) p0) ?_;exact zA (by rw[h1]<;>kernel_rfl)
 ·refine rn Qa [1,2,4,5] [2] (pc 4 (cb h1 (Ys n.2.1 0 (IntKind.i64.wrap (at_-1)))) p0) ?_;exact zA (by rw[h1]<;>kernel_rfl)
 refine Qb <| jn [(6,.b (((Q0 n.2.1 0 (IntKind.i64.wrap (at_-1)))&&decide (at_>(0:H)))&&(Q0 n.2.2.1 0 (IntKind.i64.wrap (at_-1)))))] [1] [] [] ((Q0 n.2.1 0 (IntKind.i64.wrap (at_-1)))&&decide (at_>(0:H))) (λh2=> ?_) (λh2=> ?_) ?_
 ·refine rn Qa [2,4,5,6] [2] (pt 0 h2 (pc 6 (Ys n.2.2.1 0 (IntKind.i64.wrap (at_-1))) p0)) ?_;exact zA (by rw[h2]<;>kernel_rfl)
 ·refine rn Qa [2,4,5,6] [2] (pf 0 h2 p0) ?_;exact zA (by rw[h2]<;>kernel_rfl)
 refine Qb <| sn Qa [2,4,5,6,25] [2] p0 <| Qo <| tn Qa [2,4,5,6,25,26] [2] p0 <| ck (n.1==(1:H)) (λh3=> ?_) (λh3=> ?_)
 ·exact tu Qa [(4,.b ((n.1==1)&&((n.2.1==0)&&((n.2.2.1==0)&&((n.2.2.2.1.toList==(⟨#[]⟩:uE).toList)&&((n.2.2.2.2.1==0)&&((n.2.2.2.2.2.1==0)&&((n.2.2.2.2.2.2.toList==(⟨#[]⟩:uE).toList)&&E))))))))] [2,4,5,6] [] [2] p0 <| Qd <| pb [] (Q9 h3 (rfl))
 refine tu Qa [(25,.i n.1),(31,.b (n.1==(2:H)))] [] [] [] p0 <| ck (n.1==(2:H)) (λh4=> ?_) (λh4=> ?_)
 ·refine Qb <| jn [(4,.b ((Xs n.2.2.2.1)&&((n.1==n.1)&&((n.2.1==0)&&((n.2.2.1==0)&&((n.2.2.2.1.toList==n.2.2.2.1.toList)&&((n.2.2.2.2.1==0)&&((n.2.2.2.2.2.1==0)&&((n.2.2.2.2.2.2.toList==(⟨#[]⟩:uE).toList)&&E)))))))))] [2,4,5,6,25,31] [] [2] (Xs n.2.2.2.1) (λh5=> ?_) (λh5=> ?_) ?_
  ·refine rn Qa [4] [] (pc 2 (cb h5 (Yh n.2.2.2.1)) p0) ?_;exact zA (by rw[h5]<;>kernel_rfl)
  ·refine rn Qa [4] [] (pc 2 (cb h5 (Yh n.2.2.2.1)) p0) ?_;exact zA (by rw[h5]<;>kernel_rfl)
  exact Qd <| pb [] (Qj h3 (Q9 h4 (rfl)))
 refine sn Qa [2,4,5,6,25,45] [2] p0 <| ck (n.1==(3:H)) (λh6=> ?_) (λh6=> ?_)
 ·refine Qb <| mz [(45,.b (n.1==(3:H)))] [31] [] [] <| jn [(4,.b ((Xs n.2.2.2.1)&&((Xw n.2.2.2.2)&&((n.2.2.2.2.1 !=(0:H))&&((n.2.1==(0:H))&&(n.2.2.1==(0:H)))))))] [2,4,5,6,25,45] [] [2] (Xs n.2.2.2.1) (λh7=> ?_) (λh7=> ?_) ?_
  ·refine Xx (Xw n.2.2.2.2) (λh8=> ?_) (λh8=> ?_)
   ·refine Xx (n.2.2.2.2.1 !=(0:H)) (λh9=> ?_) (λh9=> ?_)
    ·refine Xx (n.2.1==(0:H)) (λh10=> ?_) (λh10=> ?_)
     ·refine rn Qa [4] [] (pc 2 (cb h7 (Yh n.2.2.2.1)) (pc 6 (cb h8 (Za n.2.2.2.2)) (pt 12 h9 (pt 17 h10 p0)))) ?_;exact zA (by rw[h7,h8,h9,h10]<;>kernel_rfl)
     refine rn Qa [4] [] (pc 2 (cb h7 (Yh n.2.2.2.1)) (pc 6 (cb h8 (Za n.2.2.2.2)) (pt 12 h9 (pf 17 h10 p0)))) ?_;exact zA (by rw[h7,h8,h9,h10]<;>kernel_rfl)
    refine rn Qa [4] [] (pc 2 (cb h7 (Yh n.2.2.2.1)) (pc 6 (cb h8 (Za n.2.2.2.2)) (pf 12 h9 p0))) ?_;exact zA (by rw[h7,h8,h9]<;>kernel_rfl)
   refine rn Qa [4] [] (pc 2 (cb h7 (Yh n.2.2.2.1)) (pc 6 (cb h8 (Za n.2.2.2.2)) p0)) ?_;exact zA (by rw[h7,h8]<;>kernel_rfl)
  ·refine rn Qa [4] [] (pc 2 (cb h7 (Yh n.2.2.2.1)) p0) ?_;exact zA (by rw[h7]<;>kernel_rfl)
  exact Qd <| pb [] (Qj h3 (Qj h4 (Q9 h6 (rfl))))
 refine tn Qa [2,4,5,6,25,71] [2] p0 <| ck (n.1==(4:H)) (λh11=> ?_) (λh11=> ?_)
 ·refine Qb <| mz [(71,.b (n.1==(4:H)))] [31] [] [] <| jn [(4,.b ((Xs n.2.2.2.1)&&((Xw n.2.2.2.2)&&((n.2.2.2.2.1==(1:H))&&((n.2.1==(0:H))&&(n.2.2.1==(0:H)))))))] [2,4,5,6,25,71] [] [2] (Xs n.2.2.2.1) (λh12=> ?_) (λh12=> ?_) ?_
  ·refine Xx (Xw n.2.2.2.2) (λh13=> ?_) (λh13=> ?_)
   ·refine Xx (n.2.2.2.2.1==(1:H)) (λh14=> ?_) (λh14=> ?_)
    ·refine Xx (n.2.1==(0:H)) (λh15=> ?_) (λh15=> ?_)
     ·refine rn Qa [4] [] (pc 2 (cb h12 (Yh n.2.2.2.1)) (pc 6 (cb h13 (Za n.2.2.2.2)) (pt 12 h14 (pt 17 h15 p0)))) ?_;exact zA (by rw[h12,h13,h14,h15]<;>kernel_rfl)
     refine rn Qa [4] [] (pc 2 (cb h12 (Yh n.2.2.2.1)) (pc 6 (cb h13 (Za n.2.2.2.2)) (pt 12 h14 (pf 17 h15 p0)))) ?_;exact zA (by rw[h12,h13,h14,h15]<;>kernel_rfl)
    refine rn Qa [4] [] (pc 2 (cb h12 (Yh n.2.2.2.1)) (pc 6 (cb h13 (Za n.2.2.2.2)) (pf 12 h14 p0))) ?_;exact zA (by rw[h12,h13,h14]<;>kernel_rfl)
   refine rn Qa [4] [] (pc 2 (cb h12 (Yh n.2.2.2.1)) (pc 6 (cb h13 (Za n.2.2.2.2)) p0)) ?_;exact zA (by rw[h12,h13]<;>kernel_rfl)
  ·refine rn Qa [4] [] (pc 2 (cb h12 (Yh n.2.2.2.1)) p0) ?_;exact zA (by rw[h12]<;>kernel_rfl)
  exact Qd <| pb [] (Qj h3 (Qj h4 (Qj h6 (Q9 h11 (rfl)))))
 refine tu Qa [(97,.b (n.1==(5:H)))] [31] [] [] p0 <| ck (n.1==(5:H)) (λh16=> ?_) (λh16=> ?_)
 ·refine Qb <| jn [(4,.b (((Q0 n.2.1 0 (IntKind.i64.wrap (at_-1)))&&decide (at_>(0:H)))&&((n.2.2.1==(0:H))&&((n.2.2.2.1.toList==(⟨#[]⟩:uE).toList)&&((n.2.2.2.2.1==0)&&((n.2.2.2.2.2.1==0)&&((n.2.2.2.2.2.2.toList==(⟨#[]⟩:uE).toList)&&E)))))))] [2,4,5,6,25,97] [] [2] ((Q0 n.2.1 0 (IntKind.i64.wrap (at_-1)))&&decide (at_>(0:H))) (λh17=> ?_) (λh17=> ?_) ?_
  ·refine Xx (n.2.2.1==(0:H)) (λh18=> ?_) (λh18=> ?_)
   ·refine Xx (n.2.2.2.1.toList==(⟨#[]⟩:uE).toList) (λh19=> ?_) (λh19=> ?_)
    ·refine rn Qa [4] [] (pt 0 h17 (pt 4 h18 (pt 9 h19 p0))) ?_;exact zA (by rw[h17,h18,h19]<;>kernel_rfl)
    refine rn Qa [4] [] (pt 0 h17 (pt 4 h18 (pf 9 h19 p0))) ?_;exact zA (by rw[h17,h18,h19]<;>kernel_rfl)
   refine rn Qa [4] [] (pt 0 h17 (pf 4 h18 p0)) ?_;exact zA (by rw[h17,h18]<;>kernel_rfl)
  ·refine rn Qa [4] [] (pf 0 h17 p0) ?_;exact zA (by rw[h17]<;>kernel_rfl)
  exact Qd <| pb [] (Qj h3 (Qj h4 (Qj h6 (Qj h11 (Q9 h16 (rfl))))))
 refine Qb <| sn Qa [2,4,6,25,116] [2] p0 <| mz [(116,.b (n.1==(6:H)))] [5,97] [] [] <| jn [(116,.b (bif (n.1==(6:H)) then (n.1==(6:H)) else (n.1==(7:H))))] [116] [] [] (n.1==(6:H)) (λh20=> ?_) (λh20=> ?_) ?_
 ·refine ckt h20 ?_;exact Qf <| ⟨rfl,Qe (by rw[h20]<;>kernel_rfl)⟩
 ·refine ckf h20 ?_;refine rn Qa [2,4,6,25,116] [2] p0 ?_;exact zA (by rw[h20]<;>kernel_rfl)
 refine ck (bif (n.1==(6:H)) then (n.1==(6:H)) else (n.1==(7:H))) (λh21=> ?_) (λh21=> ?_)
 ·refine Qb <| jn [(4,.b ((((Q0 n.2.1 0 (IntKind.i64.wrap (at_-1)))&&decide (at_>(0:H)))&&(Q0 n.2.2.1 0 (IntKind.i64.wrap (at_-1))))&&((n.2.2.2.1.toList==(⟨#[]⟩:uE).toList)&&((n.2.2.2.2.1==0)&&((n.2.2.2.2.2.1==0)&&((n.2.2.2.2.2.2.toList==(⟨#[]⟩:uE).toList)&&E))))))] [2,4,6,25,116] [] [2] (((Q0 n.2.1 0 (IntKind.i64.wrap (at_-1)))&&decide (at_>(0:H)))&&(Q0 n.2.2.1 0 (IntKind.i64.wrap (at_-1)))) (λh22=> ?_) (λh22=> ?_) ?_
  ·refine Xx (n.2.2.2.1.toList==(⟨#[]⟩:uE).toList) (λh23=> ?_) (λh23=> ?_)
   ·refine rn Qa [4] [] (pt 0 h22 (pt 4 h23 p0)) ?_;exact zA (by rw[h22,h23]<;>kernel_rfl)
   refine rn Qa [4] [] (pt 0 h22 (pf 4 h23 p0)) ?_;exact zA (by rw[h22,h23]<;>kernel_rfl)
  ·refine rn Qa [4] [] (pf 0 h22 p0) ?_;exact zA (by rw[h22]<;>kernel_rfl)
  exact Qd <| pb [] (Qj h3 (Qj h4 (Qj h6 (Qj h11 (Qj h16 (Q9 h21 (rfl)))))))
 refine Qb <| sn Qa [2,4,25,131] [2] p0 <| ck (n.1==(8:H)) (λh24=> ?_) (λh24=> ?_)
 ·refine Qf <| ckt h24 ?_
  refine Qb <| mz [(131,.b (n.1==(8:H)))] [6,116] [] [] <| jn [(4,.b ((Yv n.2.2.2.1)&&((n.1==n.1)&&((n.2.1==0)&&((n.2.2.1==0)&&((n.2.2.2.1.toList==n.2.2.2.1.toList)&&((n.2.2.2.2.1==0)&&((n.2.2.2.2.2.1==0)&&((n.2.2.2.2.2.2.toList==(⟨#[]⟩:uE).toList)&&E)))))))))] [2,4,25,131] [] [2] (Yv n.2.2.2.1) (λh25=> ?_) (λh25=> ?_) ?_
  ·refine rn Qa [4] [] (pc 2 (cb h25 (Jx n.2.2.2.1)) p0) ?_;exact zA (by rw[h25]<;>kernel_rfl)
  ·refine rn Qa [4] [] (pc 2 (cb h25 (Jx n.2.2.2.1)) p0) ?_;exact zA (by rw[h25]<;>kernel_rfl)
  exact Qd <| pb [] (Qj h3 (Qj h4 (Qj h6 (Qj h11 (Qj h16 (Qj h21 (Q9 h24 (rfl))))))))
 refine qn Qa [2,4,131] [2] p0 ?_;refine ck (n.1==(9:H)) (λh26=> ?_) (λh26=> ?_)
 ·refine Qb <| mz [(131,.b (n.1==(9:H)))] [6,25,116] [] [] <| jn [(4,.b ((Yv n.2.2.2.1)&&((n.1==n.1)&&((n.2.1==0)&&((n.2.2.1==0)&&((n.2.2.2.1.toList==n.2.2.2.1.toList)&&((n.2.2.2.2.1==0)&&((n.2.2.2.2.2.1==0)&&((n.2.2.2.2.2.2.toList==(⟨#[]⟩:uE).toList)&&E)))))))))] [2,4,131] [] [2] (Yv n.2.2.2.1) (λh27=> ?_) (λh27=> ?_) ?_
  ·refine rn Qa [4] [] (pc 2 (cb h27 (Jx n.2.2.2.1)) p0) ?_;exact zA (by rw[h27]<;>kernel_rfl)
  ·refine rn Qa [4] [] (pc 2 (cb h27 (Jx n.2.2.2.1)) p0) ?_;exact zA (by rw[h27]<;>kernel_rfl)
  exact Qd <| pb [] (Qj h3 (Qj h4 (Qj h6 (Qj h11 (Qj h16 (Qj h21 (Qj h24 (Q9 h26 (rfl)))))))))
 exact Qf <| tu Qa [] [2,6,25,116] [] [2] p0 <| Qd <| pb [] (Qj h3 (Qj h4 (Qj h6 (Qj h11 (Qj h16 (Qj h21 (Qj h24 (Qj h26 (rfl)))))))))
def U9 (at_:H) (_:Y) (a0:Q2) (s0:H):Rd (H) (H) (H):=(bif (bif ((a0.1==(6:H))|| (a0.1==(7:H))) then (a0.2.1==at_) else ((a0.1==(5:H))&&(a0.2.1==at_))) then (bif (((a0.1==(6:H))|| (a0.1==(7:H)))&&(a0.2.2.1==at_)) then (.next (IntKind.i64.wrap (IntKind.i64.wrap (s0+1)+1))) else (.next (IntKind.i64.wrap (s0+1)))) else (bif (((a0.1==(6:H))|| (a0.1==(7:H)))&&(a0.2.2.1==at_)) then (.next (IntKind.i64.wrap (s0+1))) else (.next s0)))
def A5 (_:Y) (s0:H):H:=s0
def We (q:W Q2) (at_:H):H:=(Out.on (X4 (U9 at_) A5 q 0 0) (λy0=>y0))
theorem Pg (q:W Q2) (at_:H):ACalls Tryz.prog 179 [.h q,.i at_] (.i (We q at_)):=by
 refine en Qa Tryz.func179 λw0 F0 hG=> ?_
 refine sn Qa [0,1,4] [] p0 <| tn Qa [0,1,4,5] [] p0 <| Qb <| tu Qa [(4,.i 0),(5,.i 0),(6,.i 0)] [] [] [] p0 <| wT 0 0 .sh q (λhw1 hl2=> ?_)
 refine R2 (U9 at_) A5 q 0 (λk0 s0=> [(5,.i s0),(6,.i (k0:H))]) [5,6] (λy0=> [(5,.i y0)]) [0,1,5,6] wf0 (λk0 s0 O U=> ?_) (λk0 s0 O U=> ?_) (λy0 hD0=> ?_)
 ·obtain ⟨a0,V⟩:=Xh (l:=q) (i:=k0) O;refine Qb <| sn Qa [0,1,4,5,6,11] [] (pl 2 q (pe 3 (zB ((k0:H)<(q.length:H))) p0)) <| ckT <| Qf <| Qb <| Qo <| Qb <| mz [(11,.b E)] [] [] [] <| jn [(7,.b ((a0.1==(6:H))|| (a0.1==(7:H))))] [11] [] [] (a0.1==(6:H)) (λh3=> ?_) (λh3=> ?_) ?_
  ·refine rn Qa [0,1,4,5,6,7] [] (pn 2 V (pt 5 h3 p0)) ?_;exact zA (by rw[h3]<;>kernel_rfl)
  ·refine rn Qa [0,1,4,5,6,7] [] (pn 2 V (pf 5 h3 (pn 9 V p0))) ?_;exact zA (by rw[h3]<;>kernel_rfl)
  refine Qb <| Qb <| jn [(45,.b (bif ((a0.1==(6:H))|| (a0.1==(7:H))) then (a0.2.1==at_) else ((a0.1==(5:H))&&(a0.2.1==at_))))] [] [] [] ((a0.1==(6:H))|| (a0.1==(7:H))) (λh4=> ?_) (λh4=> ?_) ?_
  ·refine rn Qa [0,1,4,5,6,7,45] [] (pt 0 h4 (pn 12 V p0)) ?_;exact zA (by rw[h4]<;>kernel_rfl)
  ·refine Xx (a0.1==(5:H)) (λh5=> ?_) (λh5=> ?_)
   ·refine rn Qa [0,1,4,5,6,7,45] [] (pf 0 h4 (pn 4 V (pt 7 h5 (pn 12 V p0)))) ?_;exact zA (by rw[h4,h5]<;>kernel_rfl)
   refine ru Qa [(45,.b uA)] [] [] [] (pf 0 h4 (pn 4 V (pf 7 h5 p0))) ?_;exact zA (by rw[h4,h5]<;>kernel_rfl)
  refine ck (bif ((a0.1==(6:H))|| (a0.1==(7:H))) then (a0.2.1==at_) else ((a0.1==(5:H))&&(a0.2.1==at_))) (λh6=> ?_) (λh6=> ?_)
  ·refine rn Qa [0,1,4,5,6,7] [] p0 ?_;refine Qb <| mz [(5,.i (IntKind.i64.wrap (s0+1)))] [5,45] [] [] <| jn [(57,.b (((a0.1==(6:H))|| (a0.1==(7:H)))&&(a0.2.2.1==at_)))] [7] [] [] ((a0.1==(6:H))|| (a0.1==(7:H))) (λh7=> ?_) (λh7=> ?_) ?_
   ·refine rn Qa [0,1,4,5,6,57] [] (pt 0 h7 (pn 4 V p0)) ?_;exact zA (by rw[h7]<;>kernel_rfl)
   ·refine rn Qa [0,1,4,5,6,57] [] (pf 0 h7 p0) ?_;exact zA (by rw[h7]<;>kernel_rfl)
   refine ck (((a0.1==(6:H))|| (a0.1==(7:H)))&&(a0.2.2.1==at_)) (λh8=> ?_) (λh8=> ?_)
   ·have h8r:((a0.2.2.1==at_))=E:=JK h8;have h8rd:=eq_of_beq h8r;refine rn Qa [0,1,4,5,6] [] p0 ?_;refine qn Qa [0,1,4,5,6] [] (pe 1 (Jl (Qn k0 (by omega))) p0) ?_;exact xw _ (Qs V (Q9 h6 (Q9 h8 (rfl))) U)
   refine Qf <| rn Qa [0,1,4,5,6] [] (pe 1 (Jl (Qn k0 (by omega))) p0) ?_
   exact xw _ (Qs V (Q9 h6 (Qj h8 (rfl))) U)
  refine Qf <| Qb <| jn [(57,.b (((a0.1==(6:H))|| (a0.1==(7:H)))&&(a0.2.2.1==at_)))] [7,45] [] [] ((a0.1==(6:H))|| (a0.1==(7:H))) (λh9=> ?_) (λh9=> ?_) ?_
  ·refine rn Qa [0,1,4,5,6,57] [] (pt 0 h9 (pn 4 V p0)) ?_;exact zA (by rw[h9]<;>kernel_rfl)
  ·refine rn Qa [0,1,4,5,6,57] [] (pf 0 h9 p0) ?_;exact zA (by rw[h9]<;>kernel_rfl)
  refine ck (((a0.1==(6:H))|| (a0.1==(7:H)))&&(a0.2.2.1==at_)) (λh10=> ?_) (λh10=> ?_)
  ·have h10r:((a0.2.2.1==at_))=E:=JK h10;have h10rd:=eq_of_beq h10r;refine rn Qa [0,1,4,5,6] [] p0 ?_;refine qn Qa [0,1,4,5,6] [] (pe 1 (Jl (Qn k0 (by omega))) p0) ?_;exact xw _ (Qs V (Qj h6 (Q9 h10 (rfl))) U)
  refine Qf <| rn Qa [0,1,4,5,6] [] (pe 1 (Jl (Qn k0 (by omega))) p0) ?_
  exact xw _ (Qs V (Qj h6 (Qj h10 (rfl))) U)
 ·exact Qb <| sn Qa [0,1,4,5,6,11] [] (pl 2 q (pe 3 (zC ((k0:H)<(q.length:H))) p0)) <| ckF <| Q4 <| xw _ (Xj O (rfl) U)
 exact sn Qa [4] [] p0 <| Qd <| pi [] (Vp hD0 (rfl))
def Ux (q:W Q2) (k0:Y) (a0:Q2) (_:uL):Rd (uD) (uL) (uL):=(bif ((!(Vw a0 (k0:H)))|| (decide ((k0:H)<((q.length:H)-1))&&((We q (k0:H)) !=(1:H)))) then (.ret uA) else (.next ()))
def Aj (_:Y) (_:uL):uL:=()
def Yt (q:W Q2):uD:=(Out.on (X4 (Ux q) Aj q 0 ()) (λ_=>(Q0 (q.length:H) 1 9)))
theorem Vx (q:W Q2):ACalls Tryz.prog 132 [.h q] (.b (Yt q)):=by
 refine en Qa Tryz.func132 λw0 F0 hG=> ?_
 refine sn Qa [0,2] [] p0 <| Qb <| tn Qa [0,2,3] [] p0 <| mz [(2,.b uA),(3,.i 0)] [] [] [] <| wT 0 0 .sh q (λhw1 hl2=> ?_)
 refine R2 (Ux q) Aj q () (λk0 _=> [(3,.i (k0:H))]) [3] (λ_=> []) [3] wf0 (λk0 s0 O U=> ?_) (λk0 s0 O U=> ?_) (λy0 hD0=> ?_)
 ·obtain ⟨a0,V⟩:=Xh (l:=q) (i:=k0) O;refine Qb <| sn Qa [0,2,3,7] [] (pl 2 q (pe 3 (zB ((k0:H)<(q.length:H))) p0)) <| ckT <| Qf <| Qb <| Qo <| Qb <| mz [(7,.b E)] [] [] [] <| jn [(29,.b ((!(Vw a0 (k0:H)))|| (decide ((k0:H)<((q.length:H)-1))&&((We q (k0:H)) !=(1:H)))))] [7] [] [] (!(Vw a0 (k0:H))) (λh3=> ?_) (λh3=> ?_) ?_
  ·have h3n:(Vw a0 (k0:H))=uA:=Vt h3;refine rn Qa [0,2,3,29] [] (pn 2 V (pc 5 (cb h3n (Fi a0 (k0:H))) (pe 6 (show .b (!uA)= .b E from rfl) p0))) ?_;exact zA (by rw[h3]<;>kernel_rfl)
  ·have h3n:(Vw a0 (k0:H))=E:=Zz h3;refine Xx (decide ((k0:H)<((q.length:H)-1))) (λh4=> ?_) (λh4=> ?_)
   ·have h4d:=uV h4;refine rn Qa [0,2,3,29] [] (pn 2 V (pc 5 (cb h3n (Fi a0 (k0:H))) (pe 6 (show .b (!E)= .b uA from rfl) (pl 10 q (pe 11 (Jl (IntWalk.i64_in ((q.length:H)-1) (by omega))) (pt 12 h4 (pc 16 (Pg q (k0:H)) p0))))))) ?_;exact zA (by rw[h3,h4]<;>kernel_rfl)
   have h4d:=uP h4;refine rn Qa [0,2,3,29] [] (pn 2 V (pc 5 (cb h3n (Fi a0 (k0:H))) (pe 6 (show .b (!E)= .b uA from rfl) (pl 10 q (pe 11 (Jl (IntWalk.i64_in ((q.length:H)-1) (by omega))) (pf 12 h4 p0)))))) ?_;exact zA (by rw[h3,h4]<;>kernel_rfl)
  refine ck ((!(Vw a0 (k0:H)))|| (decide ((k0:H)<((q.length:H)-1))&&((We q (k0:H)) !=(1:H)))) (λh5=> ?_) (λh5=> ?_)
  ·refine sn Qa [0,2,3] [] p0 <| Qd ?_
   have hr6:(X4 (Ux q) Aj q 0 ())= .ret uA:=Ka V (Q9 h5 (rfl)) U;exact pb [] (On hr6)
  refine Qf <| rn Qa [0,2,3] [] (pe 1 (Jl (Qn k0 (by omega))) p0) ?_
  exact xw _ (Qs V (Qj h5 (rfl)) U)
 ·exact Qb <| sn Qa [0,2,3,7] [] (pl 2 q (pe 3 (zC ((k0:H)<(q.length:H))) p0)) <| ckF <| Q4 <| xw _ (Xj O (rfl) U)
 exact sn Qa [2] [] (pl 1 q (pc 2 (Ys (q.length:H) 1 9) p0)) <| Qd <| pb [] (Vp hD0 (rfl))
theorem WM (a b c:H):Xo a b c=Q0 a b c:=rfl
theorem Ki {a b c:H}:Xo a b c=E↔b<=a/\a<=c:=by simp[Xo]
theorem K1 {a b c:H}:Q0 a b c=E↔b<=a/\a<=c:=by simp[Q0]
theorem Qej (s:uE):Xc s=Yv s:=rfl
theorem KF (s:uE):Q1 s=Xs s:=by
 unfold Q1 Xs Fg;by_cases h:s.size=1
 . simp only[h,Int.toNat_natCast,Ks,Hy];by_cases h1:Z9 s 0<97<;>by_cases h2:Z9 s 0>122<;>simp[h1,h2,Out.on,Q0,A0]<;>omega
 have h1:((s.size:H)==1)=uA:=by simpa using λe:(s.size:H)=1=>h (by omega)
 have h2:Q0 (s.size:H) 1 1=uA:=by simp[Q0];omega
 rw[h1,h2,Bool.false_and];cases hf:Ks (Hy s) A0 (zG (s.size:H)) 0 () with
 | brk t=>rfl
 | ret r=>
   have key:∀n k,∀r,Ks (Hy s) A0 n k ()= .ret r->r=uA:=by
    intro n
    induction n with
    | zero=>intro k r h;simp[Ks] at h
    | succ n ih=>
      intro k r h;simp only[Ks,Hy] at h;cases hc:(decide (Z9 s ((k:Y):H)<(97:H))|| decide (Z9 s ((k:Y):H)>(122:H))) with
      | true=>rw[hc] at h;simp only[uR] at h;cases h;rfl
      | false=>rw[hc] at h;exact ih _ _ h
   exact (key _ _ _ hf).symm
theorem Qek (v:K4):Q6 v=Xw v:=rfl
theorem Qik (n:Q2) (k:H):Zd n k=Vw n k:=by
 unfold Zd Vw;rw[KF,Qek,Qej];simp only[WM];by_cases h1:n.1=1
 . simp[h1]
 by_cases h2:n.1=2
 . simp[h1,h2,xS]
 by_cases h3:n.1=3
 . simp[h1,h2,h3];ac_rfl
 by_cases h4:n.1=4
 . simp[h1,h2,h3,h4];cases h:(n.2.2.2.2.1==1)<;>simp_all<;>ac_rfl
 by_cases h5:n.1=5
 . simp[h1,h2,h3,h4,h5];ac_rfl
 by_cases h6:n.1=6
 . simp[h1,h2,h3,h4,h5,h6];ac_rfl
 by_cases h7:n.1=7
 . simp[h1,h2,h3,h4,h5,h6,h7];ac_rfl
 by_cases h8:n.1=8
 . simp[h1,h2,h3,h4,h5,h6,h7,h8,xS]
 by_cases h9:n.1=9
 . simp[h1,h2,h3,h4,h5,h6,h7,h8,h9,xS]
 simp only[uO.2 h1,uO.2 h2,uO.2 h3,uO.2 h4,uO.2 h5,uO.2 h6,uO.2 h7,uO.2 h8,uO.2 h9,uT]
theorem Qme (q:W Q2) (k:H):Kb q k=We q k:=by
 unfold Kb We
 rw[Nf (f:=Ko k) (g:=U9 k) (e:=U8) (e':=A5) (λi a s=>by
  unfold Ko U9;cases (a.2.1==k)<;>cases (a.2.2.1==k)<;>cases (a.1==6)<;>cases (a.1==7)<;>cases (a.1==5)<;>rfl) (λ_ _=>rfl)]
theorem Qel (q:W Q2):Qk q=Yt q:=by
 unfold Qk Yt
 rw[Nf (f:=Zv q) (g:=Ux q) (e:=Vq) (e':=Aj) (λi a s=>by
  unfold Zv Ux;rw[Qik,Qme]) (λ_ _=>rfl)]
 rfl
theorem Ni {q:W Q2} (h:Yt q=E):Qk q=E:=(Qel q).trans h
theorem Qem {q:W Q2} (h:Qk q=E):(∃t,X4 (Zv q) Vq q 0 ()= .brk t)/\Xo (q.length:H) 1 9=E:=by
 unfold Qk at h;cases hf:X4 (Zv q) Vq q 0 () with
 | brk t=>rw[hf] at h;exact ⟨⟨t,rfl⟩,h⟩
 | ret r=>
   rw[hf] at h;obtain rfl:r=E:=h;exfalso
   have key:∀(l:W Q2) k,X4 (Zv q) Vq l k ()≠ .ret E:=by
    intro l
    induction l with
    | nil=>intro k h;simp[X4] at h
    | cons a l ih=>
      intro k h;simp only[X4] at h;unfold Zv at h;split at h
      . rename_i hf;exact ih _ h
      . cases h
      rename_i r hf;cases h;revert hf;generalize (_|| _:uD)=c;cases c<;>simp
   exact key _ _ hf
theorem Gf {q:W Q2} (h:Qk q=E):1<=q.length/\q.length<=9:=by
 have:=Ki.1 (Qem h).2;omega
theorem YH {q:W Q2} (h:Qk q=E) {i:Y} {n:Q2} (hi:q[i]? =G n):Zd n (i:H)=E:=by
 obtain ⟨⟨t,ht⟩,_⟩:=Qem h;have:=T0 (λk a t=>by unfold Zv;generalize (_|| _:uD)=c;cases c<;>simp) ht i n hi;unfold Zv at this;rw[xV] at this;cases hn:Zd n (i:H) with
 | true=>rfl
 | false=>rw[hn] at this;simp at this
theorem Qmf {n:Q2} {k:H} (h:Zd n k=E) (hk:0<=k/\k<4611686018427387904):(n.1=5\/n.1=6\/n.1=7->0<=n.2.1/\n.2.1<k)/\(n.1=6\/n.1=7->0<=n.2.2.1/\n.2.2.1<k):=by
 have hw:IntKind.i64.wrap (k-1)=k-1:=IntWalk.i64_in _ (by omega);unfold Zd at h;rw[hw] at h;refine ⟨λh5=> ?_,λh5=> ?_⟩
 . rcases h5 with h5 | h5 | h5<;>(simp[h5,Xo] at h;omega)
 rcases h5 with h5 | h5<;>(simp[h5,Xo] at h;omega)
theorem Gr {q:W Q2} (h:Qk q=E) {k:H} (ha:0<=k) (hb:k<(q.length:H)):
 ((nth q (zG k)).1=5\/(nth q (zG k)).1=6\/(nth q (zG k)).1=7->0<=(nth q (zG k)).2.1/\(nth q (zG k)).2.1<k)/\((nth q (zG k)).1=6\/(nth q (zG k)).1=7->0<=(nth q (zG k)).2.2.1/\(nth q (zG k)).2.2.1<k):=by
 have hi:q[zG k]? =G (nth q (zG k)):=Cu (by omega);have:=YH h hi;rw[Int.toNat_of_nonneg ha] at this;exact Qmf this ⟨ha,by have:=(Gf h).2;omega⟩
section
variable {q:W Q2} {k:H} (h:Qk q=E) (ha:0<=k) (hb:k<(q.length:H))
include h ha hb
theorem GG (h5:((nth q (zG k)).1==(5:H))=E):0<=(nth q (zG k)).2.1/\(nth q (zG k)).2.1<k:=(Gr h ha hb).1 (.inl (eq_of_beq h5))
theorem KG (h5:((nth q (zG k)).1==(6:H))=E):0<=(nth q (zG k)).2.1/\(nth q (zG k)).2.1<k:=(Gr h ha hb).1 (.inr (.inl (eq_of_beq h5)))
theorem WN (h5:((nth q (zG k)).1==(7:H))=E):0<=(nth q (zG k)).2.1/\(nth q (zG k)).2.1<k:=(Gr h ha hb).1 (.inr (.inr (eq_of_beq h5)))
theorem GH (h5:((nth q (zG k)).1==(6:H))=E):0<=(nth q (zG k)).2.2.1/\(nth q (zG k)).2.2.1<k:=(Gr h ha hb).2 (.inl (eq_of_beq h5))
theorem IS (h5:((nth q (zG k)).1==(7:H))=E):0<=(nth q (zG k)).2.2.1/\(nth q (zG k)).2.2.1<k:=(Gr h ha hb).2 (.inr (eq_of_beq h5))
theorem Qkl (h5:(((nth q (zG k)).1==(6:H))|| ((nth q (zG k)).1==(7:H)))=E):(0<=(nth q (zG k)).2.1/\(nth q (zG k)).2.1<k)/\(0<=(nth q (zG k)).2.2.1/\(nth q (zG k)).2.2.1<k):=by
 have h6:(nth q (zG k)).1=6\/(nth q (zG k)).1=7:=by simpa using h5
 exact ⟨(Gr h ha hb).1 (.inr h6),(Gr h ha hb).2 h6⟩
end
end
end Go.Proofs.YteleondjndkpbaaGreatDoor
