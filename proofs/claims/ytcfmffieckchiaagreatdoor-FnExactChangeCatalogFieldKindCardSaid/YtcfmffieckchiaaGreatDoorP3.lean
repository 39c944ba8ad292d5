/- Texts of this proof, put together by a program: Zc, Mk, Ty, App, Fk, Kn, Cka, Ckb. -/
import Derived.Test.YtcfmffieckchiaaGreatDoorP2
import Derived.Orders
import Derived.LoopN
import Derived.KernelRfl
import Derived.Deep.DeepAppendWide
import Derived.Deep.DeepAppendRoom
import Derived.Maps.AppendAt
import Derived.Test.YtcfmffieckchiaaGreatDoorProg
import Derived.Outline
import Derived.Lib.SliceRun
set_option linter.unusedVariables false
set_option linter.unusedSimpArgs false
namespace Go.Proofs.YtcfmffieckchiaaGreatDoor
section
open Go.RowKit
structure Rec where
 avs:List AV
 bn:List (Nat×List C)
 res:Res
 obs:List Ob
def Df (s:St):List Operand->Option (List AV)
 | []=>some []
 | x::r=>match YT s x,Df s r with
   | some v,some vs=>some (v::vs)
   | _,_=>none
def Lq:List C->List Nat
 | []=> []
 | c::r=>c.bkeys++Lq r
def Uo (s:St):List Nat->List (Nat×List C)
 | []=> []
 | k::r=>match get s.bx k with
   | some cs=>(k,cs)::Uo s r
   | none=>Uo s r
def QP (tt : List (Nat×TI)) (orc:Orc) (bn:List (Nat×List C)) (dst:Option Nat) (op:Op) (avs:List AV):Option (Res×List Ob):=
 match NZ tt orc bn op avs with
 | some (v,obs)=>(match orc with
   | .val v'=>some (⟨v', [],none,none⟩,.eq v v'::obs)
   | _=>some (⟨v, [],none,none⟩,obs))
 | none => match Qeg tt bn dst op avs with
   | some x=>some x
   | none => match Qej tt orc dst op avs with
     | some x=>some x
     | none => match Qep orc bn dst op avs with
       | some x=>some x
       | none =>match OH tt orc op avs with
         | some (v,obs)=>(match orc with
           | .val v'=>some (⟨v', [],none,none⟩,.eq v v'::obs)
           | _=>some (⟨v, [],none,none⟩,obs))
         | none =>match OI tt op avs with
           | some x=>some x
           | none=>match Qeq tt dst op avs with
             | some x=>some x
             | none=>match Qeu orc bn dst op avs with
               | some x=>some x
               | none=>Qev orc bn dst op avs
def HJ (tt:List (Nat×TI)) (orc:Orc) (bn:List (Nat×List C)) (dst:Option Nat) (op:Op) (avs:List AV):Option (Res×List Ob):=
 match QM tt orc op avs with
 | some (v,obs)=>some (⟨v, [],none,none⟩,obs)
 | none=>QP tt orc bn dst op avs
def A3 (ops:List Oper) (s:St) (o:Oper):Option Bool:=
 match o.guard with
 | none=>some true
 | some (j,want)=>match ops[j]? with
   | some oj=>(match oj.dst with
     | some t=>(match get s.tm t with
       | some (.one (.bool b))=>some (match b,want with
         | true,true=>true
         | false,false=>true
         | _,_=>false)
       | some (.tup [])=>some false
       | _=>none)
     | none=>none)
   | none=>none
def YX (N:Nat):Option Nat->Bool
 | none=>true
 | some d=>Nat.blt d N
def Co (tt:List (Nat×TI)) (N:Nat) (orc:Orc) (ops:List Oper) (s:St) (o:Oper):Option Rec:=
 bif YX N o.dst then
  match A3 ops s o with
  | some true=>(match Df s o.op.operands.toList with
    | some avs=>(match HJ tt orc (Uo s (Lq (X4 avs))) o.dst o.op avs with
      | some (r,obs)=>some ⟨avs,Uo s (Lq (X4 avs)),r,obs⟩
      | none=>none)
    | none=>none)
  | some false=>some ⟨[], [],⟨.tup [], [],none,none⟩, []⟩
  | none=>none
 else none
section
variable {P:Program} {N:Nat} {w0:Base} {F0:Nat->Prop} {J:Inj} {a:Act} {w:World} {s:St}
theorem R6 : ∀ {xs :List Operand} {vs:List AV},Df s xs=some vs->All2 (λx v=>YT s x=some v) xs vs
 | [], vs, h => by obtain rfl: []=vs:=by simpa [Df] using h
                   exact .nil
 | x::r,vs,h=>by
   simp only[Df] at h;split at h
   . rename_i v vs' e1 e2;obtain rfl:=Option.some.inj h;exact .cons e1 (R6 e2)
   cases h
theorem N8:∀{ks:List Nat} {k:Nat} {c:List C},get (Uo s ks) k=some c->get s.bx k=some c
 | [],k,c,h=>by simp[Uo,get] at h
 | x ::r,k,c,h=>by
   simp only[Uo] at h;split at h
   . rename_i cs hx;simp only[get] at h;split at h
     . rename_i e;subst e;rw[hx];exact h
     exact N8 h
   exact N8 h
theorem LX {tt:List (Nat×TI)} (htt:De P tt=true) {orc:Orc} {bn:List (Nat×List C)} {o:Oper} {avs:List AV} {r:Res} {obs:List Ob} (h:QP tt orc bn o.dst o.op avs=some (r,obs)) (hob:AllOb (Yu P w0) (K4 P w0) obs)
 (hdst:∀d,o.dst=some d->d<N) (hrel:Rel N w0 F0 J a w s) (hops:All2 (λx v=>YT s x=some v) o.op.operands.toList avs) (hbn:∀k c,get bn k=some c->get s.bx k=some c) {K:Act->World->Prop} {Q:Exit->Act->World->Prop}
 (hK:∀J' a' w',Rel N w0 F0 J' a' w' (s.step o.dst r)->K a' w'):o.wp P a w K Q:=by
 unfold QP at h
 have hbx:∀k c,get bn k=some c->∃arr e,w.heap[J.B k]? =some (.cells arr e (0,0))/\All2 (CR J w) arr.toList c:=λk c hk=>by
  obtain ⟨_,_,_,h⟩:=hrel.bo k c (hbn k c hk);exact h
 split at h
 . rename_i v obs' hp
   have key:∀v',AllOb (Yu P w0) (K4 P w0) obs'->v=v'->(∀J' a' w',Rel N w0 F0 J' a' w' (s.step o.dst ⟨v', [],none,none⟩)->K a' w')->o.wp P a w K Q:=by
    intro v' hob' e hK';obtain ⟨u,hu,hr⟩:=Qap (P:=P) (A:=Yu P w0) (J:=J) (w:=w) htt hp hob' rfl (ρ:=a.eval) (λ_=>rfl) (Bl hrel hops) hbx;exact J9 hu (hK' J _ _ (hrel.pure o.dst hdst v' u λ_=>e▸hr))
   split at h
   . rename_i v';obtain ⟨rfl,rfl⟩:(⟨v', [],none,none⟩:Res)=r/\ .eq v v'::obs'=obs:=by simpa using h
     obtain ⟨e,hob'⟩:=AllOb.cons hob;exact key v' hob' e hK
   obtain ⟨rfl,rfl⟩:(⟨v, [],none,none⟩:Res)=r/\obs'=obs:=by simpa using h
   exact key v hob rfl hK
 split at h
 . rename_i x hx;obtain rfl:=Option.some.inj h;exact Qaq (P:=P) htt hx hdst hrel hops hbn hK
 split at h
 . rename_i x hx;obtain rfl:=Option.some.inj h;exact Qar (P:=P) htt hx hob hdst hrel hops hK
 split at h
 . rename_i x hx;obtain rfl:=Option.some.inj h;exact Qas (P:=P) hx hob hdst hrel hops hbn hK
 split at h
 . rename_i v obs' hp;have hval:(∃v',orc= .val v')\/∀v',orc≠ .val v':=by cases orc<;>simp
   rcases hval with ⟨v',rfl⟩ | hne
   . obtain ⟨rfl,rfl⟩:(⟨v', [],none,none⟩:Res)=r/\ .eq v v'::obs'=obs:=by simpa using h
     obtain ⟨e,hob'⟩:=AllOb.cons hob;obtain ⟨u,hu,hr⟩:=UY (P:=P) (A:=Yu P w0) (J:=J) (w:=w) htt hp hob' rfl (ρ:=a.eval) (Bl hrel hops);have e:v=v':=e;exact J9 hu (hK _ _ _ (hrel.pure o.dst hdst _ _ λ_=>e▸hr))
   have h2:some ((⟨v, [],none,none⟩:Res),obs')=some (r,obs):=by
    split at h
    . exact absurd rfl (hne _)
    exact h
   obtain ⟨rfl,rfl⟩:(⟨v, [],none,none⟩:Res)=r/\obs'=obs:=by simpa using h2
   obtain ⟨u,hu,hr⟩:=UY (P:=P) (A:=Yu P w0) (J:=J) (w:=w) htt hp hob rfl (ρ:=a.eval) (Bl hrel hops);exact J9 hu (hK _ _ _ (hrel.pure o.dst hdst _ _ λ_=>hr))
 split at h
 . rename_i x hx;obtain rfl:=Option.some.inj h;exact OK (P:=P) htt hx hdst hrel hops hK
 split at h
 . rename_i x hx;obtain rfl:=Option.some.inj h;exact Qau (P:=P) htt hx hob hdst hrel hops hK
 split at h
 . rename_i x hx;obtain rfl:=Option.some.inj h;exact Qaw (P:=P) hx hob hdst hrel hops hbn hK
 exact Qa0 (P:=P) h hob hdst hrel hops hbn hK
theorem OQ {tt:List (Nat×TI)} (htt:De P tt=true) {orc:Orc} {bn:List (Nat×List C)} {o:Oper} {avs:List AV} {r:Res} {obs:List Ob} (h:HJ tt orc bn o.dst o.op avs=some (r,obs)) (hob:AllOb (Yu P w0) (K4 P w0) obs)
 (hdst:∀d,o.dst=some d->d<N) (hrel:Rel N w0 F0 J a w s) (hops:All2 (λx v=>YT s x=some v) o.op.operands.toList avs) (hbn:∀k c,get bn k=some c->get s.bx k=some c) {K:Act->World->Prop} {Q:Exit->Act->World->Prop}
 (hK:∀J' a' w',Rel N w0 F0 J' a' w' (s.step o.dst r)->K a' w'):o.wp P a w K Q:=by
 unfold HJ at h;split at h
 . rename_i v obs' hp;obtain ⟨rfl,rfl⟩:(⟨v, [],none,none⟩:Res)=r/\obs'=obs:=by simpa using h
   obtain ⟨u,hu,hr⟩:=LW (P:=P) (A:=Yu P w0) (J:=J) (w:=w) htt hp hob rfl (ρ:=a.eval) (Bl hrel hops);exact J9 hu (hK _ _ _ (hrel.pure o.dst hdst _ _ λ_=>hr))
 exact LX htt h hob hdst hrel hops hbn hK
theorem Tl {ops:Array Oper} {o:Oper} {b:Bool} (hrel:Rel N w0 F0 J a w s) (h:A3 ops.toList s o=some b):Region.wanted o (yielded ops a.tmps)=b:=by
 unfold A3 at h;unfold Region.wanted;split at h
 . rename_i hg;rw[hg];exact Option.some.inj h
 rename_i j want hg;rw[hg];split at h
 . rename_i oj hj;split at h
   . rename_i t ht;split at h
     . rename_i c hc;have h1:a.tmps.getD t undef= .bool c:=hrel.tm t _ hc
       have h2:a.tmps[t]? =some (.bool c):=by
        rw[Array.getD_eq_getD_getElem?] at h1;cases hq:a.tmps[t]? with
        | none=>rw[hq] at h1;simp[undef] at h1
        | some u=>rw[hq] at h1;simp at h1;rw[h1]
       have hj':ops[j]? =some oj:=by simpa using hj
       simp only[yielded,hj',Option.bind_some,ht,h2];obtain rfl:=Option.some.inj h;cases c<;>cases want<;>rfl
     . rename_i hc;obtain ⟨vs,h1,hv⟩:=hrel.tm t _ hc;cases hv
       have hj':ops[j]? =some oj:=by simpa using hj
       obtain rfl:=Option.some.inj h;rw[Array.getD_eq_getD_getElem?] at h1;cases hq:a.tmps[t]? with
       | none=>simp[yielded,hj',ht,hq]
       | some u=>
         rw[hq] at h1;obtain rfl:u=_:=h1;simp[yielded,hj',ht,hq]
     cases h
   cases h
 cases h
theorem DI {tt:List (Nat×TI)} (htt:De P tt=true) {orc:Orc} {ops:Array Oper} {i:Nat} {o:Oper} (hi:ops[i]? =some o) {ρ:Rec} (h:Co tt N orc ops.toList s o=some ρ) (hob:AllOb (Yu P w0) (K4 P w0) ρ.obs) (hrel:Rel N w0 F0 J a w s)
 {K:Act->World->Prop} {Q:Exit->Act->World->Prop} (hK:∀J' a' w',Rel N w0 F0 J' a' w' (s.step o.dst ρ.res)->K a' w'):wpOp P ops Q i K a w:=by
 unfold Co at h;cases hd:YX N o.dst with
 | false=>rw[hd] at h;cases h
 | true =>
   rw[hd] at h;simp only[cond_true] at h;have hdst:∀d,o.dst=some d->d<N:=λd e=>by rw[e] at hd;simpa [YX] using hd
   unfold wpOp;simp only[hi];split at h
   . rename_i hg;have hw:=Tl hrel hg;split at h
     . rename_i avs havs;split at h
       . rename_i r obs he;obtain rfl:=Option.some.inj h;rw[if_pos hw];exact .inl (OQ (P:=P) htt he hob hdst hrel (R6 havs) (λk c hk=>N8 hk) hK)
       cases h
     cases h
   . rename_i hg;obtain rfl:=Option.some.inj h;have hw:=Tl hrel hg;rw[if_neg (by rw[hw];simp)];exact hK J _ _ (hrel.pure o.dst hdst _ _ λ_=>⟨[],rfl,.nil⟩)
   cases h
def KW (orcs:List (Nat×Orc)) (i:Nat):Orc:=match get orcs i with
 | some x=>x
 | none=> .no
def OS (N:Nat) (orc:Orc) (ops:List Oper) (s:St) (o:Oper):Option Rec:=
 bif YX N o.dst then
  match A3 ops s o with
  | some true=>(match Df s o.op.operands.toList with
    | some avs=>(match Qex orc o.dst o.op avs with
      | some (r,obs)=>some ⟨avs, [],r,obs⟩
      | none=>none)
    | none=>none)
  | some false=>some ⟨[], [],⟨.tup [], [],none,none⟩, []⟩
  | none=>none
 else none
def Qey (tt:List (Nat×TI)) (N:Nat) (orc:Orc) (ops:List Oper) (s:St) (o:Oper):Option Rec:=
 match orc with
 | .ins l=>OS N (.ins l) ops s o
 | orc=>Co tt N orc ops s o
theorem Qa4 {orc:Orc} {ops:Array Oper} {i:Nat} {o:Oper} (hi:ops[i]? =some o) {ρ:Rec} (h:OS N orc ops.toList s o=some ρ) (hob:AllOb (Yu P w0) (K4 P w0) ρ.obs) (hrel:Rel N w0 F0 J a w s)
 {K:Act->World->Prop} {Q:Exit->Act->World->Prop} (hK:∀J' a' w',Rel N w0 F0 J' a' w' (s.step o.dst ρ.res)->K a' w'):wpOp P ops Q i K a w:=by
 unfold OS at h;cases hd:YX N o.dst with
 | false=>rw[hd] at h;cases h
 | true =>
   rw[hd] at h;simp only[cond_true] at h;have hdst:∀d,o.dst=some d->d<N:=λd e=>by rw[e] at hd;simpa [YX] using hd
   unfold wpOp;simp only[hi];split at h
   . rename_i hg;have hw:=Tl hrel hg;split at h
     . rename_i avs havs;rw[if_pos hw];split at h
       . rename_i r obs he;obtain rfl:=Option.some.inj h;refine .inl ?_;exact Qa3 (P:=P) he hob hdst hrel (R6 havs) hK
       cases h
     cases h
   . rename_i hg;obtain rfl:=Option.some.inj h;have hw:=Tl hrel hg;rw[if_neg (by rw[hw];simp)];exact hK J _ _ (hrel.pure o.dst hdst _ _ λ_=>⟨[],rfl,.nil⟩)
   cases h
theorem Qa5 {tt:List (Nat×TI)} (htt:De P tt=true) {orc:Orc} {ops:Array Oper} {i:Nat} {o:Oper} (hi:ops[i]? =some o) {ρ:Rec} (h:Qey tt N orc ops.toList s o=some ρ) (hob:AllOb (Yu P w0) (K4 P w0) ρ.obs) (hrel:Rel N w0 F0 J a w s)
 {K:Act->World->Prop} {Q:Exit->Act->World->Prop} (hK:∀J' a' w',Rel N w0 F0 J' a' w' (s.step o.dst ρ.res)->K a' w'):wpOp P ops Q i K a w:=by
 unfold Qey at h;split at h
 . exact Qa4 hi h hob hrel hK
 exact DI htt hi h hob hrel hK
def La (tt:List (Nat×TI)) (N:Nat) (orcs:List (Nat×Orc)) (ops:List Oper):List Oper->Nat->St->Option (St×List Ob)
 | [],_,s=>some (s, [])
 | o ::r,i,s=>match Qey tt N (KW orcs i) ops s o with
   | some ρ=>(match La tt N orcs ops r (i+1) (s.step o.dst ρ.res) with
     | some (s',obs)=>some (s',ρ.obs++obs)
     | none=>none)
   | none=>none
theorem HM {tt:List (Nat×TI)} (htt:De P tt=true) {orcs:List (Nat×Orc)} {ops:Array Oper} {Q:Exit->Act->World->Prop}:∀(l:List Oper) (i:Nat) {s s':St} {obs:List Ob} {J:Inj} {a:Act} {w:World},ops.toList.drop i=l->
 La tt N orcs ops.toList l i s=some (s',obs)->AllOb (Yu P w0) (K4 P w0) obs->Rel N w0 F0 J a w s->(∀J' a' w',Rel N w0 F0 J' a' w' s'->Q .normal a' w')->wpOps P ops Q (List.range' i l.length) a w
 | [],i,s,s',obs,J,a,w,_,h,_,hrel,hQ=>by
   obtain ⟨rfl,rfl⟩:s=s'/\ []=obs:=by simpa [La] using h
   exact hQ J a w hrel
 | o :: r,i,s,s',obs,J,a,w,hl,h,hob,hrel,hQ=>by
   simp only[La] at h;split at h
   . rename_i ρ hρ;split at h
     . rename_i s'' obs' hr;obtain ⟨rfl,rfl⟩:s''=s'/\ρ.obs++obs'=obs:=by simpa using h
       obtain ⟨ho1,ho2⟩:=AllOb.append hob
       have hi:ops[i]? =some o:=by
        have:=congrArg (·[0]?) hl;simpa using this
       have hl':ops.toList.drop (i+1)=r:=by rw[←List.drop_drop,hl];rfl
       rw[List.length_cons,List.range'_succ,wpOps_cons];exact Qa5 (P:=P) htt hi hρ ho1 hrel λJ' a' w' hR=>HM htt r (i+1) hl' hr ho2 hR hQ
     cases h
   cases h
end
end
section
open Go.RowKit
section
variable (P:Program) (N:Nat) (w0:Base) (F0:Nat->Prop)
def QX (Q:Exit->St->Prop):Exit->Act->World->Prop:=λe a w=>∃J s,Rel N w0 F0 J a w s/\Q e s
def AWP (c:Code) (Q:Exit->St->Prop) (s:St):Prop:=∀J a w,Rel N w0 F0 J a w s->c.wp P (QX N w0 F0 Q) a w
end
def Weak (s s':St):Prop:=∀N w0 F0 J a w,Rel N w0 F0 J a w s->∃J',Rel N w0 F0 J' a w s'
def Exit.thenS (K:St->Prop) (Q:Exit->St->Prop):Exit->St->Prop
 | .normal,s=>K s
 | e,s=>Q e s
def Exit.inBlockS (id:Nat) (Q:Exit->St->Prop):Exit->St->Prop
 | .exit i,s=>bif Nat.beq i id then Q .normal s else Q (.exit i) s
 | e,s=>Q e s
section
variable {P:Program} {N:Nat} {w0:Base} {F0:Nat->Prop} {Q:Exit->St->Prop} {s s':St}
theorem Weak.refl (s:St):Weak s s:=λ_ _ _ J _ _ h=>⟨J,h⟩
theorem Weak.trans {s s' s'':St} (h:Weak s s') (h':Weak s' s''):Weak s s'':=λN w0 F0 J a w hr=>by
 obtain ⟨J',hr'⟩:=h N w0 F0 J a w hr;exact h' N w0 F0 J' a w hr'
theorem Ik {c:Code} (hw:Weak s s') (h:AWP P N w0 F0 c Q s'):AWP P N w0 F0 c Q s:=λJ a w hr=>by
 obtain ⟨J',hr'⟩:=hw N w0 F0 J a w hr;exact h J' a w hr'
theorem Qa6 {c:Code} {Q':Exit->St->Prop} (h:AWP P N w0 F0 c Q s) (hq:∀e s,Q e s->Q' e s):AWP P N w0 F0 c Q' s:=λJ a w hr=>
 wp_mono (h J a w hr) λe a w ⟨J,s,h1,h2⟩=>⟨J,s,h1,hq e s h2⟩
theorem Qc {x y:Code} (h:AWP P N w0 F0 x (Exit.thenS (AWP P N w0 F0 y Q) Q) s):AWP P N w0 F0 (.seq x y) Q s:=λJ a w hr=>by
 refine wp_seq (wp_mono (h J a w hr) ?_)
 rintro e a' w' ⟨J',s',hR,hq⟩
 cases e with
 | normal=>exact hq J' a' w' hR
 | _=>exact ⟨J',s',hR,hq⟩
theorem Qi (h:Q .normal s):AWP P N w0 F0 .skip Q s:=λJ a w hr=>wp_skip ⟨J,s,hr,h⟩
theorem Xe {id:Nat} (h:Q (.exit id) s):AWP P N w0 F0 (.exit id) Q s:=λJ a w hr=>wp_exit ⟨J,s,hr,h⟩
theorem Qk (h:Q .ret s):AWP P N w0 F0 .ret Q s:=λJ a w hr=>wp_ret ⟨J,s,hr,h⟩
theorem Pi {t:Nat} {x y:Code} {b:Bool} (hc:get s.tm t=some (.one (.bool b))) (h1:b=true->AWP P N w0 F0 x Q s) (h2:b=false->AWP P N w0 F0 y Q s):AWP P N w0 F0 (.cond (.tmp t) x y) Q s:=λJ a w hr=>
 wp_cond_split (t:=b) (hr.tm t _ hc) (λe=>h1 e J a w hr) (λe=>h2 e J a w hr)
theorem Qx {id:Nat} {c:Code} (h:AWP P N w0 F0 c (Exit.inBlockS id Q) s):AWP P N w0 F0 (.block id c) Q s:=λJ a w hr=>by
 refine wp_block (wp_mono (h J a w hr) ?_)
 rintro e a' w' ⟨J',s',hR,hq⟩
 cases e with
 | exit i=>
   simp only[Exit.inBlockS] at hq;simp only[Exit.inBlock];split<;>rename_i hi
   . subst hi;simp only[Nat.beq_refl,cond_true] at hq;exact ⟨J',s',hR,hq⟩
   rw[show Nat.beq i id=false by
    cases hb:Nat.beq i id with
    | false=>rfl
    | true=>exact absurd (Nat.eq_of_beq_eq_true hb) hi] at hq
   exact ⟨J',s',hR,hq⟩
 | _=>exact ⟨J',s',hR,hq⟩
theorem QQ {c:Code} {Q:Exit->Act->World->Prop}:∀(n m:Nat),n<=m->∀a w,Code.rounds P c Q n a w->Code.rounds P c Q m a w
 | 0,_,_,_,_,h=>h.elim
 | n+1,0,h,_,_,_=>absurd h (by omega)
 | n +1,m+1,hnm,a,w,h=>wp_mono (show c.wp P (Exit.then (Code.rounds P c Q n) Q) a w from h) λe a w hq=>by
     cases e with
     | normal=>exact QQ n m (by omega) a w hq
     | _=>exact hq
theorem Qa7 {c:Code} (I:Nat->St->Prop) {n:Nat} (h0:I n s) (hI:∀n s,I n s->AWP P N w0 F0 c (Exit.thenS (λs'=>∃m s'',m<n/\Weak s' s''/\I m s'') Q) s):AWP P N w0 F0 (.loop c) Q s:=λJ a w hr=>by
 have key:∀n s J a w,I n s->Rel N w0 F0 J a w s->Code.rounds P c (QX N w0 F0 Q) (n+1) a w:=by
  intro n
  induction n using Nat.strongRecOn with
  | _ n ih=>
    intro s J a w hi hr;refine wp_mono (hI n s hi J a w hr) ?_
    rintro e a' w' ⟨J',s',hR,hq⟩
    cases e with
    | normal=>
      obtain ⟨m,s'',hm,hw,hi'⟩:=hq;obtain ⟨J'',hR'⟩:=hw N w0 F0 J' a' w' hR;exact QQ (m+1) n hm a' w' (ih m hm s'' J'' a' w' hi' hR')
    | _=>exact ⟨J',s',hR,hq⟩
 exact wp_loop_rounds (n+1) (key n s J a w h0 hr)
def DJ {α:Type} (l:List (Nat×α)):List Nat->List (Nat×α)
 | []=> []
 | t::r=>match get l t with
   | some v=>(t,v)::DJ l r
   | none=>DJ l r
theorem Bm {α:Type} {l:List (Nat×α)} {t:Nat} {v:α}:∀{ts:List Nat},get (DJ l ts) t=some v->get l t=some v
 | [],h=>by simp[DJ,get] at h
 | x ::r,h=>by
   simp only[DJ] at h;split at h
   . rename_i u hu;simp only[get] at h;split at h
     . rename_i e;subst e;rw[hu];exact h
     exact Bm h
   exact Bm h
def St.keep (s:St) (ts bs:List Nat):St:=⟨DJ s.tm ts,DJ s.bx bs⟩
theorem QR (ts bs:List Nat) (h:s.keep ts bs=s'):Weak s s':=λN w0 F0 J a w hr=>⟨J,by
 subst h;exact hr.less (λt v hv=>Bm hv) λk c hc=>Bm hc⟩
def Vl (tt:List (Nat×TI)) (N:Nat) (orcs:List (Nat×Orc)) (ops:List Oper) (ts bs:List Nat) (s:St):Option (St×List Ob):=
 match La tt N orcs ops ops 0 s with
 | some (s',obs)=>some (s'.keep ts bs,obs)
 | none=>none
theorem Zk {tt:List (Nat×TI)} (htt:De P tt=true) (orcs:List (Nat×Orc)) (ts bs:List Nat) {id:Nat} {ops:Array Oper} {obs:List Ob} (h:Vl tt N orcs ops.toList ts bs s=some (s',obs)) (hob:AllOb (Yu P w0) (K4 P w0) obs) (hQ:Q .normal s'):
 AWP P N w0 F0 (.region id ops false) Q s:=λJ a w hr=>by
 unfold Vl at h;split at h
 . rename_i s1 obs1 h1;obtain ⟨rfl,rfl⟩:s1.keep ts bs=s'/\obs1=obs:=by simpa using h
   refine wp_region ?_;have:=HM (P:=P) (Q:=QX N w0 F0 Q) htt ops.toList 0 rfl h1 hob hr λJ' a' w' hR=>⟨J',_,hR.less (λt v hv=>Bm hv) (λk c hc=>Bm hc),hQ⟩
   rw[List.range_eq_range'];simpa using this
 cases h
def Il (k k' x:Nat):Nat:=bif Nat.beq x k then k' else bif Nat.beq x k' then k else x
def Qgu (k k':Nat):Tok->Tok
 | .own d x=> .own d (Il k k' x)
 | .vw x=> .vw (Il k k' x)
 | t=>t
def Qez (k k':Nat):C->C
 | .slc t n l=> .slc (Qgu k k' t) n l
 | .rptr t cs=> .rptr (Qgu k k' t) cs
 | .ept d x n i o cs=> .ept d (Il k k' x) n i o cs
 | c=>c
theorem ZS {a b:Nat} (h:a≠b):Nat.beq a b=false:=by
 cases hb:Nat.beq a b with
 | false=>rfl
 | true=>exact absurd (Nat.eq_of_beq_eq_true hb) h
theorem H8 (k k' x:Nat):Il k k' (Il k k' x)=x:=by
 simp only[Il];by_cases h1:x=k
 . subst h1;simp;by_cases h2:k'=x
   . simp[h2]
   have:Nat.beq k' x=false:=ZS h2;simp[this]
 have e1:Nat.beq x k=false:=ZS h1;simp only[e1,cond_false];by_cases h2:x=k'
 . subst h2;simp
 have e2:Nat.beq x k'=false:=ZS h2;simp[e1,e2]
def Inj.swap (J:Inj) (k k':Nat):Inj:=⟨J.F,λx=>J.L (Il k k' x),J.B⟩
theorem GH {J:Inj} {w:World} {k k':Nat} {v:Value} {c:C} (h:CR J w v c):CR (J.swap k k') w v (Qez k k' c):=by
 cases c with
 | slc t n l=>
   cases t with
   | sh | emp | put=>exact h
   | own d x=>
     cases d with
     | true=>show OwnDeep (J.L (Il k k' (Il k k' x))) w v n l;rw[H8];exact h
     | false=>show OwnTop J.F (J.L (Il k k' (Il k k' x))) w v n l;rw[H8];exact h
   | vw x=>
     refine VV.keep (X:=J.X (.vw x)) (λb hb=>⟨?_,rfl⟩) h;show b∈J.L (Il k k' (Il k k' x))\/J.F b;rw[H8];exact hb
 | ept d x n i o cs=>
   obtain ⟨g,r,vs,h1,h2,h3,h4⟩:=h;refine ⟨g,r,vs, ?_,h2,h3.keep λb hb=>⟨?_,rfl⟩,h4⟩
   . show J.L (Il k k' (Il k k' x))=_;rw[H8];exact h1
   cases d with
   | true=>
     show b∈J.L (Il k k' (Il k k' x))\/J.F b;rw[H8];exact hb
   | false=>exact hb
 | rptr t cs=>
   refine Reads.keep h λb hb=>⟨?_,rfl⟩
   cases t with
   | vw x=>
     show b∈J.L (Il k k' (Il k k' x))\/J.F b;rw[H8];exact hb
   | _=>exact hb
 | _=>exact h
theorem Rel.swap {J:Inj} {a:Act} {w:World} (h:Rel N w0 F0 J a w s) (k k':Nat):Rel N w0 F0 (J.swap k k') a w (s.map (Qez k k')) where
 below:=h.below
 nodef:=h.nodef
 size:=h.size
 fl:=h.fl
 f0:=h.f0
 nd x:=h.nd _
 lo x:=h.lo _
 nb:=h.nb
 cb:=h.cb
 dj x y b hx hy:=by
  have:=h.dj _ _ b hx hy;rw[←H8 k k' x,this,H8]
 bo x c hc:=by
  simp only[St.map,Ck (List.map _)] at hc;obtain ⟨y,hy,rfl⟩:=Option.map_eq_some_iff.1 hc;obtain ⟨h1,h2,h3,arr,e,h4,h5⟩:=h.bo x y hy;exact ⟨h1,h2,λk=>h3 _,arr,e,h4,h5.map _ λa b _ hr=>GH hr⟩
 bi x y c c' hc hc' hB:=by
  simp only[St.map,Ck (List.map _)] at hc hc';obtain ⟨z,hz,rfl⟩:=Option.map_eq_some_iff.1 hc;obtain ⟨z',hz',rfl⟩:=Option.map_eq_some_iff.1 hc';exact h.bi x y z z' hz hz' hB
 tm t v hv:=by
  simp only[St.map,Ck (AV.map _)] at hv;obtain ⟨y,hy,rfl⟩:=Option.map_eq_some_iff.1 hv;exact AR.map _ (h.tm t y hy) λu c _ hc=>GH hc
def St.swaps (s:St):List (Nat×Nat)->St
 | []=>s
 | (k,k')::r=>(s.map (Qez k k')).swaps r
theorem ZT:∀(l:List (Nat×Nat)) (s:St),Weak s (s.swaps l)
 | [],s=>Weak.refl s
 | (k,k')::r,s=>Weak.trans (λN w0 F0 J a w h=>⟨_,h.swap k k'⟩) (ZT r _)
theorem ZU (ks:List Nat) {J:Inj} {a:Act} {w:World} (hr:Rel N w0 F0 J a w s):∃J':Inj,(∀k,k∈ks->J'.L k= [])/\Rel N w0 F0 J' a w (s.map (Vp (Xo ks) none)):=by
 let J':Inj:=⟨λb=>J.F b\/∃k,k∈ks/\b∈J.L k,λk=>if k∈ks then [] else J.L k,J.B⟩
 have hL:∀k b,b∈J'.L k->k∉ks/\b∈J.L k:=λk b hm=>by
  have hm:b∈(if k∈ks then [] else J.L k):=hm;split at hm
  . simp at hm
  rename_i hn;exact ⟨hn,hm⟩
 have hT:Turns J J' w w (Xo ks) none:=by
  constructor
  . exact λb hb=>⟨.inl hb,rfl⟩
  . intro k hk;rw[J4] at hk;split at hk
    . cases hk
    rename_i hn;exact ⟨if_neg hn,λ_ _=>rfl⟩
  . intro k hk b hb;rw[J4] at hk;split at hk
    . rename_i hm;exact ⟨.inr ⟨k,hm,hb⟩,rfl⟩
    cases hk
  . intro k k' hk;rw[J4] at hk;split at hk<;>cases hk
  . intro k t hk;rw[J4] at hk;split at hk
    . simp at hk;exact .inl hk.symm
    cases hk
  . exact λ_ _=>rfl
  intro k d m i o cs hk;rw[J4] at hk;split at hk<;>cases hk
 have hN:Names w0 F0 J' w:=by
  constructor
  . exact λb hb=>hb.elim (hr.fl b) λ⟨k,_,hm⟩=>⟨(hr.lo k b hm).2.1,.inr (hr.lo k b hm).1⟩
  . exact λb hb=> .inl (hr.f0 b hb)
  . intro k;show (if _ then _ else _:List Nat).Nodup;split
    . simp
    exact hr.nd k
  . intro k b hm;obtain ⟨hn,hm⟩:=hL k b hm;obtain ⟨h1,h2,h3⟩:=hr.lo k b hm;exact ⟨h1,h2,λhF=>hF.elim h3 λ⟨k',hk',hm'⟩=>hn (hr.dj k k' b hm hm'▸hk')⟩
  intro k k' b hm hm';exact hr.dj k k' b (hL k b hm).2 (hL k' b hm').2
 have h0:=hr.upd (w':=w) (J':=J') none (by simp) ⟨.one .dead,Xo ks,none,none⟩ undef hr.below hT hN (λh=>absurd rfl h) (λk c hk _=>by
  obtain ⟨_,h2,h3,_⟩:=hr.bo k c hk;exact ⟨by simp,λhF=>hF.elim h2 λ⟨k',_,hm⟩=>h3 k' hm,λk' hm=>h3 k' (hL k' _ hm).2,rfl⟩) (λk c hk=>by cases hk)
 refine ⟨J',λk hk=>if_pos hk, ?_⟩;have h0:Rel N w0 F0 J' a w (match Xo ks,(none:Option Nat) with | [],none=>s | rl,kb=>s.map (Vp rl kb)):=h0;cases ks with
 | nil =>
   have hid:s.map (Vp (Xo []) none)=s:=by
    have hc:(Vp (Xo []) none)=id:=by
     funext c
     cases c with
     | slc t n l=>cases t<;>rfl
     | rptr t cs=>cases t<;>rfl
     | _=>rfl
    rw[hc];obtain ⟨tm,bx⟩:=s;simp only[St.map]
    congr 1
    . conv=>rhs;rw[←List.map_id tm]
      refine List.map_congr_left λp _=> ?_
      obtain ⟨t,v⟩:=p;cases v<;>simp[AV.map]
    simp
   rw[hid];exact h0
 | cons k ks=>exact h0
theorem N9 (ks:List Nat) (h:s.map (Vp (Xo ks) none)=s'):Weak s s':=λN w0 F0 J a w hr=>by
 subst h;obtain ⟨J',_,h⟩:=ZU ks hr;exact ⟨J',h⟩
def Qa8 (d:Bool) (k n:Nat):C->C
 | .slc .emp _ []=> .slc (.own d k) n []
 | c=>c
def DK (i:Nat) (d:Bool) (k n:Nat):List C->List C
 | []=> []
 | c::r=>match i with
   | 0=>Qa8 d k n c::r
   | i+1=>c::DK i d k n r
def Qdj (i:Nat) (d:Bool) (k n:Nat):AV->AV
 | .one c=> .one (Qa8 d k n c)
 | .agg cs=> .agg (DK i d k n cs)
 | v=>v
theorem GI {J:Inj} {w:World} {v:Value} {d:Bool} {k n:Nat} (_:J.L k= []) {c:C} (h:CR J w v c):CR J w v (Qa8 d k n c):=by
 unfold Qa8;split
 . obtain ⟨_,oa,rfl⟩:=h;cases d with
   | true=>show OwnDeep (J.L k) w _ n [];exact ⟨[],.emp oa n,List.nodup_nil,(λb hb=>by simp at hb),.inl rfl⟩
   | false=>exact .inl ⟨rfl,oa,rfl⟩
 exact h
theorem KX {J:Inj} {w:World} {d:Bool} {k n:Nat} (hk:J.L k= []):∀(i:Nat) {cs:List C} {vs:List Value},All2 (CR J w) vs cs->All2 (CR J w) vs (DK i d k n cs)
 | _, [],_,h=>by unfold DK;exact h
 | 0,c::r,_,.cons h1 h2=>by unfold DK;exact .cons (GI hk h1) h2
 | i+1,c::r,_,.cons h1 h2=>by unfold DK;exact .cons h1 (KX hk i h2)
theorem OT {J:Inj} {w:World} {v:Value} {d:Bool} {k n:Nat} (hk:J.L k= []) (i:Nat) {x:AV} (h:AR J w v x):AR J w v (Qdj i d k n x):=by
 cases x with
 | one c=>exact GI hk h
 | agg cs=>obtain ⟨vs,e,h⟩:=h;exact ⟨vs,e,KX hk i h⟩
 | tup l=>exact h
def Qgj {α:Type} (t:Nat) (f:α->α):List (Nat×α)->List (Nat×α)
 | []=> []
 | (k,a)::r=>(k,if k=t then f a else a)::Qgj t f r
theorem Pj {α:Type} {t u:Nat} {f:α->α} {v:α}:∀{l:List (Nat×α)},get (Qgj t f l) u=some v->∃y,get l u=some y/\(v=f y\/v=y)
 | [],h=>by simp[Qgj,get] at h
 | (k,a)::r,h=>by
   simp only[Qgj,get] at h⊢;by_cases hk:k=u
   . simp only[hk,if_true] at h⊢;refine ⟨a,rfl, ?_⟩;by_cases hu:u=t
     . simp only[hu,if_true] at h;exact .inl (Option.some.inj h).symm
     simp only[hu,if_false] at h;exact .inr (Option.some.inj h).symm
   simp only[hk,if_false] at h⊢;exact Pj h
def St.open1 (s:St):Bool×Nat×Nat×Bool×Nat×Nat->St
 | (true,t,i,d,k,n)=>⟨(s.map (Vp (Xo [k]) none)).tm,Qgj t (DK i d k n) (s.map (Vp (Xo [k]) none)).bx⟩
 | (false,t,i,d,k,n)=>⟨Qgj t (Qdj i d k n) (s.map (Vp (Xo [k]) none)).tm,(s.map (Vp (Xo [k]) none)).bx⟩
theorem LY (o:Bool×Nat×Nat×Bool×Nat×Nat) (s:St):Weak s (s.open1 o):=λN w0 F0 J a w hr=>by
 obtain ⟨b,t,i,d,k,n⟩:=o;obtain ⟨J',hk,h⟩:=ZU [k] hr;have hk:=hk k List.mem_cons_self;refine ⟨J', ?_⟩;cases b with
 | true=>
   refine {h with bo:=λx c hc=> ?_,bi:=λx y c c' hc hc'=> ?_}
   . obtain ⟨y,hy,e⟩:=Pj hc;obtain ⟨h1,h2,h3,arr,ty,h4,h5⟩:=h.bo x y hy;refine ⟨h1,h2,h3,arr,ty,h4, ?_⟩;rcases e with rfl | rfl
     . exact KX hk i h5
     exact h5
   obtain ⟨_,hy,_⟩:=Pj hc;obtain ⟨_,hy',_⟩:=Pj hc';exact h.bi x y _ _ hy hy'
 | false=>
   refine {h with tm:=λx v hv=> ?_};obtain ⟨y,hy,e⟩:=Pj hv;have h5:=h.tm x y hy;rcases e with rfl | rfl
   . exact OT hk i h5
   exact h5
def St.opens (s:St):List (Bool×Nat×Nat×Bool×Nat×Nat)->St
 | []=>s
 | o::r=>(s.open1 o).opens r
theorem R7:∀(l:List (Bool×Nat×Nat×Bool×Nat×Nat)) (s:St),Weak s (s.opens l)
 | [],s=>Weak.refl s
 | o::r,s=>Weak.trans (LY o s) (R7 r _)
theorem OU {c:Code} (l:List (Bool×Nat×Nat×Bool×Nat×Nat)) (he:s.opens l=s') (h:AWP P N w0 F0 c Q s'):AWP P N w0 F0 c Q s:=Ik (he▸R7 l s) h
def Qh7 (k:Nat):C->C
 | .slc (.own true x) n l=>bif Nat.beq x k then .slc (.own false x) n l else .slc (.own true x) n l
 | .ept true x n i o cs=>bif Nat.beq x k then .rptr (.vw x) cs else .ept true x n i o cs
 | c=>c
def Inj.dem (J:Inj) (k:Nat):Inj:=⟨λb=>J.F b\/(b∈J.L k/\b∉(J.L k).take 1),λx=>if x=k then (J.L k).take 1 else J.L x,J.B⟩
theorem OW {J:Inj} {k:Nat} {t:Tok}:∀b,J.X t b->(J.dem k).X t b:=by
 intro b hb;cases t with
 | sh=>exact .inl hb
 | emp | own | put=>exact hb.elim
 | vw x =>
   rcases hb with hb | hb
   . by_cases hx:x=k
     . subst hx;by_cases hm:b∈(J.L x).take 1
       . exact .inl (by show b∈(if x=x then _ else _);rw[if_pos rfl];exact hm)
       exact .inr (.inr ⟨hb,hm⟩)
     exact .inl (by show b∈(if x=k then _ else _);rw[if_neg hx];exact hb)
   exact .inr (.inl hb)
theorem OX {J:Inj} {w:World} {v:Value} {k:Nat} {c:C} (h:CR J w v c):CR (J.dem k) w v (Qh7 k c):=by
 have hF:∀b,J.F b->(J.dem k).F b/\w.heap[b]? =w.heap[b]? :=λb hb=>⟨.inl hb,rfl⟩
 have hL:∀x,x≠k->(J.dem k).L x=J.L x:=λx hx=>if_neg hx
 have hLk:(J.dem k).L k=(J.L k).take 1:=if_pos rfl;cases c with
 | int | bool | str | raw | dead=>exact h
 | slc t n l=>
   cases t with
   | sh=>exact VV.keep hF h
   | emp=>exact h
   | put=>exact h.elim
   | vw x=>exact VV.keep (λb hb=>⟨OW (t:= .vw x) b hb,rfl⟩) h
   | own d x=>
     cases d with
     | false=>
       show OwnTop _ ((J.dem k).L x) w v n l;rcases h with h | ⟨g,cap,cur,e,e1,hv,hg,hs,hr,h1,h2⟩
       . exact .inl h
       refine .inr ⟨g,cap,cur,e, ?_,hv,hg,hs,hr.keep hF,h1,h2⟩;by_cases hx:x=k
       . subst hx;rw[hLk,e1];rfl
       rw[hL x hx];exact e1
     | true =>
       show CR (J.dem k) w v (bif Nat.beq x k then .slc (.own false x) n l else .slc (.own true x) n l);cases hb:Nat.beq x k with
       | false=>
         have hx:x≠k:=λe=>by subst e;simp at hb
         show OwnDeep ((J.dem k).L x) w v n l;rw[hL x hx];exact h
       | true=>
         obtain rfl:=Nat.eq_of_beq_eq_true hb;show OwnTop _ ((J.dem x).L x) w v n l;rw[hLk];obtain ⟨L',h1,h2,h3,h4⟩:=h;generalize hp:PV.slc n l=p at h1;cases h1 with
         | int | bool | str | any | raw=>cases hp
         | emp oa n'=>cases hp;exact .inl ⟨rfl,oa,rfl⟩
         | @slc g cap n' cur e L1 l' hg hs hr h5 h6=>
           cases hp
           rcases h4 with h4 | ⟨g',r1,r2,e1,e2⟩
           . cases h4
           cases e1
           obtain ⟨n1,_⟩:=List.nodup_cons.1 h2;refine .inr ⟨g,cap,cur,e,by rw[e2];rfl,rfl,hg,hs,hr.vr λb hb=> .inr ⟨h3 b (List.mem_cons_of_mem _ hb),λhm=> ?_⟩,h5,h6⟩;rw[e2] at hm;simp at hm;exact n1 (hm▸hb)
 | ptr=>exact h
 | fn=>exact h
 | fnr f caps=>
   obtain ⟨vs,rfl,ha⟩:=h;exact ⟨vs,rfl,ha.imp λ_ _ _ h=>h.keep hF⟩
 | rptr t cs=>exact Reads.keep h λb hb=>⟨OW b hb,rfl⟩
 | ept d x n i o cs=>
   obtain ⟨g,r,vs,h1,h2,h3,h4,h5⟩:=h;cases d with
   | false=>
     refine ⟨g,if x=k then [] else r,vs, ?_,h2,h3.keep hF,h4,h5⟩;by_cases hx:x=k
     . subst hx;rw[hLk,h1,if_pos rfl];rfl
     rw[hL x hx,if_neg hx];exact h1
   | true=>
     show CR (J.dem k) w v (bif Nat.beq x k then .rptr (.vw x) cs else .ept true x n i o cs);cases hb:Nat.beq x k with
     | false=>
       have hx:x≠k:=λe=>by subst e;simp at hb
       exact ⟨g,r,vs,by rw[hL x hx];exact h1,h2,h3.keep λb hb=>⟨OW (t:= .vw x) b hb,rfl⟩,h4,h5⟩
     | true=>exact ⟨g,i*n+o,vs,h2,OW (t:= .vw x) g (.inl (by rw[h1];exact List.mem_cons_self)),h3.keep λb hb=>⟨OW (t:= .vw x) b hb,rfl⟩,h4⟩
theorem DL (k:Nat) (s:St):Weak s (s.map (Qh7 k)):=λN w0 F0 J a w h=>by
 have hsub:∀x b,b∈(J.dem k).L x->b∈J.L x:=λx b hb=>by
  have hb:b∈(if x=k then (J.L k).take 1 else J.L x):=hb;split at hb
  . rename_i hx;subst hx;exact List.mem_of_mem_take hb
  exact hb
 refine ⟨J.dem k,{below:=h.below,nodef:=h.nodef,size:=h.size,fl:=λb hb=> ?_,f0:=λb hb=> .inl (h.f0 b hb),nd:=λx=> ?_,lo:=λx b hb=> ?_,dj:=λx y b hx hy=>h.dj x y b (hsub x b hx) (hsub y b hy),nb:=h.nb,cb:=h.cb,bo:=λx c hc=> ?_,bi:=λx y c c' hc hc' hB=> ?_,tm:=λt v hv=> ?_}⟩
 . rcases hb with hb | ⟨hb,_⟩
   . exact h.fl b hb
   exact ⟨(h.lo k b hb).2.1,.inr (h.lo k b hb).1⟩
 . show (if _ then _ else _:List Nat).Nodup;split
   . exact (List.take_sublist 1 _).nodup (h.nd k)
   exact h.nd x
 . obtain ⟨h1,h2,h3⟩:=h.lo x b (hsub x b hb);refine ⟨h1,h2,λhF=> ?_⟩;rcases hF with hF | ⟨hm,hn⟩
   . exact h3 hF
   have hx:=h.dj x k b (hsub x b hb) hm;subst hx;exact hn (by have hb:b∈(if x=x then (J.L x).take 1 else J.L x):=hb;rw[if_pos rfl] at hb;exact hb)
 . simp only[St.map,Ck (List.map _)] at hc;obtain ⟨y,hy,rfl⟩:=Option.map_eq_some_iff.1 hc;obtain ⟨h1,h2,h3,arr,e,h4,h5⟩:=h.bo x y hy;refine ⟨h1,λhF=> ?_,λz hz=>h3 z (hsub z _ hz),arr,e,h4,h5.map _ λa b _ hr=>OX hr⟩;rcases hF with hF | ⟨hm,_⟩
   . exact h2 hF
   exact h3 k hm
 . simp only[St.map,Ck (List.map _)] at hc hc';obtain ⟨z,hz,rfl⟩:=Option.map_eq_some_iff.1 hc;obtain ⟨z',hz',rfl⟩:=Option.map_eq_some_iff.1 hc';exact h.bi x y z z' hz hz' hB
 simp only[St.map,Ck (AV.map _)] at hv;obtain ⟨y,hy,rfl⟩:=Option.map_eq_some_iff.1 hv;exact AR.map _ (h.tm t y hy) λu c _ hc=>OX hc
def St.demotes (s:St):List Nat->St
 | []=>s
 | k::r=>(s.map (Qh7 k)).demotes r
theorem Lr:∀(l:List Nat) (s:St),Weak s (s.demotes l)
 | [],s=>Weak.refl s
 | k::r,s=>Weak.trans (DL k s) (Lr r _)
end
end
section
open Go.RowKit
def HZ:Nat->List AV->List (Nat×AV)
 | _, []=> []
 | i,v::r=>(i,v)::HZ (i+1) r
def YY (args:List AV):St:=⟨HZ 0 args, []⟩
def AA (tt:List (Nat×TI)) (s:St):List ResultVar->Option (List AV)
 | []=>some []
 | .tmp t::r=>match get s.tm t,AA tt s r with
   | some v,some vs=>some (v::vs)
   | _,_=>none
 | .cell a t::r=>match get s.tm a,get tt t,AA tt s r with
   | some (.one (.ptr k off)),some ti,some vs=>(match get s.bx k with
     | some cells=>(match LQ ti ((cells.drop off).take ti.size) with
       | some v=>some (v::vs)
       | none=>none)
     | none=>none)
   | _,_,_=>none
def Qgv:AV->Option (Bool×List C)
 | .one c=>some (false, [c])
 | .agg cs=>some (true,cs)
 | .tup _=>none
def R8:List AV->Option (List (Bool×List C))
 | []=>some []
 | v::r=>match Qgv v,R8 r with
   | some p,some ps=>some (p::ps)
   | _,_=>none
def Qdk:List AV->Option AV
 | [v]=>some v
 | vs=>(R8 vs).map .tup
def Qgk (k:Nat):List Nat->Nat
 | []=>0
 | x::r=>bif Nat.beq x k then 0 else Qgk k r+1
def Qiw (ks:List Nat):C->C
 | .slc (.own b k) n l=> .slc (.own b (Qgk k ks)) n l
 | c=>c
def Qgw:C->Bool
 | .int _ _=>true
 | .bool _=>true
 | .str _=>true
 | .slc .sh _ _=>true
 | .slc .emp _ _=>true
 | .slc (.own _ _) _ _=>true
 | _=>false
def Pk (tt:List (Nat×TI)) (rs:List ResultVar) (s:St):Option AV:=
 match AA tt s rs with
 | some vs=>(match Qdk vs with
   | some v=>bif H4 Qgw v.cells&&Dz (Qt v.cells) then some (v.map (Qiw (Qt v.cells))) else none
   | none=>none)
 | none=>none
def OY (tt:List (Nat×TI)) (rs:List ResultVar) (r:AV):Exit->St->Prop
 | .normal,s=>∃frz,Pk tt rs (s.map (Vp (Xo frz) none))=some r
 | .ret,s=>∃frz,Pk tt rs (s.map (Vp (Xo frz) none))=some r
 | _,_=>False
theorem Eh {tt:List (Nat×TI)} {rs:List ResultVar} {r b:AV} {s:St} (frz:List Nat) (h:Pk tt rs (s.map (Vp (Xo frz) none))=some b) (e:b=r):OY tt rs r .ret s:=⟨frz,e▸h⟩
def ZV (tmps:Array Value):ResultVar->Sem Value
 | .tmp t=>pure (tmps.getD t undef)
 | .cell a t=>do loadVar t (←asAddr (tmps.getD a undef))
theorem ZW (fn:Func) (tmps:Array Value):results fn tmps=(do
 let vs←fn.results.mapM (ZV tmps)
 pure (if h:vs.size=1 then vs[0] else .tuple vs)):=by
 unfold results
 congr 2
def Qa9 (J:Inj) (ks:List Nat) (i:Nat):List Nat:=match ks[i]? with
 | some k=>J.L k
 | none=> []
theorem Tm {J:Inj} {ks:List Nat} {i b:Nat} (h:b∈Qa9 J ks i):∃k,ks[i]? =some k/\b∈J.L k:=by
 unfold Qa9 at h;split at h
 . rename_i k hk;exact ⟨k,hk,h⟩
 simp at h
section
variable {P:Program} {N:Nat} {w0:Base} {F0:Nat->Prop} {J:Inj} {a:Act} {w:World} {s:St}
theorem QS:∀{args:List AV} {i t:Nat} {v:AV},get (HZ i args) t=some v->i<=t/\args[t-i]? =some v
 | [],i,t,v,h=>by simp[HZ,get] at h
 | x::r,i,t,v,h=>by
   simp only[HZ,get] at h;split at h
   . rename_i e;subst e;exact ⟨Nat.le_refl _,by simpa using h⟩
   rename_i hne;obtain ⟨h1,h2⟩:=QS h;refine ⟨by omega, ?_⟩;obtain ⟨j,hj⟩:∃j,t-i=j+1:=⟨t-i-1,by omega⟩;rw[hj,List.getElem?_cons_succ,show j=t-(i+1) by omega];exact h2
theorem Tn {tt:List (Nat×TI)} (htt:De P tt=true) (hrel:Rel N w0 F0 J a w s):∀{rs:List ResultVar} {vs:List AV},AA tt s rs=some vs->
 ∃us:List Value,(rs.mapM (ZV a.tmps)).run P w= .ok us w/\All2 (AR J w) us vs
 | [],vs,h=>by
   obtain rfl: []=vs:=by simpa [AA] using h
   exact ⟨[],by simp,.nil⟩
 | .tmp t::r,vs,h=>by
   simp only[AA] at h;split at h
   . rename_i v vs' e1 e2;obtain rfl:=Option.some.inj h;obtain ⟨us,h1,h2⟩:=Tn htt hrel e2;exact ⟨a.tmps.getD t undef::us,by simp[List.mapM_cons,ZV,h1],.cons (hrel.tm t v e1) h2⟩
   cases h
 | .cell x t::r,vs,h=>by
   simp only[AA] at h;split at h
   . rename_i k off ti vs' e1 e2 e3;split at h
     . rename_i cells hk;split at h
       . rename_i v hval;obtain rfl:=Option.some.inj h;obtain ⟨us,h1,h2⟩:=Tn htt hrel e3;have hx:a.tmps.getD x undef= .pointer (some ⟨J.B k,off,none⟩):=hrel.tm x _ e1;obtain ⟨_,_,_,arr,e,hheap,hall⟩:=hrel.bo k cells hk
         have hc:∀(j:Nat) (u:Value),((arr.toList.drop off).take ti.size)[j]? =some u->w.cell? ⟨J.B k,off+j,none⟩=some u:=by
          have:=B6 (k:=ti.size) (Ah (w:=w) (vs:=arr.toList) (b:=J.B k) (off:=0) (k:=off) (λj u hj=>by
           rw[Array.getElem?_toList] at hj;simp[World.cell?,hheap,hj]))
          simpa using this
         obtain ⟨u,hu,hr⟩:=Tj (P:=P) (Y7 htt e2) ((hall.drop off).take ti.size) hval hc;exact ⟨u::us,by simp[List.mapM_cons,ZV,hx,asAddr,hu,h1],.cons hr h2⟩
       cases h
     cases h
   cases h
theorem GJ:∀{vs:List AV} {ps:List (Bool×List C)} {us:List Value},R8 vs=some ps->All2 (AR J w) us vs->All2 (VA J w) us ps
 | [],ps,us,h,hu=>by
   obtain rfl: []=ps:=by simpa [R8] using h
   cases hu
   exact .nil
 | v :: r,ps,us,h,hu=>by
   simp only[R8] at h;split at h
   . rename_i p ps' e1 e2;obtain rfl:=Option.some.inj h;cases hu with
     | cons h1 h2=>
       refine .cons ?_ (GJ e2 h2);cases v with
       | one c=>obtain rfl:=Option.some.inj e1;exact ⟨c,rfl,h1⟩
       | agg cs=>obtain rfl:=Option.some.inj e1;exact h1
       | tup l=>cases e1
   cases h
theorem KY:∀{ks:List Nat} {k:Nat},k∈ks->ks[Qgk k ks]? =some k
 | [],k,h=>by simp at h
 | x::r,k,h=>by
   simp only[Qgk];by_cases hx:x=k
   . subst hx;simp
   rw[ZS hx];simp only[cond_false,List.getElem?_cons_succ];exact KY ((List.mem_cons.1 h).resolve_left λe=>hx e.symm)
theorem GK {w':World} {tt:List (Nat×TI)} (htt:De P tt=true) {fn:Func} {r:AV} (hrel:Rel N ⟨w,λ_=>False,none⟩ F0 J a w' s) (h:Pk tt fn.results.toList s=some r):∃v,(results fn a.tmps).run P w'= .ok v w'/\Qem F0 w r (.returned v) w':=by
 unfold Pk at h;split at h
 . rename_i vs hvs;split at h
   . rename_i x hx;cases hc:(H4 Qgw x.cells&&Dz (Qt x.cells)) with
     | false=>rw[hc] at h;cases h
     | true =>
       rw[hc] at h;obtain rfl:=Option.some.inj h;simp only[Bool.and_eq_true] at hc;obtain ⟨hok,hnd⟩:=hc;have hnd:=Ew.1 hnd;obtain ⟨us,hrun,hall⟩:=Tn (P:=P) htt hrel hvs
       have hres:∃v,(results fn a.tmps).run P w'= .ok v w'/\AR J w' v x:=by
        have hm:(fn.results.mapM (ZV a.tmps)).run P w'= .ok us.toArray w':=by
         rw[Array.mapM_eq_mapM_toList];simp[hrun]
        have hgen:(results fn a.tmps).run P w'= .ok (if h:us.toArray.size=1 then us.toArray[0] else .tuple us.toArray) w':=by
         rw[ZW];simp only[Sem.run_bind,hm,Result.andThen_ok,Sem.run_pure]
        cases hall with
        | nil=>
          obtain rfl:AV.tup []=x:=by simpa [Qdk,R8] using hx
          exact ⟨.tuple #[],by rw[hgen];simp, [],rfl,.nil⟩
        | cons h1 h2=>
          cases h2 with
          | nil=>
            obtain rfl:=Option.some.inj hx;exact ⟨_,by rw[hgen];simp,h1⟩
          | cons h2 h3=>
            obtain ⟨ps,hps,rfl⟩:=Option.map_eq_some_iff.1 hx;exact ⟨_,by rw[hgen];simp,_,rfl,GJ hps (.cons h1 (.cons h2 h3))⟩
       obtain ⟨v,hv,hvr⟩:=hres;refine ⟨v,hv,v,Qa9 J (Qt x.cells),rfl,hrel.below.below (λ_ h=>h),λi=> ?_,λi b hb=> ?_,λi i' b hb hb'=> ?_, ?_⟩
       . unfold Qa9;split
         . exact hrel.nd _
         simp
       . obtain ⟨k,_,hm⟩:=Tm hb;exact ⟨(hrel.lo k b hm).1.elim id False.elim,(hrel.lo k b hm).2.1⟩
       . obtain ⟨k,hk,hm⟩:=Tm hb;obtain ⟨k',hk',hm'⟩:=Tm hb';have:=hrel.dj k k' b hm hm';subst this;obtain ⟨l1,e1⟩:=List.getElem?_eq_some_iff.1 hk;obtain ⟨l2,e2⟩:=List.getElem?_eq_some_iff.1 hk';rcases Nat.lt_trichotomy i i' with hlt | he | hlt
         . exact absurd (e1.trans e2.symm) (List.pairwise_iff_getElem.1 hnd i i' l1 l2 hlt)
         . exact he
         exact absurd (e2.trans e1.symm) (List.pairwise_iff_getElem.1 hnd i' i l2 l1 hlt)
       refine AR.map _ hvr λu c hcm hcr=> ?_
       have hF:∀b,J.F b->(F0 b\/(w.heap.size<=b/\b<w'.heap.size/\∀i,b∉Qa9 J (Qt x.cells) i)):=λb hb=>by
        obtain ⟨h1,h2⟩:=hrel.fl b hb;refine h2.imp id λh2=>⟨h2.elim id False.elim,h1,λi hm=> ?_⟩
        obtain ⟨k,_,hm⟩:=Tm hm;exact (hrel.lo k b hm).2.2 hb
       have hfo:=Hs hok c hcm;cases c with
       | int | bool | str | raw=>exact hcr
       | slc t n l=>
         cases t with
         | emp=>exact hcr
         | sh=>exact VV.keep (λb hb=>⟨hF b hb,rfl⟩) hcr
         | vw k=>cases hfo
         | put=>exact hcr.elim
         | own b k=>
           cases b with
           | false=>
             show OwnTop _ (Qa9 J (Qt x.cells) (Qgk k (Qt x.cells))) w' u _ _;unfold Qa9;rw[KY (N7 hcm rfl)];exact OwnTop.keep (F:=J.F) hcr (λb hb=>⟨hF b hb,rfl⟩) λ_ _=>rfl
           | true=>
             show OwnDeep (Qa9 J (Qt x.cells) (Qgk k (Qt x.cells))) w' u _ _;unfold Qa9;rw[KY (N7 hcm rfl)];exact hcr
       | _=>cases hfo
   cases h
 cases h
theorem Pm {tt:List (Nat×TI)} (htt:De P tt=true) {f:Nat} {fn:Func} {c:Code} (hf:P.funcs[f]? =some fn) (hb:fn.body=some c) (hok:Ee P f) {args:List AV} {r:AV} (hn:args.length<=fn.ntmps)
 (h:∀w0 F0,GoodAt P w0->AWP P fn.ntmps w0 F0 c (OY tt fn.results.toList r) (YY args)):ACalls P f args r:=by
 refine ⟨hok,λw hg F vals hF hall=>calls_of_wp hf hb ?_⟩;have hlen:=hall.length;refine wp_mono (h ⟨w,λ_=>False,none⟩ F (.of hg) (Td F) _ w ?_) ?_
 . refine {below:=Base.Keeps.refl _,nodef:=rfl,size:= ?_,fl:=λb hb=>⟨hF b hb,.inl hb⟩,f0:=λb hb=>hb,nd:=λk=>by simp[Td],lo:=λk b hb=>by simp[Td] at hb,dj:=λk k' b hb=>by simp[Td] at hb,bo:=λk c hc=>by simp[YY,get] at hc,nb:= .inl rfl,cb:=(λb hb=>by cases hb),bi:=λk k' c c' hc=>by simp[YY,get] at hc,tm:=λt v hv=> ?_}
   . simp;omega
   obtain ⟨_,ht⟩:=QS hv;obtain ⟨u,hu,hr⟩:=hall.get' ht;have hlt:t<vals.length:=(List.getElem?_eq_some_iff.1 hu).1
   have:(vals.toArray++Array.replicate (fn.ntmps-vals.toArray.size) undef).getD t undef=u:=by
    rw[Array.getD_eq_getD_getElem?,Array.getElem?_append_left (by simpa using hlt)];simp at hu⊢;rw[hu];rfl
   rw[this];exact hr
 rintro e a' w' ⟨J',s',hR,hq⟩
 cases e with
 | normal=>
   obtain ⟨frz,hq⟩:=hq;obtain ⟨J'',hR⟩:=N9 frz rfl _ _ _ _ _ _ hR;obtain ⟨v,h1,h2⟩:=GK (P:=P) htt (fn:=fn) hR hq;exact ⟨hR.nodef,v,h1,h2⟩
 | ret=>
   obtain ⟨frz,hq⟩:=hq;obtain ⟨J'',hR⟩:=N9 frz rfl _ _ _ _ _ _ hR;obtain ⟨v,h1,h2⟩:=GK (P:=P) htt (fn:=fn) hR hq;exact ⟨hR.nodef,v,h1,h2⟩
 | _=>exact hq.elim
end
end
section
open Go.RowKit
open GoD (rd own)
class GoE (α:Type) extends GoD α where
 enc:α->List PV
 enc_len:∀a,(enc a).length=GoD.n α
 no_any:∀{a:α} {p:PV},p∈enc a->p≠ .any
 n_pos:0<GoD.n α
 /-- no list in it is longer than what any append makes -/
 wide:α->Prop
 wide_size:∀{a:α},GoD.size a<=1073741824->wide a
 vc_wide:∀{X:Nat->Prop} {w:World} {cs:List Value} {a:α},VC X w cs (enc a)->wide a
 rd_vc:∀{w:World} {cs:List Value} {a:α},rd w cs a->wide a->VC (λb=>b<w.heap.size) w cs (enc a)
 vc_rd:∀{X:Nat->Prop} {w:World} {cs:List Value} {a:α},VC X w cs (enc a)->rd w cs a
 own_oc:∀{L:List Nat} {w:World} {cs:List Value} {a:α},own L w cs a->wide a->OC w L cs (enc a)
 oc_own:∀{L:List Nat} {w:World} {cs:List Value} {a:α},OC w L cs (enc a)->L.Nodup->own L w cs a
open GoE (enc wide)
instance instGoEInt:GoE Int where
 enc a:= [.int .i64 a]
 no_any h:=by rw[List.mem_singleton.1 h];simp
 enc_len _:=rfl
 n_pos:=Nat.zero_lt_one
 wide _:=True
 wide_size _:=trivial
 vc_wide _:=trivial
 rd_vc h _:=by obtain ⟨rfl,h⟩:=h;exact .cons (.int ((U2 _).2 h)) .nil
 vc_rd h:=by
  cases h with
  | cons h1 h2=>cases h2;cases h1;exact ⟨rfl,(U2 _).1 ‹_›⟩
 own_oc h _:=by obtain ⟨rfl,rfl,h⟩:=h;exact OC.cons (L1:= []) (L2:= []) (.int ((U2 _).2 h)) .nil
 oc_own h _:=by
  cases h with
  | cons h1 h2=>cases h2;cases h1;exact ⟨rfl,rfl,(U2 _).1 ‹_›⟩
instance instGoEBool:GoE Bool where
 enc a:= [.bool a]
 no_any h:=by rw[List.mem_singleton.1 h];simp
 enc_len _:=rfl
 n_pos:=Nat.zero_lt_one
 wide _:=True
 wide_size _:=trivial
 vc_wide _:=trivial
 rd_vc h _:=by rw[show _=_ from h];exact .cons (.bool _) .nil
 vc_rd h:=by
  cases h with
  | cons h1 h2=>cases h2;cases h1;rfl
 own_oc h _:=by obtain ⟨rfl,rfl⟩:=h;exact OC.cons (L1:= []) (L2:= []) (.bool _) .nil
 oc_own h _:=by
  cases h with
  | cons h1 h2=>cases h2;cases h1;exact ⟨rfl,rfl⟩
instance instGoEStr:GoE ByteArray where
 enc a:= [.str a]
 no_any h:=by rw[List.mem_singleton.1 h];simp
 enc_len _:=rfl
 n_pos:=Nat.zero_lt_one
 wide _:=True
 wide_size _:=trivial
 vc_wide _:=trivial
 rd_vc h _:=by obtain ⟨rfl,h⟩:=h;exact .cons (.str h) .nil
 vc_rd h:=by
  cases h with
  | cons h1 h2=>cases h2;cases h1;exact ⟨rfl,‹_›⟩
 own_oc h _:=by obtain ⟨rfl,rfl,h⟩:=h;exact OC.cons (L1:= []) (L2:= []) (.str h) .nil
 oc_own h _:=by
  cases h with
  | cons h1 h2=>cases h2;cases h1;exact ⟨rfl,rfl,‹_›⟩
theorem VC.split {X:Nat->Prop} {w:World}:∀{ps ps':List PV} {vs:List Value},VC X w vs (ps++ps')->∃vs1 vs2,vs=vs1++vs2/\VC X w vs1 ps/\VC X w vs2 ps'
 | [],ps',vs,h=>⟨[],vs,rfl,.nil,h⟩
 | p ::ps,ps',vs,h=>by
   generalize hq:p::ps++ps'=q at h;cases h with
   | nil=>cases hq
   | cons h1 h2=>
     cases hq
     obtain ⟨vs1,vs2,rfl,h3,h4⟩:=VC.split h2;exact ⟨_,vs2,rfl,.cons h1 h3,h4⟩
instance instGoEProd {α β:Type} [GoE α] [GoE β]:GoE (α×β) where
 enc p:=enc p.1++enc p.2
 no_any h:=(List.mem_append.1 h).elim GoE.no_any GoE.no_any
 enc_len p:=by rw[List.length_append,GoE.enc_len,GoE.enc_len];rfl
 n_pos:=Nat.lt_of_lt_of_le (GoE.n_pos (α:=α)) (Nat.le_add_right _ _)
 wide p:=wide p.1/\wide p.2
 wide_size h:=⟨GoE.wide_size (Nat.le_trans (Nat.le_add_right _ _) h),GoE.wide_size (Nat.le_trans (Nat.le_add_left _ _) h)⟩
 vc_wide h:=by
  obtain ⟨c1,c2,rfl,h1,h2⟩:=VC.split h;exact ⟨GoE.vc_wide h1,GoE.vc_wide h2⟩
 rd_vc h hw:=by
  obtain ⟨c1,c2,rfl,h1,h2⟩:=h;exact VC.append (GoE.rd_vc h2 hw.2) (GoE.rd_vc h1 hw.1)
 vc_rd h:=by
  obtain ⟨c1,c2,rfl,h1,h2⟩:=VC.split h;exact ⟨c1,c2,rfl,GoE.vc_rd h1,GoE.vc_rd h2⟩
 own_oc h hw:=by
  obtain ⟨_,c1,c2,L1,L2,rfl,rfl,h1,h2⟩:=h;exact OC.append (GoE.own_oc h2 hw.2) (GoE.own_oc h1 hw.1)
 oc_own h hn:=by
  obtain ⟨L1,L2,c1,c2,rfl,rfl,h1,h2⟩:=OC.split h;obtain ⟨n1,n2,_⟩:=List.nodup_append.1 hn;exact ⟨hn,c1,c2,L1,L2,rfl,rfl,GoE.oc_own h1 n1,GoE.oc_own h2 n2⟩
def eL {α:Type} [GoE α] (l:List α):List (List PV):=l.map enc
section
variable {α:Type} [GoE α]
theorem KZ (a:α) (l:List α):eL (a::l)=enc a::eL l:=rfl
theorem OZ (l m:List α):eL (l++m)=eL l++eL m:=by simp[eL]
theorem Y5 (l:List α):(eL l).length=l.length:=by simp[eL]
theorem Qe0 (l:List α) (k:Nat):(eL l).take k=eL (l.take k):=by simp[eL]
theorem Qe1 (l:List α) (k:Nat):(eL l).drop k=eL (l.drop k):=by simp[eL]
theorem PA {l:List α} {i:Nat} {a:α} (h:l[i]? =some a):(eL l)[i]? =some (enc a):=by simp[eL,h]
theorem PB {w:World} {X:Nat->Prop} {b off:Nat}:∀(l:List α),(∀i a,l[i]? =some a->∃ce:List Value,ce.length=GoD.n α/\(∀j v,ce[j]? =some v->w.cell? ⟨b,off+i*GoD.n α+j,none⟩=some v)/\VC X w ce (enc a))->
 ∃cs,(∀(j:Nat) (u:Value),cs[j]? =some u->w.cell? ⟨b,off+j,none⟩=some u)/\VR X w (GoD.n α) cs (eL l)
 | [],_=>⟨[],by simp,.nil _⟩
 | a ::l,h=>by
   obtain ⟨ce,h1,h2,h3⟩:=h 0 a rfl
   obtain ⟨cs,h4,h5⟩:=PB (b:=b) (off:=off+GoD.n α) l λi x hx=>by
    obtain ⟨c,k1,k2,k3⟩:=h (i+1) x (by simpa using hx);refine ⟨c,k1,λj v hj=> ?_,k3⟩;have:=k2 j v hj;rw[Nat.add_mul,Nat.one_mul] at this;rw[show off+GoD.n α+i*GoD.n α+j=off+(i*GoD.n α+GoD.n α)+j by omega];exact this
   refine ⟨ce++cs,λj u hj=> ?_,.cons h3 (GoE.enc_len a) h5⟩;rcases Nat.lt_or_ge j ce.length with hlt | hge
   . rw[List.getElem?_append_left hlt] at hj;have:=h2 j u hj;simpa using this
   rw[List.getElem?_append_right hge] at hj;have:=h4 _ u hj;rw[show off+GoD.n α+(j-ce.length)=off+j by omega] at this;exact this
theorem GL {w:World}:∀(l:List α) (Ls:List (List Nat)) (cs:List Value),(∀a,a∈l->wide a)->Ls.length=l.length->cs.length=l.length*GoD.n α->(∀i Li a,Ls[i]? =some Li->l[i]? =some a->own Li w ((cs.drop (i*GoD.n α)).take (GoD.n α)) a)->OR w (GoD.n α) Ls.flatten cs (eL l)
 | [],Ls,cs,_,h1,h2,_=>by
   obtain rfl:Ls= []:=List.eq_nil_of_length_eq_zero h1;obtain rfl:cs= []:=List.eq_nil_of_length_eq_zero (by simpa using h2);exact .nil _
 | a::l, [],cs,_,h1,_,_=>by simp at h1
 | a ::l,Li::Ls,cs,hw,h1,h2,h=>by
   have h0:=h 0 Li a rfl rfl;rw[Nat.zero_mul,List.drop_zero] at h0
   have hr:=GL l Ls (cs.drop (GoD.n α)) (λx hx=>hw x (List.mem_cons_of_mem _ hx)) (by simpa using h1) (by rw[List.length_drop,h2,List.length_cons,Nat.add_mul,Nat.one_mul];omega) λi Lj x hi hx=>by
    have:=h (i+1) Lj x (by simpa using hi) (by simpa using hx);rw[Nat.add_mul,Nat.one_mul,Nat.add_comm,←List.drop_drop] at this;exact this
   rw[←List.take_append_drop (GoD.n α) cs];exact .cons (GoE.own_oc h0 (hw a List.mem_cons_self)) (GoE.enc_len a) hr
theorem GM {w:World}:∀(l:List α) (L:List Nat) (cs:List Value),OR w (GoD.n α) L cs (eL l)->L.Nodup->∃Ls:List (List Nat),L=Ls.flatten/\Ls.length=l.length/\∀i Li a,Ls[i]? =some Li->l[i]? =some a->own Li w ((cs.drop (i*GoD.n α)).take (GoD.n α)) a
 | [],L,cs,h,_=>by cases h;exact ⟨[],rfl,rfl,by simp⟩
 | a :: l,L,cs,h,hn=>by
   cases h with
   | @cons _ L1 L2 ce cs' _ _ h1 h2 h3=>
     obtain ⟨n1,n2,_⟩:=List.nodup_append.1 hn;obtain ⟨Ls,rfl,e2,e3⟩:=GM l L2 cs' h3 n2;have hce:ce.length=GoD.n α:=by rw[h1.length,GoE.enc_len]
     refine ⟨L1::Ls,rfl,by simp[e2],λi Li x hi hx=> ?_⟩;cases i with
     | zero=>
       simp at hi hx;subst hi hx;rw[Nat.zero_mul,List.drop_zero,←hce,List.take_left];exact GoE.oc_own h1 n1
     | succ i=>
       have:=e3 i Li x (by simpa using hi) (by simpa using hx);rw[Nat.add_mul,Nat.one_mul,Nat.add_comm,←List.drop_drop,←hce,List.drop_left,hce];exact this
def Qba (l:List α):Prop:=l.length<=1073741824/\∀a,a∈l->wide a
theorem Qgx {w:World} {v:Value} {l:List α} (h:rdS w [v] l) (hw:Qba l):VV (λb=>b<w.heap.size) w v (.slc (GoD.n α) (eL l)):=by
 obtain ⟨oa,cap,e,hl,hm,hel⟩:=h;obtain rfl:v=_:=by simpa using e
 cases hlc:l with
 | nil=>exact .emp oa _ hm
 | cons a l'=>
   obtain ⟨b,off,ce0,hoa,hc0,hcell,hrd0⟩:=hel 0 a (by rw[hlc];rfl);subst hoa
   obtain ⟨cs,h1,h2⟩:=PB (X:=λb=>b<w.heap.size) (w:=w) (b:=b) (off:=off) l λi x hx=>by
    obtain ⟨b',off',ce,e',k1,k2,k3⟩:=hel i x hx;obtain ⟨rfl,rfl⟩:b=b'/\off=off':=by simpa using e'
    exact ⟨ce,k1,k2,GoE.rd_vc k3 (hw.2 x (List.mem_of_getElem? hx))⟩
   rw[←hlc,←Y5 (l:=l)];refine .slc ?_ h1 h2 (by rw[Y5];exact hl) ⟨hm,by rw[Y5];exact hw.1⟩;have hnp:=GoE.n_pos (α:=α);have:=hcell 0 ce0[0] (List.getElem?_eq_getElem (by omega));exact World.block_lt_of_cell? _ _ this
theorem PC {X:Nat->Prop} {w:World} {v:Value} {l:List α} (h:VV X w v (.slc (GoD.n α) (eL l))):rdS w [v] l:=by
 generalize hp:PV.slc (GoD.n α) (eL l)=p at h;cases h with
 | int | bool | str | any | raw=>cases hp
 | @emp oa cap n hcap=>
   simp only[PV.slc.injEq] at hp
   have:l= []:=by
    cases l with
    | nil=>rfl
    | cons a l=>simp[eL] at hp
   subst this;exact ⟨oa,cap,rfl,Nat.zero_le _,hcap,by simp⟩
 | @slc b off cap n cs l' hb hc hr h1 h2=>
   simp only[PV.slc.injEq] at hp;obtain ⟨rfl,rfl⟩:=hp;refine ⟨_,cap,by rw[Y5],by simpa [Y5] using h1,h2.1,λi a hi=>⟨b,off,(cs.drop (i*GoD.n α)).take (GoD.n α),rfl, ?_, ?_, ?_⟩⟩
   . exact (hr.get (PA hi)).1.length.trans (GoE.enc_len a)
   . exact B6 (Ah hc)
   exact GoE.vc_rd (hr.get (PA hi)).1
theorem PD {L:List Nat} {w:World} {v:Value} {l:List α} (h:Qgm L w [v] l) (hw:Qba l):OV w L v (.slc (GoD.n α) (eL l)):=by
 obtain ⟨hnd,⟨rfl,rfl,oa,e⟩ | ⟨g,cap,cur,e,Ls,hv,hg,hl,hm,hs,rfl,hLs,hel⟩⟩:=h
 . obtain rfl:v=_:=by simpa using e
   exact .emp oa _
 obtain rfl:v=_:=by simpa using hv
 rw[←Y5 (l:=l)];refine .slc hg hs ?_ (by simpa [Y5] using hl) ⟨hm,by rw[Y5];exact hw.1⟩;have hroom:l.length*GoD.n α<=cur.size:=by rw[hs];exact Nat.mul_le_mul_right _ hl
 refine GL l Ls _ hw.2 hLs (by simp[Y5];omega) λi Li a hi ha=> ?_
 have hlt:i<l.length:=(List.getElem?_eq_some_iff.1 ha).1;have:=hel i Li a hi ha
 rw[List.drop_take,List.take_take,Y5,Nat.min_eq_left (by
  have:=Nat.mul_le_mul_right (GoD.n α) (show i+1<=l.length by omega);rw[Nat.add_mul,Nat.one_mul] at this;omega)]
 exact this
theorem PE {L:List Nat} {w:World} {v:Value} {l:List α} (h:OV w L v (.slc (GoD.n α) (eL l))) (hn:L.Nodup):Qgm L w [v] l:=by
 generalize hp:PV.slc (GoD.n α) (eL l)=p at h;cases h with
 | int | bool | str | any | raw=>cases hp
 | emp oa n=>
   simp only[PV.slc.injEq] at hp
   have:l= []:=by
    cases l with
    | nil=>rfl
    | cons a l=>simp[eL] at hp
   subst this;exact ⟨by simp,.inl ⟨rfl,rfl,oa,rfl⟩⟩
 | @slc g cap n cur e L l' hg hs hr h1 h2=>
   simp only[PV.slc.injEq] at hp;obtain ⟨rfl,rfl⟩:=hp;obtain ⟨Ls,rfl,e2,e3⟩:=GM l L _ hr (List.nodup_cons.1 hn).2;refine ⟨hn,.inr ⟨g,cap,cur,e,Ls,by rw[Y5],hg,by simpa [Y5] using h1,h2.1,hs,rfl,e2,λi Li a hi ha=> ?_⟩⟩;have hlt:i<l.length:=(List.getElem?_eq_some_iff.1 ha).1;have:=e3 i Li a hi ha
   rw[List.drop_take,List.take_take,Y5,Nat.min_eq_left (by
    have:=Nat.mul_le_mul_right (GoD.n α) (show i+1<=l.length by omega);rw[Nat.add_mul,Nat.one_mul] at this;omega)] at this
   exact this
theorem AB {X:Nat->Prop} {w:World}:∀{l:List α} {cs:List Value},VR X w (GoD.n α) cs (eL l)->∀a,a∈l->wide a
 | [],_,_,a,ha=>by simp at ha
 | x ::l,cs,h,a,ha=>by
   cases h with
   | cons h1 h2 h3=>
     rcases List.mem_cons.1 ha with rfl | ha
     . exact GoE.vc_wide h1
     exact AB h3 a ha
theorem Lt {X:Nat->Prop} {w:World} {v:Value} {l:List α} (h:VV X w v (.slc (GoD.n α) (eL l))):Qba l:=by
 generalize hp:PV.slc (GoD.n α) (eL l)=p at h;cases h with
 | int | bool | str | any | raw=>cases hp
 | emp oa n hcap=>
   simp only[PV.slc.injEq] at hp
   have:l= []:=by
    cases l with
    | nil=>rfl
    | cons a l=>simp[eL] at hp
   subst this;exact ⟨Nat.zero_le _,by simp⟩
 | @slc b off cap n cs l' hb hc hr h1 h2=>
   simp only[PV.slc.injEq] at hp;obtain ⟨rfl,rfl⟩:=hp;exact ⟨by have:=h2.2;rwa [Y5] at this,AB hr⟩
end
theorem VC.one {X:Nat->Prop} {w:World} {v:Value} {p:PV} (h:VC X w [v] [p]):VV X w v p:=by cases h;assumption
theorem OC.one {w:World} {L:List Nat} {v:Value} {p:PV} (h:OC w L [v] [p]):OV w L v p:=by
 generalize hv: [v]=vs at h;generalize hp: [p]=ps at h;cases h with
 | nil=>cases hv
 | cons h1 h2=>
   cases hv
   cases hp
   cases h2
   rw[List.append_nil];exact h1
theorem VC.one' {X:Nat->Prop} {w:World} {vs:List Value} {p:PV} (h:VC X w vs [p]):∃v,vs= [v]/\VV X w v p:=by
 cases h with
 | cons h1 h2=>cases h2;exact ⟨_,rfl,h1⟩
theorem OC.one' {w:World} {L:List Nat} {vs:List Value} {p:PV} (h:OC w L vs [p]):∃v,vs= [v]/\OV w L v p:=by
 obtain ⟨v,e⟩:∃v,vs= [v]:=by
  have:=h.length
  match vs,this with
  | [v],_=>exact ⟨v,rfl⟩
 subst e;exact ⟨v,rfl,h.one⟩
instance instGoEList {α:Type} [GoE α]:GoE (List α) where
 enc l:= [.slc (GoD.n α) (eL l)]
 no_any h:=by rw[List.mem_singleton.1 h];simp
 enc_len _:=rfl
 n_pos:=Nat.zero_lt_one
 wide:=Qba
 wide_size h:=⟨Nat.le_trans (KL _) h,λa ha=>by
  obtain ⟨i,hi⟩:=List.mem_iff_getElem?.1 ha;exact GoE.wide_size (Nat.le_trans (KM hi) h)⟩
 vc_wide hc:=by
  obtain ⟨v,rfl,h⟩:=VC.one' hc;exact Lt h
 rd_vc h hw:=by
  have h:rdS _ _ _:=h;obtain ⟨oa,cap,rfl,_⟩:=id h;exact .cons (Qgx h hw) .nil
 vc_rd hc:=by
  obtain ⟨v,rfl,h⟩:=VC.one' hc;exact PC h
 own_oc h hw:=by
  have h:Qgm _ _ _ _:=h;obtain ⟨oa,cap,rfl,_⟩:=FX h;have:=OC.cons (PD h hw) .nil;rw[List.append_nil] at this;exact this
 oc_own hc hn:=by
  obtain ⟨v,rfl,h⟩:=OC.one' hc;exact PE h hn
def shC:PV->C:=YV .sh
def owC:Nat->List PV->List C
 | _, []=> []
 | k,.slc n l::r=> .slc (.own true k) n l::owC (k+1) r
 | k,.int a b::r=> .int a b::owC k r
 | k,.bool b::r=> .bool b::owC k r
 | k,.str b::r=> .str b::owC k r
 | k,.any::r=> .dead::owC k r
 | k,.raw v::r=> .raw v::owC k r
section
variable {X:Nat->Prop} {F:Nat->Prop} {w w':World} {L:Nat->List Nat}
theorem PF {J:Inj}:∀{vs:List Value} {ps:List PV},VC J.F w vs ps->All2 (CR J w) vs (ps.map shC)
 | _,_,.nil=> .nil
 | _,_,.cons h1 h2=> .cons (KN (J:=J) (tok:= .sh) (X:=J.F) (λ_ _ _ h=>h) h1) (PF h2)
theorem Qgy {J:Inj}:∀{ps:List PV} {vs:List Value},All2 (CR J w) vs (ps.map shC)->(∀p,p∈ps->p≠ .any)->VC J.F w vs ps
 | [],vs,h,_=>by cases h;exact .nil
 | p ::ps,vs,h,hz=>by
   cases h with
   | cons h1 h2=>
     refine .cons ?_ (Qgy h2 λp hp=>hz p (List.mem_cons_of_mem _ hp));cases p with
     | int=>obtain ⟨rfl,h⟩:=h1;exact .int h
     | bool=>obtain rfl:=h1;exact .bool _
     | str=>obtain ⟨rfl,h⟩:=h1;exact .str h
     | slc n l=>exact h1
     | any=>exact (hz _ List.mem_cons_self rfl).elim
     | raw=>obtain ⟨rfl,h1,h2⟩:=h1;exact .raw h1 h2
end
section
variable {α:Type} [GoE α] {P:Program}
def B7 (a:α):AV:= .agg ((enc a).map shC)
def YU (a:α):AV:= .agg (owC 0 (enc a))
def GN (l:List α):AV:= .one (.slc .sh (GoD.n α) (eL l))
def DM (l:List α):AV:= .one (.slc (.own true 0) (GoD.n α) (eL l))
def DN (n:Int):AV:= .one (.int .i64 n)
def Qix (s:ByteArray):AV:= .one (.str s)
def Qbb (b:Bool):AV:= .one (.bool b)
theorem Qe2 {w:World} {cs:List Value} {a:α} (h:rd w cs a) (hw:wide a):AR (Td λb=>b<w.heap.size) w (.agg cs.toArray) (B7 a):=⟨cs,rfl,PF (J:=Td λb=>b<w.heap.size) (GoE.rd_vc h hw)⟩
theorem Qe3 {w:World} {F:Nat->Prop} {n:Int} (h:I64 n):AR (Td F) w (.int .i64 n) (DN n):=⟨rfl,(U2 n).2 h⟩
theorem Qe4 {w:World} {F:Nat->Prop} {s:ByteArray} (h:s.size<=maxLen):AR (Td F) w (.string s) (Qix s):=⟨rfl,h⟩
theorem ACalls.run {f:Nat} {args:List AV} {r:AV} (h:ACalls P f args r) {w:World} [hg:Good P w] {vals:List Value} (hv:All2 (AR (Td λb=>b<w.heap.size) w) vals args):Calls P f vals.toArray w (Qem (λb=>b<w.heap.size) w r):=
 h.2 w hg _ vals (λ_ h=>h) hv
theorem Qbc {w:World} {F:Nat->Prop} {b:Bool} {e:Ending} {w':World} (h:Qem F w (Qbb b) e w'):Ret w (.bool b) e w':=by
 obtain ⟨v,L,rfl,hb,_,_,_,rfl⟩:=h;exact ⟨rfl,hb⟩
end
end
section
open Go.RowKit
open GoE (enc)
section
variable {A:Nat->List AV->AV->Prop} {T:TakeT}
theorem Lu {P:Program} {w0:Base} [GoodAt P w0] {f:Nat} {args:List AV} {r:AV} (h:ACalls P f args r):(Ob.call f args r).holds (Yu P w0) T:=h.at
theorem R9 {P:Program} {w0:Base} [GoodAt P w0] {f n:Nat} {l:List (List PV)} {args:List AV} {mix turn:Bool} {l':List (List PV)} (h:ATake P f n l args mix turn l'):(Ob.take f n l args mix turn l').holds A (K4 P w0):=h.at
theorem Qgz {a b:AV} (h:a=b):(Ob.eq a b).holds A T:=h
theorem Ns {lo hi:Int} {n:Nat} (h:0<=lo/\lo<=hi/\hi<=n):(Ob.rng lo hi n).holds A T:=h
theorem Pn {i:Int} {n:Nat} (h:0<=i/\i<n):(Ob.idx i n).holds A T:=h
theorem U5 {l:List (List PV)} (h:Dq l):(Ob.flat l).holds A T:=h
theorem Ft {n:Nat} (h:n<=1073741824):(Ob.len n).holds A T:=h
end
theorem Qq (k:Nat) (h:k<9223372036854775807):IntKind.i64.wrap ((k:Int)+1)=((k+1:Nat):Int):=by
 rw[IntWalk.i64_in _ (by omega)];rfl
theorem Xs {α:Type} {l:List α} {i:Nat} (h:i<l.length):∃x,l[i]? =some x:=⟨l[i],List.getElem?_eq_getElem h⟩
class FlatE (α:Type) [GoE α]:Prop where
 flat:∀a:α,∀p,p∈enc a->p.flat
instance:FlatE Int:=⟨λa p hp=>by obtain rfl:=List.mem_singleton.1 hp;trivial⟩
instance:FlatE Bool:=⟨λa p hp=>by obtain rfl:=List.mem_singleton.1 hp;trivial⟩
instance:FlatE ByteArray:=⟨λa p hp=>by obtain rfl:=List.mem_singleton.1 hp;trivial⟩
instance {α β:Type} [GoE α] [GoE β] [FlatE α] [FlatE β]:FlatE (α×β):=⟨λa p hp=>(List.mem_append.1 hp).elim (FlatE.flat a.1 p) (FlatE.flat a.2 p)⟩
theorem Up {α:Type} [GoE α] [FlatE α] (l:List α):Dq (eL l):=λr hr p hp=>by
 obtain ⟨a,_,rfl⟩:=List.mem_map.1 hr;exact FlatE.flat a p hp
section
variable {P:Program} {α β:Type} [GoE α] [GoE β]
theorem E5 {f:Nat} (hok:Ee P f) {l:List α} {r:List β} (h:∀w v,GoD.rd w [v] l->GoE.wide l->Calls P f #[v] w (RetS w r)) (hw:GoE.wide l->GoE.wide r):ACalls P f [GN l] (DM r):=by
 refine ⟨hok,λw _ F vals hF hall=> ?_⟩;cases hall with
 | cons h1 h2=>
   cases h2
   refine (h w _ (PC h1) (Lt h1)).mono ?_
   rintro e w' ⟨v,L,rfl,hb,ho,hL⟩
   have hlt:=GoD.own_lt ho
   have hmem:∀k b,b∈(if k=0 then L else [])->k=0/\b∈L:=λk b hm=>by
    by_cases hk:k=0
    . rw[if_pos hk] at hm;exact ⟨hk,hm⟩
    rw[if_neg hk] at hm;simp at hm
   refine ⟨v,λk=>if k=0 then L else [],rfl,hb,λk=> ?_,λk b hm=>⟨hL b (hmem k b hm).2,hlt b (hmem k b hm).2⟩,λk k' b hm hm'=>(hmem k b hm).1.trans (hmem k' b hm').1.symm,OwnDeep.of (PD ho (hw (Lt h1))) (GoD.own_nd ho)⟩;by_cases hk:k=0
   . simp only[if_pos hk];exact GoD.own_nd ho
   simp only[if_neg hk];exact List.nodup_nil
end
theorem DO {P:Program} {N:Nat} {w0:Base} {F0:Nat->Prop} {Q:Exit->St->Prop} {s s':St} {c:Code} (l:List Nat) (he:s.demotes l=s') (h:AWP P N w0 F0 c Q s'):AWP P N w0 F0 c Q s:=Ik (he▸Lr l s) h
theorem Zv {α:Type} [GoE α] {o:Nat} {ps:List PV} {y:α}:∀{l:List α} {i:Nat} {x:α},l[i]? =some x->(GoE.enc x).take o++ps++(GoE.enc x).drop (o+ps.length)=GoE.enc y->setRow (eL l) i o ps=eL (l.set i y)
 | [],i,x,h,_=>by simp at h
 | a::l,0,x,h,e=>by
   obtain rfl:a=x:=by simpa using h
   show ((GoE.enc a).take o++ps++(GoE.enc a).drop (o+ps.length))::eL l=_;rw[e];rfl
 | a::l,i+1,x,h,e=>by
   show GoE.enc a::setRow (eL l) i o ps=_;rw[Zv (l:=l) (i:=i) (x:=x) (by simpa using h) e];rfl
end
section
open Go.RowKit
def Gu:List Operand->List Nat
 | []=> []
 | .tmp t::r=>t::Gu r
 | _::r=>Gu r
def VB (ops:List Oper) (o:Oper):List Nat:=
 Gu o.op.operands.toList++(match o.guard with
  | some (j,_)=>(match ops[j]? with
    | some oj=>(match oj.dst with
      | some t=> [t]
      | none=> [])
    | none=> [])
  | none=> [])
def Wa:List (Nat×Option Tok)->List Nat
 | []=> []
 | p::r=>p.1::Wa r
def CP:List (Nat×Option Tok)->List Tok
 | []=> []
 | (_,some t)::r=>t::CP r
 | _::r=>CP r
def VD:Tok->Tok->Bool
 | .sh,.sh=>true
 | .emp,.emp=>true
 | .own d k,.own d' k'=>(match d,d' with
   | true,true=>true
   | false,false=>true
   | _,_=>false)&&Nat.beq k k'
 | .vw k,.vw k'=>Nat.beq k k'
 | _,_=>false
def S1:Tok->Bool
 | .put _ _ _ _ _=>false
 | _=>true
def Lg:List (Nat×Option Tok)->Bool
 | []=>true
 | (_,some t)::r=>S1 t&&Lg r
 | (_,none)::r=>Lg r
def QT (t:Tok):List Tok->Bool
 | []=>false
 | x::r=>VD x t|| QT t r
def LZ (r:Res) (c:C):Bool:=
 (match c.key with
  | some k=> !(Lk k (Wa r.rl))
  | none=>true)&&(match r.kb with
  | some b=> !(Lk b c.bkeys)
  | none=>true)
def Qe5 (r:Res) (c:C):Bool:=
 Lg r.rl&&match c with
 | .dead=>false
 | .slc t _ _=> !(QT t (CP r.rl))
 | .rptr t _=> !(QT t (CP r.rl))
 | _=>true
def Qdl (r:Res):Bool:=match r.rl,r.kb with
 | [],none=>true
 | _,_=>false
def Qaj (r:Res) (c:C):Bool:=Qdl r|| Qe5 r c
def F6:List (Nat×List C)->List C
 | []=> []
 | p::r=>p.2++F6 r
def Lw:List Tok->List Nat
 | []=> []
 | t::r=>(match t.key with
   | some k=> [k]
   | none=> [])++Lw r
def MA (a b:Option Nat):Bool:=match a,b with
 | some x,some y=> !(Nat.beq x y)
 | _,_=>true
def Ds (a:Option Nat) (l:List Nat):Bool:=match a with
 | some x=> !(Lk x l)
 | none=>true
def Ly (r:Res):Option Nat:=match r.bx with
 | some p=>some p.1
 | none=>none
def VE (r:Res):List C:=match r.bx with
 | some p=>p.2
 | none=> []
def PG (ops:List Oper) (oa:Oper) (ra:Rec) (ob:Oper) (rb:Rec):Bool:=
 MA oa.dst ob.dst&&Ds oa.dst (VB ops ob)&&Ds ob.dst (VB ops oa)&&
 H4 (Qaj ra.res) (X4 rb.avs)&&H4 (Qaj ra.res) (F6 rb.bn)&&H4 (LZ rb.res) (X4 ra.avs)&&H4 (LZ rb.res) (F6 ra.bn)&&
 H4 (LZ ra.res) rb.res.av.cells&&H4 (LZ ra.res) (VE rb.res)&&H4 (LZ rb.res) ra.res.av.cells&&H4 (LZ rb.res) (VE ra.res)&&
 Ih (Wa ra.res.rl) (Wa rb.res.rl++Lw (CP rb.res.rl))&&Ih (Wa rb.res.rl) (Lw (CP ra.res.rl))&&
 MA (Ly ra.res) (Ly rb.res)&&Ds (Ly ra.res) (Lq (X4 rb.avs))&&Ds (Ly rb.res) (Lq (X4 ra.avs))&&Lg ra.res.rl&&Lg rb.res.rl
section
theorem AV.map_map (f g:C->C) (v:AV):(v.map f).map g=v.map (g ∘ f):=by
 cases v<;>simp[AV.map,Function.comp_def]
theorem AV.map_id' {f:C->C} {v:AV} (h:∀c,c∈v.cells->f c=c):v.map f=v:=by
 cases v with
 | one c=>simp[AV.map,h c (by simp[AV.cells])]
 | agg cs=>
   simp only[AV.map]
   congr 1
   exact (List.map_congr_left λc hc=>h c hc).trans (List.map_id' cs)
 | tup l=>
   simp only[AV.map]
   congr 1
   refine (List.map_congr_left λp hp=> ?_).trans (List.map_id' l);obtain ⟨a,cs⟩:=p;have:cs.map f=cs:=(List.map_congr_left λc hc=>h c (by simp only[AV.cells,List.mem_flatMap];exact ⟨_,hp,hc⟩)).trans (List.map_id' cs);simp[this]
theorem AV.map_inj' {f:C->C} {v u:AV} (h:v.map f=u) (hn:∀c0 c,f c0=c->c∈u.cells->c0=c):v=u:=by
 have key:∀(l m:List C),l.map f=m->(∀c,c∈m->c∈u.cells)->l=m:=by
  intro l
  induction l with
  | nil=>intro m h _;exact h
  | cons c l ih=>
    intro m h hm;cases m with
    | nil=>cases h
    | cons d m=>
      simp only[List.map_cons,List.cons.injEq] at h;rw[hn c d h.1 (hm d (by simp)),ih m h.2 λc hc=>hm c (by simp[hc])]
 cases v with
 | one c=>
   simp only[AV.map] at h;subst h;exact congrArg AV.one (hn c _ rfl (by simp[AV.cells]))
 | agg cs=>
   simp only[AV.map] at h;subst h;exact congrArg AV.agg (key cs _ rfl λc hc=>hc)
 | tup l=>
   simp only[AV.map] at h;subst h
   congr 1
   have :∀(ps:List (Bool×List C)),(∀p,p∈ps->p∈l)->ps=ps.map λp=>(p.1,p.2.map f):=by
    intro ps
    induction ps with
    | nil=>intro _;rfl
    | cons p ps ih=>
      intro hp;obtain ⟨a,cs⟩:=p;simp only[List.map_cons];rw[←ih λp hq=>hp p (by simp[hq])]
      congr 2
      exact key cs _ rfl λc hc=>by
       simp only[AV.cells,List.mem_flatMap,List.mem_map];exact ⟨(a,cs.map f),⟨(a,cs),hp _ (by simp),rfl⟩,hc⟩
   exact this l λp hp=>hp
theorem B8 {rl:List (Nat×Option Tok)} {k:Nat}:k∉Wa rl->get rl k=none:=by
 induction rl with
 | nil=>intro _;rfl
 | cons p r ih=>
   intro h;simp only[Wa,List.mem_cons,not_or] at h;obtain ⟨a,b⟩:=p;simp only[get];rw[if_neg λe=>h.1 e.symm];exact ih h.2
theorem To {rl:List (Nat×Option Tok)} {k:Nat} {t:Tok}:get rl k=some (some t)->t∈CP rl/\k∈Wa rl:=by
 induction rl with
 | nil=>intro h;cases h
 | cons p r ih=>
   intro h;obtain ⟨a,b⟩:=p;simp only[get] at h;split at h
   . rename_i e;obtain rfl:=Option.some.inj h;exact ⟨by simp[CP],by simp[Wa,e]⟩
   obtain ⟨h1,h2⟩:=ih h;refine ⟨?_,by simp[Wa,h2]⟩;cases b<;>simp[CP,h1]
theorem AC (t:Tok) (ht:S1 t=true):VD t t=true:=by
 cases t with
 | own d k=>cases d<;>simp[VD]
 | put=>cases ht
 | _=>simp[VD]
theorem Sa {t:Tok} (ht:S1 t=true):∀{l:List Tok},t∈l->QT t l=true
 | x::r,h=>by
   rcases List.mem_cons.1 h with rfl | h
   . simp[QT,AC t ht]
   simp[QT,Sa ht h]
theorem Lz {rl:List (Nat×Option Tok)} {k:Nat} {t:Tok} (hp:Lg rl=true):get rl k=some (some t)->S1 t=true:=by
 induction rl with
 | nil=>intro h;cases h
 | cons p r ih=>
   intro h;obtain ⟨a,b⟩:=p
   have hr:Lg r=true/\(∀t,b=some t->S1 t=true):=by
    cases b with
    | none=>exact ⟨hp,λt e=>by cases e⟩
    | some t=>simp only[Lg,Bool.and_eq_true] at hp;exact ⟨hp.2,λt' e=>by cases e;exact hp.1⟩
   simp only[get] at h;split at h
   . exact hr.2 t (Option.some.inj h)
   exact ih hr.1 h
theorem QU (t:Tok) (n:Nat) (l:List (List PV)):T3 t n l t= .slc t n l:=by cases t<;>rfl
theorem ZX (t:Tok) (cs:List PV):CU t cs t= .rptr t cs:=by cases t<;>rfl
theorem MB {t':Tok} (h:S1 t'=true) (t:Tok) (n:Nat) (l:List (List PV)):T3 t n l t'= .slc t' n l:=by cases t'<;>first | rfl | cases h
theorem PH {t':Tok} (h:S1 t'=true) (t:Tok) (cs:List PV):CU t cs t'= .rptr t' cs:=by cases t'<;>first | rfl | cases h
theorem ZY {rl:List (Nat×Option Tok)} (hp:Lg rl=true) {t t':Tok} (h:D7 rl t=some t'):t'=t\/S1 t'=true:=by
 unfold D7 at h;split at h
 . exact .inl (Option.some.inj h).symm
 split at h
 . exact .inl (Option.some.inj h).symm
 rename_i x hg;subst h;exact .inr (Lz hp hg)
theorem Sb {rl:List (Nat×Option Tok)} (hp:Lg rl=true) {t t':Tok} (h:D7 rl t=some t') (n:Nat) (l:List (List PV)):T3 t n l t'= .slc t' n l:=by
 rcases ZY hp h with rfl | h
 . exact QU _ n l
 exact MB h t n l
theorem QV {rl:List (Nat×Option Tok)} (hp:Lg rl=true) {t t':Tok} (h:D7 rl t=some t') (cs:List PV):CU t cs t'= .rptr t' cs:=by
 rcases ZY hp h with rfl | h
 . exact ZX _ cs
 exact PH h t cs
theorem Sc {t:Tok} {k:Nat} (hk:t.key=some k):∀{l:List Tok},t∈l->k∈Lw l
 | x::r,h=>by
   simp only[Lw];rcases List.mem_cons.1 h with rfl | h
   . exact List.mem_append_left _ (by rw[hk];simp)
   exact List.mem_append_right _ (Sc hk h)
theorem Aj {k:Nat} {l:List Nat} (h:Lk k l=false):k∉l:=λhm=>by rw[Ai.2 hm] at h;cases h
theorem ZZ {b:Nat}:∀{caps:List (Nat×Nat)},b∉caps.map (·.1)->Gp b caps=false
 | [],_=>rfl
 | c::r,h=>by
   simp only[List.map_cons,List.mem_cons,not_or] at h;simp only[Gp,Bool.or_eq_false_iff];exact ⟨ZS λe=>h.1 e.symm,ZZ h.2⟩
theorem PI {r:Res} {c:C} (h:LZ r c=true):Vp r.rl r.kb c=c:=by
 simp only[LZ,Bool.and_eq_true] at h;obtain ⟨h1,h2⟩:=h
 have hT:∀t:Tok,(match t.key with | some k=> !(Lk k (Wa r.rl)) | none=>true)=true->D7 r.rl t=some t:=by
  intro t ht;unfold D7;cases hk:t.key with
  | none=>rfl
  | some k=>
    rw[hk] at ht;simp only[Bool.not_eq_true'] at ht;simp only[B8 (Aj ht)]
 cases c with
 | slc t n l=>simp only[Vp,hT t h1,QU]
 | rptr t cs=>simp only[Vp,hT t h1,ZX]
 | ept d k n i o cs=>
   have hk:get r.rl k=none:=B8 (Aj (by simpa [C.key] using h1));simp only[Vp,hk]
 | ptr k off=>
   cases hb:r.kb with
   | none=>rfl
   | some b=>
     rw[hb] at h2;simp only[Bool.not_eq_true',C.bkeys] at h2;have:=Aj h2;simp only[Vp,ZS (a:=k) (b:=b) λe=>this (by simp[e]),cond_false]
 | fn f caps=>
   cases hb:r.kb with
   | none=>rfl
   | some b=>
     rw[hb] at h2;simp only[Bool.not_eq_true',C.bkeys] at h2;simp only[Vp,ZZ (Aj h2),cond_false]
 | _=>rfl
theorem Qbd {r:Res} {c0 c:C} (h:Vp r.rl r.kb c0=c) (hn:Qe5 r c=true):c0=c:=by
 simp only[Qe5,Bool.and_eq_true] at hn;obtain ⟨hp,hn⟩:=hn
 have hT:∀t t':Tok,D7 r.rl t=some t'->QT t' (CP r.rl)=false->t=t':=by
  intro t t' ht hm;unfold D7 at ht;cases hk:t.key with
  | none=>rw[hk] at ht;exact Option.some.inj ht
  | some k=>
    rw[hk] at ht;simp only[] at ht;cases hg:get r.rl k with
    | none=>rw[hg] at ht;exact Option.some.inj ht
    | some x=>
      rw[hg] at ht;simp only[] at ht;subst ht;rw[Sa (Lz hp hg) (To hg).1] at hm;cases hm
 cases c0 with
 | slc t n l=>
   simp only[Vp] at h;split at h
   . rename_i t' ht;rw[Sb hp ht] at h;subst h;simp only[Bool.not_eq_true'] at hn;rw[hT t t' ht hn]
   subst h;cases hn
 | rptr t cs=>
   simp only[Vp] at h;split at h
   . rename_i t' ht;rw[QV hp ht] at h;subst h;simp only[Bool.not_eq_true'] at hn;rw[hT t t' ht hn]
   subst h;cases hn
 | ept d k n i o cs=>
   simp only[Vp] at h;split at h
   . exact h
   . rename_i t' hg;have hm:=Sa (Lz hp hg) (To hg).1;split at h
     . subst h;simp[hm] at hn
     . subst h;simp[hm] at hn
     . cases Lz hp hg
     subst h;cases hn
   subst h;cases hn
 | ptr k off=>
   simp only[Vp] at h;split at h
   . exact h
   rename_i b hb;cases hkb:Nat.beq k b with
   | true=>rw[hkb] at h;subst h;cases hn
   | false=>rw[hkb] at h;exact h
 | fn f caps=>
   simp only[Vp] at h;split at h
   . exact h
   rename_i b hb;cases hkb:Gp b caps with
   | true=>rw[hkb] at h;subst h;cases hn
   | false=>rw[hkb] at h;exact h
 | _=>exact h
theorem Oa:Vp [] none=id:=by
 funext c
 cases c with
 | slc t n l=>cases t<;>rfl
 | rptr t cs=>cases t<;>rfl
 | _=>rfl
theorem PJ {r:Res} {c0 c:C} (h:Vp r.rl r.kb c0=c) (hn:Qaj r c=true):c0=c:=by
 simp only[Qaj,Bool.or_eq_true] at hn;rcases hn with hq | hn
 . have e:Vp r.rl r.kb=id:=by
    unfold Qdl at hq;split at hq
    . rename_i e1 e2;rw[e1,e2,Oa]
    cases hq
   rw[e] at h;exact h
 exact Qbd h hn
theorem PK {ra rb:Res} (h1:Ih (Wa ra.rl) (Wa rb.rl++Lw (CP rb.rl))=true) (h2:Ih (Wa rb.rl) (Lw (CP ra.rl))=true) (p1:Lg ra.rl=true) (p2:Lg rb.rl=true) (c:C):Vp rb.rl rb.kb (Vp ra.rl ra.kb c)=Vp ra.rl ra.kb (Vp rb.rl rb.kb c):=by
 have hT :∀t:Tok,(D7 ra.rl t).bind (D7 rb.rl)=(D7 rb.rl t).bind (D7 ra.rl):=by
  have gen:∀(r r':Res),Ih (Wa r.rl) (Wa r'.rl)=true->Ih (Wa r'.rl) (Lw (CP r.rl))=true->∀(t:Tok) (k:Nat) (x:Option Tok),t.key=some k->get r.rl k=some x->(D7 r.rl t).bind (D7 r'.rl)=(D7 r'.rl t).bind (D7 r.rl):=by
   intro r r' d1 d2 t k x hk hx;have hka:k∈Wa r.rl:=Classical.byContradiction λhn=>by rw[B8 hn] at hx;cases hx
   have hkb:get r'.rl k=none:=B8 (Cn d1 k hka);have e1:D7 r.rl t=x:=by unfold D7;rw[hk];simp only[hx]
   have e2:D7 r'.rl t=some t:=by unfold D7;rw[hk];simp only[hkb]
   rw[e1,e2];simp only[Option.bind_some,e1];cases x with
   | none=>rfl
   | some t'=>
     simp only[Option.bind_some];unfold D7;cases hk':t'.key with
     | none=>rfl
     | some k'=>
       have hm:=Sc hk' (To hx).1;have hn:k'∉Wa r'.rl:=λh=>Cn d2 k' h hm
       simp only[B8 hn]
  have d11:Ih (Wa ra.rl) (Wa rb.rl)=true:=by
   revert h1;generalize Wa ra.rl=l
   induction l with
   | nil=>intro _;rfl
   | cons x l ih=>
     intro h;simp only[Ih,Bool.and_eq_true,Bool.not_eq_true'] at h⊢;refine ⟨?_,ih h.2⟩;cases hm:Lk x (Wa rb.rl) with
     | false=>rfl
     | true=>exact absurd (List.mem_append_left _ (Ai.1 hm)) (Aj h.1)
  have d12:Ih (Wa ra.rl) (Lw (CP rb.rl))=true:=by
   revert h1;generalize Wa ra.rl=l
   induction l with
   | nil=>intro _;rfl
   | cons x l ih=>
     intro h;simp only[Ih,Bool.and_eq_true,Bool.not_eq_true'] at h⊢;refine ⟨?_,ih h.2⟩;cases hm:Lk x (Lw (CP rb.rl)) with
     | false=>rfl
     | true=>exact absurd (List.mem_append_right _ (Ai.1 hm)) (Aj h.1)
  have d21:Ih (Wa rb.rl) (Wa ra.rl)=true:=by
   have hx:∀x,x∈Wa rb.rl->x∉Wa ra.rl:=λx hb ha=>Cn d11 x ha hb
   revert hx;generalize Wa rb.rl=l
   induction l with
   | nil=>intro _;rfl
   | cons x l ih=>
     intro hx;simp only[Ih,Bool.and_eq_true,Bool.not_eq_true'];refine ⟨?_,ih λy hy=>hx y (by simp[hy])⟩;cases hm:Lk x (Wa ra.rl) with
     | false=>rfl
     | true=>exact absurd (Ai.1 hm) (hx x (by simp))
  intro t;cases hk:t.key with
  | none=>
    have e1:D7 ra.rl t=some t:=by unfold D7;rw[hk]
    have e2:D7 rb.rl t=some t:=by unfold D7;rw[hk]
    rw[e1,e2];simp[e1,e2]
  | some k=>
    cases ha:get ra.rl k with
    | some x=>exact gen ra rb d11 h2 t k x hk ha
    | none=>
      cases hb:get rb.rl k with
      | some x=>exact (gen rb ra d21 d12 t k x hk hb).symm
      | none=>
        have e1:D7 ra.rl t=some t:=by unfold D7;rw[hk];simp only[ha]
        have e2:D7 rb.rl t=some t:=by unfold D7;rw[hk];simp only[hb]
        rw[e1,e2];simp[e1,e2]
 have hs:∀(x y:List (Nat×Option Tok)),Lg x=true->Lg y=true->∀(kx ky:Option Nat) (t:Tok) (n:Nat) (l:List (List PV)),Vp y ky (Vp x kx (.slc t n l))=(match (D7 x t).bind (D7 y) with | some t'=> .slc t' n l | none=> .dead):=by
  intro x y px py kx ky t n l;simp only[Vp];cases hx:D7 x t with
  | none=>rfl
  | some t'=>
    simp only[Sb px hx,Option.bind_some];cases hy:D7 y t' with
    | none=>simp only[hy]
    | some t2=>simp only[hy,Sb py hy]
 have hp:∀(x y:List (Nat×Option Tok)),Lg x=true->Lg y=true->∀(kx ky:Option Nat) (t:Tok) (cs:List PV),Vp y ky (Vp x kx (.rptr t cs))=(match (D7 x t).bind (D7 y) with | some t'=> .rptr t' cs | none=> .dead):=by
  intro x y px py kx ky t cs;simp only[Vp];cases hx:D7 x t with
  | none=>rfl
  | some t'=>
    simp only[QV px hx,Option.bind_some];cases hy:D7 y t' with
    | none=>simp only[hy]
    | some t2=>simp only[hy,QV py hy]
 have he :∀(r r':Res),Lg r.rl=true->(∀x,x∈Wa r'.rl->x∉Lw (CP r.rl))->∀(d:Bool) (k n i o:Nat) (cs:List PV),get r'.rl k=none->Vp r'.rl r'.kb (Vp r.rl r.kb (.ept d k n i o cs))=Vp r.rl r.kb (Vp r'.rl r'.kb (.ept d k n i o cs)):=by
  intro r r' hnp dd d k n i o cs hg;have e1:Vp r'.rl r'.kb (.ept d k n i o cs)= .ept d k n i o cs:=by simp only[Vp,hg]
  rw[e1];have key:∀y,Vp r.rl r.kb (.ept d k n i o cs)=y->Vp r'.rl r'.kb y=y->Vp r'.rl r'.kb (Vp r.rl r.kb (.ept d k n i o cs))=Vp r.rl r.kb (.ept d k n i o cs):=λy h1 h2=>by rw[h1,h2]
  cases hx:get r.rl k with
  | none=>exact key _ (by simp only[Vp,hx]) e1
  | some x=>
    cases x with
    | none=>exact key .dead (by simp only[Vp,hx]) rfl
    | some t'=>
      cases t' with
      | sh=>exact key (.rptr .sh cs) (by simp only[Vp,hx]) rfl
      | vw k'=>
        have hm:=Sc (t:= .vw k') rfl (To hx).1;have hn:get r'.rl k'=none:=B8 λh=>dd k' h hm
        exact key (.rptr (.vw k') cs) (by simp only[Vp,hx]) (by simp only[Vp,D7,Tok.key,hn,CU])
      | put=>cases Lz hnp hx
      | emp | own=>exact key .dead (by simp only[Vp,hx]) rfl
 cases c with
 | slc t n l=>rw[hs _ _ p1 p2,hs _ _ p2 p1,hT]
 | rptr t cs=>rw[hp _ _ p1 p2,hp _ _ p2 p1,hT]
 | ept d k n i o cs=>
   cases hg:get rb.rl k with
   | none=>exact he ra rb p1 (λx hx=>Cn h2 x hx) d k n i o cs hg
   | some x=>
     have hkb:k∈Wa rb.rl:=Classical.byContradiction λhn=>by rw[B8 hn] at hg;cases hg
     have hga:get ra.rl k=none:=B8 λha=>Cn h1 k ha (List.mem_append_left _ hkb)
     exact (he rb ra p2 (λx hx hm=>Cn h1 x hx (List.mem_append_right _ hm)) d k n i o cs hga).symm
 | ptr k off=>
   cases ra.kb with
   | none=>cases rb.kb with
     | none=>rfl
     | some y=>simp only[Vp];cases h1:Nat.beq k y<;>simp[Vp]
   | some x=>
     cases rb.kb with
     | none=>simp only[Vp];cases h1:Nat.beq k x<;>simp[Vp]
     | some y=>simp only[Vp];cases h1:Nat.beq k x<;>cases h2:Nat.beq k y<;>simp[Vp,h1,h2]
 | fn f caps=>
   cases ra.kb with
   | none=>cases rb.kb with
     | none=>rfl
     | some y=>simp only[Vp];cases h1:Gp y caps<;>simp[Vp]
   | some x=>
     cases rb.kb with
     | none=>simp only[Vp];cases h1:Gp x caps<;>simp[Vp]
     | some y=>simp only[Vp];cases h1:Gp x caps<;>cases h2:Gp y caps<;>simp[Vp,h1,h2]
 | _=>rfl
def M (r:Res) (v:AV):AV:=v.map (Vp r.rl r.kb)
def ML (r:Res) (l:List C):List C:=l.map (Vp r.rl r.kb)
theorem Bv (s:St) (dst:Option Nat) (r:Res) (t:Nat):get (s.step dst r).tm t=if dst=some t then some r.av else (get s.tm t).map (M r):=by
 have h:get (match r.rl,r.kb with | [],none=>s | rl,kb=>s.map (Vp rl kb)).tm t=(get s.tm t).map (M r):=by
  unfold M;split
  . rename_i e1 e2;rw[e1,e2,Oa];cases get s.tm t with
    | none=>rfl
    | some v=>rw[Option.map_some,AV.map_id' (f:=id) λc _=>rfl]
  simp only[St.map,Ck (AV.map _)]
 cases dst with
 | none=>simp only[St.step];rw[if_neg (by simp)];exact h
 | some d=>
   simp only[St.step,Ib,Option.some.injEq];split
   . rfl
   exact h
theorem Im (s:St) (dst:Option Nat) (r:Res) (k:Nat):get (s.step dst r).bx k=if Ly r=some k then some (VE r) else (get s.bx k).map (ML r):=by
 have h:get (match r.rl,r.kb with | [],none=>s | rl,kb=>s.map (Vp rl kb)).bx k=(get s.bx k).map (ML r):=by
  unfold ML;split
  . rename_i e1 e2;rw[e1,e2,Oa];cases get s.bx k<;>simp
  simp only[St.map,Ck (List.map _)]
 unfold Ly VE;simp only[St.step];cases r.bx with
 | none=>simp only[];rw[if_neg (by simp)];exact h
 | some p=>
   obtain ⟨x,y⟩:=p;simp only[Ib,Option.some.injEq];split
   . rfl
   exact h
section
variable {tt:List (Nat×TI)} {N:Nat} {orc:Orc} {ops:List Oper}
structure SameLooks (ops:List Oper) (o:Oper) (s t:St):Prop where
 tm:∀x,x∈VB ops o->get s.tm x=get t.tm x
 bx:∀vs,Df s o.op.operands.toList=some vs->∀k,k∈Lq (X4 vs)->get s.bx k=get t.bx k
theorem JA {s t:St}:∀{xs:List Operand},(∀x,x∈Gu xs->get s.tm x=get t.tm x)->Df s xs=Df t xs
 | [],_=>rfl
 | x ::r,h=>by
   have h2:Df s r=Df t r:=JA λy hy=>h y (by cases x<;>simp[Gu,hy])
   have h1:YT s x=YT t x:=by
    cases x with
    | tmp y=>exact h y (by simp[Gu])
    | _=>rfl
   simp only[Df,h1,h2]
theorem L3 {s t:St}:∀{ks:List Nat},(∀k,k∈ks->get s.bx k=get t.bx k)->Uo s ks=Uo t ks
 | [],_=>rfl
 | k::r,h=>by simp only[Uo,h k (by simp),L3 (ks:=r) λx hx=>h x (by simp[hx])]
theorem JB {o:Oper} {s t:St} (h:SameLooks ops o s t):Co tt N orc ops s o=Co tt N orc ops t o:=by
 have h1:Df s o.op.operands.toList=Df t o.op.operands.toList:=JA λx hx=>h.tm x (List.mem_append_left _ hx)
 have h2:A3 ops s o=A3 ops t o:=by
  unfold A3;cases hg:o.guard with
  | none=>rfl
  | some g=>
    obtain ⟨j,want⟩:=g;simp only[];cases hj:ops[j]? with
    | none=>rfl
    | some oj=>
      simp only[];cases hd:oj.dst with
      | none=>rfl
      | some x=>simp only[h.tm x (List.mem_append_right _ (by simp[hg,hj,hd]))]
 unfold Co;rw[h2,h1];cases hv:Df t o.op.operands.toList with
 | none=>rfl
 | some vs=>simp only[L3 (h.bx vs (h1.trans hv))]
theorem Oc {s:St} {k:Nat} {cs:List C}:∀{ks:List Nat},k∈ks->get s.bx k=some cs->∀c,c∈cs->c∈F6 (Uo s ks)
 | x::r,hk,hg,c,hc=>by
   simp only[Uo];rcases List.mem_cons.1 hk with rfl | hk
   . rw[hg];simp[F6,hc]
   have:=Oc hk hg c hc;split
   . simp[F6,this]
   exact this
theorem GO {o:Oper} {s t:St} {ρ:Rec} (hg:A3 ops t o=A3 ops s o) (h:Co tt N orc ops s o=some ρ)
 (hk:∀vs,ρ.avs=vs->Df s o.op.operands.toList=some vs->ρ.bn=Uo s (Lq (X4 vs))->Df t o.op.operands.toList=some vs/\Uo t (Lq (X4 vs))=Uo s (Lq (X4 vs))):Co tt N orc ops t o=some ρ:=by
 unfold Co at h⊢;rw[hg];cases hd:YX N o.dst with
 | false=>rw[hd] at h;cases h
 | true =>
   rw[hd] at h;simp only[cond_true] at h⊢;split at h
   . split at h
     . rename_i vs hvs;split at h
       . rename_i r obs he;obtain rfl:=Option.some.inj h;obtain ⟨h1,h2⟩:=hk vs rfl hvs rfl;simp only[h1,h2,he]
       cases h
     cases h
   . exact h
   cases h
theorem PM {t t':Tok} {n:Nat} {l:List (List PV)} {b:Bool} (h:T3 t n l t'= .bool b):False:=by
 cases t' with
 | put d m i o cs=>
   cases t with
   | own d0 k=>
     simp only[T3] at h;cases hb:CT d0 d&&Nat.beq n m<;>rw[hb] at h<;>cases h
   | _=>cases h
 | _=>cases h
theorem Qbe {t t':Tok} {cs:List PV} {b:Bool} (h:CU t cs t'= .bool b):False:=by
 cases t' with
 | put=>cases t<;>cases h
 | _=>cases h
theorem PN {rl:List (Nat×Option Tok)} {kb:Option Nat} {c:C} {b:Bool}:Vp rl kb c= .bool b↔c= .bool b:=by
 constructor
 . intro h;cases c with
   | slc t n l=>
     simp only[Vp] at h;split at h
     . exact (PM h).elim
     cases h
   | rptr t cs=>
     simp only[Vp] at h;split at h
     . exact (Qbe h).elim
     cases h
   | ept d k n i o cs=>
     simp only[Vp] at h;split at h
     . cases h
     . split at h<;>cases h
     cases h
   | ptr k off=>
     simp only[Vp] at h;split at h
     . cases h
     rename_i x y;cases hk:Nat.beq k y<;>rw[hk] at h<;>cases h
   | fn f caps=>
     simp only[Vp] at h;split at h
     . cases h
     rename_i x y;cases hk:Gp y caps<;>rw[hk] at h<;>cases h
   | _=>exact h
 intro h;subst h;rfl
theorem JC {o :Oper} {s:St} {dst:Option Nat} {r:Res} (hd:∀x,x∈VB ops o->dst≠some x):A3 ops (s.step dst r) o=A3 ops s o:=by
 unfold A3;cases hg:o.guard with
 | none=>rfl
 | some g =>
   obtain ⟨j,want⟩:=g;simp only[];cases hj:ops[j]? with
   | none=>rfl
   | some oj =>
     simp only[];cases hdj:oj.dst with
     | none=>rfl
     | some x =>
       have hx:dst≠some x:=hd x (List.mem_append_right _ (by simp[hg,hj,hdj]));simp only[Bv,if_neg hx];cases hv:get s.tm x with
       | none=>rfl
       | some v=>
         simp only[Option.map_some];cases v with
         | one c=>
           simp only[M,AV.map];cases c with
           | bool b=>rfl
           | _=>
             generalize hc:Vp r.rl r.kb _=c';cases c' with
             | bool b=>exact absurd (PN.1 hc) (by simp)
             | _=>rfl
         | agg cs=>rfl
         | tup l=>cases l<;>rfl
theorem Qh8 {r:Res} {v:AV} (h:∀c,c∈v.cells->LZ r c=true):M r v=v:=AV.map_id' λc hc=>PI (h c hc)
theorem Qh9 {r:Res} {l:List C} (h:∀c,c∈l->LZ r c=true):ML r l=l:=(List.map_congr_left λc hc=>PI (h c hc)).trans (List.map_id' l)
theorem Qiy {r:Res} {v u:AV} (h:M r v=u) (hn:∀c,c∈u.cells->Qaj r c=true):v=u:=AV.map_inj' h λ_ c hc hm=>PJ hc (hn c hm)
theorem Qio {r:Res}:∀{l m:List C},ML r l=m->(∀c,c∈m->Qaj r c=true)->l=m
 | [],m,h,_=>h
 | c ::l,m,h,hn=>by
   cases m with
   | nil=>cases h
   | cons d m=>
     simp only[ML,List.map_cons,List.cons.injEq] at h;rw[PJ h.1 (hn d (by simp)),Qio (l:=l) h.2 λc hc=>hn c (by simp[hc])]
theorem Io {a:Option Nat} {l:List Nat} (h:Ds a l=true):∀x,x∈l->a≠some x:=λx hx e=>by
 subst e;simp only[Ds,Bool.not_eq_true'] at h;exact Aj h hx
theorem AD {o:Oper} {x:Nat} (h:x∈Gu o.op.operands.toList):x∈VB ops o:=List.mem_append_left _ h
theorem Qbf {o:Oper} {s:St} {dst:Option Nat} {r:Res} {ρ:Rec} (h:Co tt N orc ops (s.step dst r) o=some ρ) (hd:Ds dst (VB ops o)=true) (h1:H4 (Qaj r) (X4 ρ.avs)=true) (h2:H4 (Qaj r) (F6 ρ.bn)=true) (h3:Ds (Ly r) (Lq (X4 ρ.avs))=true):Co tt N orc ops s o=some ρ:=by
 have hd':=Io hd;refine GO (JC hd').symm h λvs hvs hop hbn=> ?_
 subst hvs;rw[hbn] at h2
 have hop':∀(xs:List Operand) (vs:List AV),(∀x,x∈Gu xs->dst≠some x)->(∀c,c∈X4 vs->Qaj r c=true)->Df (s.step dst r) xs=some vs->Df s xs=some vs:=by
  intro xs
  induction xs with
  | nil=>intro vs _ _ h;exact h
  | cons x xs ih=>
    intro vs hx hn h;simp only[Df] at h⊢;split at h
    . rename_i v vs' e1 e2;obtain rfl:=Option.some.inj h;have hxs:=ih vs' (λy hy=>hx y (by cases x<;>simp[Gu,hy])) (λc hc=>hn c (by simp only[X4];exact List.mem_append_right _ hc)) e2
      have h0:YT s x=some v:=by
       cases x with
       | tmp y=>
         have e1:get (s.step dst r).tm y=some v:=e1;rw[Bv,if_neg (hx y (by simp[Gu]))] at e1;obtain ⟨u,hu,hm⟩:=Option.map_eq_some_iff.1 e1;show get s.tm y=some v;rw[hu,Qiy hm λc hc=>hn c (by simp only[X4];exact List.mem_append_left _ hc)]
       | _=>exact e1
      simp only[h0,hxs]
    cases h
 have hv:=hop' _ _ (λx hx=>hd' x (AD hx)) (Hs h1) hop;refine ⟨hv, ?_⟩
 have : ∀ks:List Nat,(∀k,k∈ks->Ly r≠some k)->(∀c,c∈F6 (Uo (s.step dst r) ks)->Qaj r c=true)->Uo s ks=Uo (s.step dst r) ks:=by
  intro ks
  induction ks with
  | nil=>intro _ _;rfl
  | cons k ks ih=>
    intro hk hn;have e:get (s.step dst r).bx k=(get s.bx k).map (ML r):=by rw[Im,if_neg (hk k (by simp))]
    have hg:get s.bx k=get (s.step dst r).bx k:=by
     rw[e];cases hc:get s.bx k with
     | none=>rfl
     | some cs=>
       rw[hc] at e;simp only[Option.map_some] at e⊢;exact congrArg some (Qio (l:=cs) rfl λc hc'=>hn c (Oc (by simp) e c hc'))
    simp only[Uo,hg];split
    . rename_i cs hcs;rw[ih (λx hx=>hk x (by simp[hx])) λc hc=>hn c (by simp[Uo,hcs,F6,hc])]
    rename_i hcs;exact ih (λx hx=>hk x (by simp[hx])) λc hc=>hn c (by simp[Uo,hcs,hc])
 exact this _ (Io h3) (Hs h2)
theorem Qe6 {o:Oper} {s:St} {dst:Option Nat} {r:Res} {ρ:Rec} (h:Co tt N orc ops s o=some ρ) (hd:Ds dst (VB ops o)=true) (h1:H4 (LZ r) (X4 ρ.avs)=true) (h2:H4 (LZ r) (F6 ρ.bn)=true) (h3:Ds (Ly r) (Lq (X4 ρ.avs))=true):Co tt N orc ops (s.step dst r) o=some ρ:=by
 have hd':=Io hd;refine GO (JC hd') h λvs hvs hop hbn=> ?_
 subst hvs;rw[hbn] at h2
 have hop':∀(xs:List Operand) (vs:List AV),(∀x,x∈Gu xs->dst≠some x)->(∀c,c∈X4 vs->LZ r c=true)->Df s xs=some vs->Df (s.step dst r) xs=some vs:=by
  intro xs
  induction xs with
  | nil=>intro vs _ _ h;exact h
  | cons x xs ih=>
    intro vs hx hn h;simp only[Df] at h⊢;split at h
    . rename_i v vs' e1 e2;obtain rfl:=Option.some.inj h;have hxs:=ih vs' (λy hy=>hx y (by cases x<;>simp[Gu,hy])) (λc hc=>hn c (by simp only[X4];exact List.mem_append_right _ hc)) e2
      have h0:YT (s.step dst r) x=some v:=by
       cases x with
       | tmp y=>
         have e1:get s.tm y=some v:=e1;show get (s.step dst r).tm y=some v;rw[Bv,if_neg (hx y (by simp[Gu])),e1,Option.map_some,Qh8 λc hc=>hn c (by simp only[X4];exact List.mem_append_left _ hc)]
       | _=>exact e1
      simp only[h0,hxs]
    cases h
 refine ⟨hop' _ _ (λx hx=>hd' x (AD hx)) (Hs h1) hop,L3 λk hk=> ?_⟩;rw[Im,if_neg (Io h3 k hk)];cases hc:get s.bx k with
 | none=>rfl
 | some cs=>rw[Option.map_some,Qh9 λc hc'=>Hs h2 c (Oc hk hc c hc')]
theorem Fu {a b:Option Nat} (h:MA a b=true):∀x,a=some x->b≠some x:=λx e e'=>by
 subst e;subst e';simp[MA] at h
theorem Qe7 {oa ob:Oper} {ra rb:Rec} {s:St} (hap:PG ops oa ra ob rb=true) {orca orcb:Orc} (ha:Co tt N orca ops s oa=some ra) (hb:Co tt N orcb ops (s.step oa.dst ra.res) ob=some rb):
 Co tt N orcb ops s ob=some rb/\Co tt N orca ops (s.step ob.dst rb.res) oa=some ra/\((s.step oa.dst ra.res).step ob.dst rb.res).eqv ((s.step ob.dst rb.res).step oa.dst ra.res):=by
 simp only[PG,Bool.and_eq_true] at hap;obtain ⟨⟨⟨⟨⟨⟨⟨⟨⟨⟨⟨⟨⟨⟨⟨⟨⟨d1,d2⟩,d3⟩,n1⟩,n2⟩,f1⟩,f2⟩,g1⟩,g2⟩,g3⟩,g4⟩,k1⟩,k2⟩,b1⟩,b2⟩,b3⟩,q1⟩,q2⟩:=hap;have hcomm:=PK k1 k2 q1 q2;refine ⟨Qbf hb d2 n1 n2 b2,Qe6 ha d3 f1 f2 b3,λt=> ?_,λk=> ?_⟩
 . simp only[Bv];by_cases ht:ob.dst=some t
   . rw[if_pos ht,if_neg (λe=>Fu d1 t e ht),if_pos ht,Option.map_some,Qh8 (Hs g1)]
   rw[if_neg ht,if_neg ht];by_cases ht':oa.dst=some t
   . rw[if_pos ht',if_pos ht',Option.map_some,Qh8 (Hs g3)]
   rw[if_neg ht',if_neg ht'];cases get s.tm t with
   | none=>rfl
   | some v=>
     simp only[Option.map_some,M,AV.map_map]
     congr 2
     funext c
     exact hcomm c
 simp only[Im];by_cases ht:Ly rb.res=some k
 . rw[if_pos ht,if_neg (λe=>Fu b1 k e ht),if_pos ht,Option.map_some,Qh9 (Hs g2)]
 rw[if_neg ht,if_neg ht];by_cases ht':Ly ra.res=some k
 . rw[if_pos ht',if_pos ht',Option.map_some,Qh9 (Hs g4)]
 rw[if_neg ht',if_neg ht'];cases get s.bx k with
 | none=>rfl
 | some l=>
   simp only[Option.map_some,ML,List.map_map]
   congr 2
   funext c
   exact hcomm c
end
end
end
section
open Go.RowKit
abbrev Dc:=Nat×Oper×Rec
def Bw (o:Oper):List Nat:=(o.after.toList.filter λe=>Region.binds .any e).map (·.on)
def MC:List Nat->List Nat
 | []=> []
 | x::r=>bif Lk x r then MC r else x::MC r
def Qak (l:List (List Nat)) (i:Nat):List Nat:=match l[i]? with
 | some x=>x
 | none=> []
def GP:List Oper->List (List Nat)->List (List Nat)
 | [],acc=>acc
 | o::r,acc=>GP r (acc++ [MC (Bw o++(Bw o).flatMap λe=>Qak acc e)])
def Qbg (i:Nat):List Nat->Bool
 | []=>true
 | x::r=>Nat.blt x i&&Qbg i r
def QW:List Oper->Nat->Bool
 | [],_=>true
 | o::r,i=>Qbg i (Bw o)&&QW r (i+1)
def CQ (orcs:List (Nat×Orc)) (i:Nat) (o:Oper):Option (Nat×Nat):=match o.op,o.guard,o.dst,get orcs i with
 | .move (.tmp u),none,some v,none=>some (u,v)
 | _,_,_,_=>none
def L4 (ops:List Oper) (m:Nat×Nat) (z:Oper):Bool:= !(Lk m.2 (VB ops z))&&MA z.dst (some m.1)&&MA z.dst (some m.2)
def Qdm (orcs:List (Nat×Orc)) (i:Nat):Option (Nat×Nat×Nat×List PV×Orc):=match get orcs i with
 | some (.gh t q th r o)=>some (t,q,th,r,o)
 | _=>none
def MD:List (Nat×Orc)->Bool
 | []=>false
 | (_,.gh _ _ _ _ _)::_=>true
 | _::r=>MD r
def PO (ops:List Oper) (m:Nat×Nat) (g:Nat×Nat×Nat×List PV×Orc) (z:Oper):Bool:=L4 ops m z&& !(Lk m.2 [g.1,g.2.1,g.2.2.1])&& !(Nat.beq m.1 g.1)
def JD (orcs:List (Nat×Orc)) (ops:List Oper) (y x:Dc):Bool:=match Qdm orcs y.1 with
 | some _=>false
 | none=>(match Qdm orcs x.1 with
   | some g=>(match CQ orcs y.1 y.2.1 with
     | some m=>PO ops m g x.2.1
     | none=>false)
   | none=>(match CQ orcs y.1 y.2.1,CQ orcs x.1 x.2.1 with
     | none,none=>PG ops y.2.1 y.2.2 x.2.1 x.2.2
     | some m,_=>L4 ops m x.2.1
     | none,some m=>L4 ops m y.2.1))
def Fv (orcs:List (Nat×Orc)) (ops:List Oper) (anc:List (List Nat)) (x:Dc):List Dc->Bool
 | []=>true
 | y::r=>(Lk x.1 (Qak anc y.1)|| JD orcs ops x y)&&Fv orcs ops anc x r
def F7 (orcs:List (Nat×Orc)) (ops:List Oper) (anc:List (List Nat)):List Dc->Bool
 | []=>true
 | x::r=>Fv orcs ops anc x r&&F7 orcs ops anc r
def VG (orcs:List (Nat×Orc)) (i:Nat) (o:Oper) (s:St):Bool:=match CQ orcs i o with
 | some m=> !(MD orcs)|| (match get s.tm m.2 with
   | none=>true
   | some _=>false)
 | none=>true
def JE (tt:List (Nat×TI)) (N:Nat) (orcs:List (Nat×Orc)) (ops:List Oper):List Oper->Nat->St->Option (St×List Dc)
 | [],_,s=>some (s, [])
 | o :: r,i,s=>match Qdm orcs i with
   | none=>(match Co tt N (KW orcs i) ops s o with
     | some ρ=>bif VG orcs i o s then (match JE tt N orcs ops r (i+1) (s.step o.dst ρ.res) with
       | some (s',l)=>some (s',(i,o,ρ)::l)
       | none=>none) else none
     | none=>none)
   | some (t,q,th,rr,o')=>(match KV t q th rr s with
     | some (g,gobs)=>(match Co tt N o' ops (s.step (some t) g) o with
       | some ρ=>(match JE tt N orcs ops r (i+1) ((s.step (some t) g).step o.dst ρ.res) with
         | some (s',l)=>some (s',(i,o,⟨ρ.avs,ρ.bn,ρ.res,gobs++ρ.obs⟩)::l)
         | none=>none)
       | none=>none)
     | none=>none)
def Qbh:List Dc->List Ob
 | []=> []
 | x::r=>x.2.2.obs++Qbh r
def Cp (tt:List (Nat×TI)) (N:Nat) (orcs:List (Nat×Orc)) (ops:List Oper) (ts bs:List Nat) (s:St):Option (St×List Ob):=
 bif QW ops 0 then
  match JE tt N orcs ops ops 0 s with
  | some (s',l)=>bif F7 orcs ops (GP ops []) l then some (s'.keep ts bs,Qbh l) else none
  | none=>none
 else none
section
variable {P:Program} {tt:List (Nat×TI)} {N:Nat} {orcs:List (Nat×Orc)} {ops:Array Oper} {w0:Base} {F0:Nat->Prop}
inductive Step1 (tt:List (Nat×TI)) (N:Nat) (orcs:List (Nat×Orc)) (ops:List Oper) (x:Dc) (s:St):St->Prop
 | plain (ρ:Rec):Qdm orcs x.1=none->Co tt N (KW orcs x.1) ops s x.2.1=some ρ->(CQ orcs x.1 x.2.1=none->ρ=x.2.2)->(∀m,CQ orcs x.1 x.2.1=some m->MD orcs=true->get s.tm m.2=none)->Step1 tt N orcs ops x s (s.step x.2.1.dst ρ.res)
 | ghost (t q th:Nat) (rr:List PV) (o':Orc) (g:Res) (gobs:List Ob) (ρ:Rec):Qdm orcs x.1=some (t,q,th,rr,o')->Ghost t q th rr s g gobs->Co tt N o' ops (s.step (some t) g) x.2.1=some ρ->x.2.2.obs=gobs++ρ.obs->Step1 tt N orcs ops x s ((s.step (some t) g).step x.2.1.dst ρ.res)
def Qe8 (tt:List (Nat×TI)) (N:Nat) (orcs:List (Nat×Orc)) (ops:List Oper):List Dc->St->St->Prop
 | [],s,s'=>s.eqv s'
 | x::r,s,s'=>∃s1,Step1 tt N orcs ops x s s1/\Qe8 tt N orcs ops r s1 s'
theorem Qbi (s:St):s.eqv s:=⟨λ_=>rfl,λ_=>rfl⟩
theorem GQ {s t:St} (h:s.eqv t):t.eqv s:=⟨λx=>(h.1 x).symm,λx=>(h.2 x).symm⟩
theorem AE {s t u:St} (h:s.eqv t) (h':t.eqv u):s.eqv u:=⟨λx=>(h.1 x).trans (h'.1 x),λx=>(h.2 x).trans (h'.2 x)⟩
theorem Po {s t:St} (h:s.eqv t) (dst:Option Nat) (r:Res):(s.step dst r).eqv (t.step dst r):=⟨λx=>by rw[Bv,Bv,h.1 x],λx=>by rw[Im,Im,h.2 x]⟩
theorem QY {s t:St} (h:s.eqv t) {orc:Orc} {l:List Oper} (o:Oper):Co tt N orc l s o=Co tt N orc l t o:=JB ⟨λx _=>h.1 x,λ_ _ k _=>h.2 k⟩
theorem PP {x:Dc} {s t s1:St} (h:s.eqv t) (hs:Step1 tt N orcs ops.toList x s s1):∃t1,Step1 tt N orcs ops.toList x t t1/\s1.eqv t1:=by
 cases hs with
 | plain ρ h1 h2 h3 h4=>exact ⟨_,.plain ρ h1 ((QY h _).symm.trans h2) h3 (λm hm ha=>(h.1 m.2).symm.trans (h4 m hm ha)),Po h _ _⟩
 | ghost u q th rr o' g gobs ρ h1 h2 h3 h4=>exact ⟨_,.ghost u q th rr o' g gobs ρ h1 (h2.eqv h) ((QY (Po h _ _) _).symm.trans h3) h4,Po (Po h _ _) _ _⟩
theorem Pp:∀{l:List Dc} {s t s':St},s.eqv t->Qe8 tt N orcs ops.toList l s s'->Qe8 tt N orcs ops.toList l t s'
 | [],s,t,s',h,hr=>AE (GQ h) hr
 | x::r,s,t,s',h,⟨s1,h1,hr⟩=>by
   obtain ⟨t1,h2,h3⟩:=PP h h1;exact ⟨t1,h2,Pp h3 hr⟩
theorem Gv {i:Nat} {o:Oper} {m:Nat×Nat} (h:CQ orcs i o=some m):o.op= .move (.tmp m.1)/\o.guard=none/\o.dst=some m.2/\KW orcs i= .no:=by
 unfold CQ at h;split at h
 . rename_i u v h1 h2 h3 h4;obtain rfl:=Option.some.inj h;exact ⟨h1,h2,h3,by unfold KW;rw[h4]⟩
 cases h
theorem GR {l:List Oper} {i:Nat} {o:Oper} {m:Nat×Nat} {s:St} {ρ:Rec} (h:CQ orcs i o=some m) (hr:Co tt N (KW orcs i) l s o=some ρ):YX N o.dst=true/\∃x,get s.tm m.1=some x/\ρ.res=⟨x, [],none,none⟩/\ρ.obs= []:=by
 obtain ⟨h1,h2,h3,h4⟩:=Gv h;unfold Co at hr;cases hd:YX N o.dst with
 | false=>rw[hd] at hr;cases hr
 | true=>
   rw[hd] at hr;refine ⟨rfl, ?_⟩;have hg:A3 l s o=some true:=by unfold A3;rw[h2]
   simp only[hg,h1,h4,Op.operands,Df,YT,cond_true] at hr;cases hx:get s.tm m.1 with
   | none=>simp[hx,Df,YT] at hr
   | some x=>
     simp[hx,Df,YT,HJ,QP,QM,NZ] at hr;obtain rfl:=hr;exact ⟨x,rfl,rfl,rfl⟩
theorem PQ {l:List Oper} {i:Nat} {o:Oper} {m:Nat×Nat} {s:St} {x:AV} (h:CQ orcs i o=some m) (hd:YX N o.dst=true) (hx:get s.tm m.1=some x):∃ρ,Co tt N (KW orcs i) l s o=some ρ/\ρ.res=⟨x, [],none,none⟩:=by
 obtain ⟨h1,h2,h3,h4⟩:=Gv h;have hg:A3 l s o=some true:=by unfold A3;rw[h2]
 unfold Co;simp[hd,hg,h1,h4,Op.operands,Df,YT,hx,HJ,QP,QM,NZ]
theorem JF (x v:AV):M ⟨x, [],none,none⟩ v=v:=AV.map_id' λc _=>by rw[Oa];rfl
theorem DP (x:AV) (l:List C):ML ⟨x, [],none,none⟩ l=l:=by
 show l.map (Vp [] none)=l;rw[Oa,List.map_id]
theorem DQ {l:List Oper} {orc:Orc} {m:Nat×Nat} {z:Oper} {s:St} {x:AV} (hf:L4 l m z=true) (hx:get s.tm m.1=some x) (ρ:Rec):
 Co tt N orc l (s.step (some m.2) ⟨x, [],none,none⟩) z=Co tt N orc l s z/\get (s.step z.dst ρ.res).tm m.1=some (M ρ.res x)/\((s.step (some m.2) ⟨x, [],none,none⟩).step z.dst ρ.res).eqv ((s.step z.dst ρ.res).step (some m.2) ⟨M ρ.res x, [],none,none⟩):=by
 simp only[L4,Bool.and_eq_true,Bool.not_eq_true'] at hf;obtain ⟨⟨f1,f2⟩,f3⟩:=hf;have f1:=Aj f1;refine ⟨JB ⟨λy hy=> ?_,λ_ _ k _=> ?_⟩, ?_,λy=> ?_,λk=> ?_⟩
 . rw[Bv,if_neg (λe=>f1 (by cases e;exact hy))];cases get s.tm y with
   | none=>rfl
   | some v=>rw[Option.map_some,JF]
 . rw[Im,if_neg (by simp[Ly])];cases get s.bx k with
   | none=>rfl
   | some v=>simp[ML,Oa]
 . rw[Bv,if_neg (λe=>Fu f2 _ e rfl),hx];rfl
 . simp only[Bv];by_cases h1:z.dst=some y
   . rw[if_pos h1,if_neg (λe=>Fu f3 _ h1 e),if_pos h1,Option.map_some,JF]
   rw[if_neg h1,if_neg h1];by_cases h2:some m.2=some y
   . rw[if_pos h2,if_pos h2,Option.map_some]
   rw[if_neg h2,if_neg h2];cases get s.tm y with
   | none=>rfl
   | some v=>simp only[Option.map_some,JF]
 have hn:∀y:AV,¬Ly ⟨y, [],none,none⟩=some k:=λ_ e=>by cases e
 simp only[Im];by_cases h1:Ly ρ.res=some k
 . rw[if_pos h1,if_neg (hn _),if_pos h1,Option.map_some,DP]
 rw[if_neg h1,if_neg (hn _),if_neg (hn _),if_neg h1];cases get s.bx k with
 | none=>rfl
 | some v=>simp only[Option.map_some,DP]
theorem Ip {s:St} {dst:Option Nat} {r:Res} {u:Nat} (h:dst≠some u) (hn:get s.tm u=none):get (s.step dst r).tm u=none:=by
 rw[Bv,if_neg h,hn];rfl
theorem Pq {s:St} {dst:Option Nat} {r:Res} {u:Nat} (h:dst≠some u) (hn:get (s.step dst r).tm u=none):get s.tm u=none:=by
 rw[Bv,if_neg h] at hn;cases hg:get s.tm u with
 | none=>rfl
 | some v=>rw[hg] at hn;cases hn
theorem GS:∀{l:List (Nat×Orc)} {i:Nat} {g:Nat×Nat×Nat×List PV×Orc},Qdm l i=some g->MD l=true
 | [],i,g,h=>by simp[Qdm,get] at h
 | (k,o)::r,i,g,h=>by
   unfold Qdm at h;simp only[get] at h;cases o with
   | gh=>rfl
   | _=>
     show MD r=true;by_cases hk:k=i
     . rw[if_pos hk] at h;cases h
     rw[if_neg hk] at h;exact GS (i:=i) (g:=g) h
theorem Qbj {m:Nat×Nat} {t q th:Nat} {rr:List PV} {g:Res} {gobs:List Ob} {s:St} {x:AV} (h:Ghost t q th rr (s.step (some m.2) ⟨x, [],none,none⟩) g gobs) (h1:m.2≠t) (h2:m.2≠q) (h3:m.2≠th) (hn:get s.tm m.2=none):Ghost t q th rr s g gobs:=by
 obtain ⟨v,k,n,i,o,v',cs,l,n2,l2,tl,e1,e2,e3,e4,e5,e6⟩:=h.ok
 have back:∀u,m.2≠u->get (s.step (some m.2) ⟨x, [],none,none⟩).tm u=get s.tm u:=λu hu=>by
  rw[Bv,if_neg (λe=>hu (Option.some.inj e))];cases get s.tm u with
  | none=>rfl
  | some v=>rw[Option.map_some,JF]
 refine ⟨v,k,n,i,o,v',cs,l,n2,l2,tl,(back t h1).symm.trans e1,(back q h2).symm.trans e2,(back th h3).symm.trans e3,e4,⟨λu v c y g1 g2 g3=> ?_,λu v c y g1 g2=> ?_⟩,e6⟩
 . have hu:m.2≠u:=λe=>by rw[←e,hn] at g1;cases g1
   exact e5.1 u v c y ((back u hu).trans g1) g2 g3
 refine e5.2 u v c y ?_ g2;rw[Im,if_neg (by simp[Ly]),g1];simp[ML,Oa]
theorem JG {x:Dc} {post:List Dc}:∀{pre:List Dc} {s s':St},(∀y,y∈pre->JD orcs ops.toList y x=true)->Qe8 tt N orcs ops.toList (pre++x::post) s s'->Qe8 tt N orcs ops.toList (x::(pre++post)) s s'
 | [],_,_,_,h=>h
 | y :: pre,s,s',ha,h=>by
   obtain ⟨sy,hy0,hr⟩:=h;obtain ⟨sx,V,hr'⟩:=JG (λz hz=>ha z (List.mem_cons_of_mem _ hz)) hr;have hap:=ha y List.mem_cons_self;unfold JD at hap;cases hy0 with
   | ghost t q th rr o' g gobs ρ g1=>rw[g1] at hap;cases hap
   | plain ρy gy hy hy' hfy=>
   rw[gy] at hap;simp only at hap;cases V with
   | ghost t q th rr o' g gobs ρx g1 g2 g3 g4=>
     rw[g1] at hap;simp only at hap;cases hmy:CQ orcs y.1 y.2.1 with
     | none=>rw[hmy] at hap;cases hap
     | some m=>
       rw[hmy] at hap;obtain ⟨hd,x0,h1,h2,_⟩:=GR hmy hy;have hdst:=(Gv hmy).2.2.1;have hap:PO ops.toList m (t,q,th,rr,o') x.2.1=true:=hap;simp only[PO,Bool.and_eq_true,Bool.not_eq_true'] at hap;obtain ⟨⟨f1,f2⟩,f3⟩:=hap;have f2:=Aj f2;have ft:m.2≠t:=λe=>f2 (by simp[e])
       have fq:m.2≠q:=λe=>f2 (by simp[e])
       have fth:m.2≠th:=λe=>f2 (by simp[e])
       have fm:m.1≠t:=λe=>by rw[e] at f3;simp at f3
       have hfresh:=hfy m hmy (GS g1);rw[h2,hdst] at g2 g3 hr';have hg:=Qbj g2 ft fq fth hfresh;have a1:get (s.step (some t) g).tm m.1=some (M g x0):=by rw[Bv,if_neg (λe=>fm (Option.some.inj e).symm),h1];rfl
       have a2:((s.step (some m.2) ⟨x0, [],none,none⟩).step (some t) g).eqv ((s.step (some t) g).step (some m.2) ⟨M g x0, [],none,none⟩):=by
        refine ⟨λy=> ?_,λk=> ?_⟩
        . simp only[Bv];by_cases e1:some t=some y
          . rw[if_pos e1,if_neg (λe=>ft (Option.some.inj (e.trans e1.symm))),if_pos e1,Option.map_some,JF]
          rw[if_neg e1,if_neg e1];by_cases e2:some m.2=some y
          . rw[if_pos e2,if_pos e2,Option.map_some]
          rw[if_neg e2,if_neg e2];cases get s.tm y with
          | none=>rfl
          | some v=>simp only[Option.map_some,JF]
        have hn:∀y:AV,¬Ly ⟨y, [],none,none⟩=some k:=λ_ e=>by cases e
        have hgk:Ly g=none:=by
         obtain ⟨v,k',n,i,o,v',cs,l,n2,l2,tl,_,_,_,_,_,_,_,rfl,_⟩:=g2.ok;rfl
        simp only[Im];rw[if_neg (by rw[hgk];simp),if_neg (hn _),if_neg (hn _),if_neg (by rw[hgk];simp)];cases get s.bx k with
        | none=>rfl
        | some v=>simp only[Option.map_some,DP]
       obtain ⟨e1,e2,e3⟩:=DQ (tt:=tt) (N:=N) (orc:=o') f1 a1 ρx;have g3':=(QY a2 _).symm.trans g3;obtain ⟨ρm,h3,h4⟩:=PQ (tt:=tt) (l:=ops.toList) hmy hd e2
       have hxd:x.2.1.dst≠some m.2:=λe=>by
        simp only[L4,Bool.and_eq_true] at f1;exact Fu f1.2 _ e rfl
       refine ⟨_,.ghost t q th rr o' g gobs ρx g1 hg (e1.symm.trans g3') g4,_,.plain ρm gy h3 (λe=>(by rw[hmy] at e;cases e)) (λm' hm' _=> ?_), ?_⟩
       . rw[hmy] at hm';obtain rfl:=Option.some.inj hm';exact Ip hxd (Ip (λe=>ft (Option.some.inj e).symm) hfresh)
       rw[h4,hdst];exact Pp (AE (Po a2 _ _) e3) hr'
   | plain ρx gx hx hx' hfx=>
   rw[gx] at hap;simp only at hap;cases hmy:CQ orcs y.1 y.2.1 with
   | some m=>
     rw[hmy] at hap;obtain ⟨hd,x0,h1,h2,_⟩:=GR hmy hy;have hdst:=(Gv hmy).2.2.1;have hap:L4 ops.toList m x.2.1=true:=by cases hq:CQ orcs x.1 x.2.1<;>rw[hq] at hap<;>exact hap
     obtain ⟨e1,e2,e3⟩:=DQ (tt:=tt) (N:=N) (orc:=KW orcs x.1) hap h1 ρx
     have hxd:x.2.1.dst≠some m.2:=λe=>by
      simp only[L4,Bool.and_eq_true] at hap;exact Fu hap.2 _ e rfl
     rw[h2,hdst] at hx hr' hfx;obtain ⟨ρm,h3,h4⟩:=PQ (tt:=tt) (l:=ops.toList) hmy hd e2;refine ⟨_,.plain ρx gx (e1.symm.trans hx) hx' (λm' hm' ha=> ?_),_,.plain ρm gy h3 (λe=>(by rw[hmy] at e;cases e)) (λm' hm' ha=> ?_), ?_⟩
     . have hdx:=(Gv hm').2.2.1;refine Pq (dst:=some m.2) (λe=>hxd ?_) (hfx m' hm' ha);rw[hdx];exact e.symm
     . rw[hmy] at hm';obtain rfl:=Option.some.inj hm';exact Ip hxd (hfy m hmy ha)
     rw[h4,hdst];exact Pp e3 hr'
   | none=>
     rw[hmy] at hap;cases hmx:CQ orcs x.1 x.2.1 with
     | some m=>
       rw[hmx] at hap;obtain ⟨hd,x1,h1,h2,_⟩:=GR hmx hx;have hdst:=(Gv hmx).2.2.1;have hf:L4 ops.toList m y.2.1=true:=hap
       have hne:y.2.1.dst≠some m.1:=λe=>by
        simp only[L4,Bool.and_eq_true] at hf;exact Fu hf.1.2 _ e rfl
       have hyd:y.2.1.dst≠some m.2:=λe=>by
        simp only[L4,Bool.and_eq_true] at hf;exact Fu hf.2 _ e rfl
       rw[Bv,if_neg hne] at h1;obtain ⟨x0,V,hM⟩:=Option.map_eq_some_iff.1 h1;obtain ⟨e1,e2,e3⟩:=DQ (tt:=tt) (N:=N) (orc:=KW orcs y.1) hf V ρy;obtain ⟨ρm,h3,h4⟩:=PQ (tt:=tt) (l:=ops.toList) hmx hd V;refine ⟨_,.plain ρm gx h3 (λe=>(by rw[hmx] at e;cases e)) (λm' hm' ha=> ?_),_,.plain ρy gy ?_ (λ_=>hy' hmy) (λm' hm'=>by rw[hmy] at hm';cases hm'), ?_⟩
       . rw[hmx] at hm';obtain rfl:=Option.some.inj hm';exact Pq hyd (hfx m hmx ha)
       . rw[h4,hdst];exact e1.trans hy
       rw[h4,hdst];rw[h2,hdst,←hM] at hr';exact Pp (GQ e3) hr'
     | none=>
       rw[hmx] at hap;obtain rfl:=hy' hmy;obtain rfl:=hx' hmx;obtain ⟨h1,h2,h3⟩:=Qe7 hap hy hx;exact ⟨_,.plain _ gx h1 (λ_=>rfl) (λm' hm'=>by rw[hmx] at hm';cases hm'),_,.plain _ gy h2 (λ_=>rfl) (λm' hm'=>by rw[hmy] at hm';cases hm'),Pp h3 hr'⟩
theorem ME {i:Nat} {o:Oper} {s:St} (h:VG orcs i o s=true):∀m,CQ orcs i o=some m->MD orcs=true->get s.tm m.2=none:=λm hm ha=>by
 unfold VG at h;rw[hm] at h;simp only[ha,Bool.not_true,Bool.false_or] at h;split at h
 . assumption
 cases h
theorem Od :∀{l:List Oper} {i:Nat} {s s':St} {R:List Dc},JE tt N orcs ops.toList l i s=some (s',R)->Qe8 tt N orcs ops.toList R s s'/\R.map (·.1)=List.range' i l.length/\R.map (·.2.1)=l
 | [],i,s,s',R,h=>by
   obtain ⟨rfl,rfl⟩:s=s'/\ []=R:=by simpa [JE] using h
   exact ⟨Qbi s,rfl,rfl⟩
 | o :: r, i,s,s',R,h=>by
   simp only[JE] at h;split at h
   . rename_i hg;split at h
     . rename_i ρ hρ;cases hf:VG orcs i o s with
       | false=>rw[hf] at h;cases h
       | true=>
         rw[hf] at h;simp only[cond_true] at h;split at h
         . rename_i s'' l' hr;obtain ⟨rfl,rfl⟩:s''=s'/\(i,o,ρ)::l'=R:=by simpa using h
           obtain ⟨h1,h2,h3⟩:=Od hr;exact ⟨⟨_,.plain ρ hg hρ (λ_=>rfl) (ME hf),h1⟩,by simp[h2,List.range'_succ],by simp[h3]⟩
         cases h
     cases h
   rename_i t q th rr o' hg;split at h
   . rename_i g gobs hgr;split at h
     . rename_i ρ hρ;split at h
       . rename_i s'' l' hr;obtain ⟨rfl,rfl⟩:s''=s'/\(i,o,⟨ρ.avs,ρ.bn,ρ.res,gobs++ρ.obs⟩)::l'=R:=by simpa using h
         obtain ⟨h1,h2,h3⟩:=Od hr;exact ⟨⟨_,.ghost t q th rr o' g gobs ρ hg (Qa1 hgr) hρ rfl,h1⟩,by simp[h2,List.range'_succ],by simp[h3]⟩
       cases h
     cases h
   cases h
inductive Anc (ops:Array Oper):Nat->Nat->Prop
 | one {x q:Nat} {o:Oper}:ops[q]? =some o->x∈Bw o->Anc ops x q
 | more {x e q:Nat} {o:Oper}:ops[q]? =some o->e∈Bw o->Anc ops x e->Anc ops x q
theorem QZ {x:Nat}:∀{l:List Nat},x∈MC l->x∈l
 | [],h=>h
 | y ::r,h=>by
   simp only[MC] at h;cases hm:Lk y r with
   | true=>rw[hm] at h;exact List.mem_cons_of_mem _ (QZ h)
   | false=>
     rw[hm] at h;rcases List.mem_cons.1 h with rfl | h
     . exact List.mem_cons_self
     exact List.mem_cons_of_mem _ (QZ h)
theorem PR:∀{l:List Oper} {acc:List (List Nat)},ops.toList.drop acc.length=l->(∀q x,x∈Qak acc q->Anc ops x q)->∀q x,x∈Qak (GP l acc) q->Anc ops x q
 | [],_,_,h,q,x,hx=>h q x hx
 | o ::r,acc,hl,h,q,x,hx=>by
   refine PR (l:=r) (acc:=acc++ [MC (Bw o++(Bw o).flatMap λe=>Qak acc e)]) ?_ ?_ q x hx
   . rw[List.length_append,List.length_singleton,←List.drop_drop,hl];rfl
   intro q x hx
   have ho:ops[acc.length]? =some o:=by
    have:=congrArg (·[0]?) hl;simpa using this
   unfold Qak at hx;rcases Nat.lt_trichotomy q acc.length with hlt | he | hgt
   . rw[List.getElem?_append_left hlt] at hx;exact h q x hx
   . subst he;rw[List.getElem?_append_right (Nat.le_refl _),Nat.sub_self] at hx;simp only[List.getElem?_cons_zero] at hx;rcases List.mem_append.1 (QZ hx) with hx | hx
     . exact .one ho hx
     obtain ⟨e,he,hx⟩:=List.mem_flatMap.1 hx;exact .more ho he (h e x hx)
   rw[List.getElem?_eq_none (by simp;omega)] at hx;simp at hx
theorem MF {listed:Array Bool} (hc:∀(j:Nat) (o:Oper),ops[j]? =some o->listed.getD j false=true->∀e,e∈Bw o->listed.getD e false=true) {x q:Nat} (h:Anc ops x q):(∀o,ops[q]? =some o->∀e,e∈Bw o->listed.getD e false=true)->listed.getD x false=true:=by
 induction h with
 | one ho hx=>intro hq;exact hq _ ho _ hx
 | more ho he _ ih=>intro hq;exact ih λo' ho' e' he'=>hc _ o' ho' (hq _ ho _ he) e' he'
theorem AF {o:Oper} {e:Nat}:e∈Bw o↔∃x,x∈o.after/\Region.binds .any x=true/\x.on=e:=by
 unfold Bw;simp only[List.mem_map,List.mem_filter,Array.mem_toList_iff];exact ⟨λ⟨x,⟨h1,h2⟩,h3⟩=>⟨x,h1,h2,h3⟩,λ⟨x,h1,h2,h3⟩=>⟨x,⟨h1,h2⟩,h3⟩⟩
theorem GT {i:Nat}:∀{l:List Nat},Qbg i l=true->∀x,x∈l->x<i
 | [],_,x,hx=>by simp at hx
 | y::r,h,x,hx=>by
   simp only[Qbg,Bool.and_eq_true,Nat.blt_eq] at h;rcases List.mem_cons.1 hx with rfl | hx
   . exact h.1
   exact GT h.2 x hx
theorem JH:∀{l:List Oper} {i:Nat},QW l i=true->∀(j:Nat) (o:Oper),l[j]? =some o->∀e,e∈Bw o->e<i+j
 | [],_,_,j,o,h,_,_=>by simp at h
 | x::r,i,h,j,o,hj,e,he=>by
   simp only[QW,Bool.and_eq_true] at h;cases j with
   | zero=>simp at hj;subst hj;exact GT h.1 e he
   | succ j=>have:=JH h.2 j o (by simpa using hj) e he;omega
theorem GU {anc:List (List Nat)} {x y:Dc}:∀{l:List Dc},Fv orcs ops.toList anc x l=true->y∈l->Lk x.1 (Qak anc y.1)=true\/JD orcs ops.toList x y=true
 | z::r,h,hy=>by
   simp only[Fv,Bool.and_eq_true,Bool.or_eq_true] at h;rcases List.mem_cons.1 hy with rfl | hy
   . exact h.1
   exact GU h.2 hy
theorem AG {anc:List (List Nat)} {x:Dc} {post:List Dc}:∀{pre:List Dc},F7 orcs ops.toList anc (pre++x::post)=true->∀y,y∈pre->Lk y.1 (Qak anc x.1)=true\/JD orcs ops.toList y x=true
 | [],_,y,hy=>by simp at hy
 | z::pre,h,y,hy=>by
   rw[List.cons_append] at h;simp only[F7,Bool.and_eq_true] at h;rcases List.mem_cons.1 hy with rfl | hy
   . exact GU h.1 (by simp)
   exact AG h.2 y hy
theorem Pr {anc:List (List Nat)} {z x:Dc} {post:List Dc}:∀{pre:List Dc},Fv orcs ops.toList anc z (pre++x::post)=true->Fv orcs ops.toList anc z (pre++post)=true
 | [],h=>by simp only[List.nil_append,Fv,Bool.and_eq_true] at h;exact h.2
 | y::pre,h=>by
   simp only[List.cons_append,Fv,Bool.and_eq_true] at h⊢;exact ⟨h.1,Pr h.2⟩
theorem JI {anc:List (List Nat)} {x:Dc} {post:List Dc}:∀{pre:List Dc},F7 orcs ops.toList anc (pre++x::post)=true->F7 orcs ops.toList anc (pre++post)=true
 | [],h=>by simp only[List.nil_append,F7,Bool.and_eq_true] at h;exact h.2
 | y::pre,h=>by
   simp only[List.cons_append,F7,Bool.and_eq_true] at h⊢;exact ⟨Pr h.1,JI h.2⟩
theorem Qe9 {l:List Dc} (h:AllOb (Yu P w0) (K4 P w0) (Qbh l)):∀x,x∈l->AllOb (Yu P w0) (K4 P w0) x.2.2.obs:=by
 induction l with
 | nil=>intro x hx;simp at hx
 | cons y r ih=>
   intro x hx;obtain ⟨h1,h2⟩:=AllOb.append h;rcases List.mem_cons.1 hx with rfl | hx
   . exact h1
   exact ih h2 x hx
theorem Qfa (htt:De P tt=true) {Q:Exit->Act->World->Prop} {sf:St} {anc:List (List Nat)} (hanc:∀q x,x∈Qak anc q->Anc ops x q) (hlt:∀(j:Nat) (o:Oper),ops[j]? =some o->∀e,e∈Bw o->e<j) (hQ:∀J a w,Rel N w0 F0 J a w sf->Q .normal a w):
 ∀ (n:Nat) (R:List Dc) (listed:Array Bool) (s:St) (J:Inj) (a:Act) (w:World),R.length=n->listed.size=ops.size->(R.map (·.1)).Pairwise (· < ·)->(∀x,x∈R->ops[x.1]? =some x.2.1)->(∀j,j<ops.size->(listed.getD j true=false↔j∈R.map (·.1)))->
   (∀(j:Nat) (o:Oper),ops[j]? =some o->listed.getD j false=true->∀e,e∈Bw o->listed.getD e false=true)->F7 orcs ops.toList anc R=true->(∀x,x∈R->AllOb (Yu P w0) (K4 P w0) x.2.2.obs)->Qe8 tt N orcs ops.toList R s sf->Rel N w0 F0 J a w s->wpAny P .any ops Q n listed a w:=by
 intro n
 have hget:∀(listed:Array Bool) (j:Nat),j<listed.size->(listed.getD j true=false↔¬listed.getD j false=true):=by
  intro listed j hj;simp[Array.getD_eq_getD_getElem?,Array.getElem?_eq_getElem hj]
 have hready:∀(R:List Dc) (listed:Array Bool),listed.size=ops.size->(∀j,j<ops.size->(listed.getD j true=false↔j∈R.map (·.1)))->∀i,i∈Region.ready .any ops listed->i∈R.map (·.1)/\∀o,ops[i]? =some o->∀e,e∈Bw o->listed.getD e false=true:=by
  intro R listed hsz hR i hi;obtain ⟨h0,o,ho,hall⟩:=mem_ready.1 hi;have hlt:i<ops.size:=(Array.getElem?_eq_some_iff.1 ho).1;refine ⟨(hR i hlt).1 h0,λo' ho' e he=> ?_⟩;rw[ho] at ho';obtain rfl:=Option.some.inj ho';obtain ⟨x,h1,h2,rfl⟩:=AF.1 he;exact hall x h1 h2
 induction n with
 | zero=>
   intro R listed s J a w hn hsz _ _ hR _ _ _ hr hrel;obtain rfl:R= []:=List.eq_nil_of_length_eq_zero hn;refine ⟨?_,hQ J a w (hrel.eqv hr)⟩;cases hrd:Region.ready .any ops listed with
   | nil=>rfl
   | cons i r=>
     have:=(hready [] listed hsz hR i (by rw[hrd];simp)).1;simp at this
 | succ n ih=>
   intro R listed s J a w hn hsz hsort hops hR hclosed hpairs hobs hr hrel;refine ⟨λhnil=> ?_,λi hi=> ?_⟩
   . exfalso;cases R with
     | nil=>simp at hn
     | cons x r=>
       have hx:=hops x (by simp);have hxl:x.1<ops.size:=(Array.getElem?_eq_some_iff.1 hx).1
       have:x.1∈Region.ready .any ops listed:=by
        refine mem_ready.2 ⟨(hR x.1 hxl).2 (by simp),x.2.1,hx,λe he hb=> ?_⟩;have hel:=hlt x.1 x.2.1 hx e.on (AF.2 ⟨e,he,hb,rfl⟩);refine Classical.byContradiction λhne=> ?_
        have:=(hR e.on (by omega)).1 ((hget listed e.on (by omega)).2 hne);simp only[List.map_cons,List.mem_cons] at this;rcases this with h | h
        . omega
        have:x.1<e.on:=(List.pairwise_cons.1 hsort).1 e.on h;omega
       rw[hnil] at this;simp at this
   obtain ⟨hiR,hedges⟩:=hready R listed hsz hR i hi;obtain ⟨x,hx,rfl⟩:=List.mem_map.1 hiR;obtain ⟨pre,post,rfl⟩:=List.append_of_mem hx
   have hap:∀y,y∈pre->JD orcs ops.toList y x=true:=λy hy=>by
    rcases AG hpairs y hy with h | h
    . exfalso;have hl:=MF hclosed (hanc _ _ (Ai.1 h)) hedges;have hyo:=hops y (by simp[hy]);have hyl:y.1<ops.size:=(Array.getElem?_eq_some_iff.1 hyo).1;exact (hget listed y.1 (by omega)).1 ((hR y.1 hyl).2 (by simp only[List.map_append,List.mem_append];exact .inl (List.mem_map.2 ⟨y,hy,rfl⟩))) hl
    exact h
   obtain ⟨s1,hst,hrest⟩:=JG hap hr;have hxo:=hops x (by simp);have hxl:x.1<ops.size:=(Array.getElem?_eq_some_iff.1 hxo).1
   have hdup:x.1∉(pre++post).map (·.1):=λhm=>by
    simp only[List.map_append,List.map_cons,List.pairwise_append,List.pairwise_cons] at hsort;simp only[List.map_append,List.mem_append] at hm;rcases hm with hm | hm
    . have:=hsort.2.2 _ hm x.1 (by simp);omega
    have:=hsort.2.1.1 _ hm;omega
   have hgo:∀{K:Act->World->Prop},(∀J' a' w',Rel N w0 F0 J' a' w' s1->K a' w')->wpOp P ops Q x.1 K a w:=by
    intro K hK;cases hst with
    | plain ρ _ hrec hρ _=>
      have hobx:AllOb (Yu P w0) (K4 P w0) ρ.obs:=by
       cases hmv:CQ orcs x.1 x.2.1 with
       | none=>rw[hρ hmv];exact hobs x (by simp)
       | some m=>obtain ⟨_,_,_,_,e⟩:=GR hmv hrec;rw[e];trivial
      exact DI (P:=P) htt hxo hrec hobx hrel hK
    | ghost t q th rr o' g gobs ρ _ g2 g3 g4=>
      have hobx:=hobs x (by simp);rw[g4] at hobx;obtain ⟨hb1,hb2⟩:=AllOb.append hobx;obtain ⟨J1,hrel1⟩:=Qa2 g2 hb1 hrel;exact DI (P:=P) htt hxo g3 hb2 hrel1 hK
   refine hgo λJ' a' w' hrel'=>ih (pre++post) _ _ J' a' w' (by simp at hn⊢;omega) (by simpa using hsz) ?_ ?_ ?_ ?_ (JI hpairs) ?_ hrest hrel'
   . simp only[List.map_append,List.map_cons,List.pairwise_append,List.pairwise_cons] at hsort⊢;exact ⟨hsort.1,hsort.2.1.2,λa ha b hb=>hsort.2.2 a ha b (by simp[hb])⟩
   . intro y hy;exact hops y (by simp only[List.mem_append,List.mem_cons] at hy⊢;exact hy.elim .inl λh=> .inr (.inr h))
   . intro j hj;by_cases hji:x.1=j
     . subst hji;constructor
       . intro h;simp[hsz,hj] at h
       intro h;exact absurd h hdup
     rw[getD_set_ne true hji,hR j hj];simp only[List.map_append,List.map_cons,List.mem_append,List.mem_cons];exact ⟨λh=>h.elim .inl λh=>h.elim (λe=>absurd e.symm hji) .inr,λh=>h.elim .inl λh=> .inr (.inr h)⟩
   . intro j o ho hl e he;by_cases hji:x.1=j
     . subst hji;exact getD_set_true (hedges o ho e he)
     rw[getD_set_ne false hji] at hl;exact getD_set_true (hclosed j o ho hl e he)
   intro y hy;exact hobs y (by simp only[List.mem_append,List.mem_cons] at hy⊢;exact hy.elim .inl λh=> .inr (.inr h))
theorem Tp (htt:De P tt=true) (hm:P.follows .mixedOrders=true) {Q:Exit->St->Prop} {s s':St} (orcs:List (Nat×Orc)) (ts bs:List Nat) {id:Nat} {ops:Array Oper} {obs:List Ob} (h:Cp tt N orcs ops.toList ts bs s=some (s',obs))
 (hob:AllOb (Yu P w0) (K4 P w0) obs) (hQ:Q .normal s'):AWP P N w0 F0 (.region id ops true) Q s:=λJ a w hr=>by
 unfold Cp at h;cases he:QW ops.toList 0 with
 | false=>rw[he] at h;cases h
 | true =>
   rw[he] at h;simp only[cond_true] at h;split at h
   . rename_i s1 R h1;cases hp:F7 orcs ops.toList (GP ops.toList []) R with
     | false=>rw[hp] at h;cases h
     | true=>
       rw[hp] at h;obtain ⟨rfl,rfl⟩:s1.keep ts bs=s'/\Qbh R=obs:=by simpa using h
       obtain ⟨hruns,hidx,hop⟩:=Od h1;have hlen:R.length=ops.size:=by have:=congrArg List.length hop;simpa using this
       refine wp_region_any hm (Qfa (P:=P) htt (PR (acc:= []) (l:=ops.toList) rfl (λq x hx=>by simp[Qak] at hx)) (λj o ho e hx=>by have:=JH he j o (by simpa using ho) e hx;omega)
        (λJ' a' w' hR=>⟨J',_,hR.less (λt v hv=>Bm hv) (λk c hc=>Bm hc),hQ⟩) ops.size R _ s J a _ hlen (by simp) ?_ ?_ ?_ ?_ hp (Qe9 hob) hruns ?_)
       . rw[hidx];exact List.pairwise_lt_range'
       . intro x hx;obtain ⟨k,hk,rfl⟩:=List.getElem_of_mem hx
         have e1:R[k].1=k:=by
          have:=congrArg (·[k]?) hidx;simp only[List.getElem?_map,List.getElem?_eq_getElem hk,Option.map_some] at this;rw[List.getElem?_range' (by simpa [←hlen] using hk)] at this;simpa using this
         have e2:=congrArg (·[k]?) hop;simp only[List.getElem?_map,List.getElem?_eq_getElem hk,Option.map_some] at e2;rw[e1];simpa using e2.symm
       . intro j hj;rw[hidx];simp[hj,List.mem_range'_1]
       . intro j o _ hl;simp only[Array.getD_eq_getD_getElem?,Array.getElem?_replicate] at hl;split at hl<;>simp at hl
       refine {hr with below:= ?_,fl:=hr.fl,bo:= ?_,tm:= ?_}
       . exact hr.below.trans ⟨rfl,rfl,rfl,Nat.le_refl _,λ_ _=>rfl⟩
       . intro k c hk;obtain ⟨h1,h2,h3,arr,e,h4,h5⟩:=hr.bo k c hk;exact ⟨h1,h2,h3,arr,e,h4,h5.imp λv c _ hc=>hc.keep ⟨λb hb=>⟨hb,rfl⟩,λk _=>⟨rfl,λ_ _=>rfl⟩,λ_ _=>rfl⟩⟩
       intro t v hv;exact (hr.tm t v hv).keep λc _=>⟨λb hb=>⟨hb,rfl⟩,λk _=>⟨rfl,λ_ _=>rfl⟩,λ_ _=>rfl⟩
   cases h
end
open GoE (enc wide)
def nth {α:Type} [Inhabited α] (l:List α) (i:Nat):α:=l.getD i default
theorem Wr {α:Type} [Inhabited α] {l:List α} {i:Nat} (h:i<l.length):l[i]? =some (nth l i):=by
 simp[nth,List.getD,List.getElem?_eq_getElem h]
theorem Gw {α:Type} [Inhabited α] {l:List α} {i:Nat} {a:α} (h:l[i]? =some a):nth l i=a:=by simp[nth,List.getD,h]
def dn (s:Int):Nat->Int
 | 0=>s
 | k+1=>dn s k-1
theorem DR (s:Int):∀k,dn s k=s-(k:Int)
 | 0=>by simp[dn]
 | k+1=>by rw[dn,DR s k];omega
section
variable {α:Type} [GoE α]
theorem AH {J:Inj} {w:World} {v:Value} {tok:Tok} {l:List α} (h:CR J w v (.slc tok (GoD.n α) (eL l))):wide l:=by
 cases tok with
 | sh=>exact Lt h
 | emp=>
   obtain ⟨h,_⟩:=h;cases l with
   | nil=>exact ⟨Nat.zero_le _,by simp⟩
   | cons a l=>simp[eL] at h
 | vw k=>exact Lt h
 | put=>exact h.elim
 | own d k=>
   cases d with
   | true=>exact Lt (OwnDeep.vv (X:=λ_=>True) h λ_ _=>⟨trivial,rfl⟩)
   | false=>exact Lt (OwnTop.vv (X:=λ_=>True) h (λ_ _=>⟨trivial,rfl⟩) λ_ _=>⟨trivial,rfl⟩)
theorem VH {l:List α} {i:Nat} {a:α} (h:l[i]? =some a) (hw:wide l):wide a:=hw.2 a (List.mem_of_getElem? h)
theorem Ei {l:List α} (hw:wide l):l.length<=1073741824:=hw.1
theorem VI {β:Type} [GoE β] {p:α×β} (hw:wide p):wide p.2:=hw.2
theorem AI {l:List α} (k:Nat) (hw:wide l):wide (List.take k l):=⟨Nat.le_trans (by simp[Nat.min_le_right]) hw.1,λa h=>hw.2 a (List.mem_of_mem_take h)⟩
theorem AJ {l:List α} (k:Nat) (hw:wide l):wide (List.drop k l):=⟨Nat.le_trans (by simp) hw.1,λa h=>hw.2 a (List.mem_of_mem_drop h)⟩
end
section
variable {P:Program} {N:Nat} {w0:Base} {F0:Nat->Prop} {Q:Exit->St->Prop} {s s':St} {c:Code} {α:Type} [GoE α]
end
abbrev PV.i (n:Int):PV:= .int .i64 n
abbrev PV.b (b:Bool):PV:= .bool b
abbrev PV.s (x:ByteArray):PV:= .str x
abbrev PV.h {α:Type} [GoE α] (l:List α):PV:= .slc (GoD.n α) (eL l)
abbrev C.i (n:Int):C:= .int .i64 n
abbrev C.b (b:Bool):C:= .bool b
abbrev C.s (x:ByteArray):C:= .str x
abbrev C.e (n:Nat):C:= .slc .emp n []
abbrev C.h {α:Type} [GoE α] (l:List α):C:= .slc .sh (GoD.n α) (eL l)
abbrev C.o {α:Type} [GoE α] (k:Nat) (l:List α):C:= .slc (.own true k) (GoD.n α) (eL l)
abbrev C.q {α:Type} [GoE α] (k:Nat) (l:List α):C:= .slc (.own false k) (GoD.n α) (eL l)
abbrev C.v {α:Type} [GoE α] (k:Nat) (l:List α):C:= .slc (.vw k) (GoD.n α) (eL l)
abbrev AV.i (n:Int):AV:= .one (.int .i64 n)
abbrev AV.b (b:Bool):AV:= .one (.bool b)
abbrev AV.s (x:ByteArray):AV:= .one (.str x)
abbrev AV.e (n:Nat):AV:= .one (.slc .emp n [])
abbrev AV.h {α:Type} [GoE α] (l:List α):AV:= .one (.slc .sh (GoD.n α) (eL l))
abbrev AV.o {α:Type} [GoE α] (k:Nat) (l:List α):AV:= .one (.slc (.own true k) (GoD.n α) (eL l))
abbrev AV.q {α:Type} [GoE α] (k:Nat) (l:List α):AV:= .one (.slc (.own false k) (GoD.n α) (eL l))
abbrev AV.v {α:Type} [GoE α] (k:Nat) (l:List α):AV:= .one (.slc (.vw k) (GoD.n α) (eL l))
abbrev AV.p (k o:Nat):AV:= .one (.ptr k o)
abbrev AV.a (cs:List C):AV:= .agg cs
section
variable {A:Nat->List AV->AV->Prop} {T:TakeT}
theorem o0:AllOb A T []:=trivial
theorem o1 {x:Ob} (h:x.holds A T):AllOb A T [x]:=h
theorem o2 {x y:Ob} {r:List Ob} (h:x.holds A T) (h':AllOb A T (y::r)):AllOb A T (x::y::r):=⟨h,h'⟩
end
section
variable {α:Type} [GoE α]
theorem Qg0 (l:List α):AV.one (.int .i64 ((eL l).length:Int))=AV.one (.int .i64 (l.length:Int)):=by rw[Y5]
theorem Qs {a b:Bool} (h:a=b):AV.one (.bool a)=AV.one (.bool b):=h▸rfl
theorem zB (p:Prop) [Decidable p] (h:p:=by omega):AV.one (.bool (decide p))=AV.one (.bool true):=Qs (decide_eq_true h)
theorem zC (p:Prop) [Decidable p] (h:¬p:=by omega):AV.one (.bool (decide p))=AV.one (.bool false):=Qs (decide_eq_false h)
theorem PS (t:Tok) (n k:Nat) (lo:Int) (l:List α) (hk:lo.toNat=k):AV.one (.slc t n (((eL l).take (Int.toNat ((eL l).length:Int))).drop (Int.toNat lo)))=AV.one (.slc t n (eL (List.drop k l))):=by
 subst hk;rw[Int.toNat_natCast,List.take_length,Qe1]
theorem VJ (t:Tok) (n k:Nat) (hi:Int) (l:List α) (hk:hi.toNat=k):AV.one (.slc t n (((eL l).take (Int.toNat hi)).drop (Int.toNat 0)))=AV.one (.slc t n (eL (List.take k l))):=by
 subst hk;rw[Qe0];rfl
theorem MG {l:List α} {i:Int} {k:Nat} {a:α} (h0:0<=i) (hk:i.toNat=k) (h:l[k]? =some a):0<=i/\(eL l)[i.toNat]? =some (enc a):=⟨h0,by rw[hk];exact PA h⟩
theorem Lb {a b m n:Nat} (ha:a=m) (hb:b=n) (h:m+n<=1073741824):a+b<=1073741824:=by omega
theorem Qdn {l:List α} {lo hi:Int} (h0:0<=lo) (h1:lo<=hi) (h2:hi<=(l.length:Int)):0<=lo/\lo<=hi/\hi<=((eL l).length:Int):=by rw[Y5];exact ⟨h0,h1,h2⟩
theorem PT {l:List α} {lo:Int} (h0:0<=lo) (h2:lo<=(l.length:Int)):0<=lo/\lo<=((eL l).length:Int)/\((eL l).length:Int)<=((eL l).length:Int):=by rw[Y5];exact ⟨h0,h2,Int.le_refl _⟩
end
theorem Uw {α:Type} [GoE α] {A B:List (List PV)} {a b:List α} (ha:A=eL a) (hb:B=eL b):A++B=eL (a++b):=by rw[ha,hb,OZ]
theorem Qbk {α:Type} [GoE α] (n:Nat) (a:α):List.replicate n (enc a)=eL (List.replicate n a):=by simp[eL]
theorem Zq {α:Type} [BEq α] [LawfulBEq α] {a b:α} (h:(a==b)=false):a≠b:=by simpa using h
theorem L5 {α:Type} [BEq α] [LawfulBEq α] {a b:α} (h:(a !=b)=true):a≠b:=by simpa using h
theorem W9 {α:Type} [BEq α] [LawfulBEq α] {a b:α} (h:(a !=b)=false):a=b:=by simpa using h
theorem X6 {α:Sort _} {c:Bool} {a b r:α} (h:c=true) (e:a=r):(bif c then a else b)=r:=by subst h;exact e
theorem Qy {α:Sort _} {c:Bool} {a b r:α} (h:c=false) (e:b=r):(bif c then a else b)=r:=by subst h;exact e
def lt {α R:Type} (t:α) (f:α->R):R:=f t
inductive Rd (R S T:Type) where
 | next (s:S)
 | brk (t:T)
 | ret (r:R)
inductive Out (R T:Type) where
 | brk (t:T)
 | ret (r:R)
def Out.on {R T:Type} (o:Out R T) (f:T->R):R:=match o with
 | .brk t=>f t
 | .ret r=>r
theorem Ur {R T:Type} {o:Out R T} {f:T->R} {t:T} {r:R} (h:o= .brk t) (e:f t=r):o.on f=r:=by subst h;exact e
theorem M5 {R T:Type} {o:Out R T} {f:T->R} {r:R} (h:o= .ret r):o.on f=r:=by subst h;rfl
def Xp {α R S T:Type} (f:Nat->α->S->Rd R S T) (e:Nat->S->T):List α->Nat->S->Out R T
 | [],k,s=> .brk (e k s)
 | a::l,k,s=>match f k a s with
   | .next s'=>Xp f e l (k+1) s'
   | .brk t=> .brk t
   | .ret r=> .ret r
def Wb {R S T:Type} (f:Nat->S->Rd R S T) (e:Nat->S->T):Nat->Nat->S->Out R T
 | 0,k,s=> .brk (e k s)
 | n+1,k,s=>match f k s with
   | .next s'=>Wb f e n (k+1) s'
   | .brk t=> .brk t
   | .ret r=> .ret r
section
variable {α R S T:Type} {f:Nat->α->S->Rd R S T} {e:Nat->S->T} {l:List α} {k:Nat} {s:S} {a:α} {o:Out R T}
theorem VK (h:l[k]? =some a):l.drop k=a::l.drop (k+1):=by
 obtain ⟨hlt,rfl⟩:=List.getElem?_eq_some_iff.1 h;exact List.drop_eq_getElem_cons hlt
theorem Qw {s':S} (hx:l[k]? =some a) (h:f k a s= .next s') (hI:o=Xp f e (l.drop k) k s):o=Xp f e (l.drop (k+1)) (k+1) s':=by
 rw[hI,VK hx];simp only[Xp,h]
theorem GV {t:T} (hx:l[k]? =some a) (h:f k a s= .brk t) (hI:o=Xp f e (l.drop k) k s):o= .brk t:=by
 rw[hI,VK hx];simp only[Xp,h]
theorem Z6 {r:R} (hx:l[k]? =some a) (h:f k a s= .ret r) (hI:o=Xp f e (l.drop k) k s):o= .ret r:=by
 rw[hI,VK hx];simp only[Xp,h]
theorem Xy {t:T} (hk:k=l.length) (h:e k s=t) (hI:o=Xp f e (l.drop k) k s):o= .brk t:=by
 rw[hI,hk,List.drop_length,←hk];simp only[Xp,h]
end
section
variable {R S T:Type} {f:Nat->S->Rd R S T} {e:Nat->S->T} {n k:Nat} {s:S} {o:Out R T}
theorem K1 {s':S} (hk:k<n) (h:f k s= .next s') (hI:o=Wb f e (n-k) k s):o=Wb f e (n-(k+1)) (k+1) s':=by
 rw[hI,show n-k=n-(k+1)+1 by omega];simp only[Wb,h]
theorem GW {r:R} (hk:k<n) (h:f k s= .ret r) (hI:o=Wb f e (n-k) k s):o= .ret r:=by
 rw[hI,show n-k=n-(k+1)+1 by omega];simp only[Wb,h]
theorem Cq {t:T} (hk:k=n) (h:e k s=t) (hI:o=Wb f e (n-k) k s):o= .brk t:=by
 rw[hI,hk,Nat.sub_self,←hk];simp only[Wb,h]
end
def whl {R S T:Type} (f:S->Rd R S T):Nat->S->Option (Out R T)
 | 0,_=>none
 | n+1,s=>match f s with
   | .next s'=>whl f n s'
   | .brk t=>some (.brk t)
   | .ret r=>some (.ret r)
section
variable {R S T:Type} {f:S->Rd R S T} {n:Nat} {s:S} {o:Out R T}
theorem Qbl {s':S} (h:f s= .next s') (hI:whl f (n+1) s=some o):whl f n s'=some o:=by simpa only[whl,h] using hI
theorem Qfb {t:T} (h:f s= .brk t) (hI:whl f (n+1) s=some o):o= .brk t:=by simp only[whl,h] at hI;exact (Option.some.inj hI).symm
theorem Qfc {r:R} (h:f s= .ret r) (hI:whl f (n+1) s=some o):o= .ret r:=by simp only[whl,h] at hI;exact (Option.some.inj hI).symm
end
instance {R T:Type} [Inhabited T]:Inhabited (Out R T):=⟨.brk default⟩
def Lh {R S T:Type} [Inhabited T] (f:S->Rd R S T) (n:Nat) (s:S):Out R T:=(whl f n s).getD default
theorem M6 {R S T:Type} [Inhabited T] {f:S->Rd R S T} {n:Nat} {s:S} (h:(whl f n s).isSome=true):whl f n s=some (Lh f n s):=by
 unfold Lh;cases hw:whl f n s with
 | none=>rw[hw] at h;cases h
 | some o=>rfl
theorem M7 {R S T:Type} {f:S->Rd R S T} {s:S} {o:Out R T}:¬whl f 0 s=some o:=by simp[whl]
def QL (id:Nat) (A B:St->Prop) (Q:Exit->St->Prop):Exit->St->Prop
 | .normal,s=>A s
 | .exit i,s=>bif Nat.beq i id then B s else Q (.exit i) s
 | e,s=>Q e s
section
variable {P:Program} {N:Nat} {w0:Base} {F0:Nat->Prop} {Q:Exit->St->Prop} {s s':St} {c:Code} {σ τ:Type} {id:Nat}
theorem Wm (mk:Nat->σ->St) (after:τ->St) (I:Nat->σ->Prop) (D:τ->Prop) (len:Nat) (x0:σ) (h0:Weak s (mk 0 x0)) (i0:I 0 x0)
 (hr:∀k x,k<len->I k x->AWP P N w0 F0 c (QL id (λs'=>∃x',Weak s' (mk (k+1) x')/\I (k+1) x') (λs'=>∃y,Weak s' (after y)/\D y) Q) (mk k x))
 (he:∀k x,k=len->I k x->AWP P N w0 F0 c (QL id (λ_=>False) (λs'=>∃y,Weak s' (after y)/\D y) Q) (mk k x))
 (ha:∀y,D y->Q .normal (after y)):AWP P N w0 F0 (.block id (.loop c)) Q s:=by
 refine Qx (Ik h0 (Qa7 (λn s=>∃k x,k<=len/\n=len-k/\s=mk k x/\I k x) (n:=len) ⟨0,x0,Nat.zero_le _,by omega,rfl,i0⟩ ?_))
 rintro n _ ⟨k,x,hk,rfl,rfl,hi⟩
 have hex:∀(A:St->Prop) (i:Nat) (s':St),QL id A (λs'=>∃y,Weak s' (after y)/\D y) Q (.exit i) s'->∀(J:Inj) (a:Act) (w:World),Rel N w0 F0 J a w s'->∃J s,Rel N w0 F0 J a w s/\Exit.inBlockS id Q (.exit i) s:=by
  intro A i s' hq J a w hR;simp only[QL] at hq;cases hb:Nat.beq i id with
  | true=>
    rw[hb] at hq;obtain ⟨y,hw,hd⟩:=hq;obtain ⟨J',hR'⟩:=hw N w0 F0 J a w hR;exact ⟨J',_,hR',by simp only[Exit.inBlockS,hb,cond_true];exact ha y hd⟩
  | false=>
    rw[hb] at hq;exact ⟨J,s',hR,by simp only[Exit.inBlockS,hb,cond_false];exact hq⟩
 intro J a w hrel;by_cases h:k<len
 . refine wp_mono (hr k x h hi J a w hrel) ?_
   rintro e a' w' ⟨J',s',hR,hq⟩
   cases e with
   | normal=>
     obtain ⟨x',hw,hi'⟩:=hq;exact ⟨J',s',hR,len-(k+1),_,by omega,hw,k+1,x',by omega,rfl,rfl,hi'⟩
   | exit i=>exact hex _ i s' hq J' a' w' hR
   | _=>exact ⟨J',s',hR,hq⟩
 obtain rfl:k=len:=by omega
 refine wp_mono (he _ x rfl hi J a w hrel) ?_
 rintro e a' w' ⟨J',s',hR,hq⟩
 cases e with
 | normal=>exact hq.elim
 | exit i=>exact hex _ i s' hq J' a' w' hR
 | _=>exact ⟨J',s',hR,hq⟩
theorem MH (mk:σ->St) (after:τ->St) (I:Nat->σ->Prop) (D:τ->Prop) (n:Nat) (x0:σ) (h0:Weak s (mk x0)) (i0:I n x0) (hz:∀x,¬I 0 x)
 (hr:∀n x,I (n+1) x->AWP P N w0 F0 c (QL id (λs'=>∃x',Weak s' (mk x')/\I n x') (λs'=>∃y,Weak s' (after y)/\D y) Q) (mk x))
 (ha:∀y,D y->Q .normal (after y)):AWP P N w0 F0 (.block id (.loop c)) Q s:=by
 refine Wm (λ_=>mk) after (λk x=>∃m,m+k=n/\I m x) D n x0 h0 ⟨n,rfl,i0⟩ (λk x hk ⟨m,hm,hi⟩=> ?_) (λk x hk ⟨m,hm,hi⟩=> ?_) ha
 . obtain ⟨m,rfl⟩:∃j,m=j+1:=⟨m-1,by omega⟩;refine Qa6 (hr m x hi) λe s' hq=> ?_
   cases e with
   | normal=>obtain ⟨x',hw,hi'⟩:=hq;exact ⟨x',hw,m,by omega,hi'⟩
   | _=>exact hq
 obtain rfl:m=0:=by omega
 exact (hz x hi).elim
def QJ (s3:St) (e:Exit) (s':St):Prop:=e= .normal/\Weak s' s3
theorem Qbm (s3:St) (b:Bool) (h1:b=true->AWP P N w0 F0 c (QJ s3) s) (h0:b=false->AWP P N w0 F0 c (QJ s3) s) (hQ:Q .normal s3):AWP P N w0 F0 c Q s:=by
 have key:AWP P N w0 F0 c (QJ s3) s:=by cases hb:b with
  | true=>exact h1 hb
  | false=>exact h0 hb
 intro J a w hr;refine wp_mono (key J a w hr) ?_
 rintro e a' w' ⟨J',s',hR,rfl,hw⟩
 obtain ⟨J2,hR2⟩:=hw N w0 F0 J' a' w' hR;exact ⟨J2,s3,hR2,hQ⟩
theorem PU (e:s=s'):Weak s s':=e▸Weak.refl s
theorem Ya (b:Bool) (h1:b=true->AWP P N w0 F0 c Q s) (h0:b=false->AWP P N w0 F0 c Q s):AWP P N w0 F0 c Q s:=by cases hb:b with
 | true=>exact h1 hb
 | false=>exact h0 hb
theorem PW {t:Nat} {x y:Code} (hc:get s.tm t=some (.one (.bool true))) (h1:AWP P N w0 F0 x Q s):AWP P N w0 F0 (.cond (.tmp t) x y) Q s:=Pi hc (λ_=>h1) (λh=>by cases h)
theorem Ps {t:Nat} {x y:Code} (hc:get s.tm t=some (.one (.bool false))) (h1:AWP P N w0 F0 y Q s):AWP P N w0 F0 (.cond (.tmp t) x y) Q s:=Pi hc (λh=>by cases h) (λ_=>h1)
theorem MI {t:Nat} {x y:Code} {b:Bool} (hc:get s.tm t=some (.one (.bool b))) (hb:b=true) (h1:AWP P N w0 F0 x Q s):AWP P N w0 F0 (.cond (.tmp t) x y) Q s:=Pi hc (λ_=>h1) (λh=>absurd (hb.symm.trans h) (by decide))
theorem MJ {t:Nat} {x y:Code} {b:Bool} (hc:get s.tm t=some (.one (.bool b))) (hb:b=false) (h1:AWP P N w0 F0 y Q s):AWP P N w0 F0 (.cond (.tmp t) x y) Q s:=Pi hc (λh=>absurd (hb.symm.trans h) (by decide)) (λ_=>h1)
end
theorem PX {a b:Bool} (h:(a&&b)=true):a=true:=by cases a<;>simp_all
theorem MK {a b:Bool} (h:(a&&b)=true):b=true:=by cases a<;>simp_all
theorem VL {a b:Bool} (h:(a|| b)=false):a=false:=by cases a<;>simp_all
theorem UJ {a b:Bool} (h:(a|| b)=false):b=false:=by cases a<;>simp_all
theorem Ht {b:Bool} (h:(!b)=true):b=false:=by cases b<;>simp_all
theorem Ka {b:Bool} (h:(!b)=false):b=true:=by cases b<;>simp_all
def Qfd {α:Type} (d:List Nat):List (Nat×α)->List (Nat×α)
 | []=> []
 | p::r=>bif Lk p.1 d then Qfd d r else p::Qfd d r
def Qip {α:Type} (u:List (Nat×α)) (d:List Nat) (l:List (Nat×α)):List (Nat×α):=u++Qfd d l
def Iq {α:Type}:List (Nat×α)->List Nat
 | []=> []
 | p::r=>p.1::Iq r
def St.up (s:St) (u:List (Nat×AV)) (d:List Nat) (bu:List (Nat×List C)) (bd:List Nat):St:=⟨Qip u d s.tm,Qip bu bd s.bx⟩
def St.fit (s s':St):St:=s.keep (Iq s'.tm) (Iq s'.bx)
theorem Qh {s s':St} (h:s.fit s'=s'):Weak s s':=QR _ _ h
theorem zA {α:Type} {e:α} {s s':St} (h:s.fit s'=s'):e=e/\Weak s s':=⟨rfl,Qh h⟩
def St.cellT (s:St) (t i:Nat):Option C:=match get s.tm t with
 | some (.one c)=>(match i with | 0=>some c | _=>none)
 | some (.agg cs)=>cs[i]?
 | _=>none
def St.cellB (s:St) (b i:Nat):Option C:=match get s.bx b with
 | some cs=>cs[i]?
 | _=>none
section
variable {P:Program} {N:Nat} {w0:Base} {F0:Nat->Prop} {Q:Exit->St->Prop} {s:St} {c:Code}
theorem ck {t:Nat} {x y:Code} (b:Bool) (h1:b=true->AWP P N w0 F0 x Q s) (h2:b=false->AWP P N w0 F0 y Q s) (hc:get s.tm t=some (.one (.bool b)):=by kernel_rfl):AWP P N w0 F0 (.cond (.tmp t) x y) Q s:=Pi hc h1 h2
theorem ckT {t:Nat} {x y:Code} (h1:AWP P N w0 F0 x Q s) (hc:get s.tm t=some (.one (.bool true)):=by kernel_rfl):AWP P N w0 F0 (.cond (.tmp t) x y) Q s:=PW hc h1
theorem ckF {t:Nat} {x y:Code} (h1:AWP P N w0 F0 y Q s) (hc:get s.tm t=some (.one (.bool false)):=by kernel_rfl):AWP P N w0 F0 (.cond (.tmp t) x y) Q s:=Ps hc h1
theorem ckt {t:Nat} {x y:Code} {b:Bool} (hb:b=true) (h1:AWP P N w0 F0 x Q s) (hc:get s.tm t=some (.one (.bool b)):=by kernel_rfl):AWP P N w0 F0 (.cond (.tmp t) x y) Q s:=MI hc hb h1
theorem ckf {t:Nat} {x y:Code} {b:Bool} (hb:b=false) (h1:AWP P N w0 F0 y Q s) (hc:get s.tm t=some (.one (.bool b)):=by kernel_rfl):AWP P N w0 F0 (.cond (.tmp t) x y) Q s:=MJ hc hb h1
theorem jn (u:List (Nat×AV)) (d:List Nat) (bu:List (Nat×List C)) (bd:List Nat) (b:Bool) (h1:b=true->AWP P N w0 F0 c (QJ (s.up u d bu bd)) s) (h0:b=false->AWP P N w0 F0 c (QJ (s.up u d bu bd)) s) (hQ:Q .normal (s.up u d bu bd)):AWP P N w0 F0 c Q s:=Qbm _ b h1 h0 hQ
theorem eqn (u:List (Nat×AV)) (d:List Nat) (bu:List (Nat×List C)) (bd:List Nat) (h:s.fit (s.up u d bu bd)=s.up u d bu bd) (k:AWP P N w0 F0 c Q (s.up u d bu bd)):AWP P N w0 F0 c Q s:=Ik (Qh h) k
theorem PY {J:Inj} {a:Act} {w:World} (h:Rel N w0 F0 J a w s) {t i:Nat} {x:C} (hc:s.cellT t i=some x):∃u,CR J w u x:=by
 unfold St.cellT at hc;split at hc
 . rename_i y hg;split at hc
   . obtain rfl:=Option.some.inj hc;exact ⟨_,h.tm t _ hg⟩
   cases hc
 . rename_i cs hg;obtain ⟨vs,_,ha⟩:=h.tm t _ hg;obtain ⟨u,_,hu⟩:=ha.get' hc;exact ⟨u,hu⟩
 cases hc
theorem Qfe {J:Inj} {a:Act} {w:World} (h:Rel N w0 F0 J a w s) {b i:Nat} {x:C} (hc:s.cellB b i=some x):∃u,CR J w u x:=by
 unfold St.cellB at hc;split at hc
 . rename_i cs hg;obtain ⟨_,_,_,arr,e,_,ha⟩:=h.bo b _ hg;obtain ⟨u,_,hu⟩:=ha.get' hc;exact ⟨u,hu⟩
 cases hc
theorem wdT {α:Type} [GoE α] (t i:Nat) (tok:Tok) (l:List α) (k:wide l->AWP P N w0 F0 c Q s) (h:s.cellT t i=some (.slc tok (GoD.n α) (eL l)):=by kernel_rfl):AWP P N w0 F0 c Q s:=λJ a w hr=>k (by obtain ⟨u,hu⟩:=PY hr h;exact AH hu) J a w hr
theorem wdB {α:Type} [GoE α] (b i:Nat) (tok:Tok) (l:List α) (k:wide l->AWP P N w0 F0 c Q s) (h:s.cellB b i=some (.slc tok (GoD.n α) (eL l)):=by kernel_rfl):AWP P N w0 F0 c Q s:=λJ a w hr=>k (by obtain ⟨u,hu⟩:=Qfe hr h;exact AH hu) J a w hr
theorem stT (t i:Nat) (x:ByteArray) (k:x.size<=9223372036854775807->AWP P N w0 F0 c Q s) (h:s.cellT t i=some (.str x):=by kernel_rfl):AWP P N w0 F0 c Q s:=λJ a w hr=>k (by obtain ⟨u,hu⟩:=PY hr h;exact hu.2) J a w hr
theorem blk {σ τ:Type} {id:Nat} (u:Nat->σ->List (Nat×AV)) (d:List Nat) (bu:Nat->σ->List (Nat×List C)) (bd:List Nat) (ua:τ->List (Nat×AV)) (da:List Nat) (ba:τ->List (Nat×List C)) (bda:List Nat) (I:Nat->σ->Prop) (D:τ->Prop) (len:Nat) (x0:σ)
 (h0:Weak s (s.up (u 0 x0) d (bu 0 x0) bd)) (i0:I 0 x0)
 (hr:∀k x,k<len->I k x->AWP P N w0 F0 c (QL id (λs'=>∃x',Weak s' (s.up (u (k+1) x') d (bu (k+1) x') bd)/\I (k+1) x') (λs'=>∃y,Weak s' (s.up (ua y) da (ba y) bda)/\D y) Q) (s.up (u k x) d (bu k x) bd))
 (he:∀k x,k=len->I k x->AWP P N w0 F0 c (QL id (λ_=>False) (λs'=>∃y,Weak s' (s.up (ua y) da (ba y) bda)/\D y) Q) (s.up (u k x) d (bu k x) bd))
 (ha:∀y,D y->Q .normal (s.up (ua y) da (ba y) bda)):AWP P N w0 F0 (.block id (.loop c)) Q s:=Wm _ _ I D len x0 h0 i0 hr he ha
theorem blw {σ τ:Type} {id:Nat} (u:σ->List (Nat×AV)) (d:List Nat) (bu:σ->List (Nat×List C)) (bd:List Nat) (ua:τ->List (Nat×AV)) (da:List Nat) (ba:τ->List (Nat×List C)) (bda:List Nat) (I:Nat->σ->Prop) (D:τ->Prop) (n:Nat) (x0:σ)
 (h0:Weak s (s.up (u x0) d (bu x0) bd)) (i0:I n x0) (hz:∀x,¬I 0 x)
 (hr:∀n x,I (n+1) x->AWP P N w0 F0 c (QL id (λs'=>∃x',Weak s' (s.up (u x') d (bu x') bd)/\I n x') (λs'=>∃y,Weak s' (s.up (ua y) da (ba y) bda)/\D y) Q) (s.up (u x) d (bu x) bd))
 (ha:∀y,D y->Q .normal (s.up (ua y) da (ba y) bda)):AWP P N w0 F0 (.block id (.loop c)) Q s:=MH _ _ I D n x0 h0 i0 hz hr ha
end
theorem Js {a b:Int} (h:a=b):AV.i a=AV.i b:=h▸rfl
theorem cb {P:Program} {f:Nat} {args:List AV} {a b:Bool} (h:a=b) (c:ACalls P f args (.b a)):ACalls P f args (.b b):=h▸c
theorem DS {p:Prop} [Decidable p] (h:¬p):AV.b (decide p)=AV.b false:=by rw[decide_eq_false h]
theorem Yg {s s':St} (sw:List (Nat×Nat)) (h:(s.swaps sw).fit s'=s'):Weak s s':=(ZT sw s).trans (Qh h)
theorem PZ {s s':St} (os:List (Bool×Nat×Nat×Bool×Nat×Nat)) (fz ds:List Nat) (sw:List (Nat×Nat)) (h:((((s.opens os).map (Vp (Xo fz) none)).demotes ds).swaps sw).fit s'=s'):Weak s s':=
 (R7 os s).trans ((N9 fz rfl).trans ((Lr ds _).trans (Yg sw h)))
theorem opn {P:Program} {N:Nat} {w0:Base} {F0:Nat->Prop} {Q:Exit->St->Prop} {s:St} {c:Code} (l:List (Bool×Nat×Nat×Bool×Nat×Nat)) (h:AWP P N w0 F0 c Q (s.opens l)):AWP P N w0 F0 c Q s:=OU l rfl h
open GoE (enc wide)
def PL (A:Nat->List AV->AV->Prop) (T:TakeT) (_:List (Nat×Orc)) (obs:List Ob):Prop:=AllOb A T obs
section
variable {A:Nat->List AV->AV->Prop} {T:TakeT} {orcs:List (Nat×Orc)} {obs:List Ob}
theorem Gx {x:Ob} {r:List Ob} (h:x.holds A T) (k:AllOb A T r):AllOb A T (x::r):=by
 cases r with
 | nil=>exact h
 | cons y r=>exact ⟨h,k⟩
theorem p0:PL A T [] []:=trivial
theorem px {x:Ob} (h:x.holds A T) (k:PL A T orcs obs):PL A T orcs (x::obs):=Gx h k
theorem po (i:Nat) (o:Orc) (k:PL A T orcs obs):PL A T ((i,o)::orcs) obs:=k
theorem pe (i:Nat) {a b:AV} (h:a=b) (k:PL A T orcs obs):PL A T ((i,.val b)::orcs) (.eq a b::obs):=Gx (x:= .eq a b) h k
theorem pr (i:Nat) {l:List (List PV)} {j:Int} {r:List PV} (h:0<=j/\l[j.toNat]? =some r) (k:PL A T orcs obs):PL A T ((i,.row r)::orcs) (.elem l j r::obs):=Gx (x:= .elem l j r) h k
theorem pR (i:Nat) {l:List (List PV)} {j:Int} {r:List PV} (h:0<=j/\l[j.toNat]? =some r) (k:PL A T orcs obs):PL A T ((i,.rowE r)::orcs) (.elem l j r::obs):=Gx (x:= .elem l j r) h k
end
section
variable {P:Program} {w0:Base} {T:TakeT} {orcs:List (Nat×Orc)} {obs:List Ob}
theorem pc [GoodAt P w0] (i:Nat) {f:Nat} {args:List AV} {r:AV} (h:ACalls P f args r) (k:PL (Yu P w0) T orcs obs):PL (Yu P w0) T ((i,.val r)::orcs) (.call f args r::obs):=Gx (Lu h) k
end
section
variable {A:Nat->List AV->AV->Prop} {T:TakeT} {orcs:List (Nat×Orc)} {obs:List Ob}
theorem pl (i:Nat) {α:Type} [GoE α] (l:List α) (k:PL A T orcs obs):PL A T ((i,.val (.i (l.length:Int)))::orcs) (.eq (.one (.int .i64 ((eL l).length:Int))) (.i (l.length:Int))::obs):=pe i (Qg0 l) k
theorem pt (i:Nat) {b:Bool} (h:b=true) (k:PL A T orcs obs):PL A T ((i,.val (.b true))::orcs) (.eq (.one (.bool b)) (.b true)::obs):=pe i (Qs h) k
theorem pf (i:Nat) {b:Bool} (h:b=false) (k:PL A T orcs obs):PL A T ((i,.val (.b false))::orcs) (.eq (.one (.bool b)) (.b false)::obs):=pe i (Qs h) k
theorem pg (i:Nat) {α:Type} [GoE α] {l:List α} (j:Int) {k:Nat} {a:α} (h:l[k]? =some a) (r:PL A T orcs obs) (h0:0<=j:=by omega) (hk:j.toNat=k:=by rfl):PL A T ((i,.row (enc a))::orcs) (.elem (eL l) j (enc a)::obs):=pr i (MG h0 hk h) r
theorem pG (i:Nat) {α:Type} [GoE α] {l:List α} (j:Int) {k:Nat} {a:α} (h:l[k]? =some a) (r:PL A T orcs obs) (h0:0<=j:=by omega) (hk:j.toNat=k:=by rfl):PL A T ((i,.rowE (enc a))::orcs) (.elem (eL l) j (enc a)::obs):=pR i (MG h0 hk h) r
theorem pn (i:Nat) {α:Type} [GoE α] {l:List α} {k:Nat} {a:α} (h:l[k]? =some a) (r:PL A T orcs obs):PL A T ((i,.row (enc a))::orcs) (.elem (eL l) (k:Int) (enc a)::obs):=pr i (MG (Int.natCast_nonneg k) rfl h) r
theorem pN (i:Nat) {α:Type} [GoE α] {l:List α} {k:Nat} {a:α} (h:l[k]? =some a) (r:PL A T orcs obs):PL A T ((i,.rowE (enc a))::orcs) (.elem (eL l) (k:Int) (enc a)::obs):=pR i (MG (Int.natCast_nonneg k) rfl h) r
theorem pa {α:Type} [GoE α] (a b:List α) (r:PL A T orcs obs) (h:a.length+b.length<=1073741824:=by first|omega|(simp only[List.length_cons,List.length_nil];omega) | (simp;omega) | simp):PL A T orcs (.len ((eL a).length+(eL b).length)::obs):=px (Ft (Lb (Y5 a) (Y5 b) h)) r
end
def nx (tt:List (Nat×TI)) (N:Nat) (orcs:List (Nat×Orc)) (ops:List Oper) (ts bs:List Nat) (s:St):St:=match La tt N orcs ops ops 0 s with
 | some (s',_)=>s'.keep ts bs
 | none=>s
def nd (tt:List (Nat×TI)) (N:Nat) (orcs:List (Nat×Orc)) (ops:List Oper) (ts bs:List Nat) (s:St):St:=match Cp tt N orcs ops ts bs s with
 | some (s',_)=>s'
 | none=>s
def hd (x _:St):St:=x
section
variable {P:Program} {N:Nat} {w0:Base} {F0:Nat->Prop} {Q:Exit->St->Prop} {s x:St} {c y:Code} {tt:List (Nat×TI)} {orcs:List (Nat×Orc)} {obs:List Ob} {id:Nat} {ops:Array Oper}
theorem rn0 (htt:De P tt=true) (ts bs:List Nat) (hob:PL (Yu P w0) (K4 P w0) orcs obs) (hQ:Q .normal (nx tt N orcs ops.toList ts bs s))
 (h:(La tt N orcs ops.toList ops.toList 0 s).map Prod.snd=some obs):AWP P N w0 F0 (.region id ops false) Q s:=by
 cases hr:La tt N orcs ops.toList ops.toList 0 s with
 | none=>rw[hr] at h;cases h
 | some x=>
   obtain ⟨s',obs'⟩:=x;rw[hr] at h;obtain rfl:obs'=obs:=Option.some.inj h;refine Zk htt orcs ts bs (s':=nx tt N orcs ops.toList ts bs s) ?_ hob hQ;unfold Vl nx;rw[hr]
theorem rN0 (htt:De P tt=true) (hm:P.follows .mixedOrders=true) (ts bs:List Nat) (hob:PL (Yu P w0) (K4 P w0) orcs obs) (hQ:Q .normal (nd tt N orcs ops.toList ts bs s))
 (h:(Cp tt N orcs ops.toList ts bs s).map Prod.snd=some obs):AWP P N w0 F0 (.region id ops true) Q s:=by
 cases hr:Cp tt N orcs ops.toList ts bs s with
 | none=>rw[hr] at h;cases h
 | some x=>
   obtain ⟨s',obs'⟩:=x;rw[hr] at h;obtain rfl:obs'=obs:=Option.some.inj h;refine Tp htt hm orcs ts bs (s':=nd tt N orcs ops.toList ts bs s) ?_ hob hQ;unfold nd;rw[hr]
theorem rn (htt:De P tt=true) (ts bs:List Nat) (hob:PL (Yu P w0) (K4 P w0) orcs obs) (hQ:Q .normal (hd (nx tt N orcs ops.toList ts bs s) s))
 (h:(La tt N orcs ops.toList ops.toList 0 s).map Prod.snd=some obs:=by kernel_rfl):AWP P N w0 F0 (.region id ops false) Q s:=rn0 htt ts bs (s:=s) hob hQ h
theorem sn (htt:De P tt=true) (ts bs:List Nat) (hob:PL (Yu P w0) (K4 P w0) orcs obs) (hQ:AWP P N w0 F0 y Q (hd (nx tt N orcs ops.toList ts bs s) s))
 (h:(La tt N orcs ops.toList ops.toList 0 s).map Prod.snd=some obs:=by kernel_rfl):AWP P N w0 F0 (.seq (.region id ops false) y) Q s:=Qc (rn htt ts bs hob hQ h)
theorem ru (htt:De P tt=true) (u:List (Nat×AV)) (d:List Nat) (bu:List (Nat×List C)) (bd:List Nat) (hob:PL (Yu P w0) (K4 P w0) orcs obs) (hQ:Q .normal (s.up u d bu bd))
 (h:Vl tt N orcs ops.toList (Iq (s.up u d bu bd).tm) (Iq (s.up u d bu bd).bx) s=some (s.up u d bu bd,obs):=by kernel_rfl):AWP P N w0 F0 (.region id ops false) Q s:=Zk htt orcs _ _ (s:=s) h hob hQ
theorem su (htt:De P tt=true) (u:List (Nat×AV)) (d:List Nat) (bu:List (Nat×List C)) (bd:List Nat) (hob:PL (Yu P w0) (K4 P w0) orcs obs) (hQ:AWP P N w0 F0 y Q (s.up u d bu bd))
 (h:Vl tt N orcs ops.toList (Iq (s.up u d bu bd).tm) (Iq (s.up u d bu bd).bx) s=some (s.up u d bu bd,obs):=by kernel_rfl):AWP P N w0 F0 (.seq (.region id ops false) y) Q s:=Qc (ru htt u d bu bd hob hQ h)
theorem rN (htt:De P tt=true) (hm:P.follows .mixedOrders=true) (ts bs:List Nat) (hob:PL (Yu P w0) (K4 P w0) orcs obs) (hQ:Q .normal (hd (nd tt N orcs ops.toList ts bs s) s))
 (h:(Cp tt N orcs ops.toList ts bs s).map Prod.snd=some obs:=by kernel_rfl):AWP P N w0 F0 (.region id ops true) Q s:=rN0 htt hm ts bs (s:=s) hob hQ h
theorem sN (htt:De P tt=true) (hm:P.follows .mixedOrders=true) (ts bs:List Nat) (hob:PL (Yu P w0) (K4 P w0) orcs obs) (hQ:AWP P N w0 F0 y Q (hd (nd tt N orcs ops.toList ts bs s) s))
 (h:(Cp tt N orcs ops.toList ts bs s).map Prod.snd=some obs:=by kernel_rfl):AWP P N w0 F0 (.seq (.region id ops true) y) Q s:=Qc (rN htt hm ts bs hob hQ h)
theorem rU (htt:De P tt=true) (hm:P.follows .mixedOrders=true) (u:List (Nat×AV)) (d:List Nat) (bu:List (Nat×List C)) (bd:List Nat) (hob:PL (Yu P w0) (K4 P w0) orcs obs) (hQ:Q .normal (s.up u d bu bd))
 (h:Cp tt N orcs ops.toList (Iq (s.up u d bu bd).tm) (Iq (s.up u d bu bd).bx) s=some (s.up u d bu bd,obs):=by kernel_rfl):AWP P N w0 F0 (.region id ops true) Q s:=Tp htt hm orcs _ _ (s:=s) h hob hQ
theorem sU (htt:De P tt=true) (hm:P.follows .mixedOrders=true) (u:List (Nat×AV)) (d:List Nat) (bu:List (Nat×List C)) (bd:List Nat) (hob:PL (Yu P w0) (K4 P w0) orcs obs) (hQ:AWP P N w0 F0 y Q (s.up u d bu bd))
 (h:Cp tt N orcs ops.toList (Iq (s.up u d bu bd).tm) (Iq (s.up u d bu bd).bx) s=some (s.up u d bu bd,obs):=by kernel_rfl):AWP P N w0 F0 (.seq (.region id ops true) y) Q s:=Qc (rU htt hm u d bu bd hob hQ h)
theorem qn (htt:De P tt=true) (ts bs:List Nat) (hob:PL (Yu P w0) (K4 P w0) orcs obs) (hQ:Q .normal (hd (nx tt N orcs ops.toList ts bs x) s))
 (h:(La tt N orcs ops.toList ops.toList 0 x).map Prod.snd=some obs:=by kernel_rfl):AWP P N w0 F0 (.region id ops false) Q (hd x s):=rn0 htt ts bs (s:=x) hob hQ h
theorem tn (htt:De P tt=true) (ts bs:List Nat) (hob:PL (Yu P w0) (K4 P w0) orcs obs) (hQ:AWP P N w0 F0 y Q (hd (nx tt N orcs ops.toList ts bs x) s))
 (h:(La tt N orcs ops.toList ops.toList 0 x).map Prod.snd=some obs:=by kernel_rfl):AWP P N w0 F0 (.seq (.region id ops false) y) Q (hd x s):=Qc (qn htt ts bs hob hQ h)
theorem qu (htt:De P tt=true) (u:List (Nat×AV)) (d:List Nat) (bu:List (Nat×List C)) (bd:List Nat) (hob:PL (Yu P w0) (K4 P w0) orcs obs) (hQ:Q .normal (s.up u d bu bd))
 (h:Vl tt N orcs ops.toList (Iq (s.up u d bu bd).tm) (Iq (s.up u d bu bd).bx) x=some (s.up u d bu bd,obs):=by kernel_rfl):AWP P N w0 F0 (.region id ops false) Q (hd x s):=Zk htt orcs _ _ (s:=x) h hob hQ
theorem tu (htt:De P tt=true) (u:List (Nat×AV)) (d:List Nat) (bu:List (Nat×List C)) (bd:List Nat) (hob:PL (Yu P w0) (K4 P w0) orcs obs) (hQ:AWP P N w0 F0 y Q (s.up u d bu bd))
 (h:Vl tt N orcs ops.toList (Iq (s.up u d bu bd).tm) (Iq (s.up u d bu bd).bx) x=some (s.up u d bu bd,obs):=by kernel_rfl):AWP P N w0 F0 (.seq (.region id ops false) y) Q (hd x s):=Qc (qu htt u d bu bd hob hQ h)
theorem qN (htt:De P tt=true) (hm:P.follows .mixedOrders=true) (ts bs:List Nat) (hob:PL (Yu P w0) (K4 P w0) orcs obs) (hQ:Q .normal (hd (nd tt N orcs ops.toList ts bs x) s))
 (h:(Cp tt N orcs ops.toList ts bs x).map Prod.snd=some obs:=by kernel_rfl):AWP P N w0 F0 (.region id ops true) Q (hd x s):=rN0 htt hm ts bs (s:=x) hob hQ h
theorem tN (htt:De P tt=true) (hm:P.follows .mixedOrders=true) (ts bs:List Nat) (hob:PL (Yu P w0) (K4 P w0) orcs obs) (hQ:AWP P N w0 F0 y Q (hd (nd tt N orcs ops.toList ts bs x) s))
 (h:(Cp tt N orcs ops.toList ts bs x).map Prod.snd=some obs:=by kernel_rfl):AWP P N w0 F0 (.seq (.region id ops true) y) Q (hd x s):=Qc (qN htt hm ts bs hob hQ h)
theorem qU (htt:De P tt=true) (hm:P.follows .mixedOrders=true) (u:List (Nat×AV)) (d:List Nat) (bu:List (Nat×List C)) (bd:List Nat) (hob:PL (Yu P w0) (K4 P w0) orcs obs) (hQ:Q .normal (s.up u d bu bd))
 (h:Cp tt N orcs ops.toList (Iq (s.up u d bu bd).tm) (Iq (s.up u d bu bd).bx) x=some (s.up u d bu bd,obs):=by kernel_rfl):AWP P N w0 F0 (.region id ops true) Q (hd x s):=Tp htt hm orcs _ _ (s:=x) h hob hQ
theorem tU (htt:De P tt=true) (hm:P.follows .mixedOrders=true) (u:List (Nat×AV)) (d:List Nat) (bu:List (Nat×List C)) (bd:List Nat) (hob:PL (Yu P w0) (K4 P w0) orcs obs) (hQ:AWP P N w0 F0 y Q (s.up u d bu bd))
 (h:Cp tt N orcs ops.toList (Iq (s.up u d bu bd).tm) (Iq (s.up u d bu bd).bx) x=some (s.up u d bu bd,obs):=by kernel_rfl):AWP P N w0 F0 (.seq (.region id ops true) y) Q (hd x s):=Qc (qU htt hm u d bu bd hob hQ h)
theorem mz (u:List (Nat×AV)) (d:List Nat) (bu:List (Nat×List C)) (bd:List Nat) (k:AWP P N w0 F0 c Q (s.up u d bu bd)) (h:x.fit (s.up u d bu bd)=s.up u d bu bd:=by kernel_rfl):AWP P N w0 F0 c Q (hd x s):=Ik (s:=x) (Qh h) k
theorem wT {α:Type} [GoE α] (t i:Nat) (tok:Tok) (l:List α) (k:wide l->l.length<=1073741824->AWP P N w0 F0 c Q s) (h:s.cellT t i=some (.slc tok (GoD.n α) (eL l)):=by kernel_rfl):AWP P N w0 F0 c Q s:=wdT t i tok l (λhw=>k hw (Ei hw)) h
theorem wB {α:Type} [GoE α] (b i:Nat) (tok:Tok) (l:List α) (k:wide l->l.length<=1073741824->AWP P N w0 F0 c Q s) (h:s.cellB b i=some (.slc tok (GoD.n α) (eL l)):=by kernel_rfl):AWP P N w0 F0 c Q s:=wdB b i tok l (λhw=>k hw (Ei hw)) h
end
section
variable {P:Program} {N:Nat} {w0:Base} {F0:Nat->Prop} {Q:Exit->St->Prop} {s:St} {c:Code} {α R σ τ:Type} {id:Nat}
theorem M8 (f:Nat->α->σ->Rd R σ τ) (e:Nat->σ->τ) (l:List α) (x0:σ) (u:Nat->σ->List (Nat×AV)) (d:List Nat) (ua:τ->List (Nat×AV)) (da:List Nat)
 (h0:Weak s (s.up (u 0 x0) d [] []))
 (hr:∀k x,k<l.length->Xp f e l 0 x0=Xp f e (l.drop k) k x->AWP P N w0 F0 c (QL id (λs'=>∃x',Weak s' (s.up (u (k+1) x') d [] [])/\(Xp f e l 0 x0=Xp f e (l.drop (k+1)) (k+1) x')) (λs'=>∃y,Weak s' (s.up (ua y) da [] [])/\Xp f e l 0 x0= .brk y) Q) (s.up (u k x) d [] []))
 (he:∀k x,k=l.length->Xp f e l 0 x0=Xp f e (l.drop k) k x->AWP P N w0 F0 c (QL id (λ_=>False) (λs'=>∃y,Weak s' (s.up (ua y) da [] [])/\Xp f e l 0 x0= .brk y) Q) (s.up (u k x) d [] []))
 (ha:∀y,Xp f e l 0 x0= .brk y->Q .normal (s.up (ua y) da [] [])):AWP P N w0 F0 (.block id (.loop c)) Q s:=Wm (λk x=>s.up (u k x) d [] []) (λy=>s.up (ua y) da [] []) (λk x=>Xp f e l 0 x0=Xp f e (l.drop k) k x) (λy=>Xp f e l 0 x0= .brk y) l.length x0 h0 rfl hr he ha
theorem AK (f:Nat->α->σ->Rd R σ τ) (e:Nat->σ->τ) (l:List α) (x0:σ) (u:Nat->σ->List (Nat×AV)) (d:List Nat) (ua:τ->List (Nat×AV)) (da:List Nat) (A:Nat->σ->Prop)
 (h0:Weak s (s.up (u 0 x0) d [] [])) (i0:A 0 x0)
 (hr:∀k x,k<l.length->Xp f e l 0 x0=Xp f e (l.drop k) k x/\A k x->AWP P N w0 F0 c (QL id (λs'=>∃x',Weak s' (s.up (u (k+1) x') d [] [])/\(Xp f e l 0 x0=Xp f e (l.drop (k+1)) (k+1) x'/\A (k+1) x')) (λs'=>∃y,Weak s' (s.up (ua y) da [] [])/\Xp f e l 0 x0= .brk y) Q) (s.up (u k x) d [] []))
 (he:∀k x,k=l.length->Xp f e l 0 x0=Xp f e (l.drop k) k x/\A k x->AWP P N w0 F0 c (QL id (λ_=>False) (λs'=>∃y,Weak s' (s.up (ua y) da [] [])/\Xp f e l 0 x0= .brk y) Q) (s.up (u k x) d [] []))
 (ha:∀y,Xp f e l 0 x0= .brk y->Q .normal (s.up (ua y) da [] [])):AWP P N w0 F0 (.block id (.loop c)) Q s:=Wm (λk x=>s.up (u k x) d [] []) (λy=>s.up (ua y) da [] []) (λk x=>Xp f e l 0 x0=Xp f e (l.drop k) k x/\A k x) (λy=>Xp f e l 0 x0= .brk y) l.length x0 h0 ⟨rfl,i0⟩ hr he ha
theorem Qiq (f:Nat->α->σ->Rd R σ τ) (e:Nat->σ->τ) (l:List α) (x0:σ) (u:Nat->σ->List (Nat×AV)) (d:List Nat) (ua:τ->List (Nat×AV)) (da:List Nat) (B:τ->Prop)
 (h0:Weak s (s.up (u 0 x0) d [] []))
 (hr:∀k x,k<l.length->Xp f e l 0 x0=Xp f e (l.drop k) k x->AWP P N w0 F0 c (QL id (λs'=>∃x',Weak s' (s.up (u (k+1) x') d [] [])/\(Xp f e l 0 x0=Xp f e (l.drop (k+1)) (k+1) x')) (λs'=>∃y,Weak s' (s.up (ua y) da [] [])/\(Xp f e l 0 x0= .brk y/\B y)) Q) (s.up (u k x) d [] []))
 (he:∀k x,k=l.length->Xp f e l 0 x0=Xp f e (l.drop k) k x->AWP P N w0 F0 c (QL id (λ_=>False) (λs'=>∃y,Weak s' (s.up (ua y) da [] [])/\(Xp f e l 0 x0= .brk y/\B y)) Q) (s.up (u k x) d [] []))
 (ha:∀y,Xp f e l 0 x0= .brk y/\B y->Q .normal (s.up (ua y) da [] [])):AWP P N w0 F0 (.block id (.loop c)) Q s:=Wm (λk x=>s.up (u k x) d [] []) (λy=>s.up (ua y) da [] []) (λk x=>Xp f e l 0 x0=Xp f e (l.drop k) k x) (λy=>Xp f e l 0 x0= .brk y/\B y) l.length x0 h0 rfl hr he ha
theorem Qdo (f:Nat->α->σ->Rd R σ τ) (e:Nat->σ->τ) (l:List α) (x0:σ) (u:Nat->σ->List (Nat×AV)) (d:List Nat) (ua:τ->List (Nat×AV)) (da:List Nat) (A:Nat->σ->Prop) (B:τ->Prop)
 (h0:Weak s (s.up (u 0 x0) d [] [])) (i0:A 0 x0)
 (hr:∀k x,k<l.length->Xp f e l 0 x0=Xp f e (l.drop k) k x/\A k x->AWP P N w0 F0 c (QL id (λs'=>∃x',Weak s' (s.up (u (k+1) x') d [] [])/\(Xp f e l 0 x0=Xp f e (l.drop (k+1)) (k+1) x'/\A (k+1) x')) (λs'=>∃y,Weak s' (s.up (ua y) da [] [])/\(Xp f e l 0 x0= .brk y/\B y)) Q) (s.up (u k x) d [] []))
 (he:∀k x,k=l.length->Xp f e l 0 x0=Xp f e (l.drop k) k x/\A k x->AWP P N w0 F0 c (QL id (λ_=>False) (λs'=>∃y,Weak s' (s.up (ua y) da [] [])/\(Xp f e l 0 x0= .brk y/\B y)) Q) (s.up (u k x) d [] []))
 (ha:∀y,Xp f e l 0 x0= .brk y/\B y->Q .normal (s.up (ua y) da [] [])):AWP P N w0 F0 (.block id (.loop c)) Q s:=Wm (λk x=>s.up (u k x) d [] []) (λy=>s.up (ua y) da [] []) (λk x=>Xp f e l 0 x0=Xp f e (l.drop k) k x/\A k x) (λy=>Xp f e l 0 x0= .brk y/\B y) l.length x0 h0 ⟨rfl,i0⟩ hr he ha
theorem Qia (f:Nat->α->σ->Rd R σ τ) (e:Nat->σ->τ) (l:List α) (x0:σ) (u:Nat->σ->List (Nat×AV)) (d:List Nat) (bu:Nat->σ->List (Nat×List C)) (bd:List Nat) (ua:τ->List (Nat×AV)) (da:List Nat) (ba:τ->List (Nat×List C)) (bda:List Nat)
 (h0:Weak s (s.up (u 0 x0) d (bu 0 x0) bd))
 (hr:∀k x,k<l.length->Xp f e l 0 x0=Xp f e (l.drop k) k x->AWP P N w0 F0 c (QL id (λs'=>∃x',Weak s' (s.up (u (k+1) x') d (bu (k+1) x') bd)/\(Xp f e l 0 x0=Xp f e (l.drop (k+1)) (k+1) x')) (λs'=>∃y,Weak s' (s.up (ua y) da (ba y) bda)/\Xp f e l 0 x0= .brk y) Q) (s.up (u k x) d (bu k x) bd))
 (he:∀k x,k=l.length->Xp f e l 0 x0=Xp f e (l.drop k) k x->AWP P N w0 F0 c (QL id (λ_=>False) (λs'=>∃y,Weak s' (s.up (ua y) da (ba y) bda)/\Xp f e l 0 x0= .brk y) Q) (s.up (u k x) d (bu k x) bd))
 (ha:∀y,Xp f e l 0 x0= .brk y->Q .normal (s.up (ua y) da (ba y) bda)):AWP P N w0 F0 (.block id (.loop c)) Q s:=Wm (λk x=>s.up (u k x) d (bu k x) bd) (λy=>s.up (ua y) da (ba y) bda) (λk x=>Xp f e l 0 x0=Xp f e (l.drop k) k x) (λy=>Xp f e l 0 x0= .brk y) l.length x0 h0 rfl hr he ha
theorem Qbn (f:Nat->α->σ->Rd R σ τ) (e:Nat->σ->τ) (l:List α) (x0:σ) (u:Nat->σ->List (Nat×AV)) (d:List Nat) (bu:Nat->σ->List (Nat×List C)) (bd:List Nat) (ua:τ->List (Nat×AV)) (da:List Nat) (ba:τ->List (Nat×List C)) (bda:List Nat) (A:Nat->σ->Prop)
 (h0:Weak s (s.up (u 0 x0) d (bu 0 x0) bd)) (i0:A 0 x0)
 (hr:∀k x,k<l.length->Xp f e l 0 x0=Xp f e (l.drop k) k x/\A k x->AWP P N w0 F0 c (QL id (λs'=>∃x',Weak s' (s.up (u (k+1) x') d (bu (k+1) x') bd)/\(Xp f e l 0 x0=Xp f e (l.drop (k+1)) (k+1) x'/\A (k+1) x')) (λs'=>∃y,Weak s' (s.up (ua y) da (ba y) bda)/\Xp f e l 0 x0= .brk y) Q) (s.up (u k x) d (bu k x) bd))
 (he:∀k x,k=l.length->Xp f e l 0 x0=Xp f e (l.drop k) k x/\A k x->AWP P N w0 F0 c (QL id (λ_=>False) (λs'=>∃y,Weak s' (s.up (ua y) da (ba y) bda)/\Xp f e l 0 x0= .brk y) Q) (s.up (u k x) d (bu k x) bd))
 (ha:∀y,Xp f e l 0 x0= .brk y->Q .normal (s.up (ua y) da (ba y) bda)):AWP P N w0 F0 (.block id (.loop c)) Q s:=Wm (λk x=>s.up (u k x) d (bu k x) bd) (λy=>s.up (ua y) da (ba y) bda) (λk x=>Xp f e l 0 x0=Xp f e (l.drop k) k x/\A k x) (λy=>Xp f e l 0 x0= .brk y) l.length x0 h0 ⟨rfl,i0⟩ hr he ha
theorem Qib (f:Nat->σ->Rd R σ τ) (e:Nat->σ->τ) (l:Nat) (x0:σ) (u:Nat->σ->List (Nat×AV)) (d:List Nat) (ua:τ->List (Nat×AV)) (da:List Nat)
 (h0:Weak s (s.up (u 0 x0) d [] []))
 (hr:∀k x,k<l->Wb f e l 0 x0=Wb f e (l-k) k x->AWP P N w0 F0 c (QL id (λs'=>∃x',Weak s' (s.up (u (k+1) x') d [] [])/\(Wb f e l 0 x0=Wb f e (l-(k+1)) (k+1) x')) (λs'=>∃y,Weak s' (s.up (ua y) da [] [])/\Wb f e l 0 x0= .brk y) Q) (s.up (u k x) d [] []))
 (he:∀k x,k=l->Wb f e l 0 x0=Wb f e (l-k) k x->AWP P N w0 F0 c (QL id (λ_=>False) (λs'=>∃y,Weak s' (s.up (ua y) da [] [])/\Wb f e l 0 x0= .brk y) Q) (s.up (u k x) d [] []))
 (ha:∀y,Wb f e l 0 x0= .brk y->Q .normal (s.up (ua y) da [] [])):AWP P N w0 F0 (.block id (.loop c)) Q s:=Wm (λk x=>s.up (u k x) d [] []) (λy=>s.up (ua y) da [] []) (λk x=>Wb f e l 0 x0=Wb f e (l-k) k x) (λy=>Wb f e l 0 x0= .brk y) l x0 h0 rfl hr he ha
theorem Qic (f:Nat->σ->Rd R σ τ) (e:Nat->σ->τ) (l:Nat) (x0:σ) (u:Nat->σ->List (Nat×AV)) (d:List Nat) (ua:τ->List (Nat×AV)) (da:List Nat) (A:Nat->σ->Prop) (B:τ->Prop)
 (h0:Weak s (s.up (u 0 x0) d [] [])) (i0:A 0 x0)
 (hr:∀k x,k<l->Wb f e l 0 x0=Wb f e (l-k) k x/\A k x->AWP P N w0 F0 c (QL id (λs'=>∃x',Weak s' (s.up (u (k+1) x') d [] [])/\(Wb f e l 0 x0=Wb f e (l-(k+1)) (k+1) x'/\A (k+1) x')) (λs'=>∃y,Weak s' (s.up (ua y) da [] [])/\(Wb f e l 0 x0= .brk y/\B y)) Q) (s.up (u k x) d [] []))
 (he:∀k x,k=l->Wb f e l 0 x0=Wb f e (l-k) k x/\A k x->AWP P N w0 F0 c (QL id (λ_=>False) (λs'=>∃y,Weak s' (s.up (ua y) da [] [])/\(Wb f e l 0 x0= .brk y/\B y)) Q) (s.up (u k x) d [] []))
 (ha:∀y,Wb f e l 0 x0= .brk y/\B y->Q .normal (s.up (ua y) da [] [])):AWP P N w0 F0 (.block id (.loop c)) Q s:=Wm (λk x=>s.up (u k x) d [] []) (λy=>s.up (ua y) da [] []) (λk x=>Wb f e l 0 x0=Wb f e (l-k) k x/\A k x) (λy=>Wb f e l 0 x0= .brk y/\B y) l x0 h0 ⟨rfl,i0⟩ hr he ha
theorem Qff (f:Nat->σ->Rd R σ τ) (e:Nat->σ->τ) (l:Nat) (x0:σ) (u:Nat->σ->List (Nat×AV)) (d:List Nat) (bu:Nat->σ->List (Nat×List C)) (bd:List Nat) (ua:τ->List (Nat×AV)) (da:List Nat) (ba:τ->List (Nat×List C)) (bda:List Nat) (A:Nat->σ->Prop)
 (h0:Weak s (s.up (u 0 x0) d (bu 0 x0) bd)) (i0:A 0 x0)
 (hr:∀k x,k<l->Wb f e l 0 x0=Wb f e (l-k) k x/\A k x->AWP P N w0 F0 c (QL id (λs'=>∃x',Weak s' (s.up (u (k+1) x') d (bu (k+1) x') bd)/\(Wb f e l 0 x0=Wb f e (l-(k+1)) (k+1) x'/\A (k+1) x')) (λs'=>∃y,Weak s' (s.up (ua y) da (ba y) bda)/\Wb f e l 0 x0= .brk y) Q) (s.up (u k x) d (bu k x) bd))
 (he:∀k x,k=l->Wb f e l 0 x0=Wb f e (l-k) k x/\A k x->AWP P N w0 F0 c (QL id (λ_=>False) (λs'=>∃y,Weak s' (s.up (ua y) da (ba y) bda)/\Wb f e l 0 x0= .brk y) Q) (s.up (u k x) d (bu k x) bd))
 (ha:∀y,Wb f e l 0 x0= .brk y->Q .normal (s.up (ua y) da (ba y) bda)):AWP P N w0 F0 (.block id (.loop c)) Q s:=Wm (λk x=>s.up (u k x) d (bu k x) bd) (λy=>s.up (ua y) da (ba y) bda) (λk x=>Wb f e l 0 x0=Wb f e (l-k) k x/\A k x) (λy=>Wb f e l 0 x0= .brk y) l x0 h0 ⟨rfl,i0⟩ hr he ha
theorem Qg1 (f:Nat->σ->Rd R σ τ) (e:Nat->σ->τ) (l:Nat) (x0:σ) (u:Nat->σ->List (Nat×AV)) (d:List Nat) (bu:Nat->σ->List (Nat×List C)) (bd:List Nat) (ua:τ->List (Nat×AV)) (da:List Nat) (ba:τ->List (Nat×List C)) (bda:List Nat) (A:Nat->σ->Prop) (B:τ->Prop)
 (h0:Weak s (s.up (u 0 x0) d (bu 0 x0) bd)) (i0:A 0 x0)
 (hr:∀k x,k<l->Wb f e l 0 x0=Wb f e (l-k) k x/\A k x->AWP P N w0 F0 c (QL id (λs'=>∃x',Weak s' (s.up (u (k+1) x') d (bu (k+1) x') bd)/\(Wb f e l 0 x0=Wb f e (l-(k+1)) (k+1) x'/\A (k+1) x')) (λs'=>∃y,Weak s' (s.up (ua y) da (ba y) bda)/\(Wb f e l 0 x0= .brk y/\B y)) Q) (s.up (u k x) d (bu k x) bd))
 (he:∀k x,k=l->Wb f e l 0 x0=Wb f e (l-k) k x/\A k x->AWP P N w0 F0 c (QL id (λ_=>False) (λs'=>∃y,Weak s' (s.up (ua y) da (ba y) bda)/\(Wb f e l 0 x0= .brk y/\B y)) Q) (s.up (u k x) d (bu k x) bd))
 (ha:∀y,Wb f e l 0 x0= .brk y/\B y->Q .normal (s.up (ua y) da (ba y) bda)):AWP P N w0 F0 (.block id (.loop c)) Q s:=Wm (λk x=>s.up (u k x) d (bu k x) bd) (λy=>s.up (ua y) da (ba y) bda) (λk x=>Wb f e l 0 x0=Wb f e (l-k) k x/\A k x) (λy=>Wb f e l 0 x0= .brk y/\B y) l x0 h0 ⟨rfl,i0⟩ hr he ha
end
section
variable {tt:List (Nat×TI)} {rs:List ResultVar} {s:St} {τ:Type}
theorem pz (frz:List Nat) {F v:τ} (e:F=v) (g:τ->AV) (h:Pk tt rs (s.map (Vp (Xo frz) none))=some (g v):=by kernel_rfl):OY tt rs (g F) .ret s:=Eh frz h (e▸rfl)
theorem pb {F v:Bool} (frz:List Nat) (e:F=v) (h:Pk tt rs (s.map (Vp (Xo frz) none))=some (.b v):=by kernel_rfl):OY tt rs (.b F) .ret s:=Eh frz h (e▸rfl)
theorem pi {F v:Int} (frz:List Nat) (e:F=v) (h:Pk tt rs (s.map (Vp (Xo frz) none))=some (.i v):=by kernel_rfl):OY tt rs (.i F) .ret s:=Eh frz h (e▸rfl)
theorem ps {F v:ByteArray} (frz:List Nat) (e:F=v) (h:Pk tt rs (s.map (Vp (Xo frz) none))=some (.s v):=by kernel_rfl):OY tt rs (.s F) .ret s:=Eh frz h (e▸rfl)
theorem po0 {α:Type} [GoE α] {F v:List α} (frz:List Nat) (e:F=v) (h:Pk tt rs (s.map (Vp (Xo frz) none))=some (.o 0 v):=by kernel_rfl):OY tt rs (.o 0 F) .ret s:=Eh frz h (e▸rfl)
theorem ph0 {α:Type} [GoE α] {F v:List α} (frz:List Nat) (e:F=v) (h:Pk tt rs (s.map (Vp (Xo frz) none))=some (.h v):=by kernel_rfl):OY tt rs (.h F) .ret s:=Eh frz h (e▸rfl)
end
theorem wn {R S T:Type} {f:S->Rd R S T} {n:Nat} {s s':S} {o:Out R T} (hI:whl f (n+1) s=some o) (h:f s= .next s'):whl f n s'=some o:=Qbl h hI
theorem wb {R S T:Type} {f:S->Rd R S T} {n:Nat} {s:S} {t:T} {o:Out R T} (hI:whl f (n+1) s=some o) (h:f s= .brk t):o= .brk t:=Qfb h hI
theorem ng {α:Type} [Inhabited α] (l:List α) (i:Nat) (h:i<l.length:=by omega):l[i]? =some (nth l i):=Wr h
theorem en {P:Program} {tt:List (Nat×TI)} (htt:De P tt=true) {f:Nat} {fn:Func} {c:Code} (hf:P.funcs[f]? =some fn) {args:List AV} {r:AV}
 (h:∀w0 F0,GoodAt P w0->AWP P fn.ntmps w0 F0 c (OY tt fn.results.toList r) (YY args)) (hb:fn.body=some c:=by exact rfl) (hok:Ee P f:=by unfold Ee;kernel_rfl) (hn:args.length<=fn.ntmps:=by exact Nat.le_of_ble_eq_true rfl):ACalls P f args r:=Pm htt hf hb hok hn h
theorem nm {α:Type} (t:α):∃z,t=z:=⟨_,rfl⟩
theorem wf0 {s s':St} (h:s.fit s'=s':=by kernel_rfl):Weak s s':=Qh h
theorem xw {α:Type} {s:St} {t:α->St} {b:α->Prop} (w:α) (hb:b w) (h:s.fit (t w)=t w:=by kernel_rfl):∃x,Weak s (t x)/\b x:=⟨w,Qh h,hb⟩
end
section
section
variable {α R S T:Type} {f g:Nat->α->S->Rd R S T} {e e':Nat->S->T}
theorem M9 (he:∀k s,e k s=e' k s):∀(l:List α) (k:Nat) (s:S),(∀i a s,l[i]? =some a->f (k+i) a s=g (k+i) a s)->Xp f e l k s=Xp g e' l k s
 | [],k,s,_=>by simp only[Xp,he]
 | a ::l,k,s,h=>by
   have h0:=h 0 a s rfl;simp only[Xp];rw[Nat.add_zero] at h0;rw[h0];cases g k a s with
   | next s'=>
     refine M9 he l (k+1) s' λi a s hi=> ?_
     have:=h (i+1) a s (by simpa using hi)
     rwa [show k+(i+1)=k+1+i by omega] at this
   | brk t=>rfl
   | ret r=>rfl
theorem Fw (hf:∀k a s,f k a s=g k a s) (he:∀k s,e k s=e' k s) (l:List α) (k:Nat) (s:S):Xp f e l k s=Xp g e' l k s:=M9 he l k s λ_ _ _ _=>hf _ _ _
end
section
variable {R S T:Type} {f g:Nat->S->Rd R S T} {e e':Nat->S->T}
theorem JJ (he:∀k s,e k s=e' k s):∀(n k:Nat) (s:S),(∀i s,k<=i->i<k+n->f i s=g i s)->Wb f e n k s=Wb g e' n k s
 | 0,k,s,_=>by simp only[Wb,he]
 | n+1,k,s,h=>by
   simp only[Wb];rw[h k s (Nat.le_refl _) (by omega)];cases g k s with
   | next s'=>exact JJ he n (k+1) s' λi s h1 h2=>h i s (by omega) (by omega)
   | brk t=>rfl
   | ret r=>rfl
end
section
variable {α R T:Type} {f:Nat->α->Unit->Rd R Unit T} {e:Nat->Unit->T}
theorem Ej (hb :∀k a t,f k a ()≠ .brk t):∀{l:List α} {k:Nat} {t:T},Xp f e l k ()= .brk t->∀(i:Nat) (a:α),l[i]? =some a->f (k+i) a ()= .next ()
 | [],_,_,_,i,a,hi=>by simp at hi
 | x :: l, k, t,h,i,a,hi=>by
   simp only[Xp] at h;cases hf:f k x () with
   | next s'=>
     rw[hf] at h;cases i with
     | zero => obtain rfl:x=a:=by simpa using hi
               exact hf
     | succ i=>
       have:=Ej hb (k:=k+1) h i a (by simpa using hi)
       rwa [show k+1+i=k+(i+1) by omega] at this
   | brk t'=>exact (hb k x t' hf).elim
   | ret r=>rw[hf] at h;cases h
theorem Ir:∀(l:List α) (k:Nat),(∀i a,l[i]? =some a->f (k+i) a ()= .next ())->Xp f e l k ()= .brk (e (k+l.length) ())
 | [],k,_=>by simp[Xp]
 | x ::l,k,h=>by
   have h0:=h 0 x rfl;rw[Nat.add_zero] at h0;simp only[Xp,h0]
   rw[Ir l (k+1) λi a hi=>by
    have:=h (i+1) a (by simpa using hi)
    rwa [show k+(i+1)=k+1+i by omega] at this]
   rw[List.length_cons,show k+1+l.length=k+(l.length+1) by omega]
end
theorem E6 {α β R T:Type} {f:Nat->α->List β->Rd R (List β) T} {e:Nat->List β->T} {p:α->Bool} {g:α->β} (hf:∀k a s,f k a s=(bif p a then .next (s++ [g a]) else .next s)):∀(l:List α) (k:Nat) (s:List β),Xp f e l k s= .brk (e (k+l.length) (s++(l.filter p).map g))
 | [],k,s=>by simp[Xp]
 | a::l,k,s=>by
   simp only[Xp,hf];cases hp:p a with
   | true=>simp only[cond_true];rw[E6 hf l (k+1),show k+1+l.length=k+(l.length+1) by omega];simp[hp]
   | false=>simp only[cond_false];rw[E6 hf l (k+1),show k+1+l.length=k+(l.length+1) by omega];simp[hp]
theorem Cr {α β R T:Type} {f:Nat->α->List β->Rd R (List β) T} {e:Nat->List β->T} {g:α->β} (hf:∀k a s,f k a s= .next (s++ [g a])):∀(l:List α) (k:Nat) (s:List β),Xp f e l k s= .brk (e (k+l.length) (s++l.map g))
 | [],k,s=>by simp[Xp]
 | a::l,k,s=>by
   simp only[Xp,hf];rw[Cr hf l (k+1),show k+1+l.length=k+(l.length+1) by omega];simp
end
section
open Go.RowKit
section
variable {P:Program} {N:Nat} {w0:Base} {F0:Nat->Prop} {J:Inj} {a:Act} {w:World} {s:St}
end
theorem AGive.emp {P:Program} {f:Nat} {cs cs':List C} {n m:Nat} {post:List AV} {r:AV} (h:AGive P f cs (.one (.slc (.own true 63) n [])::post) r cs') (hk:∀x,x∈post->∀c,c∈x.cells->c.key=none/\c.bkeys= []):AGive P f cs (.one (.slc .emp m [])::post) r cs':=by
 refine ⟨h.1,λw F L b vals hG hF hnd hLF hbF hbL hbox hargs=> ?_⟩;cases hargs with
 | @cons v _ vs _ h1 h2=>
 have h1:([]:List (List PV))= []/\∃oa,v= .slice oa 0 0:=h1;obtain ⟨_,oa,rfl⟩:=h1;have hG':GoodAt P ⟨w,λx=>x=b\/x∈([]:List Nat),some b⟩:=⟨λw' hk=>hG.at_ w' ⟨hk.os,hk.tape,hk.output,hk.size,λk hk' hn=>hk.block k hk' λhx=>hn (.inl (hx.resolve_right (by simp)))⟩⟩
 have key:∀{us:List Value} {ys:List AV},All2 (AR (Rw F L b) w) us ys->(∀x,x∈ys->∀c,c∈x.cells->c.key=none/\c.bkeys= [])->All2 (AR (Rw F [] b) w) us ys:=by
  intro us ys ha
  induction ha with
  | nil=>intro _;exact .nil
  | cons h1 _ ih=>
    intro hx;refine .cons (h1.keep λc hc=> ?_) (ih λx hm=>hx x (List.mem_cons_of_mem _ hm));obtain ⟨e1,e2⟩:=hx _ (List.mem_cons_self ..) c hc;exact ⟨λb hb=>⟨hb,rfl⟩,(λk hk=>by rw[e1] at hk;cases hk),(λk hk=>by rw[e2] at hk;simp at hk)⟩
 have h0:AR (Rw F [] b) w (.slice oa 0 0) (.one (.slc (.own true 63) n [])):=by
  show OwnDeep ((Rw F [] b).L 63) w _ n [];exact ⟨[],.emp oa n,List.nodup_nil,(λb hb=>by simp at hb),.inl rfl⟩
 refine (h.2 w F [] b _ hG' hF List.nodup_nil (λx hx=>by simp at hx) hbF (by simp) hbox (.cons h0 (key h2 hk))).mono λe w' hret=> ?_
 obtain ⟨u,L',g1,g2,g3,g4,g5,g6,g7,g8,g9,g10,arr,ty,g11,g12⟩:=hret;have hFF:∀x,(YW F [] w w' L').F x->(YW F L w w' L').F x/\w'.heap[x]? =w'.heap[x]? :=λx hx=>⟨hx.imp id λ⟨q1,q2⟩=>⟨.inl (q1.resolve_right (by simp)),q2⟩,rfl⟩
 have hkk:∀c,Keeps (YW F [] w w' L') (YW F L w w' L') w' w' c:=λc=>⟨hFF,λk _=>⟨rfl,λ_ _=>rfl⟩,λ_ _=>rfl⟩
 exact ⟨u,L',g1,g2,g3,g4,g5,λk q1 q2 _=>g6 k q1 q2 (by simp),g7,λk x hx=>⟨(g8 k x hx).1,.inl ((g8 k x hx).2.resolve_right (by simp))⟩,g9,g10.keep λc _=>hkk c,arr,ty,g11,g12.imp λv c _ hc=>hc.keep (hkk c)⟩
end
section
open Go.RowKit
open GoD (rd own)
structure Chg (L:List Nat) (w w':World):Prop where
 os:w'.os=w.os
 tape:w'.tape=w.tape
 output:w'.output=w.output
 size:w.heap.size<=w'.heap.size
 block:∀b,b<w.heap.size->b∉L->w'.heap[b]? =w.heap[b]?
theorem Chg.refl (L:List Nat) (w:World):Chg L w w:=⟨rfl,rfl,rfl,Nat.le_refl _,λ_ _ _=>rfl⟩
theorem Chg.trans {L:List Nat} {a b c:World} (h:Chg L a b) (k:Chg L b c):Chg L a c:=
 ⟨k.os.trans h.os,k.tape.trans h.tape,k.output.trans h.output,Nat.le_trans h.size k.size,λi hi hn=>(k.block i (Nat.lt_of_lt_of_le hi h.size) hn).trans (h.block i hi hn)⟩
theorem Chg.mono {L M:List Nat} {w w':World} (h:Chg L w w') (hs:∀b,b∈L->b∈M):Chg M w w':=
 ⟨h.os,h.tape,h.output,h.size,λb hb hn=>h.block b hb (λhm=>hn (hs b hm))⟩
theorem Chg.of_below {L:List Nat} {w w':World} (h:Below w.heap.size w w'):Chg L w w':=⟨h.os,h.tape,h.output,h.size,λb hb _=>h.block b hb⟩
theorem Chg.below {L:List Nat} {B:Nat} {w w':World} (h:Chg L w w') (hB:B<=w.heap.size) (hL:∀b,b∈L->B<=b):Below B w w':=
 ⟨h.os,h.tape,h.output,h.size,λk hk=>h.block k (by omega) (λhm=>by have:=hL k hm;omega)⟩
theorem Chg.cell {L:List Nat} {w w':World} (h:Chg L w w') {b:Nat} (hb:b<w.heap.size) (hn:b∉L) (o:Nat):w'.cell? ⟨b,o,none⟩=w.cell? ⟨b,o,none⟩:=
 World.cell?_of_block (h.block b hb hn)
theorem Chg.frozen {L:List Nat} {w w':World} (h:Chg L w w') {b:Nat} (hb:b<w.heap.size) (hn:b∉L) (o:Nat):w'.frozen? ⟨b,o,none⟩=w.frozen? ⟨b,o,none⟩:=
 World.frozen?_of_block (h.block b hb hn)
section
variable {α β:Type} [GoD α] [GoD β]
theorem F8 {L M:List Nat} {w w':World} {cs:List Value} {a:α} (h:own L w cs a) (hc:Chg M w w') (hd:∀b,b∈L->b∉M):own L w' cs a:=
 GoD.own_same h λb hb=>hc.block b (GoD.own_lt h b hb) (hd b hb)
def Oe (L:List Nat) (w:World) (cs:List Value) (r:α×Nat) (e:Ending) (w':World):Prop:=e= .returned (.int .i64 r.2)/\own L w' cs r.1/\Chg L w w'
theorem Bb {P:Program} {f:FuncId} {args:Array Value} {W:World} {L:List Nat} {cs:List Value} {r:α×Nat} {R:Ending->World->Prop} (hc:Calls P f args W (Oe L W cs r))
 (k:∀w',own L w' cs r.1->Chg L W w'->W.heap.size<=w'.heap.size->R (.returned (.int .i64 r.2)) w'):Calls P f args W R:=
 hc.mono λe w' ⟨he,ho,hch⟩=>by subst he;exact k w' ho hch hch.size
structure Upd (g lo m:Nat) (Li:List Nat) (w w':World):Prop where
 chg:Chg (g::Li) w w'
 row:∀cur e,w.heap[g]? =some (.cells cur e (0,0))->∃cur',w'.heap[g]? =some (.cells cur' e (0,0))/\cur'.size=cur.size/\∀j,(j<lo\/lo+m<=j)->cur'[j]? =cur[j]?
theorem Upd.refl (g lo m:Nat) (Li:List Nat) (w:World):Upd g lo m Li w w:=⟨Chg.refl _ _,λcur _ h=>⟨cur,h,rfl,λ_ _=>rfl⟩⟩
theorem Upd.setCell {g lo m:Nat} {Li:List Nat} {w w':World} (h:Upd g lo m Li w w') (o:Nat) (ho:lo<=o/\o<lo+m) (v:Value):Upd g lo m Li w (w'.setCell ⟨g,o,none⟩ v):=by
 refine ⟨h.chg.trans ⟨rfl,rfl,rfl,by simp,λb _ hn=>Ez w' g o v (λe=>hn (by simp[e]))⟩,λcur e hc=> ?_⟩;obtain ⟨cur',h1,h2,h3⟩:=h.row cur e hc;refine ⟨_,Ln w' g o v h1,by simpa using h2,λj hj=> ?_⟩;rw[Array.getElem?_setIfInBounds,if_neg (by omega)];exact h3 j hj
theorem Upd.mark {g lo m:Nat} {Li M:List Nat} {w w' w'':World} (h:Upd g lo m Li w w') (hc:Chg M w' w'') (hs:∀b,b∈M->b∈Li) (hg:g∉M) (hlt:g<w'.heap.size):Upd g lo m Li w w'':=by
 refine ⟨h.chg.trans (hc.mono λb hb=>List.mem_cons_of_mem _ (hs b hb)),λcur e hcur=> ?_⟩;obtain ⟨cur',h1,h2,h3⟩:=h.row cur e hcur;exact ⟨cur',(hc.block g hlt hg).trans h1,h2,h3⟩
theorem Upd.below {g lo m:Nat} {Li:List Nat} {w w' w'':World} (h:Upd g lo m Li w w') (hc:Below w'.heap.size w' w'') (hlt:g<w'.heap.size):Upd g lo m Li w w'':=
 h.mark (M:= []) (Chg.of_below hc) (by simp) (by simp) hlt
theorem VM {a b:List Value} {o n:Nat} (h:∀j,j<n->a[o+j]? =b[o+j]?):(a.drop o).take n=(b.drop o).take n:=by
 apply List.ext_getElem?;intro j;by_cases hj:j<n
 . rw[W8 hj,W8 hj,h j hj]
 rw[List.getElem?_take,if_neg hj,List.getElem?_take,if_neg hj]
theorem Fx {L:List Nat} {w:World} {v:Value} {xs ys:List α} {a:α} (h:own L w [v] (xs++a::ys)):
 ∃ g cap cur e Li,v= .slice (some ⟨g,0,none⟩) (xs++a::ys).length cap/\w.heap[g]? =some (.cells cur e (0,0))/\xs.length*GoD.n α+GoD.n α<=cur.size/\g∉Li/\g∈L/\(∀b,b∈Li->b∈L)/\
   own Li w ((cur.toList.drop (xs.length*GoD.n α)).take (GoD.n α)) a/\
   ∀w' ce' a',Upd g (xs.length*GoD.n α) (GoD.n α) Li w w'->own Li w' ce' a'->(∀j u,ce'[j]? =some u->w'.cell? ⟨g,xs.length*GoD.n α+j,none⟩=some u)->own L w' [v] (xs++a'::ys):=by
 obtain ⟨hnd,h | ⟨g,cap,cur,e,Ls,hv,hg,hl,hm,hs,rfl,hLs,hel⟩⟩:=h
 . simp at h
 have hxl:xs.length<Ls.length:=by rw[hLs];simp
 have hxc:xs.length<cap:=by rw[hLs] at hxl;omega
 have ha:(xs++a::ys)[xs.length]? =some a:=by simp
 have hroom:xs.length*GoD.n α+GoD.n α<=cur.size:=by
  have:=Nat.mul_le_mul_right (GoD.n α) (show xs.length+1<=cap by omega);rw[Nat.add_mul,Nat.one_mul] at this;omega
 have hgn:g∉Ls.flatten:=(List.nodup_cons.1 hnd).1;have hi:=List.getElem?_eq_getElem hxl;have ho:=hel _ _ _ hi ha;refine ⟨g,cap,cur,e,Ls[xs.length],by simpa using hv,hg,hroom,λhm'=>hgn (Vy hi hm'),by simp,λb hb=>List.mem_cons_of_mem _ (Vy hi hb),ho,λw' ce' a' hu ho' hc'=> ?_⟩;obtain ⟨cur',h1,h2,h3⟩:=hu.row cur e hg;have hcl:ce'.length=GoD.n α:=GoD.rd_len (GoD.own_rd ho');refine ⟨hnd,.inr ⟨g,cap,cur',e,Ls, ?_,h1,by simpa using hl,hm,h2.trans hs,rfl,by rw[hLs];simp,λi Li x hLi hx=> ?_⟩⟩
 . simpa using hv
 by_cases hik:i=xs.length
 . subst hik;rw[hi] at hLi;obtain rfl:Ls[xs.length]=Li:=by simpa using hLi
   obtain rfl:a'=x:=by simpa using hx
   have:(cur'.toList.drop (xs.length*GoD.n α)).take (GoD.n α)=ce':=by
    apply List.ext_getElem?;intro j;by_cases hj:j<GoD.n α
    . rw[W8 hj,Array.getElem?_toList];have:=hc' j _ (List.getElem?_eq_getElem (by omega));rw[List.getElem?_eq_getElem (by omega),←this];simp[World.cell?,h1]
    rw[List.getElem?_take,if_neg hj,List.getElem?_eq_none (by omega)]
   rw[this];exact ho'
 have hx':(xs++a::ys)[i]? =some x:=by
  rw[←hx];by_cases hlt:i<xs.length
  . rw[List.getElem?_append_left hlt,List.getElem?_append_left hlt]
  rw[List.getElem?_append_right (by omega),List.getElem?_append_right (by omega)];obtain ⟨j,hj⟩:∃j,i-xs.length=j+1:=⟨i-xs.length-1,by omega⟩;rw[hj];simp
 have hox:=hel i Li x hLi hx'
 rw [VM (b:=cur.toList) (λj hj=>by
  rw[Array.getElem?_toList,Array.getElem?_toList];refine h3 _ ?_;rcases Nat.lt_or_gt_of_ne hik with hlt | hgt
  . left
    have:=Nat.mul_le_mul_right (GoD.n α) (show i+1<=xs.length by omega);rw[Nat.add_mul,Nat.one_mul] at this;omega
  right
  have:=Nat.mul_le_mul_right (GoD.n α) (show xs.length+1<=i by omega);rw[Nat.add_mul,Nat.one_mul] at this;omega)]
 refine GoD.own_same hox λb hb=>hu.chg.block b (GoD.own_lt hox b hb) (λhm'=> ?_)
 rcases List.mem_cons.1 hm' with rfl | hm'
 . exact hgn (Vy hLi hb)
 have hfn:=(List.nodup_cons.1 hnd).2;rw[List.nodup_iff_pairwise_ne,List.pairwise_flatten] at hfn;have hpw:=hfn.2;rw[List.pairwise_iff_getElem] at hpw;have hil:i<Ls.length:=(List.getElem?_eq_some_iff.1 hLi).1;have hie:Ls[i]=Li:=(List.getElem?_eq_some_iff.1 hLi).2;rcases Nat.lt_or_gt_of_ne hik with hlt | hgt
 . exact hpw i xs.length hil hxl hlt b (by rw[hie];exact hb) b hm' rfl
 exact hpw xs.length i hxl hil hgt b hm' b (by rw[hie];exact hb) rfl
theorem B9 {L:List Nat} {w:World} {oa:Option Addr} {l:List α} {n cap:Nat} (h:own L w [.slice oa n cap] l):l.length<=9223372036854775807:=by
 obtain ⟨_,cap,_,h1,h2,_⟩:=GoD.own_rd h;unfold maxLen at h2;omega
theorem JK {l:List α} (h:∀a:α,GoD.size a=0):GoD.size l=l.length:=by rw[T1,FY l h];rfl
theorem Kh {w:World} {g o n:Nat} {cur:Array Value} {e:TypeId} {fr:Nat×Nat} {ce:List Value} (h:w.heap[g]? =some (.cells cur e fr)) (hce:(cur.toList.drop o).take n=ce) (j:Nat) (u:Value) (hj:ce[j]? =some u):
 w.cell? ⟨g,o+j,none⟩=some u:=by
 rw[←hce] at hj;rw[List.getElem?_take] at hj;split at hj
 . rw[List.getElem?_drop] at hj;simpa [World.cell?,h] using hj
 cases hj
theorem RA (k:Nat) (z:Int) (h:z=(k:Int)):(z % 3==0)=(k % 3==0):=by
 subst h;rw[Bool.eq_iff_iff];simp;omega
theorem Lc (k:Nat) (h:k<=4611686018427387904):I64 (k:Int):=by unfold I64;omega
theorem Is (l:List α):∀k,(Qu l k).1.length=l.length:=by
 induction l with
 | nil=>intro k;rfl
 | cons x l ih=>intro k;simp[Qu,ih]
theorem Kl (l:List α) (k:Nat):∀(i:Nat) (a:α),l[i]? =some a->Qu (l.take (i+1)) k=((Qu (l.take i) k).1++ [(GoD.mark a (Qu (l.take i) k).2).1],(GoD.mark a (Qu (l.take i) k).2).2):=by
 induction l generalizing k with
 | nil=>intro i a h;simp at h
 | cons x l ih=>
   intro i a h;cases i with
   | zero=>simp at h;subst h;simp[Qu]
   | succ i=>
     simp at h;simp only[List.take_succ_cons,Qu];rw[ih _ i a h];simp
theorem D0 (l:List α) (k i:Nat) (a:α) (h:l[i]? =some a):(Qu l k).1[i]? =some (GoD.mark a (Qu (l.take i) k).2).1:=by
 have h1:=Kl l k i a h;have h2:=Lm (l.take (i+1)) (l.drop (i+1)) k;have hi:=(List.getElem?_eq_some_iff.1 h).1;have hl:(Qu (l.take i) k).1.length=i:=by rw[Is,List.length_take];omega
 rw[List.take_append_drop,h1] at h2;rw[h2];rw[List.getElem?_append_left (by simp[hl]),List.getElem?_append_right (by omega),hl];simp
theorem Jj (l:List α) (k:Nat) (i:Nat) (a:α) (h:l[i]? =some a):(GoD.mark a (Qu (l.take i) k).2).2<=(Qu l k).2:=by
 have h1:=Kl l k i a h;have h2:=Lm (l.take (i+1)) (l.drop (i+1)) k;rw[List.take_append_drop,h1] at h2;rw[h2];exact Zd _ _
theorem K3 (l:List α):∀k,(Qu l k).1.length=l.length:=by
 induction l with
 | nil=>intro k;rfl
 | cons x l ih=>intro k;simp[Qu,ih]
end
section
variable {α:Type} [GoD α]
theorem bdT {a:α} {k:Nat} (hv:GoD.lvm α<=64) (hs:GoD.size a<=1073741824):(GoD.markT a k).2<=k+68719476736:=by
 have h1:=GoD.mkT_bd a k;have h2:=Nat.mul_le_mul hv hs;omega
theorem bdS {l:List α} {k:Nat} (hv:GoD.lvm (List α)<=64) (hs:GoD.size l<=1073741824):(Qu l k).2<=k+68719476736:=bdT (a:=l) hv hs
end
end
section
open Go.RowKit
open GoD (rd own)
abbrev Z4 := Int × Int × ByteArray
abbrev Yd := ByteArray × Int
abbrev Jl := ByteArray × Z4
abbrev Yh := Int × Int × Bool × Int × (List Jl)
abbrev X1 := (List Yd) × (List Yh) × Int
abbrev Yy := Int × Int × Int × ByteArray × Z4
abbrev Y8 := ByteArray × (List Yy)
abbrev Qg := ByteArray × (List Int)
abbrev Cs := ByteArray × (List Int) × (List Int)
abbrev Yb := X1 × (List Y8) × (List Qg)
theorem D9 {α : Type} {l : List α} (h : l.length = 1) : ∃ x0, l = [x0] := by
  match l, h with
  | [x0], _ => exact ⟨x0, rfl⟩
theorem VN {α : Type} {l : List α} (h : l.length = 2) : ∃ x0 x1, l = [x0, x1] := by
  match l, h with
  | [x0, x1], _ => exact ⟨x0, x1, rfl⟩
theorem Qg2 {α : Type} {l : List α} (h : l.length = 3) : ∃ x0 x1 x2, l = [x0, x1, x2] := by
  match l, h with
  | [x0, x1, x2], _ => exact ⟨x0, x1, x2, rfl⟩
theorem Qiz {α : Type} {l : List α} (h : l.length = 4) : ∃ x0 x1 x2 x3, l = [x0, x1, x2, x3] := by
  match l, h with
  | [x0, x1, x2, x3], _ => exact ⟨x0, x1, x2, x3, rfl⟩
theorem Qi0 {α : Type} {l : List α} (h : l.length = 5) : ∃ x0 x1 x2 x3 x4, l = [x0, x1, x2, x3, x4] := by
  match l, h with
  | [x0, x1, x2, x3, x4], _ => exact ⟨x0, x1, x2, x3, x4, rfl⟩
theorem Qi1 {α : Type} {l : List α} (h : l.length = 7) : ∃ x0 x1 x2 x3 x4 x5 x6, l = [x0, x1, x2, x3, x4, x5, x6] := by
  match l, h with
  | [x0, x1, x2, x3, x4, x5, x6], _ => exact ⟨x0, x1, x2, x3, x4, x5, x6, rfl⟩
theorem VO {w : World} {cs : List Value} {a : Yb} (h : rd w cs a) : ∃ (oa1 : Option Addr) (cp1 : Nat) (oa2 : Option Addr) (cp2 : Nat) (oa3 : Option Addr) (cp3 : Nat) (oa4 : Option Addr) (cp4 : Nat), cs = [.slice oa1 a.1.1.length cp1,.slice oa2 a.1.2.1.length cp2,.int .i64 a.1.2.2,.slice oa3 a.2.1.length cp3,.slice oa4 a.2.2.length cp4] := by
  obtain ⟨_, _, rfl, ⟨_, _, rfl, ⟨oa1, cp1, rfl, _⟩, ⟨_, _, rfl, ⟨oa2, cp2, rfl, _⟩, ⟨rfl, _⟩⟩⟩, ⟨_, _, rfl, ⟨oa3, cp3, rfl, _⟩, ⟨oa4, cp4, rfl, _⟩⟩⟩ := h
  exact ⟨oa1, cp1, oa2, cp2, oa3, cp3, oa4, cp4, rfl⟩
def eqb {α : Type} [GoD α] (a b : α) : Bool := @decide (a = b) (GoD.deq a b)
theorem Og (a b : ByteArray) : (a.toList == b.toList) = eqb a b := by
  unfold eqb
  rw [ByteArray.toList_eq, ByteArray.toList_eq, Bool.eq_iff_iff]
  simp only [beq_iff_eq, decide_eq_true_eq]
  constructor
  · intro h; cases a; cases b; simp_all [Array.toList_inj]
  intro h; rw [h]
end
section
open Go.RowKit
open GoD (rd own)
theorem Qfg {P : Program} (w : World) (base : Nat) (t ty e : TypeId) (i : TypeInfo) (z : Value) (ht : P.underlying t = some (.slice e)) (hi : P.info? e = some i) (hz : i.zero = some z)
    (hzs : z.cells.size = i.size) (hsz : 0 < i.size) (hb : i.bytes ≤ 1000) {v : Value} {n : Nat} {xs : List Value} (hown : w.ownsRow base e i.size v n xs)
    (a : Addr) (m c : Nat) (news : List Value) (hl : news.length = m * i.size) (hnews : ∀ j u, news[j]? = some u → w.cell? (a.add j) = some u) (h1 : ∀ u ∈ news, u.oneCell' = true)
    (hnm : n + m ≤ 1073741824) (hbase : base ≤ w.heap.size) :
    ∃ v' w', (Builtin.append_ #[t, t] ty #[v,.slice (some a) m c]).run P w = .ok v' w' ∧ w'.ownsRow base e i.size v' (n + m) (xs ++ news) ∧ w.grownBy w' v.ownBlock ∧
      (∀ g, v'.ownBlock = some g → v.ownBlock = some g ∨ w.heap.size ≤ g) ∧ (∀ x k c, v = .slice (some x) k c → c < n + m → (∀ g, v'.ownBlock = some g → w.heap.size ≤ g) ∧ w.grownBy w' none) := by
  have hbytes : ((n + m) + (n + m) / 4 + 192) * i.bytes ≤ 281474976710656 := Nat.le_trans (Nat.mul_le_mul (show _ ≤ 1342177472 by omega) hb) (by decide)
  have h63 : n + m ≤ maxLen := by unfold maxLen; omega
  rcases hown.2 with ⟨rfl, rfl⟩ | ⟨g, cap, cur, rfl, hbg, hg, hnc, hcm, hcs, htake⟩
  · have h0 : w.ownsRow w.heap.size e i.size (.slice none 0 0) 0 xs := ⟨hown.1,.inl ⟨rfl, rfl⟩⟩
    obtain ⟨v', w', hr, hw, hgr, _⟩ := run_append_own_wide w w.heap.size t ty e i z i.size i.bytes ht hi hz rfl rfl hzs hsz _ 0 xs h0 a m c news hl hnews h1 h63 hbytes (Nat.le_refl _)
    refine ⟨v', w', hr, ⟨hw.1, ?_⟩, hgr, λg hg => .inr (World.ownsRow.lt hw g hg).1, λx k c h => (by cases h)⟩
    rcases hw.2 with h | ⟨g, cap, cur, h1, h2, h3⟩
    · exact .inl h
    exact .inr ⟨g, cap, cur, h1, Nat.le_trans hbase h2, h3⟩
  by_cases hroom : n + m ≤ cap
  · obtain ⟨w', hr, hw, hgr⟩ := run_append_own_spare w base t ty e i i.size ht hi rfl g n cap xs hown a m c news hl hnews h1 hroom
    exact ⟨_, w', hr, hw, hgr, λk hk => .inl hk, λx k c h hlt => (by cases h; omega)⟩
  have hgs : cap < n + m := by omega
  have hr := run_append_grow (P := P) w t ty e i z ht hi hz ⟨g, 0, none⟩ n cap xs hown.1 (hown.cells (g := g) rfl) a m c news hl hnews hgs (by unfold maxLen at h63; omega) (growslice_fits_wide hgs hbytes)
  refine ⟨_, _, hr, ⟨by rw [List.length_append, hown.1, hl, Nat.add_mul],.inr ⟨w.heap.size, _, _, rfl, hbase, heap_alloc_new w.drew _, grownCap_ge w (n + m) cap e, grownCap_le_maxLen w (n + m) cap e h63, ?_, ?_⟩⟩,
    ⟨rfl, rfl, rfl, by simp, λk hk _ => heap_alloc_old w.drew _ hk⟩, λk hk => .inr ?_, λx k c _ _ => ⟨λg' hk => ?_, rfl, rfl, rfl, by simp, λk hk _ => heap_alloc_old w.drew _ hk⟩⟩
  · have hge := grownCap_ge w (n + m) cap e
    simp only [Array.size_append, List.size_toArray, size_zeroCells, hzs, hown.1, hl, ← Nat.add_mul]
    congr 1
    omega
  · simp only [Array.toList_append, List.append_assoc]
    rw [← List.append_assoc, List.take_append_of_le_length (by simp [hown.1, hl, Nat.add_mul]), List.take_of_length_le (by simp [hown.1, hl, Nat.add_mul])]
  · simp only [Value.ownBlock, Option.some.injEq] at hk
    omega
  simp only [Value.ownBlock, Option.some.injEq] at hk
  omega
section
variable {α : Type} [GoD α]
def App (e : TypeId) (w0 w : World) (L : List Nat) (v : Value) (l : List α) : Prop :=
  ∃ (xs : List Value) (Ls : List (List Nat)), w.ownsRow w0.heap.size e (GoD.n α) v l.length xs ∧ L = v.ownBlock.toList ++ Ls.flatten ∧ L.Nodup ∧ (∀ b, b ∈ L → w0.heap.size ≤ b ∧ b < w.heap.size) ∧ Ls.length = l.length ∧
    ∀ i Li a, Ls[i]? = some Li → l[i]? = some a → own Li w ((xs.drop (i * GoD.n α)).take (GoD.n α)) a
def AppR (e : TypeId) (w0 w : World) (v : Value) (l : List α) : Prop :=
  ∃ (xs : List Value), w.ownsRow w0.heap.size e (GoD.n α) v l.length xs ∧ ∀ i a, l[i]? = some a → rd w0 ((xs.drop (i * GoD.n α)).take (GoD.n α)) a
theorem S3 {w w' : World} {base : Nat} {e : TypeId} {sz n : Nat} {v : Value} {xs : List Value} (h : w.ownsRow base e sz v n xs) (hb : ∀ b, v.ownBlock = some b → w'.heap[b]? = w.heap[b]?) : w'.ownsRow base e sz v n xs := by
  refine ⟨h.1, ?_⟩
  rcases h.2 with h | ⟨g, cap, cur, rfl, h2, h3, h4⟩
  · exact .inl h
  exact .inr ⟨g, cap, cur, rfl, h2, (hb g rfl).trans h3, h4⟩
theorem App.keep {e : TypeId} {w0 w w' : World} {L : List Nat} {v : Value} {l : List α} (h : App e w0 w L v l) (hb : Below w.heap.size w w') : App e w0 w' L v l := by
  obtain ⟨xs, Ls, h1, h2, h3, h4, h5, h6⟩ := h
  exact ⟨xs, Ls, S3 h1 (λb hm => hb.block b (World.ownsRow.lt h1 b hm).2), h2, h3, λb hm => ⟨(h4 b hm).1, Nat.lt_of_lt_of_le (h4 b hm).2 hb.size⟩, h5, λi Li a x y => Ll (h6 i Li a x y) hb⟩
theorem AppR.keep {e : TypeId} {w0 w w' : World} {v : Value} {l : List α} (h : AppR e w0 w v l) (hb : Below w.heap.size w w') : AppR e w0 w' v l := by
  obtain ⟨xs, h1, h2⟩ := h
  exact ⟨xs, S3 h1 (λb hm => hb.block b (World.ownsRow.lt h1 b hm).2), h2⟩
theorem App.alloc {e : TypeId} {w0 w : World} {L : List Nat} {v : Value} {l : List α} (h : App e w0 w L v l) (o : Obj) : App e w0 (w.alloc o) L v l := h.keep ((Below.refl _ _).alloc (Nat.le_refl _) _)
theorem App.drew {e : TypeId} {w0 w : World} {L : List Nat} {v : Value} {l : List α} (h : App e w0 w L v l) : App e w0 w.drew L v l := h.keep ((Below.refl _ _).drew)
theorem AppR.alloc {e : TypeId} {w0 w : World} {v : Value} {l : List α} (h : AppR e w0 w v l) (o : Obj) : AppR e w0 (w.alloc o) v l := h.keep ((Below.refl _ _).alloc (Nat.le_refl _) _)
theorem AppR.drew {e : TypeId} {w0 w : World} {v : Value} {l : List α} (h : AppR e w0 w v l) : AppR e w0 w.drew v l := h.keep ((Below.refl _ _).drew)
theorem App.nil {e : TypeId} (w0 w : World) : App e w0 w [] (.slice none 0 0) ([] : List α) := ⟨[], [], ⟨by simp,.inl ⟨rfl, rfl⟩⟩, rfl, by simp, by simp, rfl, by simp⟩
theorem AppR.nil {e : TypeId} (w0 w : World) : AppR e w0 w (.slice none 0 0) ([] : List α) := ⟨[], ⟨by simp,.inl ⟨rfl, rfl⟩⟩, by simp⟩
theorem App.done {e : TypeId} {w0 w : World} {L : List Nat} {v : Value} {l : List α} (h : App e w0 w L v l) : own L w [v] l := by
  obtain ⟨xs, Ls, ⟨h1, h2⟩, rfl, h3, h4, h5, h6⟩ := h
  refine ⟨h3, ?_⟩
  rcases h2 with ⟨rfl, hl⟩ | ⟨g, cap, cur, rfl, _, hg, hnc, hcm, hcs, rfl⟩
  · have : l = [] := List.eq_nil_of_length_eq_zero hl
    subst this
    have : Ls = [] := List.eq_nil_of_length_eq_zero h5
    subst this
    exact .inl ⟨rfl, rfl, none, rfl⟩
  refine .inr ⟨g, cap, cur, e, Ls, rfl, hg, hnc, hcm, hcs, rfl, h5, λi Li a hi ha => ?_⟩
  have h := h6 i Li a hi ha
  have hil : i < l.length := (List.getElem?_eq_some_iff.1 ha).1
  rw [List.drop_take, List.take_take, Nat.min_eq_left (by
    have := Nat.mul_le_mul_right (GoD.n α) (show i + 1 ≤ l.length by omega)
    rw [Nat.add_mul, Nat.one_mul] at this
    omega)] at h
  exact h
theorem App.ge {e : TypeId} {w0 w : World} {L : List Nat} {v : Value} {l : List α} (h : App e w0 w L v l) : ∀ b, b ∈ L → w0.heap.size ≤ b := by
  obtain ⟨_, _, _, _, _, h4, _⟩ := h
  exact λb hb => (h4 b hb).1
theorem App.lt {e : TypeId} {w0 w : World} {L : List Nat} {v : Value} {l : List α} (h : App e w0 w L v l) : ∀ b, b ∈ L → b < w.heap.size := by
  obtain ⟨_, _, _, _, _, h4, _⟩ := h
  exact λb hb => (h4 b hb).2
theorem AppR.done {e : TypeId} {w0 w : World} {v : Value} {l : List α} (h : AppR e w0 w v l) (hb : Below w0.heap.size w0 w) : rd w [v] l := by
  obtain ⟨xs, ⟨h1, h2⟩, h6⟩ := h
  rcases h2 with ⟨rfl, hl⟩ | ⟨g, cap, cur, rfl, _, hg, hnc, hcm, hcs, rfl⟩
  · have : l = [] := List.eq_nil_of_length_eq_zero hl
    subst this
    exact ⟨none, 0, rfl, Nat.le_refl _, Nat.zero_le _, by simp⟩
  refine ⟨some ⟨g, 0, none⟩, cap, rfl, hnc, hcm, λi a ha => ⟨g, 0, _, rfl, GoD.rd_len (h6 i a ha), λj u hj => ?_, Zx (h6 i a ha) hb⟩⟩
  have hlt := (List.getElem?_eq_some_iff.1 hj).1
  simp only [List.length_take] at hlt
  rw [W8 (by omega), List.getElem?_take] at hj
  split at hj
  · rw [Nat.zero_add]
    rw [Array.getElem?_toList] at hj
    simp [World.cell?, hg, hj]
  cases hj
theorem AppR.slice {e : TypeId} {w0 w : World} {v : Value} {l : List α} (h : AppR e w0 w v l) : ∃ oa cap, v = .slice oa l.length cap := by
  obtain ⟨xs, ⟨_, h2⟩, _⟩ := h
  rcases h2 with ⟨rfl, hl⟩ | ⟨g, cap, cur, rfl, _⟩
  · exact ⟨none, 0, by rw [hl]⟩
  exact ⟨_, _, rfl⟩
theorem App.slice {e : TypeId} {w0 w : World} {L : List Nat} {v : Value} {l : List α} (h : App e w0 w L v l) : ∃ oa cap, v = .slice oa l.length cap := Kg h.done
end
end
section
open Go.RowKit
open GoD (rd own)
theorem DT {P:Program} (w:World) (t ty e:TypeId) (i:TypeInfo) (ht:P.underlying t=some (.slice e)) (hi:P.info? e=some i) (g n cap:Nat) (hn:n<=cap):
 (Builtin.append_ #[t,t] ty #[.slice (some ⟨g,0,none⟩) n cap,.slice none 0 0]).run P w= .ok (.slice (some ⟨g,0,none⟩) n cap) w:=by
 simp[Builtin.append_,run_underlying ht,sizeOf,typeInfo,hi,Builtin.lenOf,Builtin.firstCells,loadCells,loadCellsFrom,hn,storeCells]
section
variable {α:Type} [GoD α]
def Plain (α:Type) [GoD α]:Prop:=0<GoD.n α/\∀(w w':World) (cs:List Value) (a:α),rd w cs a->own [] w' cs a/\∀u∈cs,u.oneCell'=true
theorem Ct:Plain Int:=⟨Nat.zero_lt_one,λw w' cs a h=>⟨⟨rfl,h.1,h.2⟩,by rw[h.1];simp[Value.oneCell']⟩⟩
theorem Gy:Plain ByteArray:=⟨Nat.zero_lt_one,λw w' cs a h=>⟨⟨rfl,h.1,h.2⟩,by rw[h.1];simp[Value.oneCell']⟩⟩
theorem Hg {β:Type} [GoD β] (h1:Plain α) (h2:Plain β):Plain (α×β):=by
 refine ⟨Nat.lt_of_lt_of_le h1.1 (Nat.le_add_right _ _),λw w' cs a h=> ?_⟩;obtain ⟨c1,c2,rfl,k1,k2⟩:=h;obtain ⟨o1,u1⟩:=h1.2 w w' _ _ k1;obtain ⟨o2,u2⟩:=h2.2 w w' _ _ k2;refine ⟨K6 o1 o2 (by simp),λu hu=> ?_⟩;rcases List.mem_append.1 hu with hu | hu
 . exact u1 u hu
 exact u2 u hu
theorem Qbo {w:World} {oa:Option Addr} {cap:Nat} {l:List α} (hn:0<GoD.n α) (h:rd w [.slice oa l.length cap] l):l= []\/∃(b off:Nat) (news:List Value),oa=some ⟨b,off,none⟩/\news.length=l.length*GoD.n α/\(∀j u,news[j]? =some u->w.cell? ⟨b,off+j,none⟩=some u)/\
 ∀i a,l[i]? =some a->rd w ((news.drop (i*GoD.n α)).take (GoD.n α)) a:=by
 obtain ⟨oa',cap',e,hl,hm,hel⟩:=h;obtain ⟨rfl,rfl⟩:oa=oa'/\cap=cap':=by simpa using e
 cases hcase:l with
 | nil=>exact .inl rfl
 | cons a0 l0=>
   right
   obtain ⟨b,off,_,rfl,_⟩:=hel 0 a0 (by simp[hcase]);rw[←hcase]
   have key:∀k,k<=l.length->∃news:List Value,news.length=k*GoD.n α/\(∀j u,news[j]? =some u->w.cell? ⟨b,off+j,none⟩=some u)/\∀i a,i<k->l[i]? =some a->rd w ((news.drop (i*GoD.n α)).take (GoD.n α)) a:=by
    intro k
    induction k with
    | zero=>intro _;exact ⟨[],by simp,by simp,λi a hi=>absurd hi (Nat.not_lt_zero _)⟩
    | succ k ih=>
      intro hk;obtain ⟨news,h1,h2,h3⟩:=ih (by omega);obtain ⟨b',off',ce,e',hcl,hcc,hr⟩:=hel k _ (List.getElem?_eq_getElem (by omega:k<l.length));obtain ⟨rfl,rfl⟩:b=b'/\off=off':=by simpa using e'
      refine ⟨news++ce,by rw[List.length_append,h1,hcl,Nat.add_mul,Nat.one_mul],λj u hj=> ?_,λi a hi ha=> ?_⟩
      . rcases Nat.lt_or_ge j news.length with h | h
        . rw[List.getElem?_append_left h] at hj;exact h2 j u hj
        rw[List.getElem?_append_right h] at hj;have:=hcc _ u hj;rw[show off+k*GoD.n α+(j-news.length)=off+j by rw[←h1];omega] at this;exact this
      rcases Nat.lt_or_ge i k with h | h
      . have hmul:=Nat.mul_le_mul_right (GoD.n α) (show i+1<=k by omega);rw[Nat.add_mul,Nat.one_mul] at hmul;rw[List.drop_append_of_le_length (by omega),List.take_append_of_le_length (by rw[List.length_drop];omega)];exact h3 i a h ha
      obtain rfl:i=k:=by omega
      rw[List.getElem?_eq_getElem (by omega)] at ha;obtain rfl:=Option.some.inj ha;rw[←h1,List.drop_left,←hcl,List.take_length];exact hr
   obtain ⟨news,h1,h2,h3⟩:=key l.length (Nat.le_refl _);exact ⟨b,off,news,rfl,h1,h2,λi a ha=>h3 i a (List.getElem?_eq_some_iff.1 ha).1 ha⟩
theorem MM {P:Program} (w:World) (t ty e:TypeId) (hpl:Plain α) (ht:P.underlying t=some (.slice e))
 (hinf:(P.info? e).map (λi=>(i.zero.map (·.cells.size),i.size,decide (i.bytes<=1000)))=some (some (GoD.n α),GoD.n α,true)) {g:Nat} (hg:w.heap[g]? =some (.cells #[] e (0,0)))
 {y:Value} {l:List α} (hr:rd w [y] l) (hl:l.length<=1073741824):
 ∃v' w' L,(Builtin.append_ #[t,t] ty #[.slice (some ⟨g,0,none⟩) 0 0,y]).run P w= .ok v' w'/\own L w' [v'] l/\Ext w w'/\∀b∈L,w.heap.size<=b/\b<w'.heap.size:=by
 obtain ⟨i,z,hi,hz,hsize,hzn,hb⟩:=Qea hinf;obtain ⟨oa,cap,rfl⟩:=Bt hr;have hown:w.ownsRow g e i.size (.slice (some ⟨g,0,none⟩) 0 0) 0 []:=⟨by simp,.inr ⟨g,0, #[],rfl,Nat.le_refl _,hg,Nat.le_refl _,Nat.zero_le _,by simp,by simp⟩⟩;have h0:own [] w [.slice (some ⟨g,0,none⟩) 0 0] ([]:List α):=⟨by simp,.inl ⟨rfl,rfl,_,rfl⟩⟩;rcases Qbo hpl.1 hr with rfl | ⟨b,off,news,rfl,hnl,hnews,hrd⟩
 . cases oa with
   | none=>
     obtain ⟨_,_,ee,_,_,_⟩:=hr;by_cases hc:cap=0
     . subst hc;exact ⟨_,w, [],DT w t ty e i ht hi g 0 0 (Nat.le_refl _),h0,Ext.refl w,by simp⟩
     refine ⟨_,w, [], ?_,h0,Ext.refl w,by simp⟩;simp[Builtin.append_,run_underlying ht,sizeOf,typeInfo,hi,Builtin.lenOf,Builtin.firstCells,loadCells,loadCellsFrom,storeCells]
   | some ad=>
     refine ⟨_,w, [], ?_,h0,Ext.refl w,by simp⟩;simp[Builtin.append_,run_underlying ht,sizeOf,typeInfo,hi,Builtin.lenOf,Builtin.firstCells,loadCells,loadCellsFrom,storeCells]
 cases hlc:l with
 | nil=>
   subst hlc;refine ⟨_,w, [], ?_,h0,Ext.refl w,by simp⟩;simp[Builtin.append_,run_underlying ht,sizeOf,typeInfo,hi,Builtin.lenOf,Builtin.firstCells,loadCells,loadCellsFrom,storeCells]
 | cons a0 l0=>
   rw[←hlc];have hpos:0<l.length:=by rw[hlc];simp
   have h1:∀u∈news,Value.oneCell' u=true:=λu hu=>by
    obtain ⟨j,hj,rfl⟩:=List.getElem_of_mem hu;have hnp:=hpl.1;have hjn:j / GoD.n α<l.length:=by rw[Nat.div_lt_iff_lt_mul hnp];omega
    have hx:=(hpl.2 w w _ _ (hrd _ _ (List.getElem?_eq_getElem hjn))).2;refine hx _ (List.mem_of_getElem? (i:=j % GoD.n α) ?_);rw[W8 (Nat.mod_lt _ hnp),Nat.mul_comm,Nat.div_add_mod,List.getElem?_eq_getElem hj]
   obtain ⟨v',w',hr',hw,hgr,_,hfresh⟩:=Qfg (P:=P) w g t ty e i z ht hi hz (by rw[hsize];exact hzn) (by rw[hsize];exact hpl.1) hb hown ⟨b,off,none⟩ l.length cap news (by rw[hsize];exact hnl) (λj u hj=>by
    have:=hnews j u hj;unfold Addr.add;by_cases hj0:j=0
    . subst hj0;simpa using this
    simpa [hj0] using this) h1 (by omega) (Nat.le_of_lt (Q8 hg))
   obtain ⟨hf1,hf2⟩:=hfresh _ _ _ rfl (by omega);have hext:Ext w w':=(Below.refl _ _).grown hf2 (Nat.le_refl _) (λk hk=>by cases hk);rw[Nat.zero_add,List.nil_append,hsize] at hw
   have hA:App e w w' (v'.ownBlock.toList++(List.replicate l.length ([]:List Nat)).flatten) v' l:=by
    refine ⟨news,List.replicate l.length [],⟨hw.1, ?_⟩,rfl, ?_, ?_,by simp,λi Li a hLi ha=> ?_⟩
    . rcases hw.2 with h | ⟨g',cap',cur,h1,h2,h3⟩
      . exact .inl h
      exact .inr ⟨g',cap',cur,h1,hf1 g' (by rw[h1];rfl),h3⟩
    . simp only[List.flatten_replicate_nil,List.append_nil];cases v'.ownBlock<;>simp
    . intro b' hb';simp only[List.flatten_replicate_nil,List.append_nil] at hb';have hb2:v'.ownBlock=some b':=by simpa using hb'
      exact ⟨hf1 b' hb2,(World.ownsRow.lt hw b' hb2).2⟩
    have:Li= []:=by
     have:=List.mem_of_getElem? hLi;exact (List.mem_replicate.1 this).2
    subst this;exact (hpl.2 w w' _ _ (hrd i a ha)).1
   exact ⟨v',w',_,hr',hA.done,hext,λb hb=>⟨hA.ge b hb,hA.lt b hb⟩⟩
theorem Cu {P:Program} {w:World} {ops:Array Oper} {rest:List Oper} {o:Oper} {a:Act} {Q:Exit->Act->World->Prop} (s x:Operand) (t e:TypeId) (hpl:Plain α) (g:Nat) {y:Value} {l:List α} (hr:rd w [y] l) (hl:l.length<=1073741824)
 (hg:w.heap[g]? =some (.cells #[] e (0,0))) (hgd:o.guard=none) (ho:o.op= .call {callee:= .builtin .append,args:= #[s,x],argTypes:= #[t,t]}) (ht:P.underlying t=some (.slice e))
 (hinf:(P.info? e).map (λi=>(i.zero.map (·.cells.size),i.size,decide (i.bytes<=1000)))=some (some (GoD.n α),GoD.n α,true)) (hs:a.eval s= .slice (some ⟨g,0,none⟩) 0 0) (hx:a.eval x=y)
 (k:∀v' w' L,own L w' [v'] l->Ext w w'->(∀b∈L,w.heap.size<=b/\b<w'.heap.size)->wpList P ops Q rest (a.put o.dst v') w'):wpList P ops Q (o::rest) a w:=by
 refine wpList_plain hgd λ_ hK=> ?_
 obtain ⟨v',w',L,hr',h1,h2,h3⟩:=MM (P:=P) w t o.type e hpl ht hinf hg hr hl;unfold Oper.wp execOp;simp only[ho,resolve,invoke,builtin,Sem.run_bind,Sem.run_pure,Result.andThen_ok,List.map_toArray,List.map_cons,List.map_nil,hs,hx,hr'];exact hK _ _ (k v' w' L h1 h2 h3)
end
section
variable {P:Program} {o:Oper} {a:Act} {w:World} {K:Act->World->Prop} {Q:Exit->Act->World->Prop}
def New0 (e:TypeId) (v:Value) (L:List Nat) (w:World):Prop:=L= []/\∃g,v= .slice (some ⟨g,0,none⟩) 0 0/\w.heap[g]? =some (.cells #[] e (0,0))
theorem New0.keep {e:TypeId} {v:Value} {L:List Nat} {w w':World} (h:New0 e v L w) (hx:Ext w w'):New0 e v L w':=by
 obtain ⟨h1,g,h2,h3⟩:=h;exact ⟨h1,g,h2,(hx.block g (Q8 h3)).trans h3⟩
end
end
section
open Go.RowKit
open GoD (rd own)
theorem MN (w : World) (v : Value) (l : List Int) (ha : rd w [v] l) (hl : l.length ≤ 1073741824) : Calls Tryz.prog 134 #[v] w (RetS w l) := by
  have HA := Lib.hid ha
  obtain ⟨oa, cap, e, hlc, hm, hel⟩ := ha
  obtain rfl : v = _ := by simpa using e
  clear e
  have q22 : ∀ (w : World) (a : Option Addr) (n c n' c' : Nat), (binOp .eql 40 (.slice a n c) (.slice none n' c')).run Tryz.prog w = .ok (.bool a.isNone) w := λw a n c n' c' => Lib.run_eql_slice_nil w _ _ a n c n' c' Tryz.underlying40
  cases oa with
  | none =>
    have hnil : l = [] := by
      cases l with
      | nil => rfl
      | cons a l => obtain ⟨b, off, ce, h, _⟩ := hel 0 a rfl; cases h
    clear hel
    subst hnil
    go_enter Tryz.func134, Tryz.ntmps134
    go_wp2
    go_ret
    all_goals exact ⟨_, [], rfl, Below.refl _ _, ⟨by simp,.inl ⟨rfl, rfl, _, rfl⟩⟩, by simp⟩
  | some ad =>
    clear hel
    go_enter Tryz.func134, Tryz.ntmps134
    go_wp2_with (at_builtin; refine Cu (α := Int) _ _ 40 3 Ct w.heap.size (Zx HA.out (by go_grown)) hl (heap_alloc_new w _) rfl rfl Tryz.underlying40 (by kernel_rfl) rfl rfl ?_; intro v2 w2 L2 ho2 hx2 hL2)
    go_ret
    have hb : Below w.heap.size w w2 := Vj (show Below w.heap.size w _ by go_grown) hx2
    exact ⟨v2, L2, rfl, hb, ho2, λb hb' => by have := (hL2 b hb').1; simp only [World.size_alloc] at this; omega⟩
theorem Sd (l : List Int) : ACalls Tryz.prog 134 [GN l] (DM l) := E5 (by unfold Ee; kernel_rfl) (λw v h hw => MN w v l h (by have := hw.1; omega)) id
theorem VP (w : World) (v : Value) (l : List ByteArray) (ha : rd w [v] l) (hl : l.length ≤ 1073741824) : Calls Tryz.prog 236 #[v] w (RetS w l) := by
  have HA := Lib.hid ha
  obtain ⟨oa, cap, e, hlc, hm, hel⟩ := ha
  obtain rfl : v = _ := by simpa using e
  clear e
  have q22 : ∀ (w : World) (a : Option Addr) (n c n' c' : Nat), (binOp .eql 60 (.slice a n c) (.slice none n' c')).run Tryz.prog w = .ok (.bool a.isNone) w := λw a n c n' c' => Lib.run_eql_slice_nil w _ _ a n c n' c' Tryz.underlying60
  cases oa with
  | none =>
    have hnil : l = [] := by
      cases l with
      | nil => rfl
      | cons a l => obtain ⟨b, off, ce, h, _⟩ := hel 0 a rfl; cases h
    clear hel
    subst hnil
    go_enter Tryz.func236, Tryz.ntmps236
    go_wp2
    go_ret
    all_goals exact ⟨_, [], rfl, Below.refl _ _, ⟨by simp,.inl ⟨rfl, rfl, _, rfl⟩⟩, by simp⟩
  | some ad =>
    clear hel
    go_enter Tryz.func236, Tryz.ntmps236
    go_wp2_with (at_builtin; refine Cu (α := ByteArray) _ _ 60 9 Gy w.heap.size (Zx HA.out (by go_grown)) hl (heap_alloc_new w _) rfl rfl Tryz.underlying60 (by kernel_rfl) rfl rfl ?_; intro v2 w2 L2 ho2 hx2 hL2)
    go_ret
    have hb : Below w.heap.size w w2 := Vj (show Below w.heap.size w _ by go_grown) hx2
    exact ⟨v2, L2, rfl, hb, ho2, λb hb' => by have := (hL2 b hb').1; simp only [World.size_alloc] at this; omega⟩
theorem VQ (l : List ByteArray) : ACalls Tryz.prog 236 [GN l] (DM l) := E5 (by unfold Ee; kernel_rfl) (λw v h hw => VP w v l h (by have := hw.1; omega)) id
theorem DU (w : World) (v : Value) (l : List Jl) (ha : rd w [v] l) (hl : l.length ≤ 1073741824) : Calls Tryz.prog 161 #[v] w (RetS w l) := by
  have HA := Lib.hid ha
  obtain ⟨oa, cap, e, hlc, hm, hel⟩ := ha
  obtain rfl : v = _ := by simpa using e
  clear e
  have q22 : ∀ (w : World) (a : Option Addr) (n c n' c' : Nat), (binOp .eql 97 (.slice a n c) (.slice none n' c')).run Tryz.prog w = .ok (.bool a.isNone) w := λw a n c n' c' => Lib.run_eql_slice_nil w _ _ a n c n' c' Tryz.underlying97
  cases oa with
  | none =>
    have hnil : l = [] := by
      cases l with
      | nil => rfl
      | cons a l => obtain ⟨b, off, ce, h, _⟩ := hel 0 a rfl; cases h
    clear hel
    subst hnil
    go_enter Tryz.func161, Tryz.ntmps161
    go_wp2
    go_ret
    all_goals exact ⟨_, [], rfl, Below.refl _ _, ⟨by simp,.inl ⟨rfl, rfl, _, rfl⟩⟩, by simp⟩
  | some ad =>
    clear hel
    go_enter Tryz.func161, Tryz.ntmps161
    go_wp2_with (at_builtin; refine Cu (α := Jl) _ _ 97 135 (Hg Gy (Hg Ct (Hg Ct Gy))) w.heap.size (Zx HA.out (by go_grown)) hl (heap_alloc_new w _) rfl rfl Tryz.underlying97 (by kernel_rfl) rfl rfl ?_; intro v2 w2 L2 ho2 hx2 hL2)
    go_ret
    have hb : Below w.heap.size w w2 := Vj (show Below w.heap.size w _ by go_grown) hx2
    exact ⟨v2, L2, rfl, hb, ho2, λb hb' => by have := (hL2 b hb').1; simp only [World.size_alloc] at this; omega⟩
theorem DV (l : List Jl) : ACalls Tryz.prog 161 [GN l] (DM l) := E5 (by unfold Ee; kernel_rfl) (λw v h hw => DU w v l h (by have := hw.1; omega)) id
theorem AL (w : World) (v : Value) (l : List Yd) (ha : rd w [v] l) (hl : l.length ≤ 1073741824) : Calls Tryz.prog 111 #[v] w (RetS w l) := by
  have HA := Lib.hid ha
  obtain ⟨oa, cap, e, hlc, hm, hel⟩ := ha
  obtain rfl : v = _ := by simpa using e
  clear e
  have q22 : ∀ (w : World) (a : Option Addr) (n c n' c' : Nat), (binOp .eql 31 (.slice a n c) (.slice none n' c')).run Tryz.prog w = .ok (.bool a.isNone) w := λw a n c n' c' => Lib.run_eql_slice_nil w _ _ a n c n' c' Tryz.underlying31
  cases oa with
  | none =>
    have hnil : l = [] := by
      cases l with
      | nil => rfl
      | cons a l => obtain ⟨b, off, ce, h, _⟩ := hel 0 a rfl; cases h
    clear hel
    subst hnil
    go_enter Tryz.func111, Tryz.ntmps111
    go_wp2
    go_ret
    all_goals exact ⟨_, [], rfl, Below.refl _ _, ⟨by simp,.inl ⟨rfl, rfl, _, rfl⟩⟩, by simp⟩
  | some ad =>
    clear hel
    go_enter Tryz.func111, Tryz.ntmps111
    go_wp2_with (at_builtin; refine Cu (α := Yd) _ _ 31 93 (Hg Gy Ct) w.heap.size (Zx HA.out (by go_grown)) hl (heap_alloc_new w _) rfl rfl Tryz.underlying31 (by kernel_rfl) rfl rfl ?_; intro v2 w2 L2 ho2 hx2 hL2)
    go_ret
    have hb : Below w.heap.size w w2 := Vj (show Below w.heap.size w _ by go_grown) hx2
    exact ⟨v2, L2, rfl, hb, ho2, λb hb' => by have := (hL2 b hb').1; simp only [World.size_alloc] at this; omega⟩
theorem AM (l : List Yd) : ACalls Tryz.prog 111 [GN l] (DM l) := E5 (by unfold Ee; kernel_rfl) (λw v h hw => AL w v l h (by have := hw.1; omega)) id
theorem DW (w : World) (v : Value) (l : List Yy) (ha : rd w [v] l) (hl : l.length ≤ 1073741824) : Calls Tryz.prog 168 #[v] w (RetS w l) := by
  have HA := Lib.hid ha
  obtain ⟨oa, cap, e, hlc, hm, hel⟩ := ha
  obtain rfl : v = _ := by simpa using e
  clear e
  have q22 : ∀ (w : World) (a : Option Addr) (n c n' c' : Nat), (binOp .eql 107 (.slice a n c) (.slice none n' c')).run Tryz.prog w = .ok (.bool a.isNone) w := λw a n c n' c' => Lib.run_eql_slice_nil w _ _ a n c n' c' Tryz.underlying107
  cases oa with
  | none =>
    have hnil : l = [] := by
      cases l with
      | nil => rfl
      | cons a l => obtain ⟨b, off, ce, h, _⟩ := hel 0 a rfl; cases h
    clear hel
    subst hnil
    go_enter Tryz.func168, Tryz.ntmps168
    go_wp2
    go_ret
    all_goals exact ⟨_, [], rfl, Below.refl _ _, ⟨by simp,.inl ⟨rfl, rfl, _, rfl⟩⟩, by simp⟩
  | some ad =>
    clear hel
    go_enter Tryz.func168, Tryz.ntmps168
    go_wp2_with (at_builtin; refine Cu (α := Yy) _ _ 107 171 (Hg Ct (Hg Ct (Hg Ct (Hg Gy (Hg Ct (Hg Ct Gy)))))) w.heap.size (Zx HA.out (by go_grown)) hl (heap_alloc_new w _) rfl rfl Tryz.underlying107 (by kernel_rfl) rfl rfl ?_; intro v2 w2 L2 ho2 hx2 hL2)
    go_ret
    have hb : Below w.heap.size w w2 := Vj (show Below w.heap.size w _ by go_grown) hx2
    exact ⟨v2, L2, rfl, hb, ho2, λb hb' => by have := (hL2 b hb').1; simp only [World.size_alloc] at this; omega⟩
theorem DX (l : List Yy) : ACalls Tryz.prog 168 [GN l] (DM l) := E5 (by unfold Ee; kernel_rfl) (λw v h hw => DW w v l h (by have := hw.1; omega)) id
open GoE (enc wide)
abbrev Z:=List ByteArray
def tt:List (Nat×TI):= [(3,⟨.int .i64,1, [.i 0], []⟩),
 (4,⟨.bool,1, [.b false], []⟩),
 (5,⟨.int .u8,1, [.int .u8 0], []⟩),
 (9,⟨.str,1, [.s ⟨#[]⟩], []⟩),
 (22,⟨.sli 125,1, [.e 2], []⟩),
 (23,⟨.sli 129,1, [.e 5], []⟩),
 (25,⟨.struct [(0,1,false),(1,1,false),(2,1,false)],3, [.e 2,.e 5,.i 0], []⟩),
 (26,⟨.sli 82,1, [.e 2], []⟩),
 (27,⟨.sli 85,1, [.e 2], []⟩),
 (29,⟨.struct [(0,3,true),(3,1,false),(4,1,false)],5, [.e 2,.e 5,.i 0,.e 2,.e 2], []⟩),
 (31,⟨.sli 93,1, [.e 2], []⟩),
 (32,⟨.sli 99,1, [.e 5], []⟩),
 (34,⟨.struct [(0,1,false),(1,1,false),(2,1,false)],3, [.e 2,.e 5,.i 0], []⟩),
 (35,⟨.sli 109,1, [.e 2], []⟩),
 (36,⟨.sli 113,1, [.e 2], []⟩),
 (38,⟨.struct [(0,3,true),(3,1,false),(4,1,false)],5, [.e 2,.e 5,.i 0,.e 2,.e 2], []⟩),
 (39,⟨.sli 72,1, [.e 3], []⟩),
 (40,⟨.sli 3,1, [.e 1], []⟩),
 (60,⟨.sli 9,1, [.e 1], []⟩),
 (72,⟨.struct [(0,1,false),(1,1,false),(2,1,false)],3, [.s ⟨#[]⟩,.e 1,.e 1], []⟩),
 (80,⟨.sli 176,1, [.e 7], []⟩),
 (82,⟨.struct [(0,1,false),(1,1,false)],2, [.s ⟨#[]⟩,.e 7], []⟩),
 (85,⟨.struct [(0,1,false),(1,1,false)],2, [.s ⟨#[]⟩,.e 1], []⟩),
 (93,⟨.struct [(0,1,false),(1,1,false)],2, [.s ⟨#[]⟩,.i 0], []⟩),
 (95,⟨.struct [(0,1,false),(1,1,false),(2,1,false)],3, [.i 0,.i 0,.s ⟨#[]⟩], [.int,.int,.str]⟩),
 (97,⟨.sli 135,1, [.e 4], []⟩),
 (99,⟨.struct [(0,1,false),(1,1,false),(2,1,false),(3,1,false),(4,1,false)],5, [.i 0,.i 0,.b false,.i 0,.e 4], []⟩),
 (107,⟨.sli 171,1, [.e 7], []⟩),
 (109,⟨.struct [(0,1,false),(1,1,false)],2, [.s ⟨#[]⟩,.e 7], []⟩),
 (113,⟨.struct [(0,1,false),(1,1,false)],2, [.s ⟨#[]⟩,.e 1], []⟩),
 (125,⟨.struct [(0,1,false),(1,1,false)],2, [.s ⟨#[]⟩,.i 0], []⟩),
 (127,⟨.sli 195,1, [.e 4], []⟩),
 (129,⟨.struct [(0,1,false),(1,1,false),(2,1,false),(3,1,false),(4,1,false)],5, [.i 0,.i 0,.b false,.i 0,.e 4], []⟩),
 (135,⟨.struct [(0,1,false),(1,3,true)],4, [.s ⟨#[]⟩,.i 0,.i 0,.s ⟨#[]⟩], []⟩),
 (171,⟨.struct [(0,1,false),(1,1,false),(2,1,false),(3,1,false),(4,3,true)],7, [.i 0,.i 0,.i 0,.s ⟨#[]⟩,.i 0,.i 0,.s ⟨#[]⟩], [.int,.int,.int,.str,.int,.int,.str]⟩),
 (174,⟨.struct [(0,1,false),(1,1,false),(2,1,false)],3, [.i 0,.i 0,.s ⟨#[]⟩], []⟩),
 (176,⟨.struct [(0,1,false),(1,1,false),(2,1,false),(3,1,false),(4,3,true)],7, [.i 0,.i 0,.i 0,.s ⟨#[]⟩,.i 0,.i 0,.s ⟨#[]⟩], []⟩),
 (195,⟨.struct [(0,1,false),(1,3,true)],4, [.s ⟨#[]⟩,.i 0,.i 0,.s ⟨#[]⟩], []⟩),
 (220,⟨.sli 4,1, [.e 1], []⟩)]
theorem Qb:De Tryz.prog tt=true:=by kernel_rfl
theorem Zf:Tryz.prog.follows .mixedOrders=true:=by kernel_rfl
def X9 (n:Int) (low:Int) (high_:Int):Bool:=(decide (low<=n)&&decide (n<=high_))
theorem Jk (n:Int) (low:Int) (high_:Int):ACalls Tryz.prog 115 [.i n,.i low,.i high_] (.b (X9 n low high_)):=by
 refine en Qb Tryz.func115 λw0 F0 hG=> ?_
 refine sn Qb [0,1,2,6] [] p0 <| Qc <| mz [(6,.b false)] [] [] [] <| jn [(6,.b (decide (low<=n)&&decide (n<=high_)))] [0,1,2,6] [] [] (decide (low<=n)) (λh1=> ?_) (λh1=> ?_) ?_
 ·refine rn Qb [6] [] (pt 2 h1 p0) ?_;exact zA (by rw[h1]<;>kernel_rfl)
 ·refine rn Qb [6] [] (pf 2 h1 p0) ?_;exact zA (by rw[h1]<;>kernel_rfl)
 exact Qk <| pb [] (show X9 n low high_=(decide (low<=n)&&decide (n<=high_)) from rfl)
def Wc (s_:ByteArray) (k0:Nat) (_:Unit):Rd (Bool) (Unit) (Unit):=(bif (decide (H3 s_ (k0:Int)<(97:Int))|| decide (H3 s_ (k0:Int)>(122:Int))) then (.ret false) else (.next ()))
def Uu (_:Nat) (_:Unit):Unit:=()
def Yo (s_:ByteArray):Bool:=(Out.on (Wb (Wc s_) Uu (ByteArray.size s_:Int).toNat 0 ()) (λ_=>(X9 (ByteArray.size s_:Int) 1 6)))
theorem Ju (s_:ByteArray):ACalls Tryz.prog 158 [.s s_] (.b (Yo s_)):=by
 refine en Qb Tryz.func158 λw0 F0 hG=> ?_
 refine sn Qb [0,2] [] p0 <| Qc <| tn Qb [0,2,5,6] [] p0 <| mz [(2,.b false),(5,.i (ByteArray.size s_:Int)),(6,.i 0)] [] [] [] <| stT 0 0 s_ (λhs1=> ?_)
 refine Qib (Wc s_) Uu (ByteArray.size s_:Int).toNat () (λk0 _=> [(6,.i (k0:Int))]) [6] (λ_=> []) [5,6] wf0 (λk0 s0 hk0 U=> ?_) (λk0 s0 hk0 U=> ?_) (λy0 hD0=> ?_)
 ·refine sn Qb [0,2,5,6,7] [] (pe 0 (zB ((k0:Int)<(ByteArray.size s_:Int))) p0) <| Qc <| ckT <| Qi <| Qc <| Qx <| tn Qb [0,2,3,5,6] [] p0 <| Qc <| mz [(3,.i (k0:Int))] [] [] [] <| jn [(18,.b (decide (H3 s_ (k0:Int)<(97:Int))|| decide (H3 s_ (k0:Int)>(122:Int))))] [3] [] [] (decide (H3 s_ (k0:Int)<(97:Int))) (λh2=> ?_) (λh2=> ?_) ?_
  ·have h2d:=of_decide_eq_true h2;refine rn Qb [0,2,5,6,18] [] (px (Pn (i:=(k0:Int)) (n:=(ByteArray.size s_)) (by omega)) (pt 3 h2 p0)) ?_;exact zA (by rw[h2]<;>kernel_rfl)
  ·have h2d:=of_decide_eq_false h2;refine rn Qb [0,2,5,6,18] [] (px (Pn (i:=(k0:Int)) (n:=(ByteArray.size s_)) (by omega)) (pf 3 h2 (px (Pn (i:=(k0:Int)) (n:=(ByteArray.size s_)) (by omega)) p0))) ?_;exact zA (by rw[h2]<;>kernel_rfl)
  refine ck (decide (H3 s_ (k0:Int)<(97:Int))|| decide (H3 s_ (k0:Int)>(122:Int))) (λh3=> ?_) (λh3=> ?_)
  ·refine su Qb [] [18] [] [] p0 <| Qk ?_
   have hr4:(Wb (Wc s_) Uu (ByteArray.size s_:Int).toNat 0 ())= .ret false:=GW hk0 (X6 h3 (rfl)) U;exact pb [] (M5 hr4)
  have h3l:(decide (H3 s_ (k0:Int)<(97:Int)))=false:=VL h3;have h3ld:=of_decide_eq_false h3l;have h3r:(decide (H3 s_ (k0:Int)>(122:Int)))=false:=UJ h3;have h3rd:=of_decide_eq_false h3r;refine Qi <| rn Qb [0,2,5,6] [] (pe 0 (Js (Qq k0 (by omega))) p0) ?_
  exact xw _ (K1 hk0 (Qy h3 (rfl)) U)
 ·exact sn Qb [0,2,5,6,7] [] (pe 0 (zC ((k0:Int)<(ByteArray.size s_:Int))) p0) <| Qc <| ckF <| Xe <| xw _ (Cq hk0 (rfl) U)
 exact sn Qb [2] [] (pc 2 (Jk (ByteArray.size s_:Int) 1 6) p0) <| Qk <| pb [] (Ur hD0 (rfl))
def Za (v:Z4):Bool:=(bif (v.1==(0:Int)) then ((v.1==0)&&((v.2.1==0)&&((v.2.2.toList==(⟨#[]⟩:ByteArray).toList)&&true))) else (bif (v.1==(1:Int)) then ((X9 v.2.1 0 999)&&(v.2.2.toList==(⟨#[]⟩:ByteArray).toList)) else (bif (v.1==(2:Int)) then ((Yo v.2.2)&&(v.2.1==(0:Int))) else false)))
theorem K7 (v:Z4):ACalls Tryz.prog 118 [.a [.i v.1,.i v.2.1,.s v.2.2]] (.b (Za v)):=by
 refine en Qb Tryz.func118 λw0 F0 hG=> ?_
 refine sn Qb [1,2] [1] p0 <| Qc <| tn Qb [1,2,4] [1] p0 <| Qx <| tu Qb [(1,.p 1 0),(2,.b false),(4,.i v.1),(5,.b (v.1==(0:Int)))] [0] [(1, [.i v.1,.i v.2.1,.s v.2.2])] [] p0 <| ck (v.1==(0:Int)) (λh1=> ?_) (λh1=> ?_)
 ·exact sn Qb [2] [] p0 <| Qk <| pb [] (X6 h1 (rfl))
 refine sn Qb [1,2,4,10] [1] p0 <| ck (v.1==(1:Int)) (λh2=> ?_) (λh2=> ?_)
 ·refine Qc <| mz [(10,.b (v.1==(1:Int)))] [5] [] [] <| jn [(2,.b ((X9 v.2.1 0 999)&&(v.2.2.toList==(⟨#[]⟩:ByteArray).toList)))] [1,2,4,10] [] [1] (X9 v.2.1 0 999) (λh3=> ?_) (λh3=> ?_) ?_
  ·refine rn Qb [2] [] (pc 2 (cb h3 (Jk v.2.1 0 999)) p0) ?_;exact zA (by rw[h3]<;>kernel_rfl)
  ·refine rn Qb [2] [] (pc 2 (cb h3 (Jk v.2.1 0 999)) p0) ?_;exact zA (by rw[h3]<;>kernel_rfl)
  exact Qk <| pb [] (Qy h1 (X6 h2 (rfl)))
 refine tn Qb [1,2,20] [1] p0 <| ck (v.1==(2:Int)) (λh4=> ?_) (λh4=> ?_)
 ·refine Qc <| mz [(20,.b (v.1==(2:Int)))] [4,5] [] [] <| jn [(2,.b ((Yo v.2.2)&&(v.2.1==(0:Int))))] [1,2,20] [] [1] (Yo v.2.2) (λh5=> ?_) (λh5=> ?_) ?_
  ·refine rn Qb [2] [] (pc 2 (cb h5 (Ju v.2.2)) p0) ?_;exact zA (by rw[h5]<;>kernel_rfl)
  ·refine rn Qb [2] [] (pc 2 (cb h5 (Ju v.2.2)) p0) ?_;exact zA (by rw[h5]<;>kernel_rfl)
  exact Qk <| pb [] (Qy h1 (Qy h2 (X6 h4 (rfl))))
 exact Qi <| tu Qb [] [1,4,5] [] [1] p0 <| Qk <| pb [] (Qy h1 (Qy h2 (Qy h4 (rfl))))
def Xi (x:Int) (least:Int) (most:Int):Bool:=(decide (x>=least)&&decide (x<=most))
theorem Zz (x:Int) (least:Int) (most:Int):ACalls Tryz.prog 53 [.i x,.i least,.i most] (.b (Xi x least most)):=by
 refine en Qb Tryz.func53 λw0 F0 hG=> ?_
 refine sn Qb [0,1,2,6] [] p0 <| Qc <| mz [(6,.b false)] [] [] [] <| jn [(6,.b (decide (x>=least)&&decide (x<=most)))] [0,1,2,6] [] [] (decide (x>=least)) (λh1=> ?_) (λh1=> ?_) ?_
 ·refine rn Qb [6] [] (pt 2 h1 p0) ?_;exact zA (by rw[h1]<;>kernel_rfl)
 ·refine rn Qb [6] [] (pf 2 h1 p0) ?_;exact zA (by rw[h1]<;>kernel_rfl)
 exact Qk <| pb [] (show Xi x least most=(decide (x>=least)&&decide (x<=most)) from rfl)
def Uq (s_:ByteArray) (k0:Nat) (_:Unit):Rd (Bool) (Unit) (Unit):=(bif (decide (H3 s_ (k0:Int)<(97:Int))|| decide (H3 s_ (k0:Int)>(122:Int))) then (.ret false) else (.next ()))
def Hh (_:Nat) (_:Unit):Unit:=()
def Dg (s_:ByteArray) (most:Int):Bool:=(Out.on (Wb (Uq s_) Hh (ByteArray.size s_:Int).toNat 0 ()) (λ_=>(Xi (ByteArray.size s_:Int) 1 most)))
theorem Pt (s_:ByteArray) (most:Int):ACalls Tryz.prog 174 [.s s_,.i most] (.b (Dg s_ most)):=by
 refine en Qb Tryz.func174 λw0 F0 hG=> ?_
 refine sn Qb [0,1,4] [] p0 <| Qc <| tn Qb [0,1,4,5] [] p0 <| mz [(4,.b false),(5,.i 0)] [] [] [] <| stT 0 0 s_ (λhs1=> ?_)
 refine Qib (Uq s_) Hh (ByteArray.size s_:Int).toNat () (λk0 _=> [(5,.i (k0:Int))]) [5] (λ_=> []) [5] wf0 (λk0 s0 hk0 U=> ?_) (λk0 s0 hk0 U=> ?_) (λy0 hD0=> ?_)
 ·refine Qc <| sn Qb [0,1,4,5,9] [] (pe 3 (zB ((k0:Int)<(ByteArray.size s_:Int))) p0) <| ckT <| Qi <| Qc <| Qx <| Qc <| mz [(9,.b true)] [] [] [] <| jn [(21,.b (decide (H3 s_ (k0:Int)<(97:Int))|| decide (H3 s_ (k0:Int)>(122:Int))))] [9] [] [] (decide (H3 s_ (k0:Int)<(97:Int))) (λh2=> ?_) (λh2=> ?_) ?_
  ·have h2d:=of_decide_eq_true h2;refine rn Qb [0,1,4,5,21] [] (px (Pn (i:=(k0:Int)) (n:=(ByteArray.size s_)) (by omega)) (pt 3 h2 p0)) ?_;exact zA (by rw[h2]<;>kernel_rfl)
  ·have h2d:=of_decide_eq_false h2;refine rn Qb [0,1,4,5,21] [] (px (Pn (i:=(k0:Int)) (n:=(ByteArray.size s_)) (by omega)) (pf 3 h2 (px (Pn (i:=(k0:Int)) (n:=(ByteArray.size s_)) (by omega)) p0))) ?_;exact zA (by rw[h2]<;>kernel_rfl)
  refine ck (decide (H3 s_ (k0:Int)<(97:Int))|| decide (H3 s_ (k0:Int)>(122:Int))) (λh3=> ?_) (λh3=> ?_)
  ·refine su Qb [] [21] [] [] p0 <| Qk ?_
   have hr4:(Wb (Uq s_) Hh (ByteArray.size s_:Int).toNat 0 ())= .ret false:=GW hk0 (X6 h3 (rfl)) U;exact pb [] (M5 hr4)
  have h3l:(decide (H3 s_ (k0:Int)<(97:Int)))=false:=VL h3;have h3ld:=of_decide_eq_false h3l;have h3r:(decide (H3 s_ (k0:Int)>(122:Int)))=false:=UJ h3;have h3rd:=of_decide_eq_false h3r;refine Qi <| rn Qb [0,1,4,5] [] (pe 1 (Js (Qq k0 (by omega))) p0) ?_
  exact xw _ (K1 hk0 (Qy h3 (rfl)) U)
 ·exact Qc <| sn Qb [0,1,4,5,9] [] (pe 3 (zC ((k0:Int)<(ByteArray.size s_:Int))) p0) <| ckF <| Xe <| xw _ (Cq hk0 (rfl) U)
 exact sn Qb [4] [] (pc 3 (Zz (ByteArray.size s_:Int) 1 most) p0) <| Qk <| pb [] (Ur hD0 (rfl))
def Ye (s_:ByteArray):Bool:=(Dg s_ 6)
theorem Zs (s_:ByteArray):ACalls Tryz.prog 146 [.s s_] (.b (Ye s_)):=by
 refine en Qb Tryz.func146 λw0 F0 hG=> ?_
 exact sn Qb [0,2] [] p0 <| tn Qb [2] [] (pc 1 (Pt s_ 6) p0) <| Qk <| pb [] (show Ye s_=(Dg s_ 6) from rfl)
def Zy (v:Z4):Bool:=(bif (v.1==(0:Int)) then ((v.1==0)&&((v.2.1==0)&&((v.2.2.toList==(⟨#[]⟩:ByteArray).toList)&&true))) else (bif (v.1==(1:Int)) then ((Xi v.2.1 0 999)&&(v.2.2.toList==(⟨#[]⟩:ByteArray).toList)) else (bif (v.1==(2:Int)) then ((Ye v.2.2)&&(v.2.1==(0:Int))) else false)))
theorem Zr (v:Z4):ACalls Tryz.prog 94 [.a [.i v.1,.i v.2.1,.s v.2.2]] (.b (Zy v)):=by
 refine en Qb Tryz.func94 λw0 F0 hG=> ?_
 refine sn Qb [1,2] [1] p0 <| Qc <| tn Qb [1,2,4] [1] p0 <| Qx <| tu Qb [(1,.p 1 0),(2,.b false),(4,.i v.1),(5,.b (v.1==(0:Int)))] [0] [(1, [.i v.1,.i v.2.1,.s v.2.2])] [] p0 <| ck (v.1==(0:Int)) (λh1=> ?_) (λh1=> ?_)
 ·exact sn Qb [2] [] p0 <| Qk <| pb [] (X6 h1 (rfl))
 refine sn Qb [1,2,4,10] [1] p0 <| ck (v.1==(1:Int)) (λh2=> ?_) (λh2=> ?_)
 ·refine Qc <| mz [(10,.b (v.1==(1:Int)))] [5] [] [] <| jn [(2,.b ((Xi v.2.1 0 999)&&(v.2.2.toList==(⟨#[]⟩:ByteArray).toList)))] [1,2,4,10] [] [1] (Xi v.2.1 0 999) (λh3=> ?_) (λh3=> ?_) ?_
  ·refine rn Qb [2] [] (pc 2 (cb h3 (Zz v.2.1 0 999)) p0) ?_;exact zA (by rw[h3]<;>kernel_rfl)
  ·refine rn Qb [2] [] (pc 2 (cb h3 (Zz v.2.1 0 999)) p0) ?_;exact zA (by rw[h3]<;>kernel_rfl)
  exact Qk <| pb [] (Qy h1 (X6 h2 (rfl)))
 refine tn Qb [1,2,20] [1] p0 <| ck (v.1==(2:Int)) (λh4=> ?_) (λh4=> ?_)
 ·refine Qc <| mz [(20,.b (v.1==(2:Int)))] [4,5] [] [] <| jn [(2,.b ((Ye v.2.2)&&(v.2.1==(0:Int))))] [1,2,20] [] [1] (Ye v.2.2) (λh5=> ?_) (λh5=> ?_) ?_
  ·refine rn Qb [2] [] (pc 2 (cb h5 (Zs v.2.2)) p0) ?_;exact zA (by rw[h5]<;>kernel_rfl)
  ·refine rn Qb [2] [] (pc 2 (cb h5 (Zs v.2.2)) p0) ?_;exact zA (by rw[h5]<;>kernel_rfl)
  exact Qk <| pb [] (Qy h1 (Qy h2 (X6 h4 (rfl))))
 exact Qi <| tu Qb [] [1,4,5] [] [1] p0 <| Qk <| pb [] (Qy h1 (Qy h2 (Qy h4 (rfl))))
def Xv (s_:ByteArray):Bool:=(Dg s_ 1)
theorem X8 (s_:ByteArray):ACalls Tryz.prog 145 [.s s_] (.b (Xv s_)):=by
 refine en Qb Tryz.func145 λw0 F0 hG=> ?_
 exact sn Qb [0,2] [] p0 <| tn Qb [2] [] (pc 1 (Pt s_ 1) p0) <| Qk <| pb [] (show Xv s_=(Dg s_ 1) from rfl)
def Yi (s_:ByteArray):Bool:=(((ByteArray.size s_:Int)==(1:Int))&&(decide (H3 s_ 0>=(97:Int))&&decide (H3 s_ 0<=(122:Int))))
theorem Yz (s_:ByteArray):ACalls Tryz.prog 156 [.s s_] (.b (Yi s_)):=by
 refine en Qb Tryz.func156 λw0 F0 hG=> ?_
 refine sn Qb [0,2] [] p0 <| Qc <| mz [(2,.b false)] [] [] [] <| jn [(2,.b (((ByteArray.size s_:Int)==(1:Int))&&(decide (H3 s_ 0>=(97:Int))&&decide (H3 s_ 0<=(122:Int)))))] [0,2] [] [] ((ByteArray.size s_:Int)==(1:Int)) (λh1=> ?_) (λh1=> ?_) ?_
 ·have h1d:=eq_of_beq h1;refine Ya (decide (H3 s_ 0>=(97:Int))) (λh2=> ?_) (λh2=> ?_)
  ·have h2d:=of_decide_eq_true h2;refine rn Qb [2] [] (pt 2 h1 (px (Pn (i:=0) (n:=(ByteArray.size s_)) (by omega)) (pt 6 h2 (px (Pn (i:=0) (n:=(ByteArray.size s_)) (by omega)) p0)))) ?_;exact zA (by rw[h1,h2]<;>kernel_rfl)
  have h2d:=of_decide_eq_false h2;refine rn Qb [2] [] (pt 2 h1 (px (Pn (i:=0) (n:=(ByteArray.size s_)) (by omega)) (pf 6 h2 p0))) ?_;exact zA (by rw[h1,h2]<;>kernel_rfl)
 ·refine rn Qb [2] [] (pf 2 h1 p0) ?_;exact zA (by rw[h1]<;>kernel_rfl)
 exact Qk <| pb [] (show Yi s_=(((ByteArray.size s_:Int)==(1:Int))&&(decide (H3 s_ 0>=(97:Int))&&decide (H3 s_ 0<=(122:Int)))) from rfl)
def Zg (n:Yy) (at_:Int):Bool:=(bif (n.1==(1:Int)) then ((n.1==n.1)&&((n.2.1==0)&&((n.2.2.1==0)&&((n.2.2.2.1.toList==(⟨#[]⟩:ByteArray).toList)&&((n.2.2.2.2.1==0)&&((n.2.2.2.2.2.1==0)&&((n.2.2.2.2.2.2.toList==(⟨#[]⟩:ByteArray).toList)&&true))))))) else (bif (n.1==(2:Int)) then (((n.1==n.1)&&((n.2.1==0)&&((n.2.2.1==0)&&((n.2.2.2.1.toList==n.2.2.2.1.toList)&&((n.2.2.2.2.1==0)&&((n.2.2.2.2.2.1==0)&&((n.2.2.2.2.2.2.toList==(⟨#[]⟩:ByteArray).toList)&&true)))))))&&(Yi n.2.2.2.1)) else (bif (bif (n.1==(3:Int)) then (n.1==(3:Int)) else (n.1==(4:Int))) then (((n.1==n.1)&&((n.2.1==0)&&((n.2.2.1==0)&&((n.2.2.2.1.toList==n.2.2.2.1.toList)&&((n.2.2.2.2.1==n.2.2.2.2.1)&&((n.2.2.2.2.2.1==n.2.2.2.2.2.1)&&((n.2.2.2.2.2.2.toList==n.2.2.2.2.2.2.toList)&&true)))))))&&((Yi n.2.2.2.1)&&((Za n.2.2.2.2)&&((n.2.2.2.2.1 !=(0:Int))&&((n.1==(3:Int))|| (n.2.2.2.2.1==(1:Int))))))) else (bif (n.1==(5:Int)) then (((n.1==n.1)&&((n.2.1==n.2.1)&&((n.2.2.1==0)&&((n.2.2.2.1.toList==(⟨#[]⟩:ByteArray).toList)&&((n.2.2.2.2.1==0)&&((n.2.2.2.2.2.1==0)&&((n.2.2.2.2.2.2.toList==(⟨#[]⟩:ByteArray).toList)&&true)))))))&&(decide (at_>(0:Int))&&(X9 n.2.1 0 (IntKind.i64.wrap (at_-1))))) else (bif (bif (n.1==(6:Int)) then (n.1==(6:Int)) else (n.1==(7:Int))) then (((n.1==n.1)&&((n.2.1==n.2.1)&&((n.2.2.1==n.2.2.1)&&((n.2.2.2.1.toList==(⟨#[]⟩:ByteArray).toList)&&((n.2.2.2.2.1==0)&&((n.2.2.2.2.2.1==0)&&((n.2.2.2.2.2.2.toList==(⟨#[]⟩:ByteArray).toList)&&true)))))))&&(decide (at_>(0:Int))&&((X9 n.2.1 0 (IntKind.i64.wrap (at_-1)))&&(X9 n.2.2.1 0 (IntKind.i64.wrap (at_-1)))))) else (bif (n.1==(8:Int)) then (((n.1==n.1)&&((n.2.1==0)&&((n.2.2.1==0)&&((n.2.2.2.1.toList==n.2.2.2.1.toList)&&((n.2.2.2.2.1==0)&&((n.2.2.2.2.2.1==0)&&((n.2.2.2.2.2.2.toList==(⟨#[]⟩:ByteArray).toList)&&true)))))))&&(Yo n.2.2.2.1)) else (bif (n.1==(9:Int)) then (((n.1==n.1)&&((n.2.1==0)&&((n.2.2.1==0)&&((n.2.2.2.1.toList==n.2.2.2.1.toList)&&((n.2.2.2.2.1==0)&&((n.2.2.2.2.2.1==0)&&((n.2.2.2.2.2.2.toList==(⟨#[]⟩:ByteArray).toList)&&true)))))))&&(Yo n.2.2.2.1)) else false)))))))
theorem Dh (n:Yy) (at_:Int):ACalls Tryz.prog 220 [.a [.i n.1,.i n.2.1,.i n.2.2.1,.s n.2.2.2.1,.i n.2.2.2.2.1,.i n.2.2.2.2.2.1,.s n.2.2.2.2.2.2],.i at_] (.b (Zg n at_)):=by
 refine en Qb Tryz.func220 λw0 F0 hG=> ?_
 refine sn Qb [1,2,4] [2] p0 <| tn Qb [1,2,4,5] [2,5] p0 <| Qc <| tu Qb [(2,.p 2 0),(4,.b false),(5,.p 5 0),(10,.i n.1)] [0] [(2, [.i n.1,.i n.2.1,.i n.2.2.1,.s n.2.2.2.1,.i n.2.2.2.2.1,.i n.2.2.2.2.2.1,.s n.2.2.2.2.2.2]),(5, [.i n.1,.i 0,.i 0,.s ⟨#[]⟩,.i 0,.i 0,.s ⟨#[]⟩])] [] p0 <| Qx <| sn Qb [1,2,4,5,10,11] [2,5] p0 <| ck (n.1==(1:Int)) (λh1=> ?_) (λh1=> ?_)
 ·exact Qi <| tn Qb [4] [] p0 <| Qk <| pb [] (X6 h1 (rfl))
 refine tn Qb [1,2,4,5,10,13] [2,5] p0 <| ck (n.1==(2:Int)) (λh2=> ?_) (λh2=> ?_)
 ·refine tu Qb [] [1,10] [(5, [.i n.1,.i 0,.i 0,.s n.2.2.2.1,.i 0,.i 0,.s ⟨#[]⟩])] [5] p0 <| Qc <| jn [(4,.b (((n.1==n.1)&&((n.2.1==0)&&((n.2.2.1==0)&&((n.2.2.2.1.toList==n.2.2.2.1.toList)&&((n.2.2.2.2.1==0)&&((n.2.2.2.2.2.1==0)&&((n.2.2.2.2.2.2.toList==(⟨#[]⟩:ByteArray).toList)&&true)))))))&&(Yi n.2.2.2.1)))] [4] [] [] ((n.1==n.1)&&((n.2.1==0)&&((n.2.2.1==0)&&((n.2.2.2.1.toList==n.2.2.2.1.toList)&&((n.2.2.2.2.1==0)&&((n.2.2.2.2.2.1==0)&&((n.2.2.2.2.2.2.toList==(⟨#[]⟩:ByteArray).toList)&&true))))))) (λh3=> ?_) (λh3=> ?_) ?_
  ·refine rn Qb [2,4,5] [2,5] (pt 2 h3 (pc 6 (Yz n.2.2.2.1) p0)) ?_;exact zA (by rw[h3]<;>kernel_rfl)
  ·refine ru Qb [] [] [] [] (pf 2 h3 p0) ?_;exact zA (by rw[h3]<;>kernel_rfl)
  exact Qk <| pb [] (Qy h1 (X6 h2 (rfl)))
 refine Qc <| tu Qb [(26,.b (n.1==(3:Int)))] [] [] [] p0 <| jn [(26,.b (bif (n.1==(3:Int)) then (n.1==(3:Int)) else (n.1==(4:Int))))] [26] [] [] (n.1==(3:Int)) (λh4=> ?_) (λh4=> ?_) ?_
 ·refine ckt h4 ?_;exact Qi <| ⟨rfl,Qh (by rw[h4]<;>kernel_rfl)⟩
 ·refine ckf h4 ?_;refine rn Qb [1,2,4,5,10,26] [2,5] p0 ?_;exact zA (by rw[h4]<;>kernel_rfl)
 refine ck (bif (n.1==(3:Int)) then (n.1==(3:Int)) else (n.1==(4:Int))) (λh5=> ?_) (λh5=> ?_)
 ·refine sN Qb Zf [2,4,5] [2,5] p0 <| Qc <| mz [] [1,10,26] [(5, [.i n.1,.i 0,.i 0,.s n.2.2.2.1,.i n.2.2.2.2.1,.i n.2.2.2.2.2.1,.s n.2.2.2.2.2.2])] [5] <| jn [(4,.b (((n.1==n.1)&&((n.2.1==0)&&((n.2.2.1==0)&&((n.2.2.2.1.toList==n.2.2.2.1.toList)&&((n.2.2.2.2.1==n.2.2.2.2.1)&&((n.2.2.2.2.2.1==n.2.2.2.2.2.1)&&((n.2.2.2.2.2.2.toList==n.2.2.2.2.2.2.toList)&&true)))))))&&((Yi n.2.2.2.1)&&((Za n.2.2.2.2)&&((n.2.2.2.2.1 !=(0:Int))&&((n.1==(3:Int))|| (n.2.2.2.2.1==(1:Int))))))))] [4] [] [] ((n.1==n.1)&&((n.2.1==0)&&((n.2.2.1==0)&&((n.2.2.2.1.toList==n.2.2.2.1.toList)&&((n.2.2.2.2.1==n.2.2.2.2.1)&&((n.2.2.2.2.2.1==n.2.2.2.2.2.1)&&((n.2.2.2.2.2.2.toList==n.2.2.2.2.2.2.toList)&&true))))))) (λh6=> ?_) (λh6=> ?_) ?_
  ·refine Ya (Yi n.2.2.2.1) (λh7=> ?_) (λh7=> ?_)
   ·refine Ya (Za n.2.2.2.2) (λh8=> ?_) (λh8=> ?_)
    ·refine Ya (n.2.2.2.2.1 !=(0:Int)) (λh9=> ?_) (λh9=> ?_)
     ·refine Ya (n.1==(3:Int)) (λh10=> ?_) (λh10=> ?_)
      ·refine rn Qb [2,4,5] [2,5] (pt 2 h6 (pc 6 (cb h7 (Yz n.2.2.2.1)) (pc 11 (cb h8 (K7 n.2.2.2.2)) (pt 17 h9 (pt 22 h10 p0))))) ?_;exact zA (by rw[h6,h7,h8,h9,h10]<;>kernel_rfl)
      refine rn Qb [2,4,5] [2,5] (pt 2 h6 (pc 6 (cb h7 (Yz n.2.2.2.1)) (pc 11 (cb h8 (K7 n.2.2.2.2)) (pt 17 h9 (pf 22 h10 p0))))) ?_;exact zA (by rw[h6,h7,h8,h9,h10]<;>kernel_rfl)
     refine ru Qb [] [] [] [] (pt 2 h6 (pc 6 (cb h7 (Yz n.2.2.2.1)) (pc 11 (cb h8 (K7 n.2.2.2.2)) (pf 17 h9 p0)))) ?_;exact zA (by rw[h6,h7,h8,h9]<;>kernel_rfl)
    refine ru Qb [] [] [] [] (pt 2 h6 (pc 6 (cb h7 (Yz n.2.2.2.1)) (pc 11 (cb h8 (K7 n.2.2.2.2)) p0))) ?_;exact zA (by rw[h6,h7,h8]<;>kernel_rfl)
   refine ru Qb [] [] [] [] (pt 2 h6 (pc 6 (cb h7 (Yz n.2.2.2.1)) p0)) ?_;exact zA (by rw[h6,h7]<;>kernel_rfl)
  ·refine ru Qb [] [] [] [] (pf 2 h6 p0) ?_;exact zA (by rw[h6]<;>kernel_rfl)
  exact Qk <| pb [] (Qy h1 (Qy h2 (X6 h5 (rfl))))
 refine sn Qb [1,2,4,5,10,65] [2,5] p0 <| ck (n.1==(5:Int)) (λh11=> ?_) (λh11=> ?_)
 ·refine tn Qb [1,2,4,5] [2,5] p0 <| Qc <| mz [] [10,26] [(5, [.i n.1,.i n.2.1,.i 0,.s ⟨#[]⟩,.i 0,.i 0,.s ⟨#[]⟩])] [5] <| jn [(4,.b (((n.1==n.1)&&((n.2.1==n.2.1)&&((n.2.2.1==0)&&((n.2.2.2.1.toList==(⟨#[]⟩:ByteArray).toList)&&((n.2.2.2.2.1==0)&&((n.2.2.2.2.2.1==0)&&((n.2.2.2.2.2.2.toList==(⟨#[]⟩:ByteArray).toList)&&true)))))))&&(decide (at_>(0:Int))&&(X9 n.2.1 0 (IntKind.i64.wrap (at_-1))))))] [1,4] [] [] ((n.1==n.1)&&((n.2.1==n.2.1)&&((n.2.2.1==0)&&((n.2.2.2.1.toList==(⟨#[]⟩:ByteArray).toList)&&((n.2.2.2.2.1==0)&&((n.2.2.2.2.2.1==0)&&((n.2.2.2.2.2.2.toList==(⟨#[]⟩:ByteArray).toList)&&true))))))) (λh12=> ?_) (λh12=> ?_) ?_
  ·refine Ya (decide (at_>(0:Int))) (λh13=> ?_) (λh13=> ?_)
   ·refine rn Qb [2,4,5] [2,5] (pt 2 h12 (pt 5 h13 (pc 12 (Jk n.2.1 0 (IntKind.i64.wrap (at_-1))) p0))) ?_;exact zA (by rw[h12,h13]<;>kernel_rfl)
   refine ru Qb [] [1] [] [] (pt 2 h12 (pf 5 h13 p0)) ?_;exact zA (by rw[h12,h13]<;>kernel_rfl)
  ·refine ru Qb [] [1] [] [] (pf 2 h12 p0) ?_;exact zA (by rw[h12]<;>kernel_rfl)
  exact Qk <| pb [] (Qy h1 (Qy h2 (Qy h5 (X6 h11 (rfl)))))
 refine Qc <| tn Qb [1,2,4,5,10,84] [2,5] p0 <| mz [(84,.b (n.1==(6:Int)))] [26] [] [] <| jn [(84,.b (bif (n.1==(6:Int)) then (n.1==(6:Int)) else (n.1==(7:Int))))] [84] [] [] (n.1==(6:Int)) (λh14=> ?_) (λh14=> ?_) ?_
 ·refine ckt h14 ?_;exact Qi <| ⟨rfl,Qh (by rw[h14]<;>kernel_rfl)⟩
 ·refine ckf h14 ?_;refine rn Qb [1,2,4,5,10,84] [2,5] p0 ?_;exact zA (by rw[h14]<;>kernel_rfl)
 refine ck (bif (n.1==(6:Int)) then (n.1==(6:Int)) else (n.1==(7:Int))) (λh15=> ?_) (λh15=> ?_)
 ·refine sN Qb Zf [1,2,4,5] [2,5] p0 <| Qc <| mz [] [10,84] [(5, [.i n.1,.i n.2.1,.i n.2.2.1,.s ⟨#[]⟩,.i 0,.i 0,.s ⟨#[]⟩])] [5] <| jn [(4,.b (((n.1==n.1)&&((n.2.1==n.2.1)&&((n.2.2.1==n.2.2.1)&&((n.2.2.2.1.toList==(⟨#[]⟩:ByteArray).toList)&&((n.2.2.2.2.1==0)&&((n.2.2.2.2.2.1==0)&&((n.2.2.2.2.2.2.toList==(⟨#[]⟩:ByteArray).toList)&&true)))))))&&(decide (at_>(0:Int))&&((X9 n.2.1 0 (IntKind.i64.wrap (at_-1)))&&(X9 n.2.2.1 0 (IntKind.i64.wrap (at_-1)))))))] [1,4] [] [] ((n.1==n.1)&&((n.2.1==n.2.1)&&((n.2.2.1==n.2.2.1)&&((n.2.2.2.1.toList==(⟨#[]⟩:ByteArray).toList)&&((n.2.2.2.2.1==0)&&((n.2.2.2.2.2.1==0)&&((n.2.2.2.2.2.2.toList==(⟨#[]⟩:ByteArray).toList)&&true))))))) (λh16=> ?_) (λh16=> ?_) ?_
  ·refine Ya (decide (at_>(0:Int))) (λh17=> ?_) (λh17=> ?_)
   ·refine Ya (X9 n.2.1 0 (IntKind.i64.wrap (at_-1))) (λh18=> ?_) (λh18=> ?_)
    ·refine rn Qb [2,4,5] [2,5] (pt 2 h16 (pt 5 h17 (pc 12 (cb h18 (Jk n.2.1 0 (IntKind.i64.wrap (at_-1)))) (pc 19 (Jk n.2.2.1 0 (IntKind.i64.wrap (at_-1))) p0)))) ?_;exact zA (by rw[h16,h17,h18]<;>kernel_rfl)
    refine ru Qb [] [1] [] [] (pt 2 h16 (pt 5 h17 (pc 12 (cb h18 (Jk n.2.1 0 (IntKind.i64.wrap (at_-1)))) p0))) ?_;exact zA (by rw[h16,h17,h18]<;>kernel_rfl)
   refine ru Qb [] [1] [] [] (pt 2 h16 (pf 5 h17 p0)) ?_;exact zA (by rw[h16,h17]<;>kernel_rfl)
  ·refine ru Qb [] [1] [] [] (pf 2 h16 p0) ?_;exact zA (by rw[h16]<;>kernel_rfl)
  exact Qk <| pb [] (Qy h1 (Qy h2 (Qy h5 (Qy h11 (X6 h15 (rfl))))))
 refine Qc <| sn Qb [2,4,5,10,114] [2,5] p0 <| ck (n.1==(8:Int)) (λh19=> ?_) (λh19=> ?_)
 ·refine Qi <| ckt h19 ?_
  refine tn Qb [2,4,5] [2,5] p0 <| Qc <| mz [] [1,10,84] [(5, [.i n.1,.i 0,.i 0,.s n.2.2.2.1,.i 0,.i 0,.s ⟨#[]⟩])] [5] <| jn [(4,.b (((n.1==n.1)&&((n.2.1==0)&&((n.2.2.1==0)&&((n.2.2.2.1.toList==n.2.2.2.1.toList)&&((n.2.2.2.2.1==0)&&((n.2.2.2.2.2.1==0)&&((n.2.2.2.2.2.2.toList==(⟨#[]⟩:ByteArray).toList)&&true)))))))&&(Yo n.2.2.2.1)))] [4] [] [] ((n.1==n.1)&&((n.2.1==0)&&((n.2.2.1==0)&&((n.2.2.2.1.toList==n.2.2.2.1.toList)&&((n.2.2.2.2.1==0)&&((n.2.2.2.2.2.1==0)&&((n.2.2.2.2.2.2.toList==(⟨#[]⟩:ByteArray).toList)&&true))))))) (λh20=> ?_) (λh20=> ?_) ?_
  ·refine rn Qb [2,4,5] [2,5] (pt 2 h20 (pc 6 (Ju n.2.2.2.1) p0)) ?_;exact zA (by rw[h20]<;>kernel_rfl)
  ·refine ru Qb [] [] [] [] (pf 2 h20 p0) ?_;exact zA (by rw[h20]<;>kernel_rfl)
  exact Qk <| pb [] (Qy h1 (Qy h2 (Qy h5 (Qy h11 (Qy h15 (X6 h19 (rfl)))))))
 refine qn Qb [2,4,5,114] [2,5] p0 ?_;refine ck (n.1==(9:Int)) (λh21=> ?_) (λh21=> ?_)
 ·refine tu Qb [] [1,10,84] [(5, [.i n.1,.i 0,.i 0,.s n.2.2.2.1,.i 0,.i 0,.s ⟨#[]⟩])] [5] p0 <| Qc <| jn [(4,.b (((n.1==n.1)&&((n.2.1==0)&&((n.2.2.1==0)&&((n.2.2.2.1.toList==n.2.2.2.1.toList)&&((n.2.2.2.2.1==0)&&((n.2.2.2.2.2.1==0)&&((n.2.2.2.2.2.2.toList==(⟨#[]⟩:ByteArray).toList)&&true)))))))&&(Yo n.2.2.2.1)))] [4] [] [] ((n.1==n.1)&&((n.2.1==0)&&((n.2.2.1==0)&&((n.2.2.2.1.toList==n.2.2.2.1.toList)&&((n.2.2.2.2.1==0)&&((n.2.2.2.2.2.1==0)&&((n.2.2.2.2.2.2.toList==(⟨#[]⟩:ByteArray).toList)&&true))))))) (λh22=> ?_) (λh22=> ?_) ?_
  ·refine rn Qb [2,4,5] [2,5] (pt 2 h22 (pc 6 (Ju n.2.2.2.1) p0)) ?_;exact zA (by rw[h22]<;>kernel_rfl)
  ·refine ru Qb [] [] [] [] (pf 2 h22 p0) ?_;exact zA (by rw[h22]<;>kernel_rfl)
  exact Qk <| pb [] (Qy h1 (Qy h2 (Qy h5 (Qy h11 (Qy h15 (Qy h19 (X6 h21 (rfl))))))))
 exact tu Qb [] [1,10,84] [] [] p0 <| Qk <| pb [] (Qy h1 (Qy h2 (Qy h5 (Qy h11 (Qy h15 (Qy h19 (Qy h21 (rfl))))))))
def Jm (at_:Int) (_:Nat) (a0:Yy) (s0:Int):Rd (Int) (Int) (Int):=(bif ((a0.2.1==at_)&&(((a0.1==(6:Int))|| (a0.1==(7:Int)))|| (a0.1==(5:Int)))) then (bif ((a0.2.2.1==at_)&&((a0.1==(6:Int))|| (a0.1==(7:Int)))) then (.next (IntKind.i64.wrap (IntKind.i64.wrap (s0+1)+1))) else (.next (IntKind.i64.wrap (s0+1)))) else (bif ((a0.2.2.1==at_)&&((a0.1==(6:Int))|| (a0.1==(7:Int)))) then (.next (IntKind.i64.wrap (s0+1))) else (.next s0)))
def Wz (_:Nat) (s0:Int):Int:=s0
def Z7 (q:List Yy) (at_:Int):Int:=(Out.on (Xp (Jm at_) Wz q 0 0) (λy0=>y0))
theorem L6 (q:List Yy) (at_:Int):ACalls Tryz.prog 221 [.h q,.i at_] (.i (Z7 q at_)):=by
 refine en Qb Tryz.func221 λw0 F0 hG=> ?_
 refine sn Qb [0,1,4] [] p0 <| tn Qb [0,1,4,5] [] p0 <| Qc <| tu Qb [(4,.i 0),(5,.i 0),(9,.h q),(10,.i (q.length:Int)),(11,.i 0)] [0] [] [] (pl 1 q p0) <| wT 9 0 .sh q (λhw1 hl2=> ?_)
 refine M8 (Jm at_) Wz q 0 (λk0 s0=> [(5,.i s0),(11,.i (k0:Int))]) [5,11] (λy0=> [(5,.i y0)]) [1,5,9,10,11] wf0 (λk0 s0 hk0 U=> ?_) (λk0 s0 hk0 U=> ?_) (λy0 hD0=> ?_)
 ·obtain ⟨a0,V⟩:=Xs (l:=q) (i:=k0) hk0;refine su Qb [(12,.b true)] [] [] [] (pe 0 (zB ((k0:Int)<(q.length:Int))) p0) <| Qc <| ckT <| Qi <| Qc <| Qx <| sn Qb [1,4,5,7,9,10,11] [7] (pn 0 V p0) <| Qc <| mz [(7,.p 7 0)] [12] [(7, [.i a0.1,.i a0.2.1,.i a0.2.2.1,.s a0.2.2.2.1,.i a0.2.2.2.2.1,.i a0.2.2.2.2.2.1,.s a0.2.2.2.2.2.2])] [] <| jn [(8,.b ((a0.1==(6:Int))|| (a0.1==(7:Int))))] [] [] [] (a0.1==(6:Int)) (λh3=> ?_) (λh3=> ?_) ?_
  ·refine ru Qb [(8,.b true)] [] [] [] (pt 2 h3 p0) ?_;exact zA (by rw[h3]<;>kernel_rfl)
  ·refine rn Qb [1,4,5,7,8,9,10,11] [7] (pf 2 h3 p0) ?_;exact zA (by rw[h3]<;>kernel_rfl)
  refine Qc <| Qc <| jn [(34,.b ((a0.2.1==at_)&&(((a0.1==(6:Int))|| (a0.1==(7:Int)))|| (a0.1==(5:Int)))))] [] [] [] (a0.2.1==at_) (λh4=> ?_) (λh4=> ?_) ?_
  ·refine Ya ((a0.1==(6:Int))|| (a0.1==(7:Int))) (λh5=> ?_) (λh5=> ?_)
   ·refine ru Qb [(34,.b true)] [] [] [] (pt 3 h4 (pt 5 h5 p0)) ?_;exact zA (by rw[h4,h5]<;>kernel_rfl)
   refine rn Qb [1,4,5,7,8,9,10,11,34] [7] (pt 3 h4 (pf 5 h5 p0)) ?_;exact zA (by rw[h4,h5]<;>kernel_rfl)
  ·refine ru Qb [(34,.b false)] [] [] [] (pf 3 h4 p0) ?_;exact zA (by rw[h4]<;>kernel_rfl)
  refine ck ((a0.2.1==at_)&&(((a0.1==(6:Int))|| (a0.1==(7:Int)))|| (a0.1==(5:Int)))) (λh6=> ?_) (λh6=> ?_)
  ·have h6l:((a0.2.1==at_))=true:=PX h6;have h6ld:=eq_of_beq h6l;refine rn Qb [1,4,5,7,8,9,10,11] [7] p0 ?_;refine Qc <| mz [(5,.i (IntKind.i64.wrap (s0+1)))] [5,34] [] [] <| jn [(43,.b ((a0.2.2.1==at_)&&((a0.1==(6:Int))|| (a0.1==(7:Int)))))] [7,8] [] [7] (a0.2.2.1==at_) (λh7=> ?_) (λh7=> ?_) ?_
   ·refine rn Qb [1,4,5,9,10,11,43] [] (pt 3 h7 p0) ?_;exact zA (by rw[h7]<;>kernel_rfl)
   ·refine rn Qb [1,4,5,9,10,11,43] [] (pf 3 h7 p0) ?_;exact zA (by rw[h7]<;>kernel_rfl)
   refine ck ((a0.2.2.1==at_)&&((a0.1==(6:Int))|| (a0.1==(7:Int)))) (λh8=> ?_) (λh8=> ?_)
   ·have h8l:((a0.2.2.1==at_))=true:=PX h8;have h8ld:=eq_of_beq h8l;refine rn Qb [1,4,5,9,10,11] [] p0 ?_;refine qn Qb [1,4,5,9,10,11] [] (pe 0 (Js (Qq k0 (by omega))) p0) ?_;exact xw _ (Qw V (X6 h6 (X6 h8 (rfl))) U)
   refine Qi <| rn Qb [1,4,5,9,10,11] [] (pe 0 (Js (Qq k0 (by omega))) p0) ?_
   exact xw _ (Qw V (X6 h6 (Qy h8 (rfl))) U)
  refine Qi <| Qc <| jn [(43,.b ((a0.2.2.1==at_)&&((a0.1==(6:Int))|| (a0.1==(7:Int)))))] [7,8,34] [] [7] (a0.2.2.1==at_) (λh9=> ?_) (λh9=> ?_) ?_
  ·refine rn Qb [1,4,5,9,10,11,43] [] (pt 3 h9 p0) ?_;exact zA (by rw[h9]<;>kernel_rfl)
  ·refine rn Qb [1,4,5,9,10,11,43] [] (pf 3 h9 p0) ?_;exact zA (by rw[h9]<;>kernel_rfl)
  refine ck ((a0.2.2.1==at_)&&((a0.1==(6:Int))|| (a0.1==(7:Int)))) (λh10=> ?_) (λh10=> ?_)
  ·have h10l:((a0.2.2.1==at_))=true:=PX h10;have h10ld:=eq_of_beq h10l;refine rn Qb [1,4,5,9,10,11] [] p0 ?_;refine qn Qb [1,4,5,9,10,11] [] (pe 0 (Js (Qq k0 (by omega))) p0) ?_;exact xw _ (Qw V (Qy h6 (X6 h10 (rfl))) U)
  refine Qi <| rn Qb [1,4,5,9,10,11] [] (pe 0 (Js (Qq k0 (by omega))) p0) ?_
  exact xw _ (Qw V (Qy h6 (Qy h10 (rfl))) U)
 ·exact su Qb [(12,.b false)] [] [] [] (pe 0 (zC ((k0:Int)<(q.length:Int))) p0) <| Qc <| ckF <| Xe <| xw _ (Xy hk0 (rfl) U)
 exact sn Qb [4] [] p0 <| Qk <| pi [] (Ur hD0 (rfl))
def Y3 (q:List Yy) (k0:Nat) (a0:Yy) (_:Unit):Rd (Bool) (Unit) (Unit):=(bif ((!(Zg a0 (k0:Int)))|| (decide ((k0:Int)<((q.length:Int)-1))&&((Z7 q (k0:Int)) !=(1:Int)))) then (.ret false) else (.next ()))
def Ky (_:Nat) (_:Unit):Unit:=()
def Q9 (q:List Yy):Bool:=(Out.on (Xp (Y3 q) Ky q 0 ()) (λ_=>(X9 (q.length:Int) 1 9)))
theorem Ua (q:List Yy):ACalls Tryz.prog 206 [.h q] (.b (Q9 q)):=by
 refine en Qb Tryz.func206 λw0 F0 hG=> ?_
 refine sn Qb [0,2] [] p0 <| Qc <| tn Qb [0,2,5,6,7] [] (pl 1 q p0) <| mz [(2,.b false),(5,.h q),(6,.i (q.length:Int)),(7,.i 0)] [] [] [] <| wT 0 0 .sh q (λhw1 hl2=> ?_)
 refine M8 (Y3 q) Ky q () (λk0 _=> [(7,.i (k0:Int))]) [7] (λ_=> []) [5,6,7] wf0 (λk0 s0 hk0 U=> ?_) (λk0 s0 hk0 U=> ?_) (λy0 hD0=> ?_)
 ·obtain ⟨a0,V⟩:=Xs (l:=q) (i:=k0) hk0;refine sn Qb [0,2,5,6,7,8] [] (pe 0 (zB ((k0:Int)<(q.length:Int))) p0) <| Qc <| ckT <| Qi <| Qc <| Qx <| tn Qb [0,2,3,4,5,6,7] [4] (pn 1 V p0) <| Qc <| mz [(3,.i (k0:Int)),(4,.p 4 0)] [] [(4, [.i a0.1,.i a0.2.1,.i a0.2.2.1,.s a0.2.2.2.1,.i a0.2.2.2.2.1,.i a0.2.2.2.2.2.1,.s a0.2.2.2.2.2.2])] [] <| jn [(28,.b ((!(Zg a0 (k0:Int)))|| (decide ((k0:Int)<((q.length:Int)-1))&&((Z7 q (k0:Int)) !=(1:Int)))))] [3,4] [] [4] (!(Zg a0 (k0:Int))) (λh3=> ?_) (λh3=> ?_) ?_
  ·have h3n:(Zg a0 (k0:Int))=false:=Ht h3;refine rn Qb [0,2,5,6,7,28] [] (pc 2 (cb h3n (Dh a0 (k0:Int))) (pe 3 (show .b (!false)= .b true from rfl) p0)) ?_;exact zA (by rw[h3]<;>kernel_rfl)
  ·have h3n:(Zg a0 (k0:Int))=true:=Ka h3;refine Ya (decide ((k0:Int)<((q.length:Int)-1))) (λh4=> ?_) (λh4=> ?_)
   ·have h4d:=of_decide_eq_true h4;refine rn Qb [0,2,5,6,7,28] [] (pc 2 (cb h3n (Dh a0 (k0:Int))) (pe 3 (show .b (!true)= .b false from rfl) (pl 7 q (pe 8 (Js (IntWalk.i64_in ((q.length:Int)-1) (by omega))) (pt 9 h4 (pc 13 (L6 q (k0:Int)) p0)))))) ?_;exact zA (by rw[h3,h4]<;>kernel_rfl)
   have h4d:=of_decide_eq_false h4;refine rn Qb [0,2,5,6,7,28] [] (pc 2 (cb h3n (Dh a0 (k0:Int))) (pe 3 (show .b (!true)= .b false from rfl) (pl 7 q (pe 8 (Js (IntWalk.i64_in ((q.length:Int)-1) (by omega))) (pf 9 h4 p0))))) ?_;exact zA (by rw[h3,h4]<;>kernel_rfl)
  refine ck ((!(Zg a0 (k0:Int)))|| (decide ((k0:Int)<((q.length:Int)-1))&&((Z7 q (k0:Int)) !=(1:Int)))) (λh5=> ?_) (λh5=> ?_)
  ·refine su Qb [] [28] [] [] p0 <| Qk ?_
   have hr6:(Xp (Y3 q) Ky q 0 ())= .ret false:=Z6 V (X6 h5 (rfl)) U;exact pb [] (M5 hr6)
  refine Qi <| rn Qb [0,2,5,6,7] [] (pe 0 (Js (Qq k0 (by omega))) p0) ?_
  exact xw _ (Qw V (Qy h5 (rfl)) U)
 ·exact sn Qb [0,2,5,6,7,8] [] (pe 0 (zC ((k0:Int)<(q.length:Int))) p0) <| Qc <| ckF <| Xe <| xw _ (Xy hk0 (rfl) U)
 exact sn Qb [2] [] (pl 1 q (pc 2 (Jk (q.length:Int) 1 9) p0)) <| Qk <| pb [] (Ur hD0 (rfl))
def K8 (n:Yy) (at_:Int):Bool:=(bif (n.1==(1:Int)) then ((n.1==1)&&((n.2.1==0)&&((n.2.2.1==0)&&((n.2.2.2.1.toList==(⟨#[]⟩:ByteArray).toList)&&((n.2.2.2.2.1==0)&&((n.2.2.2.2.2.1==0)&&((n.2.2.2.2.2.2.toList==(⟨#[]⟩:ByteArray).toList)&&true))))))) else (bif (n.1==(2:Int)) then ((Xv n.2.2.2.1)&&((n.1==n.1)&&((n.2.1==0)&&((n.2.2.1==0)&&((n.2.2.2.1.toList==n.2.2.2.1.toList)&&((n.2.2.2.2.1==0)&&((n.2.2.2.2.2.1==0)&&((n.2.2.2.2.2.2.toList==(⟨#[]⟩:ByteArray).toList)&&true)))))))) else (bif (n.1==(3:Int)) then ((Xv n.2.2.2.1)&&((Zy n.2.2.2.2)&&((n.2.2.2.2.1 !=(0:Int))&&((n.2.1==(0:Int))&&(n.2.2.1==(0:Int)))))) else (bif (n.1==(4:Int)) then ((Xv n.2.2.2.1)&&((Zy n.2.2.2.2)&&((n.2.2.2.2.1==(1:Int))&&((n.2.1==(0:Int))&&(n.2.2.1==(0:Int)))))) else (bif (n.1==(5:Int)) then (((Xi n.2.1 0 (IntKind.i64.wrap (at_-1)))&&decide (at_>(0:Int)))&&((n.2.2.1==(0:Int))&&((n.2.2.2.1.toList==(⟨#[]⟩:ByteArray).toList)&&((n.2.2.2.2.1==0)&&((n.2.2.2.2.2.1==0)&&((n.2.2.2.2.2.2.toList==(⟨#[]⟩:ByteArray).toList)&&true)))))) else (bif (bif (n.1==(6:Int)) then (n.1==(6:Int)) else (n.1==(7:Int))) then ((((Xi n.2.1 0 (IntKind.i64.wrap (at_-1)))&&decide (at_>(0:Int)))&&(Xi n.2.2.1 0 (IntKind.i64.wrap (at_-1))))&&((n.2.2.2.1.toList==(⟨#[]⟩:ByteArray).toList)&&((n.2.2.2.2.1==0)&&((n.2.2.2.2.2.1==0)&&((n.2.2.2.2.2.2.toList==(⟨#[]⟩:ByteArray).toList)&&true))))) else (bif (n.1==(8:Int)) then ((Ye n.2.2.2.1)&&((n.1==n.1)&&((n.2.1==0)&&((n.2.2.1==0)&&((n.2.2.2.1.toList==n.2.2.2.1.toList)&&((n.2.2.2.2.1==0)&&((n.2.2.2.2.2.1==0)&&((n.2.2.2.2.2.2.toList==(⟨#[]⟩:ByteArray).toList)&&true)))))))) else (bif (n.1==(9:Int)) then ((Ye n.2.2.2.1)&&((n.1==n.1)&&((n.2.1==0)&&((n.2.2.1==0)&&((n.2.2.2.1.toList==n.2.2.2.1.toList)&&((n.2.2.2.2.1==0)&&((n.2.2.2.2.2.1==0)&&((n.2.2.2.2.2.2.toList==(⟨#[]⟩:ByteArray).toList)&&true)))))))) else false))))))))
theorem Di (n:Yy) (at_:Int):ACalls Tryz.prog 199 [.a [.i n.1,.i n.2.1,.i n.2.2.1,.s n.2.2.2.1,.i n.2.2.2.2.1,.i n.2.2.2.2.2.1,.s n.2.2.2.2.2.2],.i at_] (.b (K8 n at_)):=by
 refine en Qb Tryz.func199 λw0 F0 hG=> ?_
 refine sn Qb [1,2,4] [2] p0 <| Qc <| mz [(2,.p 2 0),(4,.b false)] [0] [(2, [.i n.1,.i n.2.1,.i n.2.2.1,.s n.2.2.2.1,.i n.2.2.2.2.1,.i n.2.2.2.2.2.1,.s n.2.2.2.2.2.2])] [] <| jn [(5,.b ((Xi n.2.1 0 (IntKind.i64.wrap (at_-1)))&&decide (at_>(0:Int))))] [] [] [] (Xi n.2.1 0 (IntKind.i64.wrap (at_-1))) (λh1=> ?_) (λh1=> ?_) ?_
 ·refine rn Qb [1,2,4,5] [2] (pc 4 (cb h1 (Zz n.2.1 0 (IntKind.i64.wrap (at_-1)))) p0) ?_;exact zA (by rw[h1]<;>kernel_rfl)
 ·refine rn Qb [1,2,4,5] [2] (pc 4 (cb h1 (Zz n.2.1 0 (IntKind.i64.wrap (at_-1)))) p0) ?_;exact zA (by rw[h1]<;>kernel_rfl)
 refine Qc <| jn [(6,.b (((Xi n.2.1 0 (IntKind.i64.wrap (at_-1)))&&decide (at_>(0:Int)))&&(Xi n.2.2.1 0 (IntKind.i64.wrap (at_-1)))))] [1] [] [] ((Xi n.2.1 0 (IntKind.i64.wrap (at_-1)))&&decide (at_>(0:Int))) (λh2=> ?_) (λh2=> ?_) ?_
 ·refine rn Qb [2,4,5,6] [2] (pt 0 h2 (pc 6 (Zz n.2.2.1 0 (IntKind.i64.wrap (at_-1))) p0)) ?_;exact zA (by rw[h2]<;>kernel_rfl)
 ·refine rn Qb [2,4,5,6] [2] (pf 0 h2 p0) ?_;exact zA (by rw[h2]<;>kernel_rfl)
 refine Qc <| sn Qb [2,4,5,6,25] [2] p0 <| Qx <| tn Qb [2,4,5,6,25,26] [2] p0 <| ck (n.1==(1:Int)) (λh3=> ?_) (λh3=> ?_)
 ·exact tu Qb [(4,.b ((n.1==1)&&((n.2.1==0)&&((n.2.2.1==0)&&((n.2.2.2.1.toList==(⟨#[]⟩:ByteArray).toList)&&((n.2.2.2.2.1==0)&&((n.2.2.2.2.2.1==0)&&((n.2.2.2.2.2.2.toList==(⟨#[]⟩:ByteArray).toList)&&true))))))))] [2,4,5,6] [] [2] p0 <| Qk <| pb [] (X6 h3 (rfl))
 refine tu Qb [(25,.i n.1),(31,.b (n.1==(2:Int)))] [] [] [] p0 <| ck (n.1==(2:Int)) (λh4=> ?_) (λh4=> ?_)
 ·refine Qc <| jn [(4,.b ((Xv n.2.2.2.1)&&((n.1==n.1)&&((n.2.1==0)&&((n.2.2.1==0)&&((n.2.2.2.1.toList==n.2.2.2.1.toList)&&((n.2.2.2.2.1==0)&&((n.2.2.2.2.2.1==0)&&((n.2.2.2.2.2.2.toList==(⟨#[]⟩:ByteArray).toList)&&true)))))))))] [2,4,5,6,25,31] [] [2] (Xv n.2.2.2.1) (λh5=> ?_) (λh5=> ?_) ?_
  ·refine rn Qb [4] [] (pc 2 (cb h5 (X8 n.2.2.2.1)) p0) ?_;exact zA (by rw[h5]<;>kernel_rfl)
  ·refine rn Qb [4] [] (pc 2 (cb h5 (X8 n.2.2.2.1)) p0) ?_;exact zA (by rw[h5]<;>kernel_rfl)
  exact Qk <| pb [] (Qy h3 (X6 h4 (rfl)))
 refine sn Qb [2,4,5,6,25,45] [2] p0 <| ck (n.1==(3:Int)) (λh6=> ?_) (λh6=> ?_)
 ·refine Qc <| mz [(45,.b (n.1==(3:Int)))] [31] [] [] <| jn [(4,.b ((Xv n.2.2.2.1)&&((Zy n.2.2.2.2)&&((n.2.2.2.2.1 !=(0:Int))&&((n.2.1==(0:Int))&&(n.2.2.1==(0:Int)))))))] [2,4,5,6,25,45] [] [2] (Xv n.2.2.2.1) (λh7=> ?_) (λh7=> ?_) ?_
  ·refine Ya (Zy n.2.2.2.2) (λh8=> ?_) (λh8=> ?_)
   ·refine Ya (n.2.2.2.2.1 !=(0:Int)) (λh9=> ?_) (λh9=> ?_)
    ·refine Ya (n.2.1==(0:Int)) (λh10=> ?_) (λh10=> ?_)
     ·refine rn Qb [4] [] (pc 2 (cb h7 (X8 n.2.2.2.1)) (pc 6 (cb h8 (Zr n.2.2.2.2)) (pt 12 h9 (pt 17 h10 p0)))) ?_;exact zA (by rw[h7,h8,h9,h10]<;>kernel_rfl)
     refine rn Qb [4] [] (pc 2 (cb h7 (X8 n.2.2.2.1)) (pc 6 (cb h8 (Zr n.2.2.2.2)) (pt 12 h9 (pf 17 h10 p0)))) ?_;exact zA (by rw[h7,h8,h9,h10]<;>kernel_rfl)
    refine rn Qb [4] [] (pc 2 (cb h7 (X8 n.2.2.2.1)) (pc 6 (cb h8 (Zr n.2.2.2.2)) (pf 12 h9 p0))) ?_;exact zA (by rw[h7,h8,h9]<;>kernel_rfl)
   refine rn Qb [4] [] (pc 2 (cb h7 (X8 n.2.2.2.1)) (pc 6 (cb h8 (Zr n.2.2.2.2)) p0)) ?_;exact zA (by rw[h7,h8]<;>kernel_rfl)
  ·refine rn Qb [4] [] (pc 2 (cb h7 (X8 n.2.2.2.1)) p0) ?_;exact zA (by rw[h7]<;>kernel_rfl)
  exact Qk <| pb [] (Qy h3 (Qy h4 (X6 h6 (rfl))))
 refine tn Qb [2,4,5,6,25,71] [2] p0 <| ck (n.1==(4:Int)) (λh11=> ?_) (λh11=> ?_)
 ·refine Qc <| mz [(71,.b (n.1==(4:Int)))] [31] [] [] <| jn [(4,.b ((Xv n.2.2.2.1)&&((Zy n.2.2.2.2)&&((n.2.2.2.2.1==(1:Int))&&((n.2.1==(0:Int))&&(n.2.2.1==(0:Int)))))))] [2,4,5,6,25,71] [] [2] (Xv n.2.2.2.1) (λh12=> ?_) (λh12=> ?_) ?_
  ·refine Ya (Zy n.2.2.2.2) (λh13=> ?_) (λh13=> ?_)
   ·refine Ya (n.2.2.2.2.1==(1:Int)) (λh14=> ?_) (λh14=> ?_)
    ·refine Ya (n.2.1==(0:Int)) (λh15=> ?_) (λh15=> ?_)
     ·refine rn Qb [4] [] (pc 2 (cb h12 (X8 n.2.2.2.1)) (pc 6 (cb h13 (Zr n.2.2.2.2)) (pt 12 h14 (pt 17 h15 p0)))) ?_;exact zA (by rw[h12,h13,h14,h15]<;>kernel_rfl)
     refine rn Qb [4] [] (pc 2 (cb h12 (X8 n.2.2.2.1)) (pc 6 (cb h13 (Zr n.2.2.2.2)) (pt 12 h14 (pf 17 h15 p0)))) ?_;exact zA (by rw[h12,h13,h14,h15]<;>kernel_rfl)
    refine rn Qb [4] [] (pc 2 (cb h12 (X8 n.2.2.2.1)) (pc 6 (cb h13 (Zr n.2.2.2.2)) (pf 12 h14 p0))) ?_;exact zA (by rw[h12,h13,h14]<;>kernel_rfl)
   refine rn Qb [4] [] (pc 2 (cb h12 (X8 n.2.2.2.1)) (pc 6 (cb h13 (Zr n.2.2.2.2)) p0)) ?_;exact zA (by rw[h12,h13]<;>kernel_rfl)
  ·refine rn Qb [4] [] (pc 2 (cb h12 (X8 n.2.2.2.1)) p0) ?_;exact zA (by rw[h12]<;>kernel_rfl)
  exact Qk <| pb [] (Qy h3 (Qy h4 (Qy h6 (X6 h11 (rfl)))))
 refine tu Qb [(97,.b (n.1==(5:Int)))] [31] [] [] p0 <| ck (n.1==(5:Int)) (λh16=> ?_) (λh16=> ?_)
 ·refine Qc <| jn [(4,.b (((Xi n.2.1 0 (IntKind.i64.wrap (at_-1)))&&decide (at_>(0:Int)))&&((n.2.2.1==(0:Int))&&((n.2.2.2.1.toList==(⟨#[]⟩:ByteArray).toList)&&((n.2.2.2.2.1==0)&&((n.2.2.2.2.2.1==0)&&((n.2.2.2.2.2.2.toList==(⟨#[]⟩:ByteArray).toList)&&true)))))))] [2,4,5,6,25,97] [] [2] ((Xi n.2.1 0 (IntKind.i64.wrap (at_-1)))&&decide (at_>(0:Int))) (λh17=> ?_) (λh17=> ?_) ?_
  ·refine Ya (n.2.2.1==(0:Int)) (λh18=> ?_) (λh18=> ?_)
   ·refine Ya (n.2.2.2.1.toList==(⟨#[]⟩:ByteArray).toList) (λh19=> ?_) (λh19=> ?_)
    ·refine rn Qb [4] [] (pt 0 h17 (pt 4 h18 (pt 9 h19 p0))) ?_;exact zA (by rw[h17,h18,h19]<;>kernel_rfl)
    refine rn Qb [4] [] (pt 0 h17 (pt 4 h18 (pf 9 h19 p0))) ?_;exact zA (by rw[h17,h18,h19]<;>kernel_rfl)
   refine rn Qb [4] [] (pt 0 h17 (pf 4 h18 p0)) ?_;exact zA (by rw[h17,h18]<;>kernel_rfl)
  ·refine rn Qb [4] [] (pf 0 h17 p0) ?_;exact zA (by rw[h17]<;>kernel_rfl)
  exact Qk <| pb [] (Qy h3 (Qy h4 (Qy h6 (Qy h11 (X6 h16 (rfl))))))
 refine Qc <| sn Qb [2,4,6,25,116] [2] p0 <| mz [(116,.b (n.1==(6:Int)))] [5,97] [] [] <| jn [(116,.b (bif (n.1==(6:Int)) then (n.1==(6:Int)) else (n.1==(7:Int))))] [116] [] [] (n.1==(6:Int)) (λh20=> ?_) (λh20=> ?_) ?_
 ·refine ckt h20 ?_;exact Qi <| ⟨rfl,Qh (by rw[h20]<;>kernel_rfl)⟩
 ·refine ckf h20 ?_;refine rn Qb [2,4,6,25,116] [2] p0 ?_;exact zA (by rw[h20]<;>kernel_rfl)
 refine ck (bif (n.1==(6:Int)) then (n.1==(6:Int)) else (n.1==(7:Int))) (λh21=> ?_) (λh21=> ?_)
 ·refine Qc <| jn [(4,.b ((((Xi n.2.1 0 (IntKind.i64.wrap (at_-1)))&&decide (at_>(0:Int)))&&(Xi n.2.2.1 0 (IntKind.i64.wrap (at_-1))))&&((n.2.2.2.1.toList==(⟨#[]⟩:ByteArray).toList)&&((n.2.2.2.2.1==0)&&((n.2.2.2.2.2.1==0)&&((n.2.2.2.2.2.2.toList==(⟨#[]⟩:ByteArray).toList)&&true))))))] [2,4,6,25,116] [] [2] (((Xi n.2.1 0 (IntKind.i64.wrap (at_-1)))&&decide (at_>(0:Int)))&&(Xi n.2.2.1 0 (IntKind.i64.wrap (at_-1)))) (λh22=> ?_) (λh22=> ?_) ?_
  ·refine Ya (n.2.2.2.1.toList==(⟨#[]⟩:ByteArray).toList) (λh23=> ?_) (λh23=> ?_)
   ·refine rn Qb [4] [] (pt 0 h22 (pt 4 h23 p0)) ?_;exact zA (by rw[h22,h23]<;>kernel_rfl)
   refine rn Qb [4] [] (pt 0 h22 (pf 4 h23 p0)) ?_;exact zA (by rw[h22,h23]<;>kernel_rfl)
  ·refine rn Qb [4] [] (pf 0 h22 p0) ?_;exact zA (by rw[h22]<;>kernel_rfl)
  exact Qk <| pb [] (Qy h3 (Qy h4 (Qy h6 (Qy h11 (Qy h16 (X6 h21 (rfl)))))))
 refine Qc <| sn Qb [2,4,25,131] [2] p0 <| ck (n.1==(8:Int)) (λh24=> ?_) (λh24=> ?_)
 ·refine Qi <| ckt h24 ?_
  refine Qc <| mz [(131,.b (n.1==(8:Int)))] [6,116] [] [] <| jn [(4,.b ((Ye n.2.2.2.1)&&((n.1==n.1)&&((n.2.1==0)&&((n.2.2.1==0)&&((n.2.2.2.1.toList==n.2.2.2.1.toList)&&((n.2.2.2.2.1==0)&&((n.2.2.2.2.2.1==0)&&((n.2.2.2.2.2.2.toList==(⟨#[]⟩:ByteArray).toList)&&true)))))))))] [2,4,25,131] [] [2] (Ye n.2.2.2.1) (λh25=> ?_) (λh25=> ?_) ?_
  ·refine rn Qb [4] [] (pc 2 (cb h25 (Zs n.2.2.2.1)) p0) ?_;exact zA (by rw[h25]<;>kernel_rfl)
  ·refine rn Qb [4] [] (pc 2 (cb h25 (Zs n.2.2.2.1)) p0) ?_;exact zA (by rw[h25]<;>kernel_rfl)
  exact Qk <| pb [] (Qy h3 (Qy h4 (Qy h6 (Qy h11 (Qy h16 (Qy h21 (X6 h24 (rfl))))))))
 refine qn Qb [2,4,131] [2] p0 ?_;refine ck (n.1==(9:Int)) (λh26=> ?_) (λh26=> ?_)
 ·refine Qc <| mz [(131,.b (n.1==(9:Int)))] [6,25,116] [] [] <| jn [(4,.b ((Ye n.2.2.2.1)&&((n.1==n.1)&&((n.2.1==0)&&((n.2.2.1==0)&&((n.2.2.2.1.toList==n.2.2.2.1.toList)&&((n.2.2.2.2.1==0)&&((n.2.2.2.2.2.1==0)&&((n.2.2.2.2.2.2.toList==(⟨#[]⟩:ByteArray).toList)&&true)))))))))] [2,4,131] [] [2] (Ye n.2.2.2.1) (λh27=> ?_) (λh27=> ?_) ?_
  ·refine rn Qb [4] [] (pc 2 (cb h27 (Zs n.2.2.2.1)) p0) ?_;exact zA (by rw[h27]<;>kernel_rfl)
  ·refine rn Qb [4] [] (pc 2 (cb h27 (Zs n.2.2.2.1)) p0) ?_;exact zA (by rw[h27]<;>kernel_rfl)
  exact Qk <| pb [] (Qy h3 (Qy h4 (Qy h6 (Qy h11 (Qy h16 (Qy h21 (Qy h24 (X6 h26 (rfl)))))))))
 exact Qi <| tu Qb [] [2,6,25,116] [] [2] p0 <| Qk <| pb [] (Qy h3 (Qy h4 (Qy h6 (Qy h11 (Qy h16 (Qy h21 (Qy h24 (Qy h26 (rfl)))))))))
def W0 (at_:Int) (_:Nat) (a0:Yy) (s0:Int):Rd (Int) (Int) (Int):=(bif (bif ((a0.1==(6:Int))|| (a0.1==(7:Int))) then (a0.2.1==at_) else ((a0.1==(5:Int))&&(a0.2.1==at_))) then (bif (((a0.1==(6:Int))|| (a0.1==(7:Int)))&&(a0.2.2.1==at_)) then (.next (IntKind.i64.wrap (IntKind.i64.wrap (s0+1)+1))) else (.next (IntKind.i64.wrap (s0+1)))) else (bif (((a0.1==(6:Int))|| (a0.1==(7:Int)))&&(a0.2.2.1==at_)) then (.next (IntKind.i64.wrap (s0+1))) else (.next s0)))
def Hm (_:Nat) (s0:Int):Int:=s0
def Vm (q:List Yy) (at_:Int):Int:=(Out.on (Xp (W0 at_) Hm q 0 0) (λy0=>y0))
theorem L7 (q:List Yy) (at_:Int):ACalls Tryz.prog 200 [.h q,.i at_] (.i (Vm q at_)):=by
 refine en Qb Tryz.func200 λw0 F0 hG=> ?_
 refine sn Qb [0,1,4] [] p0 <| tn Qb [0,1,4,5] [] p0 <| Qc <| tu Qb [(4,.i 0),(5,.i 0),(6,.i 0)] [] [] [] p0 <| wT 0 0 .sh q (λhw1 hl2=> ?_)
 refine M8 (W0 at_) Hm q 0 (λk0 s0=> [(5,.i s0),(6,.i (k0:Int))]) [5,6] (λy0=> [(5,.i y0)]) [0,1,5,6] wf0 (λk0 s0 hk0 U=> ?_) (λk0 s0 hk0 U=> ?_) (λy0 hD0=> ?_)
 ·obtain ⟨a0,V⟩:=Xs (l:=q) (i:=k0) hk0;refine Qc <| sn Qb [0,1,4,5,6,11] [] (pl 2 q (pe 3 (zB ((k0:Int)<(q.length:Int))) p0)) <| ckT <| Qi <| Qc <| Qx <| Qc <| mz [(11,.b true)] [] [] [] <| jn [(7,.b ((a0.1==(6:Int))|| (a0.1==(7:Int))))] [11] [] [] (a0.1==(6:Int)) (λh3=> ?_) (λh3=> ?_) ?_
  ·refine rn Qb [0,1,4,5,6,7] [] (pn 2 V (pt 5 h3 p0)) ?_;exact zA (by rw[h3]<;>kernel_rfl)
  ·refine rn Qb [0,1,4,5,6,7] [] (pn 2 V (pf 5 h3 (pn 9 V p0))) ?_;exact zA (by rw[h3]<;>kernel_rfl)
  refine Qc <| Qc <| jn [(45,.b (bif ((a0.1==(6:Int))|| (a0.1==(7:Int))) then (a0.2.1==at_) else ((a0.1==(5:Int))&&(a0.2.1==at_))))] [] [] [] ((a0.1==(6:Int))|| (a0.1==(7:Int))) (λh4=> ?_) (λh4=> ?_) ?_
  ·refine rn Qb [0,1,4,5,6,7,45] [] (pt 0 h4 (pn 12 V p0)) ?_;exact zA (by rw[h4]<;>kernel_rfl)
  ·refine Ya (a0.1==(5:Int)) (λh5=> ?_) (λh5=> ?_)
   ·refine rn Qb [0,1,4,5,6,7,45] [] (pf 0 h4 (pn 4 V (pt 7 h5 (pn 12 V p0)))) ?_;exact zA (by rw[h4,h5]<;>kernel_rfl)
   refine ru Qb [(45,.b false)] [] [] [] (pf 0 h4 (pn 4 V (pf 7 h5 p0))) ?_;exact zA (by rw[h4,h5]<;>kernel_rfl)
  refine ck (bif ((a0.1==(6:Int))|| (a0.1==(7:Int))) then (a0.2.1==at_) else ((a0.1==(5:Int))&&(a0.2.1==at_))) (λh6=> ?_) (λh6=> ?_)
  ·refine rn Qb [0,1,4,5,6,7] [] p0 ?_;refine Qc <| mz [(5,.i (IntKind.i64.wrap (s0+1)))] [5,45] [] [] <| jn [(57,.b (((a0.1==(6:Int))|| (a0.1==(7:Int)))&&(a0.2.2.1==at_)))] [7] [] [] ((a0.1==(6:Int))|| (a0.1==(7:Int))) (λh7=> ?_) (λh7=> ?_) ?_
   ·refine rn Qb [0,1,4,5,6,57] [] (pt 0 h7 (pn 4 V p0)) ?_;exact zA (by rw[h7]<;>kernel_rfl)
   ·refine rn Qb [0,1,4,5,6,57] [] (pf 0 h7 p0) ?_;exact zA (by rw[h7]<;>kernel_rfl)
   refine ck (((a0.1==(6:Int))|| (a0.1==(7:Int)))&&(a0.2.2.1==at_)) (λh8=> ?_) (λh8=> ?_)
   ·have h8r:((a0.2.2.1==at_))=true:=MK h8;have h8rd:=eq_of_beq h8r;refine rn Qb [0,1,4,5,6] [] p0 ?_;refine qn Qb [0,1,4,5,6] [] (pe 1 (Js (Qq k0 (by omega))) p0) ?_;exact xw _ (Qw V (X6 h6 (X6 h8 (rfl))) U)
   refine Qi <| rn Qb [0,1,4,5,6] [] (pe 1 (Js (Qq k0 (by omega))) p0) ?_
   exact xw _ (Qw V (X6 h6 (Qy h8 (rfl))) U)
  refine Qi <| Qc <| jn [(57,.b (((a0.1==(6:Int))|| (a0.1==(7:Int)))&&(a0.2.2.1==at_)))] [7,45] [] [] ((a0.1==(6:Int))|| (a0.1==(7:Int))) (λh9=> ?_) (λh9=> ?_) ?_
  ·refine rn Qb [0,1,4,5,6,57] [] (pt 0 h9 (pn 4 V p0)) ?_;exact zA (by rw[h9]<;>kernel_rfl)
  ·refine rn Qb [0,1,4,5,6,57] [] (pf 0 h9 p0) ?_;exact zA (by rw[h9]<;>kernel_rfl)
  refine ck (((a0.1==(6:Int))|| (a0.1==(7:Int)))&&(a0.2.2.1==at_)) (λh10=> ?_) (λh10=> ?_)
  ·have h10r:((a0.2.2.1==at_))=true:=MK h10;have h10rd:=eq_of_beq h10r;refine rn Qb [0,1,4,5,6] [] p0 ?_;refine qn Qb [0,1,4,5,6] [] (pe 1 (Js (Qq k0 (by omega))) p0) ?_;exact xw _ (Qw V (Qy h6 (X6 h10 (rfl))) U)
  refine Qi <| rn Qb [0,1,4,5,6] [] (pe 1 (Js (Qq k0 (by omega))) p0) ?_
  exact xw _ (Qw V (Qy h6 (Qy h10 (rfl))) U)
 ·exact Qc <| sn Qb [0,1,4,5,6,11] [] (pl 2 q (pe 3 (zC ((k0:Int)<(q.length:Int))) p0)) <| ckF <| Xe <| xw _ (Xy hk0 (rfl) U)
 exact sn Qb [4] [] p0 <| Qk <| pi [] (Ur hD0 (rfl))
def Ws (q:List Yy) (k0:Nat) (a0:Yy) (_:Unit):Rd (Bool) (Unit) (Unit):=(bif ((!(K8 a0 (k0:Int)))|| (decide ((k0:Int)<((q.length:Int)-1))&&((Vm q (k0:Int)) !=(1:Int)))) then (.ret false) else (.next ()))
def U6 (_:Nat) (_:Unit):Unit:=()
def Yw (q:List Yy):Bool:=(Out.on (Xp (Ws q) U6 q 0 ()) (λ_=>(Xi (q.length:Int) 1 9)))
theorem Vz (q:List Yy):ACalls Tryz.prog 176 [.h q] (.b (Yw q)):=by
 refine en Qb Tryz.func176 λw0 F0 hG=> ?_
 refine sn Qb [0,2] [] p0 <| Qc <| tn Qb [0,2,3] [] p0 <| mz [(2,.b false),(3,.i 0)] [] [] [] <| wT 0 0 .sh q (λhw1 hl2=> ?_)
 refine M8 (Ws q) U6 q () (λk0 _=> [(3,.i (k0:Int))]) [3] (λ_=> []) [3] wf0 (λk0 s0 hk0 U=> ?_) (λk0 s0 hk0 U=> ?_) (λy0 hD0=> ?_)
 ·obtain ⟨a0,V⟩:=Xs (l:=q) (i:=k0) hk0;refine Qc <| sn Qb [0,2,3,7] [] (pl 2 q (pe 3 (zB ((k0:Int)<(q.length:Int))) p0)) <| ckT <| Qi <| Qc <| Qx <| Qc <| mz [(7,.b true)] [] [] [] <| jn [(29,.b ((!(K8 a0 (k0:Int)))|| (decide ((k0:Int)<((q.length:Int)-1))&&((Vm q (k0:Int)) !=(1:Int)))))] [7] [] [] (!(K8 a0 (k0:Int))) (λh3=> ?_) (λh3=> ?_) ?_
  ·have h3n:(K8 a0 (k0:Int))=false:=Ht h3;refine rn Qb [0,2,3,29] [] (pn 2 V (pc 5 (cb h3n (Di a0 (k0:Int))) (pe 6 (show .b (!false)= .b true from rfl) p0))) ?_;exact zA (by rw[h3]<;>kernel_rfl)
  ·have h3n:(K8 a0 (k0:Int))=true:=Ka h3;refine Ya (decide ((k0:Int)<((q.length:Int)-1))) (λh4=> ?_) (λh4=> ?_)
   ·have h4d:=of_decide_eq_true h4;refine rn Qb [0,2,3,29] [] (pn 2 V (pc 5 (cb h3n (Di a0 (k0:Int))) (pe 6 (show .b (!true)= .b false from rfl) (pl 10 q (pe 11 (Js (IntWalk.i64_in ((q.length:Int)-1) (by omega))) (pt 12 h4 (pc 16 (L7 q (k0:Int)) p0))))))) ?_;exact zA (by rw[h3,h4]<;>kernel_rfl)
   have h4d:=of_decide_eq_false h4;refine rn Qb [0,2,3,29] [] (pn 2 V (pc 5 (cb h3n (Di a0 (k0:Int))) (pe 6 (show .b (!true)= .b false from rfl) (pl 10 q (pe 11 (Js (IntWalk.i64_in ((q.length:Int)-1) (by omega))) (pf 12 h4 p0)))))) ?_;exact zA (by rw[h3,h4]<;>kernel_rfl)
  refine ck ((!(K8 a0 (k0:Int)))|| (decide ((k0:Int)<((q.length:Int)-1))&&((Vm q (k0:Int)) !=(1:Int)))) (λh5=> ?_) (λh5=> ?_)
  ·refine sn Qb [0,2,3] [] p0 <| Qk ?_
   have hr6:(Xp (Ws q) U6 q 0 ())= .ret false:=Z6 V (X6 h5 (rfl)) U;exact pb [] (M5 hr6)
  refine Qi <| rn Qb [0,2,3] [] (pe 1 (Js (Qq k0 (by omega))) p0) ?_
  exact xw _ (Qw V (Qy h5 (rfl)) U)
 ·exact Qc <| sn Qb [0,2,3,7] [] (pl 2 q (pe 3 (zC ((k0:Int)<(q.length:Int))) p0)) <| ckF <| Xe <| xw _ (Xy hk0 (rfl) U)
 exact sn Qb [2] [] (pl 1 q (pc 2 (Zz (q.length:Int) 1 9) p0)) <| Qk <| pb [] (Ur hD0 (rfl))
theorem AN (a b c : Int) : X9 a b c = Xi a b c := rfl
theorem Se {a b c : Int} : X9 a b c = true ↔ b ≤ a ∧ a ≤ c := by simp [X9]
theorem L8 {a b c : Int} : Xi a b c = true ↔ b ≤ a ∧ a ≤ c := by simp [Xi]
theorem RB (s : ByteArray) : Yo s = Ye s := rfl
theorem GX (s : ByteArray) : Yi s = Xv s := by
  unfold Yi Xv Dg
  by_cases h : s.size = 1
  · simp only [h, Int.toNat_natCast, Wb, Uq]
    by_cases h1 : H3 s 0 < 97 <;> by_cases h2 : H3 s 0 > 122 <;> simp [h1, h2, Out.on, Xi, Hh] <;> omega
  have h1 : ((s.size : Int) == 1) = false := by simpa using λe : (s.size : Int) = 1 => h (by omega)
  have h2 : Xi (s.size : Int) 1 1 = false := by simp [Xi]; omega
  rw [h1, h2, Bool.false_and]
  cases hf : Wb (Uq s) Hh (Int.toNat (s.size : Int)) 0 () with
  | brk t => rfl
  | ret r =>
    have key : ∀ n k, ∀ r, Wb (Uq s) Hh n k () = .ret r → r = false := by
      intro n
      induction n with
      | zero => intro k r h; simp [Wb] at h
      | succ n ih =>
        intro k r h
        simp only [Wb, Uq] at h
        cases hc : (decide (H3 s ((k : Nat) : Int) < (97 : Int)) || decide (H3 s ((k : Nat) : Int) > (122 : Int))) with
        | true => rw [hc] at h; simp only [cond_true] at h; cases h; rfl
        | false => rw [hc] at h; exact ih _ _ h
    exact (key _ _ _ hf).symm
theorem RC (v : Z4) : Za v = Zy v := rfl
theorem Qbp (n : Yy) (k : Int) : Zg n k = K8 n k := by
  unfold Zg K8
  rw [GX, RC, RB]
  simp only [AN]
  by_cases h1 : n.1 = 1
  · simp [h1]
  by_cases h2 : n.1 = 2
  · simp [h1, h2, Bool.and_comm]
  by_cases h3 : n.1 = 3
  · simp [h1, h2, h3]; ac_rfl
  by_cases h4 : n.1 = 4
  · simp [h1, h2, h3, h4]; cases h : (n.2.2.2.2.1 == 1) <;> simp_all <;> ac_rfl
  by_cases h5 : n.1 = 5
  · simp [h1, h2, h3, h4, h5]; ac_rfl
  by_cases h6 : n.1 = 6
  · simp [h1, h2, h3, h4, h5, h6]; ac_rfl
  by_cases h7 : n.1 = 7
  · simp [h1, h2, h3, h4, h5, h6, h7]; ac_rfl
  by_cases h8 : n.1 = 8
  · simp [h1, h2, h3, h4, h5, h6, h7, h8, Bool.and_comm]
  by_cases h9 : n.1 = 9
  · simp [h1, h2, h3, h4, h5, h6, h7, h8, h9, Bool.and_comm]
  simp only [beq_eq_false_iff_ne.2 h1, beq_eq_false_iff_ne.2 h2, beq_eq_false_iff_ne.2 h3, beq_eq_false_iff_ne.2 h4, beq_eq_false_iff_ne.2 h5, beq_eq_false_iff_ne.2 h6, beq_eq_false_iff_ne.2 h7, beq_eq_false_iff_ne.2 h8, beq_eq_false_iff_ne.2 h9, cond_false]
theorem Qfh (q : List Yy) (k : Int) : Z7 q k = Vm q k := by
  unfold Z7 Vm
  rw [Fw (f := Jm k) (g := W0 k) (e := Wz) (e' := Hm) (λi a s => by
    unfold Jm W0
    cases (a.2.1 == k) <;> cases (a.2.2.1 == k) <;> cases (a.1 == 6) <;> cases (a.1 == 7) <;> cases (a.1 == 5) <;> rfl) (λ_ _ => rfl)]
theorem Qbq (q : List Yy) : Q9 q = Yw q := by
  unfold Q9 Yw
  rw [Fw (f := Y3 q) (g := Ws q) (e := Ky) (e' := U6) (λi a s => by
    unfold Y3 Ws
    rw [Qbp, Qfh]) (λ_ _ => rfl)]
  rfl
theorem Oh {q : List Yy} (h : Yw q = true) : Q9 q = true := (Qbq q).trans h
theorem RD {q : List Yy} (h : Q9 q = true) : (∃ t, Xp (Y3 q) Ky q 0 () = .brk t) ∧ X9 (q.length : Int) 1 9 = true := by
  unfold Q9 at h
  cases hf : Xp (Y3 q) Ky q 0 () with
  | brk t => rw [hf] at h; exact ⟨⟨t, rfl⟩, h⟩
  | ret r =>
    rw [hf] at h
    obtain rfl : r = true := h
    exfalso
    have key : ∀ (l : List Yy) k, Xp (Y3 q) Ky l k () ≠ .ret true := by
      intro l
      induction l with
      | nil => intro k h; simp [Xp] at h
      | cons a l ih =>
        intro k h
        simp only [Xp] at h
        unfold Y3 at h
        split at h
        · rename_i hf; exact ih _ h
        · cases h
        rename_i r hf; cases h; revert hf; generalize (_ || _ : Bool) = c; cases c <;> simp
    exact key _ _ hf
theorem XA {q : List Yy} (h : Q9 q = true) : 1 ≤ q.length ∧ q.length ≤ 9 := by
  have := Se.1 (RD h).2
  omega
theorem DY {q : List Yy} (h : Q9 q = true) {i : Nat} {n : Yy} (hi : q[i]? = some n) : Zg n (i : Int) = true := by
  obtain ⟨⟨t, ht⟩, _⟩ := RD h
  have := Ej (λk a t => by unfold Y3; generalize (_ || _ : Bool) = c; cases c <;> simp) ht i n hi
  unfold Y3 at this
  rw [Nat.zero_add] at this
  cases hn : Zg n (i : Int) with
  | true => rfl
  | false => rw [hn] at this; simp at this
theorem Qfi {n : Yy} {k : Int} (h : Zg n k = true) (hk : 0 ≤ k ∧ k < 4611686018427387904) : (n.1 = 5 ∨ n.1 = 6 ∨ n.1 = 7 → 0 ≤ n.2.1 ∧ n.2.1 < k) ∧ (n.1 = 6 ∨ n.1 = 7 → 0 ≤ n.2.2.1 ∧ n.2.2.1 < k) := by
  have hw : IntKind.i64.wrap (k - 1) = k - 1 := IntWalk.i64_in _ (by omega)
  unfold Zg at h
  rw [hw] at h
  refine ⟨λh5 => ?_, λh5 => ?_⟩
  · rcases h5 with h5 | h5 | h5 <;> (simp [h5, X9] at h; omega)
  rcases h5 with h5 | h5 <;> (simp [h5, X9] at h; omega)
theorem Ea {q : List Yy} (h : Q9 q = true) {k : Int} (ha : 0 ≤ k) (hb : k < (q.length : Int)) :
    ((nth q (Int.toNat k)).1 = 5 ∨ (nth q (Int.toNat k)).1 = 6 ∨ (nth q (Int.toNat k)).1 = 7 → 0 ≤ (nth q (Int.toNat k)).2.1 ∧ (nth q (Int.toNat k)).2.1 < k) ∧ ((nth q (Int.toNat k)).1 = 6 ∨ (nth q (Int.toNat k)).1 = 7 → 0 ≤ (nth q (Int.toNat k)).2.2.1 ∧ (nth q (Int.toNat k)).2.2.1 < k) := by
  have hi : q[Int.toNat k]? = some (nth q (Int.toNat k)) := Wr (by omega)
  have := DY h hi
  rw [Int.toNat_of_nonneg ha] at this
  exact Qfi this ⟨ha, by have := (XA h).2; omega⟩
section
variable {q : List Yy} {k : Int} (h : Q9 q = true) (ha : 0 ≤ k) (hb : k < (q.length : Int))
include h ha hb
theorem Qdp (h5 : ((nth q (Int.toNat k)).1 == (5 : Int)) = true) : 0 ≤ (nth q (Int.toNat k)).2.1 ∧ (nth q (Int.toNat k)).2.1 < k := (Ea h ha hb).1 (.inl (eq_of_beq h5))
theorem GY (h5 : ((nth q (Int.toNat k)).1 == (6 : Int)) = true) : 0 ≤ (nth q (Int.toNat k)).2.1 ∧ (nth q (Int.toNat k)).2.1 < k := (Ea h ha hb).1 (.inr (.inl (eq_of_beq h5)))
theorem MO (h5 : ((nth q (Int.toNat k)).1 == (7 : Int)) = true) : 0 ≤ (nth q (Int.toNat k)).2.1 ∧ (nth q (Int.toNat k)).2.1 < k := (Ea h ha hb).1 (.inr (.inr (eq_of_beq h5)))
theorem Qdq (h5 : ((nth q (Int.toNat k)).1 == (6 : Int)) = true) : 0 ≤ (nth q (Int.toNat k)).2.2.1 ∧ (nth q (Int.toNat k)).2.2.1 < k := (Ea h ha hb).2 (.inl (eq_of_beq h5))
theorem Qfj (h5 : ((nth q (Int.toNat k)).1 == (7 : Int)) = true) : 0 ≤ (nth q (Int.toNat k)).2.2.1 ∧ (nth q (Int.toNat k)).2.2.1 < k := (Ea h ha hb).2 (.inr (eq_of_beq h5))
theorem Qdr (h5 : (((nth q (Int.toNat k)).1 == (6 : Int)) || ((nth q (Int.toNat k)).1 == (7 : Int))) = true) : (0 ≤ (nth q (Int.toNat k)).2.1 ∧ (nth q (Int.toNat k)).2.1 < k) ∧ (0 ≤ (nth q (Int.toNat k)).2.2.1 ∧ (nth q (Int.toNat k)).2.2.1 < k) := by
  have h6 : (nth q (Int.toNat k)).1 = 6 ∨ (nth q (Int.toNat k)).1 = 7 := by simpa using h5
  exact ⟨(Ea h ha hb).1 (.inr h6), (Ea h ha hb).2 h6⟩
end
end
end Go.Proofs.YtcfmffieckchiaaGreatDoor
