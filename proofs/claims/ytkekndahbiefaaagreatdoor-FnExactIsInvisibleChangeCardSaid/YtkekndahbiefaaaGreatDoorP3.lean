/- Texts of this proof, put together by a program: Zc, Mk, Ty, App, Fk, Kn, Cka, Ckb. -/
import Derived.Test.YtkekndahbiefaaaGreatDoorP2
import Derived.Orders
import Derived.LoopN
import Derived.KernelRfl
import Derived.Deep.DeepAppendWide
import Derived.Deep.DeepAppendRoom
import Derived.Maps.AppendAt
import Derived.Test.YtkekndahbiefaaaGreatDoorProg
import Derived.Outline
import Derived.Lib.SliceRun
set_option linter.unusedVariables false
set_option linter.unusedSimpArgs false
namespace Go.Proofs.YtkekndahbiefaaaGreatDoor
open Go.RowKit
structure Rec where
 avs:List AV
 bn:List (Nat×List C)
 res:Res
 obs:List Ob
def Ic (s:St):List Operand->Option (List AV)
 | []=>some []
 | x::r=>match UL s x,Ic s r with
   | some v,some vs=>some (v::vs)
   | _,_=>none
def Pc:List C->List Nat
 | []=> []
 | c::r=>c.bkeys++Pc r
def Al (s:St):List Nat->List (Nat×List C)
 | []=> []
 | k::r=>match get s.bx k with
   | some cs=>(k,cs)::Al s r
   | none=>Al s r
def KT (tt : List (Nat×TI)) (orc:Orc) (bn:List (Nat×List C)) (dst:Option Nat) (op:Op) (avs:List AV):Option (Res×List Ob):=
 match TH tt orc bn op avs with
 | some (v,obs)=>(match orc with
   | .val v'=>some (⟨v', [],none,none⟩, .eq v v'::obs)
   | _=>some (⟨v, [],none,none⟩,obs))
 | none => match Qhq tt bn dst op avs with
   | some x=>some x
   | none => match Qht tt orc dst op avs with
     | some x=>some x
     | none => match Qhz orc bn dst op avs with
       | some x=>some x
       | none =>match TP tt orc op avs with
         | some (v,obs)=>(match orc with
           | .val v'=>some (⟨v', [],none,none⟩, .eq v v'::obs)
           | _=>some (⟨v, [],none,none⟩,obs))
         | none =>match TQ tt op avs with
           | some x=>some x
           | none=>match Qh0 tt dst op avs with
             | some x=>some x
             | none=>match Qh3 orc bn dst op avs with
               | some x=>some x
               | none=>Qh4 orc bn dst op avs
def EP (tt:List (Nat×TI)) (orc:Orc) (bn:List (Nat×List C)) (dst:Option Nat) (op:Op) (avs:List AV):Option (Res×List Ob):=
 match KS tt orc op avs with
 | some (v,obs)=>some (⟨v, [],none,none⟩,obs)
 | none=>KT tt orc bn dst op avs
def D8 (ops:List Oper) (s:St) (o:Oper):Option Bool:=
 match o.guard with
 | none=>some true
 | some (j,want)=>match ops[j]? with
   | some oj=>(match oj.dst with
     | some t=>(match get s.tm t with
       | some (.one (.bool b))=>some (match b,want with
         | true,true=>true
         | false,false=>true
         | _,_=>false)
       | some (.tup [])=>some false
       | _=>none)
     | none=>none)
   | none=>none
def LB (N:Nat):Option Nat->Bool
 | none=>true
 | some d=>Nat.blt d N
def Gd (tt:List (Nat×TI)) (N:Nat) (orc:Orc) (ops:List Oper) (s:St) (o:Oper):Option Rec:=
 bif LB N o.dst then
  match D8 ops s o with
  | some true=>(match Ic s o.op.operands.toList with
    | some avs=>(match EP tt orc (Al s (Pc (Yl avs))) o.dst o.op avs with
      | some (r,obs)=>some ⟨avs,Al s (Pc (Yl avs)),r,obs⟩
      | none=>none)
    | none=>none)
  | some false=>some ⟨[], [],⟨.tup [], [],none,none⟩, []⟩
  | none=>none
 else none
section
variable {P:Program} {N:Nat} {w0:Base} {F0:Nat->Prop} {J:Inj} {a:Act} {w:World} {s:St}
theorem HQ : ∀ {xs :List Operand} {vs:List AV},Ic s xs=some vs->All2 (fun x v=>UL s x=some v) xs vs
 | [], vs, h => by obtain rfl: []=vs:=by simpa [Ic] using h
                   exact .nil
 | x::r,vs,h=>by
   simp only[Ic] at h;split at h
   . rename_i v vs' e1 e2;obtain rfl:=Option.some.inj h;exact .cons e1 (HQ e2)
   cases h
theorem Sm:∀{ks:List Nat} {k:Nat} {c:List C},get (Al s ks) k=some c->get s.bx k=some c
 | [],k,c,h=>by simp[Al,get] at h
 | x ::r,k,c,h=>by
   simp only[Al] at h;split at h
   . rename_i cs hx;simp only[get] at h;split at h
     . rename_i e;subst e;rw[hx];exact h
     exact Sm h
   exact Sm h
theorem RA {tt:List (Nat×TI)} (htt:Me P tt=true) {orc:Orc} {bn:List (Nat×List C)} {o:Oper} {avs:List AV} {r:Res} {obs:List Ob} (h:KT tt orc bn o.dst o.op avs=some (r,obs)) (hob:AllOb (Zy P w0) (Ud P w0) obs)
 (hdst:∀d,o.dst=some d->d<N) (hrel:Rel N w0 F0 J a w s) (hops:All2 (fun x v=>UL s x=some v) o.op.operands.toList avs) (hbn:∀k c,get bn k=some c->get s.bx k=some c) {K:Act->World->Prop} {Q:Exit->Act->World->Prop}
 (hK:∀J' a' w',Rel N w0 F0 J' a' w' (s.step o.dst r)->K a' w'):o.wp P a w K Q:=by
 unfold KT at h
 have hbx:∀k c,get bn k=some c->∃arr e,w.heap[J.B k]? =some (.cells arr e (0,0))/\All2 (CR J w) arr.toList c:=fun k c hk=>by
  obtain ⟨_,_,_,h⟩:=hrel.bo k c (hbn k c hk);exact h
 split at h
 . rename_i v obs' hp
   have key:∀v',AllOb (Zy P w0) (Ud P w0) obs'->v=v'->(∀J' a' w',Rel N w0 F0 J' a' w' (s.step o.dst ⟨v', [],none,none⟩)->K a' w')->o.wp P a w K Q:=by
    intro v' hob' e hK';obtain ⟨u,hu,hr⟩:=Qdt (P:=P) (A:=Zy P w0) (J:=J) (w:=w) htt hp hob' rfl (ρ:=a.eval) (fun _=>rfl) (Fb hrel hops) hbx;exact Us hu (hK' J _ _ (hrel.pure o.dst hdst v' u fun _=>e▸hr))
   split at h
   . rename_i v';obtain ⟨rfl,rfl⟩:(⟨v', [],none,none⟩:Res)=r/\ .eq v v'::obs'=obs:=by simpa using h
     obtain ⟨e,hob'⟩:=AllOb.cons hob;exact key v' hob' e hK
   obtain ⟨rfl,rfl⟩:(⟨v, [],none,none⟩:Res)=r/\obs'=obs:=by simpa using h
   exact key v hob rfl hK
 split at h
 . rename_i x hx;obtain rfl:=Option.some.inj h;exact Qdu (P:=P) htt hx hdst hrel hops hbn hK
 split at h
 . rename_i x hx;obtain rfl:=Option.some.inj h;exact Qdv (P:=P) htt hx hob hdst hrel hops hK
 split at h
 . rename_i x hx;obtain rfl:=Option.some.inj h;exact Qdw (P:=P) hx hob hdst hrel hops hbn hK
 split at h
 . rename_i v obs' hp;have hval:(∃v',orc= .val v')\/∀v',orc≠ .val v':=by cases orc<;>simp
   rcases hval with ⟨v',rfl⟩ | hne
   . obtain ⟨rfl,rfl⟩:(⟨v', [],none,none⟩:Res)=r/\ .eq v v'::obs'=obs:=by simpa using h
     obtain ⟨e,hob'⟩:=AllOb.cons hob;obtain ⟨u,hu,hr⟩:=EN (P:=P) (A:=Zy P w0) (J:=J) (w:=w) htt hp hob' rfl (ρ:=a.eval) (Fb hrel hops);have e:v=v':=e;exact Us hu (hK _ _ _ (hrel.pure o.dst hdst _ _ fun _=>e▸hr))
   have h2:some ((⟨v, [],none,none⟩:Res),obs')=some (r,obs):=by
    split at h
    . exact absurd rfl (hne _)
    exact h
   obtain ⟨rfl,rfl⟩:(⟨v, [],none,none⟩:Res)=r/\obs'=obs:=by simpa using h2
   obtain ⟨u,hu,hr⟩:=EN (P:=P) (A:=Zy P w0) (J:=J) (w:=w) htt hp hob rfl (ρ:=a.eval) (Fb hrel hops);exact Us hu (hK _ _ _ (hrel.pure o.dst hdst _ _ fun _=>hr))
 split at h
 . rename_i x hx;obtain rfl:=Option.some.inj h;exact TS (P:=P) htt hx hdst hrel hops hK
 split at h
 . rename_i x hx;obtain rfl:=Option.some.inj h;exact Qdy (P:=P) htt hx hob hdst hrel hops hK
 split at h
 . rename_i x hx;obtain rfl:=Option.some.inj h;exact Qd0 (P:=P) hx hob hdst hrel hops hbn hK
 exact Qd4 (P:=P) h hob hdst hrel hops hbn hK
theorem TY {tt:List (Nat×TI)} (htt:Me P tt=true) {orc:Orc} {bn:List (Nat×List C)} {o:Oper} {avs:List AV} {r:Res} {obs:List Ob} (h:EP tt orc bn o.dst o.op avs=some (r,obs)) (hob:AllOb (Zy P w0) (Ud P w0) obs)
 (hdst:∀d,o.dst=some d->d<N) (hrel:Rel N w0 F0 J a w s) (hops:All2 (fun x v=>UL s x=some v) o.op.operands.toList avs) (hbn:∀k c,get bn k=some c->get s.bx k=some c) {K:Act->World->Prop} {Q:Exit->Act->World->Prop}
 (hK:∀J' a' w',Rel N w0 F0 J' a' w' (s.step o.dst r)->K a' w'):o.wp P a w K Q:=by
 unfold EP at h;split at h
 . rename_i v obs' hp;obtain ⟨rfl,rfl⟩:(⟨v, [],none,none⟩:Res)=r/\obs'=obs:=by simpa using h
   obtain ⟨u,hu,hr⟩:=PZ (P:=P) (A:=Zy P w0) (J:=J) (w:=w) htt hp hob rfl (ρ:=a.eval) (Fb hrel hops);exact Us hu (hK _ _ _ (hrel.pure o.dst hdst _ _ fun _=>hr))
 exact RA htt h hob hdst hrel hops hbn hK
theorem NP {ops:Array Oper} {o:Oper} {b:Bool} (hrel:Rel N w0 F0 J a w s) (h:D8 ops.toList s o=some b):Region.wanted o (yielded ops a.tmps)=b:=by
 unfold D8 at h;unfold Region.wanted;split at h
 . rename_i hg;rw[hg];exact Option.some.inj h
 rename_i j want hg;rw[hg];split at h
 . rename_i oj hj;split at h
   . rename_i t ht;split at h
     . rename_i c hc;have h1:a.tmps.getD t undef= .bool c:=hrel.tm t _ hc
       have h2:a.tmps[t]? =some (.bool c):=by
        rw[Array.getD_eq_getD_getElem?] at h1;cases hq:a.tmps[t]? with
        | none=>rw[hq] at h1;simp[undef] at h1
        | some u=>rw[hq] at h1;simp at h1;rw[h1]
       have hj':ops[j]? =some oj:=by simpa using hj
       simp only[yielded,hj',Option.bind_some,ht,h2];obtain rfl:=Option.some.inj h;cases c<;>cases want<;>rfl
     . rename_i hc;obtain ⟨vs,h1,hv⟩:=hrel.tm t _ hc;cases hv
       have hj':ops[j]? =some oj:=by simpa using hj
       obtain rfl:=Option.some.inj h;rw[Array.getD_eq_getD_getElem?] at h1;cases hq:a.tmps[t]? with
       | none=>simp[yielded,hj',ht,hq]
       | some u=>
         rw[hq] at h1;obtain rfl:u=_:=h1;simp[yielded,hj',ht,hq]
     cases h
   cases h
 cases h
theorem TZ {tt:List (Nat×TI)} (htt:Me P tt=true) {orc:Orc} {ops:Array Oper} {i:Nat} {o:Oper} (hi:ops[i]? =some o) {ρ:Rec} (h:Gd tt N orc ops.toList s o=some ρ) (hob:AllOb (Zy P w0) (Ud P w0) ρ.obs) (hrel:Rel N w0 F0 J a w s)
 {K:Act->World->Prop} {Q:Exit->Act->World->Prop} (hK:∀J' a' w',Rel N w0 F0 J' a' w' (s.step o.dst ρ.res)->K a' w'):wpOp P ops Q i K a w:=by
 unfold Gd at h;cases hd:LB N o.dst with
 | false=>rw[hd] at h;cases h
 | true =>
   rw[hd] at h;simp only[cond_true] at h;have hdst:∀d,o.dst=some d->d<N:=fun d e=>by rw[e] at hd;simpa [LB] using hd
   unfold wpOp;simp only[hi];split at h
   . rename_i hg;have hw:=NP hrel hg;split at h
     . rename_i avs havs;split at h
       . rename_i r obs he;obtain rfl:=Option.some.inj h;rw[if_pos hw];exact .inl (TY (P:=P) htt he hob hdst hrel (HQ havs) (fun k c hk=>Sm hk) hK)
       cases h
     cases h
   . rename_i hg;obtain rfl:=Option.some.inj h;have hw:=NP hrel hg;rw[if_neg (by rw[hw];simp)];exact hK J _ _ (hrel.pure o.dst hdst _ _ fun _=>⟨[],rfl, .nil⟩)
   cases h
def BZ (orcs:List (Nat×Orc)) (i:Nat):Orc:=match get orcs i with
 | some x=>x
 | none=> .no
def Ov (tt:List (Nat×TI)) (N:Nat) (orcs:List (Nat×Orc)) (ops:List Oper):List Oper->Nat->St->Option (St×List Ob)
 | [],_,s=>some (s, [])
 | o ::r,i,s=>match Gd tt N (BZ orcs i) ops s o with
   | some ρ=>(match Ov tt N orcs ops r (i+1) (s.step o.dst ρ.res) with
     | some (s',obs)=>some (s',ρ.obs++obs)
     | none=>none)
   | none=>none
theorem EQ {tt:List (Nat×TI)} (htt:Me P tt=true) {orcs:List (Nat×Orc)} {ops:Array Oper} {Q:Exit->Act->World->Prop}:∀(l:List Oper) (i:Nat) {s s':St} {obs:List Ob} {J:Inj} {a:Act} {w:World},ops.toList.drop i=l->
 Ov tt N orcs ops.toList l i s=some (s',obs)->AllOb (Zy P w0) (Ud P w0) obs->Rel N w0 F0 J a w s->(∀J' a' w',Rel N w0 F0 J' a' w' s'->Q .normal a' w')->wpOps P ops Q (List.range' i l.length) a w
 | [],i,s,s',obs,J,a,w,_,h,_,hrel,hQ=>by
   obtain ⟨rfl,rfl⟩:s=s'/\ []=obs:=by simpa [Ov] using h
   exact hQ J a w hrel
 | o :: r,i,s,s',obs,J,a,w,hl,h,hob,hrel,hQ=>by
   simp only[Ov] at h;split at h
   . rename_i ρ hρ;split at h
     . rename_i s'' obs' hr;obtain ⟨rfl,rfl⟩:s''=s'/\ρ.obs++obs'=obs:=by simpa using h
       obtain ⟨ho1,ho2⟩:=AllOb.append hob
       have hi:ops[i]? =some o:=by
        have:=congrArg (·[0]?) hl;simpa using this
       have hl':ops.toList.drop (i+1)=r:=by rw[←List.drop_drop,hl];rfl
       rw[List.length_cons,List.range'_succ,wpOps_cons];exact TZ (P:=P) htt hi hρ ho1 hrel fun J' a' w' hR=>EQ htt r (i+1) hl' hr ho2 hR hQ
     cases h
   cases h
end
end Go.Proofs.YtkekndahbiefaaaGreatDoor
namespace Go.Proofs.YtkekndahbiefaaaGreatDoor
open Go.RowKit
section
variable (P:Program) (N:Nat) (w0:Base) (F0:Nat->Prop)
def QX (Q:Exit->St->Prop):Exit->Act->World->Prop:=fun e a w=>∃J s,Rel N w0 F0 J a w s/\Q e s
def AWP (c:Code) (Q:Exit->St->Prop) (s:St):Prop:=∀J a w,Rel N w0 F0 J a w s->c.wp P (QX N w0 F0 Q) a w
end
def Weak (s s':St):Prop:=∀N w0 F0 J a w,Rel N w0 F0 J a w s->∃J',Rel N w0 F0 J' a w s'
def Exit.thenS (K:St->Prop) (Q:Exit->St->Prop):Exit->St->Prop
 | .normal,s=>K s
 | e,s=>Q e s
def Exit.inBlockS (id:Nat) (Q:Exit->St->Prop):Exit->St->Prop
 | .exit i,s=>bif Nat.beq i id then Q .normal s else Q (.exit i) s
 | e,s=>Q e s
section
variable {P:Program} {N:Nat} {w0:Base} {F0:Nat->Prop} {Q:Exit->St->Prop} {s s':St}
theorem Weak.refl (s:St):Weak s s:=fun _ _ _ J _ _ h=>⟨J,h⟩
theorem Weak.trans {s s' s'':St} (h:Weak s s') (h':Weak s' s''):Weak s s'':=fun N w0 F0 J a w hr=>by
 obtain ⟨J',hr'⟩:=h N w0 F0 J a w hr;exact h' N w0 F0 J' a w hr'
theorem P7 {c:Code} (hw:Weak s s') (h:AWP P N w0 F0 c Q s'):AWP P N w0 F0 c Q s:=fun J a w hr=>by
 obtain ⟨J',hr'⟩:=hw N w0 F0 J a w hr;exact h J' a w hr'
theorem Qd5 {c:Code} {Q':Exit->St->Prop} (h:AWP P N w0 F0 c Q s) (hq:∀e s,Q e s->Q' e s):AWP P N w0 F0 c Q' s:=fun J a w hr=>
 wp_mono (h J a w hr) fun e a w ⟨J,s,h1,h2⟩=>⟨J,s,h1,hq e s h2⟩
theorem Qc {x y:Code} (h:AWP P N w0 F0 x (Exit.thenS (AWP P N w0 F0 y Q) Q) s):AWP P N w0 F0 (.seq x y) Q s:=fun J a w hr=>by
 refine wp_seq (wp_mono (h J a w hr) ?_)
 rintro e a' w' ⟨J',s',hR,hq⟩
 cases e with
 | normal=>exact hq J' a' w' hR
 | _=>exact ⟨J',s',hR,hq⟩
theorem Qf (h:Q .normal s):AWP P N w0 F0 .skip Q s:=fun J a w hr=>wp_skip ⟨J,s,hr,h⟩
theorem Q2 {id:Nat} (h:Q (.exit id) s):AWP P N w0 F0 (.exit id) Q s:=fun J a w hr=>wp_exit ⟨J,s,hr,h⟩
theorem Qg (h:Q .ret s):AWP P N w0 F0 .ret Q s:=fun J a w hr=>wp_ret ⟨J,s,hr,h⟩
theorem Tu {t:Nat} {x y:Code} {b:Bool} (hc:get s.tm t=some (.one (.bool b))) (h1:b=true->AWP P N w0 F0 x Q s) (h2:b=false->AWP P N w0 F0 y Q s):AWP P N w0 F0 (.cond (.tmp t) x y) Q s:=fun J a w hr=>
 wp_cond_split (t:=b) (hr.tm t _ hc) (fun e=>h1 e J a w hr) (fun e=>h2 e J a w hr)
theorem Qu {id:Nat} {c:Code} (h:AWP P N w0 F0 c (Exit.inBlockS id Q) s):AWP P N w0 F0 (.block id c) Q s:=fun J a w hr=>by
 refine wp_block (wp_mono (h J a w hr) ?_)
 rintro e a' w' ⟨J',s',hR,hq⟩
 cases e with
 | exit i=>
   simp only[Exit.inBlockS] at hq;simp only[Exit.inBlock];split<;>rename_i hi
   . subst hi;simp only[Nat.beq_refl,cond_true] at hq;exact ⟨J',s',hR,hq⟩
   rw[show Nat.beq i id=false by
    cases hb:Nat.beq i id with
    | false=>rfl
    | true=>exact absurd (Nat.eq_of_beq_eq_true hb) hi] at hq
   exact ⟨J',s',hR,hq⟩
 | _=>exact ⟨J',s',hR,hq⟩
theorem KU {c:Code} {Q:Exit->Act->World->Prop}:∀(n m:Nat),n<=m->∀a w,Code.rounds P c Q n a w->Code.rounds P c Q m a w
 | 0,_,_,_,_,h=>h.elim
 | n+1,0,h,_,_,_=>absurd h (by omega)
 | n +1,m+1,hnm,a,w,h=>wp_mono (show c.wp P (Exit.then (Code.rounds P c Q n) Q) a w from h) fun e a w hq=>by
     cases e with
     | normal=>exact KU n m (by omega) a w hq
     | _=>exact hq
theorem Qd6 {c:Code} (I:Nat->St->Prop) {n:Nat} (h0:I n s) (hI:∀n s,I n s->AWP P N w0 F0 c (Exit.thenS (fun s'=>∃m s'',m<n/\Weak s' s''/\I m s'') Q) s):AWP P N w0 F0 (.loop c) Q s:=fun J a w hr=>by
 have key:∀n s J a w,I n s->Rel N w0 F0 J a w s->Code.rounds P c (QX N w0 F0 Q) (n+1) a w:=by
  intro n
  induction n using Nat.strongRecOn with
  | _ n ih=>
    intro s J a w hi hr;refine wp_mono (hI n s hi J a w hr) ?_
    rintro e a' w' ⟨J',s',hR,hq⟩
    cases e with
    | normal=>
      obtain ⟨m,s'',hm,hw,hi'⟩:=hq;obtain ⟨J'',hR'⟩:=hw N w0 F0 J' a' w' hR;exact KU (m+1) n hm a' w' (ih m hm s'' J'' a' w' hi' hR')
    | _=>exact ⟨J',s',hR,hq⟩
 exact wp_loop_rounds (n+1) (key n s J a w h0 hr)
def LC {α:Type} (l:List (Nat×α)):List Nat->List (Nat×α)
 | []=> []
 | t::r=>match get l t with
   | some v=>(t,v)::LC l r
   | none=>LC l r
theorem Mh {α:Type} {l:List (Nat×α)} {t:Nat} {v:α}:∀{ts:List Nat},get (LC l ts) t=some v->get l t=some v
 | [],h=>by simp[LC,get] at h
 | x ::r,h=>by
   simp only[LC] at h;split at h
   . rename_i u hu;simp only[get] at h;split at h
     . rename_i e;subst e;rw[hu];exact h
     exact Mh h
   exact Mh h
def St.keep (s:St) (ts bs:List Nat):St:=⟨LC s.tm ts,LC s.bx bs⟩
theorem Qaa (ts bs:List Nat) (h:s.keep ts bs=s'):Weak s s':=fun N w0 F0 J a w hr=>⟨J,by
 subst h;exact hr.less (fun t v hv=>Mh hv) fun k c hc=>Mh hc⟩
def Sn (tt:List (Nat×TI)) (N:Nat) (orcs:List (Nat×Orc)) (ops:List Oper) (ts bs:List Nat) (s:St):Option (St×List Ob):=
 match Ov tt N orcs ops ops 0 s with
 | some (s',obs)=>some (s'.keep ts bs,obs)
 | none=>none
theorem So {tt:List (Nat×TI)} (htt:Me P tt=true) (orcs:List (Nat×Orc)) (ts bs:List Nat) {id:Nat} {ops:Array Oper} {obs:List Ob} (h:Sn tt N orcs ops.toList ts bs s=some (s',obs)) (hob:AllOb (Zy P w0) (Ud P w0) obs) (hQ:Q .normal s'):
 AWP P N w0 F0 (.region id ops false) Q s:=fun J a w hr=>by
 unfold Sn at h;split at h
 . rename_i s1 obs1 h1;obtain ⟨rfl,rfl⟩:s1.keep ts bs=s'/\obs1=obs:=by simpa using h
   refine wp_region ?_;have:=EQ (P:=P) (Q:=QX N w0 F0 Q) htt ops.toList 0 rfl h1 hob hr fun J' a' w' hR=>⟨J',_,hR.less (fun t v hv=>Mh hv) (fun k c hc=>Mh hc),hQ⟩
   rw[List.range_eq_range'];simpa using this
 cases h
def N7 (k k' x:Nat):Nat:=bif Nat.beq x k then k' else bif Nat.beq x k' then k else x
def Qjv (k k':Nat):Tok->Tok
 | .own d x=> .own d (N7 k k' x)
 | .vw x=> .vw (N7 k k' x)
 | t=>t
def Qh5 (k k':Nat):C->C
 | .slc t n l=> .slc (Qjv k k' t) n l
 | .rptr t cs=> .rptr (Qjv k k' t) cs
 | .ept d x n i o cs=> .ept d (N7 k k' x) n i o cs
 | c=>c
theorem HV {a b:Nat} (h:a≠b):Nat.beq a b=false:=by
 cases hb:Nat.beq a b with
 | false=>rfl
 | true=>exact absurd (Nat.eq_of_beq_eq_true hb) h
theorem B9 (k k' x:Nat):N7 k k' (N7 k k' x)=x:=by
 simp only[N7];by_cases h1:x=k
 . subst h1;simp;by_cases h2:k'=x
   . simp[h2]
   have:Nat.beq k' x=false:=HV h2;simp[this]
 have e1:Nat.beq x k=false:=HV h1;simp only[e1,cond_false];by_cases h2:x=k'
 . subst h2;simp
 have e2:Nat.beq x k'=false:=HV h2;simp[e1,e2]
def Inj.swap (J:Inj) (k k':Nat):Inj:=⟨J.F,fun x=>J.L (N7 k k' x),J.B⟩
theorem NQ {J:Inj} {w:World} {k k':Nat} {v:Value} {c:C} (h:CR J w v c):CR (J.swap k k') w v (Qh5 k k' c):=by
 cases c with
 | slc t n l=>
   cases t with
   | sh | emp | put=>exact h
   | own d x=>
     cases d with
     | true=>show OwnDeep (J.L (N7 k k' (N7 k k' x))) w v n l;rw[B9];exact h
     | false=>show OwnTop J.F (J.L (N7 k k' (N7 k k' x))) w v n l;rw[B9];exact h
   | vw x=>
     refine VV.keep (X:=J.X (.vw x)) (fun b hb=>⟨?_,rfl⟩) h;show b∈J.L (N7 k k' (N7 k k' x))\/J.F b;rw[B9];exact hb
 | ept d x n i o cs=>
   obtain ⟨g,r,vs,h1,h2,h3,h4⟩:=h;refine ⟨g,r,vs, ?_,h2,h3.keep fun b hb=>⟨?_,rfl⟩,h4⟩
   . show J.L (N7 k k' (N7 k k' x))=_;rw[B9];exact h1
   cases d with
   | true=>
     show b∈J.L (N7 k k' (N7 k k' x))\/J.F b;rw[B9];exact hb
   | false=>exact hb
 | rptr t cs=>
   refine Reads.keep h fun b hb=>⟨?_,rfl⟩
   cases t with
   | vw x=>
     show b∈J.L (N7 k k' (N7 k k' x))\/J.F b;rw[B9];exact hb
   | _=>exact hb
 | _=>exact h
theorem Rel.swap {J:Inj} {a:Act} {w:World} (h:Rel N w0 F0 J a w s) (k k':Nat):Rel N w0 F0 (J.swap k k') a w (s.map (Qh5 k k')) where
 below:=h.below
 nodef:=h.nodef
 size:=h.size
 fl:=h.fl
 f0:=h.f0
 nd x:=h.nd _
 lo x:=h.lo _
 nb:=h.nb
 cb:=h.cb
 dj x y b hx hy:=by
  have:=h.dj _ _ b hx hy;rw[←B9 k k' x,this,B9]
 bo x c hc:=by
  simp only[St.map,Lq (List.map _)] at hc;obtain ⟨y,hy,rfl⟩:=Option.map_eq_some_iff.1 hc;obtain ⟨h1,h2,h3,arr,e,h4,h5⟩:=h.bo x y hy;exact ⟨h1,h2,fun k=>h3 _,arr,e,h4,h5.map _ fun a b _ hr=>NQ hr⟩
 bi x y c c' hc hc' hB:=by
  simp only[St.map,Lq (List.map _)] at hc hc';obtain ⟨z,hz,rfl⟩:=Option.map_eq_some_iff.1 hc;obtain ⟨z',hz',rfl⟩:=Option.map_eq_some_iff.1 hc';exact h.bi x y z z' hz hz' hB
 tm t v hv:=by
  simp only[St.map,Lq (AV.map _)] at hv;obtain ⟨y,hy,rfl⟩:=Option.map_eq_some_iff.1 hv;exact AR.map _ (h.tm t y hy) fun u c _ hc=>NQ hc
def St.swaps (s:St):List (Nat×Nat)->St
 | []=>s
 | (k,k')::r=>(s.map (Qh5 k k')).swaps r
theorem HW:∀(l:List (Nat×Nat)) (s:St),Weak s (s.swaps l)
 | [],s=>Weak.refl s
 | (k,k')::r,s=>Weak.trans (fun N w0 F0 J a w h=>⟨_,h.swap k k'⟩) (HW r _)
theorem HY (ks:List Nat) {J:Inj} {a:Act} {w:World} (hr:Rel N w0 F0 J a w s):∃J':Inj,(∀k,k∈ks->J'.L k= [])/\Rel N w0 F0 J' a w (s.map (Uk (X9 ks) none)):=by
 let J':Inj:=⟨fun b=>J.F b\/∃k,k∈ks/\b∈J.L k,fun k=>if k∈ks then [] else J.L k,J.B⟩
 have hL:∀k b,b∈J'.L k->k∉ks/\b∈J.L k:=fun k b hm=>by
  have hm:b∈(if k∈ks then [] else J.L k):=hm;split at hm
  . simp at hm
  rename_i hn;exact ⟨hn,hm⟩
 have hT:Turns J J' w w (X9 ks) none:=by
  constructor
  . exact fun b hb=>⟨.inl hb,rfl⟩
  . intro k hk;rw[Ve] at hk;split at hk
    . cases hk
    rename_i hn;exact ⟨if_neg hn,fun _ _=>rfl⟩
  . intro k hk b hb;rw[Ve] at hk;split at hk
    . rename_i hm;exact ⟨.inr ⟨k,hm,hb⟩,rfl⟩
    cases hk
  . intro k k' hk;rw[Ve] at hk;split at hk<;>cases hk
  . intro k t hk;rw[Ve] at hk;split at hk
    . simp at hk;exact .inl hk.symm
    cases hk
  . exact fun _ _=>rfl
  intro k d m i o cs hk;rw[Ve] at hk;split at hk<;>cases hk
 have hN:Names w0 F0 J' w:=by
  constructor
  . exact fun b hb=>hb.elim (hr.fl b) fun ⟨k,_,hm⟩=>⟨(hr.lo k b hm).2.1, .inr (hr.lo k b hm).1⟩
  . exact fun b hb=> .inl (hr.f0 b hb)
  . intro k;show (if _ then _ else _:List Nat).Nodup;split
    . simp
    exact hr.nd k
  . intro k b hm;obtain ⟨hn,hm⟩:=hL k b hm;obtain ⟨h1,h2,h3⟩:=hr.lo k b hm;exact ⟨h1,h2,fun hF=>hF.elim h3 fun ⟨k',hk',hm'⟩=>hn (hr.dj k k' b hm hm'▸hk')⟩
  intro k k' b hm hm';exact hr.dj k k' b (hL k b hm).2 (hL k' b hm').2
 have h0:=hr.upd (w':=w) (J':=J') none (by simp) ⟨.one .dead,X9 ks,none,none⟩ undef hr.below hT hN (fun h=>absurd rfl h) (fun k c hk _=>by
  obtain ⟨_,h2,h3,_⟩:=hr.bo k c hk;exact ⟨by simp,fun hF=>hF.elim h2 fun ⟨k',_,hm⟩=>h3 k' hm,fun k' hm=>h3 k' (hL k' _ hm).2,rfl⟩) (fun k c hk=>by cases hk)
 refine ⟨J',fun k hk=>if_pos hk, ?_⟩;have h0:Rel N w0 F0 J' a w (match X9 ks,(none:Option Nat) with | [],none=>s | rl,kb=>s.map (Uk rl kb)):=h0;cases ks with
 | nil =>
   have hid:s.map (Uk (X9 []) none)=s:=by
    have hc:(Uk (X9 []) none)=id:=by
     funext c
     cases c with
     | slc t n l=>cases t<;>rfl
     | rptr t cs=>cases t<;>rfl
     | _=>rfl
    rw[hc];obtain ⟨tm,bx⟩:=s;simp only[St.map]
    congr 1
    . conv=>rhs;rw[←List.map_id tm]
      refine List.map_congr_left fun p _=> ?_
      obtain ⟨t,v⟩:=p;cases v<;>simp[AV.map]
    simp
   rw[hid];exact h0
 | cons k ks=>exact h0
theorem N8 (ks:List Nat) (h:s.map (Uk (X9 ks) none)=s'):Weak s s':=fun N w0 F0 J a w hr=>by
 subst h;obtain ⟨J',_,h⟩:=HY ks hr;exact ⟨J',h⟩
def Qd7 (d:Bool) (k n:Nat):C->C
 | .slc .emp _ []=> .slc (.own d k) n []
 | c=>c
def LD (i:Nat) (d:Bool) (k n:Nat):List C->List C
 | []=> []
 | c::r=>match i with
   | 0=>Qd7 d k n c::r
   | i+1=>c::LD i d k n r
def Qgu (i:Nat) (d:Bool) (k n:Nat):AV->AV
 | .one c=> .one (Qd7 d k n c)
 | .agg cs=> .agg (LD i d k n cs)
 | v=>v
theorem NR {J:Inj} {w:World} {v:Value} {d:Bool} {k n:Nat} (_:J.L k= []) {c:C} (h:CR J w v c):CR J w v (Qd7 d k n c):=by
 unfold Qd7;split
 . obtain ⟨_,oa,rfl⟩:=h;cases d with
   | true=>show OwnDeep (J.L k) w _ n [];exact ⟨[], .emp oa n,List.nodup_nil,(fun b hb=>by simp at hb), .inl rfl⟩
   | false=>exact .inl ⟨rfl,oa,rfl⟩
 exact h
theorem CA {J:Inj} {w:World} {d:Bool} {k n:Nat} (hk:J.L k= []):∀(i:Nat) {cs:List C} {vs:List Value},All2 (CR J w) vs cs->All2 (CR J w) vs (LD i d k n cs)
 | _, [],_,h=>by unfold LD;exact h
 | 0,c::r,_, .cons h1 h2=>by unfold LD;exact .cons (NR hk h1) h2
 | i+1,c::r,_, .cons h1 h2=>by unfold LD;exact .cons h1 (CA hk i h2)
theorem Qab {J:Inj} {w:World} {v:Value} {d:Bool} {k n:Nat} (hk:J.L k= []) (i:Nat) {x:AV} (h:AR J w v x):AR J w v (Qgu i d k n x):=by
 cases x with
 | one c=>exact NR hk h
 | agg cs=>obtain ⟨vs,e,h⟩:=h;exact ⟨vs,e,CA hk i h⟩
 | tup l=>exact h
def Qjk {α:Type} (t:Nat) (f:α->α):List (Nat×α)->List (Nat×α)
 | []=> []
 | (k,a)::r=>(k,if k=t then f a else a)::Qjk t f r
theorem Tv {α:Type} {t u:Nat} {f:α->α} {v:α}:∀{l:List (Nat×α)},get (Qjk t f l) u=some v->∃y,get l u=some y/\(v=f y\/v=y)
 | [],h=>by simp[Qjk,get] at h
 | (k,a)::r,h=>by
   simp only[Qjk,get] at h⊢;by_cases hk:k=u
   . simp only[hk,if_true] at h⊢;refine ⟨a,rfl, ?_⟩;by_cases hu:u=t
     . simp only[hu,if_true] at h;exact .inl (Option.some.inj h).symm
     simp only[hu,if_false] at h;exact .inr (Option.some.inj h).symm
   simp only[hk,if_false] at h⊢;exact Tv h
def St.open1 (s:St):Bool×Nat×Nat×Bool×Nat×Nat->St
 | (true,t,i,d,k,n)=>⟨(s.map (Uk (X9 [k]) none)).tm,Qjk t (LD i d k n) (s.map (Uk (X9 [k]) none)).bx⟩
 | (false,t,i,d,k,n)=>⟨Qjk t (Qgu i d k n) (s.map (Uk (X9 [k]) none)).tm,(s.map (Uk (X9 [k]) none)).bx⟩
theorem RB (o:Bool×Nat×Nat×Bool×Nat×Nat) (s:St):Weak s (s.open1 o):=fun N w0 F0 J a w hr=>by
 obtain ⟨b,t,i,d,k,n⟩:=o;obtain ⟨J',hk,h⟩:=HY [k] hr;have hk:=hk k List.mem_cons_self;refine ⟨J', ?_⟩;cases b with
 | true=>
   refine {h with bo:=fun x c hc=> ?_,bi:=fun x y c c' hc hc'=> ?_}
   . obtain ⟨y,hy,e⟩:=Tv hc;obtain ⟨h1,h2,h3,arr,ty,h4,h5⟩:=h.bo x y hy;refine ⟨h1,h2,h3,arr,ty,h4, ?_⟩;rcases e with rfl | rfl
     . exact CA hk i h5
     exact h5
   obtain ⟨_,hy,_⟩:=Tv hc;obtain ⟨_,hy',_⟩:=Tv hc';exact h.bi x y _ _ hy hy'
 | false=>
   refine {h with tm:=fun x v hv=> ?_};obtain ⟨y,hy,e⟩:=Tv hv;have h5:=h.tm x y hy;rcases e with rfl | rfl
   . exact Qab hk i h5
   exact h5
def St.opens (s:St):List (Bool×Nat×Nat×Bool×Nat×Nat)->St
 | []=>s
 | o::r=>(s.open1 o).opens r
theorem XS:∀(l:List (Bool×Nat×Nat×Bool×Nat×Nat)) (s:St),Weak s (s.opens l)
 | [],s=>Weak.refl s
 | o::r,s=>Weak.trans (RB o s) (XS r _)
theorem Qac {c:Code} (l:List (Bool×Nat×Nat×Bool×Nat×Nat)) (he:s.opens l=s') (h:AWP P N w0 F0 c Q s'):AWP P N w0 F0 c Q s:=P7 (he▸XS l s) h
def Qk9 (k:Nat):C->C
 | .slc (.own true x) n l=>bif Nat.beq x k then .slc (.own false x) n l else .slc (.own true x) n l
 | .ept true x n i o cs=>bif Nat.beq x k then .rptr (.vw x) cs else .ept true x n i o cs
 | c=>c
def Inj.dem (J:Inj) (k:Nat):Inj:=⟨fun b=>J.F b\/(b∈J.L k/\b∉(J.L k).take 1),fun x=>if x=k then (J.L k).take 1 else J.L x,J.B⟩
theorem Qad {J:Inj} {k:Nat} {t:Tok}:∀b,J.X t b->(J.dem k).X t b:=by
 intro b hb;cases t with
 | sh=>exact .inl hb
 | emp | own | put=>exact hb.elim
 | vw x =>
   rcases hb with hb | hb
   . by_cases hx:x=k
     . subst hx;by_cases hm:b∈(J.L x).take 1
       . exact .inl (by show b∈(if x=x then _ else _);rw[if_pos rfl];exact hm)
       exact .inr (.inr ⟨hb,hm⟩)
     exact .inl (by show b∈(if x=k then _ else _);rw[if_neg hx];exact hb)
   exact .inr (.inl hb)
theorem Qae {J:Inj} {w:World} {v:Value} {k:Nat} {c:C} (h:CR J w v c):CR (J.dem k) w v (Qk9 k c):=by
 have hF:∀b,J.F b->(J.dem k).F b/\w.heap[b]? =w.heap[b]? :=fun b hb=>⟨.inl hb,rfl⟩
 have hL:∀x,x≠k->(J.dem k).L x=J.L x:=fun x hx=>if_neg hx
 have hLk:(J.dem k).L k=(J.L k).take 1:=if_pos rfl;cases c with
 | int | bool | str | dead=>exact h
 | slc t n l=>
   cases t with
   | sh=>exact VV.keep hF h
   | emp=>exact h
   | put=>exact h.elim
   | vw x=>exact VV.keep (fun b hb=>⟨Qad (t:= .vw x) b hb,rfl⟩) h
   | own d x=>
     cases d with
     | false=>
       show OwnTop _ ((J.dem k).L x) w v n l;rcases h with h | ⟨g,cap,cur,e,e1,hv,hg,hs,hr,h1,h2⟩
       . exact .inl h
       refine .inr ⟨g,cap,cur,e, ?_,hv,hg,hs,hr.keep hF,h1,h2⟩;by_cases hx:x=k
       . subst hx;rw[hLk,e1];rfl
       rw[hL x hx];exact e1
     | true =>
       show CR (J.dem k) w v (bif Nat.beq x k then .slc (.own false x) n l else .slc (.own true x) n l);cases hb:Nat.beq x k with
       | false=>
         have hx:x≠k:=fun e=>by subst e;simp at hb
         show OwnDeep ((J.dem k).L x) w v n l;rw[hL x hx];exact h
       | true=>
         obtain rfl:=Nat.eq_of_beq_eq_true hb;show OwnTop _ ((J.dem x).L x) w v n l;rw[hLk];obtain ⟨L',h1,h2,h3,h4⟩:=h;generalize hp:PV.slc n l=p at h1;cases h1 with
         | int | bool | str | any=>cases hp
         | emp oa n'=>cases hp;exact .inl ⟨rfl,oa,rfl⟩
         | @slc g cap n' cur e L1 l' hg hs hr h5 h6=>
           cases hp
           rcases h4 with h4 | ⟨g',r1,r2,e1,e2⟩
           . cases h4
           cases e1
           obtain ⟨n1,_⟩:=List.nodup_cons.1 h2;refine .inr ⟨g,cap,cur,e,by rw[e2];rfl,rfl,hg,hs,hr.vr fun b hb=> .inr ⟨h3 b (List.mem_cons_of_mem _ hb),fun hm=> ?_⟩,h5,h6⟩;rw[e2] at hm;simp at hm;exact n1 (hm▸hb)
 | ptr=>exact h
 | fn=>exact h
 | fnr f caps=>
   obtain ⟨vs,rfl,ha⟩:=h;exact ⟨vs,rfl,ha.imp fun _ _ _ h=>h.keep hF⟩
 | rptr t cs=>exact Reads.keep h fun b hb=>⟨Qad b hb,rfl⟩
 | ept d x n i o cs=>
   obtain ⟨g,r,vs,h1,h2,h3,h4,h5⟩:=h;cases d with
   | false=>
     refine ⟨g,if x=k then [] else r,vs, ?_,h2,h3.keep hF,h4,h5⟩;by_cases hx:x=k
     . subst hx;rw[hLk,h1,if_pos rfl];rfl
     rw[hL x hx,if_neg hx];exact h1
   | true=>
     show CR (J.dem k) w v (bif Nat.beq x k then .rptr (.vw x) cs else .ept true x n i o cs);cases hb:Nat.beq x k with
     | false=>
       have hx:x≠k:=fun e=>by subst e;simp at hb
       exact ⟨g,r,vs,by rw[hL x hx];exact h1,h2,h3.keep fun b hb=>⟨Qad (t:= .vw x) b hb,rfl⟩,h4,h5⟩
     | true=>exact ⟨g,i*n+o,vs,h2,Qad (t:= .vw x) g (.inl (by rw[h1];exact List.mem_cons_self)),h3.keep fun b hb=>⟨Qad (t:= .vw x) b hb,rfl⟩,h4⟩
theorem LE (k:Nat) (s:St):Weak s (s.map (Qk9 k)):=fun N w0 F0 J a w h=>by
 have hsub:∀x b,b∈(J.dem k).L x->b∈J.L x:=fun x b hb=>by
  have hb:b∈(if x=k then (J.L k).take 1 else J.L x):=hb;split at hb
  . rename_i hx;subst hx;exact List.mem_of_mem_take hb
  exact hb
 refine ⟨J.dem k,{below:=h.below,nodef:=h.nodef,size:=h.size,fl:=fun b hb=> ?_,f0:=fun b hb=> .inl (h.f0 b hb),nd:=fun x=> ?_,lo:=fun x b hb=> ?_,dj:=fun x y b hx hy=>h.dj x y b (hsub x b hx) (hsub y b hy),nb:=h.nb,cb:=h.cb,bo:=fun x c hc=> ?_,bi:=fun x y c c' hc hc' hB=> ?_,tm:=fun t v hv=> ?_}⟩
 . rcases hb with hb | ⟨hb,_⟩
   . exact h.fl b hb
   exact ⟨(h.lo k b hb).2.1, .inr (h.lo k b hb).1⟩
 . show (if _ then _ else _:List Nat).Nodup;split
   . exact (List.take_sublist 1 _).nodup (h.nd k)
   exact h.nd x
 . obtain ⟨h1,h2,h3⟩:=h.lo x b (hsub x b hb);refine ⟨h1,h2,fun hF=> ?_⟩;rcases hF with hF | ⟨hm,hn⟩
   . exact h3 hF
   have hx:=h.dj x k b (hsub x b hb) hm;subst hx;exact hn (by have hb:b∈(if x=x then (J.L x).take 1 else J.L x):=hb;rw[if_pos rfl] at hb;exact hb)
 . simp only[St.map,Lq (List.map _)] at hc;obtain ⟨y,hy,rfl⟩:=Option.map_eq_some_iff.1 hc;obtain ⟨h1,h2,h3,arr,e,h4,h5⟩:=h.bo x y hy;refine ⟨h1,fun hF=> ?_,fun z hz=>h3 z (hsub z _ hz),arr,e,h4,h5.map _ fun a b _ hr=>Qae hr⟩;rcases hF with hF | ⟨hm,_⟩
   . exact h2 hF
   exact h3 k hm
 . simp only[St.map,Lq (List.map _)] at hc hc';obtain ⟨z,hz,rfl⟩:=Option.map_eq_some_iff.1 hc;obtain ⟨z',hz',rfl⟩:=Option.map_eq_some_iff.1 hc';exact h.bi x y z z' hz hz' hB
 simp only[St.map,Lq (AV.map _)] at hv;obtain ⟨y,hy,rfl⟩:=Option.map_eq_some_iff.1 hv;exact AR.map _ (h.tm t y hy) fun u c _ hc=>Qae hc
def St.demotes (s:St):List Nat->St
 | []=>s
 | k::r=>(s.map (Qk9 k)).demotes r
theorem Pd:∀(l:List Nat) (s:St),Weak s (s.demotes l)
 | [],s=>Weak.refl s
 | k::r,s=>Weak.trans (LE k s) (Pd r _)
end
end Go.Proofs.YtkekndahbiefaaaGreatDoor
namespace Go.Proofs.YtkekndahbiefaaaGreatDoor
open Go.RowKit
def ER:Nat->List AV->List (Nat×AV)
 | _, []=> []
 | i,v::r=>(i,v)::ER (i+1) r
def LF (args:List AV):St:=⟨ER 0 args, []⟩
def ES (tt:List (Nat×TI)) (s:St):List ResultVar->Option (List AV)
 | []=>some []
 | .tmp t::r=>match get s.tm t,ES tt s r with
   | some v,some vs=>some (v::vs)
   | _,_=>none
 | .cell a t::r=>match get s.tm a,get tt t,ES tt s r with
   | some (.one (.ptr k off)),some ti,some vs=>(match get s.bx k with
     | some cells=>(match PS ti ((cells.drop off).take ti.size) with
       | some v=>some (v::vs)
       | none=>none)
     | none=>none)
   | _,_,_=>none
def Qjw:AV->Option (Bool×List C)
 | .one c=>some (false, [c])
 | .agg cs=>some (true,cs)
 | .tup _=>none
def XT:List AV->Option (List (Bool×List C))
 | []=>some []
 | v::r=>match Qjw v,XT r with
   | some p,some ps=>some (p::ps)
   | _,_=>none
def Qgv:List AV->Option AV
 | [v]=>some v
 | vs=>(XT vs).map .tup
def Qjl (k:Nat):List Nat->Nat
 | []=>0
 | x::r=>bif Nat.beq x k then 0 else Qjl k r+1
def Qls (ks:List Nat):C->C
 | .slc (.own b k) n l=> .slc (.own b (Qjl k ks)) n l
 | c=>c
def Qjx:C->Bool
 | .int _ _=>true
 | .bool _=>true
 | .str _=>true
 | .slc .sh _ _=>true
 | .slc .emp _ _=>true
 | .slc (.own _ _) _ _=>true
 | _=>false
def KV (tt:List (Nat×TI)) (rs:List ResultVar) (s:St):Option AV:=
 match ES tt s rs with
 | some vs=>(match Qgv vs with
   | some v=>bif B4 Qjx v.cells&&I1 (Qw v.cells) then some (v.map (Qls (Qw v.cells))) else none
   | none=>none)
 | none=>none
def Qd8 (tt:List (Nat×TI)) (rs:List ResultVar) (r:AV):Exit->St->Prop
 | .normal,s=>∃frz,KV tt rs (s.map (Uk (X9 frz) none))=some r
 | .ret,s=>∃frz,KV tt rs (s.map (Uk (X9 frz) none))=some r
 | _,_=>False
theorem P8 {tt:List (Nat×TI)} {rs:List ResultVar} {r b:AV} {s:St} (frz:List Nat) (h:KV tt rs (s.map (Uk (X9 frz) none))=some b) (e:b=r):Qd8 tt rs r .ret s:=⟨frz,e▸h⟩
def HZ (tmps:Array Value):ResultVar->Sem Value
 | .tmp t=>pure (tmps.getD t undef)
 | .cell a t=>do loadVar t (←asAddr (tmps.getD a undef))
theorem AA (fn:Func) (tmps:Array Value):results fn tmps=(do
 let vs←fn.results.mapM (HZ tmps)
 pure (if h:vs.size=1 then vs[0] else .tuple vs)):=by
 unfold results
 congr 2
def Qd9 (J:Inj) (ks:List Nat) (i:Nat):List Nat:=match ks[i]? with
 | some k=>J.L k
 | none=> []
theorem JL {J:Inj} {ks:List Nat} {i b:Nat} (h:b∈Qd9 J ks i):∃k,ks[i]? =some k/\b∈J.L k:=by
 unfold Qd9 at h;split at h
 . rename_i k hk;exact ⟨k,hk,h⟩
 simp at h
section
variable {P:Program} {N:Nat} {w0:Base} {F0:Nat->Prop} {J:Inj} {a:Act} {w:World} {s:St}
theorem KW:∀{args:List AV} {i t:Nat} {v:AV},get (ER i args) t=some v->i<=t/\args[t-i]? =some v
 | [],i,t,v,h=>by simp[ER,get] at h
 | x::r,i,t,v,h=>by
   simp only[ER,get] at h;split at h
   . rename_i e;subst e;exact ⟨Nat.le_refl _,by simpa using h⟩
   rename_i hne;obtain ⟨h1,h2⟩:=KW h;refine ⟨by omega, ?_⟩;obtain ⟨j,hj⟩:∃j,t-i=j+1:=⟨t-i-1,by omega⟩;rw[hj,List.getElem?_cons_succ,show j=t-(i+1) by omega];exact h2
theorem JM {tt:List (Nat×TI)} (htt:Me P tt=true) (hrel:Rel N w0 F0 J a w s):∀{rs:List ResultVar} {vs:List AV},ES tt s rs=some vs->
 ∃us:List Value,(rs.mapM (HZ a.tmps)).run P w= .ok us w/\All2 (AR J w) us vs
 | [],vs,h=>by
   obtain rfl: []=vs:=by simpa [ES] using h
   exact ⟨[],by simp, .nil⟩
 | .tmp t::r,vs,h=>by
   simp only[ES] at h;split at h
   . rename_i v vs' e1 e2;obtain rfl:=Option.some.inj h;obtain ⟨us,h1,h2⟩:=JM htt hrel e2;exact ⟨a.tmps.getD t undef::us,by simp[List.mapM_cons,HZ,h1], .cons (hrel.tm t v e1) h2⟩
   cases h
 | .cell x t::r,vs,h=>by
   simp only[ES] at h;split at h
   . rename_i k off ti vs' e1 e2 e3;split at h
     . rename_i cells hk;split at h
       . rename_i v hval;obtain rfl:=Option.some.inj h;obtain ⟨us,h1,h2⟩:=JM htt hrel e3;have hx:a.tmps.getD x undef= .pointer (some ⟨J.B k,off,none⟩):=hrel.tm x _ e1;obtain ⟨_,_,_,arr,e,hheap,hall⟩:=hrel.bo k cells hk
         have hc:∀(j:Nat) (u:Value),((arr.toList.drop off).take ti.size)[j]? =some u->w.cell? ⟨J.B k,off+j,none⟩=some u:=by
          have:=Es (k:=ti.size) (Cu (w:=w) (vs:=arr.toList) (b:=J.B k) (off:=0) (k:=off) (fun j u hj=>by
           rw[Array.getElem?_toList] at hj;simp[World.cell?,hheap,hj]))
          simpa using this
         obtain ⟨u,hu,hr⟩:=JH (P:=P) (Zl htt e2) ((hall.drop off).take ti.size) hval hc;exact ⟨u::us,by simp[List.mapM_cons,HZ,hx,asAddr,hu,h1], .cons hr h2⟩
       cases h
     cases h
   cases h
theorem NS:∀{vs:List AV} {ps:List (Bool×List C)} {us:List Value},XT vs=some ps->All2 (AR J w) us vs->All2 (VA J w) us ps
 | [],ps,us,h,hu=>by
   obtain rfl: []=ps:=by simpa [XT] using h
   cases hu
   exact .nil
 | v :: r,ps,us,h,hu=>by
   simp only[XT] at h;split at h
   . rename_i p ps' e1 e2;obtain rfl:=Option.some.inj h;cases hu with
     | cons h1 h2=>
       refine .cons ?_ (NS e2 h2);cases v with
       | one c=>obtain rfl:=Option.some.inj e1;exact ⟨c,rfl,h1⟩
       | agg cs=>obtain rfl:=Option.some.inj e1;exact h1
       | tup l=>cases e1
   cases h
theorem CB:∀{ks:List Nat} {k:Nat},k∈ks->ks[Qjl k ks]? =some k
 | [],k,h=>by simp at h
 | x::r,k,h=>by
   simp only[Qjl];by_cases hx:x=k
   . subst hx;simp
   rw[HV hx];simp only[cond_false,List.getElem?_cons_succ];exact CB ((List.mem_cons.1 h).resolve_left fun e=>hx e.symm)
theorem NT {w':World} {tt:List (Nat×TI)} (htt:Me P tt=true) {fn:Func} {r:AV} (hrel:Rel N ⟨w,fun _=>False,none⟩ F0 J a w' s) (h:KV tt fn.results.toList s=some r):∃v,(results fn a.tmps).run P w'= .ok v w'/\Qhw F0 w r (.returned v) w':=by
 unfold KV at h;split at h
 . rename_i vs hvs;split at h
   . rename_i x hx;cases hc:(B4 Qjx x.cells&&I1 (Qw x.cells)) with
     | false=>rw[hc] at h;cases h
     | true =>
       rw[hc] at h;obtain rfl:=Option.some.inj h;simp only[Bool.and_eq_true] at hc;obtain ⟨hok,hnd⟩:=hc;have hnd:=Ng.1 hnd;obtain ⟨us,hrun,hall⟩:=JM (P:=P) htt hrel hvs
       have hres:∃v,(results fn a.tmps).run P w'= .ok v w'/\AR J w' v x:=by
        have hm:(fn.results.mapM (HZ a.tmps)).run P w'= .ok us.toArray w':=by
         rw[Array.mapM_eq_mapM_toList];simp[hrun]
        have hgen:(results fn a.tmps).run P w'= .ok (if h:us.toArray.size=1 then us.toArray[0] else .tuple us.toArray) w':=by
         rw[AA];simp only[Sem.run_bind,hm,Result.andThen_ok,Sem.run_pure]
        cases hall with
        | nil=>
          obtain rfl:AV.tup []=x:=by simpa [Qgv,XT] using hx
          exact ⟨.tuple #[],by rw[hgen];simp, [],rfl, .nil⟩
        | cons h1 h2=>
          cases h2 with
          | nil=>
            obtain rfl:=Option.some.inj hx;exact ⟨_,by rw[hgen];simp,h1⟩
          | cons h2 h3=>
            obtain ⟨ps,hps,rfl⟩:=Option.map_eq_some_iff.1 hx;exact ⟨_,by rw[hgen];simp,_,rfl,NS hps (.cons h1 (.cons h2 h3))⟩
       obtain ⟨v,hv,hvr⟩:=hres;refine ⟨v,hv,v,Qd9 J (Qw x.cells),rfl,hrel.below.below (fun _ h=>h),fun i=> ?_,fun i b hb=> ?_,fun i i' b hb hb'=> ?_, ?_⟩
       . unfold Qd9;split
         . exact hrel.nd _
         simp
       . obtain ⟨k,_,hm⟩:=JL hb;exact ⟨(hrel.lo k b hm).1.elim id False.elim,(hrel.lo k b hm).2.1⟩
       . obtain ⟨k,hk,hm⟩:=JL hb;obtain ⟨k',hk',hm'⟩:=JL hb';have:=hrel.dj k k' b hm hm';subst this;obtain ⟨l1,e1⟩:=List.getElem?_eq_some_iff.1 hk;obtain ⟨l2,e2⟩:=List.getElem?_eq_some_iff.1 hk';rcases Nat.lt_trichotomy i i' with hlt | he | hlt
         . exact absurd (e1.trans e2.symm) (List.pairwise_iff_getElem.1 hnd i i' l1 l2 hlt)
         . exact he
         exact absurd (e2.trans e1.symm) (List.pairwise_iff_getElem.1 hnd i' i l2 l1 hlt)
       refine AR.map _ hvr fun u c hcm hcr=> ?_
       have hF:∀b,J.F b->(F0 b\/(w.heap.size<=b/\b<w'.heap.size/\∀i,b∉Qd9 J (Qw x.cells) i)):=fun b hb=>by
        obtain ⟨h1,h2⟩:=hrel.fl b hb;refine h2.imp id fun h2=>⟨h2.elim id False.elim,h1,fun i hm=> ?_⟩
        obtain ⟨k,_,hm⟩:=JL hm;exact (hrel.lo k b hm).2.2 hb
       have hfo:=Bt hok c hcm;cases c with
       | int | bool | str=>exact hcr
       | slc t n l=>
         cases t with
         | emp=>exact hcr
         | sh=>exact VV.keep (fun b hb=>⟨hF b hb,rfl⟩) hcr
         | vw k=>cases hfo
         | put=>exact hcr.elim
         | own b k=>
           cases b with
           | false=>
             show OwnTop _ (Qd9 J (Qw x.cells) (Qjl k (Qw x.cells))) w' u _ _;unfold Qd9;rw[CB (Sl hcm rfl)];exact OwnTop.keep (F:=J.F) hcr (fun b hb=>⟨hF b hb,rfl⟩) fun _ _=>rfl
           | true=>
             show OwnDeep (Qd9 J (Qw x.cells) (Qjl k (Qw x.cells))) w' u _ _;unfold Qd9;rw[CB (Sl hcm rfl)];exact hcr
       | _=>cases hfo
   cases h
 cases h
theorem Qaf {tt:List (Nat×TI)} (htt:Me P tt=true) {f:Nat} {fn:Func} {c:Code} (hf:P.funcs[f]? =some fn) (hb:fn.body=some c) (hok:My P f) {args:List AV} {r:AV} (hn:args.length<=fn.ntmps)
 (h:∀w0 F0,GoodAt P w0->AWP P fn.ntmps w0 F0 c (Qd8 tt fn.results.toList r) (LF args)):ACalls P f args r:=by
 refine ⟨hok,fun w hg F vals hF hall=>calls_of_wp hf hb ?_⟩;have hlen:=hall.length;refine wp_mono (h ⟨w,fun _=>False,none⟩ F (.of hg) (JJ F) _ w ?_) ?_
 . refine {below:=Base.Keeps.refl _,nodef:=rfl,size:= ?_,fl:=fun b hb=>⟨hF b hb, .inl hb⟩,f0:=fun b hb=>hb,nd:=fun k=>by simp[JJ],lo:=fun k b hb=>by simp[JJ] at hb,dj:=fun k k' b hb=>by simp[JJ] at hb,bo:=fun k c hc=>by simp[LF,get] at hc,nb:= .inl rfl,cb:=(fun b hb=>by cases hb),bi:=fun k k' c c' hc=>by simp[LF,get] at hc,tm:=fun t v hv=> ?_}
   . simp;omega
   obtain ⟨_,ht⟩:=KW hv;obtain ⟨u,hu,hr⟩:=hall.get' ht;have hlt:t<vals.length:=(List.getElem?_eq_some_iff.1 hu).1
   have:(vals.toArray++Array.replicate (fn.ntmps-vals.toArray.size) undef).getD t undef=u:=by
    rw[Array.getD_eq_getD_getElem?,Array.getElem?_append_left (by simpa using hlt)];simp at hu⊢;rw[hu];rfl
   rw[this];exact hr
 rintro e a' w' ⟨J',s',hR,hq⟩
 cases e with
 | normal=>
   obtain ⟨frz,hq⟩:=hq;obtain ⟨J'',hR⟩:=N8 frz rfl _ _ _ _ _ _ hR;obtain ⟨v,h1,h2⟩:=NT (P:=P) htt (fn:=fn) hR hq;exact ⟨hR.nodef,v,h1,h2⟩
 | ret=>
   obtain ⟨frz,hq⟩:=hq;obtain ⟨J'',hR⟩:=N8 frz rfl _ _ _ _ _ _ hR;obtain ⟨v,h1,h2⟩:=NT (P:=P) htt (fn:=fn) hR hq;exact ⟨hR.nodef,v,h1,h2⟩
 | _=>exact hq.elim
end
end Go.Proofs.YtkekndahbiefaaaGreatDoor
namespace Go.Proofs.YtkekndahbiefaaaGreatDoor
open Go.RowKit
open GoD (rd own)
class GoE (α:Type) extends GoD α where
 enc:α->List PV
 enc_len:∀a,(enc a).length=GoD.n α
 no_any:∀{a:α} {p:PV},p∈enc a->p≠ .any
 n_pos:0<GoD.n α
 /-- no list in it is longer than what any append makes -/
 wide:α->Prop
 wide_size:∀{a:α},GoD.size a<=1073741824->wide a
 vc_wide:∀{X:Nat->Prop} {w:World} {cs:List Value} {a:α},VC X w cs (enc a)->wide a
 rd_vc:∀{w:World} {cs:List Value} {a:α},rd w cs a->wide a->VC (fun b=>b<w.heap.size) w cs (enc a)
 vc_rd:∀{X:Nat->Prop} {w:World} {cs:List Value} {a:α},VC X w cs (enc a)->rd w cs a
 own_oc:∀{L:List Nat} {w:World} {cs:List Value} {a:α},own L w cs a->wide a->OC w L cs (enc a)
 oc_own:∀{L:List Nat} {w:World} {cs:List Value} {a:α},OC w L cs (enc a)->L.Nodup->own L w cs a
open GoE (enc wide)
instance instGoEInt:GoE Int where
 enc a:= [.int .i64 a]
 no_any h:=by rw[List.mem_singleton.1 h];simp
 enc_len _:=rfl
 n_pos:=Nat.zero_lt_one
 wide _:=True
 wide_size _:=trivial
 vc_wide _:=trivial
 rd_vc h _:=by obtain ⟨rfl,h⟩:=h;exact .cons (.int ((O8 _).2 h)) .nil
 vc_rd h:=by
  cases h with
  | cons h1 h2=>cases h2;cases h1;exact ⟨rfl,(O8 _).1 ‹_›⟩
 own_oc h _:=by obtain ⟨rfl,rfl,h⟩:=h;exact OC.cons (L1:= []) (L2:= []) (.int ((O8 _).2 h)) .nil
 oc_own h _:=by
  cases h with
  | cons h1 h2=>cases h2;cases h1;exact ⟨rfl,rfl,(O8 _).1 ‹_›⟩
instance instGoEBool:GoE Bool where
 enc a:= [.bool a]
 no_any h:=by rw[List.mem_singleton.1 h];simp
 enc_len _:=rfl
 n_pos:=Nat.zero_lt_one
 wide _:=True
 wide_size _:=trivial
 vc_wide _:=trivial
 rd_vc h _:=by rw[show _=_ from h];exact .cons (.bool _) .nil
 vc_rd h:=by
  cases h with
  | cons h1 h2=>cases h2;cases h1;rfl
 own_oc h _:=by obtain ⟨rfl,rfl⟩:=h;exact OC.cons (L1:= []) (L2:= []) (.bool _) .nil
 oc_own h _:=by
  cases h with
  | cons h1 h2=>cases h2;cases h1;exact ⟨rfl,rfl⟩
instance instGoEStr:GoE ByteArray where
 enc a:= [.str a]
 no_any h:=by rw[List.mem_singleton.1 h];simp
 enc_len _:=rfl
 n_pos:=Nat.zero_lt_one
 wide _:=True
 wide_size _:=trivial
 vc_wide _:=trivial
 rd_vc h _:=by obtain ⟨rfl,h⟩:=h;exact .cons (.str h) .nil
 vc_rd h:=by
  cases h with
  | cons h1 h2=>cases h2;cases h1;exact ⟨rfl,‹_›⟩
 own_oc h _:=by obtain ⟨rfl,rfl,h⟩:=h;exact OC.cons (L1:= []) (L2:= []) (.str h) .nil
 oc_own h _:=by
  cases h with
  | cons h1 h2=>cases h2;cases h1;exact ⟨rfl,rfl,‹_›⟩
theorem VC.split {X:Nat->Prop} {w:World}:∀{ps ps':List PV} {vs:List Value},VC X w vs (ps++ps')->∃vs1 vs2,vs=vs1++vs2/\VC X w vs1 ps/\VC X w vs2 ps'
 | [],ps',vs,h=>⟨[],vs,rfl, .nil,h⟩
 | p ::ps,ps',vs,h=>by
   generalize hq:p::ps++ps'=q at h;cases h with
   | nil=>cases hq
   | cons h1 h2=>
     cases hq
     obtain ⟨vs1,vs2,rfl,h3,h4⟩:=VC.split h2;exact ⟨_,vs2,rfl, .cons h1 h3,h4⟩
instance instGoEProd {α β:Type} [GoE α] [GoE β]:GoE (α×β) where
 enc p:=enc p.1++enc p.2
 no_any h:=(List.mem_append.1 h).elim GoE.no_any GoE.no_any
 enc_len p:=by rw[List.length_append,GoE.enc_len,GoE.enc_len];rfl
 n_pos:=Nat.lt_of_lt_of_le (GoE.n_pos (α:=α)) (Nat.le_add_right _ _)
 wide p:=wide p.1/\wide p.2
 wide_size h:=⟨GoE.wide_size (Nat.le_trans (Nat.le_add_right _ _) h),GoE.wide_size (Nat.le_trans (Nat.le_add_left _ _) h)⟩
 vc_wide h:=by
  obtain ⟨c1,c2,rfl,h1,h2⟩:=VC.split h;exact ⟨GoE.vc_wide h1,GoE.vc_wide h2⟩
 rd_vc h hw:=by
  obtain ⟨c1,c2,rfl,h1,h2⟩:=h;exact VC.append (GoE.rd_vc h2 hw.2) (GoE.rd_vc h1 hw.1)
 vc_rd h:=by
  obtain ⟨c1,c2,rfl,h1,h2⟩:=VC.split h;exact ⟨c1,c2,rfl,GoE.vc_rd h1,GoE.vc_rd h2⟩
 own_oc h hw:=by
  obtain ⟨_,c1,c2,L1,L2,rfl,rfl,h1,h2⟩:=h;exact OC.append (GoE.own_oc h2 hw.2) (GoE.own_oc h1 hw.1)
 oc_own h hn:=by
  obtain ⟨L1,L2,c1,c2,rfl,rfl,h1,h2⟩:=OC.split h;obtain ⟨n1,n2,_⟩:=List.nodup_append.1 hn;exact ⟨hn,c1,c2,L1,L2,rfl,rfl,GoE.oc_own h1 n1,GoE.oc_own h2 n2⟩
def eL {α:Type} [GoE α] (l:List α):List (List PV):=l.map enc
section
variable {α:Type} [GoE α]
theorem CC (a:α) (l:List α):eL (a::l)=enc a::eL l:=rfl
theorem Qag (l m:List α):eL (l++m)=eL l++eL m:=by simp[eL]
theorem Zj (l:List α):(eL l).length=l.length:=by simp[eL]
theorem Qh6 (l:List α) (k:Nat):(eL l).take k=eL (l.take k):=by simp[eL]
theorem Qh7 (l:List α) (k:Nat):(eL l).drop k=eL (l.drop k):=by simp[eL]
theorem Qah {l:List α} {i:Nat} {a:α} (h:l[i]? =some a):(eL l)[i]? =some (enc a):=by simp[eL,h]
theorem Qai {w:World} {X:Nat->Prop} {b off:Nat}:∀(l:List α),(∀i a,l[i]? =some a->∃ce:List Value,ce.length=GoD.n α/\(∀j v,ce[j]? =some v->w.cell? ⟨b,off+i*GoD.n α+j,none⟩=some v)/\VC X w ce (enc a))->
 ∃cs,(∀(j:Nat) (u:Value),cs[j]? =some u->w.cell? ⟨b,off+j,none⟩=some u)/\VR X w (GoD.n α) cs (eL l)
 | [],_=>⟨[],by simp, .nil _⟩
 | a ::l,h=>by
   obtain ⟨ce,h1,h2,h3⟩:=h 0 a rfl
   obtain ⟨cs,h4,h5⟩:=Qai (b:=b) (off:=off+GoD.n α) l fun i x hx=>by
    obtain ⟨c,k1,k2,k3⟩:=h (i+1) x (by simpa using hx);refine ⟨c,k1,fun j v hj=> ?_,k3⟩;have:=k2 j v hj;rw[Nat.add_mul,Nat.one_mul] at this;rw[show off+GoD.n α+i*GoD.n α+j=off+(i*GoD.n α+GoD.n α)+j by omega];exact this
   refine ⟨ce++cs,fun j u hj=> ?_, .cons h3 (GoE.enc_len a) h5⟩;rcases Nat.lt_or_ge j ce.length with hlt | hge
   . rw[List.getElem?_append_left hlt] at hj;have:=h2 j u hj;simpa using this
   rw[List.getElem?_append_right hge] at hj;have:=h4 _ u hj;rw[show off+GoD.n α+(j-ce.length)=off+j by omega] at this;exact this
theorem NU {w:World}:∀(l:List α) (Ls:List (List Nat)) (cs:List Value),(∀a,a∈l->wide a)->Ls.length=l.length->cs.length=l.length*GoD.n α->(∀i Li a,Ls[i]? =some Li->l[i]? =some a->own Li w ((cs.drop (i*GoD.n α)).take (GoD.n α)) a)->OR w (GoD.n α) Ls.flatten cs (eL l)
 | [],Ls,cs,_,h1,h2,_=>by
   obtain rfl:Ls= []:=List.eq_nil_of_length_eq_zero h1;obtain rfl:cs= []:=List.eq_nil_of_length_eq_zero (by simpa using h2);exact .nil _
 | a::l, [],cs,_,h1,_,_=>by simp at h1
 | a ::l,Li::Ls,cs,hw,h1,h2,h=>by
   have h0:=h 0 Li a rfl rfl;rw[Nat.zero_mul,List.drop_zero] at h0
   have hr:=NU l Ls (cs.drop (GoD.n α)) (fun x hx=>hw x (List.mem_cons_of_mem _ hx)) (by simpa using h1) (by rw[List.length_drop,h2,List.length_cons,Nat.add_mul,Nat.one_mul];omega) fun i Lj x hi hx=>by
    have:=h (i+1) Lj x (by simpa using hi) (by simpa using hx);rw[Nat.add_mul,Nat.one_mul,Nat.add_comm,←List.drop_drop] at this;exact this
   rw[←List.take_append_drop (GoD.n α) cs];exact .cons (GoE.own_oc h0 (hw a List.mem_cons_self)) (GoE.enc_len a) hr
theorem NV {w:World}:∀(l:List α) (L:List Nat) (cs:List Value),OR w (GoD.n α) L cs (eL l)->L.Nodup->∃Ls:List (List Nat),L=Ls.flatten/\Ls.length=l.length/\∀i Li a,Ls[i]? =some Li->l[i]? =some a->own Li w ((cs.drop (i*GoD.n α)).take (GoD.n α)) a
 | [],L,cs,h,_=>by cases h;exact ⟨[],rfl,rfl,by simp⟩
 | a :: l,L,cs,h,hn=>by
   cases h with
   | @cons _ L1 L2 ce cs' _ _ h1 h2 h3=>
     obtain ⟨n1,n2,_⟩:=List.nodup_append.1 hn;obtain ⟨Ls,rfl,e2,e3⟩:=NV l L2 cs' h3 n2;have hce:ce.length=GoD.n α:=by rw[h1.length,GoE.enc_len]
     refine ⟨L1::Ls,rfl,by simp[e2],fun i Li x hi hx=> ?_⟩;cases i with
     | zero=>
       simp at hi hx;subst hi hx;rw[Nat.zero_mul,List.drop_zero,←hce,List.take_left];exact GoE.oc_own h1 n1
     | succ i=>
       have:=e3 i Li x (by simpa using hi) (by simpa using hx);rw[Nat.add_mul,Nat.one_mul,Nat.add_comm,←List.drop_drop,←hce,List.drop_left,hce];exact this
def Qea (l:List α):Prop:=l.length<=1073741824/\∀a,a∈l->wide a
theorem Qjy {w:World} {v:Value} {l:List α} (h:rdS w [v] l) (hw:Qea l):VV (fun b=>b<w.heap.size) w v (.slc (GoD.n α) (eL l)):=by
 obtain ⟨oa,cap,e,hl,hm,hel⟩:=h;obtain rfl:v=_:=by simpa using e
 cases hlc:l with
 | nil=>exact .emp oa _ hm
 | cons a l'=>
   obtain ⟨b,off,ce0,hoa,hc0,hcell,hrd0⟩:=hel 0 a (by rw[hlc];rfl);subst hoa
   obtain ⟨cs,h1,h2⟩:=Qai (X:=fun b=>b<w.heap.size) (w:=w) (b:=b) (off:=off) l fun i x hx=>by
    obtain ⟨b',off',ce,e',k1,k2,k3⟩:=hel i x hx;obtain ⟨rfl,rfl⟩:b=b'/\off=off':=by simpa using e'
    exact ⟨ce,k1,k2,GoE.rd_vc k3 (hw.2 x (List.mem_of_getElem? hx))⟩
   rw[←hlc,←Zj (l:=l)];refine .slc ?_ h1 h2 (by rw[Zj];exact hl) ⟨hm,by rw[Zj];exact hw.1⟩;have hnp:=GoE.n_pos (α:=α);have:=hcell 0 ce0[0] (List.getElem?_eq_getElem (by omega));exact World.block_lt_of_cell? _ _ this
theorem Qgw {X:Nat->Prop} {w:World} {v:Value} {l:List α} (h:VV X w v (.slc (GoD.n α) (eL l))):rdS w [v] l:=by
 generalize hp:PV.slc (GoD.n α) (eL l)=p at h;cases h with
 | int | bool | str | any=>cases hp
 | @emp oa cap n hcap=>
   simp only[PV.slc.injEq] at hp
   have:l= []:=by
    cases l with
    | nil=>rfl
    | cons a l=>simp[eL] at hp
   subst this;exact ⟨oa,cap,rfl,Nat.zero_le _,hcap,by simp⟩
 | @slc b off cap n cs l' hb hc hr h1 h2=>
   simp only[PV.slc.injEq] at hp;obtain ⟨rfl,rfl⟩:=hp;refine ⟨_,cap,by rw[Zj],by simpa [Zj] using h1,h2.1,fun i a hi=>⟨b,off,(cs.drop (i*GoD.n α)).take (GoD.n α),rfl, ?_, ?_, ?_⟩⟩
   . exact (hr.get (Qah hi)).1.length.trans (GoE.enc_len a)
   . exact Es (Cu hc)
   exact GoE.vc_rd (hr.get (Qah hi)).1
theorem Qaj {L:List Nat} {w:World} {v:Value} {l:List α} (h:Qjp L w [v] l) (hw:Qea l):OV w L v (.slc (GoD.n α) (eL l)):=by
 obtain ⟨hnd,⟨rfl,rfl,oa,e⟩ | ⟨g,cap,cur,e,Ls,hv,hg,hl,hm,hs,rfl,hLs,hel⟩⟩:=h
 . obtain rfl:v=_:=by simpa using e
   exact .emp oa _
 obtain rfl:v=_:=by simpa using hv
 rw[←Zj (l:=l)];refine .slc hg hs ?_ (by simpa [Zj] using hl) ⟨hm,by rw[Zj];exact hw.1⟩;have hroom:l.length*GoD.n α<=cur.size:=by rw[hs];exact Nat.mul_le_mul_right _ hl
 refine NU l Ls _ hw.2 hLs (by simp[Zj];omega) fun i Li a hi ha=> ?_
 have hlt:i<l.length:=(List.getElem?_eq_some_iff.1 ha).1;have:=hel i Li a hi ha
 rw[List.drop_take,List.take_take,Zj,Nat.min_eq_left (by
  have:=Nat.mul_le_mul_right (GoD.n α) (show i+1<=l.length by omega);rw[Nat.add_mul,Nat.one_mul] at this;omega)]
 exact this
theorem Qh8 {L:List Nat} {w:World} {v:Value} {l:List α} (h:OV w L v (.slc (GoD.n α) (eL l))) (hn:L.Nodup):Qjp L w [v] l:=by
 generalize hp:PV.slc (GoD.n α) (eL l)=p at h;cases h with
 | int | bool | str | any=>cases hp
 | emp oa n=>
   simp only[PV.slc.injEq] at hp
   have:l= []:=by
    cases l with
    | nil=>rfl
    | cons a l=>simp[eL] at hp
   subst this;exact ⟨by simp, .inl ⟨rfl,rfl,oa,rfl⟩⟩
 | @slc g cap n cur e L l' hg hs hr h1 h2=>
   simp only[PV.slc.injEq] at hp;obtain ⟨rfl,rfl⟩:=hp;obtain ⟨Ls,rfl,e2,e3⟩:=NV l L _ hr (List.nodup_cons.1 hn).2;refine ⟨hn, .inr ⟨g,cap,cur,e,Ls,by rw[Zj],hg,by simpa [Zj] using h1,h2.1,hs,rfl,e2,fun i Li a hi ha=> ?_⟩⟩;have hlt:i<l.length:=(List.getElem?_eq_some_iff.1 ha).1;have:=e3 i Li a hi ha
   rw[List.drop_take,List.take_take,Zj,Nat.min_eq_left (by
    have:=Nat.mul_le_mul_right (GoD.n α) (show i+1<=l.length by omega);rw[Nat.add_mul,Nat.one_mul] at this;omega)] at this
   exact this
theorem ET {X:Nat->Prop} {w:World}:∀{l:List α} {cs:List Value},VR X w (GoD.n α) cs (eL l)->∀a,a∈l->wide a
 | [],_,_,a,ha=>by simp at ha
 | x ::l,cs,h,a,ha=>by
   cases h with
   | cons h1 h2 h3=>
     rcases List.mem_cons.1 ha with rfl | ha
     . exact GoE.vc_wide h1
     exact ET h3 a ha
theorem Sp {X:Nat->Prop} {w:World} {v:Value} {l:List α} (h:VV X w v (.slc (GoD.n α) (eL l))):Qea l:=by
 generalize hp:PV.slc (GoD.n α) (eL l)=p at h;cases h with
 | int | bool | str | any=>cases hp
 | emp oa n hcap=>
   simp only[PV.slc.injEq] at hp
   have:l= []:=by
    cases l with
    | nil=>rfl
    | cons a l=>simp[eL] at hp
   subst this;exact ⟨Nat.zero_le _,by simp⟩
 | @slc b off cap n cs l' hb hc hr h1 h2=>
   simp only[PV.slc.injEq] at hp;obtain ⟨rfl,rfl⟩:=hp;exact ⟨by have:=h2.2;rwa [Zj] at this,ET hr⟩
end
theorem VC.one {X:Nat->Prop} {w:World} {v:Value} {p:PV} (h:VC X w [v] [p]):VV X w v p:=by cases h;assumption
theorem OC.one {w:World} {L:List Nat} {v:Value} {p:PV} (h:OC w L [v] [p]):OV w L v p:=by
 generalize hv: [v]=vs at h;generalize hp: [p]=ps at h;cases h with
 | nil=>cases hv
 | cons h1 h2=>
   cases hv
   cases hp
   cases h2
   rw[List.append_nil];exact h1
theorem VC.one' {X:Nat->Prop} {w:World} {vs:List Value} {p:PV} (h:VC X w vs [p]):∃v,vs= [v]/\VV X w v p:=by
 cases h with
 | cons h1 h2=>cases h2;exact ⟨_,rfl,h1⟩
theorem OC.one' {w:World} {L:List Nat} {vs:List Value} {p:PV} (h:OC w L vs [p]):∃v,vs= [v]/\OV w L v p:=by
 obtain ⟨v,e⟩:∃v,vs= [v]:=by
  have:=h.length
  match vs,this with
  | [v],_=>exact ⟨v,rfl⟩
 subst e;exact ⟨v,rfl,h.one⟩
instance instGoEList {α:Type} [GoE α]:GoE (List α) where
 enc l:= [.slc (GoD.n α) (eL l)]
 no_any h:=by rw[List.mem_singleton.1 h];simp
 enc_len _:=rfl
 n_pos:=Nat.zero_lt_one
 wide:=Qea
 wide_size h:=⟨Nat.le_trans (H6 _) h,fun a ha=>by
  obtain ⟨i,hi⟩:=List.mem_iff_getElem?.1 ha;exact GoE.wide_size (Nat.le_trans (Ux hi) h)⟩
 vc_wide hc:=by
  obtain ⟨v,rfl,h⟩:=VC.one' hc;exact Sp h
 rd_vc h hw:=by
  have h:rdS _ _ _:=h;obtain ⟨oa,cap,rfl,_⟩:=id h;exact .cons (Qjy h hw) .nil
 vc_rd hc:=by
  obtain ⟨v,rfl,h⟩:=VC.one' hc;exact Qgw h
 own_oc h hw:=by
  have h:Qjp _ _ _ _:=h;obtain ⟨oa,cap,rfl,_⟩:=NI h;have:=OC.cons (Qaj h hw) .nil;rw[List.append_nil] at this;exact this
 oc_own hc hn:=by
  obtain ⟨v,rfl,h⟩:=OC.one' hc;exact Qh8 h hn
def shC:PV->C:=UM .sh
def owC:Nat->List PV->List C
 | _, []=> []
 | k, .slc n l::r=> .slc (.own true k) n l::owC (k+1) r
 | k, .int a b::r=> .int a b::owC k r
 | k, .bool b::r=> .bool b::owC k r
 | k, .str b::r=> .str b::owC k r
 | k, .any::r=> .dead::owC k r
section
variable {X:Nat->Prop} {F:Nat->Prop} {w w':World} {L:Nat->List Nat}
theorem Qgx {J:Inj}:∀{vs:List Value} {ps:List PV},VC J.F w vs ps->All2 (CR J w) vs (ps.map shC)
 | _,_, .nil=> .nil
 | _,_, .cons h1 h2=> .cons (BS (J:=J) (tok:= .sh) (X:=J.F) (fun _ _ _ h=>h) h1) (Qgx h2)
theorem Qh9 {J:Inj}:∀{ps:List PV} {vs:List Value},All2 (CR J w) vs (ps.map shC)->(∀p,p∈ps->p≠ .any)->VC J.F w vs ps
 | [],vs,h,_=>by cases h;exact .nil
 | p ::ps,vs,h,hz=>by
   cases h with
   | cons h1 h2=>
     refine .cons ?_ (Qh9 h2 fun p hp=>hz p (List.mem_cons_of_mem _ hp));cases p with
     | int=>obtain ⟨rfl,h⟩:=h1;exact .int h
     | bool=>obtain rfl:=h1;exact .bool _
     | str=>obtain ⟨rfl,h⟩:=h1;exact .str h
     | slc n l=>exact h1
     | any=>exact (hz _ List.mem_cons_self rfl).elim
end
section
variable {α:Type} [GoE α] {P:Program}
def LG (a:α):AV:= .agg ((enc a).map shC)
def Qla (a:α):AV:= .agg (owC 0 (enc a))
def Qjm (l:List α):AV:= .one (.slc .sh (GoD.n α) (eL l))
def Qjn (l:List α):AV:= .one (.slc (.own true 0) (GoD.n α) (eL l))
def Qia (n:Int):AV:= .one (.int .i64 n)
def Qeb (b:Bool):AV:= .one (.bool b)
theorem Qak {w:World} {cs:List Value} {a:α} (h:rd w cs a) (hw:wide a):AR (JJ fun b=>b<w.heap.size) w (.agg cs.toArray) (LG a):=⟨cs,rfl,Qgx (J:=JJ fun b=>b<w.heap.size) (GoE.rd_vc h hw)⟩
theorem Qal {w:World} {F:Nat->Prop} {n:Int} (h:I64 n):AR (JJ F) w (.int .i64 n) (Qia n):=⟨rfl,(O8 n).2 h⟩
theorem ACalls.run {f:Nat} {args:List AV} {r:AV} (h:ACalls P f args r) {w:World} [hg:Good P w] {vals:List Value} (hv:All2 (AR (JJ fun b=>b<w.heap.size) w) vals args):Calls P f vals.toArray w (Qhw (fun b=>b<w.heap.size) w r):=
 h.2 w hg _ vals (fun _ h=>h) hv
theorem Qec {w:World} {F:Nat->Prop} {b:Bool} {e:Ending} {w':World} (h:Qhw F w (Qeb b) e w'):Ret w (.bool b) e w':=by
 obtain ⟨v,L,rfl,hb,_,_,_,rfl⟩:=h;exact ⟨rfl,hb⟩
end
end Go.Proofs.YtkekndahbiefaaaGreatDoor
namespace Go.Proofs.YtkekndahbiefaaaGreatDoor
open Go.RowKit
open GoE (enc)
section
variable {A:Nat->List AV->AV->Prop} {T:TakeT}
theorem Qib {P:Program} {w0:Base} [GoodAt P w0] {f:Nat} {args:List AV} {r:AV} (h:ACalls P f args r):(Ob.call f args r).holds (Zy P w0) T:=h.at
theorem Sq {P:Program} {w0:Base} [GoodAt P w0] {f n:Nat} {l:List (List PV)} {args:List AV} {mix turn:Bool} {l':List (List PV)} (h:ATake P f n l args mix turn l'):(Ob.take f n l args mix turn l').holds A (Ud P w0):=h.at
theorem Qlb {a b:AV} (h:a=b):(Ob.eq a b).holds A T:=h
theorem Tw {lo hi:Int} {n:Nat} (h:0<=lo/\lo<=hi/\hi<=n):(Ob.rng lo hi n).holds A T:=h
theorem Tx {i:Int} {n:Nat} (h:0<=i/\i<n):(Ob.idx i n).holds A T:=h
theorem Dg {l:List (List PV)} (h:Gy l):(Ob.flat l).holds A T:=h
theorem Ff {n:Nat} (h:n<=1073741824):(Ob.len n).holds A T:=h
theorem Pe {n:Nat} (h:n<=maxLen):(Ob.slen n).holds A T:=h
end
theorem Ql (k:Nat) (h:k<9223372036854775807):IntKind.i64.wrap ((k:Int)+1)=((k+1:Nat):Int):=by
 rw[IntWalk.i64_in _ (by omega)];rfl
theorem Xh {α:Type} {l:List α} {i:Nat} (h:i<l.length):∃x,l[i]? =some x:=⟨l[i],List.getElem?_eq_getElem h⟩
class FlatE (α:Type) [GoE α]:Prop where
 flat:∀a:α,∀p,p∈enc a->p.flat
instance:FlatE Int:=⟨fun a p hp=>by obtain rfl:=List.mem_singleton.1 hp;trivial⟩
instance:FlatE Bool:=⟨fun a p hp=>by obtain rfl:=List.mem_singleton.1 hp;trivial⟩
instance:FlatE ByteArray:=⟨fun a p hp=>by obtain rfl:=List.mem_singleton.1 hp;trivial⟩
instance {α β:Type} [GoE α] [GoE β] [FlatE α] [FlatE β]:FlatE (α×β):=⟨fun a p hp=>(List.mem_append.1 hp).elim (FlatE.flat a.1 p) (FlatE.flat a.2 p)⟩
theorem Ca {α:Type} [GoE α] [FlatE α] (l:List α):Gy (eL l):=fun r hr p hp=>by
 obtain ⟨a,_,rfl⟩:=List.mem_map.1 hr;exact FlatE.flat a p hp
theorem Qgy {α:Type} [GoD α] {l:List α} {i:Nat} {a:α} {N:Nat} (h:l[i]? =some a) (hs:GoD.size l<=N):GoD.size a<=N:=Nat.le_trans (Ux h) hs
theorem Qjz {α β:Type} [GoD α] [GoD β] {p:α×β} {N:Nat} (hs:GoD.size p<=N):GoD.size p.1<=N:=Nat.le_trans (Nat.le_add_right _ _) hs
theorem Qj0 {α β:Type} [GoD α] [GoD β] {p:α×β} {N:Nat} (hs:GoD.size p<=N):GoD.size p.2<=N:=Nat.le_trans (Nat.le_add_left _ _) hs
section
variable {P:Program} {α β:Type} [GoE α] [GoE β]
theorem Lu {f:Nat} (hok:My P f) {l:List α} {r:List β} (h:∀w v,GoD.rd w [v] l->GoE.wide l->Calls P f #[v] w (RetS w r)) (hw:GoE.wide l->GoE.wide r):ACalls P f [Qjm l] (Qjn r):=by
 refine ⟨hok,fun w _ F vals hF hall=> ?_⟩;cases hall with
 | cons h1 h2=>
   cases h2
   refine (h w _ (Qgw h1) (Sp h1)).mono ?_
   rintro e w' ⟨v,L,rfl,hb,ho,hL⟩
   have hlt:=GoD.own_lt ho
   have hmem:∀k b,b∈(if k=0 then L else [])->k=0/\b∈L:=fun k b hm=>by
    by_cases hk:k=0
    . rw[if_pos hk] at hm;exact ⟨hk,hm⟩
    rw[if_neg hk] at hm;simp at hm
   refine ⟨v,fun k=>if k=0 then L else [],rfl,hb,fun k=> ?_,fun k b hm=>⟨hL b (hmem k b hm).2,hlt b (hmem k b hm).2⟩,fun k k' b hm hm'=>(hmem k b hm).1.trans (hmem k' b hm').1.symm,OwnDeep.of (Qaj ho (hw (Sp h1))) (GoD.own_nd ho)⟩;by_cases hk:k=0
   . simp only[if_pos hk];exact GoD.own_nd ho
   simp only[if_neg hk];exact List.nodup_nil
end
theorem Ge {P:Program} {N:Nat} {w0:Base} {F0:Nat->Prop} {Q:Exit->St->Prop} {s s':St} {c:Code} (l:List Nat) (he:s.demotes l=s') (h:AWP P N w0 F0 c Q s'):AWP P N w0 F0 c Q s:=P7 (he▸Pd l s) h
theorem Kh {α:Type} [GoE α] {o:Nat} {ps:List PV} {y:α}:∀{l:List α} {i:Nat} {x:α},l[i]? =some x->(GoE.enc x).take o++ps++(GoE.enc x).drop (o+ps.length)=GoE.enc y->setRow (eL l) i o ps=eL (l.set i y)
 | [],i,x,h,_=>by simp at h
 | a::l,0,x,h,e=>by
   obtain rfl:a=x:=by simpa using h
   show ((GoE.enc a).take o++ps++(GoE.enc a).drop (o+ps.length))::eL l=_;rw[e];rfl
 | a::l,i+1,x,h,e=>by
   show GoE.enc a::setRow (eL l) i o ps=_;rw[Kh (l:=l) (i:=i) (x:=x) (by simpa using h) e];rfl
end Go.Proofs.YtkekndahbiefaaaGreatDoor
namespace Go.Proofs.YtkekndahbiefaaaGreatDoor
open Go.RowKit
def Ni:List Operand->List Nat
 | []=> []
 | .tmp t::r=>t::Ni r
 | _::r=>Ni r
def UO (ops:List Oper) (o:Oper):List Nat:=
 Ni o.op.operands.toList++(match o.guard with
  | some (j,_)=>(match ops[j]? with
    | some oj=>(match oj.dst with
      | some t=> [t]
      | none=> [])
    | none=> [])
  | none=> [])
def Ut:List (Nat×Option Tok)->List Nat
 | []=> []
 | p::r=>p.1::Ut r
def IN:List (Nat×Option Tok)->List Tok
 | []=> []
 | (_,some t)::r=>t::IN r
 | _::r=>IN r
def CE:Tok->Tok->Bool
 | .sh, .sh=>true
 | .emp, .emp=>true
 | .own d k, .own d' k'=>(match d,d' with
   | true,true=>true
   | false,false=>true
   | _,_=>false)&&Nat.beq k k'
 | .vw k, .vw k'=>Nat.beq k k'
 | _,_=>false
def ZB:Tok->Bool
 | .put _ _ _ _ _=>false
 | _=>true
def O4:List (Nat×Option Tok)->Bool
 | []=>true
 | (_,some t)::r=>ZB t&&O4 r
 | (_,none)::r=>O4 r
def KX (t:Tok):List Tok->Bool
 | []=>false
 | x::r=>CE x t|| KX t r
def RC (r:Res) (c:C):Bool:=
 (match c.key with
  | some k=> !(O9 k (Ut r.rl))
  | none=>true)&&(match r.kb with
  | some b=> !(O9 b c.bkeys)
  | none=>true)
def Qic (r:Res) (c:C):Bool:=
 O4 r.rl&&match c with
 | .dead=>false
 | .slc t _ _=> !(KX t (IN r.rl))
 | .rptr t _=> !(KX t (IN r.rl))
 | _=>true
def Qgz (r:Res):Bool:=match r.rl,r.kb with
 | [],none=>true
 | _,_=>false
def Qdk (r:Res) (c:C):Bool:=Qgz r|| Qic r c
def Mz:List (Nat×List C)->List C
 | []=> []
 | p::r=>p.2++Mz r
def Pf:List Tok->List Nat
 | []=> []
 | t::r=>(match t.key with
   | some k=> [k]
   | none=> [])++Pf r
def RD (a b:Option Nat):Bool:=match a,b with
 | some x,some y=> !(Nat.beq x y)
 | _,_=>true
def Gz (a:Option Nat) (l:List Nat):Bool:=match a with
 | some x=> !(O9 x l)
 | none=>true
def Ty (r:Res):Option Nat:=match r.bx with
 | some p=>some p.1
 | none=>none
def CF (r:Res):List C:=match r.bx with
 | some p=>p.2
 | none=> []
def Qam (ops:List Oper) (oa:Oper) (ra:Rec) (ob:Oper) (rb:Rec):Bool:=
 RD oa.dst ob.dst&&Gz oa.dst (UO ops ob)&&Gz ob.dst (UO ops oa)&&
 B4 (Qdk ra.res) (Yl rb.avs)&&B4 (Qdk ra.res) (Mz rb.bn)&&B4 (RC rb.res) (Yl ra.avs)&&B4 (RC rb.res) (Mz ra.bn)&&
 B4 (RC ra.res) rb.res.av.cells&&B4 (RC ra.res) (CF rb.res)&&B4 (RC rb.res) ra.res.av.cells&&B4 (RC rb.res) (CF ra.res)&&
 N3 (Ut ra.res.rl) (Ut rb.res.rl++Pf (IN rb.res.rl))&&N3 (Ut rb.res.rl) (Pf (IN ra.res.rl))&&
 RD (Ty ra.res) (Ty rb.res)&&Gz (Ty ra.res) (Pc (Yl rb.avs))&&Gz (Ty rb.res) (Pc (Yl ra.avs))&&O4 ra.res.rl&&O4 rb.res.rl
section
theorem AV.map_map (f g:C->C) (v:AV):(v.map f).map g=v.map (g ∘ f):=by
 cases v<;>simp[AV.map,Function.comp_def]
theorem AV.map_id' {f:C->C} {v:AV} (h:∀c,c∈v.cells->f c=c):v.map f=v:=by
 cases v with
 | one c=>simp[AV.map,h c (by simp[AV.cells])]
 | agg cs=>
   simp only[AV.map]
   congr 1
   exact (List.map_congr_left fun c hc=>h c hc).trans (List.map_id' cs)
 | tup l=>
   simp only[AV.map]
   congr 1
   refine (List.map_congr_left fun p hp=> ?_).trans (List.map_id' l);obtain ⟨a,cs⟩:=p;have:cs.map f=cs:=(List.map_congr_left fun c hc=>h c (by simp only[AV.cells,List.mem_flatMap];exact ⟨_,hp,hc⟩)).trans (List.map_id' cs);simp[this]
theorem AV.map_inj' {f:C->C} {v u:AV} (h:v.map f=u) (hn:∀c0 c,f c0=c->c∈u.cells->c0=c):v=u:=by
 have key:∀(l m:List C),l.map f=m->(∀c,c∈m->c∈u.cells)->l=m:=by
  intro l
  induction l with
  | nil=>intro m h _;exact h
  | cons c l ih=>
    intro m h hm;cases m with
    | nil=>cases h
    | cons d m=>
      simp only[List.map_cons,List.cons.injEq] at h;rw[hn c d h.1 (hm d (by simp)),ih m h.2 fun c hc=>hm c (by simp[hc])]
 cases v with
 | one c=>
   simp only[AV.map] at h;subst h;exact congrArg AV.one (hn c _ rfl (by simp[AV.cells]))
 | agg cs=>
   simp only[AV.map] at h;subst h;exact congrArg AV.agg (key cs _ rfl fun c hc=>hc)
 | tup l=>
   simp only[AV.map] at h;subst h
   congr 1
   have :∀(ps:List (Bool×List C)),(∀p,p∈ps->p∈l)->ps=ps.map fun p=>(p.1,p.2.map f):=by
    intro ps
    induction ps with
    | nil=>intro _;rfl
    | cons p ps ih=>
      intro hp;obtain ⟨a,cs⟩:=p;simp only[List.map_cons];rw[←ih fun p hq=>hp p (by simp[hq])]
      congr 2
      exact key cs _ rfl fun c hc=>by
       simp only[AV.cells,List.mem_flatMap,List.mem_map];exact ⟨(a,cs.map f),⟨(a,cs),hp _ (by simp),rfl⟩,hc⟩
   exact this l fun p hp=>hp
theorem Et {rl:List (Nat×Option Tok)} {k:Nat}:k∉Ut rl->get rl k=none:=by
 induction rl with
 | nil=>intro _;rfl
 | cons p r ih=>
   intro h;simp only[Ut,List.mem_cons,not_or] at h;obtain ⟨a,b⟩:=p;simp only[get];rw[if_neg fun e=>h.1 e.symm];exact ih h.2
theorem JN {rl:List (Nat×Option Tok)} {k:Nat} {t:Tok}:get rl k=some (some t)->t∈IN rl/\k∈Ut rl:=by
 induction rl with
 | nil=>intro h;cases h
 | cons p r ih=>
   intro h;obtain ⟨a,b⟩:=p;simp only[get] at h;split at h
   . rename_i e;obtain rfl:=Option.some.inj h;exact ⟨by simp[IN],by simp[Ut,e]⟩
   obtain ⟨h1,h2⟩:=ih h;refine ⟨?_,by simp[Ut,h2]⟩;cases b<;>simp[IN,h1]
theorem EU (t:Tok) (ht:ZB t=true):CE t t=true:=by
 cases t with
 | own d k=>cases d<;>simp[CE]
 | put=>cases ht
 | _=>simp[CE]
theorem XU {t:Tok} (ht:ZB t=true):∀{l:List Tok},t∈l->KX t l=true
 | x::r,h=>by
   rcases List.mem_cons.1 h with rfl | h
   . simp[KX,EU t ht]
   simp[KX,XU ht h]
theorem Pg {rl:List (Nat×Option Tok)} {k:Nat} {t:Tok} (hp:O4 rl=true):get rl k=some (some t)->ZB t=true:=by
 induction rl with
 | nil=>intro h;cases h
 | cons p r ih=>
   intro h;obtain ⟨a,b⟩:=p
   have hr:O4 r=true/\(∀t,b=some t->ZB t=true):=by
    cases b with
    | none=>exact ⟨hp,fun t e=>by cases e⟩
    | some t=>simp only[O4,Bool.and_eq_true] at hp;exact ⟨hp.2,fun t' e=>by cases e;exact hp.1⟩
   simp only[get] at h;split at h
   . exact hr.2 t (Option.some.inj h)
   exact ih hr.1 h
theorem KY (t:Tok) (n:Nat) (l:List (List PV)):KA t n l t= .slc t n l:=by cases t<;>rfl
theorem AB (t:Tok) (cs:List PV):IP t cs t= .rptr t cs:=by cases t<;>rfl
theorem RE {t':Tok} (h:ZB t'=true) (t:Tok) (n:Nat) (l:List (List PV)):KA t n l t'= .slc t' n l:=by cases t'<;>first | rfl | cases h
theorem Qan {t':Tok} (h:ZB t'=true) (t:Tok) (cs:List PV):IP t cs t'= .rptr t' cs:=by cases t'<;>first | rfl | cases h
theorem AC {rl:List (Nat×Option Tok)} (hp:O4 rl=true) {t t':Tok} (h:I3 rl t=some t'):t'=t\/ZB t'=true:=by
 unfold I3 at h;split at h
 . exact .inl (Option.some.inj h).symm
 split at h
 . exact .inl (Option.some.inj h).symm
 rename_i x hg;subst h;exact .inr (Pg hp hg)
theorem XV {rl:List (Nat×Option Tok)} (hp:O4 rl=true) {t t':Tok} (h:I3 rl t=some t') (n:Nat) (l:List (List PV)):KA t n l t'= .slc t' n l:=by
 rcases AC hp h with rfl | h
 . exact KY _ n l
 exact RE h t n l
theorem KZ {rl:List (Nat×Option Tok)} (hp:O4 rl=true) {t t':Tok} (h:I3 rl t=some t') (cs:List PV):IP t cs t'= .rptr t' cs:=by
 rcases AC hp h with rfl | h
 . exact AB _ cs
 exact Qan h t cs
theorem XW {t:Tok} {k:Nat} (hk:t.key=some k):∀{l:List Tok},t∈l->k∈Pf l
 | x::r,h=>by
   simp only[Pf];rcases List.mem_cons.1 h with rfl | h
   . exact List.mem_append_left _ (by rw[hk];simp)
   exact List.mem_append_right _ (XW hk h)
theorem Eu {k:Nat} {l:List Nat} (h:O9 k l=false):k∉l:=fun hm=>by rw[Cv.2 hm] at h;cases h
theorem AD {b:Nat}:∀{caps:List (Nat×Nat)},b∉caps.map (·.1)->Nd b caps=false
 | [],_=>rfl
 | c::r,h=>by
   simp only[List.map_cons,List.mem_cons,not_or] at h;simp only[Nd,Bool.or_eq_false_iff];exact ⟨HV fun e=>h.1 e.symm,AD h.2⟩
theorem Qao {r:Res} {c:C} (h:RC r c=true):Uk r.rl r.kb c=c:=by
 simp only[RC,Bool.and_eq_true] at h;obtain ⟨h1,h2⟩:=h
 have hT:∀t:Tok,(match t.key with | some k=> !(O9 k (Ut r.rl)) | none=>true)=true->I3 r.rl t=some t:=by
  intro t ht;unfold I3;cases hk:t.key with
  | none=>rfl
  | some k=>
    rw[hk] at ht;simp only[Bool.not_eq_true'] at ht;simp only[Et (Eu ht)]
 cases c with
 | slc t n l=>simp only[Uk,hT t h1,KY]
 | rptr t cs=>simp only[Uk,hT t h1,AB]
 | ept d k n i o cs=>
   have hk:get r.rl k=none:=Et (Eu (by simpa [C.key] using h1));simp only[Uk,hk]
 | ptr k off=>
   cases hb:r.kb with
   | none=>rfl
   | some b=>
     rw[hb] at h2;simp only[Bool.not_eq_true',C.bkeys] at h2;have:=Eu h2;simp only[Uk,HV (a:=k) (b:=b) fun e=>this (by simp[e]),cond_false]
 | fn f caps=>
   cases hb:r.kb with
   | none=>rfl
   | some b=>
     rw[hb] at h2;simp only[Bool.not_eq_true',C.bkeys] at h2;simp only[Uk,AD (Eu h2),cond_false]
 | _=>rfl
theorem Qed {r:Res} {c0 c:C} (h:Uk r.rl r.kb c0=c) (hn:Qic r c=true):c0=c:=by
 simp only[Qic,Bool.and_eq_true] at hn;obtain ⟨hp,hn⟩:=hn
 have hT:∀t t':Tok,I3 r.rl t=some t'->KX t' (IN r.rl)=false->t=t':=by
  intro t t' ht hm;unfold I3 at ht;cases hk:t.key with
  | none=>rw[hk] at ht;exact Option.some.inj ht
  | some k=>
    rw[hk] at ht;simp only[] at ht;cases hg:get r.rl k with
    | none=>rw[hg] at ht;exact Option.some.inj ht
    | some x=>
      rw[hg] at ht;simp only[] at ht;subst ht;rw[XU (Pg hp hg) (JN hg).1] at hm;cases hm
 cases c0 with
 | slc t n l=>
   simp only[Uk] at h;split at h
   . rename_i t' ht;rw[XV hp ht] at h;subst h;simp only[Bool.not_eq_true'] at hn;rw[hT t t' ht hn]
   subst h;cases hn
 | rptr t cs=>
   simp only[Uk] at h;split at h
   . rename_i t' ht;rw[KZ hp ht] at h;subst h;simp only[Bool.not_eq_true'] at hn;rw[hT t t' ht hn]
   subst h;cases hn
 | ept d k n i o cs=>
   simp only[Uk] at h;split at h
   . exact h
   . rename_i t' hg;have hm:=XU (Pg hp hg) (JN hg).1;split at h
     . subst h;simp[hm] at hn
     . subst h;simp[hm] at hn
     . cases Pg hp hg
     subst h;cases hn
   subst h;cases hn
 | ptr k off=>
   simp only[Uk] at h;split at h
   . exact h
   rename_i b hb;cases hkb:Nat.beq k b with
   | true=>rw[hkb] at h;subst h;cases hn
   | false=>rw[hkb] at h;exact h
 | fn f caps=>
   simp only[Uk] at h;split at h
   . exact h
   rename_i b hb;cases hkb:Nd b caps with
   | true=>rw[hkb] at h;subst h;cases hn
   | false=>rw[hkb] at h;exact h
 | _=>exact h
theorem XX:Uk [] none=id:=by
 funext c
 cases c with
 | slc t n l=>cases t<;>rfl
 | rptr t cs=>cases t<;>rfl
 | _=>rfl
theorem Qap {r:Res} {c0 c:C} (h:Uk r.rl r.kb c0=c) (hn:Qdk r c=true):c0=c:=by
 simp only[Qdk,Bool.or_eq_true] at hn;rcases hn with hq | hn
 . have e:Uk r.rl r.kb=id:=by
    unfold Qgz at hq;split at hq
    . rename_i e1 e2;rw[e1,e2,XX]
    cases hq
   rw[e] at h;exact h
 exact Qed h hn
theorem Qaq {ra rb:Res} (h1:N3 (Ut ra.rl) (Ut rb.rl++Pf (IN rb.rl))=true) (h2:N3 (Ut rb.rl) (Pf (IN ra.rl))=true) (p1:O4 ra.rl=true) (p2:O4 rb.rl=true) (c:C):Uk rb.rl rb.kb (Uk ra.rl ra.kb c)=Uk ra.rl ra.kb (Uk rb.rl rb.kb c):=by
 have hT :∀t:Tok,(I3 ra.rl t).bind (I3 rb.rl)=(I3 rb.rl t).bind (I3 ra.rl):=by
  have gen:∀(r r':Res),N3 (Ut r.rl) (Ut r'.rl)=true->N3 (Ut r'.rl) (Pf (IN r.rl))=true->∀(t:Tok) (k:Nat) (x:Option Tok),t.key=some k->get r.rl k=some x->(I3 r.rl t).bind (I3 r'.rl)=(I3 r'.rl t).bind (I3 r.rl):=by
   intro r r' d1 d2 t k x hk hx;have hka:k∈Ut r.rl:=Classical.byContradiction fun hn=>by rw[Et hn] at hx;cases hx
   have hkb:get r'.rl k=none:=Et (Fe d1 k hka);have e1:I3 r.rl t=x:=by unfold I3;rw[hk];simp only[hx]
   have e2:I3 r'.rl t=some t:=by unfold I3;rw[hk];simp only[hkb]
   rw[e1,e2];simp only[Option.bind_some,e1];cases x with
   | none=>rfl
   | some t'=>
     simp only[Option.bind_some];unfold I3;cases hk':t'.key with
     | none=>rfl
     | some k'=>
       have hm:=XW hk' (JN hx).1;have hn:k'∉Ut r'.rl:=fun h=>Fe d2 k' h hm
       simp only[Et hn]
  have d11:N3 (Ut ra.rl) (Ut rb.rl)=true:=by
   revert h1;generalize Ut ra.rl=l
   induction l with
   | nil=>intro _;rfl
   | cons x l ih=>
     intro h;simp only[N3,Bool.and_eq_true,Bool.not_eq_true'] at h⊢;refine ⟨?_,ih h.2⟩;cases hm:O9 x (Ut rb.rl) with
     | false=>rfl
     | true=>exact absurd (List.mem_append_left _ (Cv.1 hm)) (Eu h.1)
  have d12:N3 (Ut ra.rl) (Pf (IN rb.rl))=true:=by
   revert h1;generalize Ut ra.rl=l
   induction l with
   | nil=>intro _;rfl
   | cons x l ih=>
     intro h;simp only[N3,Bool.and_eq_true,Bool.not_eq_true'] at h⊢;refine ⟨?_,ih h.2⟩;cases hm:O9 x (Pf (IN rb.rl)) with
     | false=>rfl
     | true=>exact absurd (List.mem_append_right _ (Cv.1 hm)) (Eu h.1)
  have d21:N3 (Ut rb.rl) (Ut ra.rl)=true:=by
   have hx:∀x,x∈Ut rb.rl->x∉Ut ra.rl:=fun x hb ha=>Fe d11 x ha hb
   revert hx;generalize Ut rb.rl=l
   induction l with
   | nil=>intro _;rfl
   | cons x l ih=>
     intro hx;simp only[N3,Bool.and_eq_true,Bool.not_eq_true'];refine ⟨?_,ih fun y hy=>hx y (by simp[hy])⟩;cases hm:O9 x (Ut ra.rl) with
     | false=>rfl
     | true=>exact absurd (Cv.1 hm) (hx x (by simp))
  intro t;cases hk:t.key with
  | none=>
    have e1:I3 ra.rl t=some t:=by unfold I3;rw[hk]
    have e2:I3 rb.rl t=some t:=by unfold I3;rw[hk]
    rw[e1,e2];simp[e1,e2]
  | some k=>
    cases ha:get ra.rl k with
    | some x=>exact gen ra rb d11 h2 t k x hk ha
    | none=>
      cases hb:get rb.rl k with
      | some x=>exact (gen rb ra d21 d12 t k x hk hb).symm
      | none=>
        have e1:I3 ra.rl t=some t:=by unfold I3;rw[hk];simp only[ha]
        have e2:I3 rb.rl t=some t:=by unfold I3;rw[hk];simp only[hb]
        rw[e1,e2];simp[e1,e2]
 have hs:∀(x y:List (Nat×Option Tok)),O4 x=true->O4 y=true->∀(kx ky:Option Nat) (t:Tok) (n:Nat) (l:List (List PV)),Uk y ky (Uk x kx (.slc t n l))=(match (I3 x t).bind (I3 y) with | some t'=> .slc t' n l | none=> .dead):=by
  intro x y px py kx ky t n l;simp only[Uk];cases hx:I3 x t with
  | none=>rfl
  | some t'=>
    simp only[XV px hx,Option.bind_some];cases hy:I3 y t' with
    | none=>simp only[hy]
    | some t2=>simp only[hy,XV py hy]
 have hp:∀(x y:List (Nat×Option Tok)),O4 x=true->O4 y=true->∀(kx ky:Option Nat) (t:Tok) (cs:List PV),Uk y ky (Uk x kx (.rptr t cs))=(match (I3 x t).bind (I3 y) with | some t'=> .rptr t' cs | none=> .dead):=by
  intro x y px py kx ky t cs;simp only[Uk];cases hx:I3 x t with
  | none=>rfl
  | some t'=>
    simp only[KZ px hx,Option.bind_some];cases hy:I3 y t' with
    | none=>simp only[hy]
    | some t2=>simp only[hy,KZ py hy]
 have he :∀(r r':Res),O4 r.rl=true->(∀x,x∈Ut r'.rl->x∉Pf (IN r.rl))->∀(d:Bool) (k n i o:Nat) (cs:List PV),get r'.rl k=none->Uk r'.rl r'.kb (Uk r.rl r.kb (.ept d k n i o cs))=Uk r.rl r.kb (Uk r'.rl r'.kb (.ept d k n i o cs)):=by
  intro r r' hnp dd d k n i o cs hg;have e1:Uk r'.rl r'.kb (.ept d k n i o cs)= .ept d k n i o cs:=by simp only[Uk,hg]
  rw[e1];have key:∀y,Uk r.rl r.kb (.ept d k n i o cs)=y->Uk r'.rl r'.kb y=y->Uk r'.rl r'.kb (Uk r.rl r.kb (.ept d k n i o cs))=Uk r.rl r.kb (.ept d k n i o cs):=fun y h1 h2=>by rw[h1,h2]
  cases hx:get r.rl k with
  | none=>exact key _ (by simp only[Uk,hx]) e1
  | some x=>
    cases x with
    | none=>exact key .dead (by simp only[Uk,hx]) rfl
    | some t'=>
      cases t' with
      | sh=>exact key (.rptr .sh cs) (by simp only[Uk,hx]) rfl
      | vw k'=>
        have hm:=XW (t:= .vw k') rfl (JN hx).1;have hn:get r'.rl k'=none:=Et fun h=>dd k' h hm
        exact key (.rptr (.vw k') cs) (by simp only[Uk,hx]) (by simp only[Uk,I3,Tok.key,hn,IP])
      | put=>cases Pg hnp hx
      | emp | own=>exact key .dead (by simp only[Uk,hx]) rfl
 cases c with
 | slc t n l=>rw[hs _ _ p1 p2,hs _ _ p2 p1,hT]
 | rptr t cs=>rw[hp _ _ p1 p2,hp _ _ p2 p1,hT]
 | ept d k n i o cs=>
   cases hg:get rb.rl k with
   | none=>exact he ra rb p1 (fun x hx=>Fe h2 x hx) d k n i o cs hg
   | some x=>
     have hkb:k∈Ut rb.rl:=Classical.byContradiction fun hn=>by rw[Et hn] at hg;cases hg
     have hga:get ra.rl k=none:=Et fun ha=>Fe h1 k ha (List.mem_append_left _ hkb)
     exact (he rb ra p2 (fun x hx hm=>Fe h1 x hx (List.mem_append_right _ hm)) d k n i o cs hga).symm
 | ptr k off=>
   cases ra.kb with
   | none=>cases rb.kb with
     | none=>rfl
     | some y=>simp only[Uk];cases h1:Nat.beq k y<;>simp[Uk]
   | some x=>
     cases rb.kb with
     | none=>simp only[Uk];cases h1:Nat.beq k x<;>simp[Uk]
     | some y=>simp only[Uk];cases h1:Nat.beq k x<;>cases h2:Nat.beq k y<;>simp[Uk,h1,h2]
 | fn f caps=>
   cases ra.kb with
   | none=>cases rb.kb with
     | none=>rfl
     | some y=>simp only[Uk];cases h1:Nd y caps<;>simp[Uk]
   | some x=>
     cases rb.kb with
     | none=>simp only[Uk];cases h1:Nd x caps<;>simp[Uk]
     | some y=>simp only[Uk];cases h1:Nd x caps<;>cases h2:Nd y caps<;>simp[Uk,h1,h2]
 | _=>rfl
def M (r:Res) (v:AV):AV:=v.map (Uk r.rl r.kb)
def ML (r:Res) (l:List C):List C:=l.map (Uk r.rl r.kb)
theorem M0 (s:St) (dst:Option Nat) (r:Res) (t:Nat):get (s.step dst r).tm t=if dst=some t then some r.av else (get s.tm t).map (M r):=by
 have h:get (match r.rl,r.kb with | [],none=>s | rl,kb=>s.map (Uk rl kb)).tm t=(get s.tm t).map (M r):=by
  unfold M;split
  . rename_i e1 e2;rw[e1,e2,XX];cases get s.tm t with
    | none=>rfl
    | some v=>rw[Option.map_some,AV.map_id' (f:=id) fun c _=>rfl]
  simp only[St.map,Lq (AV.map _)]
 cases dst with
 | none=>simp only[St.step];rw[if_neg (by simp)];exact h
 | some d=>
   simp only[St.step,Sg,Option.some.injEq];split
   . rfl
   exact h
theorem Sr (s:St) (dst:Option Nat) (r:Res) (k:Nat):get (s.step dst r).bx k=if Ty r=some k then some (CF r) else (get s.bx k).map (ML r):=by
 have h:get (match r.rl,r.kb with | [],none=>s | rl,kb=>s.map (Uk rl kb)).bx k=(get s.bx k).map (ML r):=by
  unfold ML;split
  . rename_i e1 e2;rw[e1,e2,XX];cases get s.bx k<;>simp
  simp only[St.map,Lq (List.map _)]
 unfold Ty CF;simp only[St.step];cases r.bx with
 | none=>simp only[];rw[if_neg (by simp)];exact h
 | some p=>
   obtain ⟨x,y⟩:=p;simp only[Sg,Option.some.injEq];split
   . rfl
   exact h
section
variable {tt:List (Nat×TI)} {N:Nat} {orc:Orc} {ops:List Oper}
structure SameLooks (ops:List Oper) (o:Oper) (s t:St):Prop where
 tm:∀x,x∈UO ops o->get s.tm x=get t.tm x
 bx:∀vs,Ic s o.op.operands.toList=some vs->∀k,k∈Pc (Yl vs)->get s.bx k=get t.bx k
theorem AE {s t:St}:∀{xs:List Operand},(∀x,x∈Ni xs->get s.tm x=get t.tm x)->Ic s xs=Ic t xs
 | [],_=>rfl
 | x ::r,h=>by
   have h2:Ic s r=Ic t r:=AE fun y hy=>h y (by cases x<;>simp[Ni,hy])
   have h1:UL s x=UL t x:=by
    cases x with
    | tmp y=>exact h y (by simp[Ni])
    | _=>rfl
   simp only[Ic,h1,h2]
theorem Ph {s t:St}:∀{ks:List Nat},(∀k,k∈ks->get s.bx k=get t.bx k)->Al s ks=Al t ks
 | [],_=>rfl
 | k::r,h=>by simp only[Al,h k (by simp),Ph (ks:=r) fun x hx=>h x (by simp[hx])]
theorem AF {o:Oper} {s t:St} (h:SameLooks ops o s t):Gd tt N orc ops s o=Gd tt N orc ops t o:=by
 have h1:Ic s o.op.operands.toList=Ic t o.op.operands.toList:=AE fun x hx=>h.tm x (List.mem_append_left _ hx)
 have h2:D8 ops s o=D8 ops t o:=by
  unfold D8;cases hg:o.guard with
  | none=>rfl
  | some g=>
    obtain ⟨j,want⟩:=g;simp only[];cases hj:ops[j]? with
    | none=>rfl
    | some oj=>
      simp only[];cases hd:oj.dst with
      | none=>rfl
      | some x=>simp only[h.tm x (List.mem_append_right _ (by simp[hg,hj,hd]))]
 unfold Gd;rw[h2,h1];cases hv:Ic t o.op.operands.toList with
 | none=>rfl
 | some vs=>simp only[Ph (h.bx vs (h1.trans hv))]
theorem Ss {s:St} {k:Nat} {cs:List C}:∀{ks:List Nat},k∈ks->get s.bx k=some cs->∀c,c∈cs->c∈Mz (Al s ks)
 | x::r,hk,hg,c,hc=>by
   simp only[Al];rcases List.mem_cons.1 hk with rfl | hk
   . rw[hg];simp[Mz,hc]
   have:=Ss hk hg c hc;split
   . simp[Mz,this]
   exact this
theorem NW {o:Oper} {s t:St} {ρ:Rec} (hg:D8 ops t o=D8 ops s o) (h:Gd tt N orc ops s o=some ρ)
 (hk:∀vs,ρ.avs=vs->Ic s o.op.operands.toList=some vs->ρ.bn=Al s (Pc (Yl vs))->Ic t o.op.operands.toList=some vs/\Al t (Pc (Yl vs))=Al s (Pc (Yl vs))):Gd tt N orc ops t o=some ρ:=by
 unfold Gd at h⊢;rw[hg];cases hd:LB N o.dst with
 | false=>rw[hd] at h;cases h
 | true =>
   rw[hd] at h;simp only[cond_true] at h⊢;split at h
   . split at h
     . rename_i vs hvs;split at h
       . rename_i r obs he;obtain rfl:=Option.some.inj h;obtain ⟨h1,h2⟩:=hk vs rfl hvs rfl;simp only[h1,h2,he]
       cases h
     cases h
   . exact h
   cases h
theorem Qar {t t':Tok} {n:Nat} {l:List (List PV)} {b:Bool} (h:KA t n l t'= .bool b):False:=by
 cases t' with
 | put d m i o cs=>
   cases t with
   | own d0 k=>
     simp only[KA] at h;cases hb:TE d0 d&&Nat.beq n m<;>rw[hb] at h<;>cases h
   | _=>cases h
 | _=>cases h
theorem Qee {t t':Tok} {cs:List PV} {b:Bool} (h:IP t cs t'= .bool b):False:=by
 cases t' with
 | put=>cases t<;>cases h
 | _=>cases h
theorem Qas {rl:List (Nat×Option Tok)} {kb:Option Nat} {c:C} {b:Bool}:Uk rl kb c= .bool b↔c= .bool b:=by
 constructor
 . intro h;cases c with
   | slc t n l=>
     simp only[Uk] at h;split at h
     . exact (Qar h).elim
     cases h
   | rptr t cs=>
     simp only[Uk] at h;split at h
     . exact (Qee h).elim
     cases h
   | ept d k n i o cs=>
     simp only[Uk] at h;split at h
     . cases h
     . split at h<;>cases h
     cases h
   | ptr k off=>
     simp only[Uk] at h;split at h
     . cases h
     rename_i x y;cases hk:Nat.beq k y<;>rw[hk] at h<;>cases h
   | fn f caps=>
     simp only[Uk] at h;split at h
     . cases h
     rename_i x y;cases hk:Nd y caps<;>rw[hk] at h<;>cases h
   | _=>exact h
 intro h;subst h;rfl
theorem AG {o :Oper} {s:St} {dst:Option Nat} {r:Res} (hd:∀x,x∈UO ops o->dst≠some x):D8 ops (s.step dst r) o=D8 ops s o:=by
 unfold D8;cases hg:o.guard with
 | none=>rfl
 | some g =>
   obtain ⟨j,want⟩:=g;simp only[];cases hj:ops[j]? with
   | none=>rfl
   | some oj =>
     simp only[];cases hdj:oj.dst with
     | none=>rfl
     | some x =>
       have hx:dst≠some x:=hd x (List.mem_append_right _ (by simp[hg,hj,hdj]));simp only[M0,if_neg hx];cases hv:get s.tm x with
       | none=>rfl
       | some v=>
         simp only[Option.map_some];cases v with
         | one c=>
           simp only[M,AV.map];cases c with
           | bool b=>rfl
           | _=>
             generalize hc:Uk r.rl r.kb _=c';cases c' with
             | bool b=>exact absurd (Qas.1 hc) (by simp)
             | _=>rfl
         | agg cs=>rfl
         | tup l=>cases l<;>rfl
theorem Qlc {r:Res} {v:AV} (h:∀c,c∈v.cells->RC r c=true):M r v=v:=AV.map_id' fun c hc=>Qao (h c hc)
theorem Qld {r:Res} {l:List C} (h:∀c,c∈l->RC r c=true):ML r l=l:=(List.map_congr_left fun c hc=>Qao (h c hc)).trans (List.map_id' l)
theorem Qlt {r:Res} {v u:AV} (h:M r v=u) (hn:∀c,c∈u.cells->Qdk r c=true):v=u:=AV.map_inj' h fun _ c hc hm=>Qap hc (hn c hm)
theorem Qln {r:Res}:∀{l m:List C},ML r l=m->(∀c,c∈m->Qdk r c=true)->l=m
 | [],m,h,_=>h
 | c ::l,m,h,hn=>by
   cases m with
   | nil=>cases h
   | cons d m=>
     simp only[ML,List.map_cons,List.cons.injEq] at h;rw[Qap h.1 (hn d (by simp)),Qln (l:=l) h.2 fun c hc=>hn c (by simp[hc])]
theorem N9 {a:Option Nat} {l:List Nat} (h:Gz a l=true):∀x,x∈l->a≠some x:=fun x hx e=>by
 subst e;simp only[Gz,Bool.not_eq_true'] at h;exact Eu h hx
theorem EV {o:Oper} {x:Nat} (h:x∈Ni o.op.operands.toList):x∈UO ops o:=List.mem_append_left _ h
theorem Qef {o:Oper} {s:St} {dst:Option Nat} {r:Res} {ρ:Rec} (h:Gd tt N orc ops (s.step dst r) o=some ρ) (hd:Gz dst (UO ops o)=true) (h1:B4 (Qdk r) (Yl ρ.avs)=true) (h2:B4 (Qdk r) (Mz ρ.bn)=true) (h3:Gz (Ty r) (Pc (Yl ρ.avs))=true):Gd tt N orc ops s o=some ρ:=by
 have hd':=N9 hd;refine NW (AG hd').symm h fun vs hvs hop hbn=> ?_
 subst hvs;rw[hbn] at h2
 have hop':∀(xs:List Operand) (vs:List AV),(∀x,x∈Ni xs->dst≠some x)->(∀c,c∈Yl vs->Qdk r c=true)->Ic (s.step dst r) xs=some vs->Ic s xs=some vs:=by
  intro xs
  induction xs with
  | nil=>intro vs _ _ h;exact h
  | cons x xs ih=>
    intro vs hx hn h;simp only[Ic] at h⊢;split at h
    . rename_i v vs' e1 e2;obtain rfl:=Option.some.inj h;have hxs:=ih vs' (fun y hy=>hx y (by cases x<;>simp[Ni,hy])) (fun c hc=>hn c (by simp only[Yl];exact List.mem_append_right _ hc)) e2
      have h0:UL s x=some v:=by
       cases x with
       | tmp y=>
         have e1:get (s.step dst r).tm y=some v:=e1;rw[M0,if_neg (hx y (by simp[Ni]))] at e1;obtain ⟨u,hu,hm⟩:=Option.map_eq_some_iff.1 e1;show get s.tm y=some v;rw[hu,Qlt hm fun c hc=>hn c (by simp only[Yl];exact List.mem_append_left _ hc)]
       | _=>exact e1
      simp only[h0,hxs]
    cases h
 have hv:=hop' _ _ (fun x hx=>hd' x (EV hx)) (Bt h1) hop;refine ⟨hv, ?_⟩
 have : ∀ks:List Nat,(∀k,k∈ks->Ty r≠some k)->(∀c,c∈Mz (Al (s.step dst r) ks)->Qdk r c=true)->Al s ks=Al (s.step dst r) ks:=by
  intro ks
  induction ks with
  | nil=>intro _ _;rfl
  | cons k ks ih=>
    intro hk hn;have e:get (s.step dst r).bx k=(get s.bx k).map (ML r):=by rw[Sr,if_neg (hk k (by simp))]
    have hg:get s.bx k=get (s.step dst r).bx k:=by
     rw[e];cases hc:get s.bx k with
     | none=>rfl
     | some cs=>
       rw[hc] at e;simp only[Option.map_some] at e⊢;exact congrArg some (Qln (l:=cs) rfl fun c hc'=>hn c (Ss (by simp) e c hc'))
    simp only[Al,hg];split
    . rename_i cs hcs;rw[ih (fun x hx=>hk x (by simp[hx])) fun c hc=>hn c (by simp[Al,hcs,Mz,hc])]
    rename_i hcs;exact ih (fun x hx=>hk x (by simp[hx])) fun c hc=>hn c (by simp[Al,hcs,hc])
 exact this _ (N9 h3) (Bt h2)
theorem Qid {o:Oper} {s:St} {dst:Option Nat} {r:Res} {ρ:Rec} (h:Gd tt N orc ops s o=some ρ) (hd:Gz dst (UO ops o)=true) (h1:B4 (RC r) (Yl ρ.avs)=true) (h2:B4 (RC r) (Mz ρ.bn)=true) (h3:Gz (Ty r) (Pc (Yl ρ.avs))=true):Gd tt N orc ops (s.step dst r) o=some ρ:=by
 have hd':=N9 hd;refine NW (AG hd') h fun vs hvs hop hbn=> ?_
 subst hvs;rw[hbn] at h2
 have hop':∀(xs:List Operand) (vs:List AV),(∀x,x∈Ni xs->dst≠some x)->(∀c,c∈Yl vs->RC r c=true)->Ic s xs=some vs->Ic (s.step dst r) xs=some vs:=by
  intro xs
  induction xs with
  | nil=>intro vs _ _ h;exact h
  | cons x xs ih=>
    intro vs hx hn h;simp only[Ic] at h⊢;split at h
    . rename_i v vs' e1 e2;obtain rfl:=Option.some.inj h;have hxs:=ih vs' (fun y hy=>hx y (by cases x<;>simp[Ni,hy])) (fun c hc=>hn c (by simp only[Yl];exact List.mem_append_right _ hc)) e2
      have h0:UL (s.step dst r) x=some v:=by
       cases x with
       | tmp y=>
         have e1:get s.tm y=some v:=e1;show get (s.step dst r).tm y=some v;rw[M0,if_neg (hx y (by simp[Ni])),e1,Option.map_some,Qlc fun c hc=>hn c (by simp only[Yl];exact List.mem_append_left _ hc)]
       | _=>exact e1
      simp only[h0,hxs]
    cases h
 refine ⟨hop' _ _ (fun x hx=>hd' x (EV hx)) (Bt h1) hop,Ph fun k hk=> ?_⟩;rw[Sr,if_neg (N9 h3 k hk)];cases hc:get s.bx k with
 | none=>rfl
 | some cs=>rw[Option.map_some,Qld fun c hc'=>Bt h2 c (Ss hk hc c hc')]
theorem Tz {a b:Option Nat} (h:RD a b=true):∀x,a=some x->b≠some x:=fun x e e'=>by
 subst e;subst e';simp[RD] at h
theorem Qie {oa ob:Oper} {ra rb:Rec} {s:St} (hap:Qam ops oa ra ob rb=true) {orca orcb:Orc} (ha:Gd tt N orca ops s oa=some ra) (hb:Gd tt N orcb ops (s.step oa.dst ra.res) ob=some rb):
 Gd tt N orcb ops s ob=some rb/\Gd tt N orca ops (s.step ob.dst rb.res) oa=some ra/\((s.step oa.dst ra.res).step ob.dst rb.res).eqv ((s.step ob.dst rb.res).step oa.dst ra.res):=by
 simp only[Qam,Bool.and_eq_true] at hap;obtain ⟨⟨⟨⟨⟨⟨⟨⟨⟨⟨⟨⟨⟨⟨⟨⟨⟨d1,d2⟩,d3⟩,n1⟩,n2⟩,f1⟩,f2⟩,g1⟩,g2⟩,g3⟩,g4⟩,k1⟩,k2⟩,b1⟩,b2⟩,b3⟩,q1⟩,q2⟩:=hap;have hcomm:=Qaq k1 k2 q1 q2;refine ⟨Qef hb d2 n1 n2 b2,Qid ha d3 f1 f2 b3,fun t=> ?_,fun k=> ?_⟩
 . simp only[M0];by_cases ht:ob.dst=some t
   . rw[if_pos ht,if_neg (fun e=>Tz d1 t e ht),if_pos ht,Option.map_some,Qlc (Bt g1)]
   rw[if_neg ht,if_neg ht];by_cases ht':oa.dst=some t
   . rw[if_pos ht',if_pos ht',Option.map_some,Qlc (Bt g3)]
   rw[if_neg ht',if_neg ht'];cases get s.tm t with
   | none=>rfl
   | some v=>
     simp only[Option.map_some,M,AV.map_map]
     congr 2
     funext c
     exact hcomm c
 simp only[Sr];by_cases ht:Ty rb.res=some k
 . rw[if_pos ht,if_neg (fun e=>Tz b1 k e ht),if_pos ht,Option.map_some,Qld (Bt g2)]
 rw[if_neg ht,if_neg ht];by_cases ht':Ty ra.res=some k
 . rw[if_pos ht',if_pos ht',Option.map_some,Qld (Bt g4)]
 rw[if_neg ht',if_neg ht'];cases get s.bx k with
 | none=>rfl
 | some l=>
   simp only[Option.map_some,ML,List.map_map]
   congr 2
   funext c
   exact hcomm c
end
end
end Go.Proofs.YtkekndahbiefaaaGreatDoor
namespace Go.Proofs.YtkekndahbiefaaaGreatDoor
open Go.RowKit
abbrev Ie:=Nat×Oper×Rec
def D9 (o:Oper):List Nat:=(o.after.toList.filter fun e=>Region.binds .any e).map (·.on)
def RF:List Nat->List Nat
 | []=> []
 | x::r=>bif O9 x r then RF r else x::RF r
def Qdl (l:List (List Nat)) (i:Nat):List Nat:=match l[i]? with
 | some x=>x
 | none=> []
def NX:List Oper->List (List Nat)->List (List Nat)
 | [],acc=>acc
 | o::r,acc=>NX r (acc++ [RF (D9 o++(D9 o).flatMap fun e=>Qdl acc e)])
def Qeg (i:Nat):List Nat->Bool
 | []=>true
 | x::r=>Nat.blt x i&&Qeg i r
def VB:List Oper->Nat->Bool
 | [],_=>true
 | o::r,i=>Qeg i (D9 o)&&VB r (i+1)
def Qdm (orcs:List (Nat×Orc)) (i:Nat) (o:Oper):Option (Nat×Nat):=match o.op,o.guard,o.dst,get orcs i with
 | .move (.tmp u),none,some v,none=>some (u,v)
 | _,_,_,_=>none
def AH (ops:List Oper) (m:Nat×Nat) (z:Oper):Bool:= !(O9 m.2 (UO ops z))&&RD z.dst (some m.1)&&RD z.dst (some m.2)
def AI (orcs:List (Nat×Orc)) (ops:List Oper) (y x:Ie):Bool:=match Qdm orcs y.1 y.2.1,Qdm orcs x.1 x.2.1 with
 | none,none=>Qam ops y.2.1 y.2.2 x.2.1 x.2.2
 | some m,_=>AH ops m x.2.1
 | none,some m=>AH ops m y.2.1
def Mi (orcs:List (Nat×Orc)) (ops:List Oper) (anc:List (List Nat)) (x:Ie):List Ie->Bool
 | []=>true
 | y::r=>(O9 x.1 (Qdl anc y.1)|| AI orcs ops x y)&&Mi orcs ops anc x r
def M1 (orcs:List (Nat×Orc)) (ops:List Oper) (anc:List (List Nat)):List Ie->Bool
 | []=>true
 | x::r=>Mi orcs ops anc x r&&M1 orcs ops anc r
def EW (tt:List (Nat×TI)) (N:Nat) (orcs:List (Nat×Orc)) (ops:List Oper):List Oper->Nat->St->Option (St×List Ie)
 | [],_,s=>some (s, [])
 | o ::r,i,s=>match Gd tt N (BZ orcs i) ops s o with
   | some ρ=>(match EW tt N orcs ops r (i+1) (s.step o.dst ρ.res) with
     | some (s',l)=>some (s',(i,o,ρ)::l)
     | none=>none)
   | none=>none
def Qeh:List Ie->List Ob
 | []=> []
 | x::r=>x.2.2.obs++Qeh r
def Gf (tt:List (Nat×TI)) (N:Nat) (orcs:List (Nat×Orc)) (ops:List Oper) (ts bs:List Nat) (s:St):Option (St×List Ob):=
 bif VB ops 0 then
  match EW tt N orcs ops ops 0 s with
  | some (s',l)=>bif M1 orcs ops (NX ops []) l then some (s'.keep ts bs,Qeh l) else none
  | none=>none
 else none
section
variable {P:Program} {tt:List (Nat×TI)} {N:Nat} {orcs:List (Nat×Orc)} {ops:Array Oper} {w0:Base} {F0:Nat->Prop}
def Qif (tt:List (Nat×TI)) (N:Nat) (orcs:List (Nat×Orc)) (ops:List Oper):List Ie->St->St->Prop
 | [],s,s'=>s.eqv s'
 | x::r,s,s'=>∃ρ:Rec,Gd tt N (BZ orcs x.1) ops s x.2.1=some ρ/\(Qdm orcs x.1 x.2.1=none->ρ=x.2.2)/\Qif tt N orcs ops r (s.step x.2.1.dst ρ.res) s'
theorem Qei (s:St):s.eqv s:=⟨fun _=>rfl,fun _=>rfl⟩
theorem NY {s t:St} (h:s.eqv t):t.eqv s:=⟨fun x=>(h.1 x).symm,fun x=>(h.2 x).symm⟩
theorem Qat {s t u:St} (h:s.eqv t) (h':t.eqv u):s.eqv u:=⟨fun x=>(h.1 x).trans (h'.1 x),fun x=>(h.2 x).trans (h'.2 x)⟩
theorem Qej {s t:St} (h:s.eqv t) (dst:Option Nat) (r:Res):(s.step dst r).eqv (t.step dst r):=⟨fun x=>by rw[M0,M0,h.1 x],fun x=>by rw[Sr,Sr,h.2 x]⟩
theorem Qau {s t:St} (h:s.eqv t) {orc:Orc} {l:List Oper} (o:Oper):Gd tt N orc l s o=Gd tt N orc l t o:=AF ⟨fun x _=>h.1 x,fun _ _ k _=>h.2 k⟩
theorem JO:∀{l:List Ie} {s t s':St},s.eqv t->Qif tt N orcs ops.toList l s s'->Qif tt N orcs ops.toList l t s'
 | [],s,t,s',h,hr=>Qat (NY h) hr
 | x::r,s,t,s',h,⟨ρ,h1,h2,hr⟩=>⟨ρ,(Qau h _).symm.trans h1,h2,JO (Qej h _ _) hr⟩
theorem T0 {i:Nat} {o:Oper} {m:Nat×Nat} (h:Qdm orcs i o=some m):o.op= .move (.tmp m.1)/\o.guard=none/\o.dst=some m.2/\BZ orcs i= .no:=by
 unfold Qdm at h;split at h
 . rename_i u v h1 h2 h3 h4;obtain rfl:=Option.some.inj h;exact ⟨h1,h2,h3,by unfold BZ;rw[h4]⟩
 cases h
theorem Qav {l:List Oper} {i:Nat} {o:Oper} {m:Nat×Nat} {s:St} {ρ:Rec} (h:Qdm orcs i o=some m) (hr:Gd tt N (BZ orcs i) l s o=some ρ):LB N o.dst=true/\∃x,get s.tm m.1=some x/\ρ.res=⟨x, [],none,none⟩/\ρ.obs= []:=by
 obtain ⟨h1,h2,h3,h4⟩:=T0 h;unfold Gd at hr;cases hd:LB N o.dst with
 | false=>rw[hd] at hr;cases hr
 | true=>
   rw[hd] at hr;refine ⟨rfl, ?_⟩;have hg:D8 l s o=some true:=by unfold D8;rw[h2]
   simp only[hg,h1,h4,Op.operands,Ic,UL,cond_true] at hr;cases hx:get s.tm m.1 with
   | none=>simp[hx,Ic,UL] at hr
   | some x=>
     simp[hx,Ic,UL,EP,KT,KS,TH] at hr;obtain rfl:=hr;exact ⟨x,rfl,rfl,rfl⟩
theorem Qg0 {l:List Oper} {i:Nat} {o:Oper} {m:Nat×Nat} {s:St} {x:AV} (h:Qdm orcs i o=some m) (hd:LB N o.dst=true) (hx:get s.tm m.1=some x):∃ρ,Gd tt N (BZ orcs i) l s o=some ρ/\ρ.res=⟨x, [],none,none⟩:=by
 obtain ⟨h1,h2,h3,h4⟩:=T0 h;have hg:D8 l s o=some true:=by unfold D8;rw[h2]
 unfold Gd;simp[hd,hg,h1,h4,Op.operands,Ic,UL,hx,EP,KT,KS,TH]
theorem Qaw (x v:AV):M ⟨x, [],none,none⟩ v=v:=AV.map_id' fun c _=>by rw[XX];rfl
theorem Qax (x:AV) (l:List C):ML ⟨x, [],none,none⟩ l=l:=by
 show l.map (Uk [] none)=l;rw[XX,List.map_id]
theorem Qay {l:List Oper} {orc:Orc} {m:Nat×Nat} {z:Oper} {s:St} {x:AV} (hf:AH l m z=true) (hx:get s.tm m.1=some x) (ρ:Rec):
 Gd tt N orc l (s.step (some m.2) ⟨x, [],none,none⟩) z=Gd tt N orc l s z/\get (s.step z.dst ρ.res).tm m.1=some (M ρ.res x)/\((s.step (some m.2) ⟨x, [],none,none⟩).step z.dst ρ.res).eqv ((s.step z.dst ρ.res).step (some m.2) ⟨M ρ.res x, [],none,none⟩):=by
 simp only[AH,Bool.and_eq_true,Bool.not_eq_true'] at hf;obtain ⟨⟨f1,f2⟩,f3⟩:=hf;have f1:=Eu f1;refine ⟨AF ⟨fun y hy=> ?_,fun _ _ k _=> ?_⟩, ?_,fun y=> ?_,fun k=> ?_⟩
 . rw[M0,if_neg (fun e=>f1 (by cases e;exact hy))];cases get s.tm y with
   | none=>rfl
   | some v=>rw[Option.map_some,Qaw]
 . rw[Sr,if_neg (by simp[Ty])];cases get s.bx k with
   | none=>rfl
   | some v=>simp[ML,XX]
 . rw[M0,if_neg (fun e=>Tz f2 _ e rfl),hx];rfl
 . simp only[M0];by_cases h1:z.dst=some y
   . rw[if_pos h1,if_neg (fun e=>Tz f3 _ h1 e),if_pos h1,Option.map_some,Qaw]
   rw[if_neg h1,if_neg h1];by_cases h2:some m.2=some y
   . rw[if_pos h2,if_pos h2,Option.map_some]
   rw[if_neg h2,if_neg h2];cases get s.tm y with
   | none=>rfl
   | some v=>simp only[Option.map_some,Qaw]
 have hn:∀y:AV,¬Ty ⟨y, [],none,none⟩=some k:=fun _ e=>by cases e
 simp only[Sr];by_cases h1:Ty ρ.res=some k
 . rw[if_pos h1,if_neg (hn _),if_pos h1,Option.map_some,Qax]
 rw[if_neg h1,if_neg (hn _),if_neg (hn _),if_neg h1];cases get s.bx k with
 | none=>rfl
 | some v=>simp only[Option.map_some,Qax]
theorem AJ {x:Ie} {post:List Ie}:∀{pre:List Ie} {s s':St},(∀y,y∈pre->AI orcs ops.toList y x=true)->Qif tt N orcs ops.toList (pre++x::post) s s'->Qif tt N orcs ops.toList (x::(pre++post)) s s'
 | [],_,_,_,h=>h
 | y :: pre,s,s',ha,h=>by
   obtain ⟨ρy,hy,hy',hr⟩:=h;obtain ⟨ρx,hx,hx',hr'⟩:=AJ (fun z hz=>ha z (List.mem_cons_of_mem _ hz)) hr;have hap:=ha y List.mem_cons_self;unfold AI at hap;cases hmy:Qdm orcs y.1 y.2.1 with
   | some m=>
     rw[hmy] at hap;obtain ⟨hd,x0,h1,h2,_⟩:=Qav hmy hy;have hdst:=(T0 hmy).2.2.1;obtain ⟨e1,e2,e3⟩:=Qay (tt:=tt) (N:=N) (orc:=BZ orcs x.1) hap h1 ρx;rw[h2,hdst] at hx hr';obtain ⟨ρm,h3,h4⟩:=Qg0 (tt:=tt) (l:=ops.toList) hmy hd e2;refine ⟨ρx,e1.symm.trans hx,hx',ρm,h3,fun e=>(by rw[hmy] at e;cases e), ?_⟩;rw[h4,hdst];exact JO e3 hr'
   | none=>
     rw[hmy] at hap;cases hmx:Qdm orcs x.1 x.2.1 with
     | some m=>
       rw[hmx] at hap;obtain ⟨hd,x1,h1,h2,_⟩:=Qav hmx hx;have hdst:=(T0 hmx).2.2.1;have hf:AH ops.toList m y.2.1=true:=hap
       have hne:y.2.1.dst≠some m.1:=fun e=>by
        simp only[AH,Bool.and_eq_true] at hf;exact Tz hf.1.2 _ e rfl
       rw[M0,if_neg hne] at h1;obtain ⟨x0,hx0,hM⟩:=Option.map_eq_some_iff.1 h1;obtain ⟨e1,e2,e3⟩:=Qay (tt:=tt) (N:=N) (orc:=BZ orcs y.1) hf hx0 ρy;obtain ⟨ρm,h3,h4⟩:=Qg0 (tt:=tt) (l:=ops.toList) hmx hd hx0;refine ⟨ρm,h3,fun e=>(by rw[hmx] at e;cases e),ρy, ?_,fun _=>hy' hmy, ?_⟩
       . rw[h4,hdst];exact e1.trans hy
       rw[h4,hdst];rw[h2,hdst,←hM] at hr';exact JO (NY e3) hr'
     | none=>
       rw[hmx] at hap;obtain rfl:=hy' hmy;obtain rfl:=hx' hmx;obtain ⟨h1,h2,h3⟩:=Qie hap hy hx;exact ⟨_,h1,fun _=>rfl,_,h2,fun _=>rfl,JO h3 hr'⟩
theorem VD:∀{l:List Oper} {i:Nat} {s s':St} {R:List Ie},EW tt N orcs ops.toList l i s=some (s',R)->Qif tt N orcs ops.toList R s s'/\R.map (·.1)=List.range' i l.length/\R.map (·.2.1)=l
 | [],i,s,s',R,h=>by
   obtain ⟨rfl,rfl⟩:s=s'/\ []=R:=by simpa [EW] using h
   exact ⟨Qei s,rfl,rfl⟩
 | o :: r,i,s,s',R,h=>by
   simp only[EW] at h;split at h
   . rename_i ρ hρ;split at h
     . rename_i s'' l' hr;obtain ⟨rfl,rfl⟩:s''=s'/\(i,o,ρ)::l'=R:=by simpa using h
       obtain ⟨h1,h2,h3⟩:=VD hr;exact ⟨⟨ρ,hρ,fun _=>rfl,h1⟩,by simp[h2,List.range'_succ],by simp[h3]⟩
     cases h
   cases h
inductive Anc (ops:Array Oper):Nat->Nat->Prop
 | one {x q:Nat} {o:Oper}:ops[q]? =some o->x∈D9 o->Anc ops x q
 | more {x e q:Nat} {o:Oper}:ops[q]? =some o->e∈D9 o->Anc ops x e->Anc ops x q
theorem VE {x:Nat}:∀{l:List Nat},x∈RF l->x∈l
 | [],h=>h
 | y ::r,h=>by
   simp only[RF] at h;cases hm:O9 y r with
   | true=>rw[hm] at h;exact List.mem_cons_of_mem _ (VE h)
   | false=>
     rw[hm] at h;rcases List.mem_cons.1 h with rfl | h
     . exact List.mem_cons_self
     exact List.mem_cons_of_mem _ (VE h)
theorem Qaz:∀{l:List Oper} {acc:List (List Nat)},ops.toList.drop acc.length=l->(∀q x,x∈Qdl acc q->Anc ops x q)->∀q x,x∈Qdl (NX l acc) q->Anc ops x q
 | [],_,_,h,q,x,hx=>h q x hx
 | o ::r,acc,hl,h,q,x,hx=>by
   refine Qaz (l:=r) (acc:=acc++ [RF (D9 o++(D9 o).flatMap fun e=>Qdl acc e)]) ?_ ?_ q x hx
   . rw[List.length_append,List.length_singleton,←List.drop_drop,hl];rfl
   intro q x hx
   have ho:ops[acc.length]? =some o:=by
    have:=congrArg (·[0]?) hl;simpa using this
   unfold Qdl at hx;rcases Nat.lt_trichotomy q acc.length with hlt | he | hgt
   . rw[List.getElem?_append_left hlt] at hx;exact h q x hx
   . subst he;rw[List.getElem?_append_right (Nat.le_refl _),Nat.sub_self] at hx;simp only[List.getElem?_cons_zero] at hx;rcases List.mem_append.1 (VE hx) with hx | hx
     . exact .one ho hx
     obtain ⟨e,he,hx⟩:=List.mem_flatMap.1 hx;exact .more ho he (h e x hx)
   rw[List.getElem?_eq_none (by simp;omega)] at hx;simp at hx
theorem RG {listed:Array Bool} (hc:∀(j:Nat) (o:Oper),ops[j]? =some o->listed.getD j false=true->∀e,e∈D9 o->listed.getD e false=true) {x q:Nat} (h:Anc ops x q):(∀o,ops[q]? =some o->∀e,e∈D9 o->listed.getD e false=true)->listed.getD x false=true:=by
 induction h with
 | one ho hx=>intro hq;exact hq _ ho _ hx
 | more ho he _ ih=>intro hq;exact ih fun o' ho' e' he'=>hc _ o' ho' (hq _ ho _ he) e' he'
theorem EX {o:Oper} {e:Nat}:e∈D9 o↔∃x,x∈o.after/\Region.binds .any x=true/\x.on=e:=by
 unfold D9;simp only[List.mem_map,List.mem_filter,Array.mem_toList_iff];exact ⟨fun ⟨x,⟨h1,h2⟩,h3⟩=>⟨x,h1,h2,h3⟩,fun ⟨x,h1,h2,h3⟩=>⟨x,⟨h1,h2⟩,h3⟩⟩
theorem NZ {i:Nat}:∀{l:List Nat},Qeg i l=true->∀x,x∈l->x<i
 | [],_,x,hx=>by simp at hx
 | y::r,h,x,hx=>by
   simp only[Qeg,Bool.and_eq_true,Nat.blt_eq] at h;rcases List.mem_cons.1 hx with rfl | hx
   . exact h.1
   exact NZ h.2 x hx
theorem AK:∀{l:List Oper} {i:Nat},VB l i=true->∀(j:Nat) (o:Oper),l[j]? =some o->∀e,e∈D9 o->e<i+j
 | [],_,_,j,o,h,_,_=>by simp at h
 | x::r,i,h,j,o,hj,e,he=>by
   simp only[VB,Bool.and_eq_true] at h;cases j with
   | zero=>simp at hj;subst hj;exact NZ h.1 e he
   | succ j=>have:=AK h.2 j o (by simpa using hj) e he;omega
theorem OA {anc:List (List Nat)} {x y:Ie}:∀{l:List Ie},Mi orcs ops.toList anc x l=true->y∈l->O9 x.1 (Qdl anc y.1)=true\/AI orcs ops.toList x y=true
 | z::r,h,hy=>by
   simp only[Mi,Bool.and_eq_true,Bool.or_eq_true] at h;rcases List.mem_cons.1 hy with rfl | hy
   . exact h.1
   exact OA h.2 hy
theorem EY {anc:List (List Nat)} {x:Ie} {post:List Ie}:∀{pre:List Ie},M1 orcs ops.toList anc (pre++x::post)=true->∀y,y∈pre->O9 y.1 (Qdl anc x.1)=true\/AI orcs ops.toList y x=true
 | [],_,y,hy=>by simp at hy
 | z::pre,h,y,hy=>by
   rw[List.cons_append] at h;simp only[M1,Bool.and_eq_true] at h;rcases List.mem_cons.1 hy with rfl | hy
   . exact OA h.1 (by simp)
   exact EY h.2 y hy
theorem T1 {anc:List (List Nat)} {z x:Ie} {post:List Ie}:∀{pre:List Ie},Mi orcs ops.toList anc z (pre++x::post)=true->Mi orcs ops.toList anc z (pre++post)=true
 | [],h=>by simp only[List.nil_append,Mi,Bool.and_eq_true] at h;exact h.2
 | y::pre,h=>by
   simp only[List.cons_append,Mi,Bool.and_eq_true] at h⊢;exact ⟨h.1,T1 h.2⟩
theorem AL {anc:List (List Nat)} {x:Ie} {post:List Ie}:∀{pre:List Ie},M1 orcs ops.toList anc (pre++x::post)=true->M1 orcs ops.toList anc (pre++post)=true
 | [],h=>by simp only[List.nil_append,M1,Bool.and_eq_true] at h;exact h.2
 | y::pre,h=>by
   simp only[List.cons_append,M1,Bool.and_eq_true] at h⊢;exact ⟨T1 h.1,AL h.2⟩
theorem Qig {l:List Ie} (h:AllOb (Zy P w0) (Ud P w0) (Qeh l)):∀x,x∈l->AllOb (Zy P w0) (Ud P w0) x.2.2.obs:=by
 induction l with
 | nil=>intro x hx;simp at hx
 | cons y r ih=>
   intro x hx;obtain ⟨h1,h2⟩:=AllOb.append h;rcases List.mem_cons.1 hx with rfl | hx
   . exact h1
   exact ih h2 x hx
theorem Qih (htt:Me P tt=true) {Q:Exit->Act->World->Prop} {sf:St} {anc:List (List Nat)} (hanc:∀q x,x∈Qdl anc q->Anc ops x q) (hlt:∀(j:Nat) (o:Oper),ops[j]? =some o->∀e,e∈D9 o->e<j) (hQ:∀J a w,Rel N w0 F0 J a w sf->Q .normal a w):
 ∀ (n:Nat) (R:List Ie) (listed:Array Bool) (s:St) (J:Inj) (a:Act) (w:World),R.length=n->listed.size=ops.size->(R.map (·.1)).Pairwise (· < ·)->(∀x,x∈R->ops[x.1]? =some x.2.1)->(∀j,j<ops.size->(listed.getD j true=false↔j∈R.map (·.1)))->
   (∀(j:Nat) (o:Oper),ops[j]? =some o->listed.getD j false=true->∀e,e∈D9 o->listed.getD e false=true)->M1 orcs ops.toList anc R=true->(∀x,x∈R->AllOb (Zy P w0) (Ud P w0) x.2.2.obs)->Qif tt N orcs ops.toList R s sf->Rel N w0 F0 J a w s->wpAny P .any ops Q n listed a w:=by
 intro n
 have hget:∀(listed:Array Bool) (j:Nat),j<listed.size->(listed.getD j true=false↔¬listed.getD j false=true):=by
  intro listed j hj;simp[Array.getD_eq_getD_getElem?,Array.getElem?_eq_getElem hj]
 have hready:∀(R:List Ie) (listed:Array Bool),listed.size=ops.size->(∀j,j<ops.size->(listed.getD j true=false↔j∈R.map (·.1)))->∀i,i∈Region.ready .any ops listed->i∈R.map (·.1)/\∀o,ops[i]? =some o->∀e,e∈D9 o->listed.getD e false=true:=by
  intro R listed hsz hR i hi;obtain ⟨h0,o,ho,hall⟩:=mem_ready.1 hi;have hlt:i<ops.size:=(Array.getElem?_eq_some_iff.1 ho).1;refine ⟨(hR i hlt).1 h0,fun o' ho' e he=> ?_⟩;rw[ho] at ho';obtain rfl:=Option.some.inj ho';obtain ⟨x,h1,h2,rfl⟩:=EX.1 he;exact hall x h1 h2
 induction n with
 | zero=>
   intro R listed s J a w hn hsz _ _ hR _ _ _ hr hrel;obtain rfl:R= []:=List.eq_nil_of_length_eq_zero hn;refine ⟨?_,hQ J a w (hrel.eqv hr)⟩;cases hrd:Region.ready .any ops listed with
   | nil=>rfl
   | cons i r=>
     have:=(hready [] listed hsz hR i (by rw[hrd];simp)).1;simp at this
 | succ n ih=>
   intro R listed s J a w hn hsz hsort hops hR hclosed hpairs hobs hr hrel;refine ⟨fun hnil=> ?_,fun i hi=> ?_⟩
   . exfalso;cases R with
     | nil=>simp at hn
     | cons x r=>
       have hx:=hops x (by simp);have hxl:x.1<ops.size:=(Array.getElem?_eq_some_iff.1 hx).1
       have:x.1∈Region.ready .any ops listed:=by
        refine mem_ready.2 ⟨(hR x.1 hxl).2 (by simp),x.2.1,hx,fun e he hb=> ?_⟩;have hel:=hlt x.1 x.2.1 hx e.on (EX.2 ⟨e,he,hb,rfl⟩);refine Classical.byContradiction fun hne=> ?_
        have:=(hR e.on (by omega)).1 ((hget listed e.on (by omega)).2 hne);simp only[List.map_cons,List.mem_cons] at this;rcases this with h | h
        . omega
        have:x.1<e.on:=(List.pairwise_cons.1 hsort).1 e.on h;omega
       rw[hnil] at this;simp at this
   obtain ⟨hiR,hedges⟩:=hready R listed hsz hR i hi;obtain ⟨x,hx,rfl⟩:=List.mem_map.1 hiR;obtain ⟨pre,post,rfl⟩:=List.append_of_mem hx
   have hap:∀y,y∈pre->AI orcs ops.toList y x=true:=fun y hy=>by
    rcases EY hpairs y hy with h | h
    . exfalso;have hl:=RG hclosed (hanc _ _ (Cv.1 h)) hedges;have hyo:=hops y (by simp[hy]);have hyl:y.1<ops.size:=(Array.getElem?_eq_some_iff.1 hyo).1;exact (hget listed y.1 (by omega)).1 ((hR y.1 hyl).2 (by simp only[List.map_append,List.mem_append];exact .inl (List.mem_map.2 ⟨y,hy,rfl⟩))) hl
    exact h
   obtain ⟨ρ,hrec,hρ,hrest⟩:=AJ hap hr
   have hobx:AllOb (Zy P w0) (Ud P w0) ρ.obs:=by
    cases hmv:Qdm orcs x.1 x.2.1 with
    | none=>rw[hρ hmv];exact hobs x (by simp)
    | some m=>obtain ⟨_,_,_,_,e⟩:=Qav hmv hrec;rw[e];trivial
   have hxo:=hops x (by simp);have hxl:x.1<ops.size:=(Array.getElem?_eq_some_iff.1 hxo).1
   have hdup:x.1∉(pre++post).map (·.1):=fun hm=>by
    simp only[List.map_append,List.map_cons,List.pairwise_append,List.pairwise_cons] at hsort;simp only[List.map_append,List.mem_append] at hm;rcases hm with hm | hm
    . have:=hsort.2.2 _ hm x.1 (by simp);omega
    have:=hsort.2.1.1 _ hm;omega
   refine TZ (P:=P) htt hxo hrec hobx hrel fun J' a' w' hrel'=>ih (pre++post) _ _ J' a' w' (by simp at hn⊢;omega) (by simpa using hsz) ?_ ?_ ?_ ?_ (AL hpairs) ?_ hrest hrel'
   . simp only[List.map_append,List.map_cons,List.pairwise_append,List.pairwise_cons] at hsort⊢;exact ⟨hsort.1,hsort.2.1.2,fun a ha b hb=>hsort.2.2 a ha b (by simp[hb])⟩
   . intro y hy;exact hops y (by simp only[List.mem_append,List.mem_cons] at hy⊢;exact hy.elim .inl fun h=> .inr (.inr h))
   . intro j hj;by_cases hji:x.1=j
     . subst hji;constructor
       . intro h;simp[hsz,hj] at h
       intro h;exact absurd h hdup
     rw[getD_set_ne true hji,hR j hj];simp only[List.map_append,List.map_cons,List.mem_append,List.mem_cons];exact ⟨fun h=>h.elim .inl fun h=>h.elim (fun e=>absurd e.symm hji) .inr,fun h=>h.elim .inl fun h=> .inr (.inr h)⟩
   . intro j o ho hl e he;by_cases hji:x.1=j
     . subst hji;exact getD_set_true (hedges o ho e he)
     rw[getD_set_ne false hji] at hl;exact getD_set_true (hclosed j o ho hl e he)
   intro y hy;exact hobs y (by simp only[List.mem_append,List.mem_cons] at hy⊢;exact hy.elim .inl fun h=> .inr (.inr h))
theorem CG (htt:Me P tt=true) (hm:P.follows .mixedOrders=true) {Q:Exit->St->Prop} {s s':St} (orcs:List (Nat×Orc)) (ts bs:List Nat) {id:Nat} {ops:Array Oper} {obs:List Ob} (h:Gf tt N orcs ops.toList ts bs s=some (s',obs))
 (hob:AllOb (Zy P w0) (Ud P w0) obs) (hQ:Q .normal s'):AWP P N w0 F0 (.region id ops true) Q s:=fun J a w hr=>by
 unfold Gf at h;cases he:VB ops.toList 0 with
 | false=>rw[he] at h;cases h
 | true =>
   rw[he] at h;simp only[cond_true] at h;split at h
   . rename_i s1 R h1;cases hp:M1 orcs ops.toList (NX ops.toList []) R with
     | false=>rw[hp] at h;cases h
     | true=>
       rw[hp] at h;obtain ⟨rfl,rfl⟩:s1.keep ts bs=s'/\Qeh R=obs:=by simpa using h
       obtain ⟨hruns,hidx,hop⟩:=VD h1;have hlen:R.length=ops.size:=by have:=congrArg List.length hop;simpa using this
       refine wp_region_any hm (Qih (P:=P) htt (Qaz (acc:= []) (l:=ops.toList) rfl (fun q x hx=>by simp[Qdl] at hx)) (fun j o ho e hx=>by have:=AK he j o (by simpa using ho) e hx;omega)
        (fun J' a' w' hR=>⟨J',_,hR.less (fun t v hv=>Mh hv) (fun k c hc=>Mh hc),hQ⟩) ops.size R _ s J a _ hlen (by simp) ?_ ?_ ?_ ?_ hp (Qig hob) hruns ?_)
       . rw[hidx];exact List.pairwise_lt_range'
       . intro x hx;obtain ⟨k,hk,rfl⟩:=List.getElem_of_mem hx
         have e1:R[k].1=k:=by
          have:=congrArg (·[k]?) hidx;simp only[List.getElem?_map,List.getElem?_eq_getElem hk,Option.map_some] at this;rw[List.getElem?_range' (by simpa [←hlen] using hk)] at this;simpa using this
         have e2:=congrArg (·[k]?) hop;simp only[List.getElem?_map,List.getElem?_eq_getElem hk,Option.map_some] at e2;rw[e1];simpa using e2.symm
       . intro j hj;rw[hidx];simp[hj,List.mem_range'_1]
       . intro j o _ hl;simp only[Array.getD_eq_getD_getElem?,Array.getElem?_replicate] at hl;split at hl<;>simp at hl
       refine {hr with below:= ?_,fl:=hr.fl,bo:= ?_,tm:= ?_}
       . exact hr.below.trans ⟨rfl,rfl,rfl,Nat.le_refl _,fun _ _=>rfl⟩
       . intro k c hk;obtain ⟨h1,h2,h3,arr,e,h4,h5⟩:=hr.bo k c hk;exact ⟨h1,h2,h3,arr,e,h4,h5.imp fun v c _ hc=>hc.keep ⟨fun b hb=>⟨hb,rfl⟩,fun k _=>⟨rfl,fun _ _=>rfl⟩,fun _ _=>rfl⟩⟩
       intro t v hv;exact (hr.tm t v hv).keep fun c _=>⟨fun b hb=>⟨hb,rfl⟩,fun k _=>⟨rfl,fun _ _=>rfl⟩,fun _ _=>rfl⟩
   cases h
end
open GoE (enc wide)
def nth {α:Type} [Inhabited α] (l:List α) (i:Nat):α:=l.getD i default
theorem V7 {α:Type} [Inhabited α] {l:List α} {i:Nat} (h:i<l.length):l[i]? =some (nth l i):=by
 simp[nth,List.getD,List.getElem?_eq_getElem h]
theorem Ow {α:Type} [Inhabited α] {l:List α} {i:Nat} {a:α} (h:l[i]? =some a):nth l i=a:=by simp[nth,List.getD,h]
def dn (s:Int):Nat->Int
 | 0=>s
 | k+1=>dn s k-1
theorem LH (s:Int):∀k,dn s k=s-(k:Int)
 | 0=>by simp[dn]
 | k+1=>by rw[dn,LH s k];omega
section
variable {α:Type} [GoE α]
theorem EZ {J:Inj} {w:World} {v:Value} {tok:Tok} {l:List α} (h:CR J w v (.slc tok (GoD.n α) (eL l))):wide l:=by
 cases tok with
 | sh=>exact Sp h
 | emp=>
   obtain ⟨h,_⟩:=h;cases l with
   | nil=>exact ⟨Nat.zero_le _,by simp⟩
   | cons a l=>simp[eL] at h
 | vw k=>exact Sp h
 | put=>exact h.elim
 | own d k=>
   cases d with
   | true=>exact Sp (OwnDeep.vv (X:=fun _=>True) h fun _ _=>⟨trivial,rfl⟩)
   | false=>exact Sp (OwnTop.vv (X:=fun _=>True) h (fun _ _=>⟨trivial,rfl⟩) fun _ _=>⟨trivial,rfl⟩)
theorem CH {l:List α} {i:Nat} {a:α} (h:l[i]? =some a) (hw:wide l):wide a:=hw.2 a (List.mem_of_getElem? h)
theorem I5 {l:List α} (hw:wide l):l.length<=1073741824:=hw.1
theorem CI {β:Type} [GoE β] {p:α×β} (hw:wide p):wide p.2:=hw.2
theorem FA {l:List α} (k:Nat) (hw:wide l):wide (List.take k l):=⟨Nat.le_trans (by simp[Nat.min_le_right]) hw.1,fun a h=>hw.2 a (List.mem_of_mem_take h)⟩
theorem FB {l:List α} (k:Nat) (hw:wide l):wide (List.drop k l):=⟨Nat.le_trans (by simp) hw.1,fun a h=>hw.2 a (List.mem_of_mem_drop h)⟩
end
section
variable {P:Program} {N:Nat} {w0:Base} {F0:Nat->Prop} {Q:Exit->St->Prop} {s s':St} {c:Code} {α:Type} [GoE α]
end
abbrev PV.i (n:Int):PV:= .int .i64 n
abbrev PV.b (b:Bool):PV:= .bool b
abbrev PV.s (x:ByteArray):PV:= .str x
abbrev PV.h {α:Type} [GoE α] (l:List α):PV:= .slc (GoD.n α) (eL l)
abbrev C.i (n:Int):C:= .int .i64 n
abbrev C.b (b:Bool):C:= .bool b
abbrev C.s (x:ByteArray):C:= .str x
abbrev C.e (n:Nat):C:= .slc .emp n []
abbrev C.h {α:Type} [GoE α] (l:List α):C:= .slc .sh (GoD.n α) (eL l)
abbrev C.o {α:Type} [GoE α] (k:Nat) (l:List α):C:= .slc (.own true k) (GoD.n α) (eL l)
abbrev C.q {α:Type} [GoE α] (k:Nat) (l:List α):C:= .slc (.own false k) (GoD.n α) (eL l)
abbrev C.v {α:Type} [GoE α] (k:Nat) (l:List α):C:= .slc (.vw k) (GoD.n α) (eL l)
abbrev AV.i (n:Int):AV:= .one (.int .i64 n)
abbrev AV.b (b:Bool):AV:= .one (.bool b)
abbrev AV.s (x:ByteArray):AV:= .one (.str x)
abbrev AV.e (n:Nat):AV:= .one (.slc .emp n [])
abbrev AV.h {α:Type} [GoE α] (l:List α):AV:= .one (.slc .sh (GoD.n α) (eL l))
abbrev AV.o {α:Type} [GoE α] (k:Nat) (l:List α):AV:= .one (.slc (.own true k) (GoD.n α) (eL l))
abbrev AV.q {α:Type} [GoE α] (k:Nat) (l:List α):AV:= .one (.slc (.own false k) (GoD.n α) (eL l))
abbrev AV.v {α:Type} [GoE α] (k:Nat) (l:List α):AV:= .one (.slc (.vw k) (GoD.n α) (eL l))
abbrev AV.p (k o:Nat):AV:= .one (.ptr k o)
abbrev AV.a (cs:List C):AV:= .agg cs
section
variable {A:Nat->List AV->AV->Prop} {T:TakeT}
theorem o1 {x:Ob} (h:x.holds A T):AllOb A T [x]:=h
theorem o2 {x y:Ob} {r:List Ob} (h:x.holds A T) (h':AllOb A T (y::r)):AllOb A T (x::y::r):=⟨h,h'⟩
end
section
variable {α:Type} [GoE α]
theorem Qj1 (l:List α):AV.one (.int .i64 ((eL l).length:Int))=AV.one (.int .i64 (l.length:Int)):=by rw[Zj]
theorem Qp {a b:Bool} (h:a=b):AV.one (.bool a)=AV.one (.bool b):=h▸rfl
theorem Qa0 (t:Tok) (n k:Nat) (lo:Int) (l:List α) (hk:lo.toNat=k):AV.one (.slc t n (((eL l).take (Int.toNat ((eL l).length:Int))).drop (Int.toNat lo)))=AV.one (.slc t n (eL (List.drop k l))):=by
 subst hk;rw[Int.toNat_natCast,List.take_length,Qh7]
theorem LI (t:Tok) (n k:Nat) (hi:Int) (l:List α) (hk:hi.toNat=k):AV.one (.slc t n (((eL l).take (Int.toNat hi)).drop (Int.toNat 0)))=AV.one (.slc t n (eL (List.take k l))):=by
 subst hk;rw[Qh6];rfl
theorem RH {l:List α} {i:Int} {k:Nat} {a:α} (h0:0<=i) (hk:i.toNat=k) (h:l[k]? =some a):0<=i/\(eL l)[i.toNat]? =some (enc a):=⟨h0,by rw[hk];exact Qah h⟩
theorem Ig {a b m n:Nat} (ha:a=m) (hb:b=n) (h:m+n<=1073741824):a+b<=1073741824:=by omega
theorem Qg1 {l:List α} {lo hi:Int} (h0:0<=lo) (h1:lo<=hi) (h2:hi<=(l.length:Int)):0<=lo/\lo<=hi/\hi<=((eL l).length:Int):=by rw[Zj];exact ⟨h0,h1,h2⟩
theorem Qa1 {l:List α} {lo:Int} (h0:0<=lo) (h2:lo<=(l.length:Int)):0<=lo/\lo<=((eL l).length:Int)/\((eL l).length:Int)<=((eL l).length:Int):=by rw[Zj];exact ⟨h0,h2,Int.le_refl _⟩
end
theorem Ks {α:Type} [GoE α] {A B:List (List PV)} {a b:List α} (ha:A=eL a) (hb:B=eL b):A++B=eL (a++b):=by rw[ha,hb,Qag]
theorem Qek {α:Type} [GoE α] (n:Nat) (a:α):List.replicate n (enc a)=eL (List.replicate n a):=by simp[eL]
theorem Z2 {α:Type} [BEq α] [LawfulBEq α] {a b:α} (h:(a==b)=false):a≠b:=by simpa using h
theorem T2 {α:Type} [BEq α] [LawfulBEq α] {a b:α} (h:(a !=b)=true):a≠b:=by simpa using h
theorem Wt {α:Type} [BEq α] [LawfulBEq α] {a b:α} (h:(a !=b)=false):a=b:=by simpa using h
theorem Xf {α:Sort _} {c:Bool} {a b r:α} (h:c=true) (e:a=r):(bif c then a else b)=r:=by subst h;exact e
theorem Qs {α:Sort _} {c:Bool} {a b r:α} (h:c=false) (e:b=r):(bif c then a else b)=r:=by subst h;exact e
def lt {α R:Type} (t:α) (f:α->R):R:=f t
inductive Rd (R S T:Type) where
 | next (s:S)
 | brk (t:T)
 | ret (r:R)
inductive Out (R T:Type) where
 | brk (t:T)
 | ret (r:R)
def Out.on {R T:Type} (o:Out R T) (f:T->R):R:=match o with
 | .brk t=>f t
 | .ret r=>r
theorem Wj {R T:Type} {o:Out R T} {f:T->R} {t:T} {r:R} (h:o= .brk t) (e:f t=r):o.on f=r:=by subst h;exact e
theorem Oa {R T:Type} {o:Out R T} {f:T->R} {r:R} (h:o= .ret r):o.on f=r:=by subst h;rfl
def Xp {α R S T:Type} (f:Nat->α->S->Rd R S T) (e:Nat->S->T):List α->Nat->S->Out R T
 | [],k,s=> .brk (e k s)
 | a::l,k,s=>match f k a s with
   | .next s'=>Xp f e l (k+1) s'
   | .brk t=> .brk t
   | .ret r=> .ret r
def Wu {R S T:Type} (f:Nat->S->Rd R S T) (e:Nat->S->T):Nat->Nat->S->Out R T
 | 0,k,s=> .brk (e k s)
 | n+1,k,s=>match f k s with
   | .next s'=>Wu f e n (k+1) s'
   | .brk t=> .brk t
   | .ret r=> .ret r
section
variable {α R S T:Type} {f:Nat->α->S->Rd R S T} {e:Nat->S->T} {l:List α} {k:Nat} {s:S} {a:α} {o:Out R T}
theorem Su (h:l[k]? =some a):l.drop k=a::l.drop (k+1):=by
 obtain ⟨hlt,rfl⟩:=List.getElem?_eq_some_iff.1 h;exact List.drop_eq_getElem_cons hlt
theorem Qr {s':S} (hx:l[k]? =some a) (h:f k a s= .next s') (hI:o=Xp f e (l.drop k) k s):o=Xp f e (l.drop (k+1)) (k+1) s':=by
 rw[hI,Su hx];simp only[Xp,h]
theorem Qel {t:T} (hx:l[k]? =some a) (h:f k a s= .brk t) (hI:o=Xp f e (l.drop k) k s):o= .brk t:=by
 rw[hI,Su hx];simp only[Xp,h]
theorem Jg {r:R} (hx:l[k]? =some a) (h:f k a s= .ret r) (hI:o=Xp f e (l.drop k) k s):o= .ret r:=by
 rw[hI,Su hx];simp only[Xp,h]
theorem Xi {t:T} (hk:k=l.length) (h:e k s=t) (hI:o=Xp f e (l.drop k) k s):o= .brk t:=by
 rw[hI,hk,List.drop_length,←hk];simp only[Xp,h]
end
section
variable {R S T:Type} {f:Nat->S->Rd R S T} {e:Nat->S->T} {n k:Nat} {s:S} {o:Out R T}
theorem Vi {s':S} (hk:k<n) (h:f k s= .next s') (hI:o=Wu f e (n-k) k s):o=Wu f e (n-(k+1)) (k+1) s':=by
 rw[hI,show n-k=n-(k+1)+1 by omega];simp only[Wu,h]
theorem OB {r:R} (hk:k<n) (h:f k s= .ret r) (hI:o=Wu f e (n-k) k s):o= .ret r:=by
 rw[hI,show n-k=n-(k+1)+1 by omega];simp only[Wu,h]
theorem Cw {t:T} (hk:k=n) (h:e k s=t) (hI:o=Wu f e (n-k) k s):o= .brk t:=by
 rw[hI,hk,Nat.sub_self,←hk];simp only[Wu,h]
end
def whl {R S T:Type} (f:S->Rd R S T):Nat->S->Option (Out R T)
 | 0,_=>none
 | n+1,s=>match f s with
   | .next s'=>whl f n s'
   | .brk t=>some (.brk t)
   | .ret r=>some (.ret r)
section
variable {R S T:Type} {f:S->Rd R S T} {n:Nat} {s:S} {o:Out R T}
theorem Qem {s':S} (h:f s= .next s') (hI:whl f (n+1) s=some o):whl f n s'=some o:=by simpa only[whl,h] using hI
theorem Qii {t:T} (h:f s= .brk t) (hI:whl f (n+1) s=some o):o= .brk t:=by simp only[whl,h] at hI;exact (Option.some.inj hI).symm
theorem Qij {r:R} (h:f s= .ret r) (hI:whl f (n+1) s=some o):o= .ret r:=by simp only[whl,h] at hI;exact (Option.some.inj hI).symm
end
instance {R T:Type} [Inhabited T]:Inhabited (Out R T):=⟨.brk default⟩
def Nj {R S T:Type} [Inhabited T] (f:S->Rd R S T) (n:Nat) (s:S):Out R T:=(whl f n s).getD default
theorem Oc {R S T:Type} [Inhabited T] {f:S->Rd R S T} {n:Nat} {s:S} (h:(whl f n s).isSome=true):whl f n s=some (Nj f n s):=by
 unfold Nj;cases hw:whl f n s with
 | none=>rw[hw] at h;cases h
 | some o=>rfl
theorem P9 {R S T:Type} {f:S->Rd R S T} {s:S} {o:Out R T}:¬whl f 0 s=some o:=by simp[whl]
def QL (id:Nat) (A B:St->Prop) (Q:Exit->St->Prop):Exit->St->Prop
 | .normal,s=>A s
 | .exit i,s=>bif Nat.beq i id then B s else Q (.exit i) s
 | e,s=>Q e s
section
variable {P:Program} {N:Nat} {w0:Base} {F0:Nat->Prop} {Q:Exit->St->Prop} {s s':St} {c:Code} {σ τ:Type} {id:Nat}
theorem H1 (mk:Nat->σ->St) (after:τ->St) (I:Nat->σ->Prop) (D:τ->Prop) (len:Nat) (x0:σ) (h0:Weak s (mk 0 x0)) (i0:I 0 x0)
 (hr:∀k x,k<len->I k x->AWP P N w0 F0 c (QL id (fun s'=>∃x',Weak s' (mk (k+1) x')/\I (k+1) x') (fun s'=>∃y,Weak s' (after y)/\D y) Q) (mk k x))
 (he:∀k x,k=len->I k x->AWP P N w0 F0 c (QL id (fun _=>False) (fun s'=>∃y,Weak s' (after y)/\D y) Q) (mk k x))
 (ha:∀y,D y->Q .normal (after y)):AWP P N w0 F0 (.block id (.loop c)) Q s:=by
 refine Qu (P7 h0 (Qd6 (fun n s=>∃k x,k<=len/\n=len-k/\s=mk k x/\I k x) (n:=len) ⟨0,x0,Nat.zero_le _,by omega,rfl,i0⟩ ?_))
 rintro n _ ⟨k,x,hk,rfl,rfl,hi⟩
 have hex:∀(A:St->Prop) (i:Nat) (s':St),QL id A (fun s'=>∃y,Weak s' (after y)/\D y) Q (.exit i) s'->∀(J:Inj) (a:Act) (w:World),Rel N w0 F0 J a w s'->∃J s,Rel N w0 F0 J a w s/\Exit.inBlockS id Q (.exit i) s:=by
  intro A i s' hq J a w hR;simp only[QL] at hq;cases hb:Nat.beq i id with
  | true=>
    rw[hb] at hq;obtain ⟨y,hw,hd⟩:=hq;obtain ⟨J',hR'⟩:=hw N w0 F0 J a w hR;exact ⟨J',_,hR',by simp only[Exit.inBlockS,hb,cond_true];exact ha y hd⟩
  | false=>
    rw[hb] at hq;exact ⟨J,s',hR,by simp only[Exit.inBlockS,hb,cond_false];exact hq⟩
 intro J a w hrel;by_cases h:k<len
 . refine wp_mono (hr k x h hi J a w hrel) ?_
   rintro e a' w' ⟨J',s',hR,hq⟩
   cases e with
   | normal=>
     obtain ⟨x',hw,hi'⟩:=hq;exact ⟨J',s',hR,len-(k+1),_,by omega,hw,k+1,x',by omega,rfl,rfl,hi'⟩
   | exit i=>exact hex _ i s' hq J' a' w' hR
   | _=>exact ⟨J',s',hR,hq⟩
 obtain rfl:k=len:=by omega
 refine wp_mono (he _ x rfl hi J a w hrel) ?_
 rintro e a' w' ⟨J',s',hR,hq⟩
 cases e with
 | normal=>exact hq.elim
 | exit i=>exact hex _ i s' hq J' a' w' hR
 | _=>exact ⟨J',s',hR,hq⟩
theorem RI (mk:σ->St) (after:τ->St) (I:Nat->σ->Prop) (D:τ->Prop) (n:Nat) (x0:σ) (h0:Weak s (mk x0)) (i0:I n x0) (hz:∀x,¬I 0 x)
 (hr:∀n x,I (n+1) x->AWP P N w0 F0 c (QL id (fun s'=>∃x',Weak s' (mk x')/\I n x') (fun s'=>∃y,Weak s' (after y)/\D y) Q) (mk x))
 (ha:∀y,D y->Q .normal (after y)):AWP P N w0 F0 (.block id (.loop c)) Q s:=by
 refine H1 (fun _=>mk) after (fun k x=>∃m,m+k=n/\I m x) D n x0 h0 ⟨n,rfl,i0⟩ (fun k x hk ⟨m,hm,hi⟩=> ?_) (fun k x hk ⟨m,hm,hi⟩=> ?_) ha
 . obtain ⟨m,rfl⟩:∃j,m=j+1:=⟨m-1,by omega⟩;refine Qd5 (hr m x hi) fun e s' hq=> ?_
   cases e with
   | normal=>obtain ⟨x',hw,hi'⟩:=hq;exact ⟨x',hw,m,by omega,hi'⟩
   | _=>exact hq
 obtain rfl:m=0:=by omega
 exact (hz x hi).elim
def QJ (s3:St) (e:Exit) (s':St):Prop:=e= .normal/\Weak s' s3
theorem Qen (s3:St) (b:Bool) (h1:b=true->AWP P N w0 F0 c (QJ s3) s) (h0:b=false->AWP P N w0 F0 c (QJ s3) s) (hQ:Q .normal s3):AWP P N w0 F0 c Q s:=by
 have key:AWP P N w0 F0 c (QJ s3) s:=by cases hb:b with
  | true=>exact h1 hb
  | false=>exact h0 hb
 intro J a w hr;refine wp_mono (key J a w hr) ?_
 rintro e a' w' ⟨J',s',hR,rfl,hw⟩
 obtain ⟨J2,hR2⟩:=hw N w0 F0 J' a' w' hR;exact ⟨J2,s3,hR2,hQ⟩
theorem X5 (b:Bool) (h1:b=true->AWP P N w0 F0 c Q s) (h0:b=false->AWP P N w0 F0 c Q s):AWP P N w0 F0 c Q s:=by cases hb:b with
 | true=>exact h1 hb
 | false=>exact h0 hb
theorem Qa2 {t:Nat} {x y:Code} (hc:get s.tm t=some (.one (.bool true))) (h1:AWP P N w0 F0 x Q s):AWP P N w0 F0 (.cond (.tmp t) x y) Q s:=Tu hc (fun _=>h1) (fun h=>by cases h)
theorem Qa3 {t:Nat} {x y:Code} (hc:get s.tm t=some (.one (.bool false))) (h1:AWP P N w0 F0 y Q s):AWP P N w0 F0 (.cond (.tmp t) x y) Q s:=Tu hc (fun h=>by cases h) (fun _=>h1)
theorem RJ {t:Nat} {x y:Code} {b:Bool} (hc:get s.tm t=some (.one (.bool b))) (hb:b=true) (h1:AWP P N w0 F0 x Q s):AWP P N w0 F0 (.cond (.tmp t) x y) Q s:=Tu hc (fun _=>h1) (fun h=>absurd (hb.symm.trans h) (by decide))
theorem RK {t:Nat} {x y:Code} {b:Bool} (hc:get s.tm t=some (.one (.bool b))) (hb:b=false) (h1:AWP P N w0 F0 y Q s):AWP P N w0 F0 (.cond (.tmp t) x y) Q s:=Tu hc (fun h=>absurd (hb.symm.trans h) (by decide)) (fun _=>h1)
end
theorem UP {a b:Bool} (h:(a&&b)=true):a=true:=by cases a<;>simp_all
theorem CJ {a b:Bool} (h:(a&&b)=true):b=true:=by cases a<;>simp_all
theorem Rc {a b:Bool} (h:(a|| b)=false):a=false:=by cases a<;>simp_all
theorem Re {a b:Bool} (h:(a|| b)=false):b=false:=by cases a<;>simp_all
theorem Vd {b:Bool} (h:(!b)=true):b=false:=by cases b<;>simp_all
theorem Y3 {b:Bool} (h:(!b)=false):b=true:=by cases b<;>simp_all
def Qik {α:Type} (d:List Nat):List (Nat×α)->List (Nat×α)
 | []=> []
 | p::r=>bif O9 p.1 d then Qik d r else p::Qik d r
def Qlo {α:Type} (u:List (Nat×α)) (d:List Nat) (l:List (Nat×α)):List (Nat×α):=u++Qik d l
def Od {α:Type}:List (Nat×α)->List Nat
 | []=> []
 | p::r=>p.1::Od r
def St.up (s:St) (u:List (Nat×AV)) (d:List Nat) (bu:List (Nat×List C)) (bd:List Nat):St:=⟨Qlo u d s.tm,Qlo bu bd s.bx⟩
def St.fit (s s':St):St:=s.keep (Od s'.tm) (Od s'.bx)
theorem Qd {s s':St} (h:s.fit s'=s'):Weak s s':=Qaa _ _ h
def St.cellT (s:St) (t i:Nat):Option C:=match get s.tm t with
 | some (.one c)=>(match i with | 0=>some c | _=>none)
 | some (.agg cs)=>cs[i]?
 | _=>none
def St.cellB (s:St) (b i:Nat):Option C:=match get s.bx b with
 | some cs=>cs[i]?
 | _=>none
section
variable {P:Program} {N:Nat} {w0:Base} {F0:Nat->Prop} {Q:Exit->St->Prop} {s:St} {c:Code}
theorem ck {t:Nat} {x y:Code} (b:Bool) (h1:b=true->AWP P N w0 F0 x Q s) (h2:b=false->AWP P N w0 F0 y Q s) (hc:get s.tm t=some (.one (.bool b)):=by kernel_rfl):AWP P N w0 F0 (.cond (.tmp t) x y) Q s:=Tu hc h1 h2
theorem ckT {t:Nat} {x y:Code} (h1:AWP P N w0 F0 x Q s) (hc:get s.tm t=some (.one (.bool true)):=by kernel_rfl):AWP P N w0 F0 (.cond (.tmp t) x y) Q s:=Qa2 hc h1
theorem ckF {t:Nat} {x y:Code} (h1:AWP P N w0 F0 y Q s) (hc:get s.tm t=some (.one (.bool false)):=by kernel_rfl):AWP P N w0 F0 (.cond (.tmp t) x y) Q s:=Qa3 hc h1
theorem ckt {t:Nat} {x y:Code} {b:Bool} (hb:b=true) (h1:AWP P N w0 F0 x Q s) (hc:get s.tm t=some (.one (.bool b)):=by kernel_rfl):AWP P N w0 F0 (.cond (.tmp t) x y) Q s:=RJ hc hb h1
theorem ckf {t:Nat} {x y:Code} {b:Bool} (hb:b=false) (h1:AWP P N w0 F0 y Q s) (hc:get s.tm t=some (.one (.bool b)):=by kernel_rfl):AWP P N w0 F0 (.cond (.tmp t) x y) Q s:=RK hc hb h1
theorem jn (u:List (Nat×AV)) (d:List Nat) (bu:List (Nat×List C)) (bd:List Nat) (b:Bool) (h1:b=true->AWP P N w0 F0 c (QJ (s.up u d bu bd)) s) (h0:b=false->AWP P N w0 F0 c (QJ (s.up u d bu bd)) s) (hQ:Q .normal (s.up u d bu bd)):AWP P N w0 F0 c Q s:=Qen _ b h1 h0 hQ
theorem eqn (u:List (Nat×AV)) (d:List Nat) (bu:List (Nat×List C)) (bd:List Nat) (h:s.fit (s.up u d bu bd)=s.up u d bu bd) (k:AWP P N w0 F0 c Q (s.up u d bu bd)):AWP P N w0 F0 c Q s:=P7 (Qd h) k
theorem Qa4 {J:Inj} {a:Act} {w:World} (h:Rel N w0 F0 J a w s) {t i:Nat} {x:C} (hc:s.cellT t i=some x):∃u,CR J w u x:=by
 unfold St.cellT at hc;split at hc
 . rename_i y hg;split at hc
   . obtain rfl:=Option.some.inj hc;exact ⟨_,h.tm t _ hg⟩
   cases hc
 . rename_i cs hg;obtain ⟨vs,_,ha⟩:=h.tm t _ hg;obtain ⟨u,_,hu⟩:=ha.get' hc;exact ⟨u,hu⟩
 cases hc
theorem Qil {J:Inj} {a:Act} {w:World} (h:Rel N w0 F0 J a w s) {b i:Nat} {x:C} (hc:s.cellB b i=some x):∃u,CR J w u x:=by
 unfold St.cellB at hc;split at hc
 . rename_i cs hg;obtain ⟨_,_,_,arr,e,_,ha⟩:=h.bo b _ hg;obtain ⟨u,_,hu⟩:=ha.get' hc;exact ⟨u,hu⟩
 cases hc
theorem wdT {α:Type} [GoE α] (t i:Nat) (tok:Tok) (l:List α) (k:wide l->AWP P N w0 F0 c Q s) (h:s.cellT t i=some (.slc tok (GoD.n α) (eL l)):=by kernel_rfl):AWP P N w0 F0 c Q s:=fun J a w hr=>k (by obtain ⟨u,hu⟩:=Qa4 hr h;exact EZ hu) J a w hr
theorem wdB {α:Type} [GoE α] (b i:Nat) (tok:Tok) (l:List α) (k:wide l->AWP P N w0 F0 c Q s) (h:s.cellB b i=some (.slc tok (GoD.n α) (eL l)):=by kernel_rfl):AWP P N w0 F0 c Q s:=fun J a w hr=>k (by obtain ⟨u,hu⟩:=Qil hr h;exact EZ hu) J a w hr
theorem stT (t i:Nat) (x:ByteArray) (k:x.size<=9223372036854775807->AWP P N w0 F0 c Q s) (h:s.cellT t i=some (.str x):=by kernel_rfl):AWP P N w0 F0 c Q s:=fun J a w hr=>k (by obtain ⟨u,hu⟩:=Qa4 hr h;exact hu.2) J a w hr
theorem blk {σ τ:Type} {id:Nat} (u:Nat->σ->List (Nat×AV)) (d:List Nat) (bu:Nat->σ->List (Nat×List C)) (bd:List Nat) (ua:τ->List (Nat×AV)) (da:List Nat) (ba:τ->List (Nat×List C)) (bda:List Nat) (I:Nat->σ->Prop) (D:τ->Prop) (len:Nat) (x0:σ)
 (h0:Weak s (s.up (u 0 x0) d (bu 0 x0) bd)) (i0:I 0 x0)
 (hr:∀k x,k<len->I k x->AWP P N w0 F0 c (QL id (fun s'=>∃x',Weak s' (s.up (u (k+1) x') d (bu (k+1) x') bd)/\I (k+1) x') (fun s'=>∃y,Weak s' (s.up (ua y) da (ba y) bda)/\D y) Q) (s.up (u k x) d (bu k x) bd))
 (he:∀k x,k=len->I k x->AWP P N w0 F0 c (QL id (fun _=>False) (fun s'=>∃y,Weak s' (s.up (ua y) da (ba y) bda)/\D y) Q) (s.up (u k x) d (bu k x) bd))
 (ha:∀y,D y->Q .normal (s.up (ua y) da (ba y) bda)):AWP P N w0 F0 (.block id (.loop c)) Q s:=H1 _ _ I D len x0 h0 i0 hr he ha
theorem blw {σ τ:Type} {id:Nat} (u:σ->List (Nat×AV)) (d:List Nat) (bu:σ->List (Nat×List C)) (bd:List Nat) (ua:τ->List (Nat×AV)) (da:List Nat) (ba:τ->List (Nat×List C)) (bda:List Nat) (I:Nat->σ->Prop) (D:τ->Prop) (n:Nat) (x0:σ)
 (h0:Weak s (s.up (u x0) d (bu x0) bd)) (i0:I n x0) (hz:∀x,¬I 0 x)
 (hr:∀n x,I (n+1) x->AWP P N w0 F0 c (QL id (fun s'=>∃x',Weak s' (s.up (u x') d (bu x') bd)/\I n x') (fun s'=>∃y,Weak s' (s.up (ua y) da (ba y) bda)/\D y) Q) (s.up (u x) d (bu x) bd))
 (ha:∀y,D y->Q .normal (s.up (ua y) da (ba y) bda)):AWP P N w0 F0 (.block id (.loop c)) Q s:=RI _ _ I D n x0 h0 i0 hz hr ha
end
theorem Jh {a b:Int} (h:a=b):AV.i a=AV.i b:=h▸rfl
theorem cb {P:Program} {f:Nat} {args:List AV} {a b:Bool} (h:a=b) (c:ACalls P f args (.b a)):ACalls P f args (.b b):=h▸c
theorem Xl {s s':St} (sw:List (Nat×Nat)) (h:(s.swaps sw).fit s'=s'):Weak s s':=(HW sw s).trans (Qd h)
theorem M2 {s s':St} (os:List (Bool×Nat×Nat×Bool×Nat×Nat)) (fz ds:List Nat) (sw:List (Nat×Nat)) (h:((((s.opens os).map (Uk (X9 fz) none)).demotes ds).swaps sw).fit s'=s'):Weak s s':=
 (XS os s).trans ((N8 fz rfl).trans ((Pd ds _).trans (Xl sw h)))
theorem opn {P:Program} {N:Nat} {w0:Base} {F0:Nat->Prop} {Q:Exit->St->Prop} {s:St} {c:Code} (l:List (Bool×Nat×Nat×Bool×Nat×Nat)) (h:AWP P N w0 F0 c Q (s.opens l)):AWP P N w0 F0 c Q s:=Qac l rfl h
open GoE (enc wide)
def PL (A:Nat->List AV->AV->Prop) (T:TakeT) (_:List (Nat×Orc)) (obs:List Ob):Prop:=AllOb A T obs
section
variable {A:Nat->List AV->AV->Prop} {T:TakeT} {orcs:List (Nat×Orc)} {obs:List Ob}
theorem Nk {x:Ob} {r:List Ob} (h:x.holds A T) (k:AllOb A T r):AllOb A T (x::r):=by
 cases r with
 | nil=>exact h
 | cons y r=>exact ⟨h,k⟩
theorem p0:PL A T [] []:=trivial
theorem px {x:Ob} (h:x.holds A T) (k:PL A T orcs obs):PL A T orcs (x::obs):=Nk h k
theorem po (i:Nat) (o:Orc) (k:PL A T orcs obs):PL A T ((i,o)::orcs) obs:=k
theorem pe (i:Nat) {a b:AV} (h:a=b) (k:PL A T orcs obs):PL A T ((i, .val b)::orcs) (.eq a b::obs):=Nk (x:= .eq a b) h k
theorem pr (i:Nat) {l:List (List PV)} {j:Int} {r:List PV} (h:0<=j/\l[j.toNat]? =some r) (k:PL A T orcs obs):PL A T ((i, .row r)::orcs) (.elem l j r::obs):=Nk (x:= .elem l j r) h k
theorem pR (i:Nat) {l:List (List PV)} {j:Int} {r:List PV} (h:0<=j/\l[j.toNat]? =some r) (k:PL A T orcs obs):PL A T ((i, .rowE r)::orcs) (.elem l j r::obs):=Nk (x:= .elem l j r) h k
end
section
variable {P:Program} {w0:Base} {T:TakeT} {orcs:List (Nat×Orc)} {obs:List Ob}
theorem pc [GoodAt P w0] (i:Nat) {f:Nat} {args:List AV} {r:AV} (h:ACalls P f args r) (k:PL (Zy P w0) T orcs obs):PL (Zy P w0) T ((i, .val r)::orcs) (.call f args r::obs):=Nk (Qib h) k
end
section
variable {A:Nat->List AV->AV->Prop} {T:TakeT} {orcs:List (Nat×Orc)} {obs:List Ob}
theorem pl (i:Nat) {α:Type} [GoE α] (l:List α) (k:PL A T orcs obs):PL A T ((i, .val (.i (l.length:Int)))::orcs) (.eq (.one (.int .i64 ((eL l).length:Int))) (.i (l.length:Int))::obs):=pe i (Qj1 l) k
theorem pt (i:Nat) {b:Bool} (h:b=true) (k:PL A T orcs obs):PL A T ((i, .val (.b true))::orcs) (.eq (.one (.bool b)) (.b true)::obs):=pe i (Qp h) k
theorem pf (i:Nat) {b:Bool} (h:b=false) (k:PL A T orcs obs):PL A T ((i, .val (.b false))::orcs) (.eq (.one (.bool b)) (.b false)::obs):=pe i (Qp h) k
theorem pg (i:Nat) {α:Type} [GoE α] {l:List α} (j:Int) {k:Nat} {a:α} (h:l[k]? =some a) (r:PL A T orcs obs) (h0:0<=j:=by omega) (hk:j.toNat=k:=by rfl):PL A T ((i, .row (enc a))::orcs) (.elem (eL l) j (enc a)::obs):=pr i (RH h0 hk h) r
theorem pG (i:Nat) {α:Type} [GoE α] {l:List α} (j:Int) {k:Nat} {a:α} (h:l[k]? =some a) (r:PL A T orcs obs) (h0:0<=j:=by omega) (hk:j.toNat=k:=by rfl):PL A T ((i, .rowE (enc a))::orcs) (.elem (eL l) j (enc a)::obs):=pR i (RH h0 hk h) r
theorem pn (i:Nat) {α:Type} [GoE α] {l:List α} {k:Nat} {a:α} (h:l[k]? =some a) (r:PL A T orcs obs):PL A T ((i, .row (enc a))::orcs) (.elem (eL l) (k:Int) (enc a)::obs):=pr i (RH (Int.natCast_nonneg k) rfl h) r
theorem pN (i:Nat) {α:Type} [GoE α] {l:List α} {k:Nat} {a:α} (h:l[k]? =some a) (r:PL A T orcs obs):PL A T ((i, .rowE (enc a))::orcs) (.elem (eL l) (k:Int) (enc a)::obs):=pR i (RH (Int.natCast_nonneg k) rfl h) r
theorem pa {α:Type} [GoE α] (a b:List α) (r:PL A T orcs obs) (h:a.length+b.length<=1073741824:=by first | omega | (simp only[List.length_cons,List.length_nil];omega) | (simp;omega) | simp):PL A T orcs (.len ((eL a).length+(eL b).length)::obs):=px (Ff (Ig (Zj a) (Zj b) h)) r
end
def nx (tt:List (Nat×TI)) (N:Nat) (orcs:List (Nat×Orc)) (ops:List Oper) (ts bs:List Nat) (s:St):St:=match Ov tt N orcs ops ops 0 s with
 | some (s',_)=>s'.keep ts bs
 | none=>s
def nd (tt:List (Nat×TI)) (N:Nat) (orcs:List (Nat×Orc)) (ops:List Oper) (ts bs:List Nat) (s:St):St:=match Gf tt N orcs ops ts bs s with
 | some (s',_)=>s'
 | none=>s
def hd (x _:St):St:=x
section
variable {P:Program} {N:Nat} {w0:Base} {F0:Nat->Prop} {Q:Exit->St->Prop} {s x:St} {c y:Code} {tt:List (Nat×TI)} {orcs:List (Nat×Orc)} {obs:List Ob} {id:Nat} {ops:Array Oper}
theorem rn0 (htt:Me P tt=true) (ts bs:List Nat) (hob:PL (Zy P w0) (Ud P w0) orcs obs) (hQ:Q .normal (nx tt N orcs ops.toList ts bs s))
 (h:(Ov tt N orcs ops.toList ops.toList 0 s).map Prod.snd=some obs):AWP P N w0 F0 (.region id ops false) Q s:=by
 cases hr:Ov tt N orcs ops.toList ops.toList 0 s with
 | none=>rw[hr] at h;cases h
 | some x=>
   obtain ⟨s',obs'⟩:=x;rw[hr] at h;obtain rfl:obs'=obs:=Option.some.inj h;refine So htt orcs ts bs (s':=nx tt N orcs ops.toList ts bs s) ?_ hob hQ;unfold Sn nx;rw[hr]
theorem rN0 (htt:Me P tt=true) (hm:P.follows .mixedOrders=true) (ts bs:List Nat) (hob:PL (Zy P w0) (Ud P w0) orcs obs) (hQ:Q .normal (nd tt N orcs ops.toList ts bs s))
 (h:(Gf tt N orcs ops.toList ts bs s).map Prod.snd=some obs):AWP P N w0 F0 (.region id ops true) Q s:=by
 cases hr:Gf tt N orcs ops.toList ts bs s with
 | none=>rw[hr] at h;cases h
 | some x=>
   obtain ⟨s',obs'⟩:=x;rw[hr] at h;obtain rfl:obs'=obs:=Option.some.inj h;refine CG htt hm orcs ts bs (s':=nd tt N orcs ops.toList ts bs s) ?_ hob hQ;unfold nd;rw[hr]
theorem rn (htt:Me P tt=true) (ts bs:List Nat) (hob:PL (Zy P w0) (Ud P w0) orcs obs) (hQ:Q .normal (hd (nx tt N orcs ops.toList ts bs s) s))
 (h:(Ov tt N orcs ops.toList ops.toList 0 s).map Prod.snd=some obs:=by kernel_rfl):AWP P N w0 F0 (.region id ops false) Q s:=rn0 htt ts bs (s:=s) hob hQ h
theorem sn (htt:Me P tt=true) (ts bs:List Nat) (hob:PL (Zy P w0) (Ud P w0) orcs obs) (hQ:AWP P N w0 F0 y Q (hd (nx tt N orcs ops.toList ts bs s) s))
 (h:(Ov tt N orcs ops.toList ops.toList 0 s).map Prod.snd=some obs:=by kernel_rfl):AWP P N w0 F0 (.seq (.region id ops false) y) Q s:=Qc (rn htt ts bs hob hQ h)
theorem ru (htt:Me P tt=true) (u:List (Nat×AV)) (d:List Nat) (bu:List (Nat×List C)) (bd:List Nat) (hob:PL (Zy P w0) (Ud P w0) orcs obs) (hQ:Q .normal (s.up u d bu bd))
 (h:Sn tt N orcs ops.toList (Od (s.up u d bu bd).tm) (Od (s.up u d bu bd).bx) s=some (s.up u d bu bd,obs):=by kernel_rfl):AWP P N w0 F0 (.region id ops false) Q s:=So htt orcs _ _ (s:=s) h hob hQ
theorem su (htt:Me P tt=true) (u:List (Nat×AV)) (d:List Nat) (bu:List (Nat×List C)) (bd:List Nat) (hob:PL (Zy P w0) (Ud P w0) orcs obs) (hQ:AWP P N w0 F0 y Q (s.up u d bu bd))
 (h:Sn tt N orcs ops.toList (Od (s.up u d bu bd).tm) (Od (s.up u d bu bd).bx) s=some (s.up u d bu bd,obs):=by kernel_rfl):AWP P N w0 F0 (.seq (.region id ops false) y) Q s:=Qc (ru htt u d bu bd hob hQ h)
theorem rN (htt:Me P tt=true) (hm:P.follows .mixedOrders=true) (ts bs:List Nat) (hob:PL (Zy P w0) (Ud P w0) orcs obs) (hQ:Q .normal (hd (nd tt N orcs ops.toList ts bs s) s))
 (h:(Gf tt N orcs ops.toList ts bs s).map Prod.snd=some obs:=by kernel_rfl):AWP P N w0 F0 (.region id ops true) Q s:=rN0 htt hm ts bs (s:=s) hob hQ h
theorem sN (htt:Me P tt=true) (hm:P.follows .mixedOrders=true) (ts bs:List Nat) (hob:PL (Zy P w0) (Ud P w0) orcs obs) (hQ:AWP P N w0 F0 y Q (hd (nd tt N orcs ops.toList ts bs s) s))
 (h:(Gf tt N orcs ops.toList ts bs s).map Prod.snd=some obs:=by kernel_rfl):AWP P N w0 F0 (.seq (.region id ops true) y) Q s:=Qc (rN htt hm ts bs hob hQ h)
theorem rU (htt:Me P tt=true) (hm:P.follows .mixedOrders=true) (u:List (Nat×AV)) (d:List Nat) (bu:List (Nat×List C)) (bd:List Nat) (hob:PL (Zy P w0) (Ud P w0) orcs obs) (hQ:Q .normal (s.up u d bu bd))
 (h:Gf tt N orcs ops.toList (Od (s.up u d bu bd).tm) (Od (s.up u d bu bd).bx) s=some (s.up u d bu bd,obs):=by kernel_rfl):AWP P N w0 F0 (.region id ops true) Q s:=CG htt hm orcs _ _ (s:=s) h hob hQ
theorem sU (htt:Me P tt=true) (hm:P.follows .mixedOrders=true) (u:List (Nat×AV)) (d:List Nat) (bu:List (Nat×List C)) (bd:List Nat) (hob:PL (Zy P w0) (Ud P w0) orcs obs) (hQ:AWP P N w0 F0 y Q (s.up u d bu bd))
 (h:Gf tt N orcs ops.toList (Od (s.up u d bu bd).tm) (Od (s.up u d bu bd).bx) s=some (s.up u d bu bd,obs):=by kernel_rfl):AWP P N w0 F0 (.seq (.region id ops true) y) Q s:=Qc (rU htt hm u d bu bd hob hQ h)
theorem qn (htt:Me P tt=true) (ts bs:List Nat) (hob:PL (Zy P w0) (Ud P w0) orcs obs) (hQ:Q .normal (hd (nx tt N orcs ops.toList ts bs x) s))
 (h:(Ov tt N orcs ops.toList ops.toList 0 x).map Prod.snd=some obs:=by kernel_rfl):AWP P N w0 F0 (.region id ops false) Q (hd x s):=rn0 htt ts bs (s:=x) hob hQ h
theorem tn (htt:Me P tt=true) (ts bs:List Nat) (hob:PL (Zy P w0) (Ud P w0) orcs obs) (hQ:AWP P N w0 F0 y Q (hd (nx tt N orcs ops.toList ts bs x) s))
 (h:(Ov tt N orcs ops.toList ops.toList 0 x).map Prod.snd=some obs:=by kernel_rfl):AWP P N w0 F0 (.seq (.region id ops false) y) Q (hd x s):=Qc (qn htt ts bs hob hQ h)
theorem qu (htt:Me P tt=true) (u:List (Nat×AV)) (d:List Nat) (bu:List (Nat×List C)) (bd:List Nat) (hob:PL (Zy P w0) (Ud P w0) orcs obs) (hQ:Q .normal (s.up u d bu bd))
 (h:Sn tt N orcs ops.toList (Od (s.up u d bu bd).tm) (Od (s.up u d bu bd).bx) x=some (s.up u d bu bd,obs):=by kernel_rfl):AWP P N w0 F0 (.region id ops false) Q (hd x s):=So htt orcs _ _ (s:=x) h hob hQ
theorem tu (htt:Me P tt=true) (u:List (Nat×AV)) (d:List Nat) (bu:List (Nat×List C)) (bd:List Nat) (hob:PL (Zy P w0) (Ud P w0) orcs obs) (hQ:AWP P N w0 F0 y Q (s.up u d bu bd))
 (h:Sn tt N orcs ops.toList (Od (s.up u d bu bd).tm) (Od (s.up u d bu bd).bx) x=some (s.up u d bu bd,obs):=by kernel_rfl):AWP P N w0 F0 (.seq (.region id ops false) y) Q (hd x s):=Qc (qu htt u d bu bd hob hQ h)
theorem qN (htt:Me P tt=true) (hm:P.follows .mixedOrders=true) (ts bs:List Nat) (hob:PL (Zy P w0) (Ud P w0) orcs obs) (hQ:Q .normal (hd (nd tt N orcs ops.toList ts bs x) s))
 (h:(Gf tt N orcs ops.toList ts bs x).map Prod.snd=some obs:=by kernel_rfl):AWP P N w0 F0 (.region id ops true) Q (hd x s):=rN0 htt hm ts bs (s:=x) hob hQ h
theorem tN (htt:Me P tt=true) (hm:P.follows .mixedOrders=true) (ts bs:List Nat) (hob:PL (Zy P w0) (Ud P w0) orcs obs) (hQ:AWP P N w0 F0 y Q (hd (nd tt N orcs ops.toList ts bs x) s))
 (h:(Gf tt N orcs ops.toList ts bs x).map Prod.snd=some obs:=by kernel_rfl):AWP P N w0 F0 (.seq (.region id ops true) y) Q (hd x s):=Qc (qN htt hm ts bs hob hQ h)
theorem qU (htt:Me P tt=true) (hm:P.follows .mixedOrders=true) (u:List (Nat×AV)) (d:List Nat) (bu:List (Nat×List C)) (bd:List Nat) (hob:PL (Zy P w0) (Ud P w0) orcs obs) (hQ:Q .normal (s.up u d bu bd))
 (h:Gf tt N orcs ops.toList (Od (s.up u d bu bd).tm) (Od (s.up u d bu bd).bx) x=some (s.up u d bu bd,obs):=by kernel_rfl):AWP P N w0 F0 (.region id ops true) Q (hd x s):=CG htt hm orcs _ _ (s:=x) h hob hQ
theorem tU (htt:Me P tt=true) (hm:P.follows .mixedOrders=true) (u:List (Nat×AV)) (d:List Nat) (bu:List (Nat×List C)) (bd:List Nat) (hob:PL (Zy P w0) (Ud P w0) orcs obs) (hQ:AWP P N w0 F0 y Q (s.up u d bu bd))
 (h:Gf tt N orcs ops.toList (Od (s.up u d bu bd).tm) (Od (s.up u d bu bd).bx) x=some (s.up u d bu bd,obs):=by kernel_rfl):AWP P N w0 F0 (.seq (.region id ops true) y) Q (hd x s):=Qc (qU htt hm u d bu bd hob hQ h)
theorem mz (u:List (Nat×AV)) (d:List Nat) (bu:List (Nat×List C)) (bd:List Nat) (k:AWP P N w0 F0 c Q (s.up u d bu bd)) (h:x.fit (s.up u d bu bd)=s.up u d bu bd:=by kernel_rfl):AWP P N w0 F0 c Q (hd x s):=P7 (s:=x) (Qd h) k
theorem wT {α:Type} [GoE α] (t i:Nat) (tok:Tok) (l:List α) (k:wide l->l.length<=1073741824->AWP P N w0 F0 c Q s) (h:s.cellT t i=some (.slc tok (GoD.n α) (eL l)):=by kernel_rfl):AWP P N w0 F0 c Q s:=wdT t i tok l (fun hw=>k hw (I5 hw)) h
theorem wB {α:Type} [GoE α] (b i:Nat) (tok:Tok) (l:List α) (k:wide l->l.length<=1073741824->AWP P N w0 F0 c Q s) (h:s.cellB b i=some (.slc tok (GoD.n α) (eL l)):=by kernel_rfl):AWP P N w0 F0 c Q s:=wdB b i tok l (fun hw=>k hw (I5 hw)) h
end
section
variable {P:Program} {N:Nat} {w0:Base} {F0:Nat->Prop} {Q:Exit->St->Prop} {s:St} {c:Code} {α R σ τ:Type} {id:Nat}
theorem Ox (f:Nat->α->σ->Rd R σ τ) (e:Nat->σ->τ) (l:List α) (x0:σ) (u:Nat->σ->List (Nat×AV)) (d:List Nat) (ua:τ->List (Nat×AV)) (da:List Nat)
 (h0:Weak s (s.up (u 0 x0) d [] []))
 (hr:∀k x,k<l.length->Xp f e l 0 x0=Xp f e (l.drop k) k x->AWP P N w0 F0 c (QL id (fun s'=>∃x',Weak s' (s.up (u (k+1) x') d [] [])/\(Xp f e l 0 x0=Xp f e (l.drop (k+1)) (k+1) x')) (fun s'=>∃y,Weak s' (s.up (ua y) da [] [])/\Xp f e l 0 x0= .brk y) Q) (s.up (u k x) d [] []))
 (he:∀k x,k=l.length->Xp f e l 0 x0=Xp f e (l.drop k) k x->AWP P N w0 F0 c (QL id (fun _=>False) (fun s'=>∃y,Weak s' (s.up (ua y) da [] [])/\Xp f e l 0 x0= .brk y) Q) (s.up (u k x) d [] []))
 (ha:∀y,Xp f e l 0 x0= .brk y->Q .normal (s.up (ua y) da [] [])):AWP P N w0 F0 (.block id (.loop c)) Q s:=H1 (fun k x=>s.up (u k x) d [] []) (fun y=>s.up (ua y) da [] []) (fun k x=>Xp f e l 0 x0=Xp f e (l.drop k) k x) (fun y=>Xp f e l 0 x0= .brk y) l.length x0 h0 rfl hr he ha
theorem XY (f:Nat->α->σ->Rd R σ τ) (e:Nat->σ->τ) (l:List α) (x0:σ) (u:Nat->σ->List (Nat×AV)) (d:List Nat) (ua:τ->List (Nat×AV)) (da:List Nat) (A:Nat->σ->Prop)
 (h0:Weak s (s.up (u 0 x0) d [] [])) (i0:A 0 x0)
 (hr:∀k x,k<l.length->Xp f e l 0 x0=Xp f e (l.drop k) k x/\A k x->AWP P N w0 F0 c (QL id (fun s'=>∃x',Weak s' (s.up (u (k+1) x') d [] [])/\(Xp f e l 0 x0=Xp f e (l.drop (k+1)) (k+1) x'/\A (k+1) x')) (fun s'=>∃y,Weak s' (s.up (ua y) da [] [])/\Xp f e l 0 x0= .brk y) Q) (s.up (u k x) d [] []))
 (he:∀k x,k=l.length->Xp f e l 0 x0=Xp f e (l.drop k) k x/\A k x->AWP P N w0 F0 c (QL id (fun _=>False) (fun s'=>∃y,Weak s' (s.up (ua y) da [] [])/\Xp f e l 0 x0= .brk y) Q) (s.up (u k x) d [] []))
 (ha:∀y,Xp f e l 0 x0= .brk y->Q .normal (s.up (ua y) da [] [])):AWP P N w0 F0 (.block id (.loop c)) Q s:=H1 (fun k x=>s.up (u k x) d [] []) (fun y=>s.up (ua y) da [] []) (fun k x=>Xp f e l 0 x0=Xp f e (l.drop k) k x/\A k x) (fun y=>Xp f e l 0 x0= .brk y) l.length x0 h0 ⟨rfl,i0⟩ hr he ha
theorem Qlu (f:Nat->α->σ->Rd R σ τ) (e:Nat->σ->τ) (l:List α) (x0:σ) (u:Nat->σ->List (Nat×AV)) (d:List Nat) (ua:τ->List (Nat×AV)) (da:List Nat) (B:τ->Prop)
 (h0:Weak s (s.up (u 0 x0) d [] []))
 (hr:∀k x,k<l.length->Xp f e l 0 x0=Xp f e (l.drop k) k x->AWP P N w0 F0 c (QL id (fun s'=>∃x',Weak s' (s.up (u (k+1) x') d [] [])/\(Xp f e l 0 x0=Xp f e (l.drop (k+1)) (k+1) x')) (fun s'=>∃y,Weak s' (s.up (ua y) da [] [])/\(Xp f e l 0 x0= .brk y/\B y)) Q) (s.up (u k x) d [] []))
 (he:∀k x,k=l.length->Xp f e l 0 x0=Xp f e (l.drop k) k x->AWP P N w0 F0 c (QL id (fun _=>False) (fun s'=>∃y,Weak s' (s.up (ua y) da [] [])/\(Xp f e l 0 x0= .brk y/\B y)) Q) (s.up (u k x) d [] []))
 (ha:∀y,Xp f e l 0 x0= .brk y/\B y->Q .normal (s.up (ua y) da [] [])):AWP P N w0 F0 (.block id (.loop c)) Q s:=H1 (fun k x=>s.up (u k x) d [] []) (fun y=>s.up (ua y) da [] []) (fun k x=>Xp f e l 0 x0=Xp f e (l.drop k) k x) (fun y=>Xp f e l 0 x0= .brk y/\B y) l.length x0 h0 rfl hr he ha
theorem Qa5 (f:Nat->α->σ->Rd R σ τ) (e:Nat->σ->τ) (l:List α) (x0:σ) (u:Nat->σ->List (Nat×AV)) (d:List Nat) (ua:τ->List (Nat×AV)) (da:List Nat) (A:Nat->σ->Prop) (B:τ->Prop)
 (h0:Weak s (s.up (u 0 x0) d [] [])) (i0:A 0 x0)
 (hr:∀k x,k<l.length->Xp f e l 0 x0=Xp f e (l.drop k) k x/\A k x->AWP P N w0 F0 c (QL id (fun s'=>∃x',Weak s' (s.up (u (k+1) x') d [] [])/\(Xp f e l 0 x0=Xp f e (l.drop (k+1)) (k+1) x'/\A (k+1) x')) (fun s'=>∃y,Weak s' (s.up (ua y) da [] [])/\(Xp f e l 0 x0= .brk y/\B y)) Q) (s.up (u k x) d [] []))
 (he:∀k x,k=l.length->Xp f e l 0 x0=Xp f e (l.drop k) k x/\A k x->AWP P N w0 F0 c (QL id (fun _=>False) (fun s'=>∃y,Weak s' (s.up (ua y) da [] [])/\(Xp f e l 0 x0= .brk y/\B y)) Q) (s.up (u k x) d [] []))
 (ha:∀y,Xp f e l 0 x0= .brk y/\B y->Q .normal (s.up (ua y) da [] [])):AWP P N w0 F0 (.block id (.loop c)) Q s:=H1 (fun k x=>s.up (u k x) d [] []) (fun y=>s.up (ua y) da [] []) (fun k x=>Xp f e l 0 x0=Xp f e (l.drop k) k x/\A k x) (fun y=>Xp f e l 0 x0= .brk y/\B y) l.length x0 h0 ⟨rfl,i0⟩ hr he ha
theorem Qj2 (f:Nat->α->σ->Rd R σ τ) (e:Nat->σ->τ) (l:List α) (x0:σ) (u:Nat->σ->List (Nat×AV)) (d:List Nat) (bu:Nat->σ->List (Nat×List C)) (bd:List Nat) (ua:τ->List (Nat×AV)) (da:List Nat) (ba:τ->List (Nat×List C)) (bda:List Nat)
 (h0:Weak s (s.up (u 0 x0) d (bu 0 x0) bd))
 (hr:∀k x,k<l.length->Xp f e l 0 x0=Xp f e (l.drop k) k x->AWP P N w0 F0 c (QL id (fun s'=>∃x',Weak s' (s.up (u (k+1) x') d (bu (k+1) x') bd)/\(Xp f e l 0 x0=Xp f e (l.drop (k+1)) (k+1) x')) (fun s'=>∃y,Weak s' (s.up (ua y) da (ba y) bda)/\Xp f e l 0 x0= .brk y) Q) (s.up (u k x) d (bu k x) bd))
 (he:∀k x,k=l.length->Xp f e l 0 x0=Xp f e (l.drop k) k x->AWP P N w0 F0 c (QL id (fun _=>False) (fun s'=>∃y,Weak s' (s.up (ua y) da (ba y) bda)/\Xp f e l 0 x0= .brk y) Q) (s.up (u k x) d (bu k x) bd))
 (ha:∀y,Xp f e l 0 x0= .brk y->Q .normal (s.up (ua y) da (ba y) bda)):AWP P N w0 F0 (.block id (.loop c)) Q s:=H1 (fun k x=>s.up (u k x) d (bu k x) bd) (fun y=>s.up (ua y) da (ba y) bda) (fun k x=>Xp f e l 0 x0=Xp f e (l.drop k) k x) (fun y=>Xp f e l 0 x0= .brk y) l.length x0 h0 rfl hr he ha
theorem XZ (f:Nat->α->σ->Rd R σ τ) (e:Nat->σ->τ) (l:List α) (x0:σ) (u:Nat->σ->List (Nat×AV)) (d:List Nat) (bu:Nat->σ->List (Nat×List C)) (bd:List Nat) (ua:τ->List (Nat×AV)) (da:List Nat) (ba:τ->List (Nat×List C)) (bda:List Nat) (A:Nat->σ->Prop)
 (h0:Weak s (s.up (u 0 x0) d (bu 0 x0) bd)) (i0:A 0 x0)
 (hr:∀k x,k<l.length->Xp f e l 0 x0=Xp f e (l.drop k) k x/\A k x->AWP P N w0 F0 c (QL id (fun s'=>∃x',Weak s' (s.up (u (k+1) x') d (bu (k+1) x') bd)/\(Xp f e l 0 x0=Xp f e (l.drop (k+1)) (k+1) x'/\A (k+1) x')) (fun s'=>∃y,Weak s' (s.up (ua y) da (ba y) bda)/\Xp f e l 0 x0= .brk y) Q) (s.up (u k x) d (bu k x) bd))
 (he:∀k x,k=l.length->Xp f e l 0 x0=Xp f e (l.drop k) k x/\A k x->AWP P N w0 F0 c (QL id (fun _=>False) (fun s'=>∃y,Weak s' (s.up (ua y) da (ba y) bda)/\Xp f e l 0 x0= .brk y) Q) (s.up (u k x) d (bu k x) bd))
 (ha:∀y,Xp f e l 0 x0= .brk y->Q .normal (s.up (ua y) da (ba y) bda)):AWP P N w0 F0 (.block id (.loop c)) Q s:=H1 (fun k x=>s.up (u k x) d (bu k x) bd) (fun y=>s.up (ua y) da (ba y) bda) (fun k x=>Xp f e l 0 x0=Xp f e (l.drop k) k x/\A k x) (fun y=>Xp f e l 0 x0= .brk y) l.length x0 h0 ⟨rfl,i0⟩ hr he ha
theorem Qkv (f:Nat->σ->Rd R σ τ) (e:Nat->σ->τ) (l:Nat) (x0:σ) (u:Nat->σ->List (Nat×AV)) (d:List Nat) (ua:τ->List (Nat×AV)) (da:List Nat)
 (h0:Weak s (s.up (u 0 x0) d [] []))
 (hr:∀k x,k<l->Wu f e l 0 x0=Wu f e (l-k) k x->AWP P N w0 F0 c (QL id (fun s'=>∃x',Weak s' (s.up (u (k+1) x') d [] [])/\(Wu f e l 0 x0=Wu f e (l-(k+1)) (k+1) x')) (fun s'=>∃y,Weak s' (s.up (ua y) da [] [])/\Wu f e l 0 x0= .brk y) Q) (s.up (u k x) d [] []))
 (he:∀k x,k=l->Wu f e l 0 x0=Wu f e (l-k) k x->AWP P N w0 F0 c (QL id (fun _=>False) (fun s'=>∃y,Weak s' (s.up (ua y) da [] [])/\Wu f e l 0 x0= .brk y) Q) (s.up (u k x) d [] []))
 (ha:∀y,Wu f e l 0 x0= .brk y->Q .normal (s.up (ua y) da [] [])):AWP P N w0 F0 (.block id (.loop c)) Q s:=H1 (fun k x=>s.up (u k x) d [] []) (fun y=>s.up (ua y) da [] []) (fun k x=>Wu f e l 0 x0=Wu f e (l-k) k x) (fun y=>Wu f e l 0 x0= .brk y) l x0 h0 rfl hr he ha
theorem Qkw (f:Nat->σ->Rd R σ τ) (e:Nat->σ->τ) (l:Nat) (x0:σ) (u:Nat->σ->List (Nat×AV)) (d:List Nat) (ua:τ->List (Nat×AV)) (da:List Nat) (A:Nat->σ->Prop) (B:τ->Prop)
 (h0:Weak s (s.up (u 0 x0) d [] [])) (i0:A 0 x0)
 (hr:∀k x,k<l->Wu f e l 0 x0=Wu f e (l-k) k x/\A k x->AWP P N w0 F0 c (QL id (fun s'=>∃x',Weak s' (s.up (u (k+1) x') d [] [])/\(Wu f e l 0 x0=Wu f e (l-(k+1)) (k+1) x'/\A (k+1) x')) (fun s'=>∃y,Weak s' (s.up (ua y) da [] [])/\(Wu f e l 0 x0= .brk y/\B y)) Q) (s.up (u k x) d [] []))
 (he:∀k x,k=l->Wu f e l 0 x0=Wu f e (l-k) k x/\A k x->AWP P N w0 F0 c (QL id (fun _=>False) (fun s'=>∃y,Weak s' (s.up (ua y) da [] [])/\(Wu f e l 0 x0= .brk y/\B y)) Q) (s.up (u k x) d [] []))
 (ha:∀y,Wu f e l 0 x0= .brk y/\B y->Q .normal (s.up (ua y) da [] [])):AWP P N w0 F0 (.block id (.loop c)) Q s:=H1 (fun k x=>s.up (u k x) d [] []) (fun y=>s.up (ua y) da [] []) (fun k x=>Wu f e l 0 x0=Wu f e (l-k) k x/\A k x) (fun y=>Wu f e l 0 x0= .brk y/\B y) l x0 h0 ⟨rfl,i0⟩ hr he ha
theorem Qeo (f:Nat->σ->Rd R σ τ) (e:Nat->σ->τ) (l:Nat) (x0:σ) (u:Nat->σ->List (Nat×AV)) (d:List Nat) (bu:Nat->σ->List (Nat×List C)) (bd:List Nat) (ua:τ->List (Nat×AV)) (da:List Nat) (ba:τ->List (Nat×List C)) (bda:List Nat) (A:Nat->σ->Prop)
 (h0:Weak s (s.up (u 0 x0) d (bu 0 x0) bd)) (i0:A 0 x0)
 (hr:∀k x,k<l->Wu f e l 0 x0=Wu f e (l-k) k x/\A k x->AWP P N w0 F0 c (QL id (fun s'=>∃x',Weak s' (s.up (u (k+1) x') d (bu (k+1) x') bd)/\(Wu f e l 0 x0=Wu f e (l-(k+1)) (k+1) x'/\A (k+1) x')) (fun s'=>∃y,Weak s' (s.up (ua y) da (ba y) bda)/\Wu f e l 0 x0= .brk y) Q) (s.up (u k x) d (bu k x) bd))
 (he:∀k x,k=l->Wu f e l 0 x0=Wu f e (l-k) k x/\A k x->AWP P N w0 F0 c (QL id (fun _=>False) (fun s'=>∃y,Weak s' (s.up (ua y) da (ba y) bda)/\Wu f e l 0 x0= .brk y) Q) (s.up (u k x) d (bu k x) bd))
 (ha:∀y,Wu f e l 0 x0= .brk y->Q .normal (s.up (ua y) da (ba y) bda)):AWP P N w0 F0 (.block id (.loop c)) Q s:=H1 (fun k x=>s.up (u k x) d (bu k x) bd) (fun y=>s.up (ua y) da (ba y) bda) (fun k x=>Wu f e l 0 x0=Wu f e (l-k) k x/\A k x) (fun y=>Wu f e l 0 x0= .brk y) l x0 h0 ⟨rfl,i0⟩ hr he ha
theorem Qle (f:Nat->σ->Rd R σ τ) (e:Nat->σ->τ) (l:Nat) (x0:σ) (u:Nat->σ->List (Nat×AV)) (d:List Nat) (bu:Nat->σ->List (Nat×List C)) (bd:List Nat) (ua:τ->List (Nat×AV)) (da:List Nat) (ba:τ->List (Nat×List C)) (bda:List Nat) (A:Nat->σ->Prop) (B:τ->Prop)
 (h0:Weak s (s.up (u 0 x0) d (bu 0 x0) bd)) (i0:A 0 x0)
 (hr:∀k x,k<l->Wu f e l 0 x0=Wu f e (l-k) k x/\A k x->AWP P N w0 F0 c (QL id (fun s'=>∃x',Weak s' (s.up (u (k+1) x') d (bu (k+1) x') bd)/\(Wu f e l 0 x0=Wu f e (l-(k+1)) (k+1) x'/\A (k+1) x')) (fun s'=>∃y,Weak s' (s.up (ua y) da (ba y) bda)/\(Wu f e l 0 x0= .brk y/\B y)) Q) (s.up (u k x) d (bu k x) bd))
 (he:∀k x,k=l->Wu f e l 0 x0=Wu f e (l-k) k x/\A k x->AWP P N w0 F0 c (QL id (fun _=>False) (fun s'=>∃y,Weak s' (s.up (ua y) da (ba y) bda)/\(Wu f e l 0 x0= .brk y/\B y)) Q) (s.up (u k x) d (bu k x) bd))
 (ha:∀y,Wu f e l 0 x0= .brk y/\B y->Q .normal (s.up (ua y) da (ba y) bda)):AWP P N w0 F0 (.block id (.loop c)) Q s:=H1 (fun k x=>s.up (u k x) d (bu k x) bd) (fun y=>s.up (ua y) da (ba y) bda) (fun k x=>Wu f e l 0 x0=Wu f e (l-k) k x/\A k x) (fun y=>Wu f e l 0 x0= .brk y/\B y) l x0 h0 ⟨rfl,i0⟩ hr he ha
end
section
variable {tt:List (Nat×TI)} {rs:List ResultVar} {s:St} {τ:Type}
theorem pz (frz:List Nat) {F v:τ} (e:F=v) (g:τ->AV) (h:KV tt rs (s.map (Uk (X9 frz) none))=some (g v):=by kernel_rfl):Qd8 tt rs (g F) .ret s:=P8 frz h (e▸rfl)
theorem pb {F v:Bool} (frz:List Nat) (e:F=v) (h:KV tt rs (s.map (Uk (X9 frz) none))=some (.b v):=by kernel_rfl):Qd8 tt rs (.b F) .ret s:=P8 frz h (e▸rfl)
theorem pi {F v:Int} (frz:List Nat) (e:F=v) (h:KV tt rs (s.map (Uk (X9 frz) none))=some (.i v):=by kernel_rfl):Qd8 tt rs (.i F) .ret s:=P8 frz h (e▸rfl)
theorem ps {F v:ByteArray} (frz:List Nat) (e:F=v) (h:KV tt rs (s.map (Uk (X9 frz) none))=some (.s v):=by kernel_rfl):Qd8 tt rs (.s F) .ret s:=P8 frz h (e▸rfl)
theorem po0 {α:Type} [GoE α] {F v:List α} (frz:List Nat) (e:F=v) (h:KV tt rs (s.map (Uk (X9 frz) none))=some (.o 0 v):=by kernel_rfl):Qd8 tt rs (.o 0 F) .ret s:=P8 frz h (e▸rfl)
theorem ph0 {α:Type} [GoE α] {F v:List α} (frz:List Nat) (e:F=v) (h:KV tt rs (s.map (Uk (X9 frz) none))=some (.h v):=by kernel_rfl):Qd8 tt rs (.h F) .ret s:=P8 frz h (e▸rfl)
end
theorem wn {R S T:Type} {f:S->Rd R S T} {n:Nat} {s s':S} {o:Out R T} (hI:whl f (n+1) s=some o) (h:f s= .next s'):whl f n s'=some o:=Qem h hI
theorem wb {R S T:Type} {f:S->Rd R S T} {n:Nat} {s:S} {t:T} {o:Out R T} (hI:whl f (n+1) s=some o) (h:f s= .brk t):o= .brk t:=Qii h hI
theorem ng {α:Type} [Inhabited α] (l:List α) (i:Nat) (h:i<l.length:=by omega):l[i]? =some (nth l i):=V7 h
theorem en {P:Program} {tt:List (Nat×TI)} (htt:Me P tt=true) {f:Nat} {fn:Func} {c:Code} (hf:P.funcs[f]? =some fn) {args:List AV} {r:AV}
 (h:∀w0 F0,GoodAt P w0->AWP P fn.ntmps w0 F0 c (Qd8 tt fn.results.toList r) (LF args)) (hb:fn.body=some c:=by exact rfl) (hok:My P f:=by unfold My;kernel_rfl) (hn:args.length<=fn.ntmps:=by exact Nat.le_of_ble_eq_true rfl):ACalls P f args r:=Qaf htt hf hb hok hn h
theorem nm {α:Type} (t:α):∃z,t=z:=⟨_,rfl⟩
theorem wf0 {s s':St} (h:s.fit s'=s':=by kernel_rfl):Weak s s':=Qd h
theorem xw {α:Type} {s:St} {t:α->St} {b:α->Prop} (w:α) (hb:b w) (h:s.fit (t w)=t w:=by kernel_rfl):∃x,Weak s (t x)/\b x:=⟨w,Qd h,hb⟩
end Go.Proofs.YtkekndahbiefaaaGreatDoor
namespace Go.Proofs.YtkekndahbiefaaaGreatDoor
section
variable {α R S T:Type} {f g:Nat->α->S->Rd R S T} {e e':Nat->S->T}
theorem Nl (he:∀k s,e k s=e' k s):∀(l:List α) (k:Nat) (s:S),(∀i a s,l[i]? =some a->f (k+i) a s=g (k+i) a s)->Xp f e l k s=Xp g e' l k s
 | [],k,s,_=>by simp only[Xp,he]
 | a ::l,k,s,h=>by
   have h0:=h 0 a s rfl;simp only[Xp];rw[Nat.add_zero] at h0;rw[h0];cases g k a s with
   | next s'=>
     refine Nl he l (k+1) s' fun i a s hi=> ?_
     have:=h (i+1) a s (by simpa using hi)
     rwa [show k+(i+1)=k+1+i by omega] at this
   | brk t=>rfl
   | ret r=>rfl
theorem Dw (hf:∀k a s,f k a s=g k a s) (he:∀k s,e k s=e' k s) (l:List α) (k:Nat) (s:S):Xp f e l k s=Xp g e' l k s:=Nl he l k s fun _ _ _ _=>hf _ _ _
end
section
variable {R S T:Type} {f g:Nat->S->Rd R S T} {e e':Nat->S->T}
theorem AM (he:∀k s,e k s=e' k s):∀(n k:Nat) (s:S),(∀i s,k<=i->i<k+n->f i s=g i s)->Wu f e n k s=Wu g e' n k s
 | 0,k,s,_=>by simp only[Wu,he]
 | n+1,k,s,h=>by
   simp only[Wu];rw[h k s (Nat.le_refl _) (by omega)];cases g k s with
   | next s'=>exact AM he n (k+1) s' fun i s h1 h2=>h i s (by omega) (by omega)
   | brk t=>rfl
   | ret r=>rfl
end
section
variable {α R T:Type} {f:Nat->α->Unit->Rd R Unit T} {e:Nat->Unit->T}
theorem I6 (hb :∀k a t,f k a ()≠ .brk t):∀{l:List α} {k:Nat} {t:T},Xp f e l k ()= .brk t->∀(i:Nat) (a:α),l[i]? =some a->f (k+i) a ()= .next ()
 | [],_,_,_,i,a,hi=>by simp at hi
 | x :: l, k, t,h,i,a,hi=>by
   simp only[Xp] at h;cases hf:f k x () with
   | next s'=>
     rw[hf] at h;cases i with
     | zero => obtain rfl:x=a:=by simpa using hi
               exact hf
     | succ i=>
       have:=I6 hb (k:=k+1) h i a (by simpa using hi)
       rwa [show k+1+i=k+(i+1) by omega] at this
   | brk t'=>exact (hb k x t' hf).elim
   | ret r=>rw[hf] at h;cases h
theorem Sv:∀(l:List α) (k:Nat),(∀i a,l[i]? =some a->f (k+i) a ()= .next ())->Xp f e l k ()= .brk (e (k+l.length) ())
 | [],k,_=>by simp[Xp]
 | x ::l,k,h=>by
   have h0:=h 0 x rfl;rw[Nat.add_zero] at h0;simp only[Xp,h0]
   rw[Sv l (k+1) fun i a hi=>by
    have:=h (i+1) a (by simpa using hi)
    rwa [show k+(i+1)=k+1+i by omega] at this]
   rw[List.length_cons,show k+1+l.length=k+(l.length+1) by omega]
end
theorem Bc {α β R T:Type} {f:Nat->α->List β->Rd R (List β) T} {e:Nat->List β->T} {p:α->Bool} {g:α->β} (hf:∀k a s,f k a s=(bif p a then .next (s++ [g a]) else .next s)):∀(l:List α) (k:Nat) (s:List β),Xp f e l k s= .brk (e (k+l.length) (s++(l.filter p).map g))
 | [],k,s=>by simp[Xp]
 | a::l,k,s=>by
   simp only[Xp,hf];cases hp:p a with
   | true=>simp only[cond_true];rw[Bc hf l (k+1),show k+1+l.length=k+(l.length+1) by omega];simp[hp]
   | false=>simp only[cond_false];rw[Bc hf l (k+1),show k+1+l.length=k+(l.length+1) by omega];simp[hp]
theorem Au {α β R T:Type} {f:Nat->α->List β->Rd R (List β) T} {e:Nat->List β->T} {g:α->β} (hf:∀k a s,f k a s= .next (s++ [g a])):∀(l:List α) (k:Nat) (s:List β),Xp f e l k s= .brk (e (k+l.length) (s++l.map g))
 | [],k,s=>by simp[Xp]
 | a::l,k,s=>by
   simp only[Xp,hf];rw[Au hf l (k+1),show k+1+l.length=k+(l.length+1) by omega];simp
end Go.Proofs.YtkekndahbiefaaaGreatDoor
namespace Go.Proofs.YtkekndahbiefaaaGreatDoor
open Go.RowKit
section
variable {P:Program} {N:Nat} {w0:Base} {F0:Nat->Prop} {J:Inj} {a:Act} {w:World} {s:St}
end
theorem AGive.emp {P:Program} {f:Nat} {cs cs':List C} {n m:Nat} {post:List AV} {r:AV} (h:AGive P f cs (.one (.slc (.own true 63) n [])::post) r cs') (hk:∀x,x∈post->∀c,c∈x.cells->c.key=none/\c.bkeys= []):AGive P f cs (.one (.slc .emp m [])::post) r cs':=by
 refine ⟨h.1,fun w F L b vals hG hF hnd hLF hbF hbL hbox hargs=> ?_⟩;cases hargs with
 | @cons v _ vs _ h1 h2=>
 have h1:([]:List (List PV))= []/\∃oa,v= .slice oa 0 0:=h1;obtain ⟨_,oa,rfl⟩:=h1;have hG':GoodAt P ⟨w,fun x=>x=b\/x∈([]:List Nat),some b⟩:=⟨fun w' hk=>hG.at_ w' ⟨hk.os,hk.tape,hk.output,hk.size,fun k hk' hn=>hk.block k hk' fun hx=>hn (.inl (hx.resolve_right (by simp)))⟩⟩
 have key:∀{us:List Value} {ys:List AV},All2 (AR (XN F L b) w) us ys->(∀x,x∈ys->∀c,c∈x.cells->c.key=none/\c.bkeys= [])->All2 (AR (XN F [] b) w) us ys:=by
  intro us ys ha
  induction ha with
  | nil=>intro _;exact .nil
  | cons h1 _ ih=>
    intro hx;refine .cons (h1.keep fun c hc=> ?_) (ih fun x hm=>hx x (List.mem_cons_of_mem _ hm));obtain ⟨e1,e2⟩:=hx _ (List.mem_cons_self ..) c hc;exact ⟨fun b hb=>⟨hb,rfl⟩,(fun k hk=>by rw[e1] at hk;cases hk),(fun k hk=>by rw[e2] at hk;simp at hk)⟩
 have h0:AR (XN F [] b) w (.slice oa 0 0) (.one (.slc (.own true 63) n [])):=by
  show OwnDeep ((XN F [] b).L 63) w _ n [];exact ⟨[], .emp oa n,List.nodup_nil,(fun b hb=>by simp at hb), .inl rfl⟩
 refine (h.2 w F [] b _ hG' hF List.nodup_nil (fun x hx=>by simp at hx) hbF (by simp) hbox (.cons h0 (key h2 hk))).mono fun e w' hret=> ?_
 obtain ⟨u,L',g1,g2,g3,g4,g5,g6,g7,g8,g9,g10,arr,ty,g11,g12⟩:=hret;have hFF:∀x,(UN F [] w w' L').F x->(UN F L w w' L').F x/\w'.heap[x]? =w'.heap[x]? :=fun x hx=>⟨hx.imp id fun ⟨q1,q2⟩=>⟨.inl (q1.resolve_right (by simp)),q2⟩,rfl⟩
 have hkk:∀c,Keeps (UN F [] w w' L') (UN F L w w' L') w' w' c:=fun c=>⟨hFF,fun k _=>⟨rfl,fun _ _=>rfl⟩,fun _ _=>rfl⟩
 exact ⟨u,L',g1,g2,g3,g4,g5,fun k q1 q2 _=>g6 k q1 q2 (by simp),g7,fun k x hx=>⟨(g8 k x hx).1, .inl ((g8 k x hx).2.resolve_right (by simp))⟩,g9,g10.keep fun c _=>hkk c,arr,ty,g11,g12.imp fun v c _ hc=>hc.keep (hkk c)⟩
end Go.Proofs.YtkekndahbiefaaaGreatDoor
namespace Go.Proofs.YtkekndahbiefaaaGreatDoor
open Go.RowKit
open GoD (rd own)
structure Chg (L:List Nat) (w w':World):Prop where
 os:w'.os=w.os
 tape:w'.tape=w.tape
 output:w'.output=w.output
 size:w.heap.size<=w'.heap.size
 block:∀b,b<w.heap.size->b∉L->w'.heap[b]? =w.heap[b]?
theorem Chg.refl (L:List Nat) (w:World):Chg L w w:=⟨rfl,rfl,rfl,Nat.le_refl _,fun _ _ _=>rfl⟩
theorem Chg.trans {L:List Nat} {a b c:World} (h:Chg L a b) (k:Chg L b c):Chg L a c:=
 ⟨k.os.trans h.os,k.tape.trans h.tape,k.output.trans h.output,Nat.le_trans h.size k.size,fun i hi hn=>(k.block i (Nat.lt_of_lt_of_le hi h.size) hn).trans (h.block i hi hn)⟩
theorem Chg.mono {L M:List Nat} {w w':World} (h:Chg L w w') (hs:∀b,b∈L->b∈M):Chg M w w':=
 ⟨h.os,h.tape,h.output,h.size,fun b hb hn=>h.block b hb (fun hm=>hn (hs b hm))⟩
theorem Chg.of_below {L:List Nat} {w w':World} (h:Below w.heap.size w w'):Chg L w w':=⟨h.os,h.tape,h.output,h.size,fun b hb _=>h.block b hb⟩
theorem Chg.below {L:List Nat} {B:Nat} {w w':World} (h:Chg L w w') (hB:B<=w.heap.size) (hL:∀b,b∈L->B<=b):Below B w w':=
 ⟨h.os,h.tape,h.output,h.size,fun k hk=>h.block k (by omega) (fun hm=>by have:=hL k hm;omega)⟩
theorem Chg.cell {L:List Nat} {w w':World} (h:Chg L w w') {b:Nat} (hb:b<w.heap.size) (hn:b∉L) (o:Nat):w'.cell? ⟨b,o,none⟩=w.cell? ⟨b,o,none⟩:=
 World.cell?_of_block (h.block b hb hn)
theorem Chg.frozen {L:List Nat} {w w':World} (h:Chg L w w') {b:Nat} (hb:b<w.heap.size) (hn:b∉L) (o:Nat):w'.frozen? ⟨b,o,none⟩=w.frozen? ⟨b,o,none⟩:=
 World.frozen?_of_block (h.block b hb hn)
section
variable {α β:Type} [GoD α] [GoD β]
theorem AN {B:Nat} {w0 W w':World} (h0:Below B w0 W) (hb:Below W.heap.size W w') (hB:B<=W.heap.size):Below B w0 w':=h0.trans (hb.mono hB)
structure Upd (g lo m:Nat) (Li:List Nat) (w w':World):Prop where
 chg:Chg (g::Li) w w'
 row:∀cur e,w.heap[g]? =some (.cells cur e (0,0))->∃cur',w'.heap[g]? =some (.cells cur' e (0,0))/\cur'.size=cur.size/\∀j,(j<lo\/lo+m<=j)->cur'[j]? =cur[j]?
theorem Upd.refl (g lo m:Nat) (Li:List Nat) (w:World):Upd g lo m Li w w:=⟨Chg.refl _ _,fun cur _ h=>⟨cur,h,rfl,fun _ _=>rfl⟩⟩
theorem Upd.setCell {g lo m:Nat} {Li:List Nat} {w w':World} (h:Upd g lo m Li w w') (o:Nat) (ho:lo<=o/\o<lo+m) (v:Value):Upd g lo m Li w (w'.setCell ⟨g,o,none⟩ v):=by
 refine ⟨h.chg.trans ⟨rfl,rfl,rfl,by simp,fun b _ hn=>Lp w' g o v (fun e=>hn (by simp[e]))⟩,fun cur e hc=> ?_⟩;obtain ⟨cur',h1,h2,h3⟩:=h.row cur e hc;refine ⟨_,O7 w' g o v h1,by simpa using h2,fun j hj=> ?_⟩;rw[Array.getElem?_setIfInBounds,if_neg (by omega)];exact h3 j hj
theorem Upd.mark {g lo m:Nat} {Li M:List Nat} {w w' w'':World} (h:Upd g lo m Li w w') (hc:Chg M w' w'') (hs:∀b,b∈M->b∈Li) (hg:g∉M) (hlt:g<w'.heap.size):Upd g lo m Li w w'':=by
 refine ⟨h.chg.trans (hc.mono fun b hb=>List.mem_cons_of_mem _ (hs b hb)),fun cur e hcur=> ?_⟩;obtain ⟨cur',h1,h2,h3⟩:=h.row cur e hcur;exact ⟨cur',(hc.block g hlt hg).trans h1,h2,h3⟩
theorem Upd.below {g lo m:Nat} {Li:List Nat} {w w' w'':World} (h:Upd g lo m Li w w') (hc:Below w'.heap.size w' w'') (hlt:g<w'.heap.size):Upd g lo m Li w w'':=
 h.mark (M:= []) (Chg.of_below hc) (by simp) (by simp) hlt
theorem T3 (l:List α):∀k,(Sd l k).1.length=l.length:=by
 induction l with
 | nil=>intro k;rfl
 | cons x l ih=>intro k;simp[Sd,ih]
end
section
variable {α:Type} [GoD α]
end
end Go.Proofs.YtkekndahbiefaaaGreatDoor
namespace Go.Proofs.YtkekndahbiefaaaGreatDoor
open Go.RowKit
open GoD (rd own)
abbrev De:=Int×Int×ByteArray
abbrev Kt:=ByteArray×Int
abbrev E6:=ByteArray×De
abbrev Xc:=Int×Int×Bool×Int×(List E6)
abbrev Qz:=(List Kt)×(List Xc)×Int
abbrev Yu:=Int×Int×Int×ByteArray×De
abbrev Xw:=ByteArray×(List Yu)
abbrev Qh:=ByteArray×(List Int)
abbrev Gg:=ByteArray×(List Int)×(List Int)
abbrev Xq:=Qz×(List Xw)×(List Qh)
abbrev Hh:=Int×Xc×Int×Xw
theorem Gb {α:Type} {l:List α} (h:l.length=1):∃x0,l= [x0]:=by
 match l,h with
 | [x0],_=>exact ⟨x0,rfl⟩
theorem Ry {α:Type} {l:List α} (h:l.length=2):∃x0 x1,l= [x0,x1]:=by
 match l,h with
 | [x0,x1],_=>exact ⟨x0,x1,rfl⟩
theorem TB {α:Type} {l:List α} (h:l.length=3):∃x0 x1 x2,l= [x0,x1,x2]:=by
 match l,h with
 | [x0,x1,x2],_=>exact ⟨x0,x1,x2,rfl⟩
theorem Qkx {α:Type} {l:List α} (h:l.length=4):∃x0 x1 x2 x3,l= [x0,x1,x2,x3]:=by
 match l,h with
 | [x0,x1,x2,x3],_=>exact ⟨x0,x1,x2,x3,rfl⟩
theorem Qg2 {α:Type} {l:List α} (h:l.length=5):∃x0 x1 x2 x3 x4,l= [x0,x1,x2,x3,x4]:=by
 match l,h with
 | [x0,x1,x2,x3,x4],_=>exact ⟨x0,x1,x2,x3,x4,rfl⟩
theorem Qky {α:Type} {l:List α} (h:l.length=7):∃x0 x1 x2 x3 x4 x5 x6,l= [x0,x1,x2,x3,x4,x5,x6]:=by
 match l,h with
 | [x0,x1,x2,x3,x4,x5,x6],_=>exact ⟨x0,x1,x2,x3,x4,x5,x6,rfl⟩
theorem VF {w:World} {cs:List Value} {a:De} (h:rd w cs a):cs= [.int .i64 a.1, .int .i64 a.2.1, .string a.2.2]:=by
 obtain ⟨_,_,rfl,⟨rfl,_⟩,⟨_,_,rfl,⟨rfl,_⟩,⟨rfl,_⟩⟩⟩:=h;exact rfl
theorem LJ {w:World} {cs:List Value} {a:Kt} (h:rd w cs a):cs= [.string a.1, .int .i64 a.2]:=by
 obtain ⟨_,_,rfl,⟨rfl,_⟩,⟨rfl,_⟩⟩:=h;exact rfl
theorem RL {w:World} {cs:List Value} {a:E6} (h:rd w cs a):cs= [.string a.1, .int .i64 a.2.1, .int .i64 a.2.2.1, .string a.2.2.2]:=by
 obtain ⟨_,_,rfl,⟨rfl,_⟩,⟨_,_,rfl,⟨rfl,_⟩,⟨_,_,rfl,⟨rfl,_⟩,⟨rfl,_⟩⟩⟩⟩:=h;exact rfl
theorem AO {w:World} {cs:List Value} {a:Xc} (h:rd w cs a):∃(oa1:Option Addr) (cp1:Nat),cs= [.int .i64 a.1, .int .i64 a.2.1, .bool a.2.2.1, .int .i64 a.2.2.2.1, .slice oa1 a.2.2.2.2.length cp1]:=by
 obtain ⟨_,_,rfl,⟨rfl,_⟩,⟨_,_,rfl,⟨rfl,_⟩,⟨_,_,rfl,rfl,⟨_,_,rfl,⟨rfl,_⟩,⟨oa1,cp1,rfl,_⟩⟩⟩⟩⟩:=h;exact ⟨oa1,cp1,rfl⟩
theorem LL {w:World} {cs:List Value} {a:Qz} (h:rd w cs a):∃(oa1:Option Addr) (cp1:Nat) (oa2:Option Addr) (cp2:Nat),cs= [.slice oa1 a.1.length cp1, .slice oa2 a.2.1.length cp2, .int .i64 a.2.2]:=by
 obtain ⟨_,_,rfl,⟨oa1,cp1,rfl,_⟩,⟨_,_,rfl,⟨oa2,cp2,rfl,_⟩,⟨rfl,_⟩⟩⟩:=h;exact ⟨oa1,cp1,oa2,cp2,rfl⟩
theorem RM {w:World} {cs:List Value} {a:Yu} (h:rd w cs a):cs= [.int .i64 a.1, .int .i64 a.2.1, .int .i64 a.2.2.1, .string a.2.2.2.1, .int .i64 a.2.2.2.2.1, .int .i64 a.2.2.2.2.2.1, .string a.2.2.2.2.2.2]:=by
 obtain ⟨_,_,rfl,⟨rfl,_⟩,⟨_,_,rfl,⟨rfl,_⟩,⟨_,_,rfl,⟨rfl,_⟩,⟨_,_,rfl,⟨rfl,_⟩,⟨_,_,rfl,⟨rfl,_⟩,⟨_,_,rfl,⟨rfl,_⟩,⟨rfl,_⟩⟩⟩⟩⟩⟩⟩:=h;exact rfl
theorem FC {w:World} {cs:List Value} {a:Xw} (h:rd w cs a):∃(oa1:Option Addr) (cp1:Nat),cs= [.string a.1, .slice oa1 a.2.length cp1]:=by
 obtain ⟨_,_,rfl,⟨rfl,_⟩,⟨oa1,cp1,rfl,_⟩⟩:=h;exact ⟨oa1,cp1,rfl⟩
theorem FD {w:World} {cs:List Value} {a:Qh} (h:rd w cs a):∃(oa1:Option Addr) (cp1:Nat),cs= [.string a.1, .slice oa1 a.2.length cp1]:=by
 obtain ⟨_,_,rfl,⟨rfl,_⟩,⟨oa1,cp1,rfl,_⟩⟩:=h;exact ⟨oa1,cp1,rfl⟩
theorem CK {w:World} {cs:List Value} {a:Xq} (h:rd w cs a):∃(oa1:Option Addr) (cp1:Nat) (oa2:Option Addr) (cp2:Nat) (oa3:Option Addr) (cp3:Nat) (oa4:Option Addr) (cp4:Nat),cs= [.slice oa1 a.1.1.length cp1, .slice oa2 a.1.2.1.length cp2, .int .i64 a.1.2.2, .slice oa3 a.2.1.length cp3, .slice oa4 a.2.2.length cp4]:=by
 obtain ⟨_,_,rfl,⟨_,_,rfl,⟨oa1,cp1,rfl,_⟩,⟨_,_,rfl,⟨oa2,cp2,rfl,_⟩,⟨rfl,_⟩⟩⟩,⟨_,_,rfl,⟨oa3,cp3,rfl,_⟩,⟨oa4,cp4,rfl,_⟩⟩⟩:=h;exact ⟨oa1,cp1,oa2,cp2,oa3,cp3,oa4,cp4,rfl⟩
theorem FE {w:World} {cs:List Value} {a:Hh} (h:rd w cs a):∃(oa1:Option Addr) (cp1:Nat) (oa2:Option Addr) (cp2:Nat),cs= [.int .i64 a.1, .int .i64 a.2.1.1, .int .i64 a.2.1.2.1, .bool a.2.1.2.2.1, .int .i64 a.2.1.2.2.2.1, .slice oa1 a.2.1.2.2.2.2.length cp1, .int .i64 a.2.2.1, .string a.2.2.2.1, .slice oa2 a.2.2.2.2.length cp2]:=by
 obtain ⟨_,_,rfl,⟨rfl,_⟩,⟨_,_,rfl,⟨_,_,rfl,⟨rfl,_⟩,⟨_,_,rfl,⟨rfl,_⟩,⟨_,_,rfl,rfl,⟨_,_,rfl,⟨rfl,_⟩,⟨oa1,cp1,rfl,_⟩⟩⟩⟩⟩,⟨_,_,rfl,⟨rfl,_⟩,⟨_,_,rfl,⟨rfl,_⟩,⟨oa2,cp2,rfl,_⟩⟩⟩⟩⟩:=h;exact ⟨oa1,cp1,oa2,cp2,rfl⟩
def eqb {α:Type} [GoD α] (a b:α):Bool:= @decide (a=b) (GoD.deq a b)
theorem G0 {α β:Type} [GoD α] [GoD β] (a c:α) (b d:β):eqb (a,b) (c,d)=(eqb a c&&eqb b d):=by
 unfold eqb;rw[Bool.eq_iff_iff];simp[Prod.mk.injEq]
theorem Uy (a b:Int):eqb a b=(a==b):=by unfold eqb;rw[Bool.eq_iff_iff];simp
theorem V4 (a b:Bool):eqb a b=(a==b):=by unfold eqb;rw[Bool.eq_iff_iff];simp
theorem Cb (a b:ByteArray):(a.toList==b.toList)=eqb a b:=by
 unfold eqb;rw[ByteArray.toList_eq,ByteArray.toList_eq,Bool.eq_iff_iff];simp only[beq_iff_eq,decide_eq_true_eq];constructor
 . intro h;cases a;cases b;simp_all [Array.toList_inj]
 intro h;rw[h]
theorem Qep {α:Type} [GoD α] {a b:α} (h:eqb a b=true):a=b:=by unfold eqb at h;simpa using h
theorem Qa6 {α:Type} [GoD α] {a b:α} (h:eqb a b=false):a≠b:=by unfold eqb at h;simpa using h
theorem Qeq {α:Type} [GoD α] (a:α):eqb a a=true:=by unfold eqb;simp
theorem VG {α:Type} [GoD α] {la lb:List α} {k:Nat} {a b:α} (ha:la[k]? =some a) (hb:lb[k]? =some b) (h:eqb a b=false):eqb la lb=false:=by
 have:=Qa6 h;unfold eqb;rw[decide_eq_false_iff_not]
 rintro rfl
 rw[ha] at hb;exact this (by simpa using hb)
theorem Oe {α:Type} [GoD α] {la lb:List α} {k:Nat} {a b:α} (ht:la.take k=lb.take k) (ha:la[k]? =some a) (hb:lb[k]? =some b) (h:eqb a b=true):Hid (la.take (k+1)=lb.take (k+1)):=by
 show la.take (k+1)=lb.take (k+1);rw[List.take_add_one,List.take_add_one,ht,ha,hb,Qep h]
theorem Sw {α:Type} [GoD α] {la lb:List α} (ht:la.take la.length=lb.take la.length) (hl:lb.length=la.length):eqb la lb=true:=by
 unfold eqb;rw[List.take_of_length_le (Nat.le_refl _),List.take_of_length_le (by omega)] at ht;simpa using ht
theorem Sx {α:Type} [GoD α] {la lb:List α} (h:¬la.length=lb.length):eqb la lb=false:=by
 unfold eqb;rw[decide_eq_false_iff_not]
 rintro rfl
 exact h rfl
end Go.Proofs.YtkekndahbiefaaaGreatDoor
namespace Go.Proofs.YtkekndahbiefaaaGreatDoor
open Go.RowKit
open GoD (rd own)
theorem Qim {P:Program} (w:World) (base:Nat) (t ty e:TypeId) (i:TypeInfo) (z:Value) (ht:P.underlying t=some (.slice e)) (hi:P.info? e=some i) (hz:i.zero=some z)
 (hzs:z.cells.size=i.size) (hsz:0<i.size) (hb:i.bytes<=1000) {v:Value} {n:Nat} {xs:List Value} (hown:w.ownsRow base e i.size v n xs)
 (a:Addr) (m c:Nat) (news:List Value) (hl:news.length=m*i.size) (hnews:∀j u,news[j]? =some u->w.cell? (a.add j)=some u) (h1:∀u∈news,u.oneCell'=true)
 (hnm:n+m<=1073741824) (hbase:base<=w.heap.size):
 ∃ v' w',(Builtin.append_ #[t,t] ty #[v, .slice (some a) m c]).run P w= .ok v' w'/\w'.ownsRow base e i.size v' (n+m) (xs++news)/\w.grownBy w' v.ownBlock/\
   (∀g,v'.ownBlock=some g->v.ownBlock=some g\/w.heap.size<=g)/\(∀x k c,v= .slice (some x) k c->c<n+m->(∀g,v'.ownBlock=some g->w.heap.size<=g)/\w.grownBy w' none):=by
 have hbytes:((n+m)+(n+m) / 4+192)*i.bytes<=281474976710656:=Nat.le_trans (Nat.mul_le_mul (show _<=1342177472 by omega) hb) (by decide);have h63:n+m<=maxLen:=by unfold maxLen;omega
 rcases hown.2 with ⟨rfl,rfl⟩ | ⟨g,cap,cur,rfl,hbg,hg,hnc,hcm,hcs,htake⟩
 . have h0:w.ownsRow w.heap.size e i.size (.slice none 0 0) 0 xs:=⟨hown.1, .inl ⟨rfl,rfl⟩⟩;obtain ⟨v',w',hr,hw,hgr,_⟩:=run_append_own_wide w w.heap.size t ty e i z i.size i.bytes ht hi hz rfl rfl hzs hsz _ 0 xs h0 a m c news hl hnews h1 h63 hbytes (Nat.le_refl _);refine ⟨v',w',hr,⟨hw.1, ?_⟩,hgr,fun g hg=> .inr (World.ownsRow.lt hw g hg).1,fun x k c h=>(by cases h)⟩;rcases hw.2 with h | ⟨g,cap,cur,h1,h2,h3⟩
   . exact .inl h
   exact .inr ⟨g,cap,cur,h1,Nat.le_trans hbase h2,h3⟩
 by_cases hroom:n+m<=cap
 . obtain ⟨w',hr,hw,hgr⟩:=run_append_own_spare w base t ty e i i.size ht hi rfl g n cap xs hown a m c news hl hnews h1 hroom;exact ⟨_,w',hr,hw,hgr,fun k hk=> .inl hk,fun x k c h hlt=>(by cases h;omega)⟩
 have hgs:cap<n+m:=by omega
 have hr:=run_append_grow (P:=P) w t ty e i z ht hi hz ⟨g,0,none⟩ n cap xs hown.1 (hown.cells (g:=g) rfl) a m c news hl hnews hgs (by unfold maxLen at h63;omega) (growslice_fits_wide hgs hbytes)
 refine ⟨_,_,hr,⟨by rw[List.length_append,hown.1,hl,Nat.add_mul], .inr ⟨w.heap.size,_,_,rfl,hbase,heap_alloc_new w.drew _,grownCap_ge w (n+m) cap e,grownCap_le_maxLen w (n+m) cap e h63, ?_, ?_⟩⟩,
  ⟨rfl,rfl,rfl,by simp,fun k hk _=>heap_alloc_old w.drew _ hk⟩,fun k hk=> .inr ?_,fun x k c _ _=>⟨fun g' hk=> ?_,rfl,rfl,rfl,by simp,fun k hk _=>heap_alloc_old w.drew _ hk⟩⟩
 . have hge:=grownCap_ge w (n+m) cap e;simp only[Array.size_append,List.size_toArray,size_zeroCells,hzs,hown.1,hl,←Nat.add_mul]
   congr 1
   omega
 . simp only[Array.toList_append,List.append_assoc];rw[←List.append_assoc,List.take_append_of_le_length (by simp[hown.1,hl,Nat.add_mul]),List.take_of_length_le (by simp[hown.1,hl,Nat.add_mul])]
 . simp only[Value.ownBlock,Option.some.injEq] at hk;omega
 simp only[Value.ownBlock,Option.some.injEq] at hk;omega
section
variable {α:Type} [GoD α]
def App (e:TypeId) (w0 w:World) (L:List Nat) (v:Value) (l:List α):Prop:=
 ∃ (xs:List Value) (Ls:List (List Nat)),w.ownsRow w0.heap.size e (GoD.n α) v l.length xs/\L=v.ownBlock.toList++Ls.flatten/\L.Nodup/\(∀b,b∈L->w0.heap.size<=b/\b<w.heap.size)/\Ls.length=l.length/\
   ∀i Li a,Ls[i]? =some Li->l[i]? =some a->own Li w ((xs.drop (i*GoD.n α)).take (GoD.n α)) a
def AppR (e:TypeId) (w0 w:World) (v:Value) (l:List α):Prop:=
 ∃(xs:List Value),w.ownsRow w0.heap.size e (GoD.n α) v l.length xs/\∀i a,l[i]? =some a->rd w0 ((xs.drop (i*GoD.n α)).take (GoD.n α)) a
theorem ZC {w w':World} {base:Nat} {e:TypeId} {sz n:Nat} {v:Value} {xs:List Value} (h:w.ownsRow base e sz v n xs) (hb:∀b,v.ownBlock=some b->w'.heap[b]? =w.heap[b]?):w'.ownsRow base e sz v n xs:=by
 refine ⟨h.1, ?_⟩;rcases h.2 with h | ⟨g,cap,cur,rfl,h2,h3,h4⟩
 . exact .inl h
 exact .inr ⟨g,cap,cur,rfl,h2,(hb g rfl).trans h3,h4⟩
theorem App.keep {e:TypeId} {w0 w w':World} {L:List Nat} {v:Value} {l:List α} (h:App e w0 w L v l) (hb:Below w.heap.size w w'):App e w0 w' L v l:=by
 obtain ⟨xs,Ls,h1,h2,h3,h4,h5,h6⟩:=h;exact ⟨xs,Ls,ZC h1 (fun b hm=>hb.block b (World.ownsRow.lt h1 b hm).2),h2,h3,fun b hm=>⟨(h4 b hm).1,Nat.lt_of_lt_of_le (h4 b hm).2 hb.size⟩,h5,fun i Li a x y=>Nc (h6 i Li a x y) hb⟩
theorem AppR.keep {e:TypeId} {w0 w w':World} {v:Value} {l:List α} (h:AppR e w0 w v l) (hb:Below w.heap.size w w'):AppR e w0 w' v l:=by
 obtain ⟨xs,h1,h2⟩:=h;exact ⟨xs,ZC h1 (fun b hm=>hb.block b (World.ownsRow.lt h1 b hm).2),h2⟩
theorem App.start {e:TypeId} {w0 w:World} {v:Value} {c:Nat} {cur:Array Value} {g:Nat} (hv:v= .slice (some ⟨g,0,none⟩) 0 c) (hg:w.heap[g]? =some (.cells cur e (0,0))) (hs:cur.size=c*GoD.n α) (hc:c<=maxLen) (h0:w0.heap.size<=g):App e w0 w [g] v ([]:List α):=by
 subst hv;exact ⟨[], [],⟨by simp, .inr ⟨g,c,cur,rfl,h0,hg,Nat.zero_le _,hc,hs,by simp⟩⟩,rfl,by simp,fun b hb=>by rw[List.mem_singleton.1 hb];exact ⟨h0,Xn hg⟩,rfl,by simp⟩
theorem AppR.start {e:TypeId} {w0 w:World} {v:Value} {c:Nat} {cur:Array Value} {g:Nat} (hv:v= .slice (some ⟨g,0,none⟩) 0 c) (hg:w.heap[g]? =some (.cells cur e (0,0))) (hs:cur.size=c*GoD.n α) (hc:c<=maxLen) (h0:w0.heap.size<=g):AppR e w0 w v ([]:List α):=by
 subst hv;exact ⟨[],⟨by simp, .inr ⟨g,c,cur,rfl,h0,hg,Nat.zero_le _,hc,hs,by simp⟩⟩,by simp⟩
theorem App.alloc {e:TypeId} {w0 w:World} {L:List Nat} {v:Value} {l:List α} (h:App e w0 w L v l) (o:Obj):App e w0 (w.alloc o) L v l:=h.keep ((Below.refl _ _).alloc (Nat.le_refl _) _)
theorem App.drew {e:TypeId} {w0 w:World} {L:List Nat} {v:Value} {l:List α} (h:App e w0 w L v l):App e w0 w.drew L v l:=h.keep ((Below.refl _ _).drew)
theorem AppR.alloc {e:TypeId} {w0 w:World} {v:Value} {l:List α} (h:AppR e w0 w v l) (o:Obj):AppR e w0 (w.alloc o) v l:=h.keep ((Below.refl _ _).alloc (Nat.le_refl _) _)
theorem AppR.drew {e:TypeId} {w0 w:World} {v:Value} {l:List α} (h:AppR e w0 w v l):AppR e w0 w.drew v l:=h.keep ((Below.refl _ _).drew)
theorem App.nil {e:TypeId} (w0 w:World):App e w0 w [] (.slice none 0 0) ([]:List α):=⟨[], [],⟨by simp, .inl ⟨rfl,rfl⟩⟩,rfl,by simp,by simp,rfl,by simp⟩
theorem AppR.nil {e:TypeId} (w0 w:World):AppR e w0 w (.slice none 0 0) ([]:List α):=⟨[],⟨by simp, .inl ⟨rfl,rfl⟩⟩,by simp⟩
theorem App.done {e:TypeId} {w0 w:World} {L:List Nat} {v:Value} {l:List α} (h:App e w0 w L v l):own L w [v] l:=by
 obtain ⟨xs,Ls,⟨h1,h2⟩,rfl,h3,h4,h5,h6⟩:=h;refine ⟨h3, ?_⟩;rcases h2 with ⟨rfl,hl⟩ | ⟨g,cap,cur,rfl,_,hg,hnc,hcm,hcs,rfl⟩
 . have:l= []:=List.eq_nil_of_length_eq_zero hl;subst this;have:Ls= []:=List.eq_nil_of_length_eq_zero h5;subst this;exact .inl ⟨rfl,rfl,none,rfl⟩
 refine .inr ⟨g,cap,cur,e,Ls,rfl,hg,hnc,hcm,hcs,rfl,h5,fun i Li a hi ha=> ?_⟩;have h:=h6 i Li a hi ha;have hil:i<l.length:=(List.getElem?_eq_some_iff.1 ha).1
 rw[List.drop_take,List.take_take,Nat.min_eq_left (by
  have:=Nat.mul_le_mul_right (GoD.n α) (show i+1<=l.length by omega);rw[Nat.add_mul,Nat.one_mul] at this;omega)] at h
 exact h
theorem App.ge {e:TypeId} {w0 w:World} {L:List Nat} {v:Value} {l:List α} (h:App e w0 w L v l):∀b,b∈L->w0.heap.size<=b:=by
 obtain ⟨_,_,_,_,_,h4,_⟩:=h;exact fun b hb=>(h4 b hb).1
theorem App.lt {e:TypeId} {w0 w:World} {L:List Nat} {v:Value} {l:List α} (h:App e w0 w L v l):∀b,b∈L->b<w.heap.size:=by
 obtain ⟨_,_,_,_,_,h4,_⟩:=h;exact fun b hb=>(h4 b hb).2
theorem AppR.done {e:TypeId} {w0 w:World} {v:Value} {l:List α} (h:AppR e w0 w v l) (hb:Below w0.heap.size w0 w):rd w [v] l:=by
 obtain ⟨xs,⟨h1,h2⟩,h6⟩:=h;rcases h2 with ⟨rfl,hl⟩ | ⟨g,cap,cur,rfl,_,hg,hnc,hcm,hcs,rfl⟩
 . have:l= []:=List.eq_nil_of_length_eq_zero hl;subst this;exact ⟨none,0,rfl,Nat.le_refl _,Nat.zero_le _,by simp⟩
 refine ⟨some ⟨g,0,none⟩,cap,rfl,hnc,hcm,fun i a ha=>⟨g,0,_,rfl,GoD.rd_len (h6 i a ha),fun j u hj=> ?_,Xg (h6 i a ha) hb⟩⟩;have hlt:=(List.getElem?_eq_some_iff.1 hj).1;simp only[List.length_take] at hlt;rw[E9 (by omega),List.getElem?_take] at hj;split at hj
 . rw[Nat.zero_add];rw[Array.getElem?_toList] at hj;simp[World.cell?,hg,hj]
 cases hj
theorem AppR.slice {e:TypeId} {w0 w:World} {v:Value} {l:List α} (h:AppR e w0 w v l):∃oa cap,v= .slice oa l.length cap:=by
 obtain ⟨xs,⟨_,h2⟩,_⟩:=h;rcases h2 with ⟨rfl,hl⟩ | ⟨g,cap,cur,rfl,_⟩
 . exact ⟨none,0,by rw[hl]⟩
 exact ⟨_,_,rfl⟩
theorem App.slice {e:TypeId} {w0 w:World} {L:List Nat} {v:Value} {l:List α} (h:App e w0 w L v l):∃oa cap,v= .slice oa l.length cap:=A6 h.done
end
end Go.Proofs.YtkekndahbiefaaaGreatDoor
namespace Go.Proofs.YtkekndahbiefaaaGreatDoor
open Go.RowKit
open GoD (rd own)
theorem LM {P:Program} (w:World) (t ty e:TypeId) (i:TypeInfo) (ht:P.underlying t=some (.slice e)) (hi:P.info? e=some i) (g n cap:Nat) (hn:n<=cap):
 (Builtin.append_ #[t,t] ty #[.slice (some ⟨g,0,none⟩) n cap, .slice none 0 0]).run P w= .ok (.slice (some ⟨g,0,none⟩) n cap) w:=by
 simp[Builtin.append_,run_underlying ht,sizeOf,typeInfo,hi,Builtin.lenOf,Builtin.firstCells,loadCells,loadCellsFrom,hn,storeCells]
section
variable {α:Type} [GoD α]
def Plain (α:Type) [GoD α]:Prop:=0<GoD.n α/\∀(w w':World) (cs:List Value) (a:α),rd w cs a->own [] w' cs a/\∀u∈cs,u.oneCell'=true
theorem Fg:Plain Int:=⟨Nat.zero_lt_one,fun w w' cs a h=>⟨⟨rfl,h.1,h.2⟩,by rw[h.1];simp[Value.oneCell']⟩⟩
theorem Nm:Plain ByteArray:=⟨Nat.zero_lt_one,fun w w' cs a h=>⟨⟨rfl,h.1,h.2⟩,by rw[h.1];simp[Value.oneCell']⟩⟩
theorem Bn {β:Type} [GoD β] (h1:Plain α) (h2:Plain β):Plain (α×β):=by
 refine ⟨Nat.lt_of_lt_of_le h1.1 (Nat.le_add_right _ _),fun w w' cs a h=> ?_⟩;obtain ⟨c1,c2,rfl,k1,k2⟩:=h;obtain ⟨o1,u1⟩:=h1.2 w w' _ _ k1;obtain ⟨o2,u2⟩:=h2.2 w w' _ _ k2;refine ⟨Ws o1 o2 (by simp),fun u hu=> ?_⟩;rcases List.mem_append.1 hu with hu | hu
 . exact u1 u hu
 exact u2 u hu
theorem Qer {w:World} {oa:Option Addr} {cap:Nat} {l:List α} (hn:0<GoD.n α) (h:rd w [.slice oa l.length cap] l):l= []\/∃(b off:Nat) (news:List Value),oa=some ⟨b,off,none⟩/\news.length=l.length*GoD.n α/\(∀j u,news[j]? =some u->w.cell? ⟨b,off+j,none⟩=some u)/\
 ∀i a,l[i]? =some a->rd w ((news.drop (i*GoD.n α)).take (GoD.n α)) a:=by
 obtain ⟨oa',cap',e,hl,hm,hel⟩:=h;obtain ⟨rfl,rfl⟩:oa=oa'/\cap=cap':=by simpa using e
 cases hcase:l with
 | nil=>exact .inl rfl
 | cons a0 l0=>
   right
   obtain ⟨b,off,_,rfl,_⟩:=hel 0 a0 (by simp[hcase]);rw[←hcase]
   have key:∀k,k<=l.length->∃news:List Value,news.length=k*GoD.n α/\(∀j u,news[j]? =some u->w.cell? ⟨b,off+j,none⟩=some u)/\∀i a,i<k->l[i]? =some a->rd w ((news.drop (i*GoD.n α)).take (GoD.n α)) a:=by
    intro k
    induction k with
    | zero=>intro _;exact ⟨[],by simp,by simp,fun i a hi=>absurd hi (Nat.not_lt_zero _)⟩
    | succ k ih=>
      intro hk;obtain ⟨news,h1,h2,h3⟩:=ih (by omega);obtain ⟨b',off',ce,e',hcl,hcc,hr⟩:=hel k _ (List.getElem?_eq_getElem (by omega:k<l.length));obtain ⟨rfl,rfl⟩:b=b'/\off=off':=by simpa using e'
      refine ⟨news++ce,by rw[List.length_append,h1,hcl,Nat.add_mul,Nat.one_mul],fun j u hj=> ?_,fun i a hi ha=> ?_⟩
      . rcases Nat.lt_or_ge j news.length with h | h
        . rw[List.getElem?_append_left h] at hj;exact h2 j u hj
        rw[List.getElem?_append_right h] at hj;have:=hcc _ u hj;rw[show off+k*GoD.n α+(j-news.length)=off+j by rw[←h1];omega] at this;exact this
      rcases Nat.lt_or_ge i k with h | h
      . have hmul:=Nat.mul_le_mul_right (GoD.n α) (show i+1<=k by omega);rw[Nat.add_mul,Nat.one_mul] at hmul;rw[List.drop_append_of_le_length (by omega),List.take_append_of_le_length (by rw[List.length_drop];omega)];exact h3 i a h ha
      obtain rfl:i=k:=by omega
      rw[List.getElem?_eq_getElem (by omega)] at ha;obtain rfl:=Option.some.inj ha;rw[←h1,List.drop_left,←hcl,List.take_length];exact hr
   obtain ⟨news,h1,h2,h3⟩:=key l.length (Nat.le_refl _);exact ⟨b,off,news,rfl,h1,h2,fun i a ha=>h3 i a (List.getElem?_eq_some_iff.1 ha).1 ha⟩
theorem RN {P:Program} (w:World) (t ty e:TypeId) (hpl:Plain α) (ht:P.underlying t=some (.slice e))
 (hinf:(P.info? e).map (fun i=>(i.zero.map (·.cells.size),i.size,decide (i.bytes<=1000)))=some (some (GoD.n α),GoD.n α,true)) {g:Nat} (hg:w.heap[g]? =some (.cells #[] e (0,0)))
 {y:Value} {l:List α} (hr:rd w [y] l) (hl:l.length<=1073741824):
 ∃v' w' L,(Builtin.append_ #[t,t] ty #[.slice (some ⟨g,0,none⟩) 0 0,y]).run P w= .ok v' w'/\own L w' [v'] l/\Ext w w'/\∀b∈L,w.heap.size<=b/\b<w'.heap.size:=by
 obtain ⟨i,z,hi,hz,hsize,hzn,hb⟩:=TD hinf;obtain ⟨oa,cap,rfl⟩:=JY hr;have hown:w.ownsRow g e i.size (.slice (some ⟨g,0,none⟩) 0 0) 0 []:=⟨by simp, .inr ⟨g,0, #[],rfl,Nat.le_refl _,hg,Nat.le_refl _,Nat.zero_le _,by simp,by simp⟩⟩;have h0:own [] w [.slice (some ⟨g,0,none⟩) 0 0] ([]:List α):=⟨by simp, .inl ⟨rfl,rfl,_,rfl⟩⟩;rcases Qer hpl.1 hr with rfl | ⟨b,off,news,rfl,hnl,hnews,hrd⟩
 . cases oa with
   | none=>
     obtain ⟨_,_,ee,_,_,_⟩:=hr;by_cases hc:cap=0
     . subst hc;exact ⟨_,w, [],LM w t ty e i ht hi g 0 0 (Nat.le_refl _),h0,Ext.refl w,by simp⟩
     refine ⟨_,w, [], ?_,h0,Ext.refl w,by simp⟩;simp[Builtin.append_,run_underlying ht,sizeOf,typeInfo,hi,Builtin.lenOf,Builtin.firstCells,loadCells,loadCellsFrom,storeCells]
   | some ad=>
     refine ⟨_,w, [], ?_,h0,Ext.refl w,by simp⟩;simp[Builtin.append_,run_underlying ht,sizeOf,typeInfo,hi,Builtin.lenOf,Builtin.firstCells,loadCells,loadCellsFrom,storeCells]
 cases hlc:l with
 | nil=>
   subst hlc;refine ⟨_,w, [], ?_,h0,Ext.refl w,by simp⟩;simp[Builtin.append_,run_underlying ht,sizeOf,typeInfo,hi,Builtin.lenOf,Builtin.firstCells,loadCells,loadCellsFrom,storeCells]
 | cons a0 l0=>
   rw[←hlc];have hpos:0<l.length:=by rw[hlc];simp
   have h1:∀u∈news,Value.oneCell' u=true:=fun u hu=>by
    obtain ⟨j,hj,rfl⟩:=List.getElem_of_mem hu;have hnp:=hpl.1;have hjn:j / GoD.n α<l.length:=by rw[Nat.div_lt_iff_lt_mul hnp];omega
    have hx:=(hpl.2 w w _ _ (hrd _ _ (List.getElem?_eq_getElem hjn))).2;refine hx _ (List.mem_of_getElem? (i:=j % GoD.n α) ?_);rw[E9 (Nat.mod_lt _ hnp),Nat.mul_comm,Nat.div_add_mod,List.getElem?_eq_getElem hj]
   obtain ⟨v',w',hr',hw,hgr,_,hfresh⟩:=Qim (P:=P) w g t ty e i z ht hi hz (by rw[hsize];exact hzn) (by rw[hsize];exact hpl.1) hb hown ⟨b,off,none⟩ l.length cap news (by rw[hsize];exact hnl) (fun j u hj=>by
    have:=hnews j u hj;unfold Addr.add;by_cases hj0:j=0
    . subst hj0;simpa using this
    simpa [hj0] using this) h1 (by omega) (Nat.le_of_lt (Xn hg))
   obtain ⟨hf1,hf2⟩:=hfresh _ _ _ rfl (by omega);have hext:Ext w w':=(Below.refl _ _).grown hf2 (Nat.le_refl _) (fun k hk=>by cases hk);rw[Nat.zero_add,List.nil_append,hsize] at hw
   have hA:App e w w' (v'.ownBlock.toList++(List.replicate l.length ([]:List Nat)).flatten) v' l:=by
    refine ⟨news,List.replicate l.length [],⟨hw.1, ?_⟩,rfl, ?_, ?_,by simp,fun i Li a hLi ha=> ?_⟩
    . rcases hw.2 with h | ⟨g',cap',cur,h1,h2,h3⟩
      . exact .inl h
      exact .inr ⟨g',cap',cur,h1,hf1 g' (by rw[h1];rfl),h3⟩
    . simp only[List.flatten_replicate_nil,List.append_nil];cases v'.ownBlock<;>simp
    . intro b' hb';simp only[List.flatten_replicate_nil,List.append_nil] at hb';have hb2:v'.ownBlock=some b':=by simpa using hb'
      exact ⟨hf1 b' hb2,(World.ownsRow.lt hw b' hb2).2⟩
    have:Li= []:=by
     have:=List.mem_of_getElem? hLi;exact (List.mem_replicate.1 this).2
    subst this;exact (hpl.2 w w' _ _ (hrd i a ha)).1
   exact ⟨v',w',_,hr',hA.done,hext,fun b hb=>⟨hA.ge b hb,hA.lt b hb⟩⟩
theorem Fh {P:Program} {w:World} {ops:Array Oper} {rest:List Oper} {o:Oper} {a:Act} {Q:Exit->Act->World->Prop} (s x:Operand) (t e:TypeId) (hpl:Plain α) (g:Nat) {y:Value} {l:List α} (hr:rd w [y] l) (hl:l.length<=1073741824)
 (hg:w.heap[g]? =some (.cells #[] e (0,0))) (hgd:o.guard=none) (ho:o.op= .call {callee:= .builtin .append,args:= #[s,x],argTypes:= #[t,t]}) (ht:P.underlying t=some (.slice e))
 (hinf:(P.info? e).map (fun i=>(i.zero.map (·.cells.size),i.size,decide (i.bytes<=1000)))=some (some (GoD.n α),GoD.n α,true)) (hs:a.eval s= .slice (some ⟨g,0,none⟩) 0 0) (hx:a.eval x=y)
 (k:∀v' w' L,own L w' [v'] l->Ext w w'->(∀b∈L,w.heap.size<=b/\b<w'.heap.size)->wpList P ops Q rest (a.put o.dst v') w'):wpList P ops Q (o::rest) a w:=by
 refine wpList_plain hgd fun _ hK=> ?_
 obtain ⟨v',w',L,hr',h1,h2,h3⟩:=RN (P:=P) w t o.type e hpl ht hinf hg hr hl;unfold Oper.wp execOp;simp only[ho,resolve,invoke,builtin,Sem.run_bind,Sem.run_pure,Result.andThen_ok,List.map_toArray,List.map_cons,List.map_nil,hs,hx,hr'];exact hK _ _ (k v' w' L h1 h2 h3)
end
section
variable {P:Program} {o:Oper} {a:Act} {w:World} {K:Act->World->Prop} {Q:Exit->Act->World->Prop}
def New0 (e:TypeId) (v:Value) (L:List Nat) (w:World):Prop:=L= []/\∃g,v= .slice (some ⟨g,0,none⟩) 0 0/\w.heap[g]? =some (.cells #[] e (0,0))
theorem New0.keep {e:TypeId} {v:Value} {L:List Nat} {w w':World} (h:New0 e v L w) (hx:Ext w w'):New0 e v L w':=by
 obtain ⟨h1,g,h2,h3⟩:=h;exact ⟨h1,g,h2,(hx.block g (Xn h3)).trans h3⟩
end
end Go.Proofs.YtkekndahbiefaaaGreatDoor
namespace Go.Proofs.YtkekndahbiefaaaGreatDoor
open Go.RowKit
open GoD (rd own)
theorem RO (w:World) (v:Value) (l:List Int) (ha:rd w [v] l) (hl:l.length<=1073741824):Calls Tryz.prog 195 #[v] w (RetS w l):=by
 have HA:=Lib.hid ha;obtain ⟨oa,cap,e,hlc,hm,hel⟩:=ha;obtain rfl:v=_:=by simpa using e
 clear e;have q22:∀(w:World) (a:Option Addr) (n c n' c':Nat),(binOp .eql 111 (.slice a n c) (.slice none n' c')).run Tryz.prog w= .ok (.bool a.isNone) w:=fun w a n c n' c'=>Lib.run_eql_slice_nil w _ _ a n c n' c' Tryz.underlying111
 cases oa with
 | none=>
   have hnil:l= []:=by
    cases l with
    | nil=>rfl
    | cons a l=>obtain ⟨b,off,ce,h,_⟩:=hel 0 a rfl;cases h
   clear hel;subst hnil;go_enter Tryz.func195,Tryz.ntmps195
   go_wp2
   go_ret
   all_goals exact ⟨_, [],rfl,Below.refl _ _,⟨by simp, .inl ⟨rfl,rfl,_,rfl⟩⟩,by simp⟩
 | some ad=>
   clear hel;go_enter Tryz.func195,Tryz.ntmps195
   go_wp2_with (at_builtin;refine Fh (α:=Int) _ _ 111 3 Fg w.heap.size (Xg HA.out (by go_grown)) hl (heap_alloc_new w _) rfl rfl Tryz.underlying111 (by kernel_rfl) rfl rfl ?_;intro v2 w2 L2 ho2 hx2 hL2)
   go_ret
   have hb:Below w.heap.size w w2:=B5 (show Below w.heap.size w _ by go_grown) hx2;exact ⟨v2,L2,rfl,hb,ho2,fun b hb'=>by have:=(hL2 b hb').1;simp only[World.size_alloc] at this;omega⟩
theorem YA (l:List Int):ACalls Tryz.prog 195 [Qjm l] (Qjn l):=Lu (by unfold My;kernel_rfl) (fun w v h hw=>RO w v l h (by have:=hw.1;omega)) id
theorem CL (w:World) (v:Value) (l:List ByteArray) (ha:rd w [v] l) (hl:l.length<=1073741824):Calls Tryz.prog 147 #[v] w (RetS w l):=by
 have HA:=Lib.hid ha;obtain ⟨oa,cap,e,hlc,hm,hel⟩:=ha;obtain rfl:v=_:=by simpa using e
 clear e;have q22:∀(w:World) (a:Option Addr) (n c n' c':Nat),(binOp .eql 77 (.slice a n c) (.slice none n' c')).run Tryz.prog w= .ok (.bool a.isNone) w:=fun w a n c n' c'=>Lib.run_eql_slice_nil w _ _ a n c n' c' Tryz.underlying77
 cases oa with
 | none=>
   have hnil:l= []:=by
    cases l with
    | nil=>rfl
    | cons a l=>obtain ⟨b,off,ce,h,_⟩:=hel 0 a rfl;cases h
   clear hel;subst hnil;go_enter Tryz.func147,Tryz.ntmps147
   go_wp2
   go_ret
   all_goals exact ⟨_, [],rfl,Below.refl _ _,⟨by simp, .inl ⟨rfl,rfl,_,rfl⟩⟩,by simp⟩
 | some ad=>
   clear hel;go_enter Tryz.func147,Tryz.ntmps147
   go_wp2_with (at_builtin;refine Fh (α:=ByteArray) _ _ 77 9 Nm w.heap.size (Xg HA.out (by go_grown)) hl (heap_alloc_new w _) rfl rfl Tryz.underlying77 (by kernel_rfl) rfl rfl ?_;intro v2 w2 L2 ho2 hx2 hL2)
   go_ret
   have hb:Below w.heap.size w w2:=B5 (show Below w.heap.size w _ by go_grown) hx2;exact ⟨v2,L2,rfl,hb,ho2,fun b hb'=>by have:=(hL2 b hb').1;simp only[World.size_alloc] at this;omega⟩
theorem T4 (l:List ByteArray):ACalls Tryz.prog 147 [Qjm l] (Qjn l):=Lu (by unfold My;kernel_rfl) (fun w v h hw=>CL w v l h (by have:=hw.1;omega)) id
theorem LN (w:World) (v:Value) (l:List E6) (ha:rd w [v] l) (hl:l.length<=1073741824):Calls Tryz.prog 199 #[v] w (RetS w l):=by
 have HA:=Lib.hid ha;obtain ⟨oa,cap,e,hlc,hm,hel⟩:=ha;obtain rfl:v=_:=by simpa using e
 clear e;have q22:∀(w:World) (a:Option Addr) (n c n' c':Nat),(binOp .eql 50 (.slice a n c) (.slice none n' c')).run Tryz.prog w= .ok (.bool a.isNone) w:=fun w a n c n' c'=>Lib.run_eql_slice_nil w _ _ a n c n' c' Tryz.underlying50
 cases oa with
 | none=>
   have hnil:l= []:=by
    cases l with
    | nil=>rfl
    | cons a l=>obtain ⟨b,off,ce,h,_⟩:=hel 0 a rfl;cases h
   clear hel;subst hnil;go_enter Tryz.func199,Tryz.ntmps199
   go_wp2
   go_ret
   all_goals exact ⟨_, [],rfl,Below.refl _ _,⟨by simp, .inl ⟨rfl,rfl,_,rfl⟩⟩,by simp⟩
 | some ad=>
   clear hel;go_enter Tryz.func199,Tryz.ntmps199
   go_wp2_with (at_builtin;refine Fh (α:=E6) _ _ 50 183 (Bn Nm (Bn Fg (Bn Fg Nm))) w.heap.size (Xg HA.out (by go_grown)) hl (heap_alloc_new w _) rfl rfl Tryz.underlying50 (by kernel_rfl) rfl rfl ?_;intro v2 w2 L2 ho2 hx2 hL2)
   go_ret
   have hb:Below w.heap.size w w2:=B5 (show Below w.heap.size w _ by go_grown) hx2;exact ⟨v2,L2,rfl,hb,ho2,fun b hb'=>by have:=(hL2 b hb').1;simp only[World.size_alloc] at this;omega⟩
theorem LO (l:List E6):ACalls Tryz.prog 199 [Qjm l] (Qjn l):=Lu (by unfold My;kernel_rfl) (fun w v h hw=>LN w v l h (by have:=hw.1;omega)) id
theorem FF (w:World) (v:Value) (l:List Kt) (ha:rd w [v] l) (hl:l.length<=1073741824):Calls Tryz.prog 192 #[v] w (RetS w l):=by
 have HA:=Lib.hid ha;obtain ⟨oa,cap,e,hlc,hm,hel⟩:=ha;obtain rfl:v=_:=by simpa using e
 clear e;have q22:∀(w:World) (a:Option Addr) (n c n' c':Nat),(binOp .eql 41 (.slice a n c) (.slice none n' c')).run Tryz.prog w= .ok (.bool a.isNone) w:=fun w a n c n' c'=>Lib.run_eql_slice_nil w _ _ a n c n' c' Tryz.underlying41
 cases oa with
 | none=>
   have hnil:l= []:=by
    cases l with
    | nil=>rfl
    | cons a l=>obtain ⟨b,off,ce,h,_⟩:=hel 0 a rfl;cases h
   clear hel;subst hnil;go_enter Tryz.func192,Tryz.ntmps192
   go_wp2
   go_ret
   all_goals exact ⟨_, [],rfl,Below.refl _ _,⟨by simp, .inl ⟨rfl,rfl,_,rfl⟩⟩,by simp⟩
 | some ad=>
   clear hel;go_enter Tryz.func192,Tryz.ntmps192
   go_wp2_with (at_builtin;refine Fh (α:=Kt) _ _ 41 178 (Bn Nm Fg) w.heap.size (Xg HA.out (by go_grown)) hl (heap_alloc_new w _) rfl rfl Tryz.underlying41 (by kernel_rfl) rfl rfl ?_;intro v2 w2 L2 ho2 hx2 hL2)
   go_ret
   have hb:Below w.heap.size w w2:=B5 (show Below w.heap.size w _ by go_grown) hx2;exact ⟨v2,L2,rfl,hb,ho2,fun b hb'=>by have:=(hL2 b hb').1;simp only[World.size_alloc] at this;omega⟩
theorem ZD (l:List Kt):ACalls Tryz.prog 192 [Qjm l] (Qjn l):=Lu (by unfold My;kernel_rfl) (fun w v h hw=>FF w v l h (by have:=hw.1;omega)) id
theorem LP (w:World) (v:Value) (l:List Yu) (ha:rd w [v] l) (hl:l.length<=1073741824):Calls Tryz.prog 242 #[v] w (RetS w l):=by
 have HA:=Lib.hid ha;obtain ⟨oa,cap,e,hlc,hm,hel⟩:=ha;obtain rfl:v=_:=by simpa using e
 clear e;have q22:∀(w:World) (a:Option Addr) (n c n' c':Nat),(binOp .eql 53 (.slice a n c) (.slice none n' c')).run Tryz.prog w= .ok (.bool a.isNone) w:=fun w a n c n' c'=>Lib.run_eql_slice_nil w _ _ a n c n' c' Tryz.underlying53
 cases oa with
 | none=>
   have hnil:l= []:=by
    cases l with
    | nil=>rfl
    | cons a l=>obtain ⟨b,off,ce,h,_⟩:=hel 0 a rfl;cases h
   clear hel;subst hnil;go_enter Tryz.func242,Tryz.ntmps242
   go_wp2
   go_ret
   all_goals exact ⟨_, [],rfl,Below.refl _ _,⟨by simp, .inl ⟨rfl,rfl,_,rfl⟩⟩,by simp⟩
 | some ad=>
   clear hel;go_enter Tryz.func242,Tryz.ntmps242
   go_wp2_with (at_builtin;refine Fh (α:=Yu) _ _ 53 186 (Bn Fg (Bn Fg (Bn Fg (Bn Nm (Bn Fg (Bn Fg Nm)))))) w.heap.size (Xg HA.out (by go_grown)) hl (heap_alloc_new w _) rfl rfl Tryz.underlying53 (by kernel_rfl) rfl rfl ?_;intro v2 w2 L2 ho2 hx2 hL2)
   go_ret
   have hb:Below w.heap.size w w2:=B5 (show Below w.heap.size w _ by go_grown) hx2;exact ⟨v2,L2,rfl,hb,ho2,fun b hb'=>by have:=(hL2 b hb').1;simp only[World.size_alloc] at this;omega⟩
theorem LQ (l:List Yu):ACalls Tryz.prog 242 [Qjm l] (Qjn l):=Lu (by unfold My;kernel_rfl) (fun w v h hw=>LP w v l h (by have:=hw.1;omega)) id
open GoE (enc wide)
def tt:List (Nat×TI):= [(3,⟨.int .i64,1, [.i 0], []⟩),
 (4,⟨.bool,1, [.b false], []⟩),
 (5,⟨.int .u8,1, [.int .u8 0], []⟩),
 (9,⟨.str,1, [.s ⟨#[]⟩], []⟩),
 (29,⟨.struct [(0,3,true),(3,1,false),(4,1,false)],5, [.e 2, .e 5, .i 0, .e 2, .e 2], []⟩),
 (37,⟨.struct [(0,1,false),(1,5,true),(6,1,false),(7,2,true)],9, [.i 0, .i 0, .i 0, .b false, .i 0, .e 4, .i 0, .s ⟨#[]⟩, .e 7], []⟩),
 (41,⟨.sli 178,1, [.e 2], []⟩),
 (42,⟨.sli 52,1, [.e 5], []⟩),
 (44,⟨.struct [(0,1,false),(1,1,false),(2,1,false)],3, [.e 2, .e 5, .i 0], []⟩),
 (45,⟨.sli 55,1, [.e 2], []⟩),
 (46,⟨.sli 121,1, [.e 2], []⟩),
 (48,⟨.struct [(0,3,true),(3,1,false),(4,1,false)],5, [.e 2, .e 5, .i 0, .e 2, .e 2], []⟩),
 (50,⟨.sli 183,1, [.e 4], []⟩),
 (52,⟨.struct [(0,1,false),(1,1,false),(2,1,false),(3,1,false),(4,1,false)],5, [.i 0, .i 0, .b false, .i 0, .e 4], []⟩),
 (53,⟨.sli 186,1, [.e 7], []⟩),
 (55,⟨.struct [(0,1,false),(1,1,false)],2, [.s ⟨#[]⟩, .e 7], []⟩),
 (57,⟨.struct [(0,1,false),(1,5,true),(6,1,false),(7,2,true)],9, [.i 0, .i 0, .i 0, .b false, .i 0, .e 4, .i 0, .s ⟨#[]⟩, .e 7], []⟩),
 (62,⟨.sli 5,1, [.e 1], []⟩),
 (67,⟨.sli 238,1, [.e 3], []⟩),
 (77,⟨.sli 9,1, [.e 1], []⟩),
 (111,⟨.sli 3,1, [.e 1], []⟩),
 (121,⟨.struct [(0,1,false),(1,1,false)],2, [.s ⟨#[]⟩, .e 1], []⟩),
 (136,⟨.struct [(0,1,false),(1,1,false),(2,1,false)],3, [.e 1, .i 0, .i 0], []⟩),
 (178,⟨.struct [(0,1,false),(1,1,false)],2, [.s ⟨#[]⟩, .i 0], [.str, .int]⟩),
 (181,⟨.struct [(0,1,false),(1,1,false),(2,1,false)],3, [.i 0, .i 0, .s ⟨#[]⟩], [.int, .int, .str]⟩),
 (183,⟨.struct [(0,1,false),(1,3,true)],4, [.s ⟨#[]⟩, .i 0, .i 0, .s ⟨#[]⟩], [.str, .int, .int, .str]⟩),
 (186,⟨.struct [(0,1,false),(1,1,false),(2,1,false),(3,1,false),(4,3,true)],7, [.i 0, .i 0, .i 0, .s ⟨#[]⟩, .i 0, .i 0, .s ⟨#[]⟩], [.int, .int, .int, .str, .int, .int, .str]⟩),
 (238,⟨.struct [(0,1,false),(1,1,false),(2,1,false)],3, [.s ⟨#[]⟩, .e 1, .e 1], []⟩),
 (294,⟨.sli 4,1, [.e 1], []⟩)]
theorem Qa:Me Tryz.prog tt=true:=by kernel_rfl
theorem Zh:Tryz.prog.follows .mixedOrders=true:=by kernel_rfl
def Zm (n:Int) (low:Int) (high_:Int):Bool:=(decide (low<=n)&&decide (n<=high_))
theorem Ku (n:Int) (low:Int) (high_:Int):ACalls Tryz.prog 127 [.i n, .i low, .i high_] (.b (Zm n low high_)):=by
 refine en Qa Tryz.func127 fun w0 F0 hG=> ?_
 refine sn Qa [0,1,2,6] [] (p0) <| Qc <| mz [(6, .b false)] [] [] [] <| jn [(6, .b (decide (low<=n)&&decide (n<=high_)))] [0,1,2,6] [] [] (decide (low<=n)) (fun h1=> ?_) (fun h1=> ?_) ?_
 ·
  refine rn Qa [6] [] (pt 2 h1 p0) ?_;exact ⟨rfl,Qd (by rw[h1]<;>kernel_rfl)⟩
 ·
  refine rn Qa [6] [] (pf 2 h1 p0) ?_;exact ⟨rfl,Qd (by rw[h1]<;>kernel_rfl)⟩
 exact Qg <| pb [] (show Zm n low high_=(decide (low<=n)&&decide (n<=high_)) from rfl)
def Wh (s_:ByteArray) (k0:Nat) (_:Unit):Rd (Bool) (Unit) (Unit):=(bif (decide (Ct s_ ((k0:Nat):Int)<(97:Int))|| decide (Ct s_ ((k0:Nat):Int)>(122:Int))) then (.ret false) else (.next ()))
def Uu (_:Nat) (_:Unit):Unit:=()
def Yv (s_:ByteArray):Bool:=(Out.on (Wu (Wh s_) Uu (Int.toNat (ByteArray.size s_:Int)) 0 ()) (fun _=>(Zm (ByteArray.size s_:Int) 1 6)))
theorem K3 (s_:ByteArray):ACalls Tryz.prog 207 [.s s_] (.b (Yv s_)):=by
 refine en Qa Tryz.func207 fun w0 F0 hG=> ?_
 refine sn Qa [0,2] [] (p0) <| Qc <| tn Qa [0,2,5,6] [] (p0) <| mz [(2, .b false),(5, .i (ByteArray.size s_:Int)),(6, .i 0)] [] [] [] <| stT 0 0 s_ (fun hs1=> ?_)
 refine Qkv (Wh s_) Uu (Int.toNat (ByteArray.size s_:Int)) () (fun k0 _=> [(6, .i ((k0:Nat):Int))]) [6] (fun _=> []) [5,6] wf0 (fun k0 s0 hk0 hI0=> ?_) (fun k0 s0 hk0 hI0=> ?_) (fun y0 hD0=> ?_)
 ·
  refine sn Qa [0,2,5,6,7] [] (pe 0 (Qp (decide_eq_true (p:=((k0:Nat):Int)<(ByteArray.size s_:Int)) (by omega))) p0) <| Qc <| ckT <| Qf <| Qc <| Qu <| tn Qa [0,2,3,5,6] [] (p0) <| Qc <| mz [(3, .i ((k0:Nat):Int))] [] [] [] <| jn [(18, .b (decide (Ct s_ ((k0:Nat):Int)<(97:Int))|| decide (Ct s_ ((k0:Nat):Int)>(122:Int))))] [3] [] [] (decide (Ct s_ ((k0:Nat):Int)<(97:Int))) (fun h2=> ?_) (fun h2=> ?_) ?_
  ·
   have h2d:=of_decide_eq_true h2;refine rn Qa [0,2,5,6,18] [] (px (Tx (i:=((k0:Nat):Int)) (n:=(ByteArray.size s_)) (by omega)) (pt 3 h2 p0)) ?_;exact ⟨rfl,Qd (by rw[h2]<;>kernel_rfl)⟩
  ·
   have h2d:=of_decide_eq_false h2;refine rn Qa [0,2,5,6,18] [] (px (Tx (i:=((k0:Nat):Int)) (n:=(ByteArray.size s_)) (by omega)) (pf 3 h2 (px (Tx (i:=((k0:Nat):Int)) (n:=(ByteArray.size s_)) (by omega)) p0))) ?_;exact ⟨rfl,Qd (by rw[h2]<;>kernel_rfl)⟩
  refine ck (decide (Ct s_ ((k0:Nat):Int)<(97:Int))|| decide (Ct s_ ((k0:Nat):Int)>(122:Int))) (fun h3=> ?_) (fun h3=> ?_)
  ·
   refine su Qa [] [18] [] [] (p0) <| Qg ?_
   have hr4:(Wu (Wh s_) Uu (Int.toNat (ByteArray.size s_:Int)) 0 ())= .ret false:=OB hk0 (Xf h3 (rfl)) hI0;exact pb [] (Oa hr4)
  have h3l:(decide (Ct s_ ((k0:Nat):Int)<(97:Int)))=false:=Rc h3;have h3ld:=of_decide_eq_false h3l;have h3r:(decide (Ct s_ ((k0:Nat):Int)>(122:Int)))=false:=Re h3;have h3rd:=of_decide_eq_false h3r;refine Qf <| rn Qa [0,2,5,6] [] (pe 0 (Jh (Ql k0 (by omega))) p0) ?_
  exact xw _ (Vi hk0 (Qs h3 (rfl)) hI0)
 ·
  exact sn Qa [0,2,5,6,7] [] (pe 0 (Qp (decide_eq_false (p:=((k0:Nat):Int)<(ByteArray.size s_:Int)) (by omega))) p0) <| Qc <| ckF <| Q2 <| xw _ (Cw hk0 (rfl) hI0)
 exact sn Qa [2] [] (pc 2 (Ku (ByteArray.size s_:Int) 1 6) p0) <| Qg <| pb [] (Wj hD0 (rfl))
def Ki (v:De):Bool:=(bif (v.1==(0:Int)) then ((v.1==0)&&((v.2.1==0)&&((v.2.2.toList==(⟨#[]⟩:ByteArray).toList)&&true))) else (bif (v.1==(1:Int)) then ((Zm v.2.1 0 999)&&(v.2.2.toList==(⟨#[]⟩:ByteArray).toList)) else (bif (v.1==(2:Int)) then ((Yv v.2.2)&&(v.2.1==(0:Int))) else false)))
theorem V8 (v:De):ACalls Tryz.prog 280 [.a [.i v.1, .i v.2.1, .s v.2.2]] (.b (Ki v)):=by
 refine en Qa Tryz.func280 fun w0 F0 hG=> ?_
 refine sn Qa [1,2] [1] (p0) <| Qc <| tn Qa [1,2,4] [1] (p0) <| Qu <| tu Qa [(1, .p 1 0),(2, .b false),(4, .i v.1),(5, .b (v.1==(0:Int)))] [0] [(1, [.i v.1, .i v.2.1, .s v.2.2])] [] (p0) <| ck (v.1==(0:Int)) (fun h1=> ?_) (fun h1=> ?_)
 ·
  exact sn Qa [2] [] (p0) <| Qg <| pb [] (Xf h1 (rfl))
 refine sn Qa [1,2,4,10] [1] (p0) <| ck (v.1==(1:Int)) (fun h2=> ?_) (fun h2=> ?_)
 ·
  refine Qc <| mz [(10, .b (v.1==(1:Int)))] [5] [] [] <| jn [(2, .b ((Zm v.2.1 0 999)&&(v.2.2.toList==(⟨#[]⟩:ByteArray).toList)))] [1,2,4,10] [] [1] (Zm v.2.1 0 999) (fun h3=> ?_) (fun h3=> ?_) ?_
  ·
   refine rn Qa [2] [] (pc 2 (cb h3 (Ku v.2.1 0 999)) p0) ?_;exact ⟨rfl,Qd (by rw[h3]<;>kernel_rfl)⟩
  ·
   refine rn Qa [2] [] (pc 2 (cb h3 (Ku v.2.1 0 999)) p0) ?_;exact ⟨rfl,Qd (by rw[h3]<;>kernel_rfl)⟩
  exact Qg <| pb [] (Qs h1 (Xf h2 (rfl)))
 refine tn Qa [1,2,20] [1] (p0) <| ck (v.1==(2:Int)) (fun h4=> ?_) (fun h4=> ?_)
 ·
  refine Qc <| mz [(20, .b (v.1==(2:Int)))] [4,5] [] [] <| jn [(2, .b ((Yv v.2.2)&&(v.2.1==(0:Int))))] [1,2,20] [] [1] (Yv v.2.2) (fun h5=> ?_) (fun h5=> ?_) ?_
  ·
   refine rn Qa [2] [] (pc 2 (cb h5 (K3 v.2.2)) p0) ?_;exact ⟨rfl,Qd (by rw[h5]<;>kernel_rfl)⟩
  ·
   refine rn Qa [2] [] (pc 2 (cb h5 (K3 v.2.2)) p0) ?_;exact ⟨rfl,Qd (by rw[h5]<;>kernel_rfl)⟩
  exact Qg <| pb [] (Qs h1 (Qs h2 (Xf h4 (rfl))))
 exact Qf <| tu Qa [] [1,4,5] [] [1] (p0) <| Qg <| pb [] (Qs h1 (Qs h2 (Qs h4 (rfl))))
def Q6 (x:Int) (least:Int) (most:Int):Bool:=(decide (x>=least)&&decide (x<=most))
theorem Zo (x:Int) (least:Int) (most:Int):ACalls Tryz.prog 45 [.i x, .i least, .i most] (.b (Q6 x least most)):=by
 refine en Qa Tryz.func45 fun w0 F0 hG=> ?_
 refine sn Qa [0,1,2,6] [] (p0) <| Qc <| mz [(6, .b false)] [] [] [] <| jn [(6, .b (decide (x>=least)&&decide (x<=most)))] [0,1,2,6] [] [] (decide (x>=least)) (fun h1=> ?_) (fun h1=> ?_) ?_
 ·
  refine rn Qa [6] [] (pt 2 h1 p0) ?_;exact ⟨rfl,Qd (by rw[h1]<;>kernel_rfl)⟩
 ·
  refine rn Qa [6] [] (pf 2 h1 p0) ?_;exact ⟨rfl,Qd (by rw[h1]<;>kernel_rfl)⟩
 exact Qg <| pb [] (show Q6 x least most=(decide (x>=least)&&decide (x<=most)) from rfl)
def Am (s_:ByteArray) (k0:Nat) (_:Unit):Rd (Bool) (Unit) (Unit):=(bif (decide (Ct s_ ((k0:Nat):Int)<(97:Int))|| decide (Ct s_ ((k0:Nat):Int)>(122:Int))) then (.ret false) else (.next ()))
def Bo (_:Nat) (_:Unit):Unit:=()
def Gh (s_:ByteArray) (most:Int):Bool:=(Out.on (Wu (Am s_) Bo (Int.toNat (ByteArray.size s_:Int)) 0 ()) (fun _=>(Q6 (ByteArray.size s_:Int) 1 most)))
theorem T5 (s_:ByteArray) (most:Int):ACalls Tryz.prog 273 [.s s_, .i most] (.b (Gh s_ most)):=by
 refine en Qa Tryz.func273 fun w0 F0 hG=> ?_
 refine sn Qa [0,1,4] [] (p0) <| Qc <| tn Qa [0,1,4,5] [] (p0) <| mz [(4, .b false),(5, .i 0)] [] [] [] <| stT 0 0 s_ (fun hs1=> ?_)
 refine Qkv (Am s_) Bo (Int.toNat (ByteArray.size s_:Int)) () (fun k0 _=> [(5, .i ((k0:Nat):Int))]) [5] (fun _=> []) [5] wf0 (fun k0 s0 hk0 hI0=> ?_) (fun k0 s0 hk0 hI0=> ?_) (fun y0 hD0=> ?_)
 ·
  refine Qc <| sn Qa [0,1,4,5,9] [] (pe 3 (Qp (decide_eq_true (p:=((k0:Nat):Int)<(ByteArray.size s_:Int)) (by omega))) p0) <| ckT <| Qf <| Qc <| Qu <| Qc <| mz [(9, .b true)] [] [] [] <| jn [(21, .b (decide (Ct s_ ((k0:Nat):Int)<(97:Int))|| decide (Ct s_ ((k0:Nat):Int)>(122:Int))))] [9] [] [] (decide (Ct s_ ((k0:Nat):Int)<(97:Int))) (fun h2=> ?_) (fun h2=> ?_) ?_
  ·
   have h2d:=of_decide_eq_true h2;refine rn Qa [0,1,4,5,21] [] (px (Tx (i:=((k0:Nat):Int)) (n:=(ByteArray.size s_)) (by omega)) (pt 3 h2 p0)) ?_;exact ⟨rfl,Qd (by rw[h2]<;>kernel_rfl)⟩
  ·
   have h2d:=of_decide_eq_false h2;refine rn Qa [0,1,4,5,21] [] (px (Tx (i:=((k0:Nat):Int)) (n:=(ByteArray.size s_)) (by omega)) (pf 3 h2 (px (Tx (i:=((k0:Nat):Int)) (n:=(ByteArray.size s_)) (by omega)) p0))) ?_;exact ⟨rfl,Qd (by rw[h2]<;>kernel_rfl)⟩
  refine ck (decide (Ct s_ ((k0:Nat):Int)<(97:Int))|| decide (Ct s_ ((k0:Nat):Int)>(122:Int))) (fun h3=> ?_) (fun h3=> ?_)
  ·
   refine su Qa [] [21] [] [] (p0) <| Qg ?_
   have hr4:(Wu (Am s_) Bo (Int.toNat (ByteArray.size s_:Int)) 0 ())= .ret false:=OB hk0 (Xf h3 (rfl)) hI0;exact pb [] (Oa hr4)
  have h3l:(decide (Ct s_ ((k0:Nat):Int)<(97:Int)))=false:=Rc h3;have h3ld:=of_decide_eq_false h3l;have h3r:(decide (Ct s_ ((k0:Nat):Int)>(122:Int)))=false:=Re h3;have h3rd:=of_decide_eq_false h3r;refine Qf <| rn Qa [0,1,4,5] [] (pe 1 (Jh (Ql k0 (by omega))) p0) ?_
  exact xw _ (Vi hk0 (Qs h3 (rfl)) hI0)
 ·
  exact Qc <| sn Qa [0,1,4,5,9] [] (pe 3 (Qp (decide_eq_false (p:=((k0:Nat):Int)<(ByteArray.size s_:Int)) (by omega))) p0) <| ckF <| Q2 <| xw _ (Cw hk0 (rfl) hI0)
 exact sn Qa [4] [] (pc 3 (Zo (ByteArray.size s_:Int) 1 most) p0) <| Qg <| pb [] (Wj hD0 (rfl))
def Y1 (s_:ByteArray):Bool:=(Gh s_ 6)
theorem Ju (s_:ByteArray):ACalls Tryz.prog 234 [.s s_] (.b (Y1 s_)):=by
 refine en Qa Tryz.func234 fun w0 F0 hG=> ?_
 exact sn Qa [0,2] [] (p0) <| tn Qa [2] [] (pc 1 (T5 s_ 6) p0) <| Qg <| pb [] (show Y1 s_=(Gh s_ 6) from rfl)
def J0 (v:De):Bool:=(bif (v.1==(0:Int)) then ((v.1==0)&&((v.2.1==0)&&((v.2.2.toList==(⟨#[]⟩:ByteArray).toList)&&true))) else (bif (v.1==(1:Int)) then ((Q6 v.2.1 0 999)&&(v.2.2.toList==(⟨#[]⟩:ByteArray).toList)) else (bif (v.1==(2:Int)) then ((Y1 v.2.2)&&(v.2.1==(0:Int))) else false)))
theorem Jo (v:De):ACalls Tryz.prog 268 [.a [.i v.1, .i v.2.1, .s v.2.2]] (.b (J0 v)):=by
 refine en Qa Tryz.func268 fun w0 F0 hG=> ?_
 refine sn Qa [1,2] [1] (p0) <| Qc <| tn Qa [1,2,4] [1] (p0) <| Qu <| tu Qa [(1, .p 1 0),(2, .b false),(4, .i v.1),(5, .b (v.1==(0:Int)))] [0] [(1, [.i v.1, .i v.2.1, .s v.2.2])] [] (p0) <| ck (v.1==(0:Int)) (fun h1=> ?_) (fun h1=> ?_)
 ·
  exact sn Qa [2] [] (p0) <| Qg <| pb [] (Xf h1 (rfl))
 refine sn Qa [1,2,4,10] [1] (p0) <| ck (v.1==(1:Int)) (fun h2=> ?_) (fun h2=> ?_)
 ·
  refine Qc <| mz [(10, .b (v.1==(1:Int)))] [5] [] [] <| jn [(2, .b ((Q6 v.2.1 0 999)&&(v.2.2.toList==(⟨#[]⟩:ByteArray).toList)))] [1,2,4,10] [] [1] (Q6 v.2.1 0 999) (fun h3=> ?_) (fun h3=> ?_) ?_
  ·
   refine rn Qa [2] [] (pc 2 (cb h3 (Zo v.2.1 0 999)) p0) ?_;exact ⟨rfl,Qd (by rw[h3]<;>kernel_rfl)⟩
  ·
   refine rn Qa [2] [] (pc 2 (cb h3 (Zo v.2.1 0 999)) p0) ?_;exact ⟨rfl,Qd (by rw[h3]<;>kernel_rfl)⟩
  exact Qg <| pb [] (Qs h1 (Xf h2 (rfl)))
 refine tn Qa [1,2,20] [1] (p0) <| ck (v.1==(2:Int)) (fun h4=> ?_) (fun h4=> ?_)
 ·
  refine Qc <| mz [(20, .b (v.1==(2:Int)))] [4,5] [] [] <| jn [(2, .b ((Y1 v.2.2)&&(v.2.1==(0:Int))))] [1,2,20] [] [1] (Y1 v.2.2) (fun h5=> ?_) (fun h5=> ?_) ?_
  ·
   refine rn Qa [2] [] (pc 2 (cb h5 (Ju v.2.2)) p0) ?_;exact ⟨rfl,Qd (by rw[h5]<;>kernel_rfl)⟩
  ·
   refine rn Qa [2] [] (pc 2 (cb h5 (Ju v.2.2)) p0) ?_;exact ⟨rfl,Qd (by rw[h5]<;>kernel_rfl)⟩
  exact Qg <| pb [] (Qs h1 (Qs h2 (Xf h4 (rfl))))
 exact Qf <| tu Qa [] [1,4,5] [] [1] (p0) <| Qg <| pb [] (Qs h1 (Qs h2 (Qs h4 (rfl))))
def Yd (s_:ByteArray):Bool:=(Gh s_ 1)
theorem Yp (s_:ByteArray):ACalls Tryz.prog 237 [.s s_] (.b (Yd s_)):=by
 refine en Qa Tryz.func237 fun w0 F0 hG=> ?_
 exact sn Qa [0,2] [] (p0) <| tn Qa [2] [] (pc 1 (T5 s_ 1) p0) <| Qg <| pb [] (show Yd s_=(Gh s_ 1) from rfl)
def Za (s_:ByteArray):Bool:=(((ByteArray.size s_:Int)==(1:Int))&&(decide (Ct s_ 0>=(97:Int))&&decide (Ct s_ 0<=(122:Int))))
theorem Zs (s_:ByteArray):ACalls Tryz.prog 261 [.s s_] (.b (Za s_)):=by
 refine en Qa Tryz.func261 fun w0 F0 hG=> ?_
 refine sn Qa [0,2] [] (p0) <| Qc <| mz [(2, .b false)] [] [] [] <| jn [(2, .b (((ByteArray.size s_:Int)==(1:Int))&&(decide (Ct s_ 0>=(97:Int))&&decide (Ct s_ 0<=(122:Int)))))] [0,2] [] [] ((ByteArray.size s_:Int)==(1:Int)) (fun h1=> ?_) (fun h1=> ?_) ?_
 ·
  have h1d:=eq_of_beq h1;refine X5 (decide (Ct s_ 0>=(97:Int))) (fun h2=> ?_) (fun h2=> ?_)
  ·
   have h2d:=of_decide_eq_true h2;refine rn Qa [2] [] (pt 2 h1 (px (Tx (i:=0) (n:=(ByteArray.size s_)) (by omega)) (pt 6 h2 (px (Tx (i:=0) (n:=(ByteArray.size s_)) (by omega)) p0)))) ?_;exact ⟨rfl,Qd (by rw[h1,h2]<;>kernel_rfl)⟩
  have h2d:=of_decide_eq_false h2;refine rn Qa [2] [] (pt 2 h1 (px (Tx (i:=0) (n:=(ByteArray.size s_)) (by omega)) (pf 6 h2 p0))) ?_;exact ⟨rfl,Qd (by rw[h1,h2]<;>kernel_rfl)⟩
 ·
  refine rn Qa [2] [] (pf 2 h1 p0) ?_;exact ⟨rfl,Qd (by rw[h1]<;>kernel_rfl)⟩
 exact Qg <| pb [] (show Za s_=(((ByteArray.size s_:Int)==(1:Int))&&(decide (Ct s_ 0>=(97:Int))&&decide (Ct s_ 0<=(122:Int)))) from rfl)
def Z5 (n:Yu) (at_:Int):Bool:=(bif (n.1==(1:Int)) then ((n.1==n.1)&&((n.2.1==0)&&((n.2.2.1==0)&&((n.2.2.2.1.toList==(⟨#[]⟩:ByteArray).toList)&&((n.2.2.2.2.1==0)&&((n.2.2.2.2.2.1==0)&&((n.2.2.2.2.2.2.toList==(⟨#[]⟩:ByteArray).toList)&&true))))))) else (bif (n.1==(2:Int)) then (((n.1==n.1)&&((n.2.1==0)&&((n.2.2.1==0)&&((n.2.2.2.1.toList==n.2.2.2.1.toList)&&((n.2.2.2.2.1==0)&&((n.2.2.2.2.2.1==0)&&((n.2.2.2.2.2.2.toList==(⟨#[]⟩:ByteArray).toList)&&true)))))))&&(Za n.2.2.2.1)) else (bif (bif (n.1==(3:Int)) then (n.1==(3:Int)) else (n.1==(4:Int))) then (((n.1==n.1)&&((n.2.1==0)&&((n.2.2.1==0)&&((n.2.2.2.1.toList==n.2.2.2.1.toList)&&((n.2.2.2.2.1==n.2.2.2.2.1)&&((n.2.2.2.2.2.1==n.2.2.2.2.2.1)&&((n.2.2.2.2.2.2.toList==n.2.2.2.2.2.2.toList)&&true)))))))&&((Za n.2.2.2.1)&&((Ki n.2.2.2.2)&&((n.2.2.2.2.1 !=(0:Int))&&((n.1==(3:Int))|| (n.2.2.2.2.1==(1:Int))))))) else (bif (n.1==(5:Int)) then (((n.1==n.1)&&((n.2.1==n.2.1)&&((n.2.2.1==0)&&((n.2.2.2.1.toList==(⟨#[]⟩:ByteArray).toList)&&((n.2.2.2.2.1==0)&&((n.2.2.2.2.2.1==0)&&((n.2.2.2.2.2.2.toList==(⟨#[]⟩:ByteArray).toList)&&true)))))))&&(decide (at_>(0:Int))&&(Zm n.2.1 0 (IntKind.i64.wrap (at_-1))))) else (bif (bif (n.1==(6:Int)) then (n.1==(6:Int)) else (n.1==(7:Int))) then (((n.1==n.1)&&((n.2.1==n.2.1)&&((n.2.2.1==n.2.2.1)&&((n.2.2.2.1.toList==(⟨#[]⟩:ByteArray).toList)&&((n.2.2.2.2.1==0)&&((n.2.2.2.2.2.1==0)&&((n.2.2.2.2.2.2.toList==(⟨#[]⟩:ByteArray).toList)&&true)))))))&&(decide (at_>(0:Int))&&((Zm n.2.1 0 (IntKind.i64.wrap (at_-1)))&&(Zm n.2.2.1 0 (IntKind.i64.wrap (at_-1)))))) else (bif (n.1==(8:Int)) then (((n.1==n.1)&&((n.2.1==0)&&((n.2.2.1==0)&&((n.2.2.2.1.toList==n.2.2.2.1.toList)&&((n.2.2.2.2.1==0)&&((n.2.2.2.2.2.1==0)&&((n.2.2.2.2.2.2.toList==(⟨#[]⟩:ByteArray).toList)&&true)))))))&&(Yv n.2.2.2.1)) else (bif (n.1==(9:Int)) then (((n.1==n.1)&&((n.2.1==0)&&((n.2.2.1==0)&&((n.2.2.2.1.toList==n.2.2.2.1.toList)&&((n.2.2.2.2.1==0)&&((n.2.2.2.2.2.1==0)&&((n.2.2.2.2.2.2.toList==(⟨#[]⟩:ByteArray).toList)&&true)))))))&&(Yv n.2.2.2.1)) else false)))))))
theorem Gi (n:Yu) (at_:Int):ACalls Tryz.prog 255 [.a [.i n.1, .i n.2.1, .i n.2.2.1, .s n.2.2.2.1, .i n.2.2.2.2.1, .i n.2.2.2.2.2.1, .s n.2.2.2.2.2.2], .i at_] (.b (Z5 n at_)):=by
 refine en Qa Tryz.func255 fun w0 F0 hG=> ?_
 refine sn Qa [1,2,4] [2] (p0) <| tn Qa [1,2,4,5] [2,5] (p0) <| Qc <| tu Qa [(2, .p 2 0),(4, .b false),(5, .p 5 0),(10, .i n.1)] [0] [(2, [.i n.1, .i n.2.1, .i n.2.2.1, .s n.2.2.2.1, .i n.2.2.2.2.1, .i n.2.2.2.2.2.1, .s n.2.2.2.2.2.2]),(5, [.i n.1, .i 0, .i 0, .s ⟨#[]⟩, .i 0, .i 0, .s ⟨#[]⟩])] [] (p0) <| Qu <| sn Qa [1,2,4,5,10,11] [2,5] (p0) <| ck (n.1==(1:Int)) (fun h1=> ?_) (fun h1=> ?_)
 ·
  exact Qf <| tn Qa [4] [] (p0) <| Qg <| pb [] (Xf h1 (rfl))
 refine tn Qa [1,2,4,5,10,13] [2,5] (p0) <| ck (n.1==(2:Int)) (fun h2=> ?_) (fun h2=> ?_)
 ·
  refine tu Qa [] [1,10] [(5, [.i n.1, .i 0, .i 0, .s n.2.2.2.1, .i 0, .i 0, .s ⟨#[]⟩])] [5] (p0) <| Qc <| jn [(4, .b (((n.1==n.1)&&((n.2.1==0)&&((n.2.2.1==0)&&((n.2.2.2.1.toList==n.2.2.2.1.toList)&&((n.2.2.2.2.1==0)&&((n.2.2.2.2.2.1==0)&&((n.2.2.2.2.2.2.toList==(⟨#[]⟩:ByteArray).toList)&&true)))))))&&(Za n.2.2.2.1)))] [4] [] [] ((n.1==n.1)&&((n.2.1==0)&&((n.2.2.1==0)&&((n.2.2.2.1.toList==n.2.2.2.1.toList)&&((n.2.2.2.2.1==0)&&((n.2.2.2.2.2.1==0)&&((n.2.2.2.2.2.2.toList==(⟨#[]⟩:ByteArray).toList)&&true))))))) (fun h3=> ?_) (fun h3=> ?_) ?_
  ·
   refine rn Qa [2,4,5] [2,5] (pt 2 h3 (pc 6 (Zs n.2.2.2.1) p0)) ?_;exact ⟨rfl,Qd (by rw[h3]<;>kernel_rfl)⟩
  ·
   refine ru Qa [] [] [] [] (pf 2 h3 p0) ?_;exact ⟨rfl,Qd (by rw[h3]<;>kernel_rfl)⟩
  exact Qg <| pb [] (Qs h1 (Xf h2 (rfl)))
 refine Qc <| tu Qa [(26, .b (n.1==(3:Int)))] [] [] [] (p0) <| jn [(26, .b (bif (n.1==(3:Int)) then (n.1==(3:Int)) else (n.1==(4:Int))))] [26] [] [] (n.1==(3:Int)) (fun h4=> ?_) (fun h4=> ?_) ?_
 ·
  refine ckt h4 ?_;exact Qf <| ⟨rfl,Qd (by rw[h4]<;>kernel_rfl)⟩
 ·
  refine ckf h4 ?_;refine rn Qa [1,2,4,5,10,26] [2,5] (p0) ?_;exact ⟨rfl,Qd (by rw[h4]<;>kernel_rfl)⟩
 refine ck (bif (n.1==(3:Int)) then (n.1==(3:Int)) else (n.1==(4:Int))) (fun h5=> ?_) (fun h5=> ?_)
 ·
  refine sN Qa Zh [2,4,5] [2,5] (p0) <| Qc <| mz [] [1,10,26] [(5, [.i n.1, .i 0, .i 0, .s n.2.2.2.1, .i n.2.2.2.2.1, .i n.2.2.2.2.2.1, .s n.2.2.2.2.2.2])] [5] <| jn [(4, .b (((n.1==n.1)&&((n.2.1==0)&&((n.2.2.1==0)&&((n.2.2.2.1.toList==n.2.2.2.1.toList)&&((n.2.2.2.2.1==n.2.2.2.2.1)&&((n.2.2.2.2.2.1==n.2.2.2.2.2.1)&&((n.2.2.2.2.2.2.toList==n.2.2.2.2.2.2.toList)&&true)))))))&&((Za n.2.2.2.1)&&((Ki n.2.2.2.2)&&((n.2.2.2.2.1 !=(0:Int))&&((n.1==(3:Int))|| (n.2.2.2.2.1==(1:Int))))))))] [4] [] [] ((n.1==n.1)&&((n.2.1==0)&&((n.2.2.1==0)&&((n.2.2.2.1.toList==n.2.2.2.1.toList)&&((n.2.2.2.2.1==n.2.2.2.2.1)&&((n.2.2.2.2.2.1==n.2.2.2.2.2.1)&&((n.2.2.2.2.2.2.toList==n.2.2.2.2.2.2.toList)&&true))))))) (fun h6=> ?_) (fun h6=> ?_) ?_
  ·
   refine X5 (Za n.2.2.2.1) (fun h7=> ?_) (fun h7=> ?_)
   ·
    refine X5 (Ki n.2.2.2.2) (fun h8=> ?_) (fun h8=> ?_)
    ·
     refine X5 (n.2.2.2.2.1 !=(0:Int)) (fun h9=> ?_) (fun h9=> ?_)
     ·
      refine X5 (n.1==(3:Int)) (fun h10=> ?_) (fun h10=> ?_)
      ·
       refine rn Qa [2,4,5] [2,5] (pt 2 h6 (pc 6 (cb h7 (Zs n.2.2.2.1)) (pc 11 (cb h8 (V8 n.2.2.2.2)) (pt 17 h9 (pt 22 h10 p0))))) ?_;exact ⟨rfl,Qd (by rw[h6,h7,h8,h9,h10]<;>kernel_rfl)⟩
      refine rn Qa [2,4,5] [2,5] (pt 2 h6 (pc 6 (cb h7 (Zs n.2.2.2.1)) (pc 11 (cb h8 (V8 n.2.2.2.2)) (pt 17 h9 (pf 22 h10 p0))))) ?_;exact ⟨rfl,Qd (by rw[h6,h7,h8,h9,h10]<;>kernel_rfl)⟩
     refine ru Qa [] [] [] [] (pt 2 h6 (pc 6 (cb h7 (Zs n.2.2.2.1)) (pc 11 (cb h8 (V8 n.2.2.2.2)) (pf 17 h9 p0)))) ?_;exact ⟨rfl,Qd (by rw[h6,h7,h8,h9]<;>kernel_rfl)⟩
    refine ru Qa [] [] [] [] (pt 2 h6 (pc 6 (cb h7 (Zs n.2.2.2.1)) (pc 11 (cb h8 (V8 n.2.2.2.2)) p0))) ?_;exact ⟨rfl,Qd (by rw[h6,h7,h8]<;>kernel_rfl)⟩
   refine ru Qa [] [] [] [] (pt 2 h6 (pc 6 (cb h7 (Zs n.2.2.2.1)) p0)) ?_;exact ⟨rfl,Qd (by rw[h6,h7]<;>kernel_rfl)⟩
  ·
   refine ru Qa [] [] [] [] (pf 2 h6 p0) ?_;exact ⟨rfl,Qd (by rw[h6]<;>kernel_rfl)⟩
  exact Qg <| pb [] (Qs h1 (Qs h2 (Xf h5 (rfl))))
 refine sn Qa [1,2,4,5,10,65] [2,5] (p0) <| ck (n.1==(5:Int)) (fun h11=> ?_) (fun h11=> ?_)
 ·
  refine tn Qa [1,2,4,5] [2,5] (p0) <| Qc <| mz [] [10,26] [(5, [.i n.1, .i n.2.1, .i 0, .s ⟨#[]⟩, .i 0, .i 0, .s ⟨#[]⟩])] [5] <| jn [(4, .b (((n.1==n.1)&&((n.2.1==n.2.1)&&((n.2.2.1==0)&&((n.2.2.2.1.toList==(⟨#[]⟩:ByteArray).toList)&&((n.2.2.2.2.1==0)&&((n.2.2.2.2.2.1==0)&&((n.2.2.2.2.2.2.toList==(⟨#[]⟩:ByteArray).toList)&&true)))))))&&(decide (at_>(0:Int))&&(Zm n.2.1 0 (IntKind.i64.wrap (at_-1))))))] [1,4] [] [] ((n.1==n.1)&&((n.2.1==n.2.1)&&((n.2.2.1==0)&&((n.2.2.2.1.toList==(⟨#[]⟩:ByteArray).toList)&&((n.2.2.2.2.1==0)&&((n.2.2.2.2.2.1==0)&&((n.2.2.2.2.2.2.toList==(⟨#[]⟩:ByteArray).toList)&&true))))))) (fun h12=> ?_) (fun h12=> ?_) ?_
  ·
   refine X5 (decide (at_>(0:Int))) (fun h13=> ?_) (fun h13=> ?_)
   ·
    refine rn Qa [2,4,5] [2,5] (pt 2 h12 (pt 5 h13 (pc 12 (Ku n.2.1 0 (IntKind.i64.wrap (at_-1))) p0))) ?_;exact ⟨rfl,Qd (by rw[h12,h13]<;>kernel_rfl)⟩
   refine ru Qa [] [1] [] [] (pt 2 h12 (pf 5 h13 p0)) ?_;exact ⟨rfl,Qd (by rw[h12,h13]<;>kernel_rfl)⟩
  ·
   refine ru Qa [] [1] [] [] (pf 2 h12 p0) ?_;exact ⟨rfl,Qd (by rw[h12]<;>kernel_rfl)⟩
  exact Qg <| pb [] (Qs h1 (Qs h2 (Qs h5 (Xf h11 (rfl)))))
 refine Qc <| tn Qa [1,2,4,5,10,84] [2,5] (p0) <| mz [(84, .b (n.1==(6:Int)))] [26] [] [] <| jn [(84, .b (bif (n.1==(6:Int)) then (n.1==(6:Int)) else (n.1==(7:Int))))] [84] [] [] (n.1==(6:Int)) (fun h14=> ?_) (fun h14=> ?_) ?_
 ·
  refine ckt h14 ?_;exact Qf <| ⟨rfl,Qd (by rw[h14]<;>kernel_rfl)⟩
 ·
  refine ckf h14 ?_;refine rn Qa [1,2,4,5,10,84] [2,5] (p0) ?_;exact ⟨rfl,Qd (by rw[h14]<;>kernel_rfl)⟩
 refine ck (bif (n.1==(6:Int)) then (n.1==(6:Int)) else (n.1==(7:Int))) (fun h15=> ?_) (fun h15=> ?_)
 ·
  refine sN Qa Zh [1,2,4,5] [2,5] (p0) <| Qc <| mz [] [10,84] [(5, [.i n.1, .i n.2.1, .i n.2.2.1, .s ⟨#[]⟩, .i 0, .i 0, .s ⟨#[]⟩])] [5] <| jn [(4, .b (((n.1==n.1)&&((n.2.1==n.2.1)&&((n.2.2.1==n.2.2.1)&&((n.2.2.2.1.toList==(⟨#[]⟩:ByteArray).toList)&&((n.2.2.2.2.1==0)&&((n.2.2.2.2.2.1==0)&&((n.2.2.2.2.2.2.toList==(⟨#[]⟩:ByteArray).toList)&&true)))))))&&(decide (at_>(0:Int))&&((Zm n.2.1 0 (IntKind.i64.wrap (at_-1)))&&(Zm n.2.2.1 0 (IntKind.i64.wrap (at_-1)))))))] [1,4] [] [] ((n.1==n.1)&&((n.2.1==n.2.1)&&((n.2.2.1==n.2.2.1)&&((n.2.2.2.1.toList==(⟨#[]⟩:ByteArray).toList)&&((n.2.2.2.2.1==0)&&((n.2.2.2.2.2.1==0)&&((n.2.2.2.2.2.2.toList==(⟨#[]⟩:ByteArray).toList)&&true))))))) (fun h16=> ?_) (fun h16=> ?_) ?_
  ·
   refine X5 (decide (at_>(0:Int))) (fun h17=> ?_) (fun h17=> ?_)
   ·
    refine X5 (Zm n.2.1 0 (IntKind.i64.wrap (at_-1))) (fun h18=> ?_) (fun h18=> ?_)
    ·
     refine rn Qa [2,4,5] [2,5] (pt 2 h16 (pt 5 h17 (pc 12 (cb h18 (Ku n.2.1 0 (IntKind.i64.wrap (at_-1)))) (pc 19 (Ku n.2.2.1 0 (IntKind.i64.wrap (at_-1))) p0)))) ?_;exact ⟨rfl,Qd (by rw[h16,h17,h18]<;>kernel_rfl)⟩
    refine ru Qa [] [1] [] [] (pt 2 h16 (pt 5 h17 (pc 12 (cb h18 (Ku n.2.1 0 (IntKind.i64.wrap (at_-1)))) p0))) ?_;exact ⟨rfl,Qd (by rw[h16,h17,h18]<;>kernel_rfl)⟩
   refine ru Qa [] [1] [] [] (pt 2 h16 (pf 5 h17 p0)) ?_;exact ⟨rfl,Qd (by rw[h16,h17]<;>kernel_rfl)⟩
  ·
   refine ru Qa [] [1] [] [] (pf 2 h16 p0) ?_;exact ⟨rfl,Qd (by rw[h16]<;>kernel_rfl)⟩
  exact Qg <| pb [] (Qs h1 (Qs h2 (Qs h5 (Qs h11 (Xf h15 (rfl))))))
 refine Qc <| sn Qa [2,4,5,10,114] [2,5] (p0) <| ck (n.1==(8:Int)) (fun h19=> ?_) (fun h19=> ?_)
 ·
  refine Qf <| ckt h19 ?_
  refine tn Qa [2,4,5] [2,5] (p0) <| Qc <| mz [] [1,10,84] [(5, [.i n.1, .i 0, .i 0, .s n.2.2.2.1, .i 0, .i 0, .s ⟨#[]⟩])] [5] <| jn [(4, .b (((n.1==n.1)&&((n.2.1==0)&&((n.2.2.1==0)&&((n.2.2.2.1.toList==n.2.2.2.1.toList)&&((n.2.2.2.2.1==0)&&((n.2.2.2.2.2.1==0)&&((n.2.2.2.2.2.2.toList==(⟨#[]⟩:ByteArray).toList)&&true)))))))&&(Yv n.2.2.2.1)))] [4] [] [] ((n.1==n.1)&&((n.2.1==0)&&((n.2.2.1==0)&&((n.2.2.2.1.toList==n.2.2.2.1.toList)&&((n.2.2.2.2.1==0)&&((n.2.2.2.2.2.1==0)&&((n.2.2.2.2.2.2.toList==(⟨#[]⟩:ByteArray).toList)&&true))))))) (fun h20=> ?_) (fun h20=> ?_) ?_
  ·
   refine rn Qa [2,4,5] [2,5] (pt 2 h20 (pc 6 (K3 n.2.2.2.1) p0)) ?_;exact ⟨rfl,Qd (by rw[h20]<;>kernel_rfl)⟩
  ·
   refine ru Qa [] [] [] [] (pf 2 h20 p0) ?_;exact ⟨rfl,Qd (by rw[h20]<;>kernel_rfl)⟩
  exact Qg <| pb [] (Qs h1 (Qs h2 (Qs h5 (Qs h11 (Qs h15 (Xf h19 (rfl)))))))
 refine qn Qa [2,4,5,114] [2,5] (p0) ?_;refine ck (n.1==(9:Int)) (fun h21=> ?_) (fun h21=> ?_)
 ·
  refine tu Qa [] [1,10,84] [(5, [.i n.1, .i 0, .i 0, .s n.2.2.2.1, .i 0, .i 0, .s ⟨#[]⟩])] [5] (p0) <| Qc <| jn [(4, .b (((n.1==n.1)&&((n.2.1==0)&&((n.2.2.1==0)&&((n.2.2.2.1.toList==n.2.2.2.1.toList)&&((n.2.2.2.2.1==0)&&((n.2.2.2.2.2.1==0)&&((n.2.2.2.2.2.2.toList==(⟨#[]⟩:ByteArray).toList)&&true)))))))&&(Yv n.2.2.2.1)))] [4] [] [] ((n.1==n.1)&&((n.2.1==0)&&((n.2.2.1==0)&&((n.2.2.2.1.toList==n.2.2.2.1.toList)&&((n.2.2.2.2.1==0)&&((n.2.2.2.2.2.1==0)&&((n.2.2.2.2.2.2.toList==(⟨#[]⟩:ByteArray).toList)&&true))))))) (fun h22=> ?_) (fun h22=> ?_) ?_
  ·
   refine rn Qa [2,4,5] [2,5] (pt 2 h22 (pc 6 (K3 n.2.2.2.1) p0)) ?_;exact ⟨rfl,Qd (by rw[h22]<;>kernel_rfl)⟩
  ·
   refine ru Qa [] [] [] [] (pf 2 h22 p0) ?_;exact ⟨rfl,Qd (by rw[h22]<;>kernel_rfl)⟩
  exact Qg <| pb [] (Qs h1 (Qs h2 (Qs h5 (Qs h11 (Qs h15 (Qs h19 (Xf h21 (rfl))))))))
 exact tu Qa [] [1,10,84] [] [] (p0) <| Qg <| pb [] (Qs h1 (Qs h2 (Qs h5 (Qs h11 (Qs h15 (Qs h19 (Qs h21 (rfl))))))))
def Ky (at_:Int) (_:Nat) (a0:Yu) (s0:Int):Rd (Int) (Int) (Int):=(bif ((a0.2.1==at_)&&(((a0.1==(6:Int))|| (a0.1==(7:Int)))|| (a0.1==(5:Int)))) then (bif ((a0.2.2.1==at_)&&((a0.1==(6:Int))|| (a0.1==(7:Int)))) then (.next (IntKind.i64.wrap (IntKind.i64.wrap (s0+1)+1))) else (.next (IntKind.i64.wrap (s0+1)))) else (bif ((a0.2.2.1==at_)&&((a0.1==(6:Int))|| (a0.1==(7:Int)))) then (.next (IntKind.i64.wrap (s0+1))) else (.next s0)))
def Hv (_:Nat) (s0:Int):Int:=s0
def Kc (q:(List Yu)) (at_:Int):Int:=(Out.on (Xp (Ky at_) Hv q 0 0) (fun y0=>y0))
theorem Pi (q:(List Yu)) (at_:Int):ACalls Tryz.prog 256 [.h q, .i at_] (.i (Kc q at_)):=by
 refine en Qa Tryz.func256 fun w0 F0 hG=> ?_
 refine sn Qa [0,1,4] [] (p0) <| tn Qa [0,1,4,5] [] (p0) <| Qc <| tu Qa [(4, .i 0),(5, .i 0),(9, .h q),(10, .i (q.length:Int)),(11, .i 0)] [0] [] [] (pl 1 q p0) <| wT 9 0 .sh q (fun hw1 hl2=> ?_)
 refine Ox (Ky at_) Hv q 0 (fun k0 s0=> [(5, .i s0),(11, .i ((k0:Nat):Int))]) [5,11] (fun y0=> [(5, .i y0)]) [1,5,9,10,11] wf0 (fun k0 s0 hk0 hI0=> ?_) (fun k0 s0 hk0 hI0=> ?_) (fun y0 hD0=> ?_)
 ·
  obtain ⟨a0,hx0⟩:=Xh (l:=q) (i:=k0) hk0;refine su Qa [(12, .b true)] [] [] [] (pe 0 (Qp (decide_eq_true (p:=((k0:Nat):Int)<(q.length:Int)) (by omega))) p0) <| Qc <| ckT <| Qf <| Qc <| Qu <| sn Qa [1,4,5,7,9,10,11] [7] (pn 0 hx0 p0) <| Qc <| mz [(7, .p 7 0)] [12] [(7, [.i a0.1, .i a0.2.1, .i a0.2.2.1, .s a0.2.2.2.1, .i a0.2.2.2.2.1, .i a0.2.2.2.2.2.1, .s a0.2.2.2.2.2.2])] [] <| jn [(8, .b ((a0.1==(6:Int))|| (a0.1==(7:Int))))] [] [] [] (a0.1==(6:Int)) (fun h3=> ?_) (fun h3=> ?_) ?_
  ·
   refine ru Qa [(8, .b true)] [] [] [] (pt 2 h3 p0) ?_;exact ⟨rfl,Qd (by rw[h3]<;>kernel_rfl)⟩
  ·
   refine rn Qa [1,4,5,7,8,9,10,11] [7] (pf 2 h3 p0) ?_;exact ⟨rfl,Qd (by rw[h3]<;>kernel_rfl)⟩
  refine Qc <| Qc <| jn [(34, .b ((a0.2.1==at_)&&(((a0.1==(6:Int))|| (a0.1==(7:Int)))|| (a0.1==(5:Int)))))] [] [] [] (a0.2.1==at_) (fun h4=> ?_) (fun h4=> ?_) ?_
  ·
   refine X5 ((a0.1==(6:Int))|| (a0.1==(7:Int))) (fun h5=> ?_) (fun h5=> ?_)
   ·
    refine ru Qa [(34, .b true)] [] [] [] (pt 3 h4 (pt 5 h5 p0)) ?_;exact ⟨rfl,Qd (by rw[h4,h5]<;>kernel_rfl)⟩
   refine rn Qa [1,4,5,7,8,9,10,11,34] [7] (pt 3 h4 (pf 5 h5 p0)) ?_;exact ⟨rfl,Qd (by rw[h4,h5]<;>kernel_rfl)⟩
  ·
   refine ru Qa [(34, .b false)] [] [] [] (pf 3 h4 p0) ?_;exact ⟨rfl,Qd (by rw[h4]<;>kernel_rfl)⟩
  refine ck ((a0.2.1==at_)&&(((a0.1==(6:Int))|| (a0.1==(7:Int)))|| (a0.1==(5:Int)))) (fun h6=> ?_) (fun h6=> ?_)
  ·
   have h6l:((a0.2.1==at_))=true:=UP h6;have h6ld:=eq_of_beq h6l;refine rn Qa [1,4,5,7,8,9,10,11] [7] (p0) ?_;refine Qc <| mz [(5, .i (IntKind.i64.wrap (s0+1)))] [5,34] [] [] <| jn [(43, .b ((a0.2.2.1==at_)&&((a0.1==(6:Int))|| (a0.1==(7:Int)))))] [7,8] [] [7] (a0.2.2.1==at_) (fun h7=> ?_) (fun h7=> ?_) ?_
   ·
    refine rn Qa [1,4,5,9,10,11,43] [] (pt 3 h7 p0) ?_;exact ⟨rfl,Qd (by rw[h7]<;>kernel_rfl)⟩
   ·
    refine rn Qa [1,4,5,9,10,11,43] [] (pf 3 h7 p0) ?_;exact ⟨rfl,Qd (by rw[h7]<;>kernel_rfl)⟩
   refine ck ((a0.2.2.1==at_)&&((a0.1==(6:Int))|| (a0.1==(7:Int)))) (fun h8=> ?_) (fun h8=> ?_)
   ·
    have h8l:((a0.2.2.1==at_))=true:=UP h8;have h8ld:=eq_of_beq h8l;refine rn Qa [1,4,5,9,10,11] [] (p0) ?_;refine qn Qa [1,4,5,9,10,11] [] (pe 0 (Jh (Ql k0 (by omega))) p0) ?_;exact xw _ (Qr hx0 (Xf h6 (Xf h8 (rfl))) hI0)
   refine Qf <| rn Qa [1,4,5,9,10,11] [] (pe 0 (Jh (Ql k0 (by omega))) p0) ?_
   exact xw _ (Qr hx0 (Xf h6 (Qs h8 (rfl))) hI0)
  refine Qf <| Qc <| jn [(43, .b ((a0.2.2.1==at_)&&((a0.1==(6:Int))|| (a0.1==(7:Int)))))] [7,8,34] [] [7] (a0.2.2.1==at_) (fun h9=> ?_) (fun h9=> ?_) ?_
  ·
   refine rn Qa [1,4,5,9,10,11,43] [] (pt 3 h9 p0) ?_;exact ⟨rfl,Qd (by rw[h9]<;>kernel_rfl)⟩
  ·
   refine rn Qa [1,4,5,9,10,11,43] [] (pf 3 h9 p0) ?_;exact ⟨rfl,Qd (by rw[h9]<;>kernel_rfl)⟩
  refine ck ((a0.2.2.1==at_)&&((a0.1==(6:Int))|| (a0.1==(7:Int)))) (fun h10=> ?_) (fun h10=> ?_)
  ·
   have h10l:((a0.2.2.1==at_))=true:=UP h10;have h10ld:=eq_of_beq h10l;refine rn Qa [1,4,5,9,10,11] [] (p0) ?_;refine qn Qa [1,4,5,9,10,11] [] (pe 0 (Jh (Ql k0 (by omega))) p0) ?_;exact xw _ (Qr hx0 (Qs h6 (Xf h10 (rfl))) hI0)
  refine Qf <| rn Qa [1,4,5,9,10,11] [] (pe 0 (Jh (Ql k0 (by omega))) p0) ?_
  exact xw _ (Qr hx0 (Qs h6 (Qs h10 (rfl))) hI0)
 ·
  exact su Qa [(12, .b false)] [] [] [] (pe 0 (Qp (decide_eq_false (p:=((k0:Nat):Int)<(q.length:Int)) (by omega))) p0) <| Qc <| ckF <| Q2 <| xw _ (Xi hk0 (rfl) hI0)
 exact sn Qa [4] [] (p0) <| Qg <| pi [] (Wj hD0 (rfl))
def Zu (q:(List Yu)) (k0:Nat) (a0:Yu) (_:Unit):Rd (Bool) (Unit) (Unit):=(bif ((!(Z5 a0 ((k0:Nat):Int)))|| (decide (((k0:Nat):Int)<((q.length:Int)-1))&&((Kc q ((k0:Nat):Int)) !=(1:Int)))) then (.ret false) else (.next ()))
def Vy (_:Nat) (_:Unit):Unit:=()
def Q3 (q:(List Yu)):Bool:=(Out.on (Xp (Zu q) Vy q 0 ()) (fun _=>(Zm (q.length:Int) 1 9)))
theorem H8 (q:(List Yu)):ACalls Tryz.prog 208 [.h q] (.b (Q3 q)):=by
 refine en Qa Tryz.func208 fun w0 F0 hG=> ?_
 refine sn Qa [0,2] [] (p0) <| Qc <| tn Qa [0,2,5,6,7] [] (pl 1 q p0) <| mz [(2, .b false),(5, .h q),(6, .i (q.length:Int)),(7, .i 0)] [] [] [] <| wT 0 0 .sh q (fun hw1 hl2=> ?_)
 refine Ox (Zu q) Vy q () (fun k0 _=> [(7, .i ((k0:Nat):Int))]) [7] (fun _=> []) [5,6,7] wf0 (fun k0 s0 hk0 hI0=> ?_) (fun k0 s0 hk0 hI0=> ?_) (fun y0 hD0=> ?_)
 ·
  obtain ⟨a0,hx0⟩:=Xh (l:=q) (i:=k0) hk0;refine sn Qa [0,2,5,6,7,8] [] (pe 0 (Qp (decide_eq_true (p:=((k0:Nat):Int)<(q.length:Int)) (by omega))) p0) <| Qc <| ckT <| Qf <| Qc <| Qu <| tn Qa [0,2,3,4,5,6,7] [4] (pn 1 hx0 p0) <| Qc <| mz [(3, .i ((k0:Nat):Int)),(4, .p 4 0)] [] [(4, [.i a0.1, .i a0.2.1, .i a0.2.2.1, .s a0.2.2.2.1, .i a0.2.2.2.2.1, .i a0.2.2.2.2.2.1, .s a0.2.2.2.2.2.2])] [] <| jn [(28, .b ((!(Z5 a0 ((k0:Nat):Int)))|| (decide (((k0:Nat):Int)<((q.length:Int)-1))&&((Kc q ((k0:Nat):Int)) !=(1:Int)))))] [3,4] [] [4] (!(Z5 a0 ((k0:Nat):Int))) (fun h3=> ?_) (fun h3=> ?_) ?_
  ·
   have h3n:(Z5 a0 ((k0:Nat):Int))=false:=Vd h3;refine rn Qa [0,2,5,6,7,28] [] (pc 2 (cb h3n (Gi a0 ((k0:Nat):Int))) (pe 3 (show .b (!false)= .b true from rfl) p0)) ?_;exact ⟨rfl,Qd (by rw[h3]<;>kernel_rfl)⟩
  ·
   have h3n:(Z5 a0 ((k0:Nat):Int))=true:=Y3 h3;refine X5 (decide (((k0:Nat):Int)<((q.length:Int)-1))) (fun h4=> ?_) (fun h4=> ?_)
   ·
    have h4d:=of_decide_eq_true h4;refine rn Qa [0,2,5,6,7,28] [] (pc 2 (cb h3n (Gi a0 ((k0:Nat):Int))) (pe 3 (show .b (!true)= .b false from rfl) (pl 7 q (pe 8 (Jh (IntWalk.i64_in ((q.length:Int)-1) (by omega))) (pt 9 h4 (pc 13 (Pi q ((k0:Nat):Int)) p0)))))) ?_;exact ⟨rfl,Qd (by rw[h3,h4]<;>kernel_rfl)⟩
   have h4d:=of_decide_eq_false h4;refine rn Qa [0,2,5,6,7,28] [] (pc 2 (cb h3n (Gi a0 ((k0:Nat):Int))) (pe 3 (show .b (!true)= .b false from rfl) (pl 7 q (pe 8 (Jh (IntWalk.i64_in ((q.length:Int)-1) (by omega))) (pf 9 h4 p0))))) ?_;exact ⟨rfl,Qd (by rw[h3,h4]<;>kernel_rfl)⟩
  refine ck ((!(Z5 a0 ((k0:Nat):Int)))|| (decide (((k0:Nat):Int)<((q.length:Int)-1))&&((Kc q ((k0:Nat):Int)) !=(1:Int)))) (fun h5=> ?_) (fun h5=> ?_)
  ·
   refine su Qa [] [28] [] [] (p0) <| Qg ?_
   have hr6:(Xp (Zu q) Vy q 0 ())= .ret false:=Jg hx0 (Xf h5 (rfl)) hI0;exact pb [] (Oa hr6)
  refine Qf <| rn Qa [0,2,5,6,7] [] (pe 0 (Jh (Ql k0 (by omega))) p0) ?_
  exact xw _ (Qr hx0 (Qs h5 (rfl)) hI0)
 ·
  exact sn Qa [0,2,5,6,7,8] [] (pe 0 (Qp (decide_eq_false (p:=((k0:Nat):Int)<(q.length:Int)) (by omega))) p0) <| Qc <| ckF <| Q2 <| xw _ (Xi hk0 (rfl) hI0)
 exact sn Qa [2] [] (pl 1 q (pc 2 (Ku (q.length:Int) 1 9) p0)) <| Qg <| pb [] (Wj hD0 (rfl))
def V9 (n:Yu) (at_:Int):Bool:=(bif (n.1==(1:Int)) then ((n.1==1)&&((n.2.1==0)&&((n.2.2.1==0)&&((n.2.2.2.1.toList==(⟨#[]⟩:ByteArray).toList)&&((n.2.2.2.2.1==0)&&((n.2.2.2.2.2.1==0)&&((n.2.2.2.2.2.2.toList==(⟨#[]⟩:ByteArray).toList)&&true))))))) else (bif (n.1==(2:Int)) then ((Yd n.2.2.2.1)&&((n.1==n.1)&&((n.2.1==0)&&((n.2.2.1==0)&&((n.2.2.2.1.toList==n.2.2.2.1.toList)&&((n.2.2.2.2.1==0)&&((n.2.2.2.2.2.1==0)&&((n.2.2.2.2.2.2.toList==(⟨#[]⟩:ByteArray).toList)&&true)))))))) else (bif (n.1==(3:Int)) then ((Yd n.2.2.2.1)&&((J0 n.2.2.2.2)&&((n.2.2.2.2.1 !=(0:Int))&&((n.2.1==(0:Int))&&(n.2.2.1==(0:Int)))))) else (bif (n.1==(4:Int)) then ((Yd n.2.2.2.1)&&((J0 n.2.2.2.2)&&((n.2.2.2.2.1==(1:Int))&&((n.2.1==(0:Int))&&(n.2.2.1==(0:Int)))))) else (bif (n.1==(5:Int)) then (((Q6 n.2.1 0 (IntKind.i64.wrap (at_-1)))&&decide (at_>(0:Int)))&&((n.2.2.1==(0:Int))&&((n.2.2.2.1.toList==(⟨#[]⟩:ByteArray).toList)&&((n.2.2.2.2.1==0)&&((n.2.2.2.2.2.1==0)&&((n.2.2.2.2.2.2.toList==(⟨#[]⟩:ByteArray).toList)&&true)))))) else (bif (bif (n.1==(6:Int)) then (n.1==(6:Int)) else (n.1==(7:Int))) then ((((Q6 n.2.1 0 (IntKind.i64.wrap (at_-1)))&&decide (at_>(0:Int)))&&(Q6 n.2.2.1 0 (IntKind.i64.wrap (at_-1))))&&((n.2.2.2.1.toList==(⟨#[]⟩:ByteArray).toList)&&((n.2.2.2.2.1==0)&&((n.2.2.2.2.2.1==0)&&((n.2.2.2.2.2.2.toList==(⟨#[]⟩:ByteArray).toList)&&true))))) else (bif (n.1==(8:Int)) then ((Y1 n.2.2.2.1)&&((n.1==n.1)&&((n.2.1==0)&&((n.2.2.1==0)&&((n.2.2.2.1.toList==n.2.2.2.1.toList)&&((n.2.2.2.2.1==0)&&((n.2.2.2.2.2.1==0)&&((n.2.2.2.2.2.2.toList==(⟨#[]⟩:ByteArray).toList)&&true)))))))) else (bif (n.1==(9:Int)) then ((Y1 n.2.2.2.1)&&((n.1==n.1)&&((n.2.1==0)&&((n.2.2.1==0)&&((n.2.2.2.1.toList==n.2.2.2.1.toList)&&((n.2.2.2.2.1==0)&&((n.2.2.2.2.2.1==0)&&((n.2.2.2.2.2.2.toList==(⟨#[]⟩:ByteArray).toList)&&true)))))))) else false))))))))
theorem Gj (n:Yu) (at_:Int):ACalls Tryz.prog 274 [.a [.i n.1, .i n.2.1, .i n.2.2.1, .s n.2.2.2.1, .i n.2.2.2.2.1, .i n.2.2.2.2.2.1, .s n.2.2.2.2.2.2], .i at_] (.b (V9 n at_)):=by
 refine en Qa Tryz.func274 fun w0 F0 hG=> ?_
 refine sn Qa [1,2,4] [2] (p0) <| Qc <| mz [(2, .p 2 0),(4, .b false)] [0] [(2, [.i n.1, .i n.2.1, .i n.2.2.1, .s n.2.2.2.1, .i n.2.2.2.2.1, .i n.2.2.2.2.2.1, .s n.2.2.2.2.2.2])] [] <| jn [(5, .b ((Q6 n.2.1 0 (IntKind.i64.wrap (at_-1)))&&decide (at_>(0:Int))))] [] [] [] (Q6 n.2.1 0 (IntKind.i64.wrap (at_-1))) (fun h1=> ?_) (fun h1=> ?_) ?_
 ·
  refine rn Qa [1,2,4,5] [2] (pc 4 (cb h1 (Zo n.2.1 0 (IntKind.i64.wrap (at_-1)))) p0) ?_;exact ⟨rfl,Qd (by rw[h1]<;>kernel_rfl)⟩
 ·
  refine rn Qa [1,2,4,5] [2] (pc 4 (cb h1 (Zo n.2.1 0 (IntKind.i64.wrap (at_-1)))) p0) ?_;exact ⟨rfl,Qd (by rw[h1]<;>kernel_rfl)⟩
 refine Qc <| jn [(6, .b (((Q6 n.2.1 0 (IntKind.i64.wrap (at_-1)))&&decide (at_>(0:Int)))&&(Q6 n.2.2.1 0 (IntKind.i64.wrap (at_-1)))))] [1] [] [] ((Q6 n.2.1 0 (IntKind.i64.wrap (at_-1)))&&decide (at_>(0:Int))) (fun h2=> ?_) (fun h2=> ?_) ?_
 ·
  refine rn Qa [2,4,5,6] [2] (pt 0 h2 (pc 6 (Zo n.2.2.1 0 (IntKind.i64.wrap (at_-1))) p0)) ?_;exact ⟨rfl,Qd (by rw[h2]<;>kernel_rfl)⟩
 ·
  refine rn Qa [2,4,5,6] [2] (pf 0 h2 p0) ?_;exact ⟨rfl,Qd (by rw[h2]<;>kernel_rfl)⟩
 refine Qc <| sn Qa [2,4,5,6,25] [2] (p0) <| Qu <| tn Qa [2,4,5,6,25,26] [2] (p0) <| ck (n.1==(1:Int)) (fun h3=> ?_) (fun h3=> ?_)
 ·
  exact tu Qa [(4, .b ((n.1==1)&&((n.2.1==0)&&((n.2.2.1==0)&&((n.2.2.2.1.toList==(⟨#[]⟩:ByteArray).toList)&&((n.2.2.2.2.1==0)&&((n.2.2.2.2.2.1==0)&&((n.2.2.2.2.2.2.toList==(⟨#[]⟩:ByteArray).toList)&&true))))))))] [2,4,5,6] [] [2] (p0) <| Qg <| pb [] (Xf h3 (rfl))
 refine tu Qa [(25, .i n.1),(31, .b (n.1==(2:Int)))] [] [] [] (p0) <| ck (n.1==(2:Int)) (fun h4=> ?_) (fun h4=> ?_)
 ·
  refine Qc <| jn [(4, .b ((Yd n.2.2.2.1)&&((n.1==n.1)&&((n.2.1==0)&&((n.2.2.1==0)&&((n.2.2.2.1.toList==n.2.2.2.1.toList)&&((n.2.2.2.2.1==0)&&((n.2.2.2.2.2.1==0)&&((n.2.2.2.2.2.2.toList==(⟨#[]⟩:ByteArray).toList)&&true)))))))))] [2,4,5,6,25,31] [] [2] (Yd n.2.2.2.1) (fun h5=> ?_) (fun h5=> ?_) ?_
  ·
   refine rn Qa [4] [] (pc 2 (cb h5 (Yp n.2.2.2.1)) p0) ?_;exact ⟨rfl,Qd (by rw[h5]<;>kernel_rfl)⟩
  ·
   refine rn Qa [4] [] (pc 2 (cb h5 (Yp n.2.2.2.1)) p0) ?_;exact ⟨rfl,Qd (by rw[h5]<;>kernel_rfl)⟩
  exact Qg <| pb [] (Qs h3 (Xf h4 (rfl)))
 refine sn Qa [2,4,5,6,25,45] [2] (p0) <| ck (n.1==(3:Int)) (fun h6=> ?_) (fun h6=> ?_)
 ·
  refine Qc <| mz [(45, .b (n.1==(3:Int)))] [31] [] [] <| jn [(4, .b ((Yd n.2.2.2.1)&&((J0 n.2.2.2.2)&&((n.2.2.2.2.1 !=(0:Int))&&((n.2.1==(0:Int))&&(n.2.2.1==(0:Int)))))))] [2,4,5,6,25,45] [] [2] (Yd n.2.2.2.1) (fun h7=> ?_) (fun h7=> ?_) ?_
  ·
   refine X5 (J0 n.2.2.2.2) (fun h8=> ?_) (fun h8=> ?_)
   ·
    refine X5 (n.2.2.2.2.1 !=(0:Int)) (fun h9=> ?_) (fun h9=> ?_)
    ·
     refine X5 (n.2.1==(0:Int)) (fun h10=> ?_) (fun h10=> ?_)
     ·
      refine rn Qa [4] [] (pc 2 (cb h7 (Yp n.2.2.2.1)) (pc 6 (cb h8 (Jo n.2.2.2.2)) (pt 12 h9 (pt 17 h10 p0)))) ?_;exact ⟨rfl,Qd (by rw[h7,h8,h9,h10]<;>kernel_rfl)⟩
     refine rn Qa [4] [] (pc 2 (cb h7 (Yp n.2.2.2.1)) (pc 6 (cb h8 (Jo n.2.2.2.2)) (pt 12 h9 (pf 17 h10 p0)))) ?_;exact ⟨rfl,Qd (by rw[h7,h8,h9,h10]<;>kernel_rfl)⟩
    refine rn Qa [4] [] (pc 2 (cb h7 (Yp n.2.2.2.1)) (pc 6 (cb h8 (Jo n.2.2.2.2)) (pf 12 h9 p0))) ?_;exact ⟨rfl,Qd (by rw[h7,h8,h9]<;>kernel_rfl)⟩
   refine rn Qa [4] [] (pc 2 (cb h7 (Yp n.2.2.2.1)) (pc 6 (cb h8 (Jo n.2.2.2.2)) p0)) ?_;exact ⟨rfl,Qd (by rw[h7,h8]<;>kernel_rfl)⟩
  ·
   refine rn Qa [4] [] (pc 2 (cb h7 (Yp n.2.2.2.1)) p0) ?_;exact ⟨rfl,Qd (by rw[h7]<;>kernel_rfl)⟩
  exact Qg <| pb [] (Qs h3 (Qs h4 (Xf h6 (rfl))))
 refine tn Qa [2,4,5,6,25,71] [2] (p0) <| ck (n.1==(4:Int)) (fun h11=> ?_) (fun h11=> ?_)
 ·
  refine Qc <| mz [(71, .b (n.1==(4:Int)))] [31] [] [] <| jn [(4, .b ((Yd n.2.2.2.1)&&((J0 n.2.2.2.2)&&((n.2.2.2.2.1==(1:Int))&&((n.2.1==(0:Int))&&(n.2.2.1==(0:Int)))))))] [2,4,5,6,25,71] [] [2] (Yd n.2.2.2.1) (fun h12=> ?_) (fun h12=> ?_) ?_
  ·
   refine X5 (J0 n.2.2.2.2) (fun h13=> ?_) (fun h13=> ?_)
   ·
    refine X5 (n.2.2.2.2.1==(1:Int)) (fun h14=> ?_) (fun h14=> ?_)
    ·
     refine X5 (n.2.1==(0:Int)) (fun h15=> ?_) (fun h15=> ?_)
     ·
      refine rn Qa [4] [] (pc 2 (cb h12 (Yp n.2.2.2.1)) (pc 6 (cb h13 (Jo n.2.2.2.2)) (pt 12 h14 (pt 17 h15 p0)))) ?_;exact ⟨rfl,Qd (by rw[h12,h13,h14,h15]<;>kernel_rfl)⟩
     refine rn Qa [4] [] (pc 2 (cb h12 (Yp n.2.2.2.1)) (pc 6 (cb h13 (Jo n.2.2.2.2)) (pt 12 h14 (pf 17 h15 p0)))) ?_;exact ⟨rfl,Qd (by rw[h12,h13,h14,h15]<;>kernel_rfl)⟩
    refine rn Qa [4] [] (pc 2 (cb h12 (Yp n.2.2.2.1)) (pc 6 (cb h13 (Jo n.2.2.2.2)) (pf 12 h14 p0))) ?_;exact ⟨rfl,Qd (by rw[h12,h13,h14]<;>kernel_rfl)⟩
   refine rn Qa [4] [] (pc 2 (cb h12 (Yp n.2.2.2.1)) (pc 6 (cb h13 (Jo n.2.2.2.2)) p0)) ?_;exact ⟨rfl,Qd (by rw[h12,h13]<;>kernel_rfl)⟩
  ·
   refine rn Qa [4] [] (pc 2 (cb h12 (Yp n.2.2.2.1)) p0) ?_;exact ⟨rfl,Qd (by rw[h12]<;>kernel_rfl)⟩
  exact Qg <| pb [] (Qs h3 (Qs h4 (Qs h6 (Xf h11 (rfl)))))
 refine tu Qa [(97, .b (n.1==(5:Int)))] [31] [] [] (p0) <| ck (n.1==(5:Int)) (fun h16=> ?_) (fun h16=> ?_)
 ·
  refine Qc <| jn [(4, .b (((Q6 n.2.1 0 (IntKind.i64.wrap (at_-1)))&&decide (at_>(0:Int)))&&((n.2.2.1==(0:Int))&&((n.2.2.2.1.toList==(⟨#[]⟩:ByteArray).toList)&&((n.2.2.2.2.1==0)&&((n.2.2.2.2.2.1==0)&&((n.2.2.2.2.2.2.toList==(⟨#[]⟩:ByteArray).toList)&&true)))))))] [2,4,5,6,25,97] [] [2] ((Q6 n.2.1 0 (IntKind.i64.wrap (at_-1)))&&decide (at_>(0:Int))) (fun h17=> ?_) (fun h17=> ?_) ?_
  ·
   refine X5 (n.2.2.1==(0:Int)) (fun h18=> ?_) (fun h18=> ?_)
   ·
    refine X5 (n.2.2.2.1.toList==(⟨#[]⟩:ByteArray).toList) (fun h19=> ?_) (fun h19=> ?_)
    ·
     refine rn Qa [4] [] (pt 0 h17 (pt 4 h18 (pt 9 h19 p0))) ?_;exact ⟨rfl,Qd (by rw[h17,h18,h19]<;>kernel_rfl)⟩
    refine rn Qa [4] [] (pt 0 h17 (pt 4 h18 (pf 9 h19 p0))) ?_;exact ⟨rfl,Qd (by rw[h17,h18,h19]<;>kernel_rfl)⟩
   refine rn Qa [4] [] (pt 0 h17 (pf 4 h18 p0)) ?_;exact ⟨rfl,Qd (by rw[h17,h18]<;>kernel_rfl)⟩
  ·
   refine rn Qa [4] [] (pf 0 h17 p0) ?_;exact ⟨rfl,Qd (by rw[h17]<;>kernel_rfl)⟩
  exact Qg <| pb [] (Qs h3 (Qs h4 (Qs h6 (Qs h11 (Xf h16 (rfl))))))
 refine Qc <| sn Qa [2,4,6,25,116] [2] (p0) <| mz [(116, .b (n.1==(6:Int)))] [5,97] [] [] <| jn [(116, .b (bif (n.1==(6:Int)) then (n.1==(6:Int)) else (n.1==(7:Int))))] [116] [] [] (n.1==(6:Int)) (fun h20=> ?_) (fun h20=> ?_) ?_
 ·
  refine ckt h20 ?_;exact Qf <| ⟨rfl,Qd (by rw[h20]<;>kernel_rfl)⟩
 ·
  refine ckf h20 ?_;refine rn Qa [2,4,6,25,116] [2] (p0) ?_;exact ⟨rfl,Qd (by rw[h20]<;>kernel_rfl)⟩
 refine ck (bif (n.1==(6:Int)) then (n.1==(6:Int)) else (n.1==(7:Int))) (fun h21=> ?_) (fun h21=> ?_)
 ·
  refine Qc <| jn [(4, .b ((((Q6 n.2.1 0 (IntKind.i64.wrap (at_-1)))&&decide (at_>(0:Int)))&&(Q6 n.2.2.1 0 (IntKind.i64.wrap (at_-1))))&&((n.2.2.2.1.toList==(⟨#[]⟩:ByteArray).toList)&&((n.2.2.2.2.1==0)&&((n.2.2.2.2.2.1==0)&&((n.2.2.2.2.2.2.toList==(⟨#[]⟩:ByteArray).toList)&&true))))))] [2,4,6,25,116] [] [2] (((Q6 n.2.1 0 (IntKind.i64.wrap (at_-1)))&&decide (at_>(0:Int)))&&(Q6 n.2.2.1 0 (IntKind.i64.wrap (at_-1)))) (fun h22=> ?_) (fun h22=> ?_) ?_
  ·
   refine X5 (n.2.2.2.1.toList==(⟨#[]⟩:ByteArray).toList) (fun h23=> ?_) (fun h23=> ?_)
   ·
    refine rn Qa [4] [] (pt 0 h22 (pt 4 h23 p0)) ?_;exact ⟨rfl,Qd (by rw[h22,h23]<;>kernel_rfl)⟩
   refine rn Qa [4] [] (pt 0 h22 (pf 4 h23 p0)) ?_;exact ⟨rfl,Qd (by rw[h22,h23]<;>kernel_rfl)⟩
  ·
   refine rn Qa [4] [] (pf 0 h22 p0) ?_;exact ⟨rfl,Qd (by rw[h22]<;>kernel_rfl)⟩
  exact Qg <| pb [] (Qs h3 (Qs h4 (Qs h6 (Qs h11 (Qs h16 (Xf h21 (rfl)))))))
 refine Qc <| sn Qa [2,4,25,131] [2] (p0) <| ck (n.1==(8:Int)) (fun h24=> ?_) (fun h24=> ?_)
 ·
  refine Qf <| ckt h24 ?_
  refine Qc <| mz [(131, .b (n.1==(8:Int)))] [6,116] [] [] <| jn [(4, .b ((Y1 n.2.2.2.1)&&((n.1==n.1)&&((n.2.1==0)&&((n.2.2.1==0)&&((n.2.2.2.1.toList==n.2.2.2.1.toList)&&((n.2.2.2.2.1==0)&&((n.2.2.2.2.2.1==0)&&((n.2.2.2.2.2.2.toList==(⟨#[]⟩:ByteArray).toList)&&true)))))))))] [2,4,25,131] [] [2] (Y1 n.2.2.2.1) (fun h25=> ?_) (fun h25=> ?_) ?_
  ·
   refine rn Qa [4] [] (pc 2 (cb h25 (Ju n.2.2.2.1)) p0) ?_;exact ⟨rfl,Qd (by rw[h25]<;>kernel_rfl)⟩
  ·
   refine rn Qa [4] [] (pc 2 (cb h25 (Ju n.2.2.2.1)) p0) ?_;exact ⟨rfl,Qd (by rw[h25]<;>kernel_rfl)⟩
  exact Qg <| pb [] (Qs h3 (Qs h4 (Qs h6 (Qs h11 (Qs h16 (Qs h21 (Xf h24 (rfl))))))))
 refine qn Qa [2,4,131] [2] (p0) ?_;refine ck (n.1==(9:Int)) (fun h26=> ?_) (fun h26=> ?_)
 ·
  refine Qc <| mz [(131, .b (n.1==(9:Int)))] [6,25,116] [] [] <| jn [(4, .b ((Y1 n.2.2.2.1)&&((n.1==n.1)&&((n.2.1==0)&&((n.2.2.1==0)&&((n.2.2.2.1.toList==n.2.2.2.1.toList)&&((n.2.2.2.2.1==0)&&((n.2.2.2.2.2.1==0)&&((n.2.2.2.2.2.2.toList==(⟨#[]⟩:ByteArray).toList)&&true)))))))))] [2,4,131] [] [2] (Y1 n.2.2.2.1) (fun h27=> ?_) (fun h27=> ?_) ?_
  ·
   refine rn Qa [4] [] (pc 2 (cb h27 (Ju n.2.2.2.1)) p0) ?_;exact ⟨rfl,Qd (by rw[h27]<;>kernel_rfl)⟩
  ·
   refine rn Qa [4] [] (pc 2 (cb h27 (Ju n.2.2.2.1)) p0) ?_;exact ⟨rfl,Qd (by rw[h27]<;>kernel_rfl)⟩
  exact Qg <| pb [] (Qs h3 (Qs h4 (Qs h6 (Qs h11 (Qs h16 (Qs h21 (Qs h24 (Xf h26 (rfl)))))))))
 exact Qf <| tu Qa [] [2,6,25,116] [] [2] (p0) <| Qg <| pb [] (Qs h3 (Qs h4 (Qs h6 (Qs h11 (Qs h16 (Qs h21 (Qs h24 (Qs h26 (rfl)))))))))
def Hw (at_:Int) (_:Nat) (a0:Yu) (s0:Int):Rd (Int) (Int) (Int):=(bif (bif ((a0.1==(6:Int))|| (a0.1==(7:Int))) then (a0.2.1==at_) else ((a0.1==(5:Int))&&(a0.2.1==at_))) then (bif (((a0.1==(6:Int))|| (a0.1==(7:Int)))&&(a0.2.2.1==at_)) then (.next (IntKind.i64.wrap (IntKind.i64.wrap (s0+1)+1))) else (.next (IntKind.i64.wrap (s0+1)))) else (bif (((a0.1==(6:Int))|| (a0.1==(7:Int)))&&(a0.2.2.1==at_)) then (.next (IntKind.i64.wrap (s0+1))) else (.next s0)))
def Bq (_:Nat) (s0:Int):Int:=s0
def Wv (q:(List Yu)) (at_:Int):Int:=(Out.on (Xp (Hw at_) Bq q 0 0) (fun y0=>y0))
theorem Pj (q:(List Yu)) (at_:Int):ACalls Tryz.prog 275 [.h q, .i at_] (.i (Wv q at_)):=by
 refine en Qa Tryz.func275 fun w0 F0 hG=> ?_
 refine sn Qa [0,1,4] [] (p0) <| tn Qa [0,1,4,5] [] (p0) <| Qc <| tu Qa [(4, .i 0),(5, .i 0),(6, .i 0)] [] [] [] (p0) <| wT 0 0 .sh q (fun hw1 hl2=> ?_)
 refine Ox (Hw at_) Bq q 0 (fun k0 s0=> [(5, .i s0),(6, .i ((k0:Nat):Int))]) [5,6] (fun y0=> [(5, .i y0)]) [0,1,5,6] wf0 (fun k0 s0 hk0 hI0=> ?_) (fun k0 s0 hk0 hI0=> ?_) (fun y0 hD0=> ?_)
 ·
  obtain ⟨a0,hx0⟩:=Xh (l:=q) (i:=k0) hk0;refine Qc <| sn Qa [0,1,4,5,6,11] [] (pl 2 q (pe 3 (Qp (decide_eq_true (p:=((k0:Nat):Int)<(q.length:Int)) (by omega))) p0)) <| ckT <| Qf <| Qc <| Qu <| Qc <| mz [(11, .b true)] [] [] [] <| jn [(7, .b ((a0.1==(6:Int))|| (a0.1==(7:Int))))] [11] [] [] (a0.1==(6:Int)) (fun h3=> ?_) (fun h3=> ?_) ?_
  ·
   refine rn Qa [0,1,4,5,6,7] [] (pn 2 hx0 (pt 5 h3 p0)) ?_;exact ⟨rfl,Qd (by rw[h3]<;>kernel_rfl)⟩
  ·
   refine rn Qa [0,1,4,5,6,7] [] (pn 2 hx0 (pf 5 h3 (pn 9 hx0 p0))) ?_;exact ⟨rfl,Qd (by rw[h3]<;>kernel_rfl)⟩
  refine Qc <| Qc <| jn [(45, .b (bif ((a0.1==(6:Int))|| (a0.1==(7:Int))) then (a0.2.1==at_) else ((a0.1==(5:Int))&&(a0.2.1==at_))))] [] [] [] ((a0.1==(6:Int))|| (a0.1==(7:Int))) (fun h4=> ?_) (fun h4=> ?_) ?_
  ·
   refine rn Qa [0,1,4,5,6,7,45] [] (pt 0 h4 (pn 12 hx0 p0)) ?_;exact ⟨rfl,Qd (by rw[h4]<;>kernel_rfl)⟩
  ·
   refine X5 (a0.1==(5:Int)) (fun h5=> ?_) (fun h5=> ?_)
   ·
    refine rn Qa [0,1,4,5,6,7,45] [] (pf 0 h4 (pn 4 hx0 (pt 7 h5 (pn 12 hx0 p0)))) ?_;exact ⟨rfl,Qd (by rw[h4,h5]<;>kernel_rfl)⟩
   refine ru Qa [(45, .b false)] [] [] [] (pf 0 h4 (pn 4 hx0 (pf 7 h5 p0))) ?_;exact ⟨rfl,Qd (by rw[h4,h5]<;>kernel_rfl)⟩
  refine ck (bif ((a0.1==(6:Int))|| (a0.1==(7:Int))) then (a0.2.1==at_) else ((a0.1==(5:Int))&&(a0.2.1==at_))) (fun h6=> ?_) (fun h6=> ?_)
  ·
   refine rn Qa [0,1,4,5,6,7] [] (p0) ?_;refine Qc <| mz [(5, .i (IntKind.i64.wrap (s0+1)))] [5,45] [] [] <| jn [(57, .b (((a0.1==(6:Int))|| (a0.1==(7:Int)))&&(a0.2.2.1==at_)))] [7] [] [] ((a0.1==(6:Int))|| (a0.1==(7:Int))) (fun h7=> ?_) (fun h7=> ?_) ?_
   ·
    refine rn Qa [0,1,4,5,6,57] [] (pt 0 h7 (pn 4 hx0 p0)) ?_;exact ⟨rfl,Qd (by rw[h7]<;>kernel_rfl)⟩
   ·
    refine rn Qa [0,1,4,5,6,57] [] (pf 0 h7 p0) ?_;exact ⟨rfl,Qd (by rw[h7]<;>kernel_rfl)⟩
   refine ck (((a0.1==(6:Int))|| (a0.1==(7:Int)))&&(a0.2.2.1==at_)) (fun h8=> ?_) (fun h8=> ?_)
   ·
    have h8r:((a0.2.2.1==at_))=true:=CJ h8;have h8rd:=eq_of_beq h8r;refine rn Qa [0,1,4,5,6] [] (p0) ?_;refine qn Qa [0,1,4,5,6] [] (pe 1 (Jh (Ql k0 (by omega))) p0) ?_;exact xw _ (Qr hx0 (Xf h6 (Xf h8 (rfl))) hI0)
   refine Qf <| rn Qa [0,1,4,5,6] [] (pe 1 (Jh (Ql k0 (by omega))) p0) ?_
   exact xw _ (Qr hx0 (Xf h6 (Qs h8 (rfl))) hI0)
  refine Qf <| Qc <| jn [(57, .b (((a0.1==(6:Int))|| (a0.1==(7:Int)))&&(a0.2.2.1==at_)))] [7,45] [] [] ((a0.1==(6:Int))|| (a0.1==(7:Int))) (fun h9=> ?_) (fun h9=> ?_) ?_
  ·
   refine rn Qa [0,1,4,5,6,57] [] (pt 0 h9 (pn 4 hx0 p0)) ?_;exact ⟨rfl,Qd (by rw[h9]<;>kernel_rfl)⟩
  ·
   refine rn Qa [0,1,4,5,6,57] [] (pf 0 h9 p0) ?_;exact ⟨rfl,Qd (by rw[h9]<;>kernel_rfl)⟩
  refine ck (((a0.1==(6:Int))|| (a0.1==(7:Int)))&&(a0.2.2.1==at_)) (fun h10=> ?_) (fun h10=> ?_)
  ·
   have h10r:((a0.2.2.1==at_))=true:=CJ h10;have h10rd:=eq_of_beq h10r;refine rn Qa [0,1,4,5,6] [] (p0) ?_;refine qn Qa [0,1,4,5,6] [] (pe 1 (Jh (Ql k0 (by omega))) p0) ?_;exact xw _ (Qr hx0 (Qs h6 (Xf h10 (rfl))) hI0)
  refine Qf <| rn Qa [0,1,4,5,6] [] (pe 1 (Jh (Ql k0 (by omega))) p0) ?_
  exact xw _ (Qr hx0 (Qs h6 (Qs h10 (rfl))) hI0)
 ·
  exact Qc <| sn Qa [0,1,4,5,6,11] [] (pl 2 q (pe 3 (Qp (decide_eq_false (p:=((k0:Nat):Int)<(q.length:Int)) (by omega))) p0)) <| ckF <| Q2 <| xw _ (Xi hk0 (rfl) hI0)
 exact sn Qa [4] [] (p0) <| Qg <| pi [] (Wj hD0 (rfl))
def Hi (q:(List Yu)) (k0:Nat) (a0:Yu) (_:Unit):Rd (Bool) (Unit) (Unit):=(bif ((!(V9 a0 ((k0:Nat):Int)))|| (decide (((k0:Nat):Int)<((q.length:Int)-1))&&((Wv q ((k0:Nat):Int)) !=(1:Int)))) then (.ret false) else (.next ()))
def Bd (_:Nat) (_:Unit):Unit:=()
def Zi (q:(List Yu)):Bool:=(Out.on (Xp (Hi q) Bd q 0 ()) (fun _=>(Q6 (q.length:Int) 1 9)))
theorem Ue (q:(List Yu)):ACalls Tryz.prog 235 [.h q] (.b (Zi q)):=by
 refine en Qa Tryz.func235 fun w0 F0 hG=> ?_
 refine sn Qa [0,2] [] (p0) <| Qc <| tn Qa [0,2,3] [] (p0) <| mz [(2, .b false),(3, .i 0)] [] [] [] <| wT 0 0 .sh q (fun hw1 hl2=> ?_)
 refine Ox (Hi q) Bd q () (fun k0 _=> [(3, .i ((k0:Nat):Int))]) [3] (fun _=> []) [3] wf0 (fun k0 s0 hk0 hI0=> ?_) (fun k0 s0 hk0 hI0=> ?_) (fun y0 hD0=> ?_)
 ·
  obtain ⟨a0,hx0⟩:=Xh (l:=q) (i:=k0) hk0;refine Qc <| sn Qa [0,2,3,7] [] (pl 2 q (pe 3 (Qp (decide_eq_true (p:=((k0:Nat):Int)<(q.length:Int)) (by omega))) p0)) <| ckT <| Qf <| Qc <| Qu <| Qc <| mz [(7, .b true)] [] [] [] <| jn [(29, .b ((!(V9 a0 ((k0:Nat):Int)))|| (decide (((k0:Nat):Int)<((q.length:Int)-1))&&((Wv q ((k0:Nat):Int)) !=(1:Int)))))] [7] [] [] (!(V9 a0 ((k0:Nat):Int))) (fun h3=> ?_) (fun h3=> ?_) ?_
  ·
   have h3n:(V9 a0 ((k0:Nat):Int))=false:=Vd h3;refine rn Qa [0,2,3,29] [] (pn 2 hx0 (pc 5 (cb h3n (Gj a0 ((k0:Nat):Int))) (pe 6 (show .b (!false)= .b true from rfl) p0))) ?_;exact ⟨rfl,Qd (by rw[h3]<;>kernel_rfl)⟩
  ·
   have h3n:(V9 a0 ((k0:Nat):Int))=true:=Y3 h3;refine X5 (decide (((k0:Nat):Int)<((q.length:Int)-1))) (fun h4=> ?_) (fun h4=> ?_)
   ·
    have h4d:=of_decide_eq_true h4;refine rn Qa [0,2,3,29] [] (pn 2 hx0 (pc 5 (cb h3n (Gj a0 ((k0:Nat):Int))) (pe 6 (show .b (!true)= .b false from rfl) (pl 10 q (pe 11 (Jh (IntWalk.i64_in ((q.length:Int)-1) (by omega))) (pt 12 h4 (pc 16 (Pj q ((k0:Nat):Int)) p0))))))) ?_;exact ⟨rfl,Qd (by rw[h3,h4]<;>kernel_rfl)⟩
   have h4d:=of_decide_eq_false h4;refine rn Qa [0,2,3,29] [] (pn 2 hx0 (pc 5 (cb h3n (Gj a0 ((k0:Nat):Int))) (pe 6 (show .b (!true)= .b false from rfl) (pl 10 q (pe 11 (Jh (IntWalk.i64_in ((q.length:Int)-1) (by omega))) (pf 12 h4 p0)))))) ?_;exact ⟨rfl,Qd (by rw[h3,h4]<;>kernel_rfl)⟩
  refine ck ((!(V9 a0 ((k0:Nat):Int)))|| (decide (((k0:Nat):Int)<((q.length:Int)-1))&&((Wv q ((k0:Nat):Int)) !=(1:Int)))) (fun h5=> ?_) (fun h5=> ?_)
  ·
   refine sn Qa [0,2,3] [] (p0) <| Qg ?_
   have hr6:(Xp (Hi q) Bd q 0 ())= .ret false:=Jg hx0 (Xf h5 (rfl)) hI0;exact pb [] (Oa hr6)
  refine Qf <| rn Qa [0,2,3] [] (pe 1 (Jh (Ql k0 (by omega))) p0) ?_
  exact xw _ (Qr hx0 (Qs h5 (rfl)) hI0)
 ·
  exact Qc <| sn Qa [0,2,3,7] [] (pl 2 q (pe 3 (Qp (decide_eq_false (p:=((k0:Nat):Int)<(q.length:Int)) (by omega))) p0)) <| ckF <| Q2 <| xw _ (Xi hk0 (rfl) hI0)
 exact sn Qa [2] [] (pl 1 q (pc 2 (Zo (q.length:Int) 1 9) p0)) <| Qg <| pb [] (Wj hD0 (rfl))
theorem FG (a b c:Int):Zm a b c=Q6 a b c:=rfl
theorem Nn {a b c:Int}:Zm a b c=true↔b<=a/\a<=c:=by simp[Zm]
theorem Cc {a b c:Int}:Q6 a b c=true↔b<=a/\a<=c:=by simp[Q6]
theorem Qa7 (s:ByteArray):Yv s=Y1 s:=rfl
theorem OD (s:ByteArray):Za s=Yd s:=by
 unfold Za Yd Gh;by_cases h:s.size=1
 . simp only[h,Int.toNat_natCast,Wu,Am];by_cases h1:Ct s 0<97<;>by_cases h2:Ct s 0>122<;>simp[h1,h2,Out.on,Q6,Bo]<;>omega
 have h1:((s.size:Int)==1)=false:=by simpa using fun e:(s.size:Int)=1=>h (by omega)
 have h2:Q6 (s.size:Int) 1 1=false:=by simp[Q6];omega
 rw[h1,h2,Bool.false_and];cases hf:Wu (Am s) Bo (Int.toNat (s.size:Int)) 0 () with
 | brk t=>rfl
 | ret r=>
   have key:∀n k,∀r,Wu (Am s) Bo n k ()= .ret r->r=false:=by
    intro n
    induction n with
    | zero=>intro k r h;simp[Wu] at h
    | succ n ih=>
      intro k r h;simp only[Wu,Am] at h;cases hc:(decide (Ct s ((k:Nat):Int)<(97:Int))|| decide (Ct s ((k:Nat):Int)>(122:Int))) with
      | true=>rw[hc] at h;simp only[cond_true] at h;cases h;rfl
      | false=>rw[hc] at h;exact ih _ _ h
   exact (key _ _ _ hf).symm
theorem Qa8 (v:De):Ki v=J0 v:=rfl
theorem Qes (n:Yu) (k:Int):Z5 n k=V9 n k:=by
 unfold Z5 V9;rw[OD,Qa8,Qa7];simp only[FG];by_cases h1:n.1=1
 . simp[h1]
 by_cases h2:n.1=2
 . simp[h1,h2,Bool.and_comm]
 by_cases h3:n.1=3
 . simp[h1,h2,h3];ac_rfl
 by_cases h4:n.1=4
 . simp[h1,h2,h3,h4];cases h:(n.2.2.2.2.1==1)<;>simp_all<;>ac_rfl
 by_cases h5:n.1=5
 . simp[h1,h2,h3,h4,h5];ac_rfl
 by_cases h6:n.1=6
 . simp[h1,h2,h3,h4,h5,h6];ac_rfl
 by_cases h7:n.1=7
 . simp[h1,h2,h3,h4,h5,h6,h7];ac_rfl
 by_cases h8:n.1=8
 . simp[h1,h2,h3,h4,h5,h6,h7,h8,Bool.and_comm]
 by_cases h9:n.1=9
 . simp[h1,h2,h3,h4,h5,h6,h7,h8,h9,Bool.and_comm]
 simp only[beq_eq_false_iff_ne.2 h1,beq_eq_false_iff_ne.2 h2,beq_eq_false_iff_ne.2 h3,beq_eq_false_iff_ne.2 h4,beq_eq_false_iff_ne.2 h5,beq_eq_false_iff_ne.2 h6,beq_eq_false_iff_ne.2 h7,beq_eq_false_iff_ne.2 h8,beq_eq_false_iff_ne.2 h9,cond_false]
theorem Qin (q:List Yu) (k:Int):Kc q k=Wv q k:=by
 unfold Kc Wv
 rw[Dw (f:=Ky k) (g:=Hw k) (e:=Hv) (e':=Bq) (fun i a s=>by
  unfold Ky Hw;cases (a.2.1==k)<;>cases (a.2.2.1==k)<;>cases (a.1==6)<;>cases (a.1==7)<;>cases (a.1==5)<;>rfl) (fun _ _=>rfl)]
theorem Qet (q:List Yu):Q3 q=Zi q:=by
 unfold Q3 Zi
 rw[Dw (f:=Zu q) (g:=Hi q) (e:=Vy) (e':=Bd) (fun i a s=>by
  unfold Zu Hi;rw[Qes,Qin]) (fun _ _=>rfl)]
 rfl
theorem Sy {q:List Yu} (h:Zi q=true):Q3 q=true:=(Qet q).trans h
theorem Qa9 {q:List Yu} (h:Q3 q=true):(∃t,Xp (Zu q) Vy q 0 ()= .brk t)/\Zm (q.length:Int) 1 9=true:=by
 unfold Q3 at h;cases hf:Xp (Zu q) Vy q 0 () with
 | brk t=>rw[hf] at h;exact ⟨⟨t,rfl⟩,h⟩
 | ret r=>
   rw[hf] at h;obtain rfl:r=true:=h;exfalso
   have key:∀(l:List Yu) k,Xp (Zu q) Vy l k ()≠ .ret true:=by
    intro l
    induction l with
    | nil=>intro k h;simp[Xp] at h
    | cons a l ih=>
      intro k h;simp only[Xp] at h;unfold Zu at h;split at h
      . rename_i hf;exact ih _ h
      . cases h
      rename_i r hf;cases h;revert hf;generalize (_|| _:Bool)=c;cases c<;>simp
   exact key _ _ hf
theorem VH {q:List Yu} (h:Q3 q=true):1<=q.length/\q.length<=9:=by
 have:=Nn.1 (Qa9 h).2;omega
theorem LR {q:List Yu} (h:Q3 q=true) {i:Nat} {n:Yu} (hi:q[i]? =some n):Z5 n (i:Int)=true:=by
 obtain ⟨⟨t,ht⟩,_⟩:=Qa9 h;have:=I6 (fun k a t=>by unfold Zu;generalize (_|| _:Bool)=c;cases c<;>simp) ht i n hi;unfold Zu at this;rw[Nat.zero_add] at this;cases hn:Z5 n (i:Int) with
 | true=>rfl
 | false=>rw[hn] at this;simp at this
theorem Qio {n:Yu} {k:Int} (h:Z5 n k=true) (hk:0<=k/\k<4611686018427387904):(n.1=5\/n.1=6\/n.1=7->0<=n.2.1/\n.2.1<k)/\(n.1=6\/n.1=7->0<=n.2.2.1/\n.2.2.1<k):=by
 have hw:IntKind.i64.wrap (k-1)=k-1:=IntWalk.i64_in _ (by omega);unfold Z5 at h;rw[hw] at h;refine ⟨fun h5=> ?_,fun h5=> ?_⟩
 . rcases h5 with h5 | h5 | h5<;>(simp[h5,Zm] at h;omega)
 rcases h5 with h5 | h5<;>(simp[h5,Zm] at h;omega)
theorem Ip {q:List Yu} (h:Q3 q=true) {k:Int} (ha:0<=k) (hb:k<(q.length:Int)):
 ((nth q (Int.toNat k)).1=5\/(nth q (Int.toNat k)).1=6\/(nth q (Int.toNat k)).1=7->0<=(nth q (Int.toNat k)).2.1/\(nth q (Int.toNat k)).2.1<k)/\((nth q (Int.toNat k)).1=6\/(nth q (Int.toNat k)).1=7->0<=(nth q (Int.toNat k)).2.2.1/\(nth q (Int.toNat k)).2.2.1<k):=by
 have hi:q[Int.toNat k]? =some (nth q (Int.toNat k)):=V7 (by omega);have:=LR h hi;rw[Int.toNat_of_nonneg ha] at this;exact Qio this ⟨ha,by have:=(VH h).2;omega⟩
section
variable {q:List Yu} {k:Int} (h:Q3 q=true) (ha:0<=k) (hb:k<(q.length:Int))
include h ha hb
theorem Qg3 (h5:((nth q (Int.toNat k)).1==(5:Int))=true):0<=(nth q (Int.toNat k)).2.1/\(nth q (Int.toNat k)).2.1<k:=(Ip h ha hb).1 (.inl (eq_of_beq h5))
theorem OE (h5:((nth q (Int.toNat k)).1==(6:Int))=true):0<=(nth q (Int.toNat k)).2.1/\(nth q (Int.toNat k)).2.1<k:=(Ip h ha hb).1 (.inr (.inl (eq_of_beq h5)))
theorem RP (h5:((nth q (Int.toNat k)).1==(7:Int))=true):0<=(nth q (Int.toNat k)).2.1/\(nth q (Int.toNat k)).2.1<k:=(Ip h ha hb).1 (.inr (.inr (eq_of_beq h5)))
theorem Qg4 (h5:((nth q (Int.toNat k)).1==(6:Int))=true):0<=(nth q (Int.toNat k)).2.2.1/\(nth q (Int.toNat k)).2.2.1<k:=(Ip h ha hb).2 (.inl (eq_of_beq h5))
theorem Qip (h5:((nth q (Int.toNat k)).1==(7:Int))=true):0<=(nth q (Int.toNat k)).2.2.1/\(nth q (Int.toNat k)).2.2.1<k:=(Ip h ha hb).2 (.inr (eq_of_beq h5))
theorem Qg5 (h5:(((nth q (Int.toNat k)).1==(6:Int))|| ((nth q (Int.toNat k)).1==(7:Int)))=true):(0<=(nth q (Int.toNat k)).2.1/\(nth q (Int.toNat k)).2.1<k)/\(0<=(nth q (Int.toNat k)).2.2.1/\(nth q (Int.toNat k)).2.2.1<k):=by
 have h6:(nth q (Int.toNat k)).1=6\/(nth q (Int.toNat k)).1=7:=by simpa using h5
 exact ⟨(Ip h ha hb).1 (.inr h6),(Ip h ha hb).2 h6⟩
end
end Go.Proofs.YtkekndahbiefaaaGreatDoor
