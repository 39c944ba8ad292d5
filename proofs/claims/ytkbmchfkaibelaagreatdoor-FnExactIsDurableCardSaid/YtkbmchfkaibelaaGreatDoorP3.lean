/- Texts of this proof, put together by a program: Zc, Mk, Ty, App, Fk, Kn. -/
import Derived.Test.YtkbmchfkaibelaaGreatDoorP2
import Derived.Orders
import Derived.LoopN
import Derived.KernelRfl
import Derived.Deep.DeepAppendWide
import Derived.Deep.DeepAppendRoom
import Derived.Maps.AppendAt
import Derived.Test.YtkbmchfkaibelaaGreatDoorProg
import Derived.Outline
import Derived.Lib.SliceRun
set_option linter.unusedVariables false
set_option linter.unusedSimpArgs false
namespace Go.Proofs.YtkbmchfkaibelaaGreatDoor
section
open Go.RowKit
structure Rec where
 avs:List AV
 bn:List (Nat×List C)
 res:Res
 obs:List Ob
def Ad (s:St):List Operand->Option (List AV)
 | []=>some []
 | x::r=>match Pp s x,Ad s r with
   | some v,some vs=>some (v::vs)
   | _,_=>none
def Ez:List C->List Nat
 | []=> []
 | c::r=>c.bkeys++Ez r
def Vj (s:St):List Nat->List (Nat×List C)
 | []=> []
 | k::r=>match get s.bx k with
   | some cs=>(k,cs)::Vj s r
   | none=>Vj s r
def P8 (tt : List (Nat×TI)) (orc:Orc) (bn:List (Nat×List C)) (dst:Option Nat) (op:Op) (avs:List AV):Option (Res×List Ob):=
 match EX tt orc bn op avs with
 | some (v,obs)=>(match orc with
   | .val v'=>some (⟨v', [],none,none⟩, .eq v v'::obs)
   | _=>some (⟨v, [],none,none⟩,obs))
 | none => match TU tt bn dst op avs with
   | some x=>some x
   | none => match TX tt orc dst op avs with
     | some x=>some x
     | none => match Qab orc bn dst op avs with
       | some x=>some x
       | none => match FF tt orc op avs with
         | some (v,obs)=>(match orc with
           | .val v'=>some (⟨v', [],none,none⟩, .eq v v'::obs)
           | _=>some (⟨v, [],none,none⟩,obs))
         | none =>match FG tt op avs with
           | some x=>some x
           | none =>match Qac tt dst op avs with
             | some x=>some x
             | none=>match Qag orc bn dst op avs with
               | some x=>some x
               | none=>match Qah orc bn dst op avs with
                 | some x=>some x
                 | none=>Qai orc dst op avs
def ZX (tt:List (Nat×TI)) (orc:Orc) (bn:List (Nat×List C)) (dst:Option Nat) (op:Op) (avs:List AV):Option (Res×List Ob):=
 match P5 tt orc op avs with
 | some (v,obs)=>some (⟨v, [],none,none⟩,obs)
 | none=>P8 tt orc bn dst op avs
def Uy (ops:List Oper) (s:St) (o:Oper):Option Bool:=
 match o.guard with
 | none=>some true
 | some (j,want)=>match ops[j]? with
   | some oj=>(match oj.dst with
     | some t=>(match get s.tm t with
       | some (.one (.bool b))=>some (match b,want with
         | true,true=>true
         | false,false=>true
         | _,_=>false)
       | some (.tup [])=>some false
       | _=>none)
     | none=>none)
   | none=>none
def Sr (N:Nat):Option Nat->Bool
 | none=>true
 | some d=>Nat.blt d N
def Hq (tt:List (Nat×TI)) (N:Nat) (orc:Orc) (ops:List Oper) (s:St) (o:Oper):Option Rec:=
 bif Sr N o.dst then
  match Uy ops s o with
  | some true=>(match Ad s o.op.operands.toList with
    | some avs=>(match ZX tt orc (Vj s (Ez (X5 avs))) o.dst o.op avs with
      | some (r,obs)=>some ⟨avs,Vj s (Ez (X5 avs)),r,obs⟩
      | none=>none)
    | none=>none)
  | some false=>some ⟨[], [],⟨.tup [], [],none,none⟩, []⟩
  | none=>none
 else none
section
variable {P:Program} {N:Nat} {w0:Base} {F0:Nat->Prop} {J:Inj} {a:Act} {w:World} {s:St}
theorem Mt : ∀ {xs :List Operand} {vs:List AV},Ad s xs=some vs->All2 (fun x v=>Pp s x=some v) xs vs
 | [], vs, h => by obtain rfl: []=vs:=by simpa [Ad] using h
                   exact .nil
 | x::r,vs,h=>by
   simp only[Ad] at h;split at h
   . rename_i v vs' e1 e2;obtain rfl:=Option.some.inj h;exact .cons e1 (Mt e2)
   cases h
theorem G2:∀{ks:List Nat} {k:Nat} {c:List C},get (Vj s ks) k=some c->get s.bx k=some c
 | [],k,c,h=>by simp[Vj,get] at h
 | x ::r,k,c,h=>by
   simp only[Vj] at h;split at h
   . rename_i cs hx;simp only[get] at h;split at h
     . rename_i e;subst e;rw[hx];exact h
     exact G2 h
   exact G2 h
theorem CS {tt:List (Nat×TI)} (htt:Aq P tt=true) {orc:Orc} {bn:List (Nat×List C)} {o:Oper} {avs:List AV} {r:Res} {obs:List Ob} (h:P8 tt orc bn o.dst o.op avs=some (r,obs)) (hob:AllOb (X9 P w0) (Z8 P w0) obs)
 (hdst:∀d,o.dst=some d->d<N) (hrel:Rel N w0 F0 J a w s) (hops:All2 (fun x v=>Pp s x=some v) o.op.operands.toList avs) (hbn:∀k c,get bn k=some c->get s.bx k=some c) {K:Act->World->Prop} {Q:Exit->Act->World->Prop}
 (hK:∀J' a' w',Rel N w0 F0 J' a' w' (s.step o.dst r)->K a' w'):o.wp P a w K Q:=by
 unfold P8 at h
 have hbx:∀k c,get bn k=some c->∃arr e,w.heap[J.B k]? =some (.cells arr e (0,0))/\All2 (CR J w) arr.toList c:=fun k c hk=>by
  obtain ⟨_,_,_,h⟩:=hrel.bo k c (hbn k c hk);exact h
 split at h
 . rename_i v obs' hp
   have key:∀v',AllOb (X9 P w0) (Z8 P w0) obs'->v=v'->(∀J' a' w',Rel N w0 F0 J' a' w' (s.step o.dst ⟨v', [],none,none⟩)->K a' w')->o.wp P a w K Q:=by
    intro v' hob' e hK';obtain ⟨u,hu,hr⟩:=NQ (P:=P) (A:=X9 P w0) (J:=J) (w:=w) htt hp hob' rfl (ρ:=a.eval) (fun _=>rfl) (Un hrel hops) hbx;exact We hu (hK' J _ _ (hrel.pure o.dst hdst v' u fun _=>e▸hr))
   split at h
   . rename_i v';obtain ⟨rfl,rfl⟩:(⟨v', [],none,none⟩:Res)=r/\ .eq v v'::obs'=obs:=by simpa using h
     obtain ⟨e,hob'⟩:=AllOb.cons hob;exact key v' hob' e hK
   obtain ⟨rfl,rfl⟩:(⟨v, [],none,none⟩:Res)=r/\obs'=obs:=by simpa using h
   exact key v hob rfl hK
 split at h
 . rename_i x hx;obtain rfl:=Option.some.inj h;exact NS (P:=P) htt hx hdst hrel hops hbn hK
 split at h
 . rename_i x hx;obtain rfl:=Option.some.inj h;exact NT (P:=P) htt hx hob hdst hrel hops hK
 split at h
 . rename_i x hx;obtain rfl:=Option.some.inj h;exact NW (P:=P) hx hob hdst hrel hops hbn hK
 split at h
 . rename_i v obs' hp;have hval:(∃v',orc= .val v')\/∀v',orc≠ .val v':=by cases orc<;>simp
   rcases hval with ⟨v',rfl⟩ | hne
   . obtain ⟨rfl,rfl⟩:(⟨v', [],none,none⟩:Res)=r/\ .eq v v'::obs'=obs:=by simpa using h
     obtain ⟨e,hob'⟩:=AllOb.cons hob;obtain ⟨u,hu,hr⟩:=ZO (P:=P) (A:=X9 P w0) (J:=J) (w:=w) htt hp hob' rfl (ρ:=a.eval) (Un hrel hops);have e:v=v':=e;exact We hu (hK _ _ _ (hrel.pure o.dst hdst _ _ fun _=>e▸hr))
   have h2:some ((⟨v, [],none,none⟩:Res),obs')=some (r,obs):=by
    split at h
    . exact absurd rfl (hne _)
    exact h
   obtain ⟨rfl,rfl⟩:(⟨v, [],none,none⟩:Res)=r/\obs'=obs:=by simpa using h2
   obtain ⟨u,hu,hr⟩:=ZO (P:=P) (A:=X9 P w0) (J:=J) (w:=w) htt hp hob rfl (ρ:=a.eval) (Un hrel hops);exact We hu (hK _ _ _ (hrel.pure o.dst hdst _ _ fun _=>hr))
 split at h
 . rename_i x hx;obtain rfl:=Option.some.inj h;exact FI (P:=P) htt hx hdst hrel hops hK
 split at h
 . rename_i x hx;obtain rfl:=Option.some.inj h;exact NY (P:=P) htt hx hob hdst hrel hops hK
 split at h
 . rename_i x hx;obtain rfl:=Option.some.inj h;exact OB (P:=P) hx hob hdst hrel hops hbn hK
 split at h
 . rename_i x hx;obtain rfl:=Option.some.inj h;exact OE (P:=P) hx hob hdst hrel hops hbn hK
 exact OG (P:=P) h hob hdst hrel hops hK
theorem FR {tt:List (Nat×TI)} (htt:Aq P tt=true) {orc:Orc} {bn:List (Nat×List C)} {o:Oper} {avs:List AV} {r:Res} {obs:List Ob} (h:ZX tt orc bn o.dst o.op avs=some (r,obs)) (hob:AllOb (X9 P w0) (Z8 P w0) obs)
 (hdst:∀d,o.dst=some d->d<N) (hrel:Rel N w0 F0 J a w s) (hops:All2 (fun x v=>Pp s x=some v) o.op.operands.toList avs) (hbn:∀k c,get bn k=some c->get s.bx k=some c) {K:Act->World->Prop} {Q:Exit->Act->World->Prop}
 (hK:∀J' a' w',Rel N w0 F0 J' a' w' (s.step o.dst r)->K a' w'):o.wp P a w K Q:=by
 unfold ZX at h;split at h
 . rename_i v obs' hp;obtain ⟨rfl,rfl⟩:(⟨v, [],none,none⟩:Res)=r/\obs'=obs:=by simpa using h
   obtain ⟨u,hu,hr⟩:=CQ (P:=P) (A:=X9 P w0) (J:=J) (w:=w) htt hp hob rfl (ρ:=a.eval) (Un hrel hops);exact We hu (hK _ _ _ (hrel.pure o.dst hdst _ _ fun _=>hr))
 exact CS htt h hob hdst hrel hops hbn hK
theorem On {ops:Array Oper} {o:Oper} {b:Bool} (hrel:Rel N w0 F0 J a w s) (h:Uy ops.toList s o=some b):Region.wanted o (yielded ops a.tmps)=b:=by
 unfold Uy at h;unfold Region.wanted;split at h
 . rename_i hg;rw[hg];exact Option.some.inj h
 rename_i j want hg;rw[hg];split at h
 . rename_i oj hj;split at h
   . rename_i t ht;split at h
     . rename_i c hc;have h1:a.tmps.getD t undef= .bool c:=hrel.tm t _ hc
       have h2:a.tmps[t]? =some (.bool c):=by
        rw[Array.getD_eq_getD_getElem?] at h1;cases hq:a.tmps[t]? with
        | none=>rw[hq] at h1;simp[undef] at h1
        | some u=>rw[hq] at h1;simp at h1;rw[h1]
       have hj':ops[j]? =some oj:=by simpa using hj
       simp only[yielded,hj',Option.bind_some,ht,h2];obtain rfl:=Option.some.inj h;cases c<;>cases want<;>rfl
     . rename_i hc;obtain ⟨vs,h1,hv⟩:=hrel.tm t _ hc;cases hv
       have hj':ops[j]? =some oj:=by simpa using hj
       obtain rfl:=Option.some.inj h;rw[Array.getD_eq_getD_getElem?] at h1;cases hq:a.tmps[t]? with
       | none=>simp[yielded,hj',ht,hq]
       | some u=>
         rw[hq] at h1;obtain rfl:u=_:=h1;simp[yielded,hj',ht,hq]
     cases h
   cases h
 cases h
theorem WU {tt:List (Nat×TI)} (htt:Aq P tt=true) {orc:Orc} {ops:Array Oper} {i:Nat} {o:Oper} (hi:ops[i]? =some o) {ρ:Rec} (h:Hq tt N orc ops.toList s o=some ρ) (hob:AllOb (X9 P w0) (Z8 P w0) ρ.obs) (hrel:Rel N w0 F0 J a w s)
 {K:Act->World->Prop} {Q:Exit->Act->World->Prop} (hK:∀J' a' w',Rel N w0 F0 J' a' w' (s.step o.dst ρ.res)->K a' w'):wpOp P ops Q i K a w:=by
 unfold Hq at h;cases hd:Sr N o.dst with
 | false=>rw[hd] at h;cases h
 | true =>
   rw[hd] at h;simp only[cond_true] at h;have hdst:∀d,o.dst=some d->d<N:=fun d e=>by rw[e] at hd;simpa [Sr] using hd
   unfold wpOp;simp only[hi];split at h
   . rename_i hg;have hw:=On hrel hg;split at h
     . rename_i avs havs;split at h
       . rename_i r obs he;obtain rfl:=Option.some.inj h;rw[if_pos hw];exact .inl (FR (P:=P) htt he hob hdst hrel (Mt havs) (fun k c hk=>G2 hk) hK)
       cases h
     cases h
   . rename_i hg;obtain rfl:=Option.some.inj h;have hw:=On hrel hg;rw[if_neg (by rw[hw];simp)];exact hK J _ _ (hrel.pure o.dst hdst _ _ fun _=>⟨[],rfl, .nil⟩)
   cases h
def XG (orcs:List (Nat×Orc)) (i:Nat):Orc:=match get orcs i with
 | some x=>x
 | none=> .no
def Qq0 (N:Nat) (orc:Orc) (ops:List Oper) (s:St) (o:Oper):Option Rec:=
 bif Sr N o.dst then
  match Uy ops s o with
  | some true=>(match Ad s o.op.operands.toList with
    | some avs=>(match Qal orc o.dst o.op avs with
      | some (r,obs)=>some ⟨avs, [],r,obs⟩
      | none=>none)
    | none=>none)
  | some false=>some ⟨[], [],⟨.tup [], [],none,none⟩, []⟩
  | none=>none
 else none
def Qam (tt:List (Nat×TI)) (N:Nat) (orc:Orc) (ops:List Oper) (s:St) (o:Oper):Option Rec:=
 match orc with
 | .ins l=>Qq0 N (.ins l) ops s o
 | orc=>Hq tt N orc ops s o
theorem OK {orc:Orc} {ops:Array Oper} {i:Nat} {o:Oper} (hi:ops[i]? =some o) {ρ:Rec} (h:Qq0 N orc ops.toList s o=some ρ) (hob:AllOb (X9 P w0) (Z8 P w0) ρ.obs) (hrel:Rel N w0 F0 J a w s)
 {K:Act->World->Prop} {Q:Exit->Act->World->Prop} (hK:∀J' a' w',Rel N w0 F0 J' a' w' (s.step o.dst ρ.res)->K a' w'):wpOp P ops Q i K a w:=by
 unfold Qq0 at h;cases hd:Sr N o.dst with
 | false=>rw[hd] at h;cases h
 | true =>
   rw[hd] at h;simp only[cond_true] at h;have hdst:∀d,o.dst=some d->d<N:=fun d e=>by rw[e] at hd;simpa [Sr] using hd
   unfold wpOp;simp only[hi];split at h
   . rename_i hg;have hw:=On hrel hg;split at h
     . rename_i avs havs;rw[if_pos hw];split at h
       . rename_i r obs he;obtain rfl:=Option.some.inj h;refine .inl ?_;exact OJ (P:=P) he hob hdst hrel (Mt havs) hK
       cases h
     cases h
   . rename_i hg;obtain rfl:=Option.some.inj h;have hw:=On hrel hg;rw[if_neg (by rw[hw];simp)];exact hK J _ _ (hrel.pure o.dst hdst _ _ fun _=>⟨[],rfl, .nil⟩)
   cases h
theorem OL {tt:List (Nat×TI)} (htt:Aq P tt=true) {orc:Orc} {ops:Array Oper} {i:Nat} {o:Oper} (hi:ops[i]? =some o) {ρ:Rec} (h:Qam tt N orc ops.toList s o=some ρ) (hob:AllOb (X9 P w0) (Z8 P w0) ρ.obs) (hrel:Rel N w0 F0 J a w s)
 {K:Act->World->Prop} {Q:Exit->Act->World->Prop} (hK:∀J' a' w',Rel N w0 F0 J' a' w' (s.step o.dst ρ.res)->K a' w'):wpOp P ops Q i K a w:=by
 unfold Qam at h;split at h
 . exact OK hi h hob hrel hK
 exact WU htt hi h hob hrel hK
def Ef (tt:List (Nat×TI)) (N:Nat) (orcs:List (Nat×Orc)) (ops:List Oper):List Oper->Nat->St->Option (St×List Ob)
 | [],_,s=>some (s, [])
 | o ::r,i,s=>match Qam tt N (XG orcs i) ops s o with
   | some ρ=>(match Ef tt N orcs ops r (i+1) (s.step o.dst ρ.res) with
     | some (s',obs)=>some (s',ρ.obs++obs)
     | none=>none)
   | none=>none
theorem ZY {tt:List (Nat×TI)} (htt:Aq P tt=true) {orcs:List (Nat×Orc)} {ops:Array Oper} {Q:Exit->Act->World->Prop}:∀(l:List Oper) (i:Nat) {s s':St} {obs:List Ob} {J:Inj} {a:Act} {w:World},ops.toList.drop i=l->
 Ef tt N orcs ops.toList l i s=some (s',obs)->AllOb (X9 P w0) (Z8 P w0) obs->Rel N w0 F0 J a w s->(∀J' a' w',Rel N w0 F0 J' a' w' s'->Q .normal a' w')->wpOps P ops Q (List.range' i l.length) a w
 | [],i,s,s',obs,J,a,w,_,h,_,hrel,hQ=>by
   obtain ⟨rfl,rfl⟩:s=s'/\ []=obs:=by simpa [Ef] using h
   exact hQ J a w hrel
 | o :: r,i,s,s',obs,J,a,w,hl,h,hob,hrel,hQ=>by
   simp only[Ef] at h;split at h
   . rename_i ρ hρ;split at h
     . rename_i s'' obs' hr;obtain ⟨rfl,rfl⟩:s''=s'/\ρ.obs++obs'=obs:=by simpa using h
       obtain ⟨ho1,ho2⟩:=AllOb.append hob
       have hi:ops[i]? =some o:=by
        have:=congrArg (·[0]?) hl;simpa using this
       have hl':ops.toList.drop (i+1)=r:=by rw[←List.drop_drop,hl];rfl
       rw[List.length_cons,List.range'_succ,wpOps_cons];exact OL (P:=P) htt hi hρ ho1 hrel fun J' a' w' hR=>ZY htt r (i+1) hl' hr ho2 hR hQ
     cases h
   cases h
end
end
section
open Go.RowKit
section
variable (P:Program) (N:Nat) (w0:Base) (F0:Nat->Prop)
def QX (Q:Exit->St->Prop):Exit->Act->World->Prop:=fun e a w=>∃J s,Rel N w0 F0 J a w s/\Q e s
def AWP (c:Code) (Q:Exit->St->Prop) (s:St):Prop:=∀J a w,Rel N w0 F0 J a w s->c.wp P (QX N w0 F0 Q) a w
end
def Weak (s s':St):Prop:=∀N w0 F0 J a w,Rel N w0 F0 J a w s->∃J',Rel N w0 F0 J' a w s'
def Exit.thenS (K:St->Prop) (Q:Exit->St->Prop):Exit->St->Prop
 | .normal,s=>K s
 | e,s=>Q e s
def Exit.inBlockS (id:Nat) (Q:Exit->St->Prop):Exit->St->Prop
 | .exit i,s=>bif Nat.beq i id then Q .normal s else Q (.exit i) s
 | e,s=>Q e s
section
variable {P:Program} {N:Nat} {w0:Base} {F0:Nat->Prop} {Q:Exit->St->Prop} {s s':St}
theorem Weak.refl (s:St):Weak s s:=fun _ _ _ J _ _ h=>⟨J,h⟩
theorem Weak.trans {s s' s'':St} (h:Weak s s') (h':Weak s' s''):Weak s s'':=fun N w0 F0 J a w hr=>by
 obtain ⟨J',hr'⟩:=h N w0 F0 J a w hr;exact h' N w0 F0 J' a w hr'
theorem Au {c:Code} (hw:Weak s s') (h:AWP P N w0 F0 c Q s'):AWP P N w0 F0 c Q s:=fun J a w hr=>by
 obtain ⟨J',hr'⟩:=hw N w0 F0 J a w hr;exact h J' a w hr'
theorem OM {c:Code} {Q':Exit->St->Prop} (h:AWP P N w0 F0 c Q s) (hq:∀e s,Q e s->Q' e s):AWP P N w0 F0 c Q' s:=fun J a w hr=>
 wp_mono (h J a w hr) fun e a w ⟨J,s,h1,h2⟩=>⟨J,s,h1,hq e s h2⟩
theorem Qc {x y:Code} (h:AWP P N w0 F0 x (Exit.thenS (AWP P N w0 F0 y Q) Q) s):AWP P N w0 F0 (.seq x y) Q s:=fun J a w hr=>by
 refine wp_seq (wp_mono (h J a w hr) ?_)
 rintro e a' w' ⟨J',s',hR,hq⟩
 cases e with
 | normal=>exact hq J' a' w' hR
 | _=>exact ⟨J',s',hR,hq⟩
theorem Qf (h:Q .normal s):AWP P N w0 F0 .skip Q s:=fun J a w hr=>wp_skip ⟨J,s,hr,h⟩
theorem Xs {id:Nat} (h:Q (.exit id) s):AWP P N w0 F0 (.exit id) Q s:=fun J a w hr=>wp_exit ⟨J,s,hr,h⟩
theorem Qe (h:Q .ret s):AWP P N w0 F0 .ret Q s:=fun J a w hr=>wp_ret ⟨J,s,hr,h⟩
theorem Iz {t:Nat} {x y:Code} {b:Bool} (hc:get s.tm t=some (.one (.bool b))) (h1:b=true->AWP P N w0 F0 x Q s) (h2:b=false->AWP P N w0 F0 y Q s):AWP P N w0 F0 (.cond (.tmp t) x y) Q s:=fun J a w hr=>
 wp_cond_split (t:=b) (hr.tm t _ hc) (fun e=>h1 e J a w hr) (fun e=>h2 e J a w hr)
theorem Qy {id:Nat} {c:Code} (h:AWP P N w0 F0 c (Exit.inBlockS id Q) s):AWP P N w0 F0 (.block id c) Q s:=fun J a w hr=>by
 refine wp_block (wp_mono (h J a w hr) ?_)
 rintro e a' w' ⟨J',s',hR,hq⟩
 cases e with
 | exit i=>
   simp only[Exit.inBlockS] at hq;simp only[Exit.inBlock];split<;>rename_i hi
   . subst hi;simp only[Nat.beq_refl,cond_true] at hq;exact ⟨J',s',hR,hq⟩
   rw[show Nat.beq i id=false by
    cases hb:Nat.beq i id with
    | false=>rfl
    | true=>exact absurd (Nat.eq_of_beq_eq_true hb) hi] at hq
   exact ⟨J',s',hR,hq⟩
 | _=>exact ⟨J',s',hR,hq⟩
theorem P9 {c:Code} {Q:Exit->Act->World->Prop}:∀(n m:Nat),n<=m->∀a w,Code.rounds P c Q n a w->Code.rounds P c Q m a w
 | 0,_,_,_,_,h=>h.elim
 | n+1,0,h,_,_,_=>absurd h (by omega)
 | n +1,m+1,hnm,a,w,h=>wp_mono (show c.wp P (Exit.then (Code.rounds P c Q n) Q) a w from h) fun e a w hq=>by
     cases e with
     | normal=>exact P9 n m (by omega) a w hq
     | _=>exact hq
theorem ON {c:Code} (I:Nat->St->Prop) {n:Nat} (h0:I n s) (hI:∀n s,I n s->AWP P N w0 F0 c (Exit.thenS (fun s'=>∃m s'',m<n/\Weak s' s''/\I m s'') Q) s):AWP P N w0 F0 (.loop c) Q s:=fun J a w hr=>by
 have key:∀n s J a w,I n s->Rel N w0 F0 J a w s->Code.rounds P c (QX N w0 F0 Q) (n+1) a w:=by
  intro n
  induction n using Nat.strongRecOn with
  | _ n ih=>
    intro s J a w hi hr;refine wp_mono (hI n s hi J a w hr) ?_
    rintro e a' w' ⟨J',s',hR,hq⟩
    cases e with
    | normal=>
      obtain ⟨m,s'',hm,hw,hi'⟩:=hq;obtain ⟨J'',hR'⟩:=hw N w0 F0 J' a' w' hR;exact P9 (m+1) n hm a' w' (ih m hm s'' J'' a' w' hi' hR')
    | _=>exact ⟨J',s',hR,hq⟩
 exact wp_loop_rounds (n+1) (key n s J a w h0 hr)
def WV {α:Type} (l:List (Nat×α)):List Nat->List (Nat×α)
 | []=> []
 | t::r=>match get l t with
   | some v=>(t,v)::WV l r
   | none=>WV l r
theorem Cn {α:Type} {l:List (Nat×α)} {t:Nat} {v:α}:∀{ts:List Nat},get (WV l ts) t=some v->get l t=some v
 | [],h=>by simp[WV,get] at h
 | x ::r,h=>by
   simp only[WV] at h;split at h
   . rename_i u hu;simp only[get] at h;split at h
     . rename_i e;subst e;rw[hu];exact h
     exact Cn h
   exact Cn h
def St.keep (s:St) (ts bs:List Nat):St:=⟨WV s.tm ts,WV s.bx bs⟩
theorem Ra (ts bs:List Nat) (h:s.keep ts bs=s'):Weak s s':=fun N w0 F0 J a w hr=>⟨J,by
 subst h;exact hr.less (fun t v hv=>Cn hv) fun k c hc=>Cn hc⟩
def Js (tt:List (Nat×TI)) (N:Nat) (orcs:List (Nat×Orc)) (ops:List Oper) (ts bs:List Nat) (s:St):Option (St×List Ob):=
 match Ef tt N orcs ops ops 0 s with
 | some (s',obs)=>some (s'.keep ts bs,obs)
 | none=>none
theorem Y4 {tt:List (Nat×TI)} (htt:Aq P tt=true) (orcs:List (Nat×Orc)) (ts bs:List Nat) {id:Nat} {ops:Array Oper} {obs:List Ob} (h:Js tt N orcs ops.toList ts bs s=some (s',obs)) (hob:AllOb (X9 P w0) (Z8 P w0) obs) (hQ:Q .normal s'):
 AWP P N w0 F0 (.region id ops false) Q s:=fun J a w hr=>by
 unfold Js at h;split at h
 . rename_i s1 obs1 h1;obtain ⟨rfl,rfl⟩:s1.keep ts bs=s'/\obs1=obs:=by simpa using h
   refine wp_region ?_;have:=ZY (P:=P) (Q:=QX N w0 F0 Q) htt ops.toList 0 rfl h1 hob hr fun J' a' w' hR=>⟨J',_,hR.less (fun t v hv=>Cn hv) (fun k c hc=>Cn hc),hQ⟩
   rw[List.range_eq_range'];simpa using this
 cases h
def Dv (k k' x:Nat):Nat:=bif Nat.beq x k then k' else bif Nat.beq x k' then k else x
def Qcv (k k':Nat):Tok->Tok
 | .own d x=> .own d (Dv k k' x)
 | .vw x=> .vw (Dv k k' x)
 | t=>t
def Qan (k k':Nat):C->C
 | .slc t n l=> .slc (Qcv k k' t) n l
 | .rptr t cs=> .rptr (Qcv k k' t) cs
 | .ept d x n i o cs=> .ept d (Dv k k' x) n i o cs
 | c=>c
theorem Tg {a b:Nat} (h:a≠b):Nat.beq a b=false:=by
 cases hb:Nat.beq a b with
 | false=>rfl
 | true=>exact absurd (Nat.eq_of_beq_eq_true hb) h
theorem Wv (k k' x:Nat):Dv k k' (Dv k k' x)=x:=by
 simp only[Dv];by_cases h1:x=k
 . subst h1;simp;by_cases h2:k'=x
   . simp[h2]
   have:Nat.beq k' x=false:=Tg h2;simp[this]
 have e1:Nat.beq x k=false:=Tg h1;simp only[e1,cond_false];by_cases h2:x=k'
 . subst h2;simp
 have e2:Nat.beq x k'=false:=Tg h2;simp[e1,e2]
def Inj.swap (J:Inj) (k k':Nat):Inj:=⟨J.F,fun x=>J.L (Dv k k' x),J.B⟩
theorem AL {J:Inj} {w:World} {k k':Nat} {v:Value} {c:C} (h:CR J w v c):CR (J.swap k k') w v (Qan k k' c):=by
 cases c with
 | slc t n l=>
   cases t with
   | sh | emp | put=>exact h
   | own d x=>
     cases d with
     | true=>show OwnDeep (J.L (Dv k k' (Dv k k' x))) w v n l;rw[Wv];exact h
     | false=>show OwnTop J.F (J.L (Dv k k' (Dv k k' x))) w v n l;rw[Wv];exact h
   | vw x=>
     refine VV.keep (X:=J.X (.vw x)) (fun b hb=>⟨?_,rfl⟩) h;show b∈J.L (Dv k k' (Dv k k' x))\/J.F b;rw[Wv];exact hb
 | ept d x n i o cs=>
   obtain ⟨g,r,vs,h1,h2,h3,h4⟩:=h;refine ⟨g,r,vs, ?_,h2,h3.keep fun b hb=>⟨?_,rfl⟩,h4⟩
   . show J.L (Dv k k' (Dv k k' x))=_;rw[Wv];exact h1
   cases d with
   | true=>
     show b∈J.L (Dv k k' (Dv k k' x))\/J.F b;rw[Wv];exact hb
   | false=>exact hb
 | rptr t cs=>
   refine Reads.keep h fun b hb=>⟨?_,rfl⟩
   cases t with
   | vw x=>
     show b∈J.L (Dv k k' (Dv k k' x))\/J.F b;rw[Wv];exact hb
   | _=>exact hb
 | _=>exact h
theorem Rel.swap {J:Inj} {a:Act} {w:World} (h:Rel N w0 F0 J a w s) (k k':Nat):Rel N w0 F0 (J.swap k k') a w (s.map (Qan k k')) where
 below:=h.below
 nodef:=h.nodef
 size:=h.size
 fl:=h.fl
 f0:=h.f0
 nd x:=h.nd _
 lo x:=h.lo _
 nb:=h.nb
 cb:=h.cb
 dj x y b hx hy:=by
  have:=h.dj _ _ b hx hy;rw[←Wv k k' x,this,Wv]
 bo x c hc:=by
  simp only[St.map,Ho (List.map _)] at hc;obtain ⟨y,hy,rfl⟩:=Option.map_eq_some_iff.1 hc;obtain ⟨h1,h2,h3,arr,e,h4,h5⟩:=h.bo x y hy;exact ⟨h1,h2,fun k=>h3 _,arr,e,h4,h5.map _ fun a b _ hr=>AL hr⟩
 bi x y c c' hc hc' hB:=by
  simp only[St.map,Ho (List.map _)] at hc hc';obtain ⟨z,hz,rfl⟩:=Option.map_eq_some_iff.1 hc;obtain ⟨z',hz',rfl⟩:=Option.map_eq_some_iff.1 hc';exact h.bi x y z z' hz hz' hB
 tm t v hv:=by
  simp only[St.map,Ho (AV.map _)] at hv;obtain ⟨y,hy,rfl⟩:=Option.map_eq_some_iff.1 hv;exact AR.map _ (h.tm t y hy) fun u c _ hc=>AL hc
def St.swaps (s:St):List (Nat×Nat)->St
 | []=>s
 | (k,k')::r=>(s.map (Qan k k')).swaps r
theorem Th:∀(l:List (Nat×Nat)) (s:St),Weak s (s.swaps l)
 | [],s=>Weak.refl s
 | (k,k')::r,s=>Weak.trans (fun N w0 F0 J a w h=>⟨_,h.swap k k'⟩) (Th r _)
theorem Ti (ks:List Nat) {J:Inj} {a:Act} {w:World} (hr:Rel N w0 F0 J a w s):∃J':Inj,(∀k,k∈ks->J'.L k= [])/\Rel N w0 F0 J' a w (s.map (Jq (Xo ks) none)):=by
 let J':Inj:=⟨fun b=>J.F b\/∃k,k∈ks/\b∈J.L k,fun k=>if k∈ks then [] else J.L k,J.B⟩
 have hL:∀k b,b∈J'.L k->k∉ks/\b∈J.L k:=fun k b hm=>by
  have hm:b∈(if k∈ks then [] else J.L k):=hm;split at hm
  . simp at hm
  rename_i hn;exact ⟨hn,hm⟩
 have hT:Turns J J' w w (Xo ks) none:=by
  constructor
  . exact fun b hb=>⟨.inl hb,rfl⟩
  . intro k hk;rw[Ko] at hk;split at hk
    . cases hk
    rename_i hn;exact ⟨if_neg hn,fun _ _=>rfl⟩
  . intro k hk b hb;rw[Ko] at hk;split at hk
    . rename_i hm;exact ⟨.inr ⟨k,hm,hb⟩,rfl⟩
    cases hk
  . intro k k' hk;rw[Ko] at hk;split at hk<;>cases hk
  . intro k t hk;rw[Ko] at hk;split at hk
    . simp at hk;exact .inl hk.symm
    cases hk
  . exact fun _ _=>rfl
  intro k d m i o cs hk;rw[Ko] at hk;split at hk<;>cases hk
 have hN:Names w0 F0 J' w:=by
  constructor
  . exact fun b hb=>hb.elim (hr.fl b) fun ⟨k,_,hm⟩=>⟨(hr.lo k b hm).2.1, .inr (hr.lo k b hm).1⟩
  . exact fun b hb=> .inl (hr.f0 b hb)
  . intro k;show (if _ then _ else _:List Nat).Nodup;split
    . simp
    exact hr.nd k
  . intro k b hm;obtain ⟨hn,hm⟩:=hL k b hm;obtain ⟨h1,h2,h3⟩:=hr.lo k b hm;exact ⟨h1,h2,fun hF=>hF.elim h3 fun ⟨k',hk',hm'⟩=>hn (hr.dj k k' b hm hm'▸hk')⟩
  intro k k' b hm hm';exact hr.dj k k' b (hL k b hm).2 (hL k' b hm').2
 have h0:=hr.upd (w':=w) (J':=J') none (by simp) ⟨.one .dead,Xo ks,none,none⟩ undef hr.below hT hN (fun h=>absurd rfl h) (fun k c hk _=>by
  obtain ⟨_,h2,h3,_⟩:=hr.bo k c hk;exact ⟨by simp,fun hF=>hF.elim h2 fun ⟨k',_,hm⟩=>h3 k' hm,fun k' hm=>h3 k' (hL k' _ hm).2,rfl⟩) (fun k c hk=>by cases hk)
 refine ⟨J',fun k hk=>if_pos hk, ?_⟩;have h0:Rel N w0 F0 J' a w (match Xo ks,(none:Option Nat) with | [],none=>s | rl,kb=>s.map (Jq rl kb)):=h0;cases ks with
 | nil =>
   have hid:s.map (Jq (Xo []) none)=s:=by
    have hc:(Jq (Xo []) none)=id:=by
     funext c
     cases c with
     | slc t n l=>cases t<;>rfl
     | rptr t cs=>cases t<;>rfl
     | _=>rfl
    rw[hc];obtain ⟨tm,bx⟩:=s;simp only[St.map]
    congr 1
    . conv=>rhs;rw[←List.map_id tm]
      refine List.map_congr_left fun p _=> ?_
      obtain ⟨t,v⟩:=p;cases v<;>simp[AV.map]
    simp
   rw[hid];exact h0
 | cons k ks=>exact h0
theorem Ww (ks:List Nat) (h:s.map (Jq (Xo ks) none)=s'):Weak s s':=fun N w0 F0 J a w hr=>by
 subst h;obtain ⟨J',_,h⟩:=Ti ks hr;exact ⟨J',h⟩
def OO (d:Bool) (k n:Nat):C->C
 | .slc .emp _ []=> .slc (.own d k) n []
 | c=>c
def WW (i:Nat) (d:Bool) (k n:Nat):List C->List C
 | []=> []
 | c::r=>match i with
   | 0=>OO d k n c::r
   | i+1=>c::WW i d k n r
def SK (i:Nat) (d:Bool) (k n:Nat):AV->AV
 | .one c=> .one (OO d k n c)
 | .agg cs=> .agg (WW i d k n cs)
 | v=>v
theorem AM {J:Inj} {w:World} {v:Value} {d:Bool} {k n:Nat} (_:J.L k= []) {c:C} (h:CR J w v c):CR J w v (OO d k n c):=by
 unfold OO;split
 . obtain ⟨_,oa,rfl⟩:=h;cases d with
   | true=>show OwnDeep (J.L k) w _ n [];exact ⟨[], .emp oa n,List.nodup_nil,(fun b hb=>by simp at hb), .inl rfl⟩
   | false=>exact .inl ⟨rfl,oa,rfl⟩
 exact h
theorem XH {J:Inj} {w:World} {d:Bool} {k n:Nat} (hk:J.L k= []):∀(i:Nat) {cs:List C} {vs:List Value},All2 (CR J w) vs cs->All2 (CR J w) vs (WW i d k n cs)
 | _, [],_,h=>by unfold WW;exact h
 | 0,c::r,_, .cons h1 h2=>by unfold WW;exact .cons (AM hk h1) h2
 | i+1,c::r,_, .cons h1 h2=>by unfold WW;exact .cons h1 (XH hk i h2)
theorem FT {J:Inj} {w:World} {v:Value} {d:Bool} {k n:Nat} (hk:J.L k= []) (i:Nat) {x:AV} (h:AR J w v x):AR J w v (SK i d k n x):=by
 cases x with
 | one c=>exact AM hk h
 | agg cs=>obtain ⟨vs,e,h⟩:=h;exact ⟨vs,e,XH hk i h⟩
 | tup l=>exact h
def Qck {α:Type} (t:Nat) (f:α->α):List (Nat×α)->List (Nat×α)
 | []=> []
 | (k,a)::r=>(k,if k=t then f a else a)::Qck t f r
theorem I0 {α:Type} {t u:Nat} {f:α->α} {v:α}:∀{l:List (Nat×α)},get (Qck t f l) u=some v->∃y,get l u=some y/\(v=f y\/v=y)
 | [],h=>by simp[Qck,get] at h
 | (k,a)::r,h=>by
   simp only[Qck,get] at h⊢;by_cases hk:k=u
   . simp only[hk,if_true] at h⊢;refine ⟨a,rfl, ?_⟩;by_cases hu:u=t
     . simp only[hu,if_true] at h;exact .inl (Option.some.inj h).symm
     simp only[hu,if_false] at h;exact .inr (Option.some.inj h).symm
   simp only[hk,if_false] at h⊢;exact I0 h
def St.open1 (s:St):Bool×Nat×Nat×Bool×Nat×Nat->St
 | (true,t,i,d,k,n)=>⟨(s.map (Jq (Xo [k]) none)).tm,Qck t (WW i d k n) (s.map (Jq (Xo [k]) none)).bx⟩
 | (false,t,i,d,k,n)=>⟨Qck t (SK i d k n) (s.map (Jq (Xo [k]) none)).tm,(s.map (Jq (Xo [k]) none)).bx⟩
theorem CT (o:Bool×Nat×Nat×Bool×Nat×Nat) (s:St):Weak s (s.open1 o):=fun N w0 F0 J a w hr=>by
 obtain ⟨b,t,i,d,k,n⟩:=o;obtain ⟨J',hk,h⟩:=Ti [k] hr;have hk:=hk k List.mem_cons_self;refine ⟨J', ?_⟩;cases b with
 | true=>
   refine {h with bo:=fun x c hc=> ?_,bi:=fun x y c c' hc hc'=> ?_}
   . obtain ⟨y,hy,e⟩:=I0 hc;obtain ⟨h1,h2,h3,arr,ty,h4,h5⟩:=h.bo x y hy;refine ⟨h1,h2,h3,arr,ty,h4, ?_⟩;rcases e with rfl | rfl
     . exact XH hk i h5
     exact h5
   obtain ⟨_,hy,_⟩:=I0 hc;obtain ⟨_,hy',_⟩:=I0 hc';exact h.bi x y _ _ hy hy'
 | false=>
   refine {h with tm:=fun x v hv=> ?_};obtain ⟨y,hy,e⟩:=I0 hv;have h5:=h.tm x y hy;rcases e with rfl | rfl
   . exact FT hk i h5
   exact h5
def St.opens (s:St):List (Bool×Nat×Nat×Bool×Nat×Nat)->St
 | []=>s
 | o::r=>(s.open1 o).opens r
theorem Mu:∀(l:List (Bool×Nat×Nat×Bool×Nat×Nat)) (s:St),Weak s (s.opens l)
 | [],s=>Weak.refl s
 | o::r,s=>Weak.trans (CT o s) (Mu r _)
theorem FU {c:Code} (l:List (Bool×Nat×Nat×Bool×Nat×Nat)) (he:s.opens l=s') (h:AWP P N w0 F0 c Q s'):AWP P N w0 F0 c Q s:=Au (he▸Mu l s) h
def Qeg (k:Nat):C->C
 | .slc (.own true x) n l=>bif Nat.beq x k then .slc (.own false x) n l else .slc (.own true x) n l
 | .ept true x n i o cs=>bif Nat.beq x k then .rptr (.vw x) cs else .ept true x n i o cs
 | c=>c
def Inj.dem (J:Inj) (k:Nat):Inj:=⟨fun b=>J.F b\/(b∈J.L k/\b∉(J.L k).take 1),fun x=>if x=k then (J.L k).take 1 else J.L x,J.B⟩
theorem FV {J:Inj} {k:Nat} {t:Tok}:∀b,J.X t b->(J.dem k).X t b:=by
 intro b hb;cases t with
 | sh=>exact .inl hb
 | emp | own | put=>exact hb.elim
 | vw x =>
   rcases hb with hb | hb
   . by_cases hx:x=k
     . subst hx;by_cases hm:b∈(J.L x).take 1
       . exact .inl (by show b∈(if x=x then _ else _);rw[if_pos rfl];exact hm)
       exact .inr (.inr ⟨hb,hm⟩)
     exact .inl (by show b∈(if x=k then _ else _);rw[if_neg hx];exact hb)
   exact .inr (.inl hb)
theorem FW {J:Inj} {w:World} {v:Value} {k:Nat} {c:C} (h:CR J w v c):CR (J.dem k) w v (Qeg k c):=by
 have hF:∀b,J.F b->(J.dem k).F b/\w.heap[b]? =w.heap[b]? :=fun b hb=>⟨.inl hb,rfl⟩
 have hL:∀x,x≠k->(J.dem k).L x=J.L x:=fun x hx=>if_neg hx
 have hLk:(J.dem k).L k=(J.L k).take 1:=if_pos rfl;cases c with
 | int | bool | str | raw | dead=>exact h
 | slc t n l=>
   cases t with
   | sh=>exact VV.keep hF h
   | emp=>exact h
   | put=>exact h.elim
   | vw x=>exact VV.keep (fun b hb=>⟨FV (t:= .vw x) b hb,rfl⟩) h
   | own d x=>
     cases d with
     | false=>
       show OwnTop _ ((J.dem k).L x) w v n l;rcases h with h | ⟨g,cap,cur,e,e1,hv,hg,hs,hr,h1,h2⟩
       . exact .inl h
       refine .inr ⟨g,cap,cur,e, ?_,hv,hg,hs,hr.keep hF,h1,h2⟩;by_cases hx:x=k
       . subst hx;rw[hLk,e1];rfl
       rw[hL x hx];exact e1
     | true =>
       show CR (J.dem k) w v (bif Nat.beq x k then .slc (.own false x) n l else .slc (.own true x) n l);cases hb:Nat.beq x k with
       | false=>
         have hx:x≠k:=fun e=>by subst e;simp at hb
         show OwnDeep ((J.dem k).L x) w v n l;rw[hL x hx];exact h
       | true=>
         obtain rfl:=Nat.eq_of_beq_eq_true hb;show OwnTop _ ((J.dem x).L x) w v n l;rw[hLk];obtain ⟨L',h1,h2,h3,h4⟩:=h;generalize hp:PV.slc n l=p at h1;cases h1 with
         | int | bool | str | any | raw=>cases hp
         | emp oa n'=>cases hp;exact .inl ⟨rfl,oa,rfl⟩
         | @slc g cap n' cur e L1 l' hg hs hr h5 h6=>
           cases hp
           rcases h4 with h4 | ⟨g',r1,r2,e1,e2⟩
           . cases h4
           cases e1
           obtain ⟨n1,_⟩:=List.nodup_cons.1 h2;refine .inr ⟨g,cap,cur,e,by rw[e2];rfl,rfl,hg,hs,hr.vr fun b hb=> .inr ⟨h3 b (List.mem_cons_of_mem _ hb),fun hm=> ?_⟩,h5,h6⟩;rw[e2] at hm;simp at hm;exact n1 (hm▸hb)
 | ptr=>exact h
 | fn=>exact h
 | fnr f caps=>
   obtain ⟨vs,rfl,ha⟩:=h;exact ⟨vs,rfl,ha.imp fun _ _ _ h=>h.keep hF⟩
 | rptr t cs=>exact Reads.keep h fun b hb=>⟨FV b hb,rfl⟩
 | ept d x n i o cs=>
   obtain ⟨g,r,vs,h1,h2,h3,h4,h5⟩:=h;cases d with
   | false=>
     refine ⟨g,if x=k then [] else r,vs, ?_,h2,h3.keep hF,h4,h5⟩;by_cases hx:x=k
     . subst hx;rw[hLk,h1,if_pos rfl];rfl
     rw[hL x hx,if_neg hx];exact h1
   | true=>
     show CR (J.dem k) w v (bif Nat.beq x k then .rptr (.vw x) cs else .ept true x n i o cs);cases hb:Nat.beq x k with
     | false=>
       have hx:x≠k:=fun e=>by subst e;simp at hb
       exact ⟨g,r,vs,by rw[hL x hx];exact h1,h2,h3.keep fun b hb=>⟨FV (t:= .vw x) b hb,rfl⟩,h4,h5⟩
     | true=>exact ⟨g,i*n+o,vs,h2,FV (t:= .vw x) g (.inl (by rw[h1];exact List.mem_cons_self)),h3.keep fun b hb=>⟨FV (t:= .vw x) b hb,rfl⟩,h4⟩
theorem WX (k:Nat) (s:St):Weak s (s.map (Qeg k)):=fun N w0 F0 J a w h=>by
 have hsub:∀x b,b∈(J.dem k).L x->b∈J.L x:=fun x b hb=>by
  have hb:b∈(if x=k then (J.L k).take 1 else J.L x):=hb;split at hb
  . rename_i hx;subst hx;exact List.mem_of_mem_take hb
  exact hb
 refine ⟨J.dem k,{below:=h.below,nodef:=h.nodef,size:=h.size,fl:=fun b hb=> ?_,f0:=fun b hb=> .inl (h.f0 b hb),nd:=fun x=> ?_,lo:=fun x b hb=> ?_,dj:=fun x y b hx hy=>h.dj x y b (hsub x b hx) (hsub y b hy),nb:=h.nb,cb:=h.cb,bo:=fun x c hc=> ?_,bi:=fun x y c c' hc hc' hB=> ?_,tm:=fun t v hv=> ?_}⟩
 . rcases hb with hb | ⟨hb,_⟩
   . exact h.fl b hb
   exact ⟨(h.lo k b hb).2.1, .inr (h.lo k b hb).1⟩
 . show (if _ then _ else _:List Nat).Nodup;split
   . exact (List.take_sublist 1 _).nodup (h.nd k)
   exact h.nd x
 . obtain ⟨h1,h2,h3⟩:=h.lo x b (hsub x b hb);refine ⟨h1,h2,fun hF=> ?_⟩;rcases hF with hF | ⟨hm,hn⟩
   . exact h3 hF
   have hx:=h.dj x k b (hsub x b hb) hm;subst hx;exact hn (by have hb:b∈(if x=x then (J.L x).take 1 else J.L x):=hb;rw[if_pos rfl] at hb;exact hb)
 . simp only[St.map,Ho (List.map _)] at hc;obtain ⟨y,hy,rfl⟩:=Option.map_eq_some_iff.1 hc;obtain ⟨h1,h2,h3,arr,e,h4,h5⟩:=h.bo x y hy;refine ⟨h1,fun hF=> ?_,fun z hz=>h3 z (hsub z _ hz),arr,e,h4,h5.map _ fun a b _ hr=>FW hr⟩;rcases hF with hF | ⟨hm,_⟩
   . exact h2 hF
   exact h3 k hm
 . simp only[St.map,Ho (List.map _)] at hc hc';obtain ⟨z,hz,rfl⟩:=Option.map_eq_some_iff.1 hc;obtain ⟨z',hz',rfl⟩:=Option.map_eq_some_iff.1 hc';exact h.bi x y z z' hz hz' hB
 simp only[St.map,Ho (AV.map _)] at hv;obtain ⟨y,hy,rfl⟩:=Option.map_eq_some_iff.1 hv;exact AR.map _ (h.tm t y hy) fun u c _ hc=>FW hc
def St.demotes (s:St):List Nat->St
 | []=>s
 | k::r=>(s.map (Qeg k)).demotes r
theorem E0:∀(l:List Nat) (s:St),Weak s (s.demotes l)
 | [],s=>Weak.refl s
 | k::r,s=>Weak.trans (WX k s) (E0 r _)
end
end
section
open Go.RowKit
def Tj:Nat->List AV->List (Nat×AV)
 | _, []=> []
 | i,v::r=>(i,v)::Tj (i+1) r
def Ss (args:List AV):St:=⟨Tj 0 args, []⟩
def WY (tt:List (Nat×TI)) (s:St):List ResultVar->Option (List AV)
 | []=>some []
 | .tmp t::r=>match get s.tm t,WY tt s r with
   | some v,some vs=>some (v::vs)
   | _,_=>none
 | .cell a t::r=>match get s.tm a,get tt t,WY tt s r with
   | some (.one (.ptr k off)),some ti,some vs=>(match get s.bx k with
     | some cells=>(match CH ti ((cells.drop off).take ti.size) with
       | some v=>some (v::vs)
       | none=>none)
     | none=>none)
   | _,_,_=>none
def Qcw:AV->Option (Bool×List C)
 | .one c=>some (false, [c])
 | .agg cs=>some (true,cs)
 | .tup _=>none
def G3:List AV->Option (List (Bool×List C))
 | []=>some []
 | v::r=>match Qcw v,G3 r with
   | some p,some ps=>some (p::ps)
   | _,_=>none
def Tk:List AV->Option AV
 | [v]=>some v
 | vs=>(G3 vs).map .tup
def SL (k:Nat):List Nat->Nat
 | []=>0
 | x::r=>bif Nat.beq x k then 0 else SL k r+1
def Qfa (ks:List Nat):C->C
 | .slc (.own b k) n l=> .slc (.own b (SL k ks)) n l
 | c=>c
def Qao:C->Bool
 | .int _ _=>true
 | .bool _=>true
 | .str _=>true
 | .slc .sh _ _=>true
 | .slc .emp _ _=>true
 | .slc (.own _ _) _ _=>true
 | _=>false
def Dw (tt:List (Nat×TI)) (rs:List ResultVar) (s:St):Option AV:=
 match WY tt s rs with
 | some vs=>(match Tk vs with
   | some v=>bif Vm Qao v.cells&&Vy (Ql v.cells) then some (v.map (Qfa (Ql v.cells))) else none
   | none=>none)
 | none=>none
def EO (tt:List (Nat×TI)) (rs:List ResultVar) (r:AV):Exit->St->Prop
 | .normal,s=>∃frz,Dw tt rs (s.map (Jq (Xo frz) none))=some r
 | .ret,s=>∃frz,Dw tt rs (s.map (Jq (Xo frz) none))=some r
 | _,_=>False
theorem Bk {tt:List (Nat×TI)} {rs:List ResultVar} {r b:AV} {s:St} (frz:List Nat) (h:Dw tt rs (s.map (Jq (Xo frz) none))=some b) (e:b=r):EO tt rs r .ret s:=⟨frz,e▸h⟩
def Tl (tmps:Array Value):ResultVar->Sem Value
 | .tmp t=>pure (tmps.getD t undef)
 | .cell a t=>do loadVar t (←asAddr (tmps.getD a undef))
theorem Tm (fn:Func) (tmps:Array Value):results fn tmps=(do
 let vs←fn.results.mapM (Tl tmps)
 pure (if h:vs.size=1 then vs[0] else .tuple vs)):=by
 unfold results
 congr 2
def WZ (J:Inj) (ks:List Nat) (i:Nat):List Nat:=match ks[i]? with
 | some k=>J.L k
 | none=> []
theorem Dx {J:Inj} {ks:List Nat} {i b:Nat} (h:b∈WZ J ks i):∃k,ks[i]? =some k/\b∈J.L k:=by
 unfold WZ at h;split at h
 . rename_i k hk;exact ⟨k,hk,h⟩
 simp at h
section
variable {P:Program} {N:Nat} {w0:Base} {F0:Nat->Prop} {J:Inj} {a:Act} {w:World} {s:St}
theorem I1:∀{args:List AV} {i t:Nat} {v:AV},get (Tj i args) t=some v->i<=t/\args[t-i]? =some v
 | [],i,t,v,h=>by simp[Tj,get] at h
 | x::r,i,t,v,h=>by
   simp only[Tj,get] at h;split at h
   . rename_i e;subst e;exact ⟨Nat.le_refl _,by simpa using h⟩
   rename_i hne;obtain ⟨h1,h2⟩:=I1 h;refine ⟨by omega, ?_⟩;obtain ⟨j,hj⟩:∃j,t-i=j+1:=⟨t-i-1,by omega⟩;rw[hj,List.getElem?_cons_succ,show j=t-(i+1) by omega];exact h2
theorem Oo {tt:List (Nat×TI)} (htt:Aq P tt=true) (hrel:Rel N w0 F0 J a w s):∀{rs:List ResultVar} {vs:List AV},WY tt s rs=some vs->
 ∃us:List Value,(rs.mapM (Tl a.tmps)).run P w= .ok us w/\All2 (AR J w) us vs
 | [],vs,h=>by
   obtain rfl: []=vs:=by simpa [WY] using h
   exact ⟨[],by simp, .nil⟩
 | .tmp t::r,vs,h=>by
   simp only[WY] at h;split at h
   . rename_i v vs' e1 e2;obtain rfl:=Option.some.inj h;obtain ⟨us,h1,h2⟩:=Oo htt hrel e2;exact ⟨a.tmps.getD t undef::us,by simp[List.mapM_cons,Tl,h1], .cons (hrel.tm t v e1) h2⟩
   cases h
 | .cell x t::r,vs,h=>by
   simp only[WY] at h;split at h
   . rename_i k off ti vs' e1 e2 e3;split at h
     . rename_i cells hk;split at h
       . rename_i v hval;obtain rfl:=Option.some.inj h;obtain ⟨us,h1,h2⟩:=Oo htt hrel e3;have hx:a.tmps.getD x undef= .pointer (some ⟨J.B k,off,none⟩):=hrel.tm x _ e1;obtain ⟨_,_,_,arr,e,hheap,hall⟩:=hrel.bo k cells hk
         have hc:∀(j:Nat) (u:Value),((arr.toList.drop off).take ti.size)[j]? =some u->w.cell? ⟨J.B k,off+j,none⟩=some u:=by
          have:=Hh (k:=ti.size) (Uk (w:=w) (vs:=arr.toList) (b:=J.B k) (off:=0) (k:=off) (fun j u hj=>by
           rw[Array.getElem?_toList] at hj;simp[World.cell?,hheap,hj]))
          simpa using this
         obtain ⟨u,hu,hr⟩:=Ok (P:=P) (Zb htt e2) ((hall.drop off).take ti.size) hval hc;exact ⟨u::us,by simp[List.mapM_cons,Tl,hx,asAddr,hu,h1], .cons hr h2⟩
       cases h
     cases h
   cases h
theorem XI:∀{vs:List AV} {ps:List (Bool×List C)} {us:List Value},G3 vs=some ps->All2 (AR J w) us vs->All2 (VA J w) us ps
 | [],ps,us,h,hu=>by
   obtain rfl: []=ps:=by simpa [G3] using h
   cases hu
   exact .nil
 | v :: r,ps,us,h,hu=>by
   simp only[G3] at h;split at h
   . rename_i p ps' e1 e2;obtain rfl:=Option.some.inj h;cases hu with
     | cons h1 h2=>
       refine .cons ?_ (XI e2 h2);cases v with
       | one c=>obtain rfl:=Option.some.inj e1;exact ⟨c,rfl,h1⟩
       | agg cs=>obtain rfl:=Option.some.inj e1;exact h1
       | tup l=>cases e1
   cases h
theorem I2:∀{ks:List Nat} {k:Nat},k∈ks->ks[SL k ks]? =some k
 | [],k,h=>by simp at h
 | x::r,k,h=>by
   simp only[SL];by_cases hx:x=k
   . subst hx;simp
   rw[Tg hx];simp only[cond_false,List.getElem?_cons_succ];exact I2 ((List.mem_cons.1 h).resolve_left fun e=>hx e.symm)
theorem AN {w':World} {tt:List (Nat×TI)} (htt:Aq P tt=true) {fn:Func} {r:AV} (hrel:Rel N ⟨w,fun _=>False,none⟩ F0 J a w' s) (h:Dw tt fn.results.toList s=some r):∃v,(results fn a.tmps).run P w'= .ok v w'/\NU F0 w r (.returned v) w':=by
 unfold Dw at h;split at h
 . rename_i vs hvs;split at h
   . rename_i x hx;cases hc:(Vm Qao x.cells&&Vy (Ql x.cells)) with
     | false=>rw[hc] at h;cases h
     | true =>
       rw[hc] at h;obtain rfl:=Option.some.inj h;simp only[Bool.and_eq_true] at hc;obtain ⟨hok,hnd⟩:=hc;have hnd:=Um.1 hnd;obtain ⟨us,hrun,hall⟩:=Oo (P:=P) htt hrel hvs
       have hres:∃v,(results fn a.tmps).run P w'= .ok v w'/\AR J w' v x:=by
        have hm:(fn.results.mapM (Tl a.tmps)).run P w'= .ok us.toArray w':=by
         rw[Array.mapM_eq_mapM_toList];simp[hrun]
        have hgen:(results fn a.tmps).run P w'= .ok (if h:us.toArray.size=1 then us.toArray[0] else .tuple us.toArray) w':=by
         rw[Tm];simp only[Sem.run_bind,hm,Result.andThen_ok,Sem.run_pure]
        cases hall with
        | nil=>
          obtain rfl:AV.tup []=x:=by simpa [Tk,G3] using hx
          exact ⟨.tuple #[],by rw[hgen];simp, [],rfl, .nil⟩
        | cons h1 h2=>
          cases h2 with
          | nil=>
            obtain rfl:=Option.some.inj hx;exact ⟨_,by rw[hgen];simp,h1⟩
          | cons h2 h3=>
            obtain ⟨ps,hps,rfl⟩:=Option.map_eq_some_iff.1 hx;exact ⟨_,by rw[hgen];simp,_,rfl,XI hps (.cons h1 (.cons h2 h3))⟩
       obtain ⟨v,hv,hvr⟩:=hres;refine ⟨v,hv,v,WZ J (Ql x.cells),rfl,hrel.below.below (fun _ h=>h),fun i=> ?_,fun i b hb=> ?_,fun i i' b hb hb'=> ?_, ?_⟩
       . unfold WZ;split
         . exact hrel.nd _
         simp
       . obtain ⟨k,_,hm⟩:=Dx hb;exact ⟨(hrel.lo k b hm).1.elim id False.elim,(hrel.lo k b hm).2.1⟩
       . obtain ⟨k,hk,hm⟩:=Dx hb;obtain ⟨k',hk',hm'⟩:=Dx hb';have:=hrel.dj k k' b hm hm';subst this;obtain ⟨l1,e1⟩:=List.getElem?_eq_some_iff.1 hk;obtain ⟨l2,e2⟩:=List.getElem?_eq_some_iff.1 hk';rcases Nat.lt_trichotomy i i' with hlt | he | hlt
         . exact absurd (e1.trans e2.symm) (List.pairwise_iff_getElem.1 hnd i i' l1 l2 hlt)
         . exact he
         exact absurd (e2.trans e1.symm) (List.pairwise_iff_getElem.1 hnd i' i l2 l1 hlt)
       refine AR.map _ hvr fun u c hcm hcr=> ?_
       have hF:∀b,J.F b->(F0 b\/(w.heap.size<=b/\b<w'.heap.size/\∀i,b∉WZ J (Ql x.cells) i)):=fun b hb=>by
        obtain ⟨h1,h2⟩:=hrel.fl b hb;refine h2.imp id fun h2=>⟨h2.elim id False.elim,h1,fun i hm=> ?_⟩
        obtain ⟨k,_,hm⟩:=Dx hm;exact (hrel.lo k b hm).2.2 hb
       have hfo:=K6 hok c hcm;cases c with
       | int | bool | str | raw=>exact hcr
       | slc t n l=>
         cases t with
         | emp=>exact hcr
         | sh=>exact VV.keep (fun b hb=>⟨hF b hb,rfl⟩) hcr
         | vw k=>cases hfo
         | put=>exact hcr.elim
         | own b k=>
           cases b with
           | false=>
             show OwnTop _ (WZ J (Ql x.cells) (SL k (Ql x.cells))) w' u _ _;unfold WZ;rw[I2 (Dt hcm rfl)];exact OwnTop.keep (F:=J.F) hcr (fun b hb=>⟨hF b hb,rfl⟩) fun _ _=>rfl
           | true=>
             show OwnDeep (WZ J (Ql x.cells) (SL k (Ql x.cells))) w' u _ _;unfold WZ;rw[I2 (Dt hcm rfl)];exact hcr
       | _=>cases hfo
   cases h
 cases h
theorem I3 {tt:List (Nat×TI)} (htt:Aq P tt=true) {f:Nat} {fn:Func} {c:Code} (hf:P.funcs[f]? =some fn) (hb:fn.body=some c) (hok:Bu P f) {args:List AV} {r:AV} (hn:args.length<=fn.ntmps)
 (h:∀w0 F0,GoodAt P w0->AWP P fn.ntmps w0 F0 c (EO tt fn.results.toList r) (Ss args)):ACalls P f args r:=by
 refine ⟨hok,fun w hg F vals hF hall=>calls_of_wp hf hb ?_⟩;have hlen:=hall.length;refine wp_mono (h ⟨w,fun _=>False,none⟩ F (.of hg) (ZK F) _ w ?_) ?_
 . refine {below:=Base.Keeps.refl _,nodef:=rfl,size:= ?_,fl:=fun b hb=>⟨hF b hb, .inl hb⟩,f0:=fun b hb=>hb,nd:=fun k=>by simp[ZK],lo:=fun k b hb=>by simp[ZK] at hb,dj:=fun k k' b hb=>by simp[ZK] at hb,bo:=fun k c hc=>by simp[Ss,get] at hc,nb:= .inl rfl,cb:=(fun b hb=>by cases hb),bi:=fun k k' c c' hc=>by simp[Ss,get] at hc,tm:=fun t v hv=> ?_}
   . simp;omega
   obtain ⟨_,ht⟩:=I1 hv;obtain ⟨u,hu,hr⟩:=hall.get' ht;have hlt:t<vals.length:=(List.getElem?_eq_some_iff.1 hu).1
   have:(vals.toArray++Array.replicate (fn.ntmps-vals.toArray.size) undef).getD t undef=u:=by
    rw[Array.getD_eq_getD_getElem?,Array.getElem?_append_left (by simpa using hlt)];simp at hu⊢;rw[hu];rfl
   rw[this];exact hr
 rintro e a' w' ⟨J',s',hR,hq⟩
 cases e with
 | normal=>
   obtain ⟨frz,hq⟩:=hq;obtain ⟨J'',hR⟩:=Ww frz rfl _ _ _ _ _ _ hR;obtain ⟨v,h1,h2⟩:=AN (P:=P) htt (fn:=fn) hR hq;exact ⟨hR.nodef,v,h1,h2⟩
 | ret=>
   obtain ⟨frz,hq⟩:=hq;obtain ⟨J'',hR⟩:=Ww frz rfl _ _ _ _ _ _ hR;obtain ⟨v,h1,h2⟩:=AN (P:=P) htt (fn:=fn) hR hq;exact ⟨hR.nodef,v,h1,h2⟩
 | _=>exact hq.elim
end
end
section
open Go.RowKit
open GoD (rd own)
class GoE (α:Type) extends GoD α where
 enc:α->List PV
 enc_len:∀a,(enc a).length=GoD.n α
 no_any:∀{a:α} {p:PV},p∈enc a->p≠ .any
 n_pos:0<GoD.n α
 /-- no list in it is longer than what any append makes -/
 wide:α->Prop
 wide_size:∀{a:α},GoD.size a<=1073741824->wide a
 vc_wide:∀{X:Nat->Prop} {w:World} {cs:List Value} {a:α},VC X w cs (enc a)->wide a
 rd_vc:∀{w:World} {cs:List Value} {a:α},rd w cs a->wide a->VC (fun b=>b<w.heap.size) w cs (enc a)
 vc_rd:∀{X:Nat->Prop} {w:World} {cs:List Value} {a:α},VC X w cs (enc a)->rd w cs a
 own_oc:∀{L:List Nat} {w:World} {cs:List Value} {a:α},own L w cs a->wide a->OC w L cs (enc a)
 oc_own:∀{L:List Nat} {w:World} {cs:List Value} {a:α},OC w L cs (enc a)->L.Nodup->own L w cs a
open GoE (enc wide)
instance instGoEInt:GoE Int where
 enc a:= [.int .i64 a]
 no_any h:=by rw[List.mem_singleton.1 h];simp
 enc_len _:=rfl
 n_pos:=Nat.zero_lt_one
 wide _:=True
 wide_size _:=trivial
 vc_wide _:=trivial
 rd_vc h _:=by obtain ⟨rfl,h⟩:=h;exact .cons (.int ((Gz _).2 h)) .nil
 vc_rd h:=by
  cases h with
  | cons h1 h2=>cases h2;cases h1;exact ⟨rfl,(Gz _).1 ‹_›⟩
 own_oc h _:=by obtain ⟨rfl,rfl,h⟩:=h;exact OC.cons (L1:= []) (L2:= []) (.int ((Gz _).2 h)) .nil
 oc_own h _:=by
  cases h with
  | cons h1 h2=>cases h2;cases h1;exact ⟨rfl,rfl,(Gz _).1 ‹_›⟩
instance instGoEBool:GoE Bool where
 enc a:= [.bool a]
 no_any h:=by rw[List.mem_singleton.1 h];simp
 enc_len _:=rfl
 n_pos:=Nat.zero_lt_one
 wide _:=True
 wide_size _:=trivial
 vc_wide _:=trivial
 rd_vc h _:=by rw[show _=_ from h];exact .cons (.bool _) .nil
 vc_rd h:=by
  cases h with
  | cons h1 h2=>cases h2;cases h1;rfl
 own_oc h _:=by obtain ⟨rfl,rfl⟩:=h;exact OC.cons (L1:= []) (L2:= []) (.bool _) .nil
 oc_own h _:=by
  cases h with
  | cons h1 h2=>cases h2;cases h1;exact ⟨rfl,rfl⟩
instance instGoEStr:GoE ByteArray where
 enc a:= [.str a]
 no_any h:=by rw[List.mem_singleton.1 h];simp
 enc_len _:=rfl
 n_pos:=Nat.zero_lt_one
 wide _:=True
 wide_size _:=trivial
 vc_wide _:=trivial
 rd_vc h _:=by obtain ⟨rfl,h⟩:=h;exact .cons (.str h) .nil
 vc_rd h:=by
  cases h with
  | cons h1 h2=>cases h2;cases h1;exact ⟨rfl,‹_›⟩
 own_oc h _:=by obtain ⟨rfl,rfl,h⟩:=h;exact OC.cons (L1:= []) (L2:= []) (.str h) .nil
 oc_own h _:=by
  cases h with
  | cons h1 h2=>cases h2;cases h1;exact ⟨rfl,rfl,‹_›⟩
theorem VC.split {X:Nat->Prop} {w:World}:∀{ps ps':List PV} {vs:List Value},VC X w vs (ps++ps')->∃vs1 vs2,vs=vs1++vs2/\VC X w vs1 ps/\VC X w vs2 ps'
 | [],ps',vs,h=>⟨[],vs,rfl, .nil,h⟩
 | p ::ps,ps',vs,h=>by
   generalize hq:p::ps++ps'=q at h;cases h with
   | nil=>cases hq
   | cons h1 h2=>
     cases hq
     obtain ⟨vs1,vs2,rfl,h3,h4⟩:=VC.split h2;exact ⟨_,vs2,rfl, .cons h1 h3,h4⟩
instance instGoEProd {α β:Type} [GoE α] [GoE β]:GoE (α×β) where
 enc p:=enc p.1++enc p.2
 no_any h:=(List.mem_append.1 h).elim GoE.no_any GoE.no_any
 enc_len p:=by rw[List.length_append,GoE.enc_len,GoE.enc_len];rfl
 n_pos:=Nat.lt_of_lt_of_le (GoE.n_pos (α:=α)) (Nat.le_add_right _ _)
 wide p:=wide p.1/\wide p.2
 wide_size h:=⟨GoE.wide_size (Nat.le_trans (Nat.le_add_right _ _) h),GoE.wide_size (Nat.le_trans (Nat.le_add_left _ _) h)⟩
 vc_wide h:=by
  obtain ⟨c1,c2,rfl,h1,h2⟩:=VC.split h;exact ⟨GoE.vc_wide h1,GoE.vc_wide h2⟩
 rd_vc h hw:=by
  obtain ⟨c1,c2,rfl,h1,h2⟩:=h;exact VC.append (GoE.rd_vc h2 hw.2) (GoE.rd_vc h1 hw.1)
 vc_rd h:=by
  obtain ⟨c1,c2,rfl,h1,h2⟩:=VC.split h;exact ⟨c1,c2,rfl,GoE.vc_rd h1,GoE.vc_rd h2⟩
 own_oc h hw:=by
  obtain ⟨_,c1,c2,L1,L2,rfl,rfl,h1,h2⟩:=h;exact OC.append (GoE.own_oc h2 hw.2) (GoE.own_oc h1 hw.1)
 oc_own h hn:=by
  obtain ⟨L1,L2,c1,c2,rfl,rfl,h1,h2⟩:=OC.split h;obtain ⟨n1,n2,_⟩:=List.nodup_append.1 hn;exact ⟨hn,c1,c2,L1,L2,rfl,rfl,GoE.oc_own h1 n1,GoE.oc_own h2 n2⟩
def eL {α:Type} [GoE α] (l:List α):List (List PV):=l.map enc
section
variable {α:Type} [GoE α]
theorem Rb (a:α) (l:List α):eL (a::l)=enc a::eL l:=rfl
theorem FX (l m:List α):eL (l++m)=eL l++eL m:=by simp[eL]
theorem Yv (l:List α):(eL l).length=l.length:=by simp[eL]
theorem FY (l:List α) (k:Nat):(eL l).take k=eL (l.take k):=by simp[eL]
theorem FZ (l:List α) (k:Nat):(eL l).drop k=eL (l.drop k):=by simp[eL]
theorem GA {l:List α} {i:Nat} {a:α} (h:l[i]? =some a):(eL l)[i]? =some (enc a):=by simp[eL,h]
theorem GB {w:World} {X:Nat->Prop} {b off:Nat}:∀(l:List α),(∀i a,l[i]? =some a->∃ce:List Value,ce.length=GoD.n α/\(∀j v,ce[j]? =some v->w.cell? ⟨b,off+i*GoD.n α+j,none⟩=some v)/\VC X w ce (enc a))->
 ∃cs,(∀(j:Nat) (u:Value),cs[j]? =some u->w.cell? ⟨b,off+j,none⟩=some u)/\VR X w (GoD.n α) cs (eL l)
 | [],_=>⟨[],by simp, .nil _⟩
 | a ::l,h=>by
   obtain ⟨ce,h1,h2,h3⟩:=h 0 a rfl
   obtain ⟨cs,h4,h5⟩:=GB (b:=b) (off:=off+GoD.n α) l fun i x hx=>by
    obtain ⟨c,k1,k2,k3⟩:=h (i+1) x (by simpa using hx);refine ⟨c,k1,fun j v hj=> ?_,k3⟩;have:=k2 j v hj;rw[Nat.add_mul,Nat.one_mul] at this;rw[show off+GoD.n α+i*GoD.n α+j=off+(i*GoD.n α+GoD.n α)+j by omega];exact this
   refine ⟨ce++cs,fun j u hj=> ?_, .cons h3 (GoE.enc_len a) h5⟩;rcases Nat.lt_or_ge j ce.length with hlt | hge
   . rw[List.getElem?_append_left hlt] at hj;have:=h2 j u hj;simpa using this
   rw[List.getElem?_append_right hge] at hj;have:=h4 _ u hj;rw[show off+GoD.n α+(j-ce.length)=off+j by omega] at this;exact this
theorem AO {w:World}:∀(l:List α) (Ls:List (List Nat)) (cs:List Value),(∀a,a∈l->wide a)->Ls.length=l.length->cs.length=l.length*GoD.n α->(∀i Li a,Ls[i]? =some Li->l[i]? =some a->own Li w ((cs.drop (i*GoD.n α)).take (GoD.n α)) a)->OR w (GoD.n α) Ls.flatten cs (eL l)
 | [],Ls,cs,_,h1,h2,_=>by
   obtain rfl:Ls= []:=List.eq_nil_of_length_eq_zero h1;obtain rfl:cs= []:=List.eq_nil_of_length_eq_zero (by simpa using h2);exact .nil _
 | a::l, [],cs,_,h1,_,_=>by simp at h1
 | a ::l,Li::Ls,cs,hw,h1,h2,h=>by
   have h0:=h 0 Li a rfl rfl;rw[Nat.zero_mul,List.drop_zero] at h0
   have hr:=AO l Ls (cs.drop (GoD.n α)) (fun x hx=>hw x (List.mem_cons_of_mem _ hx)) (by simpa using h1) (by rw[List.length_drop,h2,List.length_cons,Nat.add_mul,Nat.one_mul];omega) fun i Lj x hi hx=>by
    have:=h (i+1) Lj x (by simpa using hi) (by simpa using hx);rw[Nat.add_mul,Nat.one_mul,Nat.add_comm,←List.drop_drop] at this;exact this
   rw[←List.take_append_drop (GoD.n α) cs];exact .cons (GoE.own_oc h0 (hw a List.mem_cons_self)) (GoE.enc_len a) hr
theorem AP {w:World}:∀(l:List α) (L:List Nat) (cs:List Value),OR w (GoD.n α) L cs (eL l)->L.Nodup->∃Ls:List (List Nat),L=Ls.flatten/\Ls.length=l.length/\∀i Li a,Ls[i]? =some Li->l[i]? =some a->own Li w ((cs.drop (i*GoD.n α)).take (GoD.n α)) a
 | [],L,cs,h,_=>by cases h;exact ⟨[],rfl,rfl,by simp⟩
 | a :: l,L,cs,h,hn=>by
   cases h with
   | @cons _ L1 L2 ce cs' _ _ h1 h2 h3=>
     obtain ⟨n1,n2,_⟩:=List.nodup_append.1 hn;obtain ⟨Ls,rfl,e2,e3⟩:=AP l L2 cs' h3 n2;have hce:ce.length=GoD.n α:=by rw[h1.length,GoE.enc_len]
     refine ⟨L1::Ls,rfl,by simp[e2],fun i Li x hi hx=> ?_⟩;cases i with
     | zero=>
       simp at hi hx;subst hi hx;rw[Nat.zero_mul,List.drop_zero,←hce,List.take_left];exact GoE.oc_own h1 n1
     | succ i=>
       have:=e3 i Li x (by simpa using hi) (by simpa using hx);rw[Nat.add_mul,Nat.one_mul,Nat.add_comm,←List.drop_drop,←hce,List.drop_left,hce];exact this
def OP (l:List α):Prop:=l.length<=1073741824/\∀a,a∈l->wide a
theorem Qcx {w:World} {v:Value} {l:List α} (h:rdS w [v] l) (hw:OP l):VV (fun b=>b<w.heap.size) w v (.slc (GoD.n α) (eL l)):=by
 obtain ⟨oa,cap,e,hl,hm,hel⟩:=h;obtain rfl:v=_:=by simpa using e
 cases hlc:l with
 | nil=>exact .emp oa _ hm
 | cons a l'=>
   obtain ⟨b,off,ce0,hoa,hc0,hcell,hrd0⟩:=hel 0 a (by rw[hlc];rfl);subst hoa
   obtain ⟨cs,h1,h2⟩:=GB (X:=fun b=>b<w.heap.size) (w:=w) (b:=b) (off:=off) l fun i x hx=>by
    obtain ⟨b',off',ce,e',k1,k2,k3⟩:=hel i x hx;obtain ⟨rfl,rfl⟩:b=b'/\off=off':=by simpa using e'
    exact ⟨ce,k1,k2,GoE.rd_vc k3 (hw.2 x (List.mem_of_getElem? hx))⟩
   rw[←hlc,←Yv (l:=l)];refine .slc ?_ h1 h2 (by rw[Yv];exact hl) ⟨hm,by rw[Yv];exact hw.1⟩;have hnp:=GoE.n_pos (α:=α);have:=hcell 0 ce0[0] (List.getElem?_eq_getElem (by omega));exact World.block_lt_of_cell? _ _ this
theorem SM {X:Nat->Prop} {w:World} {v:Value} {l:List α} (h:VV X w v (.slc (GoD.n α) (eL l))):rdS w [v] l:=by
 generalize hp:PV.slc (GoD.n α) (eL l)=p at h;cases h with
 | int | bool | str | any | raw=>cases hp
 | @emp oa cap n hcap=>
   simp only[PV.slc.injEq] at hp
   have:l= []:=by
    cases l with
    | nil=>rfl
    | cons a l=>simp[eL] at hp
   subst this;exact ⟨oa,cap,rfl,Nat.zero_le _,hcap,by simp⟩
 | @slc b off cap n cs l' hb hc hr h1 h2=>
   simp only[PV.slc.injEq] at hp;obtain ⟨rfl,rfl⟩:=hp;refine ⟨_,cap,by rw[Yv],by simpa [Yv] using h1,h2.1,fun i a hi=>⟨b,off,(cs.drop (i*GoD.n α)).take (GoD.n α),rfl, ?_, ?_, ?_⟩⟩
   . exact (hr.get (GA hi)).1.length.trans (GoE.enc_len a)
   . exact Hh (Uk hc)
   exact GoE.vc_rd (hr.get (GA hi)).1
theorem GC {L:List Nat} {w:World} {v:Value} {l:List α} (h:Qcl L w [v] l) (hw:OP l):OV w L v (.slc (GoD.n α) (eL l)):=by
 obtain ⟨hnd,⟨rfl,rfl,oa,e⟩ | ⟨g,cap,cur,e,Ls,hv,hg,hl,hm,hs,rfl,hLs,hel⟩⟩:=h
 . obtain rfl:v=_:=by simpa using e
   exact .emp oa _
 obtain rfl:v=_:=by simpa using hv
 rw[←Yv (l:=l)];refine .slc hg hs ?_ (by simpa [Yv] using hl) ⟨hm,by rw[Yv];exact hw.1⟩;have hroom:l.length*GoD.n α<=cur.size:=by rw[hs];exact Nat.mul_le_mul_right _ hl
 refine AO l Ls _ hw.2 hLs (by simp[Yv];omega) fun i Li a hi ha=> ?_
 have hlt:i<l.length:=(List.getElem?_eq_some_iff.1 ha).1;have:=hel i Li a hi ha
 rw[List.drop_take,List.take_take,Yv,Nat.min_eq_left (by
  have:=Nat.mul_le_mul_right (GoD.n α) (show i+1<=l.length by omega);rw[Nat.add_mul,Nat.one_mul] at this;omega)]
 exact this
theorem Qap {L:List Nat} {w:World} {v:Value} {l:List α} (h:OV w L v (.slc (GoD.n α) (eL l))) (hn:L.Nodup):Qcl L w [v] l:=by
 generalize hp:PV.slc (GoD.n α) (eL l)=p at h;cases h with
 | int | bool | str | any | raw=>cases hp
 | emp oa n=>
   simp only[PV.slc.injEq] at hp
   have:l= []:=by
    cases l with
    | nil=>rfl
    | cons a l=>simp[eL] at hp
   subst this;exact ⟨by simp, .inl ⟨rfl,rfl,oa,rfl⟩⟩
 | @slc g cap n cur e L l' hg hs hr h1 h2=>
   simp only[PV.slc.injEq] at hp;obtain ⟨rfl,rfl⟩:=hp;obtain ⟨Ls,rfl,e2,e3⟩:=AP l L _ hr (List.nodup_cons.1 hn).2;refine ⟨hn, .inr ⟨g,cap,cur,e,Ls,by rw[Yv],hg,by simpa [Yv] using h1,h2.1,hs,rfl,e2,fun i Li a hi ha=> ?_⟩⟩;have hlt:i<l.length:=(List.getElem?_eq_some_iff.1 ha).1;have:=e3 i Li a hi ha
   rw[List.drop_take,List.take_take,Yv,Nat.min_eq_left (by
    have:=Nat.mul_le_mul_right (GoD.n α) (show i+1<=l.length by omega);rw[Nat.add_mul,Nat.one_mul] at this;omega)] at this
   exact this
theorem ZZ {X:Nat->Prop} {w:World}:∀{l:List α} {cs:List Value},VR X w (GoD.n α) cs (eL l)->∀a,a∈l->wide a
 | [],_,_,a,ha=>by simp at ha
 | x ::l,cs,h,a,ha=>by
   cases h with
   | cons h1 h2 h3=>
     rcases List.mem_cons.1 ha with rfl | ha
     . exact GoE.vc_wide h1
     exact ZZ h3 a ha
theorem G4 {X:Nat->Prop} {w:World} {v:Value} {l:List α} (h:VV X w v (.slc (GoD.n α) (eL l))):OP l:=by
 generalize hp:PV.slc (GoD.n α) (eL l)=p at h;cases h with
 | int | bool | str | any | raw=>cases hp
 | emp oa n hcap=>
   simp only[PV.slc.injEq] at hp
   have:l= []:=by
    cases l with
    | nil=>rfl
    | cons a l=>simp[eL] at hp
   subst this;exact ⟨Nat.zero_le _,by simp⟩
 | @slc b off cap n cs l' hb hc hr h1 h2=>
   simp only[PV.slc.injEq] at hp;obtain ⟨rfl,rfl⟩:=hp;exact ⟨by have:=h2.2;rwa [Yv] at this,ZZ hr⟩
end
theorem VC.one {X:Nat->Prop} {w:World} {v:Value} {p:PV} (h:VC X w [v] [p]):VV X w v p:=by cases h;assumption
theorem OC.one {w:World} {L:List Nat} {v:Value} {p:PV} (h:OC w L [v] [p]):OV w L v p:=by
 generalize hv: [v]=vs at h;generalize hp: [p]=ps at h;cases h with
 | nil=>cases hv
 | cons h1 h2=>
   cases hv
   cases hp
   cases h2
   rw[List.append_nil];exact h1
theorem VC.one' {X:Nat->Prop} {w:World} {vs:List Value} {p:PV} (h:VC X w vs [p]):∃v,vs= [v]/\VV X w v p:=by
 cases h with
 | cons h1 h2=>cases h2;exact ⟨_,rfl,h1⟩
theorem OC.one' {w:World} {L:List Nat} {vs:List Value} {p:PV} (h:OC w L vs [p]):∃v,vs= [v]/\OV w L v p:=by
 obtain ⟨v,e⟩:∃v,vs= [v]:=by
  have:=h.length
  match vs,this with
  | [v],_=>exact ⟨v,rfl⟩
 subst e;exact ⟨v,rfl,h.one⟩
instance instGoEList {α:Type} [GoE α]:GoE (List α) where
 enc l:= [.slc (GoD.n α) (eL l)]
 no_any h:=by rw[List.mem_singleton.1 h];simp
 enc_len _:=rfl
 n_pos:=Nat.zero_lt_one
 wide:=OP
 wide_size h:=⟨Nat.le_trans (QT _) h,fun a ha=>by
  obtain ⟨i,hi⟩:=List.mem_iff_getElem?.1 ha;exact GoE.wide_size (Nat.le_trans (QU hi) h)⟩
 vc_wide hc:=by
  obtain ⟨v,rfl,h⟩:=VC.one' hc;exact G4 h
 rd_vc h hw:=by
  have h:rdS _ _ _:=h;obtain ⟨oa,cap,rfl,_⟩:=id h;exact .cons (Qcx h hw) .nil
 vc_rd hc:=by
  obtain ⟨v,rfl,h⟩:=VC.one' hc;exact SM h
 own_oc h hw:=by
  have h:Qcl _ _ _ _:=h;obtain ⟨oa,cap,rfl,_⟩:=AA h;have:=OC.cons (GC h hw) .nil;rw[List.append_nil] at this;exact this
 oc_own hc hn:=by
  obtain ⟨v,rfl,h⟩:=OC.one' hc;exact Qap h hn
def shC:PV->C:=Sp .sh
def owC:Nat->List PV->List C
 | _, []=> []
 | k, .slc n l::r=> .slc (.own true k) n l::owC (k+1) r
 | k, .int a b::r=> .int a b::owC k r
 | k, .bool b::r=> .bool b::owC k r
 | k, .str b::r=> .str b::owC k r
 | k, .any::r=> .dead::owC k r
 | k, .raw v::r=> .raw v::owC k r
section
variable {X:Nat->Prop} {F:Nat->Prop} {w w':World} {L:Nat->List Nat}
theorem SN {J:Inj}:∀{vs:List Value} {ps:List PV},VC J.F w vs ps->All2 (CR J w) vs (ps.map shC)
 | _,_, .nil=> .nil
 | _,_, .cons h1 h2=> .cons (QV (J:=J) (tok:= .sh) (X:=J.F) (fun _ _ _ h=>h) h1) (SN h2)
theorem Qcy {J:Inj}:∀{ps:List PV} {vs:List Value},All2 (CR J w) vs (ps.map shC)->(∀p,p∈ps->p≠ .any)->VC J.F w vs ps
 | [],vs,h,_=>by cases h;exact .nil
 | p ::ps,vs,h,hz=>by
   cases h with
   | cons h1 h2=>
     refine .cons ?_ (Qcy h2 fun p hp=>hz p (List.mem_cons_of_mem _ hp));cases p with
     | int=>obtain ⟨rfl,h⟩:=h1;exact .int h
     | bool=>obtain rfl:=h1;exact .bool _
     | str=>obtain ⟨rfl,h⟩:=h1;exact .str h
     | slc n l=>exact h1
     | any=>exact (hz _ List.mem_cons_self rfl).elim
     | raw=>obtain ⟨rfl,h1,h2⟩:=h1;exact .raw h1 h2
end
section
variable {α:Type} [GoE α] {P:Program}
def Vs (a:α):AV:= .agg ((enc a).map shC)
def Fw (a:α):AV:= .agg (owC 0 (enc a))
def Qcz (l:List α):AV:= .one (.slc .sh (GoD.n α) (eL l))
def JA (l:List α):AV:= .one (.slc (.own true 0) (GoD.n α) (eL l))
def Qd4 (n:Int):AV:= .one (.int .i64 n)
def Qc0 (b:Bool):AV:= .one (.bool b)
theorem Qaq {w:World} {cs:List Value} {a:α} (h:rd w cs a) (hw:wide a):AR (ZK fun b=>b<w.heap.size) w (.agg cs.toArray) (Vs a):=⟨cs,rfl,SN (J:=ZK fun b=>b<w.heap.size) (GoE.rd_vc h hw)⟩
theorem ACalls.run {f:Nat} {args:List AV} {r:AV} (h:ACalls P f args r) {w:World} [hg:Good P w] {vals:List Value} (hv:All2 (AR (ZK fun b=>b<w.heap.size) w) vals args):Calls P f vals.toArray w (NU (fun b=>b<w.heap.size) w r):=
 h.2 w hg _ vals (fun _ h=>h) hv
theorem OQ {w:World} {F:Nat->Prop} {b:Bool} {e:Ending} {w':World} (h:NU F w (Qc0 b) e w'):Ret w (.bool b) e w':=by
 obtain ⟨v,L,rfl,hb,_,_,_,rfl⟩:=h;exact ⟨rfl,hb⟩
end
end
section
open Go.RowKit
open GoE (enc)
section
variable {A:Nat->List AV->AV->Prop} {T:TakeT}
theorem Cz {P:Program} {w0:Base} [GoodAt P w0] {f:Nat} {args:List AV} {r:AV} (h:ACalls P f args r):(Ob.call f args r).holds (X9 P w0) T:=h.at
theorem GD {P:Program} {w0:Base} [GoodAt P w0] {f n:Nat} {l:List (List PV)} {args:List AV} {mix turn:Bool} {l':List (List PV)} (h:ATake P f n l args mix turn l'):(Ob.take f n l args mix turn l').holds A (Z8 P w0):=h.at
theorem B3 {P:Program} {w0:Base} [GoodAt P w0] {f:Nat} {cs:List C} {args:List AV} {r:AV} {cs':List C} (h:AGive P f cs args r cs'):(Ob.give f cs args r cs').holds A (Z8 P w0):=h.at
theorem AQ {P:Program} {w0:Base} [GoodAt P w0] {f:Nat} {args:List AV} {r:AV} (h:AVal P f args r):(Ob.val f args r).holds A (Z8 P w0):=h.at
theorem Co {lo hi:Int} {n:Nat} (h:0<=lo/\lo<=hi/\hi<=n):(Ob.rng lo hi n).holds A T:=h
theorem U1 {i:Int} {n:Nat} (h:0<=i/\i<n):(Ob.idx i n).holds A T:=h
theorem G5 {l:List (List PV)} (h:Bj l):(Ob.flat l).holds A T:=h
theorem I4 {n:Nat} (h:n<=1073741824):(Ob.len n).holds A T:=h
theorem Yk {n:Nat} (h:n<=maxLen):(Ob.slen n).holds A T:=h
theorem Qar {n:Int} (h:n≠0):(Ob.nz n).holds A T:=h
theorem GE {k:IntKind} {n:Int} (h:InR k n):(Ob.inr k n).holds A T:=h
end
theorem Q1 (k:Nat) (h:k<9223372036854775807):IntKind.i64.wrap ((k:Int)+1)=((k+1:Nat):Int):=by
 rw[IntWalk.i64_in _ (by omega)];rfl
theorem Yi {α:Type} {l:List α} {i:Nat} (h:i<l.length):∃x,l[i]? =some x:=⟨l[i],List.getElem?_eq_getElem h⟩
class FlatE (α:Type) [GoE α]:Prop where
 flat:∀a:α,∀p,p∈enc a->p.flat
instance:FlatE Int:=⟨fun a p hp=>by obtain rfl:=List.mem_singleton.1 hp;trivial⟩
instance:FlatE Bool:=⟨fun a p hp=>by obtain rfl:=List.mem_singleton.1 hp;trivial⟩
instance:FlatE ByteArray:=⟨fun a p hp=>by obtain rfl:=List.mem_singleton.1 hp;trivial⟩
instance {α β:Type} [GoE α] [GoE β] [FlatE α] [FlatE β]:FlatE (α×β):=⟨fun a p hp=>(List.mem_append.1 hp).elim (FlatE.flat a.1 p) (FlatE.flat a.2 p)⟩
theorem E3 {α:Type} [GoE α] [FlatE α] (l:List α):Bj (eL l):=fun r hr p hp=>by
 obtain ⟨a,_,rfl⟩:=List.mem_map.1 hr;exact FlatE.flat a p hp
theorem Tn {α β:Type} [GoD α] [GoD β] {p:α×β} {N:Nat} (hs:GoD.size p<=N):GoD.size p.1<=N:=Nat.le_trans (Nat.le_add_right _ _) hs
theorem To {α β:Type} [GoD α] [GoD β] {p:α×β} {N:Nat} (hs:GoD.size p<=N):GoD.size p.2<=N:=Nat.le_trans (Nat.le_add_left _ _) hs
section
variable {P:Program} {α β:Type} [GoE α] [GoE β]
theorem Dy {f:Nat} (hok:Bu P f) {l:List α} {r:List β} (h:∀w v,GoD.rd w [v] l->GoE.wide l->Calls P f #[v] w (RetS w r)) (hw:GoE.wide l->GoE.wide r):ACalls P f [Qcz l] (JA r):=by
 refine ⟨hok,fun w _ F vals hF hall=> ?_⟩;cases hall with
 | cons h1 h2=>
   cases h2
   refine (h w _ (SM h1) (G4 h1)).mono ?_
   rintro e w' ⟨v,L,rfl,hb,ho,hL⟩
   have hlt:=GoD.own_lt ho
   have hmem:∀k b,b∈(if k=0 then L else [])->k=0/\b∈L:=fun k b hm=>by
    by_cases hk:k=0
    . rw[if_pos hk] at hm;exact ⟨hk,hm⟩
    rw[if_neg hk] at hm;simp at hm
   refine ⟨v,fun k=>if k=0 then L else [],rfl,hb,fun k=> ?_,fun k b hm=>⟨hL b (hmem k b hm).2,hlt b (hmem k b hm).2⟩,fun k k' b hm hm'=>(hmem k b hm).1.trans (hmem k' b hm').1.symm,OwnDeep.of (GC ho (hw (G4 h1))) (GoD.own_nd ho)⟩;by_cases hk:k=0
   . simp only[if_pos hk];exact GoD.own_nd ho
   simp only[if_neg hk];exact List.nodup_nil
end
theorem UA {P:Program} {N:Nat} {w0:Base} {F0:Nat->Prop} {Q:Exit->St->Prop} {s s':St} {c:Code} (l:List Nat) (he:s.demotes l=s') (h:AWP P N w0 F0 c Q s'):AWP P N w0 F0 c Q s:=Au (he▸E0 l s) h
theorem Jx {α:Type} [GoE α] {o:Nat} {ps:List PV} {y:α}:∀{l:List α} {i:Nat} {x:α},l[i]? =some x->(GoE.enc x).take o++ps++(GoE.enc x).drop (o+ps.length)=GoE.enc y->setRow (eL l) i o ps=eL (l.set i y)
 | [],i,x,h,_=>by simp at h
 | a::l,0,x,h,e=>by
   obtain rfl:a=x:=by simpa using h
   show ((GoE.enc a).take o++ps++(GoE.enc a).drop (o+ps.length))::eL l=_;rw[e];rfl
 | a::l,i+1,x,h,e=>by
   show GoE.enc a::setRow (eL l) i o ps=_;rw[Jx (l:=l) (i:=i) (x:=x) (by simpa using h) e];rfl
end
section
open Go.RowKit
def Dd:List Operand->List Nat
 | []=> []
 | .tmp t::r=>t::Dd r
 | _::r=>Dd r
def XJ (ops:List Oper) (o:Oper):List Nat:=
 Dd o.op.operands.toList++(match o.guard with
  | some (j,_)=>(match ops[j]? with
    | some oj=>(match oj.dst with
      | some t=> [t]
      | none=> [])
    | none=> [])
  | none=> [])
def Ke:List (Nat×Option Tok)->List Nat
 | []=> []
 | p::r=>p.1::Ke r
def WC:List (Nat×Option Tok)->List Tok
 | []=> []
 | (_,some t)::r=>t::WC r
 | _::r=>WC r
def XK:Tok->Tok->Bool
 | .sh, .sh=>true
 | .emp, .emp=>true
 | .own d k, .own d' k'=>(match d,d' with
   | true,true=>true
   | false,false=>true
   | _,_=>false)&&Nat.beq k k'
 | .vw k, .vw k'=>Nat.beq k k'
 | _,_=>false
def Nv:Tok->Bool
 | .put _ _ _ _ _=>false
 | _=>true
def Eo:List (Nat×Option Tok)->Bool
 | []=>true
 | (_,some t)::r=>Nv t&&Eo r
 | (_,none)::r=>Eo r
def Rc (t:Tok):List Tok->Bool
 | []=>false
 | x::r=>XK x t|| Rc t r
def CU (r:Res) (c:C):Bool:=
 (match c.key with
  | some k=> !(C9 k (Ke r.rl))
  | none=>true)&&(match r.kb with
  | some b=> !(C9 b c.bkeys)
  | none=>true)
def Qas (r:Res) (c:C):Bool:=
 Eo r.rl&&match c with
 | .dead=>false
 | .slc t _ _=> !(Rc t (WC r.rl))
 | .rptr t _=> !(Rc t (WC r.rl))
 | _=>true
def SO (r:Res):Bool:=match r.rl,r.kb with
 | [],none=>true
 | _,_=>false
def NI (r:Res) (c:C):Bool:=SO r|| Qas r c
def C0:List (Nat×List C)->List C
 | []=> []
 | p::r=>p.2++C0 r
def E4:List Tok->List Nat
 | []=> []
 | t::r=>(match t.key with
   | some k=> [k]
   | none=> [])++E4 r
def CV (a b:Option Nat):Bool:=match a,b with
 | some x,some y=> !(Nat.beq x y)
 | _,_=>true
def Av (a:Option Nat) (l:List Nat):Bool:=match a with
 | some x=> !(C9 x l)
 | none=>true
def E5 (r:Res):Option Nat:=match r.bx with
 | some p=>some p.1
 | none=>none
def XL (r:Res):List C:=match r.bx with
 | some p=>p.2
 | none=> []
def GF (ops:List Oper) (oa:Oper) (ra:Rec) (ob:Oper) (rb:Rec):Bool:=
 CV oa.dst ob.dst&&Av oa.dst (XJ ops ob)&&Av ob.dst (XJ ops oa)&&
 Vm (NI ra.res) (X5 rb.avs)&&Vm (NI ra.res) (C0 rb.bn)&&Vm (CU rb.res) (X5 ra.avs)&&Vm (CU rb.res) (C0 ra.bn)&&
 Vm (CU ra.res) rb.res.av.cells&&Vm (CU ra.res) (XL rb.res)&&Vm (CU rb.res) ra.res.av.cells&&Vm (CU rb.res) (XL ra.res)&&
 Ex (Ke ra.res.rl) (Ke rb.res.rl++E4 (WC rb.res.rl))&&Ex (Ke rb.res.rl) (E4 (WC ra.res.rl))&&
 CV (E5 ra.res) (E5 rb.res)&&Av (E5 ra.res) (Ez (X5 rb.avs))&&Av (E5 rb.res) (Ez (X5 ra.avs))&&Eo ra.res.rl&&Eo rb.res.rl
section
theorem AV.map_map (f g:C->C) (v:AV):(v.map f).map g=v.map (g ∘ f):=by
 cases v<;>simp[AV.map,Function.comp_def]
theorem AV.map_id' {f:C->C} {v:AV} (h:∀c,c∈v.cells->f c=c):v.map f=v:=by
 cases v with
 | one c=>simp[AV.map,h c (by simp[AV.cells])]
 | agg cs=>
   simp only[AV.map]
   congr 1
   exact (List.map_congr_left fun c hc=>h c hc).trans (List.map_id' cs)
 | tup l=>
   simp only[AV.map]
   congr 1
   refine (List.map_congr_left fun p hp=> ?_).trans (List.map_id' l);obtain ⟨a,cs⟩:=p;have:cs.map f=cs:=(List.map_congr_left fun c hc=>h c (by simp only[AV.cells,List.mem_flatMap];exact ⟨_,hp,hc⟩)).trans (List.map_id' cs);simp[this]
theorem AV.map_inj' {f:C->C} {v u:AV} (h:v.map f=u) (hn:∀c0 c,f c0=c->c∈u.cells->c0=c):v=u:=by
 have key:∀(l m:List C),l.map f=m->(∀c,c∈m->c∈u.cells)->l=m:=by
  intro l
  induction l with
  | nil=>intro m h _;exact h
  | cons c l ih=>
    intro m h hm;cases m with
    | nil=>cases h
    | cons d m=>
      simp only[List.map_cons,List.cons.injEq] at h;rw[hn c d h.1 (hm d (by simp)),ih m h.2 fun c hc=>hm c (by simp[hc])]
 cases v with
 | one c=>
   simp only[AV.map] at h;subst h;exact congrArg AV.one (hn c _ rfl (by simp[AV.cells]))
 | agg cs=>
   simp only[AV.map] at h;subst h;exact congrArg AV.agg (key cs _ rfl fun c hc=>hc)
 | tup l=>
   simp only[AV.map] at h;subst h
   congr 1
   have :∀(ps:List (Bool×List C)),(∀p,p∈ps->p∈l)->ps=ps.map fun p=>(p.1,p.2.map f):=by
    intro ps
    induction ps with
    | nil=>intro _;rfl
    | cons p ps ih=>
      intro hp;obtain ⟨a,cs⟩:=p;simp only[List.map_cons];rw[←ih fun p hq=>hp p (by simp[hq])]
      congr 2
      exact key cs _ rfl fun c hc=>by
       simp only[AV.cells,List.mem_flatMap,List.mem_map];exact ⟨(a,cs.map f),⟨(a,cs),hp _ (by simp),rfl⟩,hc⟩
   exact this l fun p hp=>hp
theorem Hi {rl:List (Nat×Option Tok)} {k:Nat}:k∉Ke rl->get rl k=none:=by
 induction rl with
 | nil=>intro _;rfl
 | cons p r ih=>
   intro h;simp only[Ke,List.mem_cons,not_or] at h;obtain ⟨a,b⟩:=p;simp only[get];rw[if_neg fun e=>h.1 e.symm];exact ih h.2
theorem Oq {rl:List (Nat×Option Tok)} {k:Nat} {t:Tok}:get rl k=some (some t)->t∈WC rl/\k∈Ke rl:=by
 induction rl with
 | nil=>intro h;cases h
 | cons p r ih=>
   intro h;obtain ⟨a,b⟩:=p;simp only[get] at h;split at h
   . rename_i e;obtain rfl:=Option.some.inj h;exact ⟨by simp[WC],by simp[Ke,e]⟩
   obtain ⟨h1,h2⟩:=ih h;refine ⟨?_,by simp[Ke,h2]⟩;cases b<;>simp[WC,h1]
theorem JB (t:Tok) (ht:Nv t=true):XK t t=true:=by
 cases t with
 | own d k=>cases d<;>simp[XK]
 | put=>cases ht
 | _=>simp[XK]
theorem Mv {t:Tok} (ht:Nv t=true):∀{l:List Tok},t∈l->Rc t l=true
 | x::r,h=>by
   rcases List.mem_cons.1 h with rfl | h
   . simp[Rc,JB t ht]
   simp[Rc,Mv ht h]
theorem E6 {rl:List (Nat×Option Tok)} {k:Nat} {t:Tok} (hp:Eo rl=true):get rl k=some (some t)->Nv t=true:=by
 induction rl with
 | nil=>intro h;cases h
 | cons p r ih=>
   intro h;obtain ⟨a,b⟩:=p
   have hr:Eo r=true/\(∀t,b=some t->Nv t=true):=by
    cases b with
    | none=>exact ⟨hp,fun t e=>by cases e⟩
    | some t=>simp only[Eo,Bool.and_eq_true] at hp;exact ⟨hp.2,fun t' e=>by cases e;exact hp.1⟩
   simp only[get] at h;split at h
   . exact hr.2 t (Option.some.inj h)
   exact ih hr.1 h
theorem Re (t:Tok) (n:Nat) (l:List (List PV)):Pk t n l t= .slc t n l:=by cases t<;>rfl
theorem Tp (t:Tok) (cs:List PV):WF t cs t= .rptr t cs:=by cases t<;>rfl
theorem CW {t':Tok} (h:Nv t'=true) (t:Tok) (n:Nat) (l:List (List PV)):Pk t n l t'= .slc t' n l:=by cases t'<;>first | rfl | cases h
theorem GG {t':Tok} (h:Nv t'=true) (t:Tok) (cs:List PV):WF t cs t'= .rptr t' cs:=by cases t'<;>first | rfl | cases h
theorem Tq {rl:List (Nat×Option Tok)} (hp:Eo rl=true) {t t':Tok} (h:A7 rl t=some t'):t'=t\/Nv t'=true:=by
 unfold A7 at h;split at h
 . exact .inl (Option.some.inj h).symm
 split at h
 . exact .inl (Option.some.inj h).symm
 rename_i x hg;subst h;exact .inr (E6 hp hg)
theorem Mw {rl:List (Nat×Option Tok)} (hp:Eo rl=true) {t t':Tok} (h:A7 rl t=some t') (n:Nat) (l:List (List PV)):Pk t n l t'= .slc t' n l:=by
 rcases Tq hp h with rfl | h
 . exact Re _ n l
 exact CW h t n l
theorem Rf {rl:List (Nat×Option Tok)} (hp:Eo rl=true) {t t':Tok} (h:A7 rl t=some t') (cs:List PV):WF t cs t'= .rptr t' cs:=by
 rcases Tq hp h with rfl | h
 . exact Tp _ cs
 exact GG h t cs
theorem Mx {t:Tok} {k:Nat} (hk:t.key=some k):∀{l:List Tok},t∈l->k∈E4 l
 | x::r,h=>by
   simp only[E4];rcases List.mem_cons.1 h with rfl | h
   . exact List.mem_append_left _ (by rw[hk];simp)
   exact List.mem_append_right _ (Mx hk h)
theorem Uo {k:Nat} {l:List Nat} (h:C9 k l=false):k∉l:=fun hm=>by rw[Ul.2 hm] at h;cases h
theorem Tr {b:Nat}:∀{caps:List (Nat×Nat)},b∉caps.map (·.1)->C8 b caps=false
 | [],_=>rfl
 | c::r,h=>by
   simp only[List.map_cons,List.mem_cons,not_or] at h;simp only[C8,Bool.or_eq_false_iff];exact ⟨Tg fun e=>h.1 e.symm,Tr h.2⟩
theorem GH {r:Res} {c:C} (h:CU r c=true):Jq r.rl r.kb c=c:=by
 simp only[CU,Bool.and_eq_true] at h;obtain ⟨h1,h2⟩:=h
 have hT:∀t:Tok,(match t.key with | some k=> !(C9 k (Ke r.rl)) | none=>true)=true->A7 r.rl t=some t:=by
  intro t ht;unfold A7;cases hk:t.key with
  | none=>rfl
  | some k=>
    rw[hk] at ht;simp only[Bool.not_eq_true'] at ht;simp only[Hi (Uo ht)]
 cases c with
 | slc t n l=>simp only[Jq,hT t h1,Re]
 | rptr t cs=>simp only[Jq,hT t h1,Tp]
 | ept d k n i o cs=>
   have hk:get r.rl k=none:=Hi (Uo (by simpa [C.key] using h1));simp only[Jq,hk]
 | ptr k off=>
   cases hb:r.kb with
   | none=>rfl
   | some b=>
     rw[hb] at h2;simp only[Bool.not_eq_true',C.bkeys] at h2;have:=Uo h2;simp only[Jq,Tg (a:=k) (b:=b) fun e=>this (by simp[e]),cond_false]
 | fn f caps=>
   cases hb:r.kb with
   | none=>rfl
   | some b=>
     rw[hb] at h2;simp only[Bool.not_eq_true',C.bkeys] at h2;simp only[Jq,Tr (Uo h2),cond_false]
 | _=>rfl
theorem OS {r:Res} {c0 c:C} (h:Jq r.rl r.kb c0=c) (hn:Qas r c=true):c0=c:=by
 simp only[Qas,Bool.and_eq_true] at hn;obtain ⟨hp,hn⟩:=hn
 have hT:∀t t':Tok,A7 r.rl t=some t'->Rc t' (WC r.rl)=false->t=t':=by
  intro t t' ht hm;unfold A7 at ht;cases hk:t.key with
  | none=>rw[hk] at ht;exact Option.some.inj ht
  | some k=>
    rw[hk] at ht;simp only[] at ht;cases hg:get r.rl k with
    | none=>rw[hg] at ht;exact Option.some.inj ht
    | some x=>
      rw[hg] at ht;simp only[] at ht;subst ht;rw[Mv (E6 hp hg) (Oq hg).1] at hm;cases hm
 cases c0 with
 | slc t n l=>
   simp only[Jq] at h;split at h
   . rename_i t' ht;rw[Mw hp ht] at h;subst h;simp only[Bool.not_eq_true'] at hn;rw[hT t t' ht hn]
   subst h;cases hn
 | rptr t cs=>
   simp only[Jq] at h;split at h
   . rename_i t' ht;rw[Rf hp ht] at h;subst h;simp only[Bool.not_eq_true'] at hn;rw[hT t t' ht hn]
   subst h;cases hn
 | ept d k n i o cs=>
   simp only[Jq] at h;split at h
   . exact h
   . rename_i t' hg;have hm:=Mv (E6 hp hg) (Oq hg).1;split at h
     . subst h;simp[hm] at hn
     . subst h;simp[hm] at hn
     . cases E6 hp hg
     subst h;cases hn
   subst h;cases hn
 | ptr k off=>
   simp only[Jq] at h;split at h
   . exact h
   rename_i b hb;cases hkb:Nat.beq k b with
   | true=>rw[hkb] at h;subst h;cases hn
   | false=>rw[hkb] at h;exact h
 | fn f caps=>
   simp only[Jq] at h;split at h
   . exact h
   rename_i b hb;cases hkb:C8 b caps with
   | true=>rw[hkb] at h;subst h;cases hn
   | false=>rw[hkb] at h;exact h
 | _=>exact h
theorem G6:Jq [] none=id:=by
 funext c
 cases c with
 | slc t n l=>cases t<;>rfl
 | rptr t cs=>cases t<;>rfl
 | _=>rfl
theorem GI {r:Res} {c0 c:C} (h:Jq r.rl r.kb c0=c) (hn:NI r c=true):c0=c:=by
 simp only[NI,Bool.or_eq_true] at hn;rcases hn with hq | hn
 . have e:Jq r.rl r.kb=id:=by
    unfold SO at hq;split at hq
    . rename_i e1 e2;rw[e1,e2,G6]
    cases hq
   rw[e] at h;exact h
 exact OS h hn
theorem GJ {ra rb:Res} (h1:Ex (Ke ra.rl) (Ke rb.rl++E4 (WC rb.rl))=true) (h2:Ex (Ke rb.rl) (E4 (WC ra.rl))=true) (p1:Eo ra.rl=true) (p2:Eo rb.rl=true) (c:C):Jq rb.rl rb.kb (Jq ra.rl ra.kb c)=Jq ra.rl ra.kb (Jq rb.rl rb.kb c):=by
 have hT :∀t:Tok,(A7 ra.rl t).bind (A7 rb.rl)=(A7 rb.rl t).bind (A7 ra.rl):=by
  have gen:∀(r r':Res),Ex (Ke r.rl) (Ke r'.rl)=true->Ex (Ke r'.rl) (E4 (WC r.rl))=true->∀(t:Tok) (k:Nat) (x:Option Tok),t.key=some k->get r.rl k=some x->(A7 r.rl t).bind (A7 r'.rl)=(A7 r'.rl t).bind (A7 r.rl):=by
   intro r r' d1 d2 t k x hk hx;have hka:k∈Ke r.rl:=Classical.byContradiction fun hn=>by rw[Hi hn] at hx;cases hx
   have hkb:get r'.rl k=none:=Hi (A0 d1 k hka);have e1:A7 r.rl t=x:=by unfold A7;rw[hk];simp only[hx]
   have e2:A7 r'.rl t=some t:=by unfold A7;rw[hk];simp only[hkb]
   rw[e1,e2];simp only[Option.bind_some,e1];cases x with
   | none=>rfl
   | some t'=>
     simp only[Option.bind_some];unfold A7;cases hk':t'.key with
     | none=>rfl
     | some k'=>
       have hm:=Mx hk' (Oq hx).1;have hn:k'∉Ke r'.rl:=fun h=>A0 d2 k' h hm
       simp only[Hi hn]
  have d11:Ex (Ke ra.rl) (Ke rb.rl)=true:=by
   revert h1;generalize Ke ra.rl=l
   induction l with
   | nil=>intro _;rfl
   | cons x l ih=>
     intro h;simp only[Ex,Bool.and_eq_true,Bool.not_eq_true'] at h⊢;refine ⟨?_,ih h.2⟩;cases hm:C9 x (Ke rb.rl) with
     | false=>rfl
     | true=>exact absurd (List.mem_append_left _ (Ul.1 hm)) (Uo h.1)
  have d12:Ex (Ke ra.rl) (E4 (WC rb.rl))=true:=by
   revert h1;generalize Ke ra.rl=l
   induction l with
   | nil=>intro _;rfl
   | cons x l ih=>
     intro h;simp only[Ex,Bool.and_eq_true,Bool.not_eq_true'] at h⊢;refine ⟨?_,ih h.2⟩;cases hm:C9 x (E4 (WC rb.rl)) with
     | false=>rfl
     | true=>exact absurd (List.mem_append_right _ (Ul.1 hm)) (Uo h.1)
  have d21:Ex (Ke rb.rl) (Ke ra.rl)=true:=by
   have hx:∀x,x∈Ke rb.rl->x∉Ke ra.rl:=fun x hb ha=>A0 d11 x ha hb
   revert hx;generalize Ke rb.rl=l
   induction l with
   | nil=>intro _;rfl
   | cons x l ih=>
     intro hx;simp only[Ex,Bool.and_eq_true,Bool.not_eq_true'];refine ⟨?_,ih fun y hy=>hx y (by simp[hy])⟩;cases hm:C9 x (Ke ra.rl) with
     | false=>rfl
     | true=>exact absurd (Ul.1 hm) (hx x (by simp))
  intro t;cases hk:t.key with
  | none=>
    have e1:A7 ra.rl t=some t:=by unfold A7;rw[hk]
    have e2:A7 rb.rl t=some t:=by unfold A7;rw[hk]
    rw[e1,e2];simp[e1,e2]
  | some k=>
    cases ha:get ra.rl k with
    | some x=>exact gen ra rb d11 h2 t k x hk ha
    | none=>
      cases hb:get rb.rl k with
      | some x=>exact (gen rb ra d21 d12 t k x hk hb).symm
      | none=>
        have e1:A7 ra.rl t=some t:=by unfold A7;rw[hk];simp only[ha]
        have e2:A7 rb.rl t=some t:=by unfold A7;rw[hk];simp only[hb]
        rw[e1,e2];simp[e1,e2]
 have hs:∀(x y:List (Nat×Option Tok)),Eo x=true->Eo y=true->∀(kx ky:Option Nat) (t:Tok) (n:Nat) (l:List (List PV)),Jq y ky (Jq x kx (.slc t n l))=(match (A7 x t).bind (A7 y) with | some t'=> .slc t' n l | none=> .dead):=by
  intro x y px py kx ky t n l;simp only[Jq];cases hx:A7 x t with
  | none=>rfl
  | some t'=>
    simp only[Mw px hx,Option.bind_some];cases hy:A7 y t' with
    | none=>simp only[hy]
    | some t2=>simp only[hy,Mw py hy]
 have hp:∀(x y:List (Nat×Option Tok)),Eo x=true->Eo y=true->∀(kx ky:Option Nat) (t:Tok) (cs:List PV),Jq y ky (Jq x kx (.rptr t cs))=(match (A7 x t).bind (A7 y) with | some t'=> .rptr t' cs | none=> .dead):=by
  intro x y px py kx ky t cs;simp only[Jq];cases hx:A7 x t with
  | none=>rfl
  | some t'=>
    simp only[Rf px hx,Option.bind_some];cases hy:A7 y t' with
    | none=>simp only[hy]
    | some t2=>simp only[hy,Rf py hy]
 have he :∀(r r':Res),Eo r.rl=true->(∀x,x∈Ke r'.rl->x∉E4 (WC r.rl))->∀(d:Bool) (k n i o:Nat) (cs:List PV),get r'.rl k=none->Jq r'.rl r'.kb (Jq r.rl r.kb (.ept d k n i o cs))=Jq r.rl r.kb (Jq r'.rl r'.kb (.ept d k n i o cs)):=by
  intro r r' hnp dd d k n i o cs hg;have e1:Jq r'.rl r'.kb (.ept d k n i o cs)= .ept d k n i o cs:=by simp only[Jq,hg]
  rw[e1];have key:∀y,Jq r.rl r.kb (.ept d k n i o cs)=y->Jq r'.rl r'.kb y=y->Jq r'.rl r'.kb (Jq r.rl r.kb (.ept d k n i o cs))=Jq r.rl r.kb (.ept d k n i o cs):=fun y h1 h2=>by rw[h1,h2]
  cases hx:get r.rl k with
  | none=>exact key _ (by simp only[Jq,hx]) e1
  | some x=>
    cases x with
    | none=>exact key .dead (by simp only[Jq,hx]) rfl
    | some t'=>
      cases t' with
      | sh=>exact key (.rptr .sh cs) (by simp only[Jq,hx]) rfl
      | vw k'=>
        have hm:=Mx (t:= .vw k') rfl (Oq hx).1;have hn:get r'.rl k'=none:=Hi fun h=>dd k' h hm
        exact key (.rptr (.vw k') cs) (by simp only[Jq,hx]) (by simp only[Jq,A7,Tok.key,hn,WF])
      | put=>cases E6 hnp hx
      | emp | own=>exact key .dead (by simp only[Jq,hx]) rfl
 cases c with
 | slc t n l=>rw[hs _ _ p1 p2,hs _ _ p2 p1,hT]
 | rptr t cs=>rw[hp _ _ p1 p2,hp _ _ p2 p1,hT]
 | ept d k n i o cs=>
   cases hg:get rb.rl k with
   | none=>exact he ra rb p1 (fun x hx=>A0 h2 x hx) d k n i o cs hg
   | some x=>
     have hkb:k∈Ke rb.rl:=Classical.byContradiction fun hn=>by rw[Hi hn] at hg;cases hg
     have hga:get ra.rl k=none:=Hi fun ha=>A0 h1 k ha (List.mem_append_left _ hkb)
     exact (he rb ra p2 (fun x hx hm=>A0 h1 x hx (List.mem_append_right _ hm)) d k n i o cs hga).symm
 | ptr k off=>
   cases ra.kb with
   | none=>cases rb.kb with
     | none=>rfl
     | some y=>simp only[Jq];cases h1:Nat.beq k y<;>simp[Jq]
   | some x=>
     cases rb.kb with
     | none=>simp only[Jq];cases h1:Nat.beq k x<;>simp[Jq]
     | some y=>simp only[Jq];cases h1:Nat.beq k x<;>cases h2:Nat.beq k y<;>simp[Jq,h1,h2]
 | fn f caps=>
   cases ra.kb with
   | none=>cases rb.kb with
     | none=>rfl
     | some y=>simp only[Jq];cases h1:C8 y caps<;>simp[Jq]
   | some x=>
     cases rb.kb with
     | none=>simp only[Jq];cases h1:C8 x caps<;>simp[Jq]
     | some y=>simp only[Jq];cases h1:C8 x caps<;>cases h2:C8 y caps<;>simp[Jq,h1,h2]
 | _=>rfl
def M (r:Res) (v:AV):AV:=v.map (Jq r.rl r.kb)
def ML (r:Res) (l:List C):List C:=l.map (Jq r.rl r.kb)
theorem Ha (s:St) (dst:Option Nat) (r:Res) (t:Nat):get (s.step dst r).tm t=if dst=some t then some r.av else (get s.tm t).map (M r):=by
 have h:get (match r.rl,r.kb with | [],none=>s | rl,kb=>s.map (Jq rl kb)).tm t=(get s.tm t).map (M r):=by
  unfold M;split
  . rename_i e1 e2;rw[e1,e2,G6];cases get s.tm t with
    | none=>rfl
    | some v=>rw[Option.map_some,AV.map_id' (f:=id) fun c _=>rfl]
  simp only[St.map,Ho (AV.map _)]
 cases dst with
 | none=>simp only[St.step];rw[if_neg (by simp)];exact h
 | some d=>
   simp only[St.step,Mk,Option.some.injEq];split
   . rfl
   exact h
theorem Dz (s:St) (dst:Option Nat) (r:Res) (k:Nat):get (s.step dst r).bx k=if E5 r=some k then some (XL r) else (get s.bx k).map (ML r):=by
 have h:get (match r.rl,r.kb with | [],none=>s | rl,kb=>s.map (Jq rl kb)).bx k=(get s.bx k).map (ML r):=by
  unfold ML;split
  . rename_i e1 e2;rw[e1,e2,G6];cases get s.bx k<;>simp
  simp only[St.map,Ho (List.map _)]
 unfold E5 XL;simp only[St.step];cases r.bx with
 | none=>simp only[];rw[if_neg (by simp)];exact h
 | some p=>
   obtain ⟨x,y⟩:=p;simp only[Mk,Option.some.injEq];split
   . rfl
   exact h
section
variable {tt:List (Nat×TI)} {N:Nat} {orc:Orc} {ops:List Oper}
structure SameLooks (ops:List Oper) (o:Oper) (s t:St):Prop where
 tm:∀x,x∈XJ ops o->get s.tm x=get t.tm x
 bx:∀vs,Ad s o.op.operands.toList=some vs->∀k,k∈Ez (X5 vs)->get s.bx k=get t.bx k
theorem Ts {s t:St}:∀{xs:List Operand},(∀x,x∈Dd xs->get s.tm x=get t.tm x)->Ad s xs=Ad t xs
 | [],_=>rfl
 | x ::r,h=>by
   have h2:Ad s r=Ad t r:=Ts fun y hy=>h y (by cases x<;>simp[Dd,hy])
   have h1:Pp s x=Pp t x:=by
    cases x with
    | tmp y=>exact h y (by simp[Dd])
    | _=>rfl
   simp only[Ad,h1,h2]
theorem E7 {s t:St}:∀{ks:List Nat},(∀k,k∈ks->get s.bx k=get t.bx k)->Vj s ks=Vj t ks
 | [],_=>rfl
 | k::r,h=>by simp only[Vj,h k (by simp),E7 (ks:=r) fun x hx=>h x (by simp[hx])]
theorem Tt {o:Oper} {s t:St} (h:SameLooks ops o s t):Hq tt N orc ops s o=Hq tt N orc ops t o:=by
 have h1:Ad s o.op.operands.toList=Ad t o.op.operands.toList:=Ts fun x hx=>h.tm x (List.mem_append_left _ hx)
 have h2:Uy ops s o=Uy ops t o:=by
  unfold Uy;cases hg:o.guard with
  | none=>rfl
  | some g=>
    obtain ⟨j,want⟩:=g;simp only[];cases hj:ops[j]? with
    | none=>rfl
    | some oj=>
      simp only[];cases hd:oj.dst with
      | none=>rfl
      | some x=>simp only[h.tm x (List.mem_append_right _ (by simp[hg,hj,hd]))]
 unfold Hq;rw[h2,h1];cases hv:Ad t o.op.operands.toList with
 | none=>rfl
 | some vs=>simp only[E7 (h.bx vs (h1.trans hv))]
theorem G7 {s:St} {k:Nat} {cs:List C}:∀{ks:List Nat},k∈ks->get s.bx k=some cs->∀c,c∈cs->c∈C0 (Vj s ks)
 | x::r,hk,hg,c,hc=>by
   simp only[Vj];rcases List.mem_cons.1 hk with rfl | hk
   . rw[hg];simp[C0,hc]
   have:=G7 hk hg c hc;split
   . simp[C0,this]
   exact this
theorem AS {o:Oper} {s t:St} {ρ:Rec} (hg:Uy ops t o=Uy ops s o) (h:Hq tt N orc ops s o=some ρ)
 (hk:∀vs,ρ.avs=vs->Ad s o.op.operands.toList=some vs->ρ.bn=Vj s (Ez (X5 vs))->Ad t o.op.operands.toList=some vs/\Vj t (Ez (X5 vs))=Vj s (Ez (X5 vs))):Hq tt N orc ops t o=some ρ:=by
 unfold Hq at h⊢;rw[hg];cases hd:Sr N o.dst with
 | false=>rw[hd] at h;cases h
 | true =>
   rw[hd] at h;simp only[cond_true] at h⊢;split at h
   . split at h
     . rename_i vs hvs;split at h
       . rename_i r obs he;obtain rfl:=Option.some.inj h;obtain ⟨h1,h2⟩:=hk vs rfl hvs rfl;simp only[h1,h2,he]
       cases h
     cases h
   . exact h
   cases h
theorem GK {t t':Tok} {n:Nat} {l:List (List PV)} {b:Bool} (h:Pk t n l t'= .bool b):False:=by
 cases t' with
 | put d m i o cs=>
   cases t with
   | own d0 k=>
     simp only[Pk] at h;cases hb:WE d0 d&&Nat.beq n m<;>rw[hb] at h<;>cases h
   | _=>cases h
 | _=>cases h
theorem OT {t t':Tok} {cs:List PV} {b:Bool} (h:WF t cs t'= .bool b):False:=by
 cases t' with
 | put=>cases t<;>cases h
 | _=>cases h
theorem GL {rl:List (Nat×Option Tok)} {kb:Option Nat} {c:C} {b:Bool}:Jq rl kb c= .bool b↔c= .bool b:=by
 constructor
 . intro h;cases c with
   | slc t n l=>
     simp only[Jq] at h;split at h
     . exact (GK h).elim
     cases h
   | rptr t cs=>
     simp only[Jq] at h;split at h
     . exact (OT h).elim
     cases h
   | ept d k n i o cs=>
     simp only[Jq] at h;split at h
     . cases h
     . split at h<;>cases h
     cases h
   | ptr k off=>
     simp only[Jq] at h;split at h
     . cases h
     rename_i x y;cases hk:Nat.beq k y<;>rw[hk] at h<;>cases h
   | fn f caps=>
     simp only[Jq] at h;split at h
     . cases h
     rename_i x y;cases hk:C8 y caps<;>rw[hk] at h<;>cases h
   | _=>exact h
 intro h;subst h;rfl
theorem Tu {o :Oper} {s:St} {dst:Option Nat} {r:Res} (hd:∀x,x∈XJ ops o->dst≠some x):Uy ops (s.step dst r) o=Uy ops s o:=by
 unfold Uy;cases hg:o.guard with
 | none=>rfl
 | some g =>
   obtain ⟨j,want⟩:=g;simp only[];cases hj:ops[j]? with
   | none=>rfl
   | some oj =>
     simp only[];cases hdj:oj.dst with
     | none=>rfl
     | some x =>
       have hx:dst≠some x:=hd x (List.mem_append_right _ (by simp[hg,hj,hdj]));simp only[Ha,if_neg hx];cases hv:get s.tm x with
       | none=>rfl
       | some v=>
         simp only[Option.map_some];cases v with
         | one c=>
           simp only[M,AV.map];cases c with
           | bool b=>rfl
           | _=>
             generalize hc:Jq r.rl r.kb _=c';cases c' with
             | bool b=>exact absurd (GL.1 hc) (by simp)
             | _=>rfl
         | agg cs=>rfl
         | tup l=>cases l<;>rfl
theorem Qeh {r:Res} {v:AV} (h:∀c,c∈v.cells->CU r c=true):M r v=v:=AV.map_id' fun c hc=>GH (h c hc)
theorem Qei {r:Res} {l:List C} (h:∀c,c∈l->CU r c=true):ML r l=l:=(List.map_congr_left fun c hc=>GH (h c hc)).trans (List.map_id' l)
theorem Qfb {r:Res} {v u:AV} (h:M r v=u) (hn:∀c,c∈u.cells->NI r c=true):v=u:=AV.map_inj' h fun _ c hc hm=>GI hc (hn c hm)
theorem Qe0 {r:Res}:∀{l m:List C},ML r l=m->(∀c,c∈m->NI r c=true)->l=m
 | [],m,h,_=>h
 | c ::l,m,h,hn=>by
   cases m with
   | nil=>cases h
   | cons d m=>
     simp only[ML,List.map_cons,List.cons.injEq] at h;rw[GI h.1 (hn d (by simp)),Qe0 (l:=l) h.2 fun c hc=>hn c (by simp[hc])]
theorem D0 {a:Option Nat} {l:List Nat} (h:Av a l=true):∀x,x∈l->a≠some x:=fun x hx e=>by
 subst e;simp only[Av,Bool.not_eq_true'] at h;exact Uo h hx
theorem JC {o:Oper} {x:Nat} (h:x∈Dd o.op.operands.toList):x∈XJ ops o:=List.mem_append_left _ h
theorem OU {o:Oper} {s:St} {dst:Option Nat} {r:Res} {ρ:Rec} (h:Hq tt N orc ops (s.step dst r) o=some ρ) (hd:Av dst (XJ ops o)=true) (h1:Vm (NI r) (X5 ρ.avs)=true) (h2:Vm (NI r) (C0 ρ.bn)=true) (h3:Av (E5 r) (Ez (X5 ρ.avs))=true):Hq tt N orc ops s o=some ρ:=by
 have hd':=D0 hd;refine AS (Tu hd').symm h fun vs hvs hop hbn=> ?_
 subst hvs;rw[hbn] at h2
 have hop':∀(xs:List Operand) (vs:List AV),(∀x,x∈Dd xs->dst≠some x)->(∀c,c∈X5 vs->NI r c=true)->Ad (s.step dst r) xs=some vs->Ad s xs=some vs:=by
  intro xs
  induction xs with
  | nil=>intro vs _ _ h;exact h
  | cons x xs ih=>
    intro vs hx hn h;simp only[Ad] at h⊢;split at h
    . rename_i v vs' e1 e2;obtain rfl:=Option.some.inj h;have hxs:=ih vs' (fun y hy=>hx y (by cases x<;>simp[Dd,hy])) (fun c hc=>hn c (by simp only[X5];exact List.mem_append_right _ hc)) e2
      have h0:Pp s x=some v:=by
       cases x with
       | tmp y=>
         have e1:get (s.step dst r).tm y=some v:=e1;rw[Ha,if_neg (hx y (by simp[Dd]))] at e1;obtain ⟨u,hu,hm⟩:=Option.map_eq_some_iff.1 e1;show get s.tm y=some v;rw[hu,Qfb hm fun c hc=>hn c (by simp only[X5];exact List.mem_append_left _ hc)]
       | _=>exact e1
      simp only[h0,hxs]
    cases h
 have hv:=hop' _ _ (fun x hx=>hd' x (JC hx)) (K6 h1) hop;refine ⟨hv, ?_⟩
 have : ∀ks:List Nat,(∀k,k∈ks->E5 r≠some k)->(∀c,c∈C0 (Vj (s.step dst r) ks)->NI r c=true)->Vj s ks=Vj (s.step dst r) ks:=by
  intro ks
  induction ks with
  | nil=>intro _ _;rfl
  | cons k ks ih=>
    intro hk hn;have e:get (s.step dst r).bx k=(get s.bx k).map (ML r):=by rw[Dz,if_neg (hk k (by simp))]
    have hg:get s.bx k=get (s.step dst r).bx k:=by
     rw[e];cases hc:get s.bx k with
     | none=>rfl
     | some cs=>
       rw[hc] at e;simp only[Option.map_some] at e⊢;exact congrArg some (Qe0 (l:=cs) rfl fun c hc'=>hn c (G7 (by simp) e c hc'))
    simp only[Vj,hg];split
    . rename_i cs hcs;rw[ih (fun x hx=>hk x (by simp[hx])) fun c hc=>hn c (by simp[Vj,hcs,C0,hc])]
    rename_i hcs;exact ih (fun x hx=>hk x (by simp[hx])) fun c hc=>hn c (by simp[Vj,hcs,hc])
 exact this _ (D0 h3) (K6 h2)
theorem Qat {o:Oper} {s:St} {dst:Option Nat} {r:Res} {ρ:Rec} (h:Hq tt N orc ops s o=some ρ) (hd:Av dst (XJ ops o)=true) (h1:Vm (CU r) (X5 ρ.avs)=true) (h2:Vm (CU r) (C0 ρ.bn)=true) (h3:Av (E5 r) (Ez (X5 ρ.avs))=true):Hq tt N orc ops (s.step dst r) o=some ρ:=by
 have hd':=D0 hd;refine AS (Tu hd') h fun vs hvs hop hbn=> ?_
 subst hvs;rw[hbn] at h2
 have hop':∀(xs:List Operand) (vs:List AV),(∀x,x∈Dd xs->dst≠some x)->(∀c,c∈X5 vs->CU r c=true)->Ad s xs=some vs->Ad (s.step dst r) xs=some vs:=by
  intro xs
  induction xs with
  | nil=>intro vs _ _ h;exact h
  | cons x xs ih=>
    intro vs hx hn h;simp only[Ad] at h⊢;split at h
    . rename_i v vs' e1 e2;obtain rfl:=Option.some.inj h;have hxs:=ih vs' (fun y hy=>hx y (by cases x<;>simp[Dd,hy])) (fun c hc=>hn c (by simp only[X5];exact List.mem_append_right _ hc)) e2
      have h0:Pp (s.step dst r) x=some v:=by
       cases x with
       | tmp y=>
         have e1:get s.tm y=some v:=e1;show get (s.step dst r).tm y=some v;rw[Ha,if_neg (hx y (by simp[Dd])),e1,Option.map_some,Qeh fun c hc=>hn c (by simp only[X5];exact List.mem_append_left _ hc)]
       | _=>exact e1
      simp only[h0,hxs]
    cases h
 refine ⟨hop' _ _ (fun x hx=>hd' x (JC hx)) (K6 h1) hop,E7 fun k hk=> ?_⟩;rw[Dz,if_neg (D0 h3 k hk)];cases hc:get s.bx k with
 | none=>rfl
 | some cs=>rw[Option.map_some,Qei fun c hc'=>K6 h2 c (G7 hk hc c hc')]
theorem Cp {a b:Option Nat} (h:CV a b=true):∀x,a=some x->b≠some x:=fun x e e'=>by
 subst e;subst e';simp[CV] at h
theorem Qau {oa ob:Oper} {ra rb:Rec} {s:St} (hap:GF ops oa ra ob rb=true) {orca orcb:Orc} (ha:Hq tt N orca ops s oa=some ra) (hb:Hq tt N orcb ops (s.step oa.dst ra.res) ob=some rb):
 Hq tt N orcb ops s ob=some rb/\Hq tt N orca ops (s.step ob.dst rb.res) oa=some ra/\((s.step oa.dst ra.res).step ob.dst rb.res).eqv ((s.step ob.dst rb.res).step oa.dst ra.res):=by
 simp only[GF,Bool.and_eq_true] at hap;obtain ⟨⟨⟨⟨⟨⟨⟨⟨⟨⟨⟨⟨⟨⟨⟨⟨⟨d1,d2⟩,d3⟩,n1⟩,n2⟩,f1⟩,f2⟩,g1⟩,g2⟩,g3⟩,g4⟩,k1⟩,k2⟩,b1⟩,b2⟩,b3⟩,q1⟩,q2⟩:=hap;have hcomm:=GJ k1 k2 q1 q2;refine ⟨OU hb d2 n1 n2 b2,Qat ha d3 f1 f2 b3,fun t=> ?_,fun k=> ?_⟩
 . simp only[Ha];by_cases ht:ob.dst=some t
   . rw[if_pos ht,if_neg (fun e=>Cp d1 t e ht),if_pos ht,Option.map_some,Qeh (K6 g1)]
   rw[if_neg ht,if_neg ht];by_cases ht':oa.dst=some t
   . rw[if_pos ht',if_pos ht',Option.map_some,Qeh (K6 g3)]
   rw[if_neg ht',if_neg ht'];cases get s.tm t with
   | none=>rfl
   | some v=>
     simp only[Option.map_some,M,AV.map_map]
     congr 2
     funext c
     exact hcomm c
 simp only[Dz];by_cases ht:E5 rb.res=some k
 . rw[if_pos ht,if_neg (fun e=>Cp b1 k e ht),if_pos ht,Option.map_some,Qei (K6 g2)]
 rw[if_neg ht,if_neg ht];by_cases ht':E5 ra.res=some k
 . rw[if_pos ht',if_pos ht',Option.map_some,Qei (K6 g4)]
 rw[if_neg ht',if_neg ht'];cases get s.bx k with
 | none=>rfl
 | some l=>
   simp only[Option.map_some,ML,List.map_map]
   congr 2
   funext c
   exact hcomm c
end
end
end
section
open Go.RowKit
abbrev H9:=Nat×Oper×Rec
def Hb (o:Oper):List Nat:=(o.after.toList.filter fun e=>Region.binds .any e).map (·.on)
def CX:List Nat->List Nat
 | []=> []
 | x::r=>bif C9 x r then CX r else x::CX r
def NJ (l:List (List Nat)) (i:Nat):List Nat:=match l[i]? with
 | some x=>x
 | none=> []
def AT:List Oper->List (List Nat)->List (List Nat)
 | [],acc=>acc
 | o::r,acc=>AT r (acc++ [CX (Hb o++(Hb o).flatMap fun e=>NJ acc e)])
def OW (i:Nat):List Nat->Bool
 | []=>true
 | x::r=>Nat.blt x i&&OW i r
def Rg:List Oper->Nat->Bool
 | [],_=>true
 | o::r,i=>OW i (Hb o)&&Rg r (i+1)
def WD (orcs:List (Nat×Orc)) (i:Nat) (o:Oper):Option (Nat×Nat):=match o.op,o.guard,o.dst,get orcs i with
 | .move (.tmp u),none,some v,none=>some (u,v)
 | _,_,_,_=>none
def E8 (ops:List Oper) (m:Nat×Nat) (z:Oper):Bool:= !(C9 m.2 (XJ ops z))&&CV z.dst (some m.1)&&CV z.dst (some m.2)
def SQ (orcs:List (Nat×Orc)) (i:Nat):Option (Nat×Nat×Nat×List PV×Orc):=match get orcs i with
 | some (.gh t q th r o)=>some (t,q,th,r,o)
 | _=>none
def CY:List (Nat×Orc)->Bool
 | []=>false
 | (_, .gh _ _ _ _ _)::_=>true
 | _::r=>CY r
def GM (ops:List Oper) (m:Nat×Nat) (g:Nat×Nat×Nat×List PV×Orc) (z:Oper):Bool:=E8 ops m z&& !(C9 m.2 [g.1,g.2.1,g.2.2.1])&& !(Nat.beq m.1 g.1)
def Tv (orcs:List (Nat×Orc)) (ops:List Oper) (y x:H9):Bool:=match SQ orcs y.1 with
 | some _=>false
 | none=>(match SQ orcs x.1 with
   | some g=>(match WD orcs y.1 y.2.1 with
     | some m=>GM ops m g x.2.1
     | none=>false)
   | none=>(match WD orcs y.1 y.2.1,WD orcs x.1 x.2.1 with
     | none,none=>GF ops y.2.1 y.2.2 x.2.1 x.2.2
     | some m,_=>E8 ops m x.2.1
     | none,some m=>E8 ops m y.2.1))
def Cq (orcs:List (Nat×Orc)) (ops:List Oper) (anc:List (List Nat)) (x:H9):List H9->Bool
 | []=>true
 | y::r=>(C9 x.1 (NJ anc y.1)|| Tv orcs ops x y)&&Cq orcs ops anc x r
def C1 (orcs:List (Nat×Orc)) (ops:List Oper) (anc:List (List Nat)):List H9->Bool
 | []=>true
 | x::r=>Cq orcs ops anc x r&&C1 orcs ops anc r
def XM (orcs:List (Nat×Orc)) (i:Nat) (o:Oper) (s:St):Bool:=match WD orcs i o with
 | some m=> !(CY orcs)|| (match get s.tm m.2 with
   | none=>true
   | some _=>false)
 | none=>true
def Tw (tt:List (Nat×TI)) (N:Nat) (orcs:List (Nat×Orc)) (ops:List Oper):List Oper->Nat->St->Option (St×List H9)
 | [],_,s=>some (s, [])
 | o :: r,i,s=>match SQ orcs i with
   | none=>(match Hq tt N (XG orcs i) ops s o with
     | some ρ=>bif XM orcs i o s then (match Tw tt N orcs ops r (i+1) (s.step o.dst ρ.res) with
       | some (s',l)=>some (s',(i,o,ρ)::l)
       | none=>none) else none
     | none=>none)
   | some (t,q,th,rr,o')=>(match XF t q th rr s with
     | some (g,gobs)=>(match Hq tt N o' ops (s.step (some t) g) o with
       | some ρ=>(match Tw tt N orcs ops r (i+1) ((s.step (some t) g).step o.dst ρ.res) with
         | some (s',l)=>some (s',(i,o,⟨ρ.avs,ρ.bn,ρ.res,gobs++ρ.obs⟩)::l)
         | none=>none)
       | none=>none)
     | none=>none)
def OX:List H9->List Ob
 | []=> []
 | x::r=>x.2.2.obs++OX r
def Hr (tt:List (Nat×TI)) (N:Nat) (orcs:List (Nat×Orc)) (ops:List Oper) (ts bs:List Nat) (s:St):Option (St×List Ob):=
 bif Rg ops 0 then
  match Tw tt N orcs ops ops 0 s with
  | some (s',l)=>bif C1 orcs ops (AT ops []) l then some (s'.keep ts bs,OX l) else none
  | none=>none
 else none
section
variable {P:Program} {tt:List (Nat×TI)} {N:Nat} {orcs:List (Nat×Orc)} {ops:Array Oper} {w0:Base} {F0:Nat->Prop}
inductive Step1 (tt:List (Nat×TI)) (N:Nat) (orcs:List (Nat×Orc)) (ops:List Oper) (x:H9) (s:St):St->Prop
 | plain (ρ:Rec):SQ orcs x.1=none->Hq tt N (XG orcs x.1) ops s x.2.1=some ρ->(WD orcs x.1 x.2.1=none->ρ=x.2.2)->(∀m,WD orcs x.1 x.2.1=some m->CY orcs=true->get s.tm m.2=none)->Step1 tt N orcs ops x s (s.step x.2.1.dst ρ.res)
 | ghost (t q th:Nat) (rr:List PV) (o':Orc) (g:Res) (gobs:List Ob) (ρ:Rec):SQ orcs x.1=some (t,q,th,rr,o')->Ghost t q th rr s g gobs->Hq tt N o' ops (s.step (some t) g) x.2.1=some ρ->x.2.2.obs=gobs++ρ.obs->Step1 tt N orcs ops x s ((s.step (some t) g).step x.2.1.dst ρ.res)
def Qav (tt:List (Nat×TI)) (N:Nat) (orcs:List (Nat×Orc)) (ops:List Oper):List H9->St->St->Prop
 | [],s,s'=>s.eqv s'
 | x::r,s,s'=>∃s1,Step1 tt N orcs ops x s s1/\Qav tt N orcs ops r s1 s'
theorem OY (s:St):s.eqv s:=⟨fun _=>rfl,fun _=>rfl⟩
theorem AU {s t:St} (h:s.eqv t):t.eqv s:=⟨fun x=>(h.1 x).symm,fun x=>(h.2 x).symm⟩
theorem JD {s t u:St} (h:s.eqv t) (h':t.eqv u):s.eqv u:=⟨fun x=>(h.1 x).trans (h'.1 x),fun x=>(h.2 x).trans (h'.2 x)⟩
theorem I5 {s t:St} (h:s.eqv t) (dst:Option Nat) (r:Res):(s.step dst r).eqv (t.step dst r):=⟨fun x=>by rw[Ha,Ha,h.1 x],fun x=>by rw[Dz,Dz,h.2 x]⟩
theorem Rh {s t:St} (h:s.eqv t) {orc:Orc} {l:List Oper} (o:Oper):Hq tt N orc l s o=Hq tt N orc l t o:=Tt ⟨fun x _=>h.1 x,fun _ _ k _=>h.2 k⟩
theorem GN {x:H9} {s t s1:St} (h:s.eqv t) (hs:Step1 tt N orcs ops.toList x s s1):∃t1,Step1 tt N orcs ops.toList x t t1/\s1.eqv t1:=by
 cases hs with
 | plain ρ h1 h2 h3 h4=>exact ⟨_, .plain ρ h1 ((Rh h _).symm.trans h2) h3 (fun m hm ha=>(h.1 m.2).symm.trans (h4 m hm ha)),I5 h _ _⟩
 | ghost u q th rr o' g gobs ρ h1 h2 h3 h4=>exact ⟨_, .ghost u q th rr o' g gobs ρ h1 (h2.eqv h) ((Rh (I5 h _ _) _).symm.trans h3) h4,I5 (I5 h _ _) _ _⟩
theorem I6:∀{l:List H9} {s t s':St},s.eqv t->Qav tt N orcs ops.toList l s s'->Qav tt N orcs ops.toList l t s'
 | [],s,t,s',h,hr=>JD (AU h) hr
 | x::r,s,t,s',h,⟨s1,h1,hr⟩=>by
   obtain ⟨t1,h2,h3⟩:=GN h h1;exact ⟨t1,h2,I6 h3 hr⟩
theorem De {i:Nat} {o:Oper} {m:Nat×Nat} (h:WD orcs i o=some m):o.op= .move (.tmp m.1)/\o.guard=none/\o.dst=some m.2/\XG orcs i= .no:=by
 unfold WD at h;split at h
 . rename_i u v h1 h2 h3 h4;obtain rfl:=Option.some.inj h;exact ⟨h1,h2,h3,by unfold XG;rw[h4]⟩
 cases h
theorem AW {l:List Oper} {i:Nat} {o:Oper} {m:Nat×Nat} {s:St} {ρ:Rec} (h:WD orcs i o=some m) (hr:Hq tt N (XG orcs i) l s o=some ρ):Sr N o.dst=true/\∃x,get s.tm m.1=some x/\ρ.res=⟨x, [],none,none⟩/\ρ.obs= []:=by
 obtain ⟨h1,h2,h3,h4⟩:=De h;unfold Hq at hr;cases hd:Sr N o.dst with
 | false=>rw[hd] at hr;cases hr
 | true=>
   rw[hd] at hr;refine ⟨rfl, ?_⟩;have hg:Uy l s o=some true:=by unfold Uy;rw[h2]
   simp only[hg,h1,h4,Op.operands,Ad,Pp,cond_true] at hr;cases hx:get s.tm m.1 with
   | none=>simp[hx,Ad,Pp] at hr
   | some x=>
     simp[hx,Ad,Pp,ZX,P8,P5,EX] at hr;obtain rfl:=hr;exact ⟨x,rfl,rfl,rfl⟩
theorem GO {l:List Oper} {i:Nat} {o:Oper} {m:Nat×Nat} {s:St} {x:AV} (h:WD orcs i o=some m) (hd:Sr N o.dst=true) (hx:get s.tm m.1=some x):∃ρ,Hq tt N (XG orcs i) l s o=some ρ/\ρ.res=⟨x, [],none,none⟩:=by
 obtain ⟨h1,h2,h3,h4⟩:=De h;have hg:Uy l s o=some true:=by unfold Uy;rw[h2]
 unfold Hq;simp[hd,hg,h1,h4,Op.operands,Ad,Pp,hx,ZX,P8,P5,EX]
theorem Tx (x v:AV):M ⟨x, [],none,none⟩ v=v:=AV.map_id' fun c _=>by rw[G6];rfl
theorem UB (x:AV) (l:List C):ML ⟨x, [],none,none⟩ l=l:=by
 show l.map (Jq [] none)=l;rw[G6,List.map_id]
theorem UC {l:List Oper} {orc:Orc} {m:Nat×Nat} {z:Oper} {s:St} {x:AV} (hf:E8 l m z=true) (hx:get s.tm m.1=some x) (ρ:Rec):
 Hq tt N orc l (s.step (some m.2) ⟨x, [],none,none⟩) z=Hq tt N orc l s z/\get (s.step z.dst ρ.res).tm m.1=some (M ρ.res x)/\((s.step (some m.2) ⟨x, [],none,none⟩).step z.dst ρ.res).eqv ((s.step z.dst ρ.res).step (some m.2) ⟨M ρ.res x, [],none,none⟩):=by
 simp only[E8,Bool.and_eq_true,Bool.not_eq_true'] at hf;obtain ⟨⟨f1,f2⟩,f3⟩:=hf;have f1:=Uo f1;refine ⟨Tt ⟨fun y hy=> ?_,fun _ _ k _=> ?_⟩, ?_,fun y=> ?_,fun k=> ?_⟩
 . rw[Ha,if_neg (fun e=>f1 (by cases e;exact hy))];cases get s.tm y with
   | none=>rfl
   | some v=>rw[Option.map_some,Tx]
 . rw[Dz,if_neg (by simp[E5])];cases get s.bx k with
   | none=>rfl
   | some v=>simp[ML,G6]
 . rw[Ha,if_neg (fun e=>Cp f2 _ e rfl),hx];rfl
 . simp only[Ha];by_cases h1:z.dst=some y
   . rw[if_pos h1,if_neg (fun e=>Cp f3 _ h1 e),if_pos h1,Option.map_some,Tx]
   rw[if_neg h1,if_neg h1];by_cases h2:some m.2=some y
   . rw[if_pos h2,if_pos h2,Option.map_some]
   rw[if_neg h2,if_neg h2];cases get s.tm y with
   | none=>rfl
   | some v=>simp only[Option.map_some,Tx]
 have hn:∀y:AV,¬E5 ⟨y, [],none,none⟩=some k:=fun _ e=>by cases e
 simp only[Dz];by_cases h1:E5 ρ.res=some k
 . rw[if_pos h1,if_neg (hn _),if_pos h1,Option.map_some,UB]
 rw[if_neg h1,if_neg (hn _),if_neg (hn _),if_neg h1];cases get s.bx k with
 | none=>rfl
 | some v=>simp only[Option.map_some,UB]
theorem D1 {s:St} {dst:Option Nat} {r:Res} {u:Nat} (h:dst≠some u) (hn:get s.tm u=none):get (s.step dst r).tm u=none:=by
 rw[Ha,if_neg h,hn];rfl
theorem I7 {s:St} {dst:Option Nat} {r:Res} {u:Nat} (h:dst≠some u) (hn:get (s.step dst r).tm u=none):get s.tm u=none:=by
 rw[Ha,if_neg h] at hn;cases hg:get s.tm u with
 | none=>rfl
 | some v=>rw[hg] at hn;cases hn
theorem AX:∀{l:List (Nat×Orc)} {i:Nat} {g:Nat×Nat×Nat×List PV×Orc},SQ l i=some g->CY l=true
 | [],i,g,h=>by simp[SQ,get] at h
 | (k,o)::r,i,g,h=>by
   unfold SQ at h;simp only[get] at h;cases o with
   | gh=>rfl
   | _=>
     show CY r=true;by_cases hk:k=i
     . rw[if_pos hk] at h;cases h
     rw[if_neg hk] at h;exact AX (i:=i) (g:=g) h
theorem OZ {m:Nat×Nat} {t q th:Nat} {rr:List PV} {g:Res} {gobs:List Ob} {s:St} {x:AV} (h:Ghost t q th rr (s.step (some m.2) ⟨x, [],none,none⟩) g gobs) (h1:m.2≠t) (h2:m.2≠q) (h3:m.2≠th) (hn:get s.tm m.2=none):Ghost t q th rr s g gobs:=by
 obtain ⟨v,k,n,i,o,v',cs,l,n2,l2,tl,e1,e2,e3,e4,e5,e6⟩:=h.ok
 have back:∀u,m.2≠u->get (s.step (some m.2) ⟨x, [],none,none⟩).tm u=get s.tm u:=fun u hu=>by
  rw[Ha,if_neg (fun e=>hu (Option.some.inj e))];cases get s.tm u with
  | none=>rfl
  | some v=>rw[Option.map_some,Tx]
 refine ⟨v,k,n,i,o,v',cs,l,n2,l2,tl,(back t h1).symm.trans e1,(back q h2).symm.trans e2,(back th h3).symm.trans e3,e4,⟨fun u v c y g1 g2 g3=> ?_,fun u v c y g1 g2=> ?_⟩,e6⟩
 . have hu:m.2≠u:=fun e=>by rw[←e,hn] at g1;cases g1
   exact e5.1 u v c y ((back u hu).trans g1) g2 g3
 refine e5.2 u v c y ?_ g2;rw[Dz,if_neg (by simp[E5]),g1];simp[ML,G6]
theorem Ty {x:H9} {post:List H9}:∀{pre:List H9} {s s':St},(∀y,y∈pre->Tv orcs ops.toList y x=true)->Qav tt N orcs ops.toList (pre++x::post) s s'->Qav tt N orcs ops.toList (x::(pre++post)) s s'
 | [],_,_,_,h=>h
 | y :: pre,s,s',ha,h=>by
   obtain ⟨sy,hy0,hr⟩:=h;obtain ⟨sx,hx0,hr'⟩:=Ty (fun z hz=>ha z (List.mem_cons_of_mem _ hz)) hr;have hap:=ha y List.mem_cons_self;unfold Tv at hap;cases hy0 with
   | ghost t q th rr o' g gobs ρ g1=>rw[g1] at hap;cases hap
   | plain ρy gy hy hy' hfy=>
   rw[gy] at hap;simp only at hap;cases hx0 with
   | ghost t q th rr o' g gobs ρx g1 g2 g3 g4=>
     rw[g1] at hap;simp only at hap;cases hmy:WD orcs y.1 y.2.1 with
     | none=>rw[hmy] at hap;cases hap
     | some m=>
       rw[hmy] at hap;obtain ⟨hd,x0,h1,h2,_⟩:=AW hmy hy;have hdst:=(De hmy).2.2.1;have hap:GM ops.toList m (t,q,th,rr,o') x.2.1=true:=hap;simp only[GM,Bool.and_eq_true,Bool.not_eq_true'] at hap;obtain ⟨⟨f1,f2⟩,f3⟩:=hap;have f2:=Uo f2;have ft:m.2≠t:=fun e=>f2 (by simp[e])
       have fq:m.2≠q:=fun e=>f2 (by simp[e])
       have fth:m.2≠th:=fun e=>f2 (by simp[e])
       have fm:m.1≠t:=fun e=>by rw[e] at f3;simp at f3
       have hfresh:=hfy m hmy (AX g1);rw[h2,hdst] at g2 g3 hr';have hg:=OZ g2 ft fq fth hfresh;have a1:get (s.step (some t) g).tm m.1=some (M g x0):=by rw[Ha,if_neg (fun e=>fm (Option.some.inj e).symm),h1];rfl
       have a2:((s.step (some m.2) ⟨x0, [],none,none⟩).step (some t) g).eqv ((s.step (some t) g).step (some m.2) ⟨M g x0, [],none,none⟩):=by
        refine ⟨fun y=> ?_,fun k=> ?_⟩
        . simp only[Ha];by_cases e1:some t=some y
          . rw[if_pos e1,if_neg (fun e=>ft (Option.some.inj (e.trans e1.symm))),if_pos e1,Option.map_some,Tx]
          rw[if_neg e1,if_neg e1];by_cases e2:some m.2=some y
          . rw[if_pos e2,if_pos e2,Option.map_some]
          rw[if_neg e2,if_neg e2];cases get s.tm y with
          | none=>rfl
          | some v=>simp only[Option.map_some,Tx]
        have hn:∀y:AV,¬E5 ⟨y, [],none,none⟩=some k:=fun _ e=>by cases e
        have hgk:E5 g=none:=by
         obtain ⟨v,k',n,i,o,v',cs,l,n2,l2,tl,_,_,_,_,_,_,_,rfl,_⟩:=g2.ok;rfl
        simp only[Dz];rw[if_neg (by rw[hgk];simp),if_neg (hn _),if_neg (hn _),if_neg (by rw[hgk];simp)];cases get s.bx k with
        | none=>rfl
        | some v=>simp only[Option.map_some,UB]
       obtain ⟨e1,e2,e3⟩:=UC (tt:=tt) (N:=N) (orc:=o') f1 a1 ρx;have g3':=(Rh a2 _).symm.trans g3;obtain ⟨ρm,h3,h4⟩:=GO (tt:=tt) (l:=ops.toList) hmy hd e2
       have hxd:x.2.1.dst≠some m.2:=fun e=>by
        simp only[E8,Bool.and_eq_true] at f1;exact Cp f1.2 _ e rfl
       refine ⟨_, .ghost t q th rr o' g gobs ρx g1 hg (e1.symm.trans g3') g4,_, .plain ρm gy h3 (fun e=>(by rw[hmy] at e;cases e)) (fun m' hm' _=> ?_), ?_⟩
       . rw[hmy] at hm';obtain rfl:=Option.some.inj hm';exact D1 hxd (D1 (fun e=>ft (Option.some.inj e).symm) hfresh)
       rw[h4,hdst];exact I6 (JD (I5 a2 _ _) e3) hr'
   | plain ρx gx hx hx' hfx=>
   rw[gx] at hap;simp only at hap;cases hmy:WD orcs y.1 y.2.1 with
   | some m=>
     rw[hmy] at hap;obtain ⟨hd,x0,h1,h2,_⟩:=AW hmy hy;have hdst:=(De hmy).2.2.1;have hap:E8 ops.toList m x.2.1=true:=by cases hq:WD orcs x.1 x.2.1<;>rw[hq] at hap<;>exact hap
     obtain ⟨e1,e2,e3⟩:=UC (tt:=tt) (N:=N) (orc:=XG orcs x.1) hap h1 ρx
     have hxd:x.2.1.dst≠some m.2:=fun e=>by
      simp only[E8,Bool.and_eq_true] at hap;exact Cp hap.2 _ e rfl
     rw[h2,hdst] at hx hr' hfx;obtain ⟨ρm,h3,h4⟩:=GO (tt:=tt) (l:=ops.toList) hmy hd e2;refine ⟨_, .plain ρx gx (e1.symm.trans hx) hx' (fun m' hm' ha=> ?_),_, .plain ρm gy h3 (fun e=>(by rw[hmy] at e;cases e)) (fun m' hm' ha=> ?_), ?_⟩
     . have hdx:=(De hm').2.2.1;refine I7 (dst:=some m.2) (fun e=>hxd ?_) (hfx m' hm' ha);rw[hdx];exact e.symm
     . rw[hmy] at hm';obtain rfl:=Option.some.inj hm';exact D1 hxd (hfy m hmy ha)
     rw[h4,hdst];exact I6 e3 hr'
   | none=>
     rw[hmy] at hap;cases hmx:WD orcs x.1 x.2.1 with
     | some m=>
       rw[hmx] at hap;obtain ⟨hd,x1,h1,h2,_⟩:=AW hmx hx;have hdst:=(De hmx).2.2.1;have hf:E8 ops.toList m y.2.1=true:=hap
       have hne:y.2.1.dst≠some m.1:=fun e=>by
        simp only[E8,Bool.and_eq_true] at hf;exact Cp hf.1.2 _ e rfl
       have hyd:y.2.1.dst≠some m.2:=fun e=>by
        simp only[E8,Bool.and_eq_true] at hf;exact Cp hf.2 _ e rfl
       rw[Ha,if_neg hne] at h1;obtain ⟨x0,hx0,hM⟩:=Option.map_eq_some_iff.1 h1;obtain ⟨e1,e2,e3⟩:=UC (tt:=tt) (N:=N) (orc:=XG orcs y.1) hf hx0 ρy;obtain ⟨ρm,h3,h4⟩:=GO (tt:=tt) (l:=ops.toList) hmx hd hx0;refine ⟨_, .plain ρm gx h3 (fun e=>(by rw[hmx] at e;cases e)) (fun m' hm' ha=> ?_),_, .plain ρy gy ?_ (fun _=>hy' hmy) (fun m' hm'=>by rw[hmy] at hm';cases hm'), ?_⟩
       . rw[hmx] at hm';obtain rfl:=Option.some.inj hm';exact I7 hyd (hfx m hmx ha)
       . rw[h4,hdst];exact e1.trans hy
       rw[h4,hdst];rw[h2,hdst,←hM] at hr';exact I6 (AU e3) hr'
     | none=>
       rw[hmx] at hap;obtain rfl:=hy' hmy;obtain rfl:=hx' hmx;obtain ⟨h1,h2,h3⟩:=Qau hap hy hx;exact ⟨_, .plain _ gx h1 (fun _=>rfl) (fun m' hm'=>by rw[hmx] at hm';cases hm'),_, .plain _ gy h2 (fun _=>rfl) (fun m' hm'=>by rw[hmy] at hm';cases hm'),I6 h3 hr'⟩
theorem CZ {i:Nat} {o:Oper} {s:St} (h:XM orcs i o s=true):∀m,WD orcs i o=some m->CY orcs=true->get s.tm m.2=none:=fun m hm ha=>by
 unfold XM at h;rw[hm] at h;simp only[ha,Bool.not_true,Bool.false_or] at h;split at h
 . assumption
 cases h
theorem G8 :∀{l:List Oper} {i:Nat} {s s':St} {R:List H9},Tw tt N orcs ops.toList l i s=some (s',R)->Qav tt N orcs ops.toList R s s'/\R.map (·.1)=List.range' i l.length/\R.map (·.2.1)=l
 | [],i,s,s',R,h=>by
   obtain ⟨rfl,rfl⟩:s=s'/\ []=R:=by simpa [Tw] using h
   exact ⟨OY s,rfl,rfl⟩
 | o :: r, i,s,s',R,h=>by
   simp only[Tw] at h;split at h
   . rename_i hg;split at h
     . rename_i ρ hρ;cases hf:XM orcs i o s with
       | false=>rw[hf] at h;cases h
       | true=>
         rw[hf] at h;simp only[cond_true] at h;split at h
         . rename_i s'' l' hr;obtain ⟨rfl,rfl⟩:s''=s'/\(i,o,ρ)::l'=R:=by simpa using h
           obtain ⟨h1,h2,h3⟩:=G8 hr;exact ⟨⟨_, .plain ρ hg hρ (fun _=>rfl) (CZ hf),h1⟩,by simp[h2,List.range'_succ],by simp[h3]⟩
         cases h
     cases h
   rename_i t q th rr o' hg;split at h
   . rename_i g gobs hgr;split at h
     . rename_i ρ hρ;split at h
       . rename_i s'' l' hr;obtain ⟨rfl,rfl⟩:s''=s'/\(i,o,⟨ρ.avs,ρ.bn,ρ.res,gobs++ρ.obs⟩)::l'=R:=by simpa using h
         obtain ⟨h1,h2,h3⟩:=G8 hr;exact ⟨⟨_, .ghost t q th rr o' g gobs ρ hg (OH hgr) hρ rfl,h1⟩,by simp[h2,List.range'_succ],by simp[h3]⟩
       cases h
     cases h
   cases h
inductive Anc (ops:Array Oper):Nat->Nat->Prop
 | one {x q:Nat} {o:Oper}:ops[q]? =some o->x∈Hb o->Anc ops x q
 | more {x e q:Nat} {o:Oper}:ops[q]? =some o->e∈Hb o->Anc ops x e->Anc ops x q
theorem Ri {x:Nat}:∀{l:List Nat},x∈CX l->x∈l
 | [],h=>h
 | y ::r,h=>by
   simp only[CX] at h;cases hm:C9 y r with
   | true=>rw[hm] at h;exact List.mem_cons_of_mem _ (Ri h)
   | false=>
     rw[hm] at h;rcases List.mem_cons.1 h with rfl | h
     . exact List.mem_cons_self
     exact List.mem_cons_of_mem _ (Ri h)
theorem GP:∀{l:List Oper} {acc:List (List Nat)},ops.toList.drop acc.length=l->(∀q x,x∈NJ acc q->Anc ops x q)->∀q x,x∈NJ (AT l acc) q->Anc ops x q
 | [],_,_,h,q,x,hx=>h q x hx
 | o ::r,acc,hl,h,q,x,hx=>by
   refine GP (l:=r) (acc:=acc++ [CX (Hb o++(Hb o).flatMap fun e=>NJ acc e)]) ?_ ?_ q x hx
   . rw[List.length_append,List.length_singleton,←List.drop_drop,hl];rfl
   intro q x hx
   have ho:ops[acc.length]? =some o:=by
    have:=congrArg (·[0]?) hl;simpa using this
   unfold NJ at hx;rcases Nat.lt_trichotomy q acc.length with hlt | he | hgt
   . rw[List.getElem?_append_left hlt] at hx;exact h q x hx
   . subst he;rw[List.getElem?_append_right (Nat.le_refl _),Nat.sub_self] at hx;simp only[List.getElem?_cons_zero] at hx;rcases List.mem_append.1 (Ri hx) with hx | hx
     . exact .one ho hx
     obtain ⟨e,he,hx⟩:=List.mem_flatMap.1 hx;exact .more ho he (h e x hx)
   rw[List.getElem?_eq_none (by simp;omega)] at hx;simp at hx
theorem DA {listed:Array Bool} (hc:∀(j:Nat) (o:Oper),ops[j]? =some o->listed.getD j false=true->∀e,e∈Hb o->listed.getD e false=true) {x q:Nat} (h:Anc ops x q):(∀o,ops[q]? =some o->∀e,e∈Hb o->listed.getD e false=true)->listed.getD x false=true:=by
 induction h with
 | one ho hx=>intro hq;exact hq _ ho _ hx
 | more ho he _ ih=>intro hq;exact ih fun o' ho' e' he'=>hc _ o' ho' (hq _ ho _ he) e' he'
theorem JE {o:Oper} {e:Nat}:e∈Hb o↔∃x,x∈o.after/\Region.binds .any x=true/\x.on=e:=by
 unfold Hb;simp only[List.mem_map,List.mem_filter,Array.mem_toList_iff];exact ⟨fun ⟨x,⟨h1,h2⟩,h3⟩=>⟨x,h1,h2,h3⟩,fun ⟨x,h1,h2,h3⟩=>⟨x,⟨h1,h2⟩,h3⟩⟩
theorem AY {i:Nat}:∀{l:List Nat},OW i l=true->∀x,x∈l->x<i
 | [],_,x,hx=>by simp at hx
 | y::r,h,x,hx=>by
   simp only[OW,Bool.and_eq_true,Nat.blt_eq] at h;rcases List.mem_cons.1 hx with rfl | hx
   . exact h.1
   exact AY h.2 x hx
theorem Tz:∀{l:List Oper} {i:Nat},Rg l i=true->∀(j:Nat) (o:Oper),l[j]? =some o->∀e,e∈Hb o->e<i+j
 | [],_,_,j,o,h,_,_=>by simp at h
 | x::r,i,h,j,o,hj,e,he=>by
   simp only[Rg,Bool.and_eq_true] at h;cases j with
   | zero=>simp at hj;subst hj;exact AY h.1 e he
   | succ j=>have:=Tz h.2 j o (by simpa using hj) e he;omega
theorem AZ {anc:List (List Nat)} {x y:H9}:∀{l:List H9},Cq orcs ops.toList anc x l=true->y∈l->C9 x.1 (NJ anc y.1)=true\/Tv orcs ops.toList x y=true
 | z::r,h,hy=>by
   simp only[Cq,Bool.and_eq_true,Bool.or_eq_true] at h;rcases List.mem_cons.1 hy with rfl | hy
   . exact h.1
   exact AZ h.2 hy
theorem JF {anc:List (List Nat)} {x:H9} {post:List H9}:∀{pre:List H9},C1 orcs ops.toList anc (pre++x::post)=true->∀y,y∈pre->C9 y.1 (NJ anc x.1)=true\/Tv orcs ops.toList y x=true
 | [],_,y,hy=>by simp at hy
 | z::pre,h,y,hy=>by
   rw[List.cons_append] at h;simp only[C1,Bool.and_eq_true] at h;rcases List.mem_cons.1 hy with rfl | hy
   . exact AZ h.1 (by simp)
   exact JF h.2 y hy
theorem I8 {anc:List (List Nat)} {z x:H9} {post:List H9}:∀{pre:List H9},Cq orcs ops.toList anc z (pre++x::post)=true->Cq orcs ops.toList anc z (pre++post)=true
 | [],h=>by simp only[List.nil_append,Cq,Bool.and_eq_true] at h;exact h.2
 | y::pre,h=>by
   simp only[List.cons_append,Cq,Bool.and_eq_true] at h⊢;exact ⟨h.1,I8 h.2⟩
theorem T0 {anc:List (List Nat)} {x:H9} {post:List H9}:∀{pre:List H9},C1 orcs ops.toList anc (pre++x::post)=true->C1 orcs ops.toList anc (pre++post)=true
 | [],h=>by simp only[List.nil_append,C1,Bool.and_eq_true] at h;exact h.2
 | y::pre,h=>by
   simp only[List.cons_append,C1,Bool.and_eq_true] at h⊢;exact ⟨I8 h.1,T0 h.2⟩
theorem Qaw {l:List H9} (h:AllOb (X9 P w0) (Z8 P w0) (OX l)):∀x,x∈l->AllOb (X9 P w0) (Z8 P w0) x.2.2.obs:=by
 induction l with
 | nil=>intro x hx;simp at hx
 | cons y r ih=>
   intro x hx;obtain ⟨h1,h2⟩:=AllOb.append h;rcases List.mem_cons.1 hx with rfl | hx
   . exact h1
   exact ih h2 x hx
theorem Qax (htt:Aq P tt=true) {Q:Exit->Act->World->Prop} {sf:St} {anc:List (List Nat)} (hanc:∀q x,x∈NJ anc q->Anc ops x q) (hlt:∀(j:Nat) (o:Oper),ops[j]? =some o->∀e,e∈Hb o->e<j) (hQ:∀J a w,Rel N w0 F0 J a w sf->Q .normal a w):
 ∀ (n:Nat) (R:List H9) (listed:Array Bool) (s:St) (J:Inj) (a:Act) (w:World),R.length=n->listed.size=ops.size->(R.map (·.1)).Pairwise (· < ·)->(∀x,x∈R->ops[x.1]? =some x.2.1)->(∀j,j<ops.size->(listed.getD j true=false↔j∈R.map (·.1)))->
   (∀(j:Nat) (o:Oper),ops[j]? =some o->listed.getD j false=true->∀e,e∈Hb o->listed.getD e false=true)->C1 orcs ops.toList anc R=true->(∀x,x∈R->AllOb (X9 P w0) (Z8 P w0) x.2.2.obs)->Qav tt N orcs ops.toList R s sf->Rel N w0 F0 J a w s->wpAny P .any ops Q n listed a w:=by
 intro n
 have hget:∀(listed:Array Bool) (j:Nat),j<listed.size->(listed.getD j true=false↔¬listed.getD j false=true):=by
  intro listed j hj;simp[Array.getD_eq_getD_getElem?,Array.getElem?_eq_getElem hj]
 have hready:∀(R:List H9) (listed:Array Bool),listed.size=ops.size->(∀j,j<ops.size->(listed.getD j true=false↔j∈R.map (·.1)))->∀i,i∈Region.ready .any ops listed->i∈R.map (·.1)/\∀o,ops[i]? =some o->∀e,e∈Hb o->listed.getD e false=true:=by
  intro R listed hsz hR i hi;obtain ⟨h0,o,ho,hall⟩:=mem_ready.1 hi;have hlt:i<ops.size:=(Array.getElem?_eq_some_iff.1 ho).1;refine ⟨(hR i hlt).1 h0,fun o' ho' e he=> ?_⟩;rw[ho] at ho';obtain rfl:=Option.some.inj ho';obtain ⟨x,h1,h2,rfl⟩:=JE.1 he;exact hall x h1 h2
 induction n with
 | zero=>
   intro R listed s J a w hn hsz _ _ hR _ _ _ hr hrel;obtain rfl:R= []:=List.eq_nil_of_length_eq_zero hn;refine ⟨?_,hQ J a w (hrel.eqv hr)⟩;cases hrd:Region.ready .any ops listed with
   | nil=>rfl
   | cons i r=>
     have:=(hready [] listed hsz hR i (by rw[hrd];simp)).1;simp at this
 | succ n ih=>
   intro R listed s J a w hn hsz hsort hops hR hclosed hpairs hobs hr hrel;refine ⟨fun hnil=> ?_,fun i hi=> ?_⟩
   . exfalso;cases R with
     | nil=>simp at hn
     | cons x r=>
       have hx:=hops x (by simp);have hxl:x.1<ops.size:=(Array.getElem?_eq_some_iff.1 hx).1
       have:x.1∈Region.ready .any ops listed:=by
        refine mem_ready.2 ⟨(hR x.1 hxl).2 (by simp),x.2.1,hx,fun e he hb=> ?_⟩;have hel:=hlt x.1 x.2.1 hx e.on (JE.2 ⟨e,he,hb,rfl⟩);refine Classical.byContradiction fun hne=> ?_
        have:=(hR e.on (by omega)).1 ((hget listed e.on (by omega)).2 hne);simp only[List.map_cons,List.mem_cons] at this;rcases this with h | h
        . omega
        have:x.1<e.on:=(List.pairwise_cons.1 hsort).1 e.on h;omega
       rw[hnil] at this;simp at this
   obtain ⟨hiR,hedges⟩:=hready R listed hsz hR i hi;obtain ⟨x,hx,rfl⟩:=List.mem_map.1 hiR;obtain ⟨pre,post,rfl⟩:=List.append_of_mem hx
   have hap:∀y,y∈pre->Tv orcs ops.toList y x=true:=fun y hy=>by
    rcases JF hpairs y hy with h | h
    . exfalso;have hl:=DA hclosed (hanc _ _ (Ul.1 h)) hedges;have hyo:=hops y (by simp[hy]);have hyl:y.1<ops.size:=(Array.getElem?_eq_some_iff.1 hyo).1;exact (hget listed y.1 (by omega)).1 ((hR y.1 hyl).2 (by simp only[List.map_append,List.mem_append];exact .inl (List.mem_map.2 ⟨y,hy,rfl⟩))) hl
    exact h
   obtain ⟨s1,hst,hrest⟩:=Ty hap hr;have hxo:=hops x (by simp);have hxl:x.1<ops.size:=(Array.getElem?_eq_some_iff.1 hxo).1
   have hdup:x.1∉(pre++post).map (·.1):=fun hm=>by
    simp only[List.map_append,List.map_cons,List.pairwise_append,List.pairwise_cons] at hsort;simp only[List.map_append,List.mem_append] at hm;rcases hm with hm | hm
    . have:=hsort.2.2 _ hm x.1 (by simp);omega
    have:=hsort.2.1.1 _ hm;omega
   have hgo:∀{K:Act->World->Prop},(∀J' a' w',Rel N w0 F0 J' a' w' s1->K a' w')->wpOp P ops Q x.1 K a w:=by
    intro K hK;cases hst with
    | plain ρ _ hrec hρ _=>
      have hobx:AllOb (X9 P w0) (Z8 P w0) ρ.obs:=by
       cases hmv:WD orcs x.1 x.2.1 with
       | none=>rw[hρ hmv];exact hobs x (by simp)
       | some m=>obtain ⟨_,_,_,_,e⟩:=AW hmv hrec;rw[e];trivial
      exact WU (P:=P) htt hxo hrec hobx hrel hK
    | ghost t q th rr o' g gobs ρ _ g2 g3 g4=>
      have hobx:=hobs x (by simp);rw[g4] at hobx;obtain ⟨hb1,hb2⟩:=AllOb.append hobx;obtain ⟨J1,hrel1⟩:=OI g2 hb1 hrel;exact WU (P:=P) htt hxo g3 hb2 hrel1 hK
   refine hgo fun J' a' w' hrel'=>ih (pre++post) _ _ J' a' w' (by simp at hn⊢;omega) (by simpa using hsz) ?_ ?_ ?_ ?_ (T0 hpairs) ?_ hrest hrel'
   . simp only[List.map_append,List.map_cons,List.pairwise_append,List.pairwise_cons] at hsort⊢;exact ⟨hsort.1,hsort.2.1.2,fun a ha b hb=>hsort.2.2 a ha b (by simp[hb])⟩
   . intro y hy;exact hops y (by simp only[List.mem_append,List.mem_cons] at hy⊢;exact hy.elim .inl fun h=> .inr (.inr h))
   . intro j hj;by_cases hji:x.1=j
     . subst hji;constructor
       . intro h;simp[hsz,hj] at h
       intro h;exact absurd h hdup
     rw[getD_set_ne true hji,hR j hj];simp only[List.map_append,List.map_cons,List.mem_append,List.mem_cons];exact ⟨fun h=>h.elim .inl fun h=>h.elim (fun e=>absurd e.symm hji) .inr,fun h=>h.elim .inl fun h=> .inr (.inr h)⟩
   . intro j o ho hl e he;by_cases hji:x.1=j
     . subst hji;exact getD_set_true (hedges o ho e he)
     rw[getD_set_ne false hji] at hl;exact getD_set_true (hclosed j o ho hl e he)
   intro y hy;exact hobs y (by simp only[List.mem_append,List.mem_cons] at hy⊢;exact hy.elim .inl fun h=> .inr (.inr h))
theorem Ot (htt:Aq P tt=true) (hm:P.follows .mixedOrders=true) {Q:Exit->St->Prop} {s s':St} (orcs:List (Nat×Orc)) (ts bs:List Nat) {id:Nat} {ops:Array Oper} {obs:List Ob} (h:Hr tt N orcs ops.toList ts bs s=some (s',obs))
 (hob:AllOb (X9 P w0) (Z8 P w0) obs) (hQ:Q .normal s'):AWP P N w0 F0 (.region id ops true) Q s:=fun J a w hr=>by
 unfold Hr at h;cases he:Rg ops.toList 0 with
 | false=>rw[he] at h;cases h
 | true =>
   rw[he] at h;simp only[cond_true] at h;split at h
   . rename_i s1 R h1;cases hp:C1 orcs ops.toList (AT ops.toList []) R with
     | false=>rw[hp] at h;cases h
     | true=>
       rw[hp] at h;obtain ⟨rfl,rfl⟩:s1.keep ts bs=s'/\OX R=obs:=by simpa using h
       obtain ⟨hruns,hidx,hop⟩:=G8 h1;have hlen:R.length=ops.size:=by have:=congrArg List.length hop;simpa using this
       refine wp_region_any hm (Qax (P:=P) htt (GP (acc:= []) (l:=ops.toList) rfl (fun q x hx=>by simp[NJ] at hx)) (fun j o ho e hx=>by have:=Tz he j o (by simpa using ho) e hx;omega)
        (fun J' a' w' hR=>⟨J',_,hR.less (fun t v hv=>Cn hv) (fun k c hc=>Cn hc),hQ⟩) ops.size R _ s J a _ hlen (by simp) ?_ ?_ ?_ ?_ hp (Qaw hob) hruns ?_)
       . rw[hidx];exact List.pairwise_lt_range'
       . intro x hx;obtain ⟨k,hk,rfl⟩:=List.getElem_of_mem hx
         have e1:R[k].1=k:=by
          have:=congrArg (·[k]?) hidx;simp only[List.getElem?_map,List.getElem?_eq_getElem hk,Option.map_some] at this;rw[List.getElem?_range' (by simpa [←hlen] using hk)] at this;simpa using this
         have e2:=congrArg (·[k]?) hop;simp only[List.getElem?_map,List.getElem?_eq_getElem hk,Option.map_some] at e2;rw[e1];simpa using e2.symm
       . intro j hj;rw[hidx];simp[hj,List.mem_range'_1]
       . intro j o _ hl;simp only[Array.getD_eq_getD_getElem?,Array.getElem?_replicate] at hl;split at hl<;>simp at hl
       refine {hr with below:= ?_,fl:=hr.fl,bo:= ?_,tm:= ?_}
       . exact hr.below.trans ⟨rfl,rfl,rfl,Nat.le_refl _,fun _ _=>rfl⟩
       . intro k c hk;obtain ⟨h1,h2,h3,arr,e,h4,h5⟩:=hr.bo k c hk;exact ⟨h1,h2,h3,arr,e,h4,h5.imp fun v c _ hc=>hc.keep ⟨fun b hb=>⟨hb,rfl⟩,fun k _=>⟨rfl,fun _ _=>rfl⟩,fun _ _=>rfl⟩⟩
       intro t v hv;exact (hr.tm t v hv).keep fun c _=>⟨fun b hb=>⟨hb,rfl⟩,fun k _=>⟨rfl,fun _ _=>rfl⟩,fun _ _=>rfl⟩
   cases h
end
open GoE (enc wide)
def nth {α:Type} [Inhabited α] (l:List α) (i:Nat):α:=l.getD i default
theorem G9 {α:Type} [Inhabited α] {l:List α} {i:Nat} (h:i<l.length):l[i]? =some (nth l i):=by
 simp[nth,List.getD,List.getElem?_eq_getElem h]
theorem SR {α:Type} [Inhabited α] {l:List α} {i:Nat} {a:α} (h:l[i]? =some a):nth l i=a:=by simp[nth,List.getD,h]
def dn (s:Int):Nat->Int
 | 0=>s
 | k+1=>dn s k-1
theorem DB (s:Int):∀k,dn s k=s-(k:Int)
 | 0=>by simp[dn]
 | k+1=>by rw[dn,DB s k];omega
section
variable {α:Type} [GoE α]
theorem JG {J:Inj} {w:World} {v:Value} {tok:Tok} {l:List α} (h:CR J w v (.slc tok (GoD.n α) (eL l))):wide l:=by
 cases tok with
 | sh=>exact G4 h
 | emp=>
   obtain ⟨h,_⟩:=h;cases l with
   | nil=>exact ⟨Nat.zero_le _,by simp⟩
   | cons a l=>simp[eL] at h
 | vw k=>exact G4 h
 | put=>exact h.elim
 | own d k=>
   cases d with
   | true=>exact G4 (OwnDeep.vv (X:=fun _=>True) h fun _ _=>⟨trivial,rfl⟩)
   | false=>exact G4 (OwnTop.vv (X:=fun _=>True) h (fun _ _=>⟨trivial,rfl⟩) fun _ _=>⟨trivial,rfl⟩)
theorem PA {l:List α} {i:Nat} {a:α} (h:l[i]? =some a) (hw:wide l):wide a:=hw.2 a (List.mem_of_getElem? h)
theorem I9 {l:List α} (hw:wide l):l.length<=1073741824:=hw.1
theorem PB {β:Type} [GoE β] {p:α×β} (hw:wide p):wide p.2:=hw.2
theorem GQ {l:List α} (k:Nat) (hw:wide l):wide (List.take k l):=⟨Nat.le_trans (by simp[Nat.min_le_right]) hw.1,fun a h=>hw.2 a (List.mem_of_mem_take h)⟩
theorem GR {l:List α} (k:Nat) (hw:wide l):wide (List.drop k l):=⟨Nat.le_trans (by simp) hw.1,fun a h=>hw.2 a (List.mem_of_mem_drop h)⟩
end
section
variable {P:Program} {N:Nat} {w0:Base} {F0:Nat->Prop} {Q:Exit->St->Prop} {s s':St} {c:Code} {α:Type} [GoE α]
end
abbrev PV.i (n:Int):PV:= .int .i64 n
abbrev PV.b (b:Bool):PV:= .bool b
abbrev PV.s (x:ByteArray):PV:= .str x
abbrev PV.h {α:Type} [GoE α] (l:List α):PV:= .slc (GoD.n α) (eL l)
abbrev C.i (n:Int):C:= .int .i64 n
abbrev C.b (b:Bool):C:= .bool b
abbrev C.s (x:ByteArray):C:= .str x
abbrev C.e (n:Nat):C:= .slc .emp n []
abbrev C.h {α:Type} [GoE α] (l:List α):C:= .slc .sh (GoD.n α) (eL l)
abbrev C.o {α:Type} [GoE α] (k:Nat) (l:List α):C:= .slc (.own true k) (GoD.n α) (eL l)
abbrev C.q {α:Type} [GoE α] (k:Nat) (l:List α):C:= .slc (.own false k) (GoD.n α) (eL l)
abbrev C.v {α:Type} [GoE α] (k:Nat) (l:List α):C:= .slc (.vw k) (GoD.n α) (eL l)
abbrev AV.i (n:Int):AV:= .one (.int .i64 n)
abbrev AV.b (b:Bool):AV:= .one (.bool b)
abbrev AV.s (x:ByteArray):AV:= .one (.str x)
abbrev AV.e (n:Nat):AV:= .one (.slc .emp n [])
abbrev AV.h {α:Type} [GoE α] (l:List α):AV:= .one (.slc .sh (GoD.n α) (eL l))
abbrev AV.o {α:Type} [GoE α] (k:Nat) (l:List α):AV:= .one (.slc (.own true k) (GoD.n α) (eL l))
abbrev AV.q {α:Type} [GoE α] (k:Nat) (l:List α):AV:= .one (.slc (.own false k) (GoD.n α) (eL l))
abbrev AV.v {α:Type} [GoE α] (k:Nat) (l:List α):AV:= .one (.slc (.vw k) (GoD.n α) (eL l))
abbrev AV.p (k o:Nat):AV:= .one (.ptr k o)
abbrev AV.a (cs:List C):AV:= .agg cs
section
variable {A:Nat->List AV->AV->Prop} {T:TakeT}
theorem o1 {x:Ob} (h:x.holds A T):AllOb A T [x]:=h
theorem o2 {x y:Ob} {r:List Ob} (h:x.holds A T) (h':AllOb A T (y::r)):AllOb A T (x::y::r):=⟨h,h'⟩
end
section
variable {α:Type} [GoE α]
theorem Qc1 (l:List α):AV.one (.int .i64 ((eL l).length:Int))=AV.one (.int .i64 (l.length:Int)):=by rw[Yv]
theorem Qz {a b:Bool} (h:a=b):AV.one (.bool a)=AV.one (.bool b):=h▸rfl
theorem My (t:Tok) (n k:Nat) (lo:Int) (l:List α) (hk:lo.toNat=k):AV.one (.slc t n (((eL l).take (Int.toNat ((eL l).length:Int))).drop (Int.toNat lo)))=AV.one (.slc t n (eL (List.drop k l))):=by
 subst hk;rw[Int.toNat_natCast,List.take_length,FZ]
theorem Qay (t:Tok) (n k:Nat) (hi:Int) (l:List α) (hk:hi.toNat=k):AV.one (.slc t n (((eL l).take (Int.toNat hi)).drop (Int.toNat 0)))=AV.one (.slc t n (eL (List.take k l))):=by
 subst hk;rw[FY];rfl
theorem Qc2 (t:Tok) (n j k:Nat) (lo hi:Int) (l:List α) (hj:lo.toNat=j) (hk:hi.toNat=k):AV.one (.slc t n (((eL l).take (Int.toNat hi)).drop (Int.toNat lo)))=AV.one (.slc t n (eL (List.drop j (List.take k l)))):=by
 subst hj;subst hk;rw[FY,FZ]
theorem DC {l:List α} {i:Int} {k:Nat} {a:α} (h0:0<=i) (hk:i.toNat=k) (h:l[k]? =some a):0<=i/\(eL l)[i.toNat]? =some (enc a):=⟨h0,by rw[hk];exact GA h⟩
theorem Nw {a b m n:Nat} (ha:a=m) (hb:b=n) (h:m+n<=1073741824):a+b<=1073741824:=by omega
theorem SS {l:List α} {lo hi:Int} (h0:0<=lo) (h1:lo<=hi) (h2:hi<=(l.length:Int)):0<=lo/\lo<=hi/\hi<=((eL l).length:Int):=by rw[Yv];exact ⟨h0,h1,h2⟩
theorem Mz {l:List α} {lo:Int} (h0:0<=lo) (h2:lo<=(l.length:Int)):0<=lo/\lo<=((eL l).length:Int)/\((eL l).length:Int)<=((eL l).length:Int):=by rw[Yv];exact ⟨h0,h2,Int.le_refl _⟩
end
theorem Je {α:Type} [GoE α] {A B:List (List PV)} {a b:List α} (ha:A=eL a) (hb:B=eL b):A++B=eL (a++b):=by rw[ha,hb,FX]
theorem PC {α:Type} [GoE α] (n:Nat) (a:α):List.replicate n (enc a)=eL (List.replicate n a):=by simp[eL]
theorem Yg {α:Type} [BEq α] [LawfulBEq α] {a b:α} (h:(a==b)=false):a≠b:=by simpa using h
theorem Rj {α:Type} [BEq α] [LawfulBEq α] {a b:α} (h:(a !=b)=true):a≠b:=by simpa using h
theorem Hs {α:Type} [BEq α] [LawfulBEq α] {a b:α} (h:(a !=b)=false):a=b:=by simpa using h
theorem Xi {α:Sort _} {c:Bool} {a b r:α} (h:c=true) (e:a=r):(bif c then a else b)=r:=by subst h;exact e
theorem Qk {α:Sort _} {c:Bool} {a b r:α} (h:c=false) (e:b=r):(bif c then a else b)=r:=by subst h;exact e
def lt {α R:Type} (t:α) (f:α->R):R:=f t
theorem E9 {α R:Type} {t v:α} {f:α->R} {r:R} (h:t=v) (e:f v=r):lt t f=r:=by subst h;exact e
inductive Rd (R S T:Type) where
 | next (s:S)
 | brk (t:T)
 | ret (r:R)
inductive Out (R T:Type) where
 | brk (t:T)
 | ret (r:R)
def Out.on {R T:Type} (o:Out R T) (f:T->R):R:=match o with
 | .brk t=>f t
 | .ret r=>r
theorem V4 {R T:Type} {o:Out R T} {f:T->R} {t:T} {r:R} (h:o= .brk t) (e:f t=r):o.on f=r:=by subst h;exact e
theorem N7 {R T:Type} {o:Out R T} {f:T->R} {r:R} (h:o= .ret r):o.on f=r:=by subst h;rfl
def Yt {α R S T:Type} (f:Nat->α->S->Rd R S T) (e:Nat->S->T):List α->Nat->S->Out R T
 | [],k,s=> .brk (e k s)
 | a::l,k,s=>match f k a s with
   | .next s'=>Yt f e l (k+1) s'
   | .brk t=> .brk t
   | .ret r=> .ret r
def Jn {R S T:Type} (f:Nat->S->Rd R S T) (e:Nat->S->T):Nat->Nat->S->Out R T
 | 0,k,s=> .brk (e k s)
 | n+1,k,s=>match f k s with
   | .next s'=>Jn f e n (k+1) s'
   | .brk t=> .brk t
   | .ret r=> .ret r
section
variable {α R S T:Type} {f:Nat->α->S->Rd R S T} {e:Nat->S->T} {l:List α} {k:Nat} {s:S} {a:α} {o:Out R T}
theorem UD (h:l[k]? =some a):l.drop k=a::l.drop (k+1):=by
 obtain ⟨hlt,rfl⟩:=List.getElem?_eq_some_iff.1 h;exact List.drop_eq_getElem_cons hlt
theorem Xl {s':S} (hx:l[k]? =some a) (h:f k a s= .next s') (hI:o=Yt f e (l.drop k) k s):o=Yt f e (l.drop (k+1)) (k+1) s':=by
 rw[hI,UD hx];simp only[Yt,h]
theorem PD {t:T} (hx:l[k]? =some a) (h:f k a s= .brk t) (hI:o=Yt f e (l.drop k) k s):o= .brk t:=by
 rw[hI,UD hx];simp only[Yt,h]
theorem Kh {r:R} (hx:l[k]? =some a) (h:f k a s= .ret r) (hI:o=Yt f e (l.drop k) k s):o= .ret r:=by
 rw[hI,UD hx];simp only[Yt,h]
theorem Yn {t:T} (hk:k=l.length) (h:e k s=t) (hI:o=Yt f e (l.drop k) k s):o= .brk t:=by
 rw[hI,hk,List.drop_length,←hk];simp only[Yt,h]
end
section
variable {R S T:Type} {f:Nat->S->Rd R S T} {e:Nat->S->T} {n k:Nat} {s:S} {o:Out R T}
theorem Zu {s':S} (hk:k<n) (h:f k s= .next s') (hI:o=Jn f e (n-k) k s):o=Jn f e (n-(k+1)) (k+1) s':=by
 rw[hI,show n-k=n-(k+1)+1 by omega];simp only[Jn,h]
theorem La {r:R} (hk:k<n) (h:f k s= .ret r) (hI:o=Jn f e (n-k) k s):o= .ret r:=by
 rw[hI,show n-k=n-(k+1)+1 by omega];simp only[Jn,h]
theorem Up {t:T} (hk:k=n) (h:e k s=t) (hI:o=Jn f e (n-k) k s):o= .brk t:=by
 rw[hI,hk,Nat.sub_self,←hk];simp only[Jn,h]
end
def whl {R S T:Type} (f:S->Rd R S T):Nat->S->Option (Out R T)
 | 0,_=>none
 | n+1,s=>match f s with
   | .next s'=>whl f n s'
   | .brk t=>some (.brk t)
   | .ret r=>some (.ret r)
section
variable {R S T:Type} {f:S->Rd R S T} {n:Nat} {s:S} {o:Out R T}
theorem PE {s':S} (h:f s= .next s') (hI:whl f (n+1) s=some o):whl f n s'=some o:=by simpa only[whl,h] using hI
theorem Qaz {t:T} (h:f s= .brk t) (hI:whl f (n+1) s=some o):o= .brk t:=by simp only[whl,h] at hI;exact (Option.some.inj hI).symm
theorem Qa0 {r:R} (h:f s= .ret r) (hI:whl f (n+1) s=some o):o= .ret r:=by simp only[whl,h] at hI;exact (Option.some.inj hI).symm
end
instance {R T:Type} [Inhabited T]:Inhabited (Out R T):=⟨.brk default⟩
def JH {R S T:Type} [Inhabited T] (f:S->Rd R S T) (n:Nat) (s:S):Out R T:=(whl f n s).getD default
theorem Ou {R S T:Type} [Inhabited T] {f:S->Rd R S T} {n:Nat} {s:S} (h:(whl f n s).isSome=true):whl f n s=some (JH f n s):=by
 unfold JH;cases hw:whl f n s with
 | none=>rw[hw] at h;cases h
 | some o=>rfl
theorem XN {R S T:Type} {f:S->Rd R S T} {s:S} {o:Out R T}:¬whl f 0 s=some o:=by simp[whl]
def QL (id:Nat) (A B:St->Prop) (Q:Exit->St->Prop):Exit->St->Prop
 | .normal,s=>A s
 | .exit i,s=>bif Nat.beq i id then B s else Q (.exit i) s
 | e,s=>Q e s
section
variable {P:Program} {N:Nat} {w0:Base} {F0:Nat->Prop} {Q:Exit->St->Prop} {s s':St} {c:Code} {σ τ:Type} {id:Nat}
theorem K0 (mk:Nat->σ->St) (after:τ->St) (I:Nat->σ->Prop) (D:τ->Prop) (len:Nat) (x0:σ) (h0:Weak s (mk 0 x0)) (i0:I 0 x0)
 (hr:∀k x,k<len->I k x->AWP P N w0 F0 c (QL id (fun s'=>∃x',Weak s' (mk (k+1) x')/\I (k+1) x') (fun s'=>∃y,Weak s' (after y)/\D y) Q) (mk k x))
 (he:∀k x,k=len->I k x->AWP P N w0 F0 c (QL id (fun _=>False) (fun s'=>∃y,Weak s' (after y)/\D y) Q) (mk k x))
 (ha:∀y,D y->Q .normal (after y)):AWP P N w0 F0 (.block id (.loop c)) Q s:=by
 refine Qy (Au h0 (ON (fun n s=>∃k x,k<=len/\n=len-k/\s=mk k x/\I k x) (n:=len) ⟨0,x0,Nat.zero_le _,by omega,rfl,i0⟩ ?_))
 rintro n _ ⟨k,x,hk,rfl,rfl,hi⟩
 have hex:∀(A:St->Prop) (i:Nat) (s':St),QL id A (fun s'=>∃y,Weak s' (after y)/\D y) Q (.exit i) s'->∀(J:Inj) (a:Act) (w:World),Rel N w0 F0 J a w s'->∃J s,Rel N w0 F0 J a w s/\Exit.inBlockS id Q (.exit i) s:=by
  intro A i s' hq J a w hR;simp only[QL] at hq;cases hb:Nat.beq i id with
  | true=>
    rw[hb] at hq;obtain ⟨y,hw,hd⟩:=hq;obtain ⟨J',hR'⟩:=hw N w0 F0 J a w hR;exact ⟨J',_,hR',by simp only[Exit.inBlockS,hb,cond_true];exact ha y hd⟩
  | false=>
    rw[hb] at hq;exact ⟨J,s',hR,by simp only[Exit.inBlockS,hb,cond_false];exact hq⟩
 intro J a w hrel;by_cases h:k<len
 . refine wp_mono (hr k x h hi J a w hrel) ?_
   rintro e a' w' ⟨J',s',hR,hq⟩
   cases e with
   | normal=>
     obtain ⟨x',hw,hi'⟩:=hq;exact ⟨J',s',hR,len-(k+1),_,by omega,hw,k+1,x',by omega,rfl,rfl,hi'⟩
   | exit i=>exact hex _ i s' hq J' a' w' hR
   | _=>exact ⟨J',s',hR,hq⟩
 obtain rfl:k=len:=by omega
 refine wp_mono (he _ x rfl hi J a w hrel) ?_
 rintro e a' w' ⟨J',s',hR,hq⟩
 cases e with
 | normal=>exact hq.elim
 | exit i=>exact hex _ i s' hq J' a' w' hR
 | _=>exact ⟨J',s',hR,hq⟩
theorem DD (mk:σ->St) (after:τ->St) (I:Nat->σ->Prop) (D:τ->Prop) (n:Nat) (x0:σ) (h0:Weak s (mk x0)) (i0:I n x0) (hz:∀x,¬I 0 x)
 (hr:∀n x,I (n+1) x->AWP P N w0 F0 c (QL id (fun s'=>∃x',Weak s' (mk x')/\I n x') (fun s'=>∃y,Weak s' (after y)/\D y) Q) (mk x))
 (ha:∀y,D y->Q .normal (after y)):AWP P N w0 F0 (.block id (.loop c)) Q s:=by
 refine K0 (fun _=>mk) after (fun k x=>∃m,m+k=n/\I m x) D n x0 h0 ⟨n,rfl,i0⟩ (fun k x hk ⟨m,hm,hi⟩=> ?_) (fun k x hk ⟨m,hm,hi⟩=> ?_) ha
 . obtain ⟨m,rfl⟩:∃j,m=j+1:=⟨m-1,by omega⟩;refine OM (hr m x hi) fun e s' hq=> ?_
   cases e with
   | normal=>obtain ⟨x',hw,hi'⟩:=hq;exact ⟨x',hw,m,by omega,hi'⟩
   | _=>exact hq
 obtain rfl:m=0:=by omega
 exact (hz x hi).elim
def QJ (s3:St) (e:Exit) (s':St):Prop:=e= .normal/\Weak s' s3
theorem PF (s3:St) (b:Bool) (h1:b=true->AWP P N w0 F0 c (QJ s3) s) (h0:b=false->AWP P N w0 F0 c (QJ s3) s) (hQ:Q .normal s3):AWP P N w0 F0 c Q s:=by
 have key:AWP P N w0 F0 c (QJ s3) s:=by cases hb:b with
  | true=>exact h1 hb
  | false=>exact h0 hb
 intro J a w hr;refine wp_mono (key J a w hr) ?_
 rintro e a' w' ⟨J',s',hR,rfl,hw⟩
 obtain ⟨J2,hR2⟩:=hw N w0 F0 J' a' w' hR;exact ⟨J2,s3,hR2,hQ⟩
theorem GS (e:s=s'):Weak s s':=e▸Weak.refl s
theorem Xr (b:Bool) (h1:b=true->AWP P N w0 F0 c Q s) (h0:b=false->AWP P N w0 F0 c Q s):AWP P N w0 F0 c Q s:=by cases hb:b with
 | true=>exact h1 hb
 | false=>exact h0 hb
theorem GT {t:Nat} {x y:Code} (hc:get s.tm t=some (.one (.bool true))) (h1:AWP P N w0 F0 x Q s):AWP P N w0 F0 (.cond (.tmp t) x y) Q s:=Iz hc (fun _=>h1) (fun h=>by cases h)
theorem Lb {t:Nat} {x y:Code} (hc:get s.tm t=some (.one (.bool false))) (h1:AWP P N w0 F0 y Q s):AWP P N w0 F0 (.cond (.tmp t) x y) Q s:=Iz hc (fun h=>by cases h) (fun _=>h1)
theorem DE {t:Nat} {x y:Code} {b:Bool} (hc:get s.tm t=some (.one (.bool b))) (hb:b=true) (h1:AWP P N w0 F0 x Q s):AWP P N w0 F0 (.cond (.tmp t) x y) Q s:=Iz hc (fun _=>h1) (fun h=>absurd (hb.symm.trans h) (by decide))
theorem DF {t:Nat} {x y:Code} {b:Bool} (hc:get s.tm t=some (.one (.bool b))) (hb:b=false) (h1:AWP P N w0 F0 y Q s):AWP P N w0 F0 (.cond (.tmp t) x y) Q s:=Iz hc (fun h=>absurd (hb.symm.trans h) (by decide)) (fun _=>h1)
end
theorem Rk {a b:Bool} (h:(a&&b)=true):a=true:=by cases a<;>simp_all
theorem N8 {a b:Bool} (h:(a&&b)=true):b=true:=by cases a<;>simp_all
theorem UE {a b:Bool} (h:(a|| b)=false):a=false:=by cases a<;>simp_all
theorem UF {a b:Bool} (h:(a|| b)=false):b=false:=by cases a<;>simp_all
theorem Vz {b:Bool} (h:(!b)=true):b=false:=by cases b<;>simp_all
theorem Jb {b:Bool} (h:(!b)=false):b=true:=by cases b<;>simp_all
def Qa1 {α:Type} (d:List Nat):List (Nat×α)->List (Nat×α)
 | []=> []
 | p::r=>bif C9 p.1 d then Qa1 d r else p::Qa1 d r
def Qe1 {α:Type} (u:List (Nat×α)) (d:List Nat) (l:List (Nat×α)):List (Nat×α):=u++Qa1 d l
def D2 {α:Type}:List (Nat×α)->List Nat
 | []=> []
 | p::r=>p.1::D2 r
def St.up (s:St) (u:List (Nat×AV)) (d:List Nat) (bu:List (Nat×List C)) (bd:List Nat):St:=⟨Qe1 u d s.tm,Qe1 bu bd s.bx⟩
def St.fit (s s':St):St:=s.keep (D2 s'.tm) (D2 s'.bx)
theorem Qd {s s':St} (h:s.fit s'=s'):Weak s s':=Ra _ _ h
def St.cellT (s:St) (t i:Nat):Option C:=match get s.tm t with
 | some (.one c)=>(match i with | 0=>some c | _=>none)
 | some (.agg cs)=>cs[i]?
 | _=>none
def St.cellB (s:St) (b i:Nat):Option C:=match get s.bx b with
 | some cs=>cs[i]?
 | _=>none
section
variable {P:Program} {N:Nat} {w0:Base} {F0:Nat->Prop} {Q:Exit->St->Prop} {s:St} {c:Code}
theorem ck {t:Nat} {x y:Code} (b:Bool) (h1:b=true->AWP P N w0 F0 x Q s) (h2:b=false->AWP P N w0 F0 y Q s) (hc:get s.tm t=some (.one (.bool b)):=by kernel_rfl):AWP P N w0 F0 (.cond (.tmp t) x y) Q s:=Iz hc h1 h2
theorem ckT {t:Nat} {x y:Code} (h1:AWP P N w0 F0 x Q s) (hc:get s.tm t=some (.one (.bool true)):=by kernel_rfl):AWP P N w0 F0 (.cond (.tmp t) x y) Q s:=GT hc h1
theorem ckF {t:Nat} {x y:Code} (h1:AWP P N w0 F0 y Q s) (hc:get s.tm t=some (.one (.bool false)):=by kernel_rfl):AWP P N w0 F0 (.cond (.tmp t) x y) Q s:=Lb hc h1
theorem ckt {t:Nat} {x y:Code} {b:Bool} (hb:b=true) (h1:AWP P N w0 F0 x Q s) (hc:get s.tm t=some (.one (.bool b)):=by kernel_rfl):AWP P N w0 F0 (.cond (.tmp t) x y) Q s:=DE hc hb h1
theorem ckf {t:Nat} {x y:Code} {b:Bool} (hb:b=false) (h1:AWP P N w0 F0 y Q s) (hc:get s.tm t=some (.one (.bool b)):=by kernel_rfl):AWP P N w0 F0 (.cond (.tmp t) x y) Q s:=DF hc hb h1
theorem jn (u:List (Nat×AV)) (d:List Nat) (bu:List (Nat×List C)) (bd:List Nat) (b:Bool) (h1:b=true->AWP P N w0 F0 c (QJ (s.up u d bu bd)) s) (h0:b=false->AWP P N w0 F0 c (QJ (s.up u d bu bd)) s) (hQ:Q .normal (s.up u d bu bd)):AWP P N w0 F0 c Q s:=PF _ b h1 h0 hQ
theorem eqn (u:List (Nat×AV)) (d:List Nat) (bu:List (Nat×List C)) (bd:List Nat) (h:s.fit (s.up u d bu bd)=s.up u d bu bd) (k:AWP P N w0 F0 c Q (s.up u d bu bd)):AWP P N w0 F0 c Q s:=Au (Qd h) k
theorem GU {J:Inj} {a:Act} {w:World} (h:Rel N w0 F0 J a w s) {t i:Nat} {x:C} (hc:s.cellT t i=some x):∃u,CR J w u x:=by
 unfold St.cellT at hc;split at hc
 . rename_i y hg;split at hc
   . obtain rfl:=Option.some.inj hc;exact ⟨_,h.tm t _ hg⟩
   cases hc
 . rename_i cs hg;obtain ⟨vs,_,ha⟩:=h.tm t _ hg;obtain ⟨u,_,hu⟩:=ha.get' hc;exact ⟨u,hu⟩
 cases hc
theorem Qa2 {J:Inj} {a:Act} {w:World} (h:Rel N w0 F0 J a w s) {b i:Nat} {x:C} (hc:s.cellB b i=some x):∃u,CR J w u x:=by
 unfold St.cellB at hc;split at hc
 . rename_i cs hg;obtain ⟨_,_,_,arr,e,_,ha⟩:=h.bo b _ hg;obtain ⟨u,_,hu⟩:=ha.get' hc;exact ⟨u,hu⟩
 cases hc
theorem wdT {α:Type} [GoE α] (t i:Nat) (tok:Tok) (l:List α) (k:wide l->AWP P N w0 F0 c Q s) (h:s.cellT t i=some (.slc tok (GoD.n α) (eL l)):=by kernel_rfl):AWP P N w0 F0 c Q s:=fun J a w hr=>k (by obtain ⟨u,hu⟩:=GU hr h;exact JG hu) J a w hr
theorem wdB {α:Type} [GoE α] (b i:Nat) (tok:Tok) (l:List α) (k:wide l->AWP P N w0 F0 c Q s) (h:s.cellB b i=some (.slc tok (GoD.n α) (eL l)):=by kernel_rfl):AWP P N w0 F0 c Q s:=fun J a w hr=>k (by obtain ⟨u,hu⟩:=Qa2 hr h;exact JG hu) J a w hr
theorem stT (t i:Nat) (x:ByteArray) (k:x.size<=9223372036854775807->AWP P N w0 F0 c Q s) (h:s.cellT t i=some (.str x):=by kernel_rfl):AWP P N w0 F0 c Q s:=fun J a w hr=>k (by obtain ⟨u,hu⟩:=GU hr h;exact hu.2) J a w hr
theorem blk {σ τ:Type} {id:Nat} (u:Nat->σ->List (Nat×AV)) (d:List Nat) (bu:Nat->σ->List (Nat×List C)) (bd:List Nat) (ua:τ->List (Nat×AV)) (da:List Nat) (ba:τ->List (Nat×List C)) (bda:List Nat) (I:Nat->σ->Prop) (D:τ->Prop) (len:Nat) (x0:σ)
 (h0:Weak s (s.up (u 0 x0) d (bu 0 x0) bd)) (i0:I 0 x0)
 (hr:∀k x,k<len->I k x->AWP P N w0 F0 c (QL id (fun s'=>∃x',Weak s' (s.up (u (k+1) x') d (bu (k+1) x') bd)/\I (k+1) x') (fun s'=>∃y,Weak s' (s.up (ua y) da (ba y) bda)/\D y) Q) (s.up (u k x) d (bu k x) bd))
 (he:∀k x,k=len->I k x->AWP P N w0 F0 c (QL id (fun _=>False) (fun s'=>∃y,Weak s' (s.up (ua y) da (ba y) bda)/\D y) Q) (s.up (u k x) d (bu k x) bd))
 (ha:∀y,D y->Q .normal (s.up (ua y) da (ba y) bda)):AWP P N w0 F0 (.block id (.loop c)) Q s:=K0 _ _ I D len x0 h0 i0 hr he ha
theorem blw {σ τ:Type} {id:Nat} (u:σ->List (Nat×AV)) (d:List Nat) (bu:σ->List (Nat×List C)) (bd:List Nat) (ua:τ->List (Nat×AV)) (da:List Nat) (ba:τ->List (Nat×List C)) (bda:List Nat) (I:Nat->σ->Prop) (D:τ->Prop) (n:Nat) (x0:σ)
 (h0:Weak s (s.up (u x0) d (bu x0) bd)) (i0:I n x0) (hz:∀x,¬I 0 x)
 (hr:∀n x,I (n+1) x->AWP P N w0 F0 c (QL id (fun s'=>∃x',Weak s' (s.up (u x') d (bu x') bd)/\I n x') (fun s'=>∃y,Weak s' (s.up (ua y) da (ba y) bda)/\D y) Q) (s.up (u x) d (bu x) bd))
 (ha:∀y,D y->Q .normal (s.up (ua y) da (ba y) bda)):AWP P N w0 F0 (.block id (.loop c)) Q s:=DD _ _ I D n x0 h0 i0 hz hr ha
end
theorem Jr {a b:Int} (h:a=b):AV.i a=AV.i b:=h▸rfl
theorem cb {P:Program} {f:Nat} {args:List AV} {a b:Bool} (h:a=b) (c:ACalls P f args (.b a)):ACalls P f args (.b b):=h▸c
theorem Ys {s s':St} (sw:List (Nat×Nat)) (h:(s.swaps sw).fit s'=s'):Weak s s':=(Th sw s).trans (Qd h)
theorem M3 {s s':St} (os:List (Bool×Nat×Nat×Bool×Nat×Nat)) (fz ds:List Nat) (sw:List (Nat×Nat)) (h:((((s.opens os).map (Jq (Xo fz) none)).demotes ds).swaps sw).fit s'=s'):Weak s s':=
 (Mu os s).trans ((Ww fz rfl).trans ((E0 ds _).trans (Ys sw h)))
theorem opn {P:Program} {N:Nat} {w0:Base} {F0:Nat->Prop} {Q:Exit->St->Prop} {s:St} {c:Code} (l:List (Bool×Nat×Nat×Bool×Nat×Nat)) (h:AWP P N w0 F0 c Q (s.opens l)):AWP P N w0 F0 c Q s:=FU l rfl h
open GoE (enc wide)
def PL (A:Nat->List AV->AV->Prop) (T:TakeT) (_:List (Nat×Orc)) (obs:List Ob):Prop:=AllOb A T obs
section
variable {A:Nat->List AV->AV->Prop} {T:TakeT} {orcs:List (Nat×Orc)} {obs:List Ob}
theorem Df {x:Ob} {r:List Ob} (h:x.holds A T) (k:AllOb A T r):AllOb A T (x::r):=by
 cases r with
 | nil=>exact h
 | cons y r=>exact ⟨h,k⟩
theorem p0:PL A T [] []:=trivial
theorem px {x:Ob} (h:x.holds A T) (k:PL A T orcs obs):PL A T orcs (x::obs):=Df h k
theorem po (i:Nat) (o:Orc) (k:PL A T orcs obs):PL A T ((i,o)::orcs) obs:=k
theorem pe (i:Nat) {a b:AV} (h:a=b) (k:PL A T orcs obs):PL A T ((i, .val b)::orcs) (.eq a b::obs):=Df (x:= .eq a b) h k
theorem pr (i:Nat) {l:List (List PV)} {j:Int} {r:List PV} (h:0<=j/\l[j.toNat]? =some r) (k:PL A T orcs obs):PL A T ((i, .row r)::orcs) (.elem l j r::obs):=Df (x:= .elem l j r) h k
theorem pR (i:Nat) {l:List (List PV)} {j:Int} {r:List PV} (h:0<=j/\l[j.toNat]? =some r) (k:PL A T orcs obs):PL A T ((i, .rowE r)::orcs) (.elem l j r::obs):=Df (x:= .elem l j r) h k
end
section
variable {P:Program} {w0:Base} {T:TakeT} {orcs:List (Nat×Orc)} {obs:List Ob}
theorem pc [GoodAt P w0] (i:Nat) {f:Nat} {args:List AV} {r:AV} (h:ACalls P f args r) (k:PL (X9 P w0) T orcs obs):PL (X9 P w0) T ((i, .val r)::orcs) (.call f args r::obs):=Df (Cz h) k
end
section
variable {A:Nat->List AV->AV->Prop} {T:TakeT} {orcs:List (Nat×Orc)} {obs:List Ob}
theorem pl (i:Nat) {α:Type} [GoE α] (l:List α) (k:PL A T orcs obs):PL A T ((i, .val (.i (l.length:Int)))::orcs) (.eq (.one (.int .i64 ((eL l).length:Int))) (.i (l.length:Int))::obs):=pe i (Qc1 l) k
theorem pt (i:Nat) {b:Bool} (h:b=true) (k:PL A T orcs obs):PL A T ((i, .val (.b true))::orcs) (.eq (.one (.bool b)) (.b true)::obs):=pe i (Qz h) k
theorem pf (i:Nat) {b:Bool} (h:b=false) (k:PL A T orcs obs):PL A T ((i, .val (.b false))::orcs) (.eq (.one (.bool b)) (.b false)::obs):=pe i (Qz h) k
theorem pg (i:Nat) {α:Type} [GoE α] {l:List α} (j:Int) {k:Nat} {a:α} (h:l[k]? =some a) (r:PL A T orcs obs) (h0:0<=j:=by omega) (hk:j.toNat=k:=by rfl):PL A T ((i, .row (enc a))::orcs) (.elem (eL l) j (enc a)::obs):=pr i (DC h0 hk h) r
theorem pG (i:Nat) {α:Type} [GoE α] {l:List α} (j:Int) {k:Nat} {a:α} (h:l[k]? =some a) (r:PL A T orcs obs) (h0:0<=j:=by omega) (hk:j.toNat=k:=by rfl):PL A T ((i, .rowE (enc a))::orcs) (.elem (eL l) j (enc a)::obs):=pR i (DC h0 hk h) r
theorem pn (i:Nat) {α:Type} [GoE α] {l:List α} {k:Nat} {a:α} (h:l[k]? =some a) (r:PL A T orcs obs):PL A T ((i, .row (enc a))::orcs) (.elem (eL l) (k:Int) (enc a)::obs):=pr i (DC (Int.natCast_nonneg k) rfl h) r
theorem pN (i:Nat) {α:Type} [GoE α] {l:List α} {k:Nat} {a:α} (h:l[k]? =some a) (r:PL A T orcs obs):PL A T ((i, .rowE (enc a))::orcs) (.elem (eL l) (k:Int) (enc a)::obs):=pR i (DC (Int.natCast_nonneg k) rfl h) r
theorem pa {α:Type} [GoE α] (a b:List α) (r:PL A T orcs obs) (h:a.length+b.length<=1073741824:=by first | omega | (simp only[List.length_cons,List.length_nil];omega) | (simp;omega) | simp):PL A T orcs (.len ((eL a).length+(eL b).length)::obs):=px (I4 (Nw (Yv a) (Yv b) h)) r
end
def nx (tt:List (Nat×TI)) (N:Nat) (orcs:List (Nat×Orc)) (ops:List Oper) (ts bs:List Nat) (s:St):St:=match Ef tt N orcs ops ops 0 s with
 | some (s',_)=>s'.keep ts bs
 | none=>s
def nd (tt:List (Nat×TI)) (N:Nat) (orcs:List (Nat×Orc)) (ops:List Oper) (ts bs:List Nat) (s:St):St:=match Hr tt N orcs ops ts bs s with
 | some (s',_)=>s'
 | none=>s
def hd (x _:St):St:=x
section
variable {P:Program} {N:Nat} {w0:Base} {F0:Nat->Prop} {Q:Exit->St->Prop} {s x:St} {c y:Code} {tt:List (Nat×TI)} {orcs:List (Nat×Orc)} {obs:List Ob} {id:Nat} {ops:Array Oper}
theorem rn0 (htt:Aq P tt=true) (ts bs:List Nat) (hob:PL (X9 P w0) (Z8 P w0) orcs obs) (hQ:Q .normal (nx tt N orcs ops.toList ts bs s))
 (h:(Ef tt N orcs ops.toList ops.toList 0 s).map Prod.snd=some obs):AWP P N w0 F0 (.region id ops false) Q s:=by
 cases hr:Ef tt N orcs ops.toList ops.toList 0 s with
 | none=>rw[hr] at h;cases h
 | some x=>
   obtain ⟨s',obs'⟩:=x;rw[hr] at h;obtain rfl:obs'=obs:=Option.some.inj h;refine Y4 htt orcs ts bs (s':=nx tt N orcs ops.toList ts bs s) ?_ hob hQ;unfold Js nx;rw[hr]
theorem rN0 (htt:Aq P tt=true) (hm:P.follows .mixedOrders=true) (ts bs:List Nat) (hob:PL (X9 P w0) (Z8 P w0) orcs obs) (hQ:Q .normal (nd tt N orcs ops.toList ts bs s))
 (h:(Hr tt N orcs ops.toList ts bs s).map Prod.snd=some obs):AWP P N w0 F0 (.region id ops true) Q s:=by
 cases hr:Hr tt N orcs ops.toList ts bs s with
 | none=>rw[hr] at h;cases h
 | some x=>
   obtain ⟨s',obs'⟩:=x;rw[hr] at h;obtain rfl:obs'=obs:=Option.some.inj h;refine Ot htt hm orcs ts bs (s':=nd tt N orcs ops.toList ts bs s) ?_ hob hQ;unfold nd;rw[hr]
theorem rn (htt:Aq P tt=true) (ts bs:List Nat) (hob:PL (X9 P w0) (Z8 P w0) orcs obs) (hQ:Q .normal (hd (nx tt N orcs ops.toList ts bs s) s))
 (h:(Ef tt N orcs ops.toList ops.toList 0 s).map Prod.snd=some obs:=by kernel_rfl):AWP P N w0 F0 (.region id ops false) Q s:=rn0 htt ts bs (s:=s) hob hQ h
theorem sn (htt:Aq P tt=true) (ts bs:List Nat) (hob:PL (X9 P w0) (Z8 P w0) orcs obs) (hQ:AWP P N w0 F0 y Q (hd (nx tt N orcs ops.toList ts bs s) s))
 (h:(Ef tt N orcs ops.toList ops.toList 0 s).map Prod.snd=some obs:=by kernel_rfl):AWP P N w0 F0 (.seq (.region id ops false) y) Q s:=Qc (rn htt ts bs hob hQ h)
theorem ru (htt:Aq P tt=true) (u:List (Nat×AV)) (d:List Nat) (bu:List (Nat×List C)) (bd:List Nat) (hob:PL (X9 P w0) (Z8 P w0) orcs obs) (hQ:Q .normal (s.up u d bu bd))
 (h:Js tt N orcs ops.toList (D2 (s.up u d bu bd).tm) (D2 (s.up u d bu bd).bx) s=some (s.up u d bu bd,obs):=by kernel_rfl):AWP P N w0 F0 (.region id ops false) Q s:=Y4 htt orcs _ _ (s:=s) h hob hQ
theorem su (htt:Aq P tt=true) (u:List (Nat×AV)) (d:List Nat) (bu:List (Nat×List C)) (bd:List Nat) (hob:PL (X9 P w0) (Z8 P w0) orcs obs) (hQ:AWP P N w0 F0 y Q (s.up u d bu bd))
 (h:Js tt N orcs ops.toList (D2 (s.up u d bu bd).tm) (D2 (s.up u d bu bd).bx) s=some (s.up u d bu bd,obs):=by kernel_rfl):AWP P N w0 F0 (.seq (.region id ops false) y) Q s:=Qc (ru htt u d bu bd hob hQ h)
theorem rN (htt:Aq P tt=true) (hm:P.follows .mixedOrders=true) (ts bs:List Nat) (hob:PL (X9 P w0) (Z8 P w0) orcs obs) (hQ:Q .normal (hd (nd tt N orcs ops.toList ts bs s) s))
 (h:(Hr tt N orcs ops.toList ts bs s).map Prod.snd=some obs:=by kernel_rfl):AWP P N w0 F0 (.region id ops true) Q s:=rN0 htt hm ts bs (s:=s) hob hQ h
theorem sN (htt:Aq P tt=true) (hm:P.follows .mixedOrders=true) (ts bs:List Nat) (hob:PL (X9 P w0) (Z8 P w0) orcs obs) (hQ:AWP P N w0 F0 y Q (hd (nd tt N orcs ops.toList ts bs s) s))
 (h:(Hr tt N orcs ops.toList ts bs s).map Prod.snd=some obs:=by kernel_rfl):AWP P N w0 F0 (.seq (.region id ops true) y) Q s:=Qc (rN htt hm ts bs hob hQ h)
theorem rU (htt:Aq P tt=true) (hm:P.follows .mixedOrders=true) (u:List (Nat×AV)) (d:List Nat) (bu:List (Nat×List C)) (bd:List Nat) (hob:PL (X9 P w0) (Z8 P w0) orcs obs) (hQ:Q .normal (s.up u d bu bd))
 (h:Hr tt N orcs ops.toList (D2 (s.up u d bu bd).tm) (D2 (s.up u d bu bd).bx) s=some (s.up u d bu bd,obs):=by kernel_rfl):AWP P N w0 F0 (.region id ops true) Q s:=Ot htt hm orcs _ _ (s:=s) h hob hQ
theorem sU (htt:Aq P tt=true) (hm:P.follows .mixedOrders=true) (u:List (Nat×AV)) (d:List Nat) (bu:List (Nat×List C)) (bd:List Nat) (hob:PL (X9 P w0) (Z8 P w0) orcs obs) (hQ:AWP P N w0 F0 y Q (s.up u d bu bd))
 (h:Hr tt N orcs ops.toList (D2 (s.up u d bu bd).tm) (D2 (s.up u d bu bd).bx) s=some (s.up u d bu bd,obs):=by kernel_rfl):AWP P N w0 F0 (.seq (.region id ops true) y) Q s:=Qc (rU htt hm u d bu bd hob hQ h)
theorem qn (htt:Aq P tt=true) (ts bs:List Nat) (hob:PL (X9 P w0) (Z8 P w0) orcs obs) (hQ:Q .normal (hd (nx tt N orcs ops.toList ts bs x) s))
 (h:(Ef tt N orcs ops.toList ops.toList 0 x).map Prod.snd=some obs:=by kernel_rfl):AWP P N w0 F0 (.region id ops false) Q (hd x s):=rn0 htt ts bs (s:=x) hob hQ h
theorem tn (htt:Aq P tt=true) (ts bs:List Nat) (hob:PL (X9 P w0) (Z8 P w0) orcs obs) (hQ:AWP P N w0 F0 y Q (hd (nx tt N orcs ops.toList ts bs x) s))
 (h:(Ef tt N orcs ops.toList ops.toList 0 x).map Prod.snd=some obs:=by kernel_rfl):AWP P N w0 F0 (.seq (.region id ops false) y) Q (hd x s):=Qc (qn htt ts bs hob hQ h)
theorem qu (htt:Aq P tt=true) (u:List (Nat×AV)) (d:List Nat) (bu:List (Nat×List C)) (bd:List Nat) (hob:PL (X9 P w0) (Z8 P w0) orcs obs) (hQ:Q .normal (s.up u d bu bd))
 (h:Js tt N orcs ops.toList (D2 (s.up u d bu bd).tm) (D2 (s.up u d bu bd).bx) x=some (s.up u d bu bd,obs):=by kernel_rfl):AWP P N w0 F0 (.region id ops false) Q (hd x s):=Y4 htt orcs _ _ (s:=x) h hob hQ
theorem tu (htt:Aq P tt=true) (u:List (Nat×AV)) (d:List Nat) (bu:List (Nat×List C)) (bd:List Nat) (hob:PL (X9 P w0) (Z8 P w0) orcs obs) (hQ:AWP P N w0 F0 y Q (s.up u d bu bd))
 (h:Js tt N orcs ops.toList (D2 (s.up u d bu bd).tm) (D2 (s.up u d bu bd).bx) x=some (s.up u d bu bd,obs):=by kernel_rfl):AWP P N w0 F0 (.seq (.region id ops false) y) Q (hd x s):=Qc (qu htt u d bu bd hob hQ h)
theorem qN (htt:Aq P tt=true) (hm:P.follows .mixedOrders=true) (ts bs:List Nat) (hob:PL (X9 P w0) (Z8 P w0) orcs obs) (hQ:Q .normal (hd (nd tt N orcs ops.toList ts bs x) s))
 (h:(Hr tt N orcs ops.toList ts bs x).map Prod.snd=some obs:=by kernel_rfl):AWP P N w0 F0 (.region id ops true) Q (hd x s):=rN0 htt hm ts bs (s:=x) hob hQ h
theorem tN (htt:Aq P tt=true) (hm:P.follows .mixedOrders=true) (ts bs:List Nat) (hob:PL (X9 P w0) (Z8 P w0) orcs obs) (hQ:AWP P N w0 F0 y Q (hd (nd tt N orcs ops.toList ts bs x) s))
 (h:(Hr tt N orcs ops.toList ts bs x).map Prod.snd=some obs:=by kernel_rfl):AWP P N w0 F0 (.seq (.region id ops true) y) Q (hd x s):=Qc (qN htt hm ts bs hob hQ h)
theorem qU (htt:Aq P tt=true) (hm:P.follows .mixedOrders=true) (u:List (Nat×AV)) (d:List Nat) (bu:List (Nat×List C)) (bd:List Nat) (hob:PL (X9 P w0) (Z8 P w0) orcs obs) (hQ:Q .normal (s.up u d bu bd))
 (h:Hr tt N orcs ops.toList (D2 (s.up u d bu bd).tm) (D2 (s.up u d bu bd).bx) x=some (s.up u d bu bd,obs):=by kernel_rfl):AWP P N w0 F0 (.region id ops true) Q (hd x s):=Ot htt hm orcs _ _ (s:=x) h hob hQ
theorem tU (htt:Aq P tt=true) (hm:P.follows .mixedOrders=true) (u:List (Nat×AV)) (d:List Nat) (bu:List (Nat×List C)) (bd:List Nat) (hob:PL (X9 P w0) (Z8 P w0) orcs obs) (hQ:AWP P N w0 F0 y Q (s.up u d bu bd))
 (h:Hr tt N orcs ops.toList (D2 (s.up u d bu bd).tm) (D2 (s.up u d bu bd).bx) x=some (s.up u d bu bd,obs):=by kernel_rfl):AWP P N w0 F0 (.seq (.region id ops true) y) Q (hd x s):=Qc (qU htt hm u d bu bd hob hQ h)
theorem mz (u:List (Nat×AV)) (d:List Nat) (bu:List (Nat×List C)) (bd:List Nat) (k:AWP P N w0 F0 c Q (s.up u d bu bd)) (h:x.fit (s.up u d bu bd)=s.up u d bu bd:=by kernel_rfl):AWP P N w0 F0 c Q (hd x s):=Au (s:=x) (Qd h) k
theorem wT {α:Type} [GoE α] (t i:Nat) (tok:Tok) (l:List α) (k:wide l->l.length<=1073741824->AWP P N w0 F0 c Q s) (h:s.cellT t i=some (.slc tok (GoD.n α) (eL l)):=by kernel_rfl):AWP P N w0 F0 c Q s:=wdT t i tok l (fun hw=>k hw (I9 hw)) h
theorem wB {α:Type} [GoE α] (b i:Nat) (tok:Tok) (l:List α) (k:wide l->l.length<=1073741824->AWP P N w0 F0 c Q s) (h:s.cellB b i=some (.slc tok (GoD.n α) (eL l)):=by kernel_rfl):AWP P N w0 F0 c Q s:=wdB b i tok l (fun hw=>k hw (I9 hw)) h
end
section
variable {P:Program} {N:Nat} {w0:Base} {F0:Nat->Prop} {Q:Exit->St->Prop} {s:St} {c:Code} {α R σ τ:Type} {id:Nat}
theorem Su (f:Nat->α->σ->Rd R σ τ) (e:Nat->σ->τ) (l:List α) (x0:σ) (u:Nat->σ->List (Nat×AV)) (d:List Nat) (ua:τ->List (Nat×AV)) (da:List Nat)
 (h0:Weak s (s.up (u 0 x0) d [] []))
 (hr:∀k x,k<l.length->Yt f e l 0 x0=Yt f e (l.drop k) k x->AWP P N w0 F0 c (QL id (fun s'=>∃x',Weak s' (s.up (u (k+1) x') d [] [])/\(Yt f e l 0 x0=Yt f e (l.drop (k+1)) (k+1) x')) (fun s'=>∃y,Weak s' (s.up (ua y) da [] [])/\Yt f e l 0 x0= .brk y) Q) (s.up (u k x) d [] []))
 (he:∀k x,k=l.length->Yt f e l 0 x0=Yt f e (l.drop k) k x->AWP P N w0 F0 c (QL id (fun _=>False) (fun s'=>∃y,Weak s' (s.up (ua y) da [] [])/\Yt f e l 0 x0= .brk y) Q) (s.up (u k x) d [] []))
 (ha:∀y,Yt f e l 0 x0= .brk y->Q .normal (s.up (ua y) da [] [])):AWP P N w0 F0 (.block id (.loop c)) Q s:=K0 (fun k x=>s.up (u k x) d [] []) (fun y=>s.up (ua y) da [] []) (fun k x=>Yt f e l 0 x0=Yt f e (l.drop k) k x) (fun y=>Yt f e l 0 x0= .brk y) l.length x0 h0 rfl hr he ha
theorem Qa3 (f:Nat->α->σ->Rd R σ τ) (e:Nat->σ->τ) (l:List α) (x0:σ) (u:Nat->σ->List (Nat×AV)) (d:List Nat) (ua:τ->List (Nat×AV)) (da:List Nat) (A:Nat->σ->Prop)
 (h0:Weak s (s.up (u 0 x0) d [] [])) (i0:A 0 x0)
 (hr:∀k x,k<l.length->Yt f e l 0 x0=Yt f e (l.drop k) k x/\A k x->AWP P N w0 F0 c (QL id (fun s'=>∃x',Weak s' (s.up (u (k+1) x') d [] [])/\(Yt f e l 0 x0=Yt f e (l.drop (k+1)) (k+1) x'/\A (k+1) x')) (fun s'=>∃y,Weak s' (s.up (ua y) da [] [])/\Yt f e l 0 x0= .brk y) Q) (s.up (u k x) d [] []))
 (he:∀k x,k=l.length->Yt f e l 0 x0=Yt f e (l.drop k) k x/\A k x->AWP P N w0 F0 c (QL id (fun _=>False) (fun s'=>∃y,Weak s' (s.up (ua y) da [] [])/\Yt f e l 0 x0= .brk y) Q) (s.up (u k x) d [] []))
 (ha:∀y,Yt f e l 0 x0= .brk y->Q .normal (s.up (ua y) da [] [])):AWP P N w0 F0 (.block id (.loop c)) Q s:=K0 (fun k x=>s.up (u k x) d [] []) (fun y=>s.up (ua y) da [] []) (fun k x=>Yt f e l 0 x0=Yt f e (l.drop k) k x/\A k x) (fun y=>Yt f e l 0 x0= .brk y) l.length x0 h0 ⟨rfl,i0⟩ hr he ha
theorem Qfc (f:Nat->α->σ->Rd R σ τ) (e:Nat->σ->τ) (l:List α) (x0:σ) (u:Nat->σ->List (Nat×AV)) (d:List Nat) (ua:τ->List (Nat×AV)) (da:List Nat) (B:τ->Prop)
 (h0:Weak s (s.up (u 0 x0) d [] []))
 (hr:∀k x,k<l.length->Yt f e l 0 x0=Yt f e (l.drop k) k x->AWP P N w0 F0 c (QL id (fun s'=>∃x',Weak s' (s.up (u (k+1) x') d [] [])/\(Yt f e l 0 x0=Yt f e (l.drop (k+1)) (k+1) x')) (fun s'=>∃y,Weak s' (s.up (ua y) da [] [])/\(Yt f e l 0 x0= .brk y/\B y)) Q) (s.up (u k x) d [] []))
 (he:∀k x,k=l.length->Yt f e l 0 x0=Yt f e (l.drop k) k x->AWP P N w0 F0 c (QL id (fun _=>False) (fun s'=>∃y,Weak s' (s.up (ua y) da [] [])/\(Yt f e l 0 x0= .brk y/\B y)) Q) (s.up (u k x) d [] []))
 (ha:∀y,Yt f e l 0 x0= .brk y/\B y->Q .normal (s.up (ua y) da [] [])):AWP P N w0 F0 (.block id (.loop c)) Q s:=K0 (fun k x=>s.up (u k x) d [] []) (fun y=>s.up (ua y) da [] []) (fun k x=>Yt f e l 0 x0=Yt f e (l.drop k) k x) (fun y=>Yt f e l 0 x0= .brk y/\B y) l.length x0 h0 rfl hr he ha
theorem GV (f:Nat->α->σ->Rd R σ τ) (e:Nat->σ->τ) (l:List α) (x0:σ) (u:Nat->σ->List (Nat×AV)) (d:List Nat) (ua:τ->List (Nat×AV)) (da:List Nat) (A:Nat->σ->Prop) (B:τ->Prop)
 (h0:Weak s (s.up (u 0 x0) d [] [])) (i0:A 0 x0)
 (hr:∀k x,k<l.length->Yt f e l 0 x0=Yt f e (l.drop k) k x/\A k x->AWP P N w0 F0 c (QL id (fun s'=>∃x',Weak s' (s.up (u (k+1) x') d [] [])/\(Yt f e l 0 x0=Yt f e (l.drop (k+1)) (k+1) x'/\A (k+1) x')) (fun s'=>∃y,Weak s' (s.up (ua y) da [] [])/\(Yt f e l 0 x0= .brk y/\B y)) Q) (s.up (u k x) d [] []))
 (he:∀k x,k=l.length->Yt f e l 0 x0=Yt f e (l.drop k) k x/\A k x->AWP P N w0 F0 c (QL id (fun _=>False) (fun s'=>∃y,Weak s' (s.up (ua y) da [] [])/\(Yt f e l 0 x0= .brk y/\B y)) Q) (s.up (u k x) d [] []))
 (ha:∀y,Yt f e l 0 x0= .brk y/\B y->Q .normal (s.up (ua y) da [] [])):AWP P N w0 F0 (.block id (.loop c)) Q s:=K0 (fun k x=>s.up (u k x) d [] []) (fun y=>s.up (ua y) da [] []) (fun k x=>Yt f e l 0 x0=Yt f e (l.drop k) k x/\A k x) (fun y=>Yt f e l 0 x0= .brk y/\B y) l.length x0 h0 ⟨rfl,i0⟩ hr he ha
theorem GW (f:Nat->α->σ->Rd R σ τ) (e:Nat->σ->τ) (l:List α) (x0:σ) (u:Nat->σ->List (Nat×AV)) (d:List Nat) (bu:Nat->σ->List (Nat×List C)) (bd:List Nat) (ua:τ->List (Nat×AV)) (da:List Nat) (ba:τ->List (Nat×List C)) (bda:List Nat) (A:Nat->σ->Prop)
 (h0:Weak s (s.up (u 0 x0) d (bu 0 x0) bd)) (i0:A 0 x0)
 (hr:∀k x,k<l.length->Yt f e l 0 x0=Yt f e (l.drop k) k x/\A k x->AWP P N w0 F0 c (QL id (fun s'=>∃x',Weak s' (s.up (u (k+1) x') d (bu (k+1) x') bd)/\(Yt f e l 0 x0=Yt f e (l.drop (k+1)) (k+1) x'/\A (k+1) x')) (fun s'=>∃y,Weak s' (s.up (ua y) da (ba y) bda)/\Yt f e l 0 x0= .brk y) Q) (s.up (u k x) d (bu k x) bd))
 (he:∀k x,k=l.length->Yt f e l 0 x0=Yt f e (l.drop k) k x/\A k x->AWP P N w0 F0 c (QL id (fun _=>False) (fun s'=>∃y,Weak s' (s.up (ua y) da (ba y) bda)/\Yt f e l 0 x0= .brk y) Q) (s.up (u k x) d (bu k x) bd))
 (ha:∀y,Yt f e l 0 x0= .brk y->Q .normal (s.up (ua y) da (ba y) bda)):AWP P N w0 F0 (.block id (.loop c)) Q s:=K0 (fun k x=>s.up (u k x) d (bu k x) bd) (fun y=>s.up (ua y) da (ba y) bda) (fun k x=>Yt f e l 0 x0=Yt f e (l.drop k) k x/\A k x) (fun y=>Yt f e l 0 x0= .brk y) l.length x0 h0 ⟨rfl,i0⟩ hr he ha
theorem Qe2 (f:Nat->σ->Rd R σ τ) (e:Nat->σ->τ) (l:Nat) (x0:σ) (u:Nat->σ->List (Nat×AV)) (d:List Nat) (ua:τ->List (Nat×AV)) (da:List Nat)
 (h0:Weak s (s.up (u 0 x0) d [] []))
 (hr:∀k x,k<l->Jn f e l 0 x0=Jn f e (l-k) k x->AWP P N w0 F0 c (QL id (fun s'=>∃x',Weak s' (s.up (u (k+1) x') d [] [])/\(Jn f e l 0 x0=Jn f e (l-(k+1)) (k+1) x')) (fun s'=>∃y,Weak s' (s.up (ua y) da [] [])/\Jn f e l 0 x0= .brk y) Q) (s.up (u k x) d [] []))
 (he:∀k x,k=l->Jn f e l 0 x0=Jn f e (l-k) k x->AWP P N w0 F0 c (QL id (fun _=>False) (fun s'=>∃y,Weak s' (s.up (ua y) da [] [])/\Jn f e l 0 x0= .brk y) Q) (s.up (u k x) d [] []))
 (ha:∀y,Jn f e l 0 x0= .brk y->Q .normal (s.up (ua y) da [] [])):AWP P N w0 F0 (.block id (.loop c)) Q s:=K0 (fun k x=>s.up (u k x) d [] []) (fun y=>s.up (ua y) da [] []) (fun k x=>Jn f e l 0 x0=Jn f e (l-k) k x) (fun y=>Jn f e l 0 x0= .brk y) l x0 h0 rfl hr he ha
theorem Qej (f:Nat->σ->Rd R σ τ) (e:Nat->σ->τ) (l:Nat) (x0:σ) (u:Nat->σ->List (Nat×AV)) (d:List Nat) (ua:τ->List (Nat×AV)) (da:List Nat) (A:Nat->σ->Prop)
 (h0:Weak s (s.up (u 0 x0) d [] [])) (i0:A 0 x0)
 (hr:∀k x,k<l->Jn f e l 0 x0=Jn f e (l-k) k x/\A k x->AWP P N w0 F0 c (QL id (fun s'=>∃x',Weak s' (s.up (u (k+1) x') d [] [])/\(Jn f e l 0 x0=Jn f e (l-(k+1)) (k+1) x'/\A (k+1) x')) (fun s'=>∃y,Weak s' (s.up (ua y) da [] [])/\Jn f e l 0 x0= .brk y) Q) (s.up (u k x) d [] []))
 (he:∀k x,k=l->Jn f e l 0 x0=Jn f e (l-k) k x/\A k x->AWP P N w0 F0 c (QL id (fun _=>False) (fun s'=>∃y,Weak s' (s.up (ua y) da [] [])/\Jn f e l 0 x0= .brk y) Q) (s.up (u k x) d [] []))
 (ha:∀y,Jn f e l 0 x0= .brk y->Q .normal (s.up (ua y) da [] [])):AWP P N w0 F0 (.block id (.loop c)) Q s:=K0 (fun k x=>s.up (u k x) d [] []) (fun y=>s.up (ua y) da [] []) (fun k x=>Jn f e l 0 x0=Jn f e (l-k) k x/\A k x) (fun y=>Jn f e l 0 x0= .brk y) l x0 h0 ⟨rfl,i0⟩ hr he ha
theorem Qa4 (f:Nat->σ->Rd R σ τ) (e:Nat->σ->τ) (l:Nat) (x0:σ) (u:Nat->σ->List (Nat×AV)) (d:List Nat) (ua:τ->List (Nat×AV)) (da:List Nat) (A:Nat->σ->Prop) (B:τ->Prop)
 (h0:Weak s (s.up (u 0 x0) d [] [])) (i0:A 0 x0)
 (hr:∀k x,k<l->Jn f e l 0 x0=Jn f e (l-k) k x/\A k x->AWP P N w0 F0 c (QL id (fun s'=>∃x',Weak s' (s.up (u (k+1) x') d [] [])/\(Jn f e l 0 x0=Jn f e (l-(k+1)) (k+1) x'/\A (k+1) x')) (fun s'=>∃y,Weak s' (s.up (ua y) da [] [])/\(Jn f e l 0 x0= .brk y/\B y)) Q) (s.up (u k x) d [] []))
 (he:∀k x,k=l->Jn f e l 0 x0=Jn f e (l-k) k x/\A k x->AWP P N w0 F0 c (QL id (fun _=>False) (fun s'=>∃y,Weak s' (s.up (ua y) da [] [])/\(Jn f e l 0 x0= .brk y/\B y)) Q) (s.up (u k x) d [] []))
 (ha:∀y,Jn f e l 0 x0= .brk y/\B y->Q .normal (s.up (ua y) da [] [])):AWP P N w0 F0 (.block id (.loop c)) Q s:=K0 (fun k x=>s.up (u k x) d [] []) (fun y=>s.up (ua y) da [] []) (fun k x=>Jn f e l 0 x0=Jn f e (l-k) k x/\A k x) (fun y=>Jn f e l 0 x0= .brk y/\B y) l x0 h0 ⟨rfl,i0⟩ hr he ha
theorem Qek (f:Nat->σ->Rd R σ τ) (e:Nat->σ->τ) (l:Nat) (x0:σ) (u:Nat->σ->List (Nat×AV)) (d:List Nat) (bu:Nat->σ->List (Nat×List C)) (bd:List Nat) (ua:τ->List (Nat×AV)) (da:List Nat) (ba:τ->List (Nat×List C)) (bda:List Nat) (A:Nat->σ->Prop) (B:τ->Prop)
 (h0:Weak s (s.up (u 0 x0) d (bu 0 x0) bd)) (i0:A 0 x0)
 (hr:∀k x,k<l->Jn f e l 0 x0=Jn f e (l-k) k x/\A k x->AWP P N w0 F0 c (QL id (fun s'=>∃x',Weak s' (s.up (u (k+1) x') d (bu (k+1) x') bd)/\(Jn f e l 0 x0=Jn f e (l-(k+1)) (k+1) x'/\A (k+1) x')) (fun s'=>∃y,Weak s' (s.up (ua y) da (ba y) bda)/\(Jn f e l 0 x0= .brk y/\B y)) Q) (s.up (u k x) d (bu k x) bd))
 (he:∀k x,k=l->Jn f e l 0 x0=Jn f e (l-k) k x/\A k x->AWP P N w0 F0 c (QL id (fun _=>False) (fun s'=>∃y,Weak s' (s.up (ua y) da (ba y) bda)/\(Jn f e l 0 x0= .brk y/\B y)) Q) (s.up (u k x) d (bu k x) bd))
 (ha:∀y,Jn f e l 0 x0= .brk y/\B y->Q .normal (s.up (ua y) da (ba y) bda)):AWP P N w0 F0 (.block id (.loop c)) Q s:=K0 (fun k x=>s.up (u k x) d (bu k x) bd) (fun y=>s.up (ua y) da (ba y) bda) (fun k x=>Jn f e l 0 x0=Jn f e (l-k) k x/\A k x) (fun y=>Jn f e l 0 x0= .brk y/\B y) l x0 h0 ⟨rfl,i0⟩ hr he ha
end
section
variable {tt:List (Nat×TI)} {rs:List ResultVar} {s:St} {τ:Type}
theorem pz (frz:List Nat) {F v:τ} (e:F=v) (g:τ->AV) (h:Dw tt rs (s.map (Jq (Xo frz) none))=some (g v):=by kernel_rfl):EO tt rs (g F) .ret s:=Bk frz h (e▸rfl)
theorem pb {F v:Bool} (frz:List Nat) (e:F=v) (h:Dw tt rs (s.map (Jq (Xo frz) none))=some (.b v):=by kernel_rfl):EO tt rs (.b F) .ret s:=Bk frz h (e▸rfl)
theorem pi {F v:Int} (frz:List Nat) (e:F=v) (h:Dw tt rs (s.map (Jq (Xo frz) none))=some (.i v):=by kernel_rfl):EO tt rs (.i F) .ret s:=Bk frz h (e▸rfl)
theorem ps {F v:ByteArray} (frz:List Nat) (e:F=v) (h:Dw tt rs (s.map (Jq (Xo frz) none))=some (.s v):=by kernel_rfl):EO tt rs (.s F) .ret s:=Bk frz h (e▸rfl)
theorem po0 {α:Type} [GoE α] {F v:List α} (frz:List Nat) (e:F=v) (h:Dw tt rs (s.map (Jq (Xo frz) none))=some (.o 0 v):=by kernel_rfl):EO tt rs (.o 0 F) .ret s:=Bk frz h (e▸rfl)
theorem ph0 {α:Type} [GoE α] {F v:List α} (frz:List Nat) (e:F=v) (h:Dw tt rs (s.map (Jq (Xo frz) none))=some (.h v):=by kernel_rfl):EO tt rs (.h F) .ret s:=Bk frz h (e▸rfl)
end
theorem wn {R S T:Type} {f:S->Rd R S T} {n:Nat} {s s':S} {o:Out R T} (hI:whl f (n+1) s=some o) (h:f s= .next s'):whl f n s'=some o:=PE h hI
theorem wb {R S T:Type} {f:S->Rd R S T} {n:Nat} {s:S} {t:T} {o:Out R T} (hI:whl f (n+1) s=some o) (h:f s= .brk t):o= .brk t:=Qaz h hI
theorem ng {α:Type} [Inhabited α] (l:List α) (i:Nat) (h:i<l.length:=by omega):l[i]? =some (nth l i):=G9 h
theorem en {P:Program} {tt:List (Nat×TI)} (htt:Aq P tt=true) {f:Nat} {fn:Func} {c:Code} (hf:P.funcs[f]? =some fn) {args:List AV} {r:AV}
 (h:∀w0 F0,GoodAt P w0->AWP P fn.ntmps w0 F0 c (EO tt fn.results.toList r) (Ss args)) (hb:fn.body=some c:=by exact rfl) (hok:Bu P f:=by unfold Bu;kernel_rfl) (hn:args.length<=fn.ntmps:=by exact Nat.le_of_ble_eq_true rfl):ACalls P f args r:=I3 htt hf hb hok hn h
theorem nm {α:Type} (t:α):∃z,t=z:=⟨_,rfl⟩
theorem wf0 {s s':St} (h:s.fit s'=s':=by kernel_rfl):Weak s s':=Qd h
theorem xw {α:Type} {s:St} {t:α->St} {b:α->Prop} (w:α) (hb:b w) (h:s.fit (t w)=t w:=by kernel_rfl):∃x,Weak s (t x)/\b x:=⟨w,Qd h,hb⟩
end
section
section
variable {α R S T:Type} {f g:Nat->α->S->Rd R S T} {e e':Nat->S->T}
theorem T1 (he:∀k s,e k s=e' k s):∀(l:List α) (k:Nat) (s:S),(∀i a s,l[i]? =some a->f (k+i) a s=g (k+i) a s)->Yt f e l k s=Yt g e' l k s
 | [],k,s,_=>by simp only[Yt,he]
 | a ::l,k,s,h=>by
   have h0:=h 0 a s rfl;simp only[Yt];rw[Nat.add_zero] at h0;rw[h0];cases g k a s with
   | next s'=>
     refine T1 he l (k+1) s' fun i a s hi=> ?_
     have:=h (i+1) a s (by simpa using hi)
     rwa [show k+(i+1)=k+1+i by omega] at this
   | brk t=>rfl
   | ret r=>rfl
theorem Fx (hf:∀k a s,f k a s=g k a s) (he:∀k s,e k s=e' k s) (l:List α) (k:Nat) (s:S):Yt f e l k s=Yt g e' l k s:=T1 he l k s fun _ _ _ _=>hf _ _ _
end
section
variable {R S T:Type} {f g:Nat->S->Rd R S T} {e e':Nat->S->T}
theorem T2 (he:∀k s,e k s=e' k s):∀(n k:Nat) (s:S),(∀i s,k<=i->i<k+n->f i s=g i s)->Jn f e n k s=Jn g e' n k s
 | 0,k,s,_=>by simp only[Jn,he]
 | n+1,k,s,h=>by
   simp only[Jn];rw[h k s (Nat.le_refl _) (by omega)];cases g k s with
   | next s'=>exact T2 he n (k+1) s' fun i s h1 h2=>h i s (by omega) (by omega)
   | brk t=>rfl
   | ret r=>rfl
end
section
variable {α R T:Type} {f:Nat->α->Unit->Rd R Unit T} {e:Nat->Unit->T}
theorem XO (hb :∀k a t,f k a ()≠ .brk t):∀{l:List α} {k:Nat} {t:T},Yt f e l k ()= .brk t->∀(i:Nat) (a:α),l[i]? =some a->f (k+i) a ()= .next ()
 | [],_,_,_,i,a,hi=>by simp at hi
 | x :: l, k, t,h,i,a,hi=>by
   simp only[Yt] at h;cases hf:f k x () with
   | next s'=>
     rw[hf] at h;cases i with
     | zero => obtain rfl:x=a:=by simpa using hi
               exact hf
     | succ i=>
       have:=XO hb (k:=k+1) h i a (by simpa using hi)
       rwa [show k+1+i=k+(i+1) by omega] at this
   | brk t'=>exact (hb k x t' hf).elim
   | ret r=>rw[hf] at h;cases h
end
theorem Ht {α β R T:Type} {f:Nat->α->List β->Rd R (List β) T} {e:Nat->List β->T} {g:α->β} (hf:∀k a s,f k a s= .next (s++ [g a])):∀(l:List α) (k:Nat) (s:List β),Yt f e l k s= .brk (e (k+l.length) (s++l.map g))
 | [],k,s=>by simp[Yt]
 | a::l,k,s=>by
   simp only[Yt,hf];rw[Ht hf l (k+1),show k+1+l.length=k+(l.length+1) by omega];simp
theorem GX {R S T:Type} {f:S->Rd R S T} (m:S->Int) (N:Int) (h:∀s s',0<=m s->f s= .next s'->m s<N/\m s'=m s+1):∀(n:Nat) (s:S),0<=m s->N<=m s+n->(whl f (n+1) s).isSome=true
 | n, s,h0,hn=>by
   simp only[whl];cases hf:f s with
   | brk t=>rfl
   | ret r=>rfl
   | next s'=>
     obtain ⟨h1,h2⟩:=h s s' h0 hf;cases n with
     | zero=>omega
     | succ n=>exact GX m N h n s' (by omega) (by omega)
end
section
open Go.RowKit
def Qc3 (cs:List C) (args:List AV):St:=⟨Tj 0 (.one (.ptr bxK 0)::args), [(bxK,cs)]⟩
def Qc4 (frz:List Nat) (cs:List C) (s:St):Prop:=∃cx,get (s.map (Jq (Xo frz) none)).bx bxK=some cx/\(Vm NG cx&&Vy (Ql cx))=true/\WP 40 cx=cs
def Qc5 (tt:List (Nat×TI)) (rs:List ResultVar) (r:AV) (cs:List C) (e:Exit) (s:St):Prop:=
 (e= .ret\/e= .normal)/\∃frz,Dw tt rs (s.map (Jq (Xo frz) none))=some r/\Qc4 frz cs s
def GY (frz:List Nat) (s:St):Option (List C):=match get (s.map (Jq (Xo frz) none)).bx bxK with
 | some cx=>bif Vm NG cx&&Vy (Ql cx) then some (WP 40 cx) else none
 | none=>none
theorem GZ {frz:List Nat} {cs:List C} {s:St} (h:GY frz s=some cs):Qc4 frz cs s:=by
 unfold GY at h;split at h
 . rename_i cx hx;cases hc:(Vm NG cx&&Vy (Ql cx)) with
   | true=>rw[hc] at h;exact ⟨cx,hx,hc,Option.some.inj h⟩
   | false=>rw[hc] at h;cases h
 cases h
theorem BA {tt:List (Nat×TI)} {rs:List ResultVar} {r b:AV} {cs cs0:List C} {s:St} (frz:List Nat) (e:b=r) (ec:cs0=cs) (h:Dw tt rs (s.map (Jq (Xo frz) none))=some b:=by kernel_rfl) (h':GY frz s=some cs0:=by kernel_rfl):Qc5 tt rs r cs .ret s:=⟨.inl rfl,frz,e▸h,ec▸GZ h'⟩
section
variable {P:Program} {N:Nat} {w0:Base} {F0:Nat->Prop} {J:Inj} {a:Act} {w:World} {s:St}
theorem JI {w':World} {tt:List (Nat×TI)} (htt:Aq P tt=true) {fn:Func} {r:AV} (hrel:Rel N w0 F0 J a w' s) (h:Dw tt fn.results.toList s=some r):∃v L',(results fn a.tmps).run P w'= .ok v w'/\(∀k,(L' k).Nodup)/\(∀k x,x∈L' k->∃k0,x∈J.L k0)/\(∀k k' x,x∈L' k->x∈L' k'->k=k')/\AR ⟨J.F,L',fun _=>0⟩ w' v r:=by
 unfold Dw at h;split at h
 . rename_i vs hvs;split at h
   . rename_i x hx;cases hc:(Vm Qao x.cells&&Vy (Ql x.cells)) with
     | false=>rw[hc] at h;cases h
     | true =>
       rw[hc] at h;obtain rfl:=Option.some.inj h;simp only[Bool.and_eq_true] at hc;obtain ⟨hok,hnd⟩:=hc;have hnd:=Um.1 hnd;obtain ⟨us,hrun,hall⟩:=Oo (P:=P) htt hrel hvs
       have hres:∃v,(results fn a.tmps).run P w'= .ok v w'/\AR J w' v x:=by
        have hm:(fn.results.mapM (Tl a.tmps)).run P w'= .ok us.toArray w':=by
         rw[Array.mapM_eq_mapM_toList];simp[hrun]
        have hgen:(results fn a.tmps).run P w'= .ok (if h:us.toArray.size=1 then us.toArray[0] else .tuple us.toArray) w':=by
         rw[Tm];simp only[Sem.run_bind,hm,Result.andThen_ok,Sem.run_pure]
        cases hall with
        | nil=>
          obtain rfl:AV.tup []=x:=by simpa [Tk,G3] using hx
          exact ⟨.tuple #[],by rw[hgen];simp, [],rfl, .nil⟩
        | cons h1 h2=>
          cases h2 with
          | nil=>
            obtain rfl:=Option.some.inj hx;exact ⟨_,by rw[hgen];simp,h1⟩
          | cons h2 h3=>
            obtain ⟨ps,hps,rfl⟩:=Option.map_eq_some_iff.1 hx;exact ⟨_,by rw[hgen];simp,_,rfl,XI hps (.cons h1 (.cons h2 h3))⟩
       obtain ⟨v,hv,hvr⟩:=hres;refine ⟨v,WZ J (Ql x.cells),hv,fun i=> ?_,fun i b hb=> ?_,fun i i' b hb hb'=> ?_, ?_⟩
       . unfold WZ;split
         . exact hrel.nd _
         simp
       . obtain ⟨k,_,hm⟩:=Dx hb;exact ⟨k,hm⟩
       . obtain ⟨k,hk,hm⟩:=Dx hb;obtain ⟨k',hk',hm'⟩:=Dx hb';have:=hrel.dj k k' b hm hm';subst this;obtain ⟨l1,e1⟩:=List.getElem?_eq_some_iff.1 hk;obtain ⟨l2,e2⟩:=List.getElem?_eq_some_iff.1 hk';rcases Nat.lt_trichotomy i i' with hlt | he | hlt
         . exact absurd (e1.trans e2.symm) (List.pairwise_iff_getElem.1 hnd i i' l1 l2 hlt)
         . exact he
         exact absurd (e2.trans e1.symm) (List.pairwise_iff_getElem.1 hnd i' i l2 l1 hlt)
       refine AR.map _ hvr fun u c hcm hcr=> ?_
       have hfo:=K6 hok c hcm;cases c with
       | int | bool | str | raw=>exact hcr
       | slc t n l=>
         cases t with
         | emp=>exact hcr
         | sh=>exact VV.keep (fun b hb=>⟨hb,rfl⟩) hcr
         | vw k=>cases hfo
         | put=>exact hcr.elim
         | own b k=>
           cases b with
           | false=>
             show OwnTop J.F (WZ J (Ql x.cells) (SL k (Ql x.cells))) w' u _ _;unfold WZ;rw[I2 (Dt hcm rfl)];exact hcr
           | true=>
             show OwnDeep (WZ J (Ql x.cells) (SL k (Ql x.cells))) w' u _ _;unfold WZ;rw[I2 (Dt hcm rfl)];exact hcr
       | _=>cases hfo
   cases h
 cases h
theorem XP {tt:List (Nat×TI)} (htt:Aq P tt=true) {f:Nat} {fn:Func} {c:Code} (hf:P.funcs[f]? =some fn) (hb:fn.body=some c) (hok:Bu P f) {cs cs':List C} {args:List AV} {r:AV} (hn:args.length+1<=fn.ntmps) (hN:fn.ntmps<=bxK) (hr:Vm Sq r.cells=true) (hfa:Vm Sq (X5 args)=true)
 (h:∀w0 F0,GoodAt P w0->AWP P fn.ntmps w0 F0 c (Qc5 tt fn.results.toList r cs') (Qc3 cs args)):AGive P f cs args r cs':=by
 refine ⟨hok,fun w F L b vals hG hgv hbox hargs=>calls_of_wp hf hb ?_⟩;have hlen:=hargs.length;obtain ⟨arr,e,hheap,hcells⟩:=hbox;have hblt:=Q2 hheap;refine wp_mono (h ⟨w,fun x=>x=b\/∃j,x∈L j,some b⟩ F hG (NV F L b) _ w ?_) ?_
 . refine { below:=Base.Keeps.refl _,nodef:=rfl,size:= ?_,fl:=fun x hx=>⟨hgv.fl x hx, .inl hx⟩,f0:=fun x hx=>hx,nd:=hgv.nd,lo:=fun k x hx=>⟨.inr (.inr ⟨k,hx⟩),hgv.lt k x hx⟩,dj:=hgv.dj,
            bo:=fun k c hc=> ?_,nb:= .inr hN,cb:=fun x hx=>(Option.some.inj hx),bi:=fun k k' c c' hc hc' _=> ?_,tm:=fun t v' hv=> ?_}
   . simp;omega
   . have hc:get [(bxK,cs)] k=some c:=hc;simp only[get] at hc;split at hc
     . obtain rfl:=Option.some.inj hc;exact ⟨.inr (.inl rfl),hgv.bF,hgv.bL,arr,e,hheap,hcells⟩
     cases hc
   . have hc:get [(bxK,cs)] k=some c:=hc;have hc':get [(bxK,cs)] k'=some c':=hc';simp only[get] at hc hc';split at hc
     . split at hc'
       . rename_i e1 e2;exact e1.symm.trans e2
       cases hc'
     cases hc
   obtain ⟨_,ht⟩:=I1 hv;have hall:All2 (AR (NV F L b) w) (.pointer (some ⟨b,0,none⟩)::vals) (.one (.ptr bxK 0)::args):= .cons rfl ?_
   . obtain ⟨u,hu,hr⟩:=hall.get' ht;have hlt:t<(Value.pointer (some ⟨b,0,none⟩)::vals).length:=(List.getElem?_eq_some_iff.1 hu).1
     have:((Value.pointer (some ⟨b,0,none⟩)::vals).toArray++Array.replicate (fn.ntmps-(Value.pointer (some ⟨b,0,none⟩)::vals).toArray.size) undef).getD t undef=u:=by
      rw[Array.getD_eq_getD_getElem?,Array.getElem?_append_left (by simpa using hlt)];simp at hu⊢;rw[hu];rfl
     rw[this];exact hr
   exact WQ hargs hfa
 rintro e' a' w' ⟨J',s',hR,he,frz,hg,cx,hbx,hcx,rfl⟩
 simp only[Bool.and_eq_true] at hcx;obtain ⟨J'',hR⟩:=Ww frz rfl _ _ _ _ _ _ hR;obtain ⟨v,_,h1,_,_,_,h5⟩:=JI (P:=P) htt (fn:=fn) hR hg;have hB:J''.B bxK=b:=hR.cb b rfl;obtain ⟨_,b2,b3,arr',e2,b4,b5⟩:=hR.bo bxK cx hbx;rw[hB] at b2 b3 b4
 have hmem:∀k x,x∈Nu J'' 40 cx k->x<w'.heap.size/\(w.heap.size<=x\/∃j,x∈L j)/\x≠b/\¬J''.F x:=fun k x hx=>by
  obtain ⟨k0,_,hm⟩:=Om hx;obtain ⟨g1,g2,g3⟩:=hR.lo k0 x hm;have hne:x≠b:=fun e=>b3 k0 (e▸hm)
  exact ⟨g2,g1.imp id fun g=>g.resolve_left hne,hne,g3⟩
 have hFF:∀x,J''.F x->(FD F L w w' (Nu J'' 40 cx)).F x:=fun x hx=>by
  obtain ⟨g1,g2⟩:=hR.fl x hx;rcases g2 with g2 | g2 | g2
  . exact .inl g2
  . exact .inr ⟨.inl g2,g1,fun k hm=>(hmem k x hm).2.2.2 hx⟩
  have hne:x≠b:=fun e=>b2 (e▸hx)
  exact .inr ⟨.inr (g2.resolve_left hne),g1,fun k hm=>(hmem k x hm).2.2.2 hx⟩
 have hT:Qed F L b w r (WP 40 cx) (.returned v) w':=by
  refine ⟨v,Nu J'' 40 cx,rfl,hR.below.os,hR.below.tape,hR.below.output,hR.below.size,fun k hk hn1 hn2=>hR.below.block k hk fun hx=>hx.elim hn1 fun ⟨j,hj⟩=>hn2 j hj,WR hR cx 40,fun k x hx=>⟨(hmem k x hx).1,(hmem k x hx).2.1⟩,fun k k' x h1 h2=>WS hR (Um.1 hcx.2) h1 h2,FK h5 hr,arr',e2,b4, ?_⟩;have:=XD (b:=0) (F:=(FD F L w w' (Nu J'' 40 cx)).F) hFF (L:=Nu J'' 40 cx) b5 hcx.1 fun _ _=>rfl
  exact this
 rcases he with rfl | rfl
 . exact ⟨hR.nodef,v,h1,hT⟩
 exact ⟨hR.nodef,v,h1,hT⟩
theorem Qa5 {J J':Inj} {w:World} {v:Value} {x:AV} (h:AR J w v x) (hp:Vm Qcr x.cells=true) (hL:J'.L=J.L):AR J' w v x:=by
 have :=AR.map (J':=J') (w':=w) id h fun u c hc hcr=>by
  have hb:=K6 hp c hc;cases c with
  | int | bool | str=>exact hcr
  | slc t n l=>
    cases t with
    | own d k=>
      cases d with
      | true=>show OwnDeep (J'.L k) w u n l;rw[hL];exact hcr
      | false=>cases hb
    | _=>cases hb
  | _=>cases hb
 rwa [show x.map id=x by cases x<;>simp[AV.map]] at this
theorem IA {tt:List (Nat×TI)} (htt:Aq P tt=true) {f:Nat} {fn:Func} {c:Code} (hf:P.funcs[f]? =some fn) (hb:fn.body=some c) (hok:Bu P f) {args:List AV} {r:AV} (hn:args.length<=fn.ntmps) (hr:Vm Qcr r.cells=true)
 (h:∀w0 F0,GoodAt P w0->AWP P fn.ntmps w0 F0 c (EO tt fn.results.toList r) (Ss args)):AVal P f args r:=by
 refine ⟨hok,fun w F L vals hG hO hargs=>calls_of_wp hf hb ?_⟩;have hlen:=hargs.length;refine wp_mono (h ⟨w,fun x=>∃j,x∈L j,none⟩ F hG (Qd3 F L) _ w ?_) ?_
 . refine { below:=Base.Keeps.refl _,nodef:=rfl,size:= ?_,fl:=fun x hx=>⟨hO.fl x hx, .inl hx⟩,f0:=fun x hx=>hx,nd:=hO.nd,lo:=fun k x hx=>⟨.inr ⟨k,hx⟩,hO.lt k x hx⟩,dj:=hO.dj,
            bo:=fun k c hc=>by simp[Ss,get] at hc,nb:= .inl rfl,cb:=(fun b hb=>by cases hb),bi:=fun k k' c c' hc=>by simp[Ss,get] at hc,tm:=fun t v' hv=> ?_}
   . simp;omega
   obtain ⟨_,ht⟩:=I1 hv;obtain ⟨u,hu,hr⟩:=hargs.get' ht;have hlt:t<vals.length:=(List.getElem?_eq_some_iff.1 hu).1
   have:(vals.toArray++Array.replicate (fn.ntmps-vals.toArray.size) undef).getD t undef=u:=by
    rw[Array.getD_eq_getD_getElem?,Array.getElem?_append_left (by simpa using hlt)];simp at hu⊢;rw[hu];rfl
   rw[this];exact hr
 rintro e' a' w' ⟨J',s',hR,hP⟩
 have key:(∃frz,Dw tt fn.results.toList (s'.map (Jq (Xo frz) none))=some r)->∃v,(results fn a'.tmps).run P w'= .ok v w'/\Qee L w r (.returned v) w':=by
  rintro ⟨frz,hg⟩
  obtain ⟨J'',hR⟩:=Ww frz rfl _ _ _ _ _ _ hR;obtain ⟨v,L',h1,h2,h3,h4,h5⟩:=JI (P:=P) htt (fn:=fn) hR hg;refine ⟨v,h1,v,L',rfl,hR.below.os,hR.below.tape,hR.below.output,hR.below.size,fun k hk hn=>hR.below.block k hk fun ⟨j,hj⟩=>hn j hj,h2,fun k x hx=> ?_,h4,Qa5 h5 hr rfl⟩;obtain ⟨k0,hm⟩:=h3 k x hx;obtain ⟨g1,g2,_⟩:=hR.lo k0 x hm;exact ⟨g2,g1⟩
 cases e' with
 | normal=>obtain ⟨v,h1,h2⟩:=key hP;exact ⟨hR.nodef,v,h1,h2⟩
 | ret=>obtain ⟨v,h1,h2⟩:=key hP;exact ⟨hR.nodef,v,h1,h2⟩
 | _=>exact hP.elim
end
theorem gb {P:Program} {f:Nat} {cs:List C} {args:List AV} {a b:Bool} {cs2:List C} (h:a=b) (c:AGive P f cs args (.one (.bool a)) cs2):AGive P f cs args (.one (.bool b)) cs2:=h▸c
end
section
open Go.RowKit
open GoD (rd own)
structure Chg (L : List Nat) (w w' : World) : Prop where
  os : w'.os = w.os
  tape : w'.tape = w.tape
  output : w'.output = w.output
  size : w.heap.size ≤ w'.heap.size
  block : ∀ b, b < w.heap.size → b ∉ L → w'.heap[b]? = w.heap[b]?
theorem Chg.refl (L : List Nat) (w : World) : Chg L w w := ⟨rfl, rfl, rfl, Nat.le_refl _, fun _ _ _ => rfl⟩
theorem Chg.trans {L : List Nat} {a b c : World} (h : Chg L a b) (k : Chg L b c) : Chg L a c :=
  ⟨k.os.trans h.os, k.tape.trans h.tape, k.output.trans h.output, Nat.le_trans h.size k.size, fun i hi hn => (k.block i (Nat.lt_of_lt_of_le hi h.size) hn).trans (h.block i hi hn)⟩
theorem Chg.mono {L M : List Nat} {w w' : World} (h : Chg L w w') (hs : ∀ b, b ∈ L → b ∈ M) : Chg M w w' :=
  ⟨h.os, h.tape, h.output, h.size, fun b hb hn => h.block b hb (fun hm => hn (hs b hm))⟩
theorem Chg.of_below {L : List Nat} {w w' : World} (h : Below w.heap.size w w') : Chg L w w' := ⟨h.os, h.tape, h.output, h.size, fun b hb _ => h.block b hb⟩
theorem Chg.below {L : List Nat} {B : Nat} {w w' : World} (h : Chg L w w') (hB : B ≤ w.heap.size) (hL : ∀ b, b ∈ L → B ≤ b) : Below B w w' :=
  ⟨h.os, h.tape, h.output, h.size, fun k hk => h.block k (by omega) (fun hm => by have := hL k hm; omega)⟩
theorem Chg.cell {L : List Nat} {w w' : World} (h : Chg L w w') {b : Nat} (hb : b < w.heap.size) (hn : b ∉ L) (o : Nat) : w'.cell? ⟨b, o, none⟩ = w.cell? ⟨b, o, none⟩ :=
  World.cell?_of_block (h.block b hb hn)
theorem Chg.frozen {L : List Nat} {w w' : World} (h : Chg L w w') {b : Nat} (hb : b < w.heap.size) (hn : b ∉ L) (o : Nat) : w'.frozen? ⟨b, o, none⟩ = w.frozen? ⟨b, o, none⟩ :=
  World.frozen?_of_block (h.block b hb hn)
section
variable {α β : Type} [GoD α] [GoD β]
structure Upd (g lo m : Nat) (Li : List Nat) (w w' : World) : Prop where
  chg : Chg (g :: Li) w w'
  row : ∀ cur e, w.heap[g]? = some (.cells cur e (0, 0)) → ∃ cur', w'.heap[g]? = some (.cells cur' e (0, 0)) ∧ cur'.size = cur.size ∧ ∀ j, (j < lo ∨ lo + m ≤ j) → cur'[j]? = cur[j]?
theorem Upd.refl (g lo m : Nat) (Li : List Nat) (w : World) : Upd g lo m Li w w := ⟨Chg.refl _ _, fun cur _ h => ⟨cur, h, rfl, fun _ _ => rfl⟩⟩
theorem Upd.setCell {g lo m : Nat} {Li : List Nat} {w w' : World} (h : Upd g lo m Li w w') (o : Nat) (ho : lo ≤ o ∧ o < lo + m) (v : Value) : Upd g lo m Li w (w'.setCell ⟨g, o, none⟩ v) := by
  refine ⟨h.chg.trans ⟨rfl, rfl, rfl, by simp, fun b _ hn => Et w' g o v (fun e => hn (by simp [e]))⟩, fun cur e hc => ?_⟩
  obtain ⟨cur', h1, h2, h3⟩ := h.row cur e hc
  refine ⟨_, Es w' g o v h1, by simpa using h2, fun j hj => ?_⟩
  rw [Array.getElem?_setIfInBounds, if_neg (by omega)]
  exact h3 j hj
theorem Upd.mark {g lo m : Nat} {Li M : List Nat} {w w' w'' : World} (h : Upd g lo m Li w w') (hc : Chg M w' w'') (hs : ∀ b, b ∈ M → b ∈ Li) (hg : g ∉ M) (hlt : g < w'.heap.size) : Upd g lo m Li w w'' := by
  refine ⟨h.chg.trans (hc.mono fun b hb => List.mem_cons_of_mem _ (hs b hb)), fun cur e hcur => ?_⟩
  obtain ⟨cur', h1, h2, h3⟩ := h.row cur e hcur
  exact ⟨cur', (hc.block g hlt hg).trans h1, h2, h3⟩
theorem Upd.below {g lo m : Nat} {Li : List Nat} {w w' w'' : World} (h : Upd g lo m Li w w') (hc : Below w'.heap.size w' w'') (hlt : g < w'.heap.size) : Upd g lo m Li w w'' :=
  h.mark (M := []) (Chg.of_below hc) (by simp) (by simp) hlt
theorem Lc (l : List α) : ∀ k, (Gx l k).1.length = l.length := by
  induction l with
  | nil => intro k; rfl
  | cons x l ih => intro k; simp [Gx, ih]
end
section
variable {α : Type} [GoD α]
end
end
section
open Go.RowKit
open GoD (rd own)
abbrev Jf := Int × Int × ByteArray
abbrev X6 := ByteArray × Int
abbrev Kz := ByteArray × Jf
abbrev Zl := Int × Int × Bool × Int × (List Kz)
abbrev V0 := (List X6) × (List Zl) × Int
abbrev Qw := Int × Int × Int × ByteArray × Jf
abbrev Zw := ByteArray × (List Qw)
abbrev Bb := ByteArray × (List Int)
abbrev Cr := V0 × (List Zw) × (List Bb)
abbrev Qp := V0 × (List Zw)
abbrev Ep := ByteArray × ByteArray
abbrev U7 := Int × Qp × Int
abbrev Eg := Int × (List Int) × (List Int)
abbrev Eh := Int × ByteArray × (List Int) × (List Eg)
abbrev Jy := Cr × Ep × Int × (List U7) × (List Eh) × (List Int)
theorem Dg {α : Type} {l : List α} (h : l.length = 1) : ∃ x0, l = [x0] := by
  match l, h with
  | [x0], _ => exact ⟨x0, rfl⟩
theorem T3 {α : Type} {l : List α} (h : l.length = 2) : ∃ x0 x1, l = [x0, x1] := by
  match l, h with
  | [x0, x1], _ => exact ⟨x0, x1, rfl⟩
theorem Qc6 {α : Type} {l : List α} (h : l.length = 3) : ∃ x0 x1 x2, l = [x0, x1, x2] := by
  match l, h with
  | [x0, x1, x2], _ => exact ⟨x0, x1, x2, rfl⟩
theorem Qel {α : Type} {l : List α} (h : l.length = 4) : ∃ x0 x1 x2 x3, l = [x0, x1, x2, x3] := by
  match l, h with
  | [x0, x1, x2, x3], _ => exact ⟨x0, x1, x2, x3, rfl⟩
theorem Qe3 {α : Type} {l : List α} (h : l.length = 5) : ∃ x0 x1 x2 x3 x4, l = [x0, x1, x2, x3, x4] := by
  match l, h with
  | [x0, x1, x2, x3, x4], _ => exact ⟨x0, x1, x2, x3, x4, rfl⟩
theorem Qfd {α : Type} {l : List α} (h : l.length = 6) : ∃ x0 x1 x2 x3 x4 x5, l = [x0, x1, x2, x3, x4, x5] := by
  match l, h with
  | [x0, x1, x2, x3, x4, x5], _ => exact ⟨x0, x1, x2, x3, x4, x5, rfl⟩
theorem Qfe {α : Type} {l : List α} (h : l.length = 7) : ∃ x0 x1 x2 x3 x4 x5 x6, l = [x0, x1, x2, x3, x4, x5, x6] := by
  match l, h with
  | [x0, x1, x2, x3, x4, x5, x6], _ => exact ⟨x0, x1, x2, x3, x4, x5, x6, rfl⟩
theorem JJ {w : World} {cs : List Value} {a : Jy} (h : rd w cs a) : ∃ (oa1 : Option Addr) (cp1 : Nat) (oa2 : Option Addr) (cp2 : Nat) (oa3 : Option Addr) (cp3 : Nat) (oa4 : Option Addr) (cp4 : Nat) (oa5 : Option Addr) (cp5 : Nat) (oa6 : Option Addr) (cp6 : Nat) (oa7 : Option Addr) (cp7 : Nat), cs = [.slice oa1 a.1.1.1.length cp1, .slice oa2 a.1.1.2.1.length cp2, .int .i64 a.1.1.2.2, .slice oa3 a.1.2.1.length cp3, .slice oa4 a.1.2.2.length cp4, .string a.2.1.1, .string a.2.1.2, .int .i64 a.2.2.1, .slice oa5 a.2.2.2.1.length cp5, .slice oa6 a.2.2.2.2.1.length cp6, .slice oa7 a.2.2.2.2.2.length cp7] := by
  obtain ⟨_, _, rfl, ⟨_, _, rfl, ⟨_, _, rfl, ⟨oa1, cp1, rfl, _⟩, ⟨_, _, rfl, ⟨oa2, cp2, rfl, _⟩, ⟨rfl, _⟩⟩⟩, ⟨_, _, rfl, ⟨oa3, cp3, rfl, _⟩, ⟨oa4, cp4, rfl, _⟩⟩⟩, ⟨_, _, rfl, ⟨_, _, rfl, ⟨rfl, _⟩, ⟨rfl, _⟩⟩, ⟨_, _, rfl, ⟨rfl, _⟩, ⟨_, _, rfl, ⟨oa5, cp5, rfl, _⟩, ⟨_, _, rfl, ⟨oa6, cp6, rfl, _⟩, ⟨oa7, cp7, rfl, _⟩⟩⟩⟩⟩⟩ := h
  exact ⟨oa1, cp1, oa2, cp2, oa3, cp3, oa4, cp4, oa5, cp5, oa6, cp6, oa7, cp7, rfl⟩
def eqb {α : Type} [GoD α] (a b : α) : Bool := @decide (a = b) (GoD.deq a b)
theorem Qa6 (a b : ByteArray) : (a.toList == b.toList) = eqb a b := by
  unfold eqb
  rw [ByteArray.toList_eq, ByteArray.toList_eq, Bool.eq_iff_iff]
  simp only [beq_iff_eq, decide_eq_true_eq]
  constructor
  · intro h; cases a; cases b; simp_all [Array.toList_inj]
  intro h; rw [h]
end
section
open Go.RowKit
open GoD (rd own)
theorem Qa7 {P : Program} (w : World) (base : Nat) (t ty e : TypeId) (i : TypeInfo) (z : Value) (ht : P.underlying t = some (.slice e)) (hi : P.info? e = some i) (hz : i.zero = some z)
    (hzs : z.cells.size = i.size) (hsz : 0 < i.size) (hb : i.bytes ≤ 1000) {v : Value} {n : Nat} {xs : List Value} (hown : w.ownsRow base e i.size v n xs)
    (a : Addr) (m c : Nat) (news : List Value) (hl : news.length = m * i.size) (hnews : ∀ j u, news[j]? = some u → w.cell? (a.add j) = some u) (h1 : ∀ u ∈ news, u.oneCell' = true)
    (hnm : n + m ≤ 1073741824) (hbase : base ≤ w.heap.size) :
    ∃ v' w', (Builtin.append_ #[t, t] ty #[v, .slice (some a) m c]).run P w = .ok v' w' ∧ w'.ownsRow base e i.size v' (n + m) (xs ++ news) ∧ w.grownBy w' v.ownBlock ∧
      (∀ g, v'.ownBlock = some g → v.ownBlock = some g ∨ w.heap.size ≤ g) ∧ (∀ x k c, v = .slice (some x) k c → c < n + m → (∀ g, v'.ownBlock = some g → w.heap.size ≤ g) ∧ w.grownBy w' none) := by
  have hbytes : ((n + m) + (n + m) / 4 + 192) * i.bytes ≤ 281474976710656 := Nat.le_trans (Nat.mul_le_mul (show _ ≤ 1342177472 by omega) hb) (by decide)
  have h63 : n + m ≤ maxLen := by unfold maxLen; omega
  rcases hown.2 with ⟨rfl, rfl⟩ | ⟨g, cap, cur, rfl, hbg, hg, hnc, hcm, hcs, htake⟩
  · have h0 : w.ownsRow w.heap.size e i.size (.slice none 0 0) 0 xs := ⟨hown.1, .inl ⟨rfl, rfl⟩⟩
    obtain ⟨v', w', hr, hw, hgr, _⟩ := run_append_own_wide w w.heap.size t ty e i z i.size i.bytes ht hi hz rfl rfl hzs hsz _ 0 xs h0 a m c news hl hnews h1 h63 hbytes (Nat.le_refl _)
    refine ⟨v', w', hr, ⟨hw.1, ?_⟩, hgr, fun g hg => .inr (World.ownsRow.lt hw g hg).1, fun x k c h => (by cases h)⟩
    rcases hw.2 with h | ⟨g, cap, cur, h1, h2, h3⟩
    · exact .inl h
    exact .inr ⟨g, cap, cur, h1, Nat.le_trans hbase h2, h3⟩
  by_cases hroom : n + m ≤ cap
  · obtain ⟨w', hr, hw, hgr⟩ := run_append_own_spare w base t ty e i i.size ht hi rfl g n cap xs hown a m c news hl hnews h1 hroom
    exact ⟨_, w', hr, hw, hgr, fun k hk => .inl hk, fun x k c h hlt => (by cases h; omega)⟩
  have hgs : cap < n + m := by omega
  have hr := run_append_grow (P := P) w t ty e i z ht hi hz ⟨g, 0, none⟩ n cap xs hown.1 (hown.cells (g := g) rfl) a m c news hl hnews hgs (by unfold maxLen at h63; omega) (growslice_fits_wide hgs hbytes)
  refine ⟨_, _, hr, ⟨by rw [List.length_append, hown.1, hl, Nat.add_mul], .inr ⟨w.heap.size, _, _, rfl, hbase, heap_alloc_new w.drew _, grownCap_ge w (n + m) cap e, grownCap_le_maxLen w (n + m) cap e h63, ?_, ?_⟩⟩,
    ⟨rfl, rfl, rfl, by simp, fun k hk _ => heap_alloc_old w.drew _ hk⟩, fun k hk => .inr ?_, fun x k c _ _ => ⟨fun g' hk => ?_, rfl, rfl, rfl, by simp, fun k hk _ => heap_alloc_old w.drew _ hk⟩⟩
  · have hge := grownCap_ge w (n + m) cap e
    simp only [Array.size_append, List.size_toArray, size_zeroCells, hzs, hown.1, hl, ← Nat.add_mul]
    congr 1
    omega
  · simp only [Array.toList_append, List.append_assoc]
    rw [← List.append_assoc, List.take_append_of_le_length (by simp [hown.1, hl, Nat.add_mul]), List.take_of_length_le (by simp [hown.1, hl, Nat.add_mul])]
  · simp only [Value.ownBlock, Option.some.injEq] at hk
    omega
  simp only [Value.ownBlock, Option.some.injEq] at hk
  omega
section
variable {α : Type} [GoD α]
def App (e : TypeId) (w0 w : World) (L : List Nat) (v : Value) (l : List α) : Prop :=
  ∃ (xs : List Value) (Ls : List (List Nat)), w.ownsRow w0.heap.size e (GoD.n α) v l.length xs ∧ L = v.ownBlock.toList ++ Ls.flatten ∧ L.Nodup ∧ (∀ b, b ∈ L → w0.heap.size ≤ b ∧ b < w.heap.size) ∧ Ls.length = l.length ∧
    ∀ i Li a, Ls[i]? = some Li → l[i]? = some a → own Li w ((xs.drop (i * GoD.n α)).take (GoD.n α)) a
def AppR (e : TypeId) (w0 w : World) (v : Value) (l : List α) : Prop :=
  ∃ (xs : List Value), w.ownsRow w0.heap.size e (GoD.n α) v l.length xs ∧ ∀ i a, l[i]? = some a → rd w0 ((xs.drop (i * GoD.n α)).take (GoD.n α)) a
theorem Nx {w w' : World} {base : Nat} {e : TypeId} {sz n : Nat} {v : Value} {xs : List Value} (h : w.ownsRow base e sz v n xs) (hb : ∀ b, v.ownBlock = some b → w'.heap[b]? = w.heap[b]?) : w'.ownsRow base e sz v n xs := by
  refine ⟨h.1, ?_⟩
  rcases h.2 with h | ⟨g, cap, cur, rfl, h2, h3, h4⟩
  · exact .inl h
  exact .inr ⟨g, cap, cur, rfl, h2, (hb g rfl).trans h3, h4⟩
theorem App.keep {e : TypeId} {w0 w w' : World} {L : List Nat} {v : Value} {l : List α} (h : App e w0 w L v l) (hb : Below w.heap.size w w') : App e w0 w' L v l := by
  obtain ⟨xs, Ls, h1, h2, h3, h4, h5, h6⟩ := h
  exact ⟨xs, Ls, Nx h1 (fun b hm => hb.block b (World.ownsRow.lt h1 b hm).2), h2, h3, fun b hm => ⟨(h4 b hm).1, Nat.lt_of_lt_of_le (h4 b hm).2 hb.size⟩, h5, fun i Li a x y => ET (h6 i Li a x y) hb⟩
theorem AppR.keep {e : TypeId} {w0 w w' : World} {v : Value} {l : List α} (h : AppR e w0 w v l) (hb : Below w.heap.size w w') : AppR e w0 w' v l := by
  obtain ⟨xs, h1, h2⟩ := h
  exact ⟨xs, Nx h1 (fun b hm => hb.block b (World.ownsRow.lt h1 b hm).2), h2⟩
theorem App.start {e : TypeId} {w0 w : World} {v : Value} {c : Nat} {cur : Array Value} {g : Nat} (hv : v = .slice (some ⟨g, 0, none⟩) 0 c) (hg : w.heap[g]? = some (.cells cur e (0, 0))) (hs : cur.size = c * GoD.n α) (hc : c ≤ maxLen) (h0 : w0.heap.size ≤ g) : App e w0 w [g] v ([] : List α) := by
  subst hv
  exact ⟨[], [], ⟨by simp, .inr ⟨g, c, cur, rfl, h0, hg, Nat.zero_le _, hc, hs, by simp⟩⟩, rfl, by simp, fun b hb => by rw [List.mem_singleton.1 hb]; exact ⟨h0, Q2 hg⟩, rfl, by simp⟩
theorem AppR.start {e : TypeId} {w0 w : World} {v : Value} {c : Nat} {cur : Array Value} {g : Nat} (hv : v = .slice (some ⟨g, 0, none⟩) 0 c) (hg : w.heap[g]? = some (.cells cur e (0, 0))) (hs : cur.size = c * GoD.n α) (hc : c ≤ maxLen) (h0 : w0.heap.size ≤ g) : AppR e w0 w v ([] : List α) := by
  subst hv
  exact ⟨[], ⟨by simp, .inr ⟨g, c, cur, rfl, h0, hg, Nat.zero_le _, hc, hs, by simp⟩⟩, by simp⟩
theorem App.fresh {e : TypeId} {w0 w1 : World} {g : Nat} (hg : g = w1.heap.size) (h0 : w0.heap.size ≤ g) : App e w0 (w1.alloc (.cells #[] e)) [g] (.slice (some ⟨g, 0, none⟩) 0 0) ([] : List α) := by
  subst hg
  exact App.start rfl (heap_alloc_new w1 _) (by simp) (by decide) h0
theorem AppR.fresh {e : TypeId} {w0 w1 : World} {g : Nat} (hg : g = w1.heap.size) (h0 : w0.heap.size ≤ g) : AppR e w0 (w1.alloc (.cells #[] e)) (.slice (some ⟨g, 0, none⟩) 0 0) ([] : List α) := by
  subst hg
  exact AppR.start rfl (heap_alloc_new w1 _) (by simp) (by decide) h0
theorem App.alloc {e : TypeId} {w0 w : World} {L : List Nat} {v : Value} {l : List α} (h : App e w0 w L v l) (o : Obj) : App e w0 (w.alloc o) L v l := h.keep ((Below.refl _ _).alloc (Nat.le_refl _) _)
theorem App.drew {e : TypeId} {w0 w : World} {L : List Nat} {v : Value} {l : List α} (h : App e w0 w L v l) : App e w0 w.drew L v l := h.keep ((Below.refl _ _).drew)
theorem AppR.alloc {e : TypeId} {w0 w : World} {v : Value} {l : List α} (h : AppR e w0 w v l) (o : Obj) : AppR e w0 (w.alloc o) v l := h.keep ((Below.refl _ _).alloc (Nat.le_refl _) _)
theorem AppR.drew {e : TypeId} {w0 w : World} {v : Value} {l : List α} (h : AppR e w0 w v l) : AppR e w0 w.drew v l := h.keep ((Below.refl _ _).drew)
theorem App.nil {e : TypeId} (w0 w : World) : App e w0 w [] (.slice none 0 0) ([] : List α) := ⟨[], [], ⟨by simp, .inl ⟨rfl, rfl⟩⟩, rfl, by simp, by simp, rfl, by simp⟩
theorem AppR.nil {e : TypeId} (w0 w : World) : AppR e w0 w (.slice none 0 0) ([] : List α) := ⟨[], ⟨by simp, .inl ⟨rfl, rfl⟩⟩, by simp⟩
theorem App.done {e : TypeId} {w0 w : World} {L : List Nat} {v : Value} {l : List α} (h : App e w0 w L v l) : own L w [v] l := by
  obtain ⟨xs, Ls, ⟨h1, h2⟩, rfl, h3, h4, h5, h6⟩ := h
  refine ⟨h3, ?_⟩
  rcases h2 with ⟨rfl, hl⟩ | ⟨g, cap, cur, rfl, _, hg, hnc, hcm, hcs, rfl⟩
  · have : l = [] := List.eq_nil_of_length_eq_zero hl
    subst this
    have : Ls = [] := List.eq_nil_of_length_eq_zero h5
    subst this
    exact .inl ⟨rfl, rfl, none, rfl⟩
  refine .inr ⟨g, cap, cur, e, Ls, rfl, hg, hnc, hcm, hcs, rfl, h5, fun i Li a hi ha => ?_⟩
  have h := h6 i Li a hi ha
  have hil : i < l.length := (List.getElem?_eq_some_iff.1 ha).1
  rw [List.drop_take, List.take_take, Nat.min_eq_left (by
    have := Nat.mul_le_mul_right (GoD.n α) (show i + 1 ≤ l.length by omega)
    rw [Nat.add_mul, Nat.one_mul] at this
    omega)] at h
  exact h
theorem App.ge {e : TypeId} {w0 w : World} {L : List Nat} {v : Value} {l : List α} (h : App e w0 w L v l) : ∀ b, b ∈ L → w0.heap.size ≤ b := by
  obtain ⟨_, _, _, _, _, h4, _⟩ := h
  exact fun b hb => (h4 b hb).1
theorem App.lt {e : TypeId} {w0 w : World} {L : List Nat} {v : Value} {l : List α} (h : App e w0 w L v l) : ∀ b, b ∈ L → b < w.heap.size := by
  obtain ⟨_, _, _, _, _, h4, _⟩ := h
  exact fun b hb => (h4 b hb).2
theorem AppR.done {e : TypeId} {w0 w : World} {v : Value} {l : List α} (h : AppR e w0 w v l) (hb : Below w0.heap.size w0 w) : rd w [v] l := by
  obtain ⟨xs, ⟨h1, h2⟩, h6⟩ := h
  rcases h2 with ⟨rfl, hl⟩ | ⟨g, cap, cur, rfl, _, hg, hnc, hcm, hcs, rfl⟩
  · have : l = [] := List.eq_nil_of_length_eq_zero hl
    subst this
    exact ⟨none, 0, rfl, Nat.le_refl _, Nat.zero_le _, by simp⟩
  refine ⟨some ⟨g, 0, none⟩, cap, rfl, hnc, hcm, fun i a ha => ⟨g, 0, _, rfl, GoD.rd_len (h6 i a ha), fun j u hj => ?_, Y1 (h6 i a ha) hb⟩⟩
  have hlt := (List.getElem?_eq_some_iff.1 hj).1
  simp only [List.length_take] at hlt
  rw [Hn (by omega), List.getElem?_take] at hj
  split at hj
  · rw [Nat.zero_add]
    rw [Array.getElem?_toList] at hj
    simp [World.cell?, hg, hj]
  cases hj
theorem AppR.slice {e : TypeId} {w0 w : World} {v : Value} {l : List α} (h : AppR e w0 w v l) : ∃ oa cap, v = .slice oa l.length cap := by
  obtain ⟨xs, ⟨_, h2⟩, _⟩ := h
  rcases h2 with ⟨rfl, hl⟩ | ⟨g, cap, cur, rfl, _⟩
  · exact ⟨none, 0, by rw [hl]⟩
  exact ⟨_, _, rfl⟩
theorem App.slice {e : TypeId} {w0 w : World} {L : List Nat} {v : Value} {l : List α} (h : App e w0 w L v l) : ∃ oa cap, v = .slice oa l.length cap := ZC h.done
end
end
section
open Go.RowKit
open GoD (rd own)
/-! ### append of a whole slice to an empty one -/
theorem UG {P : Program} (w : World) (t ty e : TypeId) (i : TypeInfo) (ht : P.underlying t = some (.slice e)) (hi : P.info? e = some i) (g n cap : Nat) (hn : n ≤ cap) :
    (Builtin.append_ #[t, t] ty #[.slice (some ⟨g, 0, none⟩) n cap, .slice none 0 0]).run P w = .ok (.slice (some ⟨g, 0, none⟩) n cap) w := by
  simp [Builtin.append_, run_underlying ht, sizeOf, typeInfo, hi, Builtin.lenOf, Builtin.firstCells, loadCells, loadCellsFrom, hn, storeCells]
section
variable {α : Type} [GoD α]
def Plain (α : Type) [GoD α] : Prop := 0 < GoD.n α ∧ ∀ (w w' : World) (cs : List Value) (a : α), rd w cs a → own [] w' cs a ∧ ∀ u ∈ cs, u.oneCell' = true
theorem A3 : Plain Int := ⟨Nat.zero_lt_one, fun w w' cs a h => ⟨⟨rfl, h.1, h.2⟩, by rw [h.1]; simp [Value.oneCell']⟩⟩
theorem Dh : Plain ByteArray := ⟨Nat.zero_lt_one, fun w w' cs a h => ⟨⟨rfl, h.1, h.2⟩, by rw [h.1]; simp [Value.oneCell']⟩⟩
theorem Wh {β : Type} [GoD β] (h1 : Plain α) (h2 : Plain β) : Plain (α × β) := by
  refine ⟨Nat.lt_of_lt_of_le h1.1 (Nat.le_add_right _ _), fun w w' cs a h => ?_⟩
  obtain ⟨c1, c2, rfl, k1, k2⟩ := h
  obtain ⟨o1, u1⟩ := h1.2 w w' _ _ k1
  obtain ⟨o2, u2⟩ := h2.2 w w' _ _ k2
  refine ⟨NK o1 o2 (by simp), fun u hu => ?_⟩
  rcases List.mem_append.1 hu with hu | hu
  · exact u1 u hu
  exact u2 u hu
theorem PG {w : World} {oa : Option Addr} {cap : Nat} {l : List α} (hn : 0 < GoD.n α) (h : rd w [.slice oa l.length cap] l) : l = [] ∨ ∃ (b off : Nat) (news : List Value), oa = some ⟨b, off, none⟩ ∧ news.length = l.length * GoD.n α ∧ (∀ j u, news[j]? = some u → w.cell? ⟨b, off + j, none⟩ = some u) ∧
    ∀ i a, l[i]? = some a → rd w ((news.drop (i * GoD.n α)).take (GoD.n α)) a := by
  obtain ⟨oa', cap', e, hl, hm, hel⟩ := h
  obtain ⟨rfl, rfl⟩ : oa = oa' ∧ cap = cap' := by simpa using e
  cases hcase : l with
  | nil => exact .inl rfl
  | cons a0 l0 =>
    right
    obtain ⟨b, off, _, rfl, _⟩ := hel 0 a0 (by simp [hcase])
    rw [← hcase]
    have key : ∀ k, k ≤ l.length → ∃ news : List Value, news.length = k * GoD.n α ∧ (∀ j u, news[j]? = some u → w.cell? ⟨b, off + j, none⟩ = some u) ∧ ∀ i a, i < k → l[i]? = some a → rd w ((news.drop (i * GoD.n α)).take (GoD.n α)) a := by
      intro k
      induction k with
      | zero => intro _; exact ⟨[], by simp, by simp, fun i a hi => absurd hi (Nat.not_lt_zero _)⟩
      | succ k ih =>
        intro hk
        obtain ⟨news, h1, h2, h3⟩ := ih (by omega)
        obtain ⟨b', off', ce, e', hcl, hcc, hr⟩ := hel k _ (List.getElem?_eq_getElem (by omega : k < l.length))
        obtain ⟨rfl, rfl⟩ : b = b' ∧ off = off' := by simpa using e'
        refine ⟨news ++ ce, by rw [List.length_append, h1, hcl, Nat.add_mul, Nat.one_mul], fun j u hj => ?_, fun i a hi ha => ?_⟩
        · rcases Nat.lt_or_ge j news.length with h | h
          · rw [List.getElem?_append_left h] at hj; exact h2 j u hj
          rw [List.getElem?_append_right h] at hj
          have := hcc _ u hj
          rw [show off + k * GoD.n α + (j - news.length) = off + j by rw [← h1]; omega] at this
          exact this
        rcases Nat.lt_or_ge i k with h | h
        · have hmul := Nat.mul_le_mul_right (GoD.n α) (show i + 1 ≤ k by omega)
          rw [Nat.add_mul, Nat.one_mul] at hmul
          rw [List.drop_append_of_le_length (by omega), List.take_append_of_le_length (by rw [List.length_drop]; omega)]
          exact h3 i a h ha
        obtain rfl : i = k := by omega
        rw [List.getElem?_eq_getElem (by omega)] at ha
        obtain rfl := Option.some.inj ha
        rw [← h1, List.drop_left, ← hcl, List.take_length]
        exact hr
    obtain ⟨news, h1, h2, h3⟩ := key l.length (Nat.le_refl _)
    exact ⟨b, off, news, rfl, h1, h2, fun i a ha => h3 i a (List.getElem?_eq_some_iff.1 ha).1 ha⟩
theorem DG {P : Program} (w : World) (t ty e : TypeId) (hpl : Plain α) (ht : P.underlying t = some (.slice e))
    (hinf : (P.info? e).map (fun i => (i.zero.map (·.cells.size), i.size, decide (i.bytes ≤ 1000))) = some (some (GoD.n α), GoD.n α, true)) {g : Nat} (hg : w.heap[g]? = some (.cells #[] e (0, 0)))
    {y : Value} {l : List α} (hr : rd w [y] l) (hl : l.length ≤ 1073741824) :
    ∃ v' w' L, (Builtin.append_ #[t, t] ty #[.slice (some ⟨g, 0, none⟩) 0 0, y]).run P w = .ok v' w' ∧ own L w' [v'] l ∧ Ext w w' ∧ ∀ b ∈ L, w.heap.size ≤ b ∧ b < w'.heap.size := by
  obtain ⟨i, z, hi, hz, hsize, hzn, hb⟩ := TN hinf
  obtain ⟨oa, cap, rfl⟩ := Pi hr
  have hown : w.ownsRow g e i.size (.slice (some ⟨g, 0, none⟩) 0 0) 0 [] := ⟨by simp, .inr ⟨g, 0, #[], rfl, Nat.le_refl _, hg, Nat.le_refl _, Nat.zero_le _, by simp, by simp⟩⟩
  have h0 : own [] w [.slice (some ⟨g, 0, none⟩) 0 0] ([] : List α) := ⟨by simp, .inl ⟨rfl, rfl, _, rfl⟩⟩
  rcases PG hpl.1 hr with rfl | ⟨b, off, news, rfl, hnl, hnews, hrd⟩
  · cases oa with
    | none =>
      obtain ⟨_, _, ee, _, _, _⟩ := hr
      by_cases hc : cap = 0
      · subst hc
        exact ⟨_, w, [], UG w t ty e i ht hi g 0 0 (Nat.le_refl _), h0, Ext.refl w, by simp⟩
      refine ⟨_, w, [], ?_, h0, Ext.refl w, by simp⟩
      simp [Builtin.append_, run_underlying ht, sizeOf, typeInfo, hi, Builtin.lenOf, Builtin.firstCells, loadCells, loadCellsFrom, storeCells]
    | some ad =>
      refine ⟨_, w, [], ?_, h0, Ext.refl w, by simp⟩
      simp [Builtin.append_, run_underlying ht, sizeOf, typeInfo, hi, Builtin.lenOf, Builtin.firstCells, loadCells, loadCellsFrom, storeCells]
  cases hlc : l with
  | nil =>
    subst hlc
    refine ⟨_, w, [], ?_, h0, Ext.refl w, by simp⟩
    simp [Builtin.append_, run_underlying ht, sizeOf, typeInfo, hi, Builtin.lenOf, Builtin.firstCells, loadCells, loadCellsFrom, storeCells]
  | cons a0 l0 =>
    rw [← hlc]
    have hpos : 0 < l.length := by rw [hlc]; simp
    have h1 : ∀ u ∈ news, Value.oneCell' u = true := fun u hu => by
      obtain ⟨j, hj, rfl⟩ := List.getElem_of_mem hu
      have hnp := hpl.1
      have hjn : j / GoD.n α < l.length := by rw [Nat.div_lt_iff_lt_mul hnp]; omega
      have hx := (hpl.2 w w _ _ (hrd _ _ (List.getElem?_eq_getElem hjn))).2
      refine hx _ (List.mem_of_getElem? (i := j % GoD.n α) ?_)
      rw [Hn (Nat.mod_lt _ hnp), Nat.mul_comm, Nat.div_add_mod, List.getElem?_eq_getElem hj]
    obtain ⟨v', w', hr', hw, hgr, _, hfresh⟩ := Qa7 (P := P) w g t ty e i z ht hi hz (by rw [hsize]; exact hzn) (by rw [hsize]; exact hpl.1) hb hown ⟨b, off, none⟩ l.length cap news (by rw [hsize]; exact hnl) (fun j u hj => by
      have := hnews j u hj
      unfold Addr.add
      by_cases hj0 : j = 0
      · subst hj0; simpa using this
      simpa [hj0] using this) h1 (by omega) (Nat.le_of_lt (Q2 hg))
    obtain ⟨hf1, hf2⟩ := hfresh _ _ _ rfl (by omega)
    have hext : Ext w w' := (Below.refl _ _).grown hf2 (Nat.le_refl _) (fun k hk => by cases hk)
    rw [Nat.zero_add, List.nil_append, hsize] at hw
    have hA : App e w w' (v'.ownBlock.toList ++ (List.replicate l.length ([] : List Nat)).flatten) v' l := by
      refine ⟨news, List.replicate l.length [], ⟨hw.1, ?_⟩, rfl, ?_, ?_, by simp, fun i Li a hLi ha => ?_⟩
      · rcases hw.2 with h | ⟨g', cap', cur, h1, h2, h3⟩
        · exact .inl h
        exact .inr ⟨g', cap', cur, h1, hf1 g' (by rw [h1]; rfl), h3⟩
      · simp only [List.flatten_replicate_nil, List.append_nil]
        cases v'.ownBlock <;> simp
      · intro b' hb'
        simp only [List.flatten_replicate_nil, List.append_nil] at hb'
        have hb2 : v'.ownBlock = some b' := by simpa using hb'
        exact ⟨hf1 b' hb2, (World.ownsRow.lt hw b' hb2).2⟩
      have : Li = [] := by
        have := List.mem_of_getElem? hLi
        exact (List.mem_replicate.1 this).2
      subst this
      exact (hpl.2 w w' _ _ (hrd i a ha)).1
    exact ⟨v', w', _, hr', hA.done, hext, fun b hb => ⟨hA.ge b hb, hA.lt b hb⟩⟩
theorem Bl {P : Program} {w : World} {ops : Array Oper} {rest : List Oper} {o : Oper} {a : Act} {Q : Exit → Act → World → Prop} (s x : Operand) (t e : TypeId) (hpl : Plain α) (g : Nat) {y : Value} {l : List α} (hr : rd w [y] l) (hl : l.length ≤ 1073741824)
    (hg : w.heap[g]? = some (.cells #[] e (0, 0))) (hgd : o.guard = none) (ho : o.op = .call { callee := .builtin .append, args := #[s, x], argTypes := #[t, t] }) (ht : P.underlying t = some (.slice e))
    (hinf : (P.info? e).map (fun i => (i.zero.map (·.cells.size), i.size, decide (i.bytes ≤ 1000))) = some (some (GoD.n α), GoD.n α, true)) (hs : a.eval s = .slice (some ⟨g, 0, none⟩) 0 0) (hx : a.eval x = y)
    (k : ∀ v' w' L, own L w' [v'] l → Ext w w' → (∀ b ∈ L, w.heap.size ≤ b ∧ b < w'.heap.size) → wpList P ops Q rest (a.put o.dst v') w') : wpList P ops Q (o :: rest) a w := by
  refine wpList_plain hgd fun _ hK => ?_
  obtain ⟨v', w', L, hr', h1, h2, h3⟩ := DG (P := P) w t o.type e hpl ht hinf hg hr hl
  unfold Oper.wp execOp
  simp only [ho, resolve, invoke, builtin, Sem.run_bind, Sem.run_pure, Result.andThen_ok, List.map_toArray, List.map_cons, List.map_nil, hs, hx, hr']
  exact hK _ _ (k v' w' L h1 h2 h3)
end
/-! ### makers -/
section
variable {P : Program} {o : Oper} {a : Act} {w : World} {K : Act → World → Prop} {Q : Exit → Act → World → Prop}
def New0 (e : TypeId) (v : Value) (L : List Nat) (w : World) : Prop := L = [] ∧ ∃ g, v = .slice (some ⟨g, 0, none⟩) 0 0 ∧ w.heap[g]? = some (.cells #[] e (0, 0))
theorem New0.keep {e : TypeId} {v : Value} {L : List Nat} {w w' : World} (h : New0 e v L w) (hx : Ext w w') : New0 e v L w' := by
  obtain ⟨h1, g, h2, h3⟩ := h
  exact ⟨h1, g, h2, (hx.block g (Q2 h3)).trans h3⟩
end
end
section
open Go.RowKit
open GoD (rd own)
theorem XQ (w : World) (v : Value) (l : List ByteArray) (ha : rd w [v] l) (hl : l.length ≤ 1073741824) : Calls Tryz.prog 254 #[v] w (RetS w l) := by
  have HA := Lib.hid ha
  obtain ⟨oa, cap, e, hlc, hm, hel⟩ := ha
  obtain rfl : v = _ := by simpa using e
  clear e
  have q22 : ∀ (w : World) (a : Option Addr) (n c n' c' : Nat), (binOp .eql 91 (.slice a n c) (.slice none n' c')).run Tryz.prog w = .ok (.bool a.isNone) w := fun w a n c n' c' => Lib.run_eql_slice_nil w _ _ a n c n' c' Tryz.underlying91
  cases oa with
  | none =>
    have hnil : l = [] := by
      cases l with
      | nil => rfl
      | cons a l => obtain ⟨b, off, ce, h, _⟩ := hel 0 a rfl; cases h
    clear hel
    subst hnil
    go_enter Tryz.func254, Tryz.ntmps254
    go_wp2
    go_ret
    all_goals exact ⟨_, [], rfl, Below.refl _ _, ⟨by simp, .inl ⟨rfl, rfl, _, rfl⟩⟩, by simp⟩
  | some ad =>
    clear hel
    go_enter Tryz.func254, Tryz.ntmps254
    go_wp2_with (at_builtin; refine Bl (α := ByteArray) _ _ 91 9 Dh w.heap.size (Y1 HA.out (by go_grown)) hl (heap_alloc_new w _) rfl rfl Tryz.underlying91 (by kernel_rfl) rfl rfl ?_; intro v2 w2 L2 ho2 hx2 hL2)
    go_ret
    have hb : Below w.heap.size w w2 := By (show Below w.heap.size w _ by go_grown) hx2
    exact ⟨v2, L2, rfl, hb, ho2, fun b hb' => by have := (hL2 b hb').1; simp only [World.size_alloc] at this; omega⟩
theorem XR (l : List ByteArray) : ACalls Tryz.prog 254 [Qcz l] (JA l) := Dy (by unfold Bu; kernel_rfl) (fun w v h hw => XQ w v l h (by have := hw.1; omega)) id
theorem UH (w : World) (v : Value) (l : List Kz) (ha : rd w [v] l) (hl : l.length ≤ 1073741824) : Calls Tryz.prog 158 #[v] w (RetS w l) := by
  have HA := Lib.hid ha
  obtain ⟨oa, cap, e, hlc, hm, hel⟩ := ha
  obtain rfl : v = _ := by simpa using e
  clear e
  have q22 : ∀ (w : World) (a : Option Addr) (n c n' c' : Nat), (binOp .eql 129 (.slice a n c) (.slice none n' c')).run Tryz.prog w = .ok (.bool a.isNone) w := fun w a n c n' c' => Lib.run_eql_slice_nil w _ _ a n c n' c' Tryz.underlying129
  cases oa with
  | none =>
    have hnil : l = [] := by
      cases l with
      | nil => rfl
      | cons a l => obtain ⟨b, off, ce, h, _⟩ := hel 0 a rfl; cases h
    clear hel
    subst hnil
    go_enter Tryz.func158, Tryz.ntmps158
    go_wp2
    go_ret
    all_goals exact ⟨_, [], rfl, Below.refl _ _, ⟨by simp, .inl ⟨rfl, rfl, _, rfl⟩⟩, by simp⟩
  | some ad =>
    clear hel
    go_enter Tryz.func158, Tryz.ntmps158
    go_wp2_with (at_builtin; refine Bl (α := Kz) _ _ 129 175 (Wh Dh (Wh A3 (Wh A3 Dh))) w.heap.size (Y1 HA.out (by go_grown)) hl (heap_alloc_new w _) rfl rfl Tryz.underlying129 (by kernel_rfl) rfl rfl ?_; intro v2 w2 L2 ho2 hx2 hL2)
    go_ret
    have hb : Below w.heap.size w w2 := By (show Below w.heap.size w _ by go_grown) hx2
    exact ⟨v2, L2, rfl, hb, ho2, fun b hb' => by have := (hL2 b hb').1; simp only [World.size_alloc] at this; omega⟩
theorem UI (l : List Kz) : ACalls Tryz.prog 158 [Qcz l] (JA l) := Dy (by unfold Bu; kernel_rfl) (fun w v h hw => UH w v l h (by have := hw.1; omega)) id
theorem JK (w : World) (v : Value) (l : List X6) (ha : rd w [v] l) (hl : l.length ≤ 1073741824) : Calls Tryz.prog 80 #[v] w (RetS w l) := by
  have HA := Lib.hid ha
  obtain ⟨oa, cap, e, hlc, hm, hel⟩ := ha
  obtain rfl : v = _ := by simpa using e
  clear e
  have q22 : ∀ (w : World) (a : Option Addr) (n c n' c' : Nat), (binOp .eql 39 (.slice a n c) (.slice none n' c')).run Tryz.prog w = .ok (.bool a.isNone) w := fun w a n c n' c' => Lib.run_eql_slice_nil w _ _ a n c n' c' Tryz.underlying39
  cases oa with
  | none =>
    have hnil : l = [] := by
      cases l with
      | nil => rfl
      | cons a l => obtain ⟨b, off, ce, h, _⟩ := hel 0 a rfl; cases h
    clear hel
    subst hnil
    go_enter Tryz.func80, Tryz.ntmps80
    go_wp2
    go_ret
    all_goals exact ⟨_, [], rfl, Below.refl _ _, ⟨by simp, .inl ⟨rfl, rfl, _, rfl⟩⟩, by simp⟩
  | some ad =>
    clear hel
    go_enter Tryz.func80, Tryz.ntmps80
    go_wp2_with (at_builtin; refine Bl (α := X6) _ _ 39 126 (Wh Dh A3) w.heap.size (Y1 HA.out (by go_grown)) hl (heap_alloc_new w _) rfl rfl Tryz.underlying39 (by kernel_rfl) rfl rfl ?_; intro v2 w2 L2 ho2 hx2 hL2)
    go_ret
    have hb : Below w.heap.size w w2 := By (show Below w.heap.size w _ by go_grown) hx2
    exact ⟨v2, L2, rfl, hb, ho2, fun b hb' => by have := (hL2 b hb').1; simp only [World.size_alloc] at this; omega⟩
theorem JL (l : List X6) : ACalls Tryz.prog 80 [Qcz l] (JA l) := Dy (by unfold Bu; kernel_rfl) (fun w v h hw => JK w v l h (by have := hw.1; omega)) id
theorem UJ (w : World) (v : Value) (l : List Qw) (ha : rd w [v] l) (hl : l.length ≤ 1073741824) : Calls Tryz.prog 122 #[v] w (RetS w l) := by
  have HA := Lib.hid ha
  obtain ⟨oa, cap, e, hlc, hm, hel⟩ := ha
  obtain rfl : v = _ := by simpa using e
  clear e
  have q22 : ∀ (w : World) (a : Option Addr) (n c n' c' : Nat), (binOp .eql 132 (.slice a n c) (.slice none n' c')).run Tryz.prog w = .ok (.bool a.isNone) w := fun w a n c n' c' => Lib.run_eql_slice_nil w _ _ a n c n' c' Tryz.underlying132
  cases oa with
  | none =>
    have hnil : l = [] := by
      cases l with
      | nil => rfl
      | cons a l => obtain ⟨b, off, ce, h, _⟩ := hel 0 a rfl; cases h
    clear hel
    subst hnil
    go_enter Tryz.func122, Tryz.ntmps122
    go_wp2
    go_ret
    all_goals exact ⟨_, [], rfl, Below.refl _ _, ⟨by simp, .inl ⟨rfl, rfl, _, rfl⟩⟩, by simp⟩
  | some ad =>
    clear hel
    go_enter Tryz.func122, Tryz.ntmps122
    go_wp2_with (at_builtin; refine Bl (α := Qw) _ _ 132 189 (Wh A3 (Wh A3 (Wh A3 (Wh Dh (Wh A3 (Wh A3 Dh)))))) w.heap.size (Y1 HA.out (by go_grown)) hl (heap_alloc_new w _) rfl rfl Tryz.underlying132 (by kernel_rfl) rfl rfl ?_; intro v2 w2 L2 ho2 hx2 hL2)
    go_ret
    have hb : Below w.heap.size w w2 := By (show Below w.heap.size w _ by go_grown) hx2
    exact ⟨v2, L2, rfl, hb, ho2, fun b hb' => by have := (hL2 b hb').1; simp only [World.size_alloc] at this; omega⟩
theorem UK (l : List Qw) : ACalls Tryz.prog 122 [Qcz l] (JA l) := Dy (by unfold Bu; kernel_rfl) (fun w v h hw => UJ w v l h (by have := hw.1; omega)) id
end
end Go.Proofs.YtkbmchfkaibelaaGreatDoor
