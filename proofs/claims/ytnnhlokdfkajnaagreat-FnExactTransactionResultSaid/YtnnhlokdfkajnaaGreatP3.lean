/- Texts of this proof, put together by a program: Zc, Mk, Ty, App, Fk, Kn, Cka, Ckb. -/
import Derived.Test.YtnnhlokdfkajnaaGreatP2
import Derived.Orders
import Derived.LoopN
import Derived.KernelRfl
import Derived.Deep.DeepAppendWide
import Derived.Deep.DeepAppendRoom
import Derived.Maps.AppendAt
import Derived.Test.YtnnhlokdfkajnaaGreatProg
import Derived.Outline
import Derived.Lib.SliceRun
set_option linter.unusedVariables false
set_option linter.unusedSimpArgs false
namespace Go.Proofs.YtnnhlokdfkajnaaGreat
open _root_.Array renaming getD_eq_getD_getElem? → zZ, getElem?_eq_some_iff → yF, getElem?_toList → yG
open _root_.Bool renaming and_eq_true → zJ, not_eq_true' → zP, and_comm → xT
open _root_.ByteArray renaming size → zE
open _root_.Classical renaming byContradiction → yO
open _root_.Int renaming toNat → zG
open _root_.List renaming getElem?_eq_some_iff → zF, getElem?_eq_getElem → zH, mem_cons → zM, mem_cons_of_mem → zN, eq_nil_of_length_eq_zero → zO, getElem?_append_right → zS, getElem?_append_left → zU, mem_append_right → zV, mem_singleton → zW, mem_append_left → zY, mem_append → yA, mem_cons_self → yB, map_cons → yE, map_congr_left → yH, getElem?_take → yI, mem_of_getElem? → yK, pairwise_iff_getElem → yN, map_append → yP, length_append → yQ, take_append_drop → yV, length_cons → yW, take_append_of_le_length → yY, nodup_cons → yZ, append_nil → xA, mem_map → xB, drop_drop → xC, nodup_nil → xD, pairwise_cons → xE, replicate → xF, flatten_replicate_nil → xG, getElem?_cons_succ → xH, mem_flatMap → xI, cons_append → xJ, map_id' → xK, nil_append → xM, getElem?_eq_none → xN, mem_of_mem_take → xO, drop_take → xP, take_take → xQ, pairwise_append → xR, getElem_of_mem → xS, map → xU
open _root_.Nat renaming beq → zQ, add_mul → zR, mul_le_mul_right → zT, le_refl → zX, le_trans → yC, one_mul → yD, zero_lt_one → yJ, zero_le → yL, lt_of_lt_of_le → yR, eq_of_beq_eq_true → yU, le_add_right → yX, min_eq_left → xL, lt_or_ge → xV, zero_add → xW
open _root_.Option renaming map_some → zK, map_eq_some_iff → zL, bind_some → yM
open _root_.Option.some renaming inj → zD, injEq → yS
open _root_.Prod renaming snd → yT
section
open Go.RowKit
structure Rec where
 avs:List AV
 bn:List (Nat×List C)
 res:Res
 obs:List Ob
def G5 (s:St):List Operand->Option (List AV)
 | []=>some []
 | x::r=>match UR s x,G5 s r with
   | some v,some vs=>some (v::vs)
   | _,_=>none
def Py:List C->List Nat
 | []=> []
 | c::r=>c.bkeys++Py r
def Ay (s:St):List Nat->List (Nat×List C)
 | []=> []
 | k::r=>match get s.bx k with
   | some cs=>(k,cs)::Ay s r
   | none=>Ay s r
def KS (tt : List (Nat×TI)) (orc:Orc) (bn:List (Nat×List C)) (dst:Option Nat) (op:Op) (avs:List AV):Option (Res×List Ob):=
 match Qa0 tt orc bn op avs with
 | some (v,obs)=>(match orc with
   | .val v'=>some (⟨v', [],none,none⟩,.eq v v'::obs)
   | _=>some (⟨v, [],none,none⟩,obs))
 | none => match Qir tt bn dst op avs with
   | some x=>some x
   | none => match Qiu tt orc dst op avs with
     | some x=>some x
     | none => match Qi0 orc bn dst op avs with
       | some x=>some x
       | none =>match Qa7 tt orc op avs with
         | some (v,obs)=>(match orc with
           | .val v'=>some (⟨v', [],none,none⟩,.eq v v'::obs)
           | _=>some (⟨v, [],none,none⟩,obs))
         | none =>match Qa8 tt op avs with
           | some x=>some x
           | none=>match Qi1 tt dst op avs with
             | some x=>some x
             | none=>match Qi4 orc bn dst op avs with
               | some x=>some x
               | none=>Qi5 orc bn dst op avs
def EZ (tt:List (Nat×TI)) (orc:Orc) (bn:List (Nat×List C)) (dst:Option Nat) (op:Op) (avs:List AV):Option (Res×List Ob):=
 match KR tt orc op avs with
 | some (v,obs)=>some (⟨v, [],none,none⟩,obs)
 | none=>KS tt orc bn dst op avs
def Eb (ops:List Oper) (s:St) (o:Oper):Option Bool:=
 match o.guard with
 | none=>some true
 | some (j,want)=>match ops[j]? with
   | some oj=>(match oj.dst with
     | some t=>(match get s.tm t with
       | some (.one (.bool b))=>some (match b,want with
         | true,true=>true
         | false,false=>true
         | _,_=>false)
       | some (.tup [])=>some false
       | _=>none)
     | none=>none)
   | none=>none
def LS (N:Nat):Option Nat->Bool
 | none=>true
 | some d=>Nat.blt d N
def Gd (tt:List (Nat×TI)) (N:Nat) (orc:Orc) (ops:List Oper) (s:St) (o:Oper):Option Rec:=
 bif LS N o.dst then
  match Eb ops s o with
  | some true=>(match G5 s o.op.operands.toList with
    | some avs=>(match EZ tt orc (Ay s (Py (Yx avs))) o.dst o.op avs with
      | some (r,obs)=>some ⟨avs,Ay s (Py (Yx avs)),r,obs⟩
      | none=>none)
    | none=>none)
  | some false=>some ⟨[], [],⟨.tup [], [],none,none⟩, []⟩
  | none=>none
 else none
section
variable {P:Program} {N:Nat} {w0:Base} {F0:Nat->Prop} {J:Inj} {a:Act} {w:World} {s:St}
theorem AJ : ∀ {xs :List Operand} {vs:List AV},G5 s xs=some vs->All2 (λx v=>UR s x=some v) xs vs
 | [], vs, h => by obtain rfl: []=vs:=by simpa [G5] using h
                   exact .nil
 | x::r,vs,h=>by
   simp only[G5] at h;split at h
   . rename_i v vs' e1 e2;obtain rfl:=zD h;exact .cons e1 (AJ e2)
   cases h
theorem S4:∀{ks:List Nat} {k:Nat} {c:List C},get (Ay s ks) k=some c->get s.bx k=some c
 | [],k,c,h=>by simp[Ay,get] at h
 | x ::r,k,c,h=>by
   simp only[Ay] at h;split at h
   . rename_i cs hx;simp only[get] at h;split at h
     . rename_i e;subst e;rw[hx];exact h
     exact S4 h
   exact S4 h
theorem RY {tt:List (Nat×TI)} (htt:Gs P tt=true) {orc:Orc} {bn:List (Nat×List C)} {o:Oper} {avs:List AV} {r:Res} {obs:List Ob} (h:KS tt orc bn o.dst o.op avs=some (r,obs)) (hob:AllOb (Zz P w0) (Ul P w0) obs)
 (hdst:∀d,o.dst=some d->d<N) (hrel:Rel N w0 F0 J a w s) (hops:All2 (λx v=>UR s x=some v) o.op.operands.toList avs) (hbn:∀k c,get bn k=some c->get s.bx k=some c) {K:Act->World->Prop} {Q:Exit->Act->World->Prop}
 (hK:∀J' a' w',Rel N w0 F0 J' a' w' (s.step o.dst r)->K a' w'):o.wp P a w K Q:=by
 unfold KS at h
 have hbx:∀k c,get bn k=some c->∃arr e,w.heap[J.B k]? =some (.cells arr e (0,0))/\All2 (CR J w) arr.toList c:=λk c hk=>by
  obtain ⟨_,_,_,h⟩:=hrel.bo k c (hbn k c hk);exact h
 split at h
 . rename_i v obs' hp
   have key:∀v',AllOb (Zz P w0) (Ul P w0) obs'->v=v'->(∀J' a' w',Rel N w0 F0 J' a' w' (s.step o.dst ⟨v', [],none,none⟩)->K a' w')->o.wp P a w K Q:=by
    intro v' hob' e hK';obtain ⟨u,hu,hr⟩:=Qe7 (P:=P) (A:=Zz P w0) (J:=J) (w:=w) htt hp hob' rfl (ρ:=a.eval) (λ_=>rfl) (E9 hrel hops) hbx;exact Vu hu (hK' J _ _ (hrel.pure o.dst hdst v' u λ_=>e▸hr))
   split at h
   . rename_i v';obtain ⟨rfl,rfl⟩:(⟨v', [],none,none⟩:Res)=r/\ .eq v v'::obs'=obs:=by simpa using h
     obtain ⟨e,hob'⟩:=AllOb.cons hob;exact key v' hob' e hK
   obtain ⟨rfl,rfl⟩:(⟨v, [],none,none⟩:Res)=r/\obs'=obs:=by simpa using h
   exact key v hob rfl hK
 split at h
 . rename_i x hx;obtain rfl:=zD h;exact Qe9 (P:=P) htt hx hdst hrel hops hbn hK
 split at h
 . rename_i x hx;obtain rfl:=zD h;exact Qfa (P:=P) htt hx hob hdst hrel hops hK
 split at h
 . rename_i x hx;obtain rfl:=zD h;exact Qfb (P:=P) hx hob hdst hrel hops hbn hK
 split at h
 . rename_i v obs' hp;have hval:(∃v',orc= .val v')\/∀v',orc≠ .val v':=by cases orc<;>simp
   rcases hval with ⟨v',rfl⟩ | hne
   . obtain ⟨rfl,rfl⟩:(⟨v', [],none,none⟩:Res)=r/\ .eq v v'::obs'=obs:=by simpa using h
     obtain ⟨e,hob'⟩:=AllOb.cons hob;obtain ⟨u,hu,hr⟩:=EX (P:=P) (A:=Zz P w0) (J:=J) (w:=w) htt hp hob' rfl (ρ:=a.eval) (E9 hrel hops);have e:v=v':=e;exact Vu hu (hK _ _ _ (hrel.pure o.dst hdst _ _ λ_=>e▸hr))
   have h2:some ((⟨v, [],none,none⟩:Res),obs')=some (r,obs):=by
    split at h
    . exact absurd rfl (hne _)
    exact h
   obtain ⟨rfl,rfl⟩:(⟨v, [],none,none⟩:Res)=r/\obs'=obs:=by simpa using h2
   obtain ⟨u,hu,hr⟩:=EX (P:=P) (A:=Zz P w0) (J:=J) (w:=w) htt hp hob rfl (ρ:=a.eval) (E9 hrel hops);exact Vu hu (hK _ _ _ (hrel.pure o.dst hdst _ _ λ_=>hr))
 split at h
 . rename_i x hx;obtain rfl:=zD h;exact Qba (P:=P) htt hx hdst hrel hops hK
 split at h
 . rename_i x hx;obtain rfl:=zD h;exact Qfd (P:=P) htt hx hob hdst hrel hops hK
 split at h
 . rename_i x hx;obtain rfl:=zD h;exact Qff (P:=P) hx hob hdst hrel hops hbn hK
 exact Qfj (P:=P) h hob hdst hrel hops hbn hK
theorem Qbg {tt:List (Nat×TI)} (htt:Gs P tt=true) {orc:Orc} {bn:List (Nat×List C)} {o:Oper} {avs:List AV} {r:Res} {obs:List Ob} (h:EZ tt orc bn o.dst o.op avs=some (r,obs)) (hob:AllOb (Zz P w0) (Ul P w0) obs)
 (hdst:∀d,o.dst=some d->d<N) (hrel:Rel N w0 F0 J a w s) (hops:All2 (λx v=>UR s x=some v) o.op.operands.toList avs) (hbn:∀k c,get bn k=some c->get s.bx k=some c) {K:Act->World->Prop} {Q:Exit->Act->World->Prop}
 (hK:∀J' a' w',Rel N w0 F0 J' a' w' (s.step o.dst r)->K a' w'):o.wp P a w K Q:=by
 unfold EZ at h;split at h
 . rename_i v obs' hp;obtain ⟨rfl,rfl⟩:(⟨v, [],none,none⟩:Res)=r/\obs'=obs:=by simpa using h
   obtain ⟨u,hu,hr⟩:=RX (P:=P) (A:=Zz P w0) (J:=J) (w:=w) htt hp hob rfl (ρ:=a.eval) (E9 hrel hops);exact Vu hu (hK _ _ _ (hrel.pure o.dst hdst _ _ λ_=>hr))
 exact RY htt h hob hdst hrel hops hbn hK
theorem OL {ops:Array Oper} {o:Oper} {b:Bool} (hrel:Rel N w0 F0 J a w s) (h:Eb ops.toList s o=some b):Region.wanted o (yielded ops a.tmps)=b:=by
 unfold Eb at h;unfold Region.wanted;split at h
 . rename_i hg;rw[hg];exact zD h
 rename_i j want hg;rw[hg];split at h
 . rename_i oj hj;split at h
   . rename_i t ht;split at h
     . rename_i c hc;have h1:a.tmps.getD t undef= .bool c:=hrel.tm t _ hc
       have h2:a.tmps[t]? =some (.bool c):=by
        rw[zZ] at h1;cases hq:a.tmps[t]? with
        | none=>rw[hq] at h1;simp[undef] at h1
        | some u=>rw[hq] at h1;simp at h1;rw[h1]
       have hj':ops[j]? =some oj:=by simpa using hj
       simp only[yielded,hj',yM,ht,h2];obtain rfl:=zD h;cases c<;>cases want<;>rfl
     . rename_i hc;obtain ⟨vs,h1,hv⟩:=hrel.tm t _ hc;cases hv
       have hj':ops[j]? =some oj:=by simpa using hj
       obtain rfl:=zD h;rw[zZ] at h1;cases hq:a.tmps[t]? with
       | none=>simp[yielded,hj',ht,hq]
       | some u=>
         rw[hq] at h1;obtain rfl:u=_:=h1;simp[yielded,hj',ht,hq]
     cases h
   cases h
 cases h
theorem Qbh {tt:List (Nat×TI)} (htt:Gs P tt=true) {orc:Orc} {ops:Array Oper} {i:Nat} {o:Oper} (hi:ops[i]? =some o) {ρ:Rec} (h:Gd tt N orc ops.toList s o=some ρ) (hob:AllOb (Zz P w0) (Ul P w0) ρ.obs) (hrel:Rel N w0 F0 J a w s)
 {K:Act->World->Prop} {Q:Exit->Act->World->Prop} (hK:∀J' a' w',Rel N w0 F0 J' a' w' (s.step o.dst ρ.res)->K a' w'):wpOp P ops Q i K a w:=by
 unfold Gd at h;cases hd:LS N o.dst with
 | false=>rw[hd] at h;cases h
 | true =>
   rw[hd] at h;simp only[cond_true] at h;have hdst:∀d,o.dst=some d->d<N:=λd e=>by rw[e] at hd;simpa [LS] using hd
   unfold wpOp;simp only[hi];split at h
   . rename_i hg;have hw:=OL hrel hg;split at h
     . rename_i avs havs;split at h
       . rename_i r obs he;obtain rfl:=zD h;rw[if_pos hw];exact .inl (Qbg (P:=P) htt he hob hdst hrel (AJ havs) (λk c hk=>S4 hk) hK)
       cases h
     cases h
   . rename_i hg;obtain rfl:=zD h;have hw:=OL hrel hg;rw[if_neg (by rw[hw];simp)];exact hK J _ _ (hrel.pure o.dst hdst _ _ λ_=>⟨[],rfl,.nil⟩)
   cases h
def CN (orcs:List (Nat×Orc)) (i:Nat):Orc:=match get orcs i with
 | some x=>x
 | none=> .no
def Oz (tt:List (Nat×TI)) (N:Nat) (orcs:List (Nat×Orc)) (ops:List Oper):List Oper->Nat->St->Option (St×List Ob)
 | [],_,s=>some (s, [])
 | o ::r,i,s=>match Gd tt N (CN orcs i) ops s o with
   | some ρ=>(match Oz tt N orcs ops r (i+1) (s.step o.dst ρ.res) with
     | some (s',obs)=>some (s',ρ.obs++obs)
     | none=>none)
   | none=>none
theorem FA {tt:List (Nat×TI)} (htt:Gs P tt=true) {orcs:List (Nat×Orc)} {ops:Array Oper} {Q:Exit->Act->World->Prop}:∀(l:List Oper) (i:Nat) {s s':St} {obs:List Ob} {J:Inj} {a:Act} {w:World},ops.toList.drop i=l->
 Oz tt N orcs ops.toList l i s=some (s',obs)->AllOb (Zz P w0) (Ul P w0) obs->Rel N w0 F0 J a w s->(∀J' a' w',Rel N w0 F0 J' a' w' s'->Q .normal a' w')->wpOps P ops Q (List.range' i l.length) a w
 | [],i,s,s',obs,J,a,w,_,h,_,hrel,hQ=>by
   obtain ⟨rfl,rfl⟩:s=s'/\ []=obs:=by simpa [Oz] using h
   exact hQ J a w hrel
 | o :: r,i,s,s',obs,J,a,w,hl,h,hob,hrel,hQ=>by
   simp only[Oz] at h;split at h
   . rename_i ρ hρ;split at h
     . rename_i s'' obs' hr;obtain ⟨rfl,rfl⟩:s''=s'/\ρ.obs++obs'=obs:=by simpa using h
       obtain ⟨ho1,ho2⟩:=AllOb.append hob
       have hi:ops[i]? =some o:=by
        have:=congrArg (·[0]?) hl;simpa using this
       have hl':ops.toList.drop (i+1)=r:=by rw[←xC,hl];rfl
       rw[yW,List.range'_succ,wpOps_cons];exact Qbh (P:=P) htt hi hρ ho1 hrel λJ' a' w' hR=>FA htt r (i+1) hl' hr ho2 hR hQ
     cases h
   cases h
end
end
section
open Go.RowKit
section
variable (P:Program) (N:Nat) (w0:Base) (F0:Nat->Prop)
def QX (Q:Exit->St->Prop):Exit->Act->World->Prop:=λe a w=>∃J s,Rel N w0 F0 J a w s/\Q e s
def AWP (c:Code) (Q:Exit->St->Prop) (s:St):Prop:=∀J a w,Rel N w0 F0 J a w s->c.wp P (QX N w0 F0 Q) a w
end
def Weak (s s':St):Prop:=∀N w0 F0 J a w,Rel N w0 F0 J a w s->∃J',Rel N w0 F0 J' a w s'
def Exit.thenS (K:St->Prop) (Q:Exit->St->Prop):Exit->St->Prop
 | .normal,s=>K s
 | e,s=>Q e s
def Exit.inBlockS (id:Nat) (Q:Exit->St->Prop):Exit->St->Prop
 | .exit i,s=>bif zQ i id then Q .normal s else Q (.exit i) s
 | e,s=>Q e s
section
variable {P:Program} {N:Nat} {w0:Base} {F0:Nat->Prop} {Q:Exit->St->Prop} {s s':St}
theorem Weak.refl (s:St):Weak s s:=λ_ _ _ J _ _ h=>⟨J,h⟩
theorem Weak.trans {s s' s'':St} (h:Weak s s') (h':Weak s' s''):Weak s s'':=λN w0 F0 J a w hr=>by
 obtain ⟨J',hr'⟩:=h N w0 F0 J a w hr;exact h' N w0 F0 J' a w hr'
theorem Mi {c:Code} (hw:Weak s s') (h:AWP P N w0 F0 c Q s'):AWP P N w0 F0 c Q s:=λJ a w hr=>by
 obtain ⟨J',hr'⟩:=hw N w0 F0 J a w hr;exact h J' a w hr'
theorem Qfk {c:Code} {Q':Exit->St->Prop} (h:AWP P N w0 F0 c Q s) (hq:∀e s,Q e s->Q' e s):AWP P N w0 F0 c Q' s:=λJ a w hr=>
 wp_mono (h J a w hr) λe a w ⟨J,s,h1,h2⟩=>⟨J,s,h1,hq e s h2⟩
theorem Qc {x y:Code} (h:AWP P N w0 F0 x (Exit.thenS (AWP P N w0 F0 y Q) Q) s):AWP P N w0 F0 (.seq x y) Q s:=λJ a w hr=>by
 refine wp_seq (wp_mono (h J a w hr) ?_)
 rintro e a' w' ⟨J',s',hR,hq⟩
 cases e with
 | normal=>exact hq J' a' w' hR
 | _=>exact ⟨J',s',hR,hq⟩
theorem Qe (h:Q .normal s):AWP P N w0 F0 .skip Q s:=λJ a w hr=>wp_skip ⟨J,s,hr,h⟩
theorem Q9 {id:Nat} (h:Q (.exit id) s):AWP P N w0 F0 (.exit id) Q s:=λJ a w hr=>wp_exit ⟨J,s,hr,h⟩
theorem Qh (h:Q .ret s):AWP P N w0 F0 .ret Q s:=λJ a w hr=>wp_ret ⟨J,s,hr,h⟩
theorem T0 {t:Nat} {x y:Code} {b:Bool} (hc:get s.tm t=some (.one (.bool b))) (h1:b=true->AWP P N w0 F0 x Q s) (h2:b=false->AWP P N w0 F0 y Q s):AWP P N w0 F0 (.cond (.tmp t) x y) Q s:=λJ a w hr=>
 wp_cond_split (t:=b) (hr.tm t _ hc) (λe=>h1 e J a w hr) (λe=>h2 e J a w hr)
theorem Qt {id:Nat} {c:Code} (h:AWP P N w0 F0 c (Exit.inBlockS id Q) s):AWP P N w0 F0 (.block id c) Q s:=λJ a w hr=>by
 refine wp_block (wp_mono (h J a w hr) ?_)
 rintro e a' w' ⟨J',s',hR,hq⟩
 cases e with
 | exit i=>
   simp only[Exit.inBlockS] at hq;simp only[Exit.inBlock];split<;>rename_i hi
   . subst hi;simp only[Nat.beq_refl,cond_true] at hq;exact ⟨J',s',hR,hq⟩
   rw[show zQ i id=false by
    cases hb:zQ i id with
    | false=>rfl
    | true=>exact absurd (yU hb) hi] at hq
   exact ⟨J',s',hR,hq⟩
 | _=>exact ⟨J',s',hR,hq⟩
theorem KT {c:Code} {Q:Exit->Act->World->Prop}:∀(n m:Nat),n<=m->∀a w,Code.rounds P c Q n a w->Code.rounds P c Q m a w
 | 0,_,_,_,_,h=>h.elim
 | n+1,0,h,_,_,_=>absurd h (by omega)
 | n +1,m+1,hnm,a,w,h=>wp_mono (show c.wp P (Exit.then (Code.rounds P c Q n) Q) a w from h) λe a w hq=>by
     cases e with
     | normal=>exact KT n m (by omega) a w hq
     | _=>exact hq
theorem Qfl {c:Code} (I:Nat->St->Prop) {n:Nat} (h0:I n s) (hI:∀n s,I n s->AWP P N w0 F0 c (Exit.thenS (λs'=>∃m s'',m<n/\Weak s' s''/\I m s'') Q) s):AWP P N w0 F0 (.loop c) Q s:=λJ a w hr=>by
 have key:∀n s J a w,I n s->Rel N w0 F0 J a w s->Code.rounds P c (QX N w0 F0 Q) (n+1) a w:=by
  intro n
  induction n using Nat.strongRecOn with
  | _ n ih=>
    intro s J a w hi hr;refine wp_mono (hI n s hi J a w hr) ?_
    rintro e a' w' ⟨J',s',hR,hq⟩
    cases e with
    | normal=>
      obtain ⟨m,s'',hm,hw,hi'⟩:=hq;obtain ⟨J'',hR'⟩:=hw N w0 F0 J' a' w' hR;exact KT (m+1) n hm a' w' (ih m hm s'' J'' a' w' hi' hR')
    | _=>exact ⟨J',s',hR,hq⟩
 exact wp_loop_rounds (n+1) (key n s J a w h0 hr)
def LT {α:Type} (l:List (Nat×α)):List Nat->List (Nat×α)
 | []=> []
 | t::r=>match get l t with
   | some v=>(t,v)::LT l r
   | none=>LT l r
theorem Dz {α:Type} {l:List (Nat×α)} {t:Nat} {v:α}:∀{ts:List Nat},get (LT l ts) t=some v->get l t=some v
 | [],h=>by simp[LT,get] at h
 | x ::r,h=>by
   simp only[LT] at h;split at h
   . rename_i u hu;simp only[get] at h;split at h
     . rename_i e;subst e;rw[hu];exact h
     exact Dz h
   exact Dz h
def St.keep (s:St) (ts bs:List Nat):St:=⟨LT s.tm ts,LT s.bx bs⟩
theorem KU (ts bs:List Nat) (h:s.keep ts bs=s'):Weak s s':=λN w0 F0 J a w hr=>⟨J,by
 subst h;exact hr.less (λt v hv=>Dz hv) λk c hc=>Dz hc⟩
def A9 (tt:List (Nat×TI)) (N:Nat) (orcs:List (Nat×Orc)) (ops:List Oper) (ts bs:List Nat) (s:St):Option (St×List Ob):=
 match Oz tt N orcs ops ops 0 s with
 | some (s',obs)=>some (s'.keep ts bs,obs)
 | none=>none
theorem Wl {tt:List (Nat×TI)} (htt:Gs P tt=true) (orcs:List (Nat×Orc)) (ts bs:List Nat) {id:Nat} {ops:Array Oper} {obs:List Ob} (h:A9 tt N orcs ops.toList ts bs s=some (s',obs)) (hob:AllOb (Zz P w0) (Ul P w0) obs) (hQ:Q .normal s'):
 AWP P N w0 F0 (.region id ops false) Q s:=λJ a w hr=>by
 unfold A9 at h;split at h
 . rename_i s1 obs1 h1;obtain ⟨rfl,rfl⟩:s1.keep ts bs=s'/\obs1=obs:=by simpa using h
   refine wp_region ?_;have:=FA (P:=P) (Q:=QX N w0 F0 Q) htt ops.toList 0 rfl h1 hob hr λJ' a' w' hR=>⟨J',_,hR.less (λt v hv=>Dz hv) (λk c hc=>Dz hc),hQ⟩
   rw[List.range_eq_range'];simpa using this
 cases h
def N8 (k k' x:Nat):Nat:=bif zQ x k then k' else bif zQ x k' then k else x
def Qkz (k k':Nat):Tok->Tok
 | .own d x=> .own d (N8 k k' x)
 | .vw x=> .vw (N8 k k' x)
 | t=>t
def Qi6 (k k':Nat):C->C
 | .slc t n l=> .slc (Qkz k k' t) n l
 | .rptr t cs=> .rptr (Qkz k k' t) cs
 | .ept d x n i o cs=> .ept d (N8 k k' x) n i o cs
 | c=>c
theorem AK {a b:Nat} (h:a≠b):zQ a b=false:=by
 cases hb:zQ a b with
 | false=>rfl
 | true=>exact absurd (yU hb) h
theorem Cc (k k' x:Nat):N8 k k' (N8 k k' x)=x:=by
 simp only[N8];by_cases h1:x=k
 . subst h1;simp;by_cases h2:k'=x
   . simp[h2]
   have:zQ k' x=false:=AK h2;simp[this]
 have e1:zQ x k=false:=AK h1;simp only[e1,cond_false];by_cases h2:x=k'
 . subst h2;simp
 have e2:zQ x k'=false:=AK h2;simp[e1,e2]
def Inj.swap (J:Inj) (k k':Nat):Inj:=⟨J.F,λx=>J.L (N8 k k' x),J.B⟩
theorem OM {J:Inj} {w:World} {k k':Nat} {v:Value} {c:C} (h:CR J w v c):CR (J.swap k k') w v (Qi6 k k' c):=by
 cases c with
 | slc t n l=>
   cases t with
   | sh | emp | put=>exact h
   | own d x=>
     cases d with
     | true=>show OwnDeep (J.L (N8 k k' (N8 k k' x))) w v n l;rw[Cc];exact h
     | false=>show OwnTop J.F (J.L (N8 k k' (N8 k k' x))) w v n l;rw[Cc];exact h
   | vw x=>
     refine VV.keep (X:=J.X (.vw x)) (λb hb=>⟨?_,rfl⟩) h;show b∈J.L (N8 k k' (N8 k k' x))\/J.F b;rw[Cc];exact hb
 | ept d x n i o cs=>
   obtain ⟨g,r,vs,h1,h2,h3,h4⟩:=h;refine ⟨g,r,vs, ?_,h2,h3.keep λb hb=>⟨?_,rfl⟩,h4⟩
   . show J.L (N8 k k' (N8 k k' x))=_;rw[Cc];exact h1
   cases d with
   | true=>
     show b∈J.L (N8 k k' (N8 k k' x))\/J.F b;rw[Cc];exact hb
   | false=>exact hb
 | rptr t cs=>
   refine Reads.keep h λb hb=>⟨?_,rfl⟩
   cases t with
   | vw x=>
     show b∈J.L (N8 k k' (N8 k k' x))\/J.F b;rw[Cc];exact hb
   | _=>exact hb
 | _=>exact h
theorem Rel.swap {J:Inj} {a:Act} {w:World} (h:Rel N w0 F0 J a w s) (k k':Nat):Rel N w0 F0 (J.swap k k') a w (s.map (Qi6 k k')) where
 below:=h.below
 nodef:=h.nodef
 size:=h.size
 fl:=h.fl
 f0:=h.f0
 nd x:=h.nd _
 lo x:=h.lo _
 nb:=h.nb
 cb:=h.cb
 dj x y b hx hy:=by
  have:=h.dj _ _ b hx hy;rw[←Cc k k' x,this,Cc]
 bo x c hc:=by
  simp only[St.map,Lo (xU _)] at hc;obtain ⟨y,hy,rfl⟩:=zL.1 hc;obtain ⟨h1,h2,h3,arr,e,h4,h5⟩:=h.bo x y hy;exact ⟨h1,h2,λk=>h3 _,arr,e,h4,h5.map _ λa b _ hr=>OM hr⟩
 bi x y c c' hc hc' hB:=by
  simp only[St.map,Lo (xU _)] at hc hc';obtain ⟨z,hz,rfl⟩:=zL.1 hc;obtain ⟨z',hz',rfl⟩:=zL.1 hc';exact h.bi x y z z' hz hz' hB
 tm t v hv:=by
  simp only[St.map,Lo (AV.map _)] at hv;obtain ⟨y,hy,rfl⟩:=zL.1 hv;exact AR.map _ (h.tm t y hy) λu c _ hc=>OM hc
def St.swaps (s:St):List (Nat×Nat)->St
 | []=>s
 | (k,k')::r=>(s.map (Qi6 k k')).swaps r
theorem AL:∀(l:List (Nat×Nat)) (s:St),Weak s (s.swaps l)
 | [],s=>Weak.refl s
 | (k,k')::r,s=>Weak.trans (λN w0 F0 J a w h=>⟨_,h.swap k k'⟩) (AL r _)
theorem AM (ks:List Nat) {J:Inj} {a:Act} {w:World} (hr:Rel N w0 F0 J a w s):∃J':Inj,(∀k,k∈ks->J'.L k= [])/\Rel N w0 F0 J' a w (s.map (Uy (Yi ks) none)):=by
 let J':Inj:=⟨λb=>J.F b\/∃k,k∈ks/\b∈J.L k,λk=>if k∈ks then [] else J.L k,J.B⟩
 have hL:∀k b,b∈J'.L k->k∉ks/\b∈J.L k:=λk b hm=>by
  have hm:b∈(if k∈ks then [] else J.L k):=hm;split at hm
  . simp at hm
  rename_i hn;exact ⟨hn,hm⟩
 have hT:Turns J J' w w (Yi ks) none:=by
  constructor
  . exact λb hb=>⟨.inl hb,rfl⟩
  . intro k hk;rw[Vr] at hk;split at hk
    . cases hk
    rename_i hn;exact ⟨if_neg hn,λ_ _=>rfl⟩
  . intro k hk b hb;rw[Vr] at hk;split at hk
    . rename_i hm;exact ⟨.inr ⟨k,hm,hb⟩,rfl⟩
    cases hk
  . intro k k' hk;rw[Vr] at hk;split at hk<;>cases hk
  . intro k t hk;rw[Vr] at hk;split at hk
    . simp at hk;exact .inl hk.symm
    cases hk
  . exact λ_ _=>rfl
  intro k d m i o cs hk;rw[Vr] at hk;split at hk<;>cases hk
 have hN:Names w0 F0 J' w:=by
  constructor
  . exact λb hb=>hb.elim (hr.fl b) λ⟨k,_,hm⟩=>⟨(hr.lo k b hm).2.1,.inr (hr.lo k b hm).1⟩
  . exact λb hb=> .inl (hr.f0 b hb)
  . intro k;show (if _ then _ else _:List Nat).Nodup;split
    . simp
    exact hr.nd k
  . intro k b hm;obtain ⟨hn,hm⟩:=hL k b hm;obtain ⟨h1,h2,h3⟩:=hr.lo k b hm;exact ⟨h1,h2,λhF=>hF.elim h3 λ⟨k',hk',hm'⟩=>hn (hr.dj k k' b hm hm'▸hk')⟩
  intro k k' b hm hm';exact hr.dj k k' b (hL k b hm).2 (hL k' b hm').2
 have h0:=hr.upd (w':=w) (J':=J') none (by simp) ⟨.one .dead,Yi ks,none,none⟩ undef hr.below hT hN (λh=>absurd rfl h) (λk c hk _=>by
  obtain ⟨_,h2,h3,_⟩:=hr.bo k c hk;exact ⟨by simp,λhF=>hF.elim h2 λ⟨k',_,hm⟩=>h3 k' hm,λk' hm=>h3 k' (hL k' _ hm).2,rfl⟩) (λk c hk=>by cases hk)
 refine ⟨J',λk hk=>if_pos hk, ?_⟩;have h0:Rel N w0 F0 J' a w (match Yi ks,(none:Option Nat) with | [],none=>s | rl,kb=>s.map (Uy rl kb)):=h0;cases ks with
 | nil =>
   have hid:s.map (Uy (Yi []) none)=s:=by
    have hc:(Uy (Yi []) none)=id:=by
     funext c
     cases c with
     | slc t n l=>cases t<;>rfl
     | rptr t cs=>cases t<;>rfl
     | _=>rfl
    rw[hc];obtain ⟨tm,bx⟩:=s;simp only[St.map]
    congr 1
    . conv=>rhs;rw[←List.map_id tm]
      refine yH λp _=> ?_
      obtain ⟨t,v⟩:=p;cases v<;>simp[AV.map]
    simp
   rw[hid];exact h0
 | cons k ks=>exact h0
theorem N9 (ks:List Nat) (h:s.map (Uy (Yi ks) none)=s'):Weak s s':=λN w0 F0 J a w hr=>by
 subst h;obtain ⟨J',_,h⟩:=AM ks hr;exact ⟨J',h⟩
def Qfm (d:Bool) (k n:Nat):C->C
 | .slc .emp _ []=> .slc (.own d k) n []
 | c=>c
def LU (i:Nat) (d:Bool) (k n:Nat):List C->List C
 | []=> []
 | c::r=>match i with
   | 0=>Qfm d k n c::r
   | i+1=>c::LU i d k n r
def Qht (i:Nat) (d:Bool) (k n:Nat):AV->AV
 | .one c=> .one (Qfm d k n c)
 | .agg cs=> .agg (LU i d k n cs)
 | v=>v
theorem ON {J:Inj} {w:World} {v:Value} {d:Bool} {k n:Nat} (_:J.L k= []) {c:C} (h:CR J w v c):CR J w v (Qfm d k n c):=by
 unfold Qfm;split
 . obtain ⟨_,oa,rfl⟩:=h;cases d with
   | true=>show OwnDeep (J.L k) w _ n [];exact ⟨[],.emp oa n,xD,(λb hb=>by simp at hb),.inl rfl⟩
   | false=>exact .inl ⟨rfl,oa,rfl⟩
 exact h
theorem CO {J:Inj} {w:World} {d:Bool} {k n:Nat} (hk:J.L k= []):∀(i:Nat) {cs:List C} {vs:List Value},All2 (CR J w) vs cs->All2 (CR J w) vs (LU i d k n cs)
 | _, [],_,h=>by unfold LU;exact h
 | 0,c::r,_,.cons h1 h2=>by unfold LU;exact .cons (ON hk h1) h2
 | i+1,c::r,_,.cons h1 h2=>by unfold LU;exact .cons h1 (CO hk i h2)
theorem Qbi {J:Inj} {w:World} {v:Value} {d:Bool} {k n:Nat} (hk:J.L k= []) (i:Nat) {x:AV} (h:AR J w v x):AR J w v (Qht i d k n x):=by
 cases x with
 | one c=>exact ON hk h
 | agg cs=>obtain ⟨vs,e,h⟩:=h;exact ⟨vs,e,CO hk i h⟩
 | tup l=>exact h
def Qko {α:Type} (t:Nat) (f:α->α):List (Nat×α)->List (Nat×α)
 | []=> []
 | (k,a)::r=>(k,if k=t then f a else a)::Qko t f r
theorem T1 {α:Type} {t u:Nat} {f:α->α} {v:α}:∀{l:List (Nat×α)},get (Qko t f l) u=some v->∃y,get l u=some y/\(v=f y\/v=y)
 | [],h=>by simp[Qko,get] at h
 | (k,a)::r,h=>by
   simp only[Qko,get] at h⊢;by_cases hk:k=u
   . simp only[hk,if_true] at h⊢;refine ⟨a,rfl, ?_⟩;by_cases hu:u=t
     . simp only[hu,if_true] at h;exact .inl (zD h).symm
     simp only[hu,if_false] at h;exact .inr (zD h).symm
   simp only[hk,if_false] at h⊢;exact T1 h
def St.open1 (s:St):Bool×Nat×Nat×Bool×Nat×Nat->St
 | (true,t,i,d,k,n)=>⟨(s.map (Uy (Yi [k]) none)).tm,Qko t (LU i d k n) (s.map (Uy (Yi [k]) none)).bx⟩
 | (false,t,i,d,k,n)=>⟨Qko t (Qht i d k n) (s.map (Uy (Yi [k]) none)).tm,(s.map (Uy (Yi [k]) none)).bx⟩
theorem RZ (o:Bool×Nat×Nat×Bool×Nat×Nat) (s:St):Weak s (s.open1 o):=λN w0 F0 J a w hr=>by
 obtain ⟨b,t,i,d,k,n⟩:=o;obtain ⟨J',hk,h⟩:=AM [k] hr;have hk:=hk k yB;refine ⟨J', ?_⟩;cases b with
 | true=>
   refine {h with bo:=λx c hc=> ?_,bi:=λx y c c' hc hc'=> ?_}
   . obtain ⟨y,hy,e⟩:=T1 hc;obtain ⟨h1,h2,h3,arr,ty,h4,h5⟩:=h.bo x y hy;refine ⟨h1,h2,h3,arr,ty,h4, ?_⟩;rcases e with rfl | rfl
     . exact CO hk i h5
     exact h5
   obtain ⟨_,hy,_⟩:=T1 hc;obtain ⟨_,hy',_⟩:=T1 hc';exact h.bi x y _ _ hy hy'
 | false=>
   refine {h with tm:=λx v hv=> ?_};obtain ⟨y,hy,e⟩:=T1 hv;have h5:=h.tm x y hy;rcases e with rfl | rfl
   . exact Qbi hk i h5
   exact h5
def St.opens (s:St):List (Bool×Nat×Nat×Bool×Nat×Nat)->St
 | []=>s
 | o::r=>(s.open1 o).opens r
theorem XX:∀(l:List (Bool×Nat×Nat×Bool×Nat×Nat)) (s:St),Weak s (s.opens l)
 | [],s=>Weak.refl s
 | o::r,s=>Weak.trans (RZ o s) (XX r _)
theorem Qbj {c:Code} (l:List (Bool×Nat×Nat×Bool×Nat×Nat)) (he:s.opens l=s') (h:AWP P N w0 F0 c Q s'):AWP P N w0 F0 c Q s:=Mi (he▸XX l s) h
def Ql3 (k:Nat):C->C
 | .slc (.own true x) n l=>bif zQ x k then .slc (.own false x) n l else .slc (.own true x) n l
 | .ept true x n i o cs=>bif zQ x k then .rptr (.vw x) cs else .ept true x n i o cs
 | c=>c
def Inj.dem (J:Inj) (k:Nat):Inj:=⟨λb=>J.F b\/(b∈J.L k/\b∉(J.L k).take 1),λx=>if x=k then (J.L k).take 1 else J.L x,J.B⟩
theorem Qbk {J:Inj} {k:Nat} {t:Tok}:∀b,J.X t b->(J.dem k).X t b:=by
 intro b hb;cases t with
 | sh=>exact .inl hb
 | emp | own | put=>exact hb.elim
 | vw x =>
   rcases hb with hb | hb
   . by_cases hx:x=k
     . subst hx;by_cases hm:b∈(J.L x).take 1
       . exact .inl (by show b∈(if x=x then _ else _);rw[if_pos rfl];exact hm)
       exact .inr (.inr ⟨hb,hm⟩)
     exact .inl (by show b∈(if x=k then _ else _);rw[if_neg hx];exact hb)
   exact .inr (.inl hb)
theorem Qbl {J:Inj} {w:World} {v:Value} {k:Nat} {c:C} (h:CR J w v c):CR (J.dem k) w v (Ql3 k c):=by
 have hF:∀b,J.F b->(J.dem k).F b/\w.heap[b]? =w.heap[b]? :=λb hb=>⟨.inl hb,rfl⟩
 have hL:∀x,x≠k->(J.dem k).L x=J.L x:=λx hx=>if_neg hx
 have hLk:(J.dem k).L k=(J.L k).take 1:=if_pos rfl;cases c with
 | int | bool | str | dead=>exact h
 | slc t n l=>
   cases t with
   | sh=>exact VV.keep hF h
   | emp=>exact h
   | put=>exact h.elim
   | vw x=>exact VV.keep (λb hb=>⟨Qbk (t:= .vw x) b hb,rfl⟩) h
   | own d x=>
     cases d with
     | false=>
       show OwnTop _ ((J.dem k).L x) w v n l;rcases h with h | ⟨g,cap,cur,e,e1,hv,hg,hs,hr,h1,h2⟩
       . exact .inl h
       refine .inr ⟨g,cap,cur,e, ?_,hv,hg,hs,hr.keep hF,h1,h2⟩;by_cases hx:x=k
       . subst hx;rw[hLk,e1];rfl
       rw[hL x hx];exact e1
     | true =>
       show CR (J.dem k) w v (bif zQ x k then .slc (.own false x) n l else .slc (.own true x) n l);cases hb:zQ x k with
       | false=>
         have hx:x≠k:=λe=>by subst e;simp at hb
         show OwnDeep ((J.dem k).L x) w v n l;rw[hL x hx];exact h
       | true=>
         obtain rfl:=yU hb;show OwnTop _ ((J.dem x).L x) w v n l;rw[hLk];obtain ⟨L',h1,h2,h3,h4⟩:=h;generalize hp:PV.slc n l=p at h1;cases h1 with
         | int | bool | str | any=>cases hp
         | emp oa n'=>cases hp;exact .inl ⟨rfl,oa,rfl⟩
         | @slc g cap n' cur e L1 l' hg hs hr h5 h6=>
           cases hp
           rcases h4 with h4 | ⟨g',r1,r2,e1,e2⟩
           . cases h4
           cases e1
           obtain ⟨n1,_⟩:=yZ.1 h2;refine .inr ⟨g,cap,cur,e,by rw[e2];rfl,rfl,hg,hs,hr.vr λb hb=> .inr ⟨h3 b (zN _ hb),λhm=> ?_⟩,h5,h6⟩;rw[e2] at hm;simp at hm;exact n1 (hm▸hb)
 | ptr=>exact h
 | fn=>exact h
 | fnr f caps=>
   obtain ⟨vs,rfl,ha⟩:=h;exact ⟨vs,rfl,ha.imp λ_ _ _ h=>h.keep hF⟩
 | rptr t cs=>exact Reads.keep h λb hb=>⟨Qbk b hb,rfl⟩
 | ept d x n i o cs=>
   obtain ⟨g,r,vs,h1,h2,h3,h4,h5⟩:=h;cases d with
   | false=>
     refine ⟨g,if x=k then [] else r,vs, ?_,h2,h3.keep hF,h4,h5⟩;by_cases hx:x=k
     . subst hx;rw[hLk,h1,if_pos rfl];rfl
     rw[hL x hx,if_neg hx];exact h1
   | true=>
     show CR (J.dem k) w v (bif zQ x k then .rptr (.vw x) cs else .ept true x n i o cs);cases hb:zQ x k with
     | false=>
       have hx:x≠k:=λe=>by subst e;simp at hb
       exact ⟨g,r,vs,by rw[hL x hx];exact h1,h2,h3.keep λb hb=>⟨Qbk (t:= .vw x) b hb,rfl⟩,h4,h5⟩
     | true=>exact ⟨g,i*n+o,vs,h2,Qbk (t:= .vw x) g (.inl (by rw[h1];exact yB)),h3.keep λb hb=>⟨Qbk (t:= .vw x) b hb,rfl⟩,h4⟩
theorem LV (k:Nat) (s:St):Weak s (s.map (Ql3 k)):=λN w0 F0 J a w h=>by
 have hsub:∀x b,b∈(J.dem k).L x->b∈J.L x:=λx b hb=>by
  have hb:b∈(if x=k then (J.L k).take 1 else J.L x):=hb;split at hb
  . rename_i hx;subst hx;exact xO hb
  exact hb
 refine ⟨J.dem k,{below:=h.below,nodef:=h.nodef,size:=h.size,fl:=λb hb=> ?_,f0:=λb hb=> .inl (h.f0 b hb),nd:=λx=> ?_,lo:=λx b hb=> ?_,dj:=λx y b hx hy=>h.dj x y b (hsub x b hx) (hsub y b hy),nb:=h.nb,cb:=h.cb,bo:=λx c hc=> ?_,bi:=λx y c c' hc hc' hB=> ?_,tm:=λt v hv=> ?_}⟩
 . rcases hb with hb | ⟨hb,_⟩
   . exact h.fl b hb
   exact ⟨(h.lo k b hb).2.1,.inr (h.lo k b hb).1⟩
 . show (if _ then _ else _:List Nat).Nodup;split
   . exact (List.take_sublist 1 _).nodup (h.nd k)
   exact h.nd x
 . obtain ⟨h1,h2,h3⟩:=h.lo x b (hsub x b hb);refine ⟨h1,h2,λhF=> ?_⟩;rcases hF with hF | ⟨hm,hn⟩
   . exact h3 hF
   have hx:=h.dj x k b (hsub x b hb) hm;subst hx;exact hn (by have hb:b∈(if x=x then (J.L x).take 1 else J.L x):=hb;rw[if_pos rfl] at hb;exact hb)
 . simp only[St.map,Lo (xU _)] at hc;obtain ⟨y,hy,rfl⟩:=zL.1 hc;obtain ⟨h1,h2,h3,arr,e,h4,h5⟩:=h.bo x y hy;refine ⟨h1,λhF=> ?_,λz hz=>h3 z (hsub z _ hz),arr,e,h4,h5.map _ λa b _ hr=>Qbl hr⟩;rcases hF with hF | ⟨hm,_⟩
   . exact h2 hF
   exact h3 k hm
 . simp only[St.map,Lo (xU _)] at hc hc';obtain ⟨z,hz,rfl⟩:=zL.1 hc;obtain ⟨z',hz',rfl⟩:=zL.1 hc';exact h.bi x y z z' hz hz' hB
 simp only[St.map,Lo (AV.map _)] at hv;obtain ⟨y,hy,rfl⟩:=zL.1 hv;exact AR.map _ (h.tm t y hy) λu c _ hc=>Qbl hc
def St.demotes (s:St):List Nat->St
 | []=>s
 | k::r=>(s.map (Ql3 k)).demotes r
theorem Pz:∀(l:List Nat) (s:St),Weak s (s.demotes l)
 | [],s=>Weak.refl s
 | k::r,s=>Weak.trans (LV k s) (Pz r _)
end
end
section
open Go.RowKit
def FB:Nat->List AV->List (Nat×AV)
 | _, []=> []
 | i,v::r=>(i,v)::FB (i+1) r
def CP (args:List AV):St:=⟨FB 0 args, []⟩
def FC (tt:List (Nat×TI)) (s:St):List ResultVar->Option (List AV)
 | []=>some []
 | .tmp t::r=>match get s.tm t,FC tt s r with
   | some v,some vs=>some (v::vs)
   | _,_=>none
 | .cell a t::r=>match get s.tm a,get tt t,FC tt s r with
   | some (.one (.ptr k off)),some ti,some vs=>(match get s.bx k with
     | some cells=>(match RR ti ((cells.drop off).take ti.size) with
       | some v=>some (v::vs)
       | none=>none)
     | none=>none)
   | _,_,_=>none
def Qk0:AV->Option (Bool×List C)
 | .one c=>some (false, [c])
 | .agg cs=>some (true,cs)
 | .tup _=>none
def XY:List AV->Option (List (Bool×List C))
 | []=>some []
 | v::r=>match Qk0 v,XY r with
   | some p,some ps=>some (p::ps)
   | _,_=>none
def Qhu:List AV->Option AV
 | [v]=>some v
 | vs=>(XY vs).map .tup
def Qkp (k:Nat):List Nat->Nat
 | []=>0
 | x::r=>bif zQ x k then 0 else Qkp k r+1
def Qmo (ks:List Nat):C->C
 | .slc (.own b k) n l=> .slc (.own b (Qkp k ks)) n l
 | c=>c
def Qk1:C->Bool
 | .int _ _=>true
 | .bool _=>true
 | .str _=>true
 | .slc .sh _ _=>true
 | .slc .emp _ _=>true
 | .slc (.own _ _) _ _=>true
 | _=>false
def XZ (tt:List (Nat×TI)) (rs:List ResultVar) (s:St):Option AV:=
 match FC tt s rs with
 | some vs=>(match Qhu vs with
   | some v=>bif B9 Qk1 v.cells&&G4 (Qw v.cells) then some (v.map (Qmo (Qw v.cells))) else none
   | none=>none)
 | none=>none
def Qbm (tt:List (Nat×TI)) (rs:List ResultVar) (r:AV):Exit->St->Prop
 | .normal,s=>∃frz,XZ tt rs (s.map (Uy (Yi frz) none))=some r
 | .ret,s=>∃frz,XZ tt rs (s.map (Uy (Yi frz) none))=some r
 | _,_=>False
theorem Mj {tt:List (Nat×TI)} {rs:List ResultVar} {r b:AV} {s:St} (frz:List Nat) (h:XZ tt rs (s.map (Uy (Yi frz) none))=some b) (e:b=r):Qbm tt rs r .ret s:=⟨frz,e▸h⟩
def AN (tmps:Array Value):ResultVar->Sem Value
 | .tmp t=>pure (tmps.getD t undef)
 | .cell a t=>do loadVar t (←asAddr (tmps.getD a undef))
theorem AO (fn:Func) (tmps:Array Value):results fn tmps=(do
 let vs←fn.results.mapM (AN tmps)
 pure (if h:vs.size=1 then vs[0] else .tuple vs)):=by
 unfold results
 congr 2
def Qfn (J:Inj) (ks:List Nat) (i:Nat):List Nat:=match ks[i]? with
 | some k=>J.L k
 | none=> []
theorem JH {J:Inj} {ks:List Nat} {i b:Nat} (h:b∈Qfn J ks i):∃k,ks[i]? =some k/\b∈J.L k:=by
 unfold Qfn at h;split at h
 . rename_i k hk;exact ⟨k,hk,h⟩
 simp at h
section
variable {P:Program} {N:Nat} {w0:Base} {F0:Nat->Prop} {J:Inj} {a:Act} {w:World} {s:St}
theorem KV:∀{args:List AV} {i t:Nat} {v:AV},get (FB i args) t=some v->i<=t/\args[t-i]? =some v
 | [],i,t,v,h=>by simp[FB,get] at h
 | x::r,i,t,v,h=>by
   simp only[FB,get] at h;split at h
   . rename_i e;subst e;exact ⟨zX _,by simpa using h⟩
   rename_i hne;obtain ⟨h1,h2⟩:=KV h;refine ⟨by omega, ?_⟩;obtain ⟨j,hj⟩:∃j,t-i=j+1:=⟨t-i-1,by omega⟩;rw[hj,xH,show j=t-(i+1) by omega];exact h2
theorem JI {tt:List (Nat×TI)} (htt:Gs P tt=true) (hrel:Rel N w0 F0 J a w s):∀{rs:List ResultVar} {vs:List AV},FC tt s rs=some vs->
 ∃us:List Value,(rs.mapM (AN a.tmps)).run P w= .ok us w/\All2 (AR J w) us vs
 | [],vs,h=>by
   obtain rfl: []=vs:=by simpa [FC] using h
   exact ⟨[],by simp,.nil⟩
 | .tmp t::r,vs,h=>by
   simp only[FC] at h;split at h
   . rename_i v vs' e1 e2;obtain rfl:=zD h;obtain ⟨us,h1,h2⟩:=JI htt hrel e2;exact ⟨a.tmps.getD t undef::us,by simp[List.mapM_cons,AN,h1],.cons (hrel.tm t v e1) h2⟩
   cases h
 | .cell x t::r,vs,h=>by
   simp only[FC] at h;split at h
   . rename_i k off ti vs' e1 e2 e3;split at h
     . rename_i cells hk;split at h
       . rename_i v hval;obtain rfl:=zD h;obtain ⟨us,h1,h2⟩:=JI htt hrel e3;have hx:a.tmps.getD x undef= .pointer (some ⟨J.B k,off,none⟩):=hrel.tm x _ e1;obtain ⟨_,_,_,arr,e,hheap,hall⟩:=hrel.bo k cells hk
         have hc:∀(j:Nat) (u:Value),((arr.toList.drop off).take ti.size)[j]? =some u->w.cell? ⟨J.B k,off+j,none⟩=some u:=by
          have:=Eu (k:=ti.size) (Cu (w:=w) (vs:=arr.toList) (b:=J.B k) (off:=0) (k:=off) (λj u hj=>by
           rw[yG] at hj;simp[World.cell?,hheap,hj]))
          simpa using this
         obtain ⟨u,hu,hr⟩:=JF (P:=P) (Zp htt e2) ((hall.drop off).take ti.size) hval hc;exact ⟨u::us,by simp[List.mapM_cons,AN,hx,asAddr,hu,h1],.cons hr h2⟩
       cases h
     cases h
   cases h
theorem OO:∀{vs:List AV} {ps:List (Bool×List C)} {us:List Value},XY vs=some ps->All2 (AR J w) us vs->All2 (VA J w) us ps
 | [],ps,us,h,hu=>by
   obtain rfl: []=ps:=by simpa [XY] using h
   cases hu
   exact .nil
 | v :: r,ps,us,h,hu=>by
   simp only[XY] at h;split at h
   . rename_i p ps' e1 e2;obtain rfl:=zD h;cases hu with
     | cons h1 h2=>
       refine .cons ?_ (OO e2 h2);cases v with
       | one c=>obtain rfl:=zD e1;exact ⟨c,rfl,h1⟩
       | agg cs=>obtain rfl:=zD e1;exact h1
       | tup l=>cases e1
   cases h
theorem CQ:∀{ks:List Nat} {k:Nat},k∈ks->ks[Qkp k ks]? =some k
 | [],k,h=>by simp at h
 | x::r,k,h=>by
   simp only[Qkp];by_cases hx:x=k
   . subst hx;simp
   rw[AK hx];simp only[cond_false,xH];exact CQ ((zM.1 h).resolve_left λe=>hx e.symm)
theorem OP {w':World} {tt:List (Nat×TI)} (htt:Gs P tt=true) {fn:Func} {r:AV} (hrel:Rel N ⟨w,λ_=>False,none⟩ F0 J a w' s) (h:XZ tt fn.results.toList s=some r):∃v,(results fn a.tmps).run P w'= .ok v w'/\Qix F0 w r (.returned v) w':=by
 unfold XZ at h;split at h
 . rename_i vs hvs;split at h
   . rename_i x hx;cases hc:(B9 Qk1 x.cells&&G4 (Qw x.cells)) with
     | false=>rw[hc] at h;cases h
     | true =>
       rw[hc] at h;obtain rfl:=zD h;simp only[zJ] at hc;obtain ⟨hok,hnd⟩:=hc;have hnd:=Lg.1 hnd;obtain ⟨us,hrun,hall⟩:=JI (P:=P) htt hrel hvs
       have hres:∃v,(results fn a.tmps).run P w'= .ok v w'/\AR J w' v x:=by
        have hm:(fn.results.mapM (AN a.tmps)).run P w'= .ok us.toArray w':=by
         rw[Array.mapM_eq_mapM_toList];simp[hrun]
        have hgen:(results fn a.tmps).run P w'= .ok (if h:us.toArray.size=1 then us.toArray[0] else .tuple us.toArray) w':=by
         rw[AO];simp only[Sem.run_bind,hm,Result.andThen_ok,Sem.run_pure]
        cases hall with
        | nil=>
          obtain rfl:AV.tup []=x:=by simpa [Qhu,XY] using hx
          exact ⟨.tuple #[],by rw[hgen];simp, [],rfl,.nil⟩
        | cons h1 h2=>
          cases h2 with
          | nil=>
            obtain rfl:=zD hx;exact ⟨_,by rw[hgen];simp,h1⟩
          | cons h2 h3=>
            obtain ⟨ps,hps,rfl⟩:=zL.1 hx;exact ⟨_,by rw[hgen];simp,_,rfl,OO hps (.cons h1 (.cons h2 h3))⟩
       obtain ⟨v,hv,hvr⟩:=hres;refine ⟨v,hv,v,Qfn J (Qw x.cells),rfl,hrel.below.below (λ_ h=>h),λi=> ?_,λi b hb=> ?_,λi i' b hb hb'=> ?_, ?_⟩
       . unfold Qfn;split
         . exact hrel.nd _
         simp
       . obtain ⟨k,_,hm⟩:=JH hb;exact ⟨(hrel.lo k b hm).1.elim id False.elim,(hrel.lo k b hm).2.1⟩
       . obtain ⟨k,hk,hm⟩:=JH hb;obtain ⟨k',hk',hm'⟩:=JH hb';have:=hrel.dj k k' b hm hm';subst this;obtain ⟨l1,e1⟩:=zF.1 hk;obtain ⟨l2,e2⟩:=zF.1 hk';rcases Nat.lt_trichotomy i i' with hlt | he | hlt
         . exact absurd (e1.trans e2.symm) (yN.1 hnd i i' l1 l2 hlt)
         . exact he
         exact absurd (e2.trans e1.symm) (yN.1 hnd i' i l2 l1 hlt)
       refine AR.map _ hvr λu c hcm hcr=> ?_
       have hF:∀b,J.F b->(F0 b\/(w.heap.size<=b/\b<w'.heap.size/\∀i,b∉Qfn J (Qw x.cells) i)):=λb hb=>by
        obtain ⟨h1,h2⟩:=hrel.fl b hb;refine h2.imp id λh2=>⟨h2.elim id False.elim,h1,λi hm=> ?_⟩
        obtain ⟨k,_,hm⟩:=JH hm;exact (hrel.lo k b hm).2.2 hb
       have hfo:=Bz hok c hcm;cases c with
       | int | bool | str=>exact hcr
       | slc t n l=>
         cases t with
         | emp=>exact hcr
         | sh=>exact VV.keep (λb hb=>⟨hF b hb,rfl⟩) hcr
         | vw k=>cases hfo
         | put=>exact hcr.elim
         | own b k=>
           cases b with
           | false=>
             show OwnTop _ (Qfn J (Qw x.cells) (Qkp k (Qw x.cells))) w' u _ _;unfold Qfn;rw[CQ (S3 hcm rfl)];exact OwnTop.keep (F:=J.F) hcr (λb hb=>⟨hF b hb,rfl⟩) λ_ _=>rfl
           | true=>
             show OwnDeep (Qfn J (Qw x.cells) (Qkp k (Qw x.cells))) w' u _ _;unfold Qfn;rw[CQ (S3 hcm rfl)];exact hcr
       | _=>cases hfo
   cases h
 cases h
theorem KW {tt:List (Nat×TI)} (htt:Gs P tt=true) {f:Nat} {fn:Func} {c:Code} (hf:P.funcs[f]? =some fn) (hb:fn.body=some c) (hok:It P f) {args:List AV} {r:AV} (hn:args.length<=fn.ntmps)
 (h:∀w0 F0,GoodAt P w0->AWP P fn.ntmps w0 F0 c (Qbm tt fn.results.toList r) (CP args)):ACalls P f args r:=by
 refine ⟨hok,λw hg F vals hF hall=>calls_of_wp hf hb ?_⟩;have hlen:=hall.length;refine wp_mono (h ⟨w,λ_=>False,none⟩ F (.of hg) (YX F) _ w ?_) ?_
 . refine {below:=Base.Keeps.refl _,nodef:=rfl,size:= ?_,fl:=λb hb=>⟨hF b hb,.inl hb⟩,f0:=λb hb=>hb,nd:=λk=>by simp[YX],lo:=λk b hb=>by simp[YX] at hb,dj:=λk k' b hb=>by simp[YX] at hb,bo:=λk c hc=>by simp[CP,get] at hc,nb:= .inl rfl,cb:=(λb hb=>by cases hb),bi:=λk k' c c' hc=>by simp[CP,get] at hc,tm:=λt v hv=> ?_}
   . simp;omega
   obtain ⟨_,ht⟩:=KV hv;obtain ⟨u,hu,hr⟩:=hall.get' ht;have hlt:t<vals.length:=(zF.1 hu).1
   have:(vals.toArray++Array.replicate (fn.ntmps-vals.toArray.size) undef).getD t undef=u:=by
    rw[zZ,Array.getElem?_append_left (by simpa using hlt)];simp at hu⊢;rw[hu];rfl
   rw[this];exact hr
 rintro e a' w' ⟨J',s',hR,hq⟩
 cases e with
 | normal=>
   obtain ⟨frz,hq⟩:=hq;obtain ⟨J'',hR⟩:=N9 frz rfl _ _ _ _ _ _ hR;obtain ⟨v,h1,h2⟩:=OP (P:=P) htt (fn:=fn) hR hq;exact ⟨hR.nodef,v,h1,h2⟩
 | ret=>
   obtain ⟨frz,hq⟩:=hq;obtain ⟨J'',hR⟩:=N9 frz rfl _ _ _ _ _ _ hR;obtain ⟨v,h1,h2⟩:=OP (P:=P) htt (fn:=fn) hR hq;exact ⟨hR.nodef,v,h1,h2⟩
 | _=>exact hq.elim
end
end
section
open Go.RowKit
open GoD (rd own)
class GoE (α:Type) extends GoD α where
 enc:α->List PV
 enc_len:∀a,(enc a).length=GoD.n α
 no_any:∀{a:α} {p:PV},p∈enc a->p≠ .any
 n_pos:0<GoD.n α
 /-- no list in it is longer than what any append makes -/
 wide:α->Prop
 wide_size:∀{a:α},GoD.size a<=1073741824->wide a
 vc_wide:∀{X:Nat->Prop} {w:World} {cs:List Value} {a:α},VC X w cs (enc a)->wide a
 rd_vc:∀{w:World} {cs:List Value} {a:α},rd w cs a->wide a->VC (λb=>b<w.heap.size) w cs (enc a)
 vc_rd:∀{X:Nat->Prop} {w:World} {cs:List Value} {a:α},VC X w cs (enc a)->rd w cs a
 own_oc:∀{L:List Nat} {w:World} {cs:List Value} {a:α},own L w cs a->wide a->OC w L cs (enc a)
 oc_own:∀{L:List Nat} {w:World} {cs:List Value} {a:α},OC w L cs (enc a)->L.Nodup->own L w cs a
open GoE (enc wide)
instance instGoEInt:GoE Int where
 enc a:= [.int .i64 a]
 no_any h:=by rw[zW.1 h];simp
 enc_len _:=rfl
 n_pos:=yJ
 wide _:=True
 wide_size _:=trivial
 vc_wide _:=trivial
 rd_vc h _:=by obtain ⟨rfl,h⟩:=h;exact .cons (.int ((Ln _).2 h)) .nil
 vc_rd h:=by
  cases h with
  | cons h1 h2=>cases h2;cases h1;exact ⟨rfl,(Ln _).1 ‹_›⟩
 own_oc h _:=by obtain ⟨rfl,rfl,h⟩:=h;exact OC.cons (L1:= []) (L2:= []) (.int ((Ln _).2 h)) .nil
 oc_own h _:=by
  cases h with
  | cons h1 h2=>cases h2;cases h1;exact ⟨rfl,rfl,(Ln _).1 ‹_›⟩
instance instGoEBool:GoE Bool where
 enc a:= [.bool a]
 no_any h:=by rw[zW.1 h];simp
 enc_len _:=rfl
 n_pos:=yJ
 wide _:=True
 wide_size _:=trivial
 vc_wide _:=trivial
 rd_vc h _:=by rw[show _=_ from h];exact .cons (.bool _) .nil
 vc_rd h:=by
  cases h with
  | cons h1 h2=>cases h2;cases h1;rfl
 own_oc h _:=by obtain ⟨rfl,rfl⟩:=h;exact OC.cons (L1:= []) (L2:= []) (.bool _) .nil
 oc_own h _:=by
  cases h with
  | cons h1 h2=>cases h2;cases h1;exact ⟨rfl,rfl⟩
instance instGoEStr:GoE ByteArray where
 enc a:= [.str a]
 no_any h:=by rw[zW.1 h];simp
 enc_len _:=rfl
 n_pos:=yJ
 wide _:=True
 wide_size _:=trivial
 vc_wide _:=trivial
 rd_vc h _:=by obtain ⟨rfl,h⟩:=h;exact .cons (.str h) .nil
 vc_rd h:=by
  cases h with
  | cons h1 h2=>cases h2;cases h1;exact ⟨rfl,‹_›⟩
 own_oc h _:=by obtain ⟨rfl,rfl,h⟩:=h;exact OC.cons (L1:= []) (L2:= []) (.str h) .nil
 oc_own h _:=by
  cases h with
  | cons h1 h2=>cases h2;cases h1;exact ⟨rfl,rfl,‹_›⟩
theorem VC.split {X:Nat->Prop} {w:World}:∀{ps ps':List PV} {vs:List Value},VC X w vs (ps++ps')->∃vs1 vs2,vs=vs1++vs2/\VC X w vs1 ps/\VC X w vs2 ps'
 | [],ps',vs,h=>⟨[],vs,rfl,.nil,h⟩
 | p ::ps,ps',vs,h=>by
   generalize hq:p::ps++ps'=q at h;cases h with
   | nil=>cases hq
   | cons h1 h2=>
     cases hq
     obtain ⟨vs1,vs2,rfl,h3,h4⟩:=VC.split h2;exact ⟨_,vs2,rfl,.cons h1 h3,h4⟩
instance instGoEProd {α β:Type} [GoE α] [GoE β]:GoE (α×β) where
 enc p:=enc p.1++enc p.2
 no_any h:=(yA.1 h).elim GoE.no_any GoE.no_any
 enc_len p:=by rw[yQ,GoE.enc_len,GoE.enc_len];rfl
 n_pos:=yR (GoE.n_pos (α:=α)) (yX _ _)
 wide p:=wide p.1/\wide p.2
 wide_size h:=⟨GoE.wide_size (yC (yX _ _) h),GoE.wide_size (yC (Nat.le_add_left _ _) h)⟩
 vc_wide h:=by
  obtain ⟨c1,c2,rfl,h1,h2⟩:=VC.split h;exact ⟨GoE.vc_wide h1,GoE.vc_wide h2⟩
 rd_vc h hw:=by
  obtain ⟨c1,c2,rfl,h1,h2⟩:=h;exact VC.append (GoE.rd_vc h2 hw.2) (GoE.rd_vc h1 hw.1)
 vc_rd h:=by
  obtain ⟨c1,c2,rfl,h1,h2⟩:=VC.split h;exact ⟨c1,c2,rfl,GoE.vc_rd h1,GoE.vc_rd h2⟩
 own_oc h hw:=by
  obtain ⟨_,c1,c2,L1,L2,rfl,rfl,h1,h2⟩:=h;exact OC.append (GoE.own_oc h2 hw.2) (GoE.own_oc h1 hw.1)
 oc_own h hn:=by
  obtain ⟨L1,L2,c1,c2,rfl,rfl,h1,h2⟩:=OC.split h;obtain ⟨n1,n2,_⟩:=List.nodup_append.1 hn;exact ⟨hn,c1,c2,L1,L2,rfl,rfl,GoE.oc_own h1 n1,GoE.oc_own h2 n2⟩
def eL {α:Type} [GoE α] (l:List α):List (List PV):=l.map enc
section
variable {α:Type} [GoE α]
theorem CS (a:α) (l:List α):eL (a::l)=enc a::eL l:=rfl
theorem Qbn (l m:List α):eL (l++m)=eL l++eL m:=by simp[eL]
theorem Zs (l:List α):(eL l).length=l.length:=by simp[eL]
theorem Qi7 (l:List α) (k:Nat):(eL l).take k=eL (l.take k):=by simp[eL]
theorem Qi8 (l:List α) (k:Nat):(eL l).drop k=eL (l.drop k):=by simp[eL]
theorem Qbo {l:List α} {i:Nat} {a:α} (h:l[i]? =some a):(eL l)[i]? =some (enc a):=by simp[eL,h]
theorem Qbp {w:World} {X:Nat->Prop} {b off:Nat}:∀(l:List α),(∀i a,l[i]? =some a->∃ce:List Value,ce.length=GoD.n α/\(∀j v,ce[j]? =some v->w.cell? ⟨b,off+i*GoD.n α+j,none⟩=some v)/\VC X w ce (enc a))->
 ∃cs,(∀(j:Nat) (u:Value),cs[j]? =some u->w.cell? ⟨b,off+j,none⟩=some u)/\VR X w (GoD.n α) cs (eL l)
 | [],_=>⟨[],by simp,.nil _⟩
 | a ::l,h=>by
   obtain ⟨ce,h1,h2,h3⟩:=h 0 a rfl
   obtain ⟨cs,h4,h5⟩:=Qbp (b:=b) (off:=off+GoD.n α) l λi x hx=>by
    obtain ⟨c,k1,k2,k3⟩:=h (i+1) x (by simpa using hx);refine ⟨c,k1,λj v hj=> ?_,k3⟩;have:=k2 j v hj;rw[zR,yD] at this;rw[show off+GoD.n α+i*GoD.n α+j=off+(i*GoD.n α+GoD.n α)+j by omega];exact this
   refine ⟨ce++cs,λj u hj=> ?_,.cons h3 (GoE.enc_len a) h5⟩;rcases xV j ce.length with hlt | hge
   . rw[zU hlt] at hj;have:=h2 j u hj;simpa using this
   rw[zS hge] at hj;have:=h4 _ u hj;rw[show off+GoD.n α+(j-ce.length)=off+j by omega] at this;exact this
theorem OQ {w:World}:∀(l:List α) (Ls:List (List Nat)) (cs:List Value),(∀a,a∈l->wide a)->Ls.length=l.length->cs.length=l.length*GoD.n α->(∀i Li a,Ls[i]? =some Li->l[i]? =some a->own Li w ((cs.drop (i*GoD.n α)).take (GoD.n α)) a)->OR w (GoD.n α) Ls.flatten cs (eL l)
 | [],Ls,cs,_,h1,h2,_=>by
   obtain rfl:Ls= []:=zO h1;obtain rfl:cs= []:=zO (by simpa using h2);exact .nil _
 | a::l, [],cs,_,h1,_,_=>by simp at h1
 | a ::l,Li::Ls,cs,hw,h1,h2,h=>by
   have h0:=h 0 Li a rfl rfl;rw[Nat.zero_mul,List.drop_zero] at h0
   have hr:=OQ l Ls (cs.drop (GoD.n α)) (λx hx=>hw x (zN _ hx)) (by simpa using h1) (by rw[List.length_drop,h2,yW,zR,yD];omega) λi Lj x hi hx=>by
    have:=h (i+1) Lj x (by simpa using hi) (by simpa using hx);rw[zR,yD,Nat.add_comm,←xC] at this;exact this
   rw[←yV (GoD.n α) cs];exact .cons (GoE.own_oc h0 (hw a yB)) (GoE.enc_len a) hr
theorem OS {w:World}:∀(l:List α) (L:List Nat) (cs:List Value),OR w (GoD.n α) L cs (eL l)->L.Nodup->∃Ls:List (List Nat),L=Ls.flatten/\Ls.length=l.length/\∀i Li a,Ls[i]? =some Li->l[i]? =some a->own Li w ((cs.drop (i*GoD.n α)).take (GoD.n α)) a
 | [],L,cs,h,_=>by cases h;exact ⟨[],rfl,rfl,by simp⟩
 | a :: l,L,cs,h,hn=>by
   cases h with
   | @cons _ L1 L2 ce cs' _ _ h1 h2 h3=>
     obtain ⟨n1,n2,_⟩:=List.nodup_append.1 hn;obtain ⟨Ls,rfl,e2,e3⟩:=OS l L2 cs' h3 n2;have hce:ce.length=GoD.n α:=by rw[h1.length,GoE.enc_len]
     refine ⟨L1::Ls,rfl,by simp[e2],λi Li x hi hx=> ?_⟩;cases i with
     | zero=>
       simp at hi hx;subst hi hx;rw[Nat.zero_mul,List.drop_zero,←hce,List.take_left];exact GoE.oc_own h1 n1
     | succ i=>
       have:=e3 i Li x (by simpa using hi) (by simpa using hx);rw[zR,yD,Nat.add_comm,←xC,←hce,List.drop_left,hce];exact this
def Qfo (l:List α):Prop:=l.length<=1073741824/\∀a,a∈l->wide a
theorem Qhv {w:World} {v:Value} {l:List α} (h:rdS w [v] l) (hw:Qfo l):VV (λb=>b<w.heap.size) w v (.slc (GoD.n α) (eL l)):=by
 obtain ⟨oa,cap,e,hl,hm,hel⟩:=h;obtain rfl:v=_:=by simpa using e
 cases hlc:l with
 | nil=>exact .emp oa _ hm
 | cons a l'=>
   obtain ⟨b,off,ce0,hoa,hc0,hcell,hrd0⟩:=hel 0 a (by rw[hlc];rfl);subst hoa
   obtain ⟨cs,h1,h2⟩:=Qbp (X:=λb=>b<w.heap.size) (w:=w) (b:=b) (off:=off) l λi x hx=>by
    obtain ⟨b',off',ce,e',k1,k2,k3⟩:=hel i x hx;obtain ⟨rfl,rfl⟩:b=b'/\off=off':=by simpa using e'
    exact ⟨ce,k1,k2,GoE.rd_vc k3 (hw.2 x (yK hx))⟩
   rw[←hlc,←Zs (l:=l)];refine .slc ?_ h1 h2 (by rw[Zs];exact hl) ⟨hm,by rw[Zs];exact hw.1⟩;have hnp:=GoE.n_pos (α:=α);have:=hcell 0 ce0[0] (zH (by omega));exact World.block_lt_of_cell? _ _ this
theorem Qbq {X:Nat->Prop} {w:World} {v:Value} {l:List α} (h:VV X w v (.slc (GoD.n α) (eL l))):rdS w [v] l:=by
 generalize hp:PV.slc (GoD.n α) (eL l)=p at h;cases h with
 | int | bool | str | any=>cases hp
 | @emp oa cap n hcap=>
   simp only[PV.slc.injEq] at hp
   have:l= []:=by
    cases l with
    | nil=>rfl
    | cons a l=>simp[eL] at hp
   subst this;exact ⟨oa,cap,rfl,yL _,hcap,by simp⟩
 | @slc b off cap n cs l' hb hc hr h1 h2=>
   simp only[PV.slc.injEq] at hp;obtain ⟨rfl,rfl⟩:=hp;refine ⟨_,cap,by rw[Zs],by simpa [Zs] using h1,h2.1,λi a hi=>⟨b,off,(cs.drop (i*GoD.n α)).take (GoD.n α),rfl, ?_, ?_, ?_⟩⟩
   . exact (hr.get (Qbo hi)).1.length.trans (GoE.enc_len a)
   . exact Eu (Cu hc)
   exact GoE.vc_rd (hr.get (Qbo hi)).1
theorem Qbr {L:List Nat} {w:World} {v:Value} {l:List α} (h:Qks L w [v] l) (hw:Qfo l):OV w L v (.slc (GoD.n α) (eL l)):=by
 obtain ⟨hnd,⟨rfl,rfl,oa,e⟩ | ⟨g,cap,cur,e,Ls,hv,hg,hl,hm,hs,rfl,hLs,hel⟩⟩:=h
 . obtain rfl:v=_:=by simpa using e
   exact .emp oa _
 obtain rfl:v=_:=by simpa using hv
 rw[←Zs (l:=l)];refine .slc hg hs ?_ (by simpa [Zs] using hl) ⟨hm,by rw[Zs];exact hw.1⟩;have hroom:l.length*GoD.n α<=cur.size:=by rw[hs];exact zT _ hl
 refine OQ l Ls _ hw.2 hLs (by simp[Zs];omega) λi Li a hi ha=> ?_
 have hlt:i<l.length:=(zF.1 ha).1;have:=hel i Li a hi ha
 rw[xP,xQ,Zs,xL (by
  have:=zT (GoD.n α) (show i+1<=l.length by omega);rw[zR,yD] at this;omega)]
 exact this
theorem Qbs {L:List Nat} {w:World} {v:Value} {l:List α} (h:OV w L v (.slc (GoD.n α) (eL l))) (hn:L.Nodup):Qks L w [v] l:=by
 generalize hp:PV.slc (GoD.n α) (eL l)=p at h;cases h with
 | int | bool | str | any=>cases hp
 | emp oa n=>
   simp only[PV.slc.injEq] at hp
   have:l= []:=by
    cases l with
    | nil=>rfl
    | cons a l=>simp[eL] at hp
   subst this;exact ⟨by simp,.inl ⟨rfl,rfl,oa,rfl⟩⟩
 | @slc g cap n cur e L l' hg hs hr h1 h2=>
   simp only[PV.slc.injEq] at hp;obtain ⟨rfl,rfl⟩:=hp;obtain ⟨Ls,rfl,e2,e3⟩:=OS l L _ hr (yZ.1 hn).2;refine ⟨hn,.inr ⟨g,cap,cur,e,Ls,by rw[Zs],hg,by simpa [Zs] using h1,h2.1,hs,rfl,e2,λi Li a hi ha=> ?_⟩⟩;have hlt:i<l.length:=(zF.1 ha).1;have:=e3 i Li a hi ha
   rw[xP,xQ,Zs,xL (by
    have:=zT (GoD.n α) (show i+1<=l.length by omega);rw[zR,yD] at this;omega)] at this
   exact this
theorem FD {X:Nat->Prop} {w:World}:∀{l:List α} {cs:List Value},VR X w (GoD.n α) cs (eL l)->∀a,a∈l->wide a
 | [],_,_,a,ha=>by simp at ha
 | x ::l,cs,h,a,ha=>by
   cases h with
   | cons h1 h2 h3=>
     rcases zM.1 ha with rfl | ha
     . exact GoE.vc_wide h1
     exact FD h3 a ha
theorem P0 {X:Nat->Prop} {w:World} {v:Value} {l:List α} (h:VV X w v (.slc (GoD.n α) (eL l))):Qfo l:=by
 generalize hp:PV.slc (GoD.n α) (eL l)=p at h;cases h with
 | int | bool | str | any=>cases hp
 | emp oa n hcap=>
   simp only[PV.slc.injEq] at hp
   have:l= []:=by
    cases l with
    | nil=>rfl
    | cons a l=>simp[eL] at hp
   subst this;exact ⟨yL _,by simp⟩
 | @slc b off cap n cs l' hb hc hr h1 h2=>
   simp only[PV.slc.injEq] at hp;obtain ⟨rfl,rfl⟩:=hp;exact ⟨by have:=h2.2;rwa [Zs] at this,FD hr⟩
end
theorem VC.one {X:Nat->Prop} {w:World} {v:Value} {p:PV} (h:VC X w [v] [p]):VV X w v p:=by cases h;assumption
theorem OC.one {w:World} {L:List Nat} {v:Value} {p:PV} (h:OC w L [v] [p]):OV w L v p:=by
 generalize hv: [v]=vs at h;generalize hp: [p]=ps at h;cases h with
 | nil=>cases hv
 | cons h1 h2=>
   cases hv
   cases hp
   cases h2
   rw[xA];exact h1
theorem VC.one' {X:Nat->Prop} {w:World} {vs:List Value} {p:PV} (h:VC X w vs [p]):∃v,vs= [v]/\VV X w v p:=by
 cases h with
 | cons h1 h2=>cases h2;exact ⟨_,rfl,h1⟩
theorem OC.one' {w:World} {L:List Nat} {vs:List Value} {p:PV} (h:OC w L vs [p]):∃v,vs= [v]/\OV w L v p:=by
 obtain ⟨v,e⟩:∃v,vs= [v]:=by
  have:=h.length
  match vs,this with
  | [v],_=>exact ⟨v,rfl⟩
 subst e;exact ⟨v,rfl,h.one⟩
instance instGoEList {α:Type} [GoE α]:GoE (List α) where
 enc l:= [.slc (GoD.n α) (eL l)]
 no_any h:=by rw[zW.1 h];simp
 enc_len _:=rfl
 n_pos:=yJ
 wide:=Qfo
 wide_size h:=⟨yC (V4 _) h,λa ha=>by
  obtain ⟨i,hi⟩:=List.mem_iff_getElem?.1 ha;exact GoE.wide_size (yC (Vq hi) h)⟩
 vc_wide hc:=by
  obtain ⟨v,rfl,h⟩:=VC.one' hc;exact P0 h
 rd_vc h hw:=by
  have h:rdS _ _ _:=h;obtain ⟨oa,cap,rfl,_⟩:=id h;exact .cons (Qhv h hw) .nil
 vc_rd hc:=by
  obtain ⟨v,rfl,h⟩:=VC.one' hc;exact Qbq h
 own_oc h hw:=by
  have h:Qks _ _ _ _:=h;obtain ⟨oa,cap,rfl,_⟩:=OE h;have:=OC.cons (Qbr h hw) .nil;rw[xA] at this;exact this
 oc_own hc hn:=by
  obtain ⟨v,rfl,h⟩:=OC.one' hc;exact Qbs h hn
def shC:PV->C:=UT .sh
def owC:Nat->List PV->List C
 | _, []=> []
 | k,.slc n l::r=> .slc (.own true k) n l::owC (k+1) r
 | k,.int a b::r=> .int a b::owC k r
 | k,.bool b::r=> .bool b::owC k r
 | k,.str b::r=> .str b::owC k r
 | k,.any::r=> .dead::owC k r
section
variable {X:Nat->Prop} {F:Nat->Prop} {w w':World} {L:Nat->List Nat}
theorem Qbt {J:Inj}:∀{vs:List Value} {ps:List PV},VC J.F w vs ps->All2 (CR J w) vs (ps.map shC)
 | _,_,.nil=> .nil
 | _,_,.cons h1 h2=> .cons (CE (J:=J) (tok:= .sh) (X:=J.F) (λ_ _ _ h=>h) h1) (Qbt h2)
theorem Qi9 {J:Inj}:∀{ps:List PV} {vs:List Value},All2 (CR J w) vs (ps.map shC)->(∀p,p∈ps->p≠ .any)->VC J.F w vs ps
 | [],vs,h,_=>by cases h;exact .nil
 | p ::ps,vs,h,hz=>by
   cases h with
   | cons h1 h2=>
     refine .cons ?_ (Qi9 h2 λp hp=>hz p (zN _ hp));cases p with
     | int=>obtain ⟨rfl,h⟩:=h1;exact .int h
     | bool=>obtain rfl:=h1;exact .bool _
     | str=>obtain ⟨rfl,h⟩:=h1;exact .str h
     | slc n l=>exact h1
     | any=>exact (hz _ yB rfl).elim
end
section
variable {α:Type} [GoE α] {P:Program}
def Cw (a:α):AV:= .agg ((enc a).map shC)
def Qmf (a:α):AV:= .agg (owC 0 (enc a))
def OT (l:List α):AV:= .one (.slc .sh (GoD.n α) (eL l))
def Qhw (l:List α):AV:= .one (.slc (.own true 0) (GoD.n α) (eL l))
def SA (n:Int):AV:= .one (.int .i64 n)
def Qfp (b:Bool):AV:= .one (.bool b)
theorem Qja {w:World} {cs:List Value} {a:α} (h:rd w cs a) (hw:wide a):AR (YX λb=>b<w.heap.size) w (.agg cs.toArray) (Cw a):=⟨cs,rfl,Qbt (J:=YX λb=>b<w.heap.size) (GoE.rd_vc h hw)⟩
theorem Qjb {w:World} {v:Value} {l:List α} (h:rd w [v] l) (hw:wide l):AR (YX λb=>b<w.heap.size) w v (OT l):=Qhv h hw
theorem Qjc {w:World} {F:Nat->Prop} {n:Int} (h:I64 n):AR (YX F) w (.int .i64 n) (SA n):=⟨rfl,(Ln n).2 h⟩
theorem ACalls.run {f:Nat} {args:List AV} {r:AV} (h:ACalls P f args r) {w:World} [hg:Good P w] {vals:List Value} (hv:All2 (AR (YX λb=>b<w.heap.size) w) vals args):Calls P f vals.toArray w (Qix (λb=>b<w.heap.size) w r):=
 h.2 w hg _ vals (λ_ h=>h) hv
theorem Qfq {w:World} {F:Nat->Prop} {b:Bool} {e:Ending} {w':World} (h:Qix F w (Qfp b) e w'):Ret w (.bool b) e w':=by
 obtain ⟨v,L,rfl,hb,_,_,_,rfl⟩:=h;exact ⟨rfl,hb⟩
end
end
section
open Go.RowKit
open GoE (enc)
section
variable {A:Nat->List AV->AV->Prop} {T:TakeT}
theorem Lr {P:Program} {w0:Base} [GoodAt P w0] {f:Nat} {args:List AV} {r:AV} (h:ACalls P f args r):(Ob.call f args r).holds (Zz P w0) T:=h.at
theorem S5 {P:Program} {w0:Base} [GoodAt P w0] {f n:Nat} {l:List (List PV)} {args:List AV} {mix turn:Bool} {l':List (List PV)} (h:ATake P f n l args mix turn l'):(Ob.take f n l args mix turn l').holds A (Ul P w0):=h.at
theorem Ql4 {a b:AV} (h:a=b):(Ob.eq a b).holds A T:=h
theorem T2 {lo hi:Int} {n:Nat} (h:0<=lo/\lo<=hi/\hi<=n):(Ob.rng lo hi n).holds A T:=h
theorem T3 {i:Int} {n:Nat} (h:0<=i/\i<n):(Ob.idx i n).holds A T:=h
theorem Ec {l:List (List PV)} (h:Gt l):(Ob.flat l).holds A T:=h
theorem Ga {n:Nat} (h:n<=1073741824):(Ob.len n).holds A T:=h
end
theorem Ql (k:Nat) (h:k<9223372036854775807):IntKind.i64.wrap ((k:Int)+1)=((k+1:Nat):Int):=by
 rw[IntWalk.i64_in _ (by omega)];rfl
theorem Xs {α:Type} {l:List α} {i:Nat} (h:i<l.length):∃x,l[i]? =some x:=⟨l[i],zH h⟩
class FlatE (α:Type) [GoE α]:Prop where
 flat:∀a:α,∀p,p∈enc a->p.flat
instance:FlatE Int:=⟨λa p hp=>by obtain rfl:=zW.1 hp;trivial⟩
instance:FlatE Bool:=⟨λa p hp=>by obtain rfl:=zW.1 hp;trivial⟩
instance:FlatE ByteArray:=⟨λa p hp=>by obtain rfl:=zW.1 hp;trivial⟩
instance {α β:Type} [GoE α] [GoE β] [FlatE α] [FlatE β]:FlatE (α×β):=⟨λa p hp=>(yA.1 hp).elim (FlatE.flat a.1 p) (FlatE.flat a.2 p)⟩
theorem Df {α:Type} [GoE α] [FlatE α] (l:List α):Gt (eL l):=λr hr p hp=>by
 obtain ⟨a,_,rfl⟩:=xB.1 hr;exact FlatE.flat a p hp
theorem Qk2 {α:Type} [GoD α] {l:List α} {i:Nat} {a:α} {N:Nat} (h:l[i]? =some a) (hs:GoD.size l<=N):GoD.size a<=N:=yC (Vq h) hs
theorem Qk3 {α β:Type} [GoD α] [GoD β] {p:α×β} {N:Nat} (hs:GoD.size p<=N):GoD.size p.1<=N:=yC (yX _ _) hs
section
variable {P:Program} {α β:Type} [GoE α] [GoE β]
theorem Ge {f:Nat} (hok:It P f) {l:List α} {r:List β} (h:∀w v,GoD.rd w [v] l->GoE.wide l->Calls P f #[v] w (RetS w r)) (hw:GoE.wide l->GoE.wide r):ACalls P f [OT l] (Qhw r):=by
 refine ⟨hok,λw _ F vals hF hall=> ?_⟩;cases hall with
 | cons h1 h2=>
   cases h2
   refine (h w _ (Qbq h1) (P0 h1)).mono ?_
   rintro e w' ⟨v,L,rfl,hb,ho,hL⟩
   have hlt:=GoD.own_lt ho
   have hmem:∀k b,b∈(if k=0 then L else [])->k=0/\b∈L:=λk b hm=>by
    by_cases hk:k=0
    . rw[if_pos hk] at hm;exact ⟨hk,hm⟩
    rw[if_neg hk] at hm;simp at hm
   refine ⟨v,λk=>if k=0 then L else [],rfl,hb,λk=> ?_,λk b hm=>⟨hL b (hmem k b hm).2,hlt b (hmem k b hm).2⟩,λk k' b hm hm'=>(hmem k b hm).1.trans (hmem k' b hm').1.symm,OwnDeep.of (Qbr ho (hw (P0 h1))) (GoD.own_nd ho)⟩;by_cases hk:k=0
   . simp only[if_pos hk];exact GoD.own_nd ho
   simp only[if_neg hk];exact xD
end
theorem Lt {P:Program} {N:Nat} {w0:Base} {F0:Nat->Prop} {Q:Exit->St->Prop} {s s':St} {c:Code} (l:List Nat) (he:s.demotes l=s') (h:AWP P N w0 F0 c Q s'):AWP P N w0 F0 c Q s:=Mi (he▸Pz l s) h
theorem Vg {α:Type} [GoE α] {o:Nat} {ps:List PV} {y:α}:∀{l:List α} {i:Nat} {x:α},l[i]? =some x->(GoE.enc x).take o++ps++(GoE.enc x).drop (o+ps.length)=GoE.enc y->setRow (eL l) i o ps=eL (l.set i y)
 | [],i,x,h,_=>by simp at h
 | a::l,0,x,h,e=>by
   obtain rfl:a=x:=by simpa using h
   show ((GoE.enc a).take o++ps++(GoE.enc a).drop (o+ps.length))::eL l=_;rw[e];rfl
 | a::l,i+1,x,h,e=>by
   show GoE.enc a::setRow (eL l) i o ps=_;rw[Vg (l:=l) (i:=i) (x:=x) (by simpa using h) e];rfl
end
section
open Go.RowKit
def Nj:List Operand->List Nat
 | []=> []
 | .tmp t::r=>t::Nj r
 | _::r=>Nj r
def CT (ops:List Oper) (o:Oper):List Nat:=
 Nj o.op.operands.toList++(match o.guard with
  | some (j,_)=>(match ops[j]? with
    | some oj=>(match oj.dst with
      | some t=> [t]
      | none=> [])
    | none=> [])
  | none=> [])
def U7:List (Nat×Option Tok)->List Nat
 | []=> []
 | p::r=>p.1::U7 r
def LE:List (Nat×Option Tok)->List Tok
 | []=> []
 | (_,some t)::r=>t::LE r
 | _::r=>LE r
def CU:Tok->Tok->Bool
 | .sh,.sh=>true
 | .emp,.emp=>true
 | .own d k,.own d' k'=>(match d,d' with
   | true,true=>true
   | false,false=>true
   | _,_=>false)&&zQ k k'
 | .vw k,.vw k'=>zQ k k'
 | _,_=>false
def YZ:Tok->Bool
 | .put _ _ _ _ _=>false
 | _=>true
def Pk:List (Nat×Option Tok)->Bool
 | []=>true
 | (_,some t)::r=>YZ t&&Pk r
 | (_,none)::r=>Pk r
def KX (t:Tok):List Tok->Bool
 | []=>false
 | x::r=>CU x t|| KX t r
def SB (r:Res) (c:C):Bool:=
 (match c.key with
  | some k=> !(Pv k (U7 r.rl))
  | none=>true)&&(match r.kb with
  | some b=> !(Pv b c.bkeys)
  | none=>true)
def Qjd (r:Res) (c:C):Bool:=
 Pk r.rl&&match c with
 | .dead=>false
 | .slc t _ _=> !(KX t (LE r.rl))
 | .rptr t _=> !(KX t (LE r.rl))
 | _=>true
def Qhx (r:Res):Bool:=match r.rl,r.kb with
 | [],none=>true
 | _,_=>false
def Qey (r:Res) (c:C):Bool:=Qhx r|| Qjd r c
def Mz:List (Nat×List C)->List C
 | []=> []
 | p::r=>p.2++Mz r
def P1:List Tok->List Nat
 | []=> []
 | t::r=>(match t.key with
   | some k=> [k]
   | none=> [])++P1 r
def SC (a b:Option Nat):Bool:=match a,b with
 | some x,some y=> !(zQ x y)
 | _,_=>true
def Gu (a:Option Nat) (l:List Nat):Bool:=match a with
 | some x=> !(Pv x l)
 | none=>true
def T4 (r:Res):Option Nat:=match r.bx with
 | some p=>some p.1
 | none=>none
def CV (r:Res):List C:=match r.bx with
 | some p=>p.2
 | none=> []
def Qbu (ops:List Oper) (oa:Oper) (ra:Rec) (ob:Oper) (rb:Rec):Bool:=
 SC oa.dst ob.dst&&Gu oa.dst (CT ops ob)&&Gu ob.dst (CT ops oa)&&
 B9 (Qey ra.res) (Yx rb.avs)&&B9 (Qey ra.res) (Mz rb.bn)&&B9 (SB rb.res) (Yx ra.avs)&&B9 (SB rb.res) (Mz ra.bn)&&
 B9 (SB ra.res) rb.res.av.cells&&B9 (SB ra.res) (CV rb.res)&&B9 (SB rb.res) ra.res.av.cells&&B9 (SB rb.res) (CV ra.res)&&
 N5 (U7 ra.res.rl) (U7 rb.res.rl++P1 (LE rb.res.rl))&&N5 (U7 rb.res.rl) (P1 (LE ra.res.rl))&&
 SC (T4 ra.res) (T4 rb.res)&&Gu (T4 ra.res) (Py (Yx rb.avs))&&Gu (T4 rb.res) (Py (Yx ra.avs))&&Pk ra.res.rl&&Pk rb.res.rl
section
theorem AV.map_map (f g:C->C) (v:AV):(v.map f).map g=v.map (g ∘ f):=by
 cases v<;>simp[AV.map,Function.comp_def]
theorem AV.map_id' {f:C->C} {v:AV} (h:∀c,c∈v.cells->f c=c):v.map f=v:=by
 cases v with
 | one c=>simp[AV.map,h c (by simp[AV.cells])]
 | agg cs=>
   simp only[AV.map]
   congr 1
   exact (yH λc hc=>h c hc).trans (xK cs)
 | tup l=>
   simp only[AV.map]
   congr 1
   refine (yH λp hp=> ?_).trans (xK l);obtain ⟨a,cs⟩:=p;have:cs.map f=cs:=(yH λc hc=>h c (by simp only[AV.cells,xI];exact ⟨_,hp,hc⟩)).trans (xK cs);simp[this]
theorem AV.map_inj' {f:C->C} {v u:AV} (h:v.map f=u) (hn:∀c0 c,f c0=c->c∈u.cells->c0=c):v=u:=by
 have key:∀(l m:List C),l.map f=m->(∀c,c∈m->c∈u.cells)->l=m:=by
  intro l
  induction l with
  | nil=>intro m h _;exact h
  | cons c l ih=>
    intro m h hm;cases m with
    | nil=>cases h
    | cons d m=>
      simp only[yE,List.cons.injEq] at h;rw[hn c d h.1 (hm d (by simp)),ih m h.2 λc hc=>hm c (by simp[hc])]
 cases v with
 | one c=>
   simp only[AV.map] at h;subst h;exact congrArg AV.one (hn c _ rfl (by simp[AV.cells]))
 | agg cs=>
   simp only[AV.map] at h;subst h;exact congrArg AV.agg (key cs _ rfl λc hc=>hc)
 | tup l=>
   simp only[AV.map] at h;subst h
   congr 1
   have :∀(ps:List (Bool×List C)),(∀p,p∈ps->p∈l)->ps=ps.map λp=>(p.1,p.2.map f):=by
    intro ps
    induction ps with
    | nil=>intro _;rfl
    | cons p ps ih=>
      intro hp;obtain ⟨a,cs⟩:=p;simp only[yE];rw[←ih λp hq=>hp p (by simp[hq])]
      congr 2
      exact key cs _ rfl λc hc=>by
       simp only[AV.cells,xI,xB];exact ⟨(a,cs.map f),⟨(a,cs),hp _ (by simp),rfl⟩,hc⟩
   exact this l λp hp=>hp
theorem Ev {rl:List (Nat×Option Tok)} {k:Nat}:k∉U7 rl->get rl k=none:=by
 induction rl with
 | nil=>intro _;rfl
 | cons p r ih=>
   intro h;simp only[U7,zM,not_or] at h;obtain ⟨a,b⟩:=p;simp only[get];rw[if_neg λe=>h.1 e.symm];exact ih h.2
theorem JJ {rl:List (Nat×Option Tok)} {k:Nat} {t:Tok}:get rl k=some (some t)->t∈LE rl/\k∈U7 rl:=by
 induction rl with
 | nil=>intro h;cases h
 | cons p r ih=>
   intro h;obtain ⟨a,b⟩:=p;simp only[get] at h;split at h
   . rename_i e;obtain rfl:=zD h;exact ⟨by simp[LE],by simp[U7,e]⟩
   obtain ⟨h1,h2⟩:=ih h;refine ⟨?_,by simp[U7,h2]⟩;cases b<;>simp[LE,h1]
theorem FE (t:Tok) (ht:YZ t=true):CU t t=true:=by
 cases t with
 | own d k=>cases d<;>simp[CU]
 | put=>cases ht
 | _=>simp[CU]
theorem YA {t:Tok} (ht:YZ t=true):∀{l:List Tok},t∈l->KX t l=true
 | x::r,h=>by
   rcases zM.1 h with rfl | h
   . simp[KX,FE t ht]
   simp[KX,YA ht h]
theorem P2 {rl:List (Nat×Option Tok)} {k:Nat} {t:Tok} (hp:Pk rl=true):get rl k=some (some t)->YZ t=true:=by
 induction rl with
 | nil=>intro h;cases h
 | cons p r ih=>
   intro h;obtain ⟨a,b⟩:=p
   have hr:Pk r=true/\(∀t,b=some t->YZ t=true):=by
    cases b with
    | none=>exact ⟨hp,λt e=>by cases e⟩
    | some t=>simp only[Pk,zJ] at hp;exact ⟨hp.2,λt' e=>by cases e;exact hp.1⟩
   simp only[get] at h;split at h
   . exact hr.2 t (zD h)
   exact ih hr.1 h
theorem KY (t:Tok) (n:Nat) (l:List (List PV)):JZ t n l t= .slc t n l:=by cases t<;>rfl
theorem AP (t:Tok) (cs:List PV):LF t cs t= .rptr t cs:=by cases t<;>rfl
theorem SD {t':Tok} (h:YZ t'=true) (t:Tok) (n:Nat) (l:List (List PV)):JZ t n l t'= .slc t' n l:=by cases t'<;>first | rfl | cases h
theorem Qbv {t':Tok} (h:YZ t'=true) (t:Tok) (cs:List PV):LF t cs t'= .rptr t' cs:=by cases t'<;>first | rfl | cases h
theorem AQ {rl:List (Nat×Option Tok)} (hp:Pk rl=true) {t t':Tok} (h:Iw rl t=some t'):t'=t\/YZ t'=true:=by
 unfold Iw at h;split at h
 . exact .inl (zD h).symm
 split at h
 . exact .inl (zD h).symm
 rename_i x hg;subst h;exact .inr (P2 hp hg)
theorem YB {rl:List (Nat×Option Tok)} (hp:Pk rl=true) {t t':Tok} (h:Iw rl t=some t') (n:Nat) (l:List (List PV)):JZ t n l t'= .slc t' n l:=by
 rcases AQ hp h with rfl | h
 . exact KY _ n l
 exact SD h t n l
theorem KZ {rl:List (Nat×Option Tok)} (hp:Pk rl=true) {t t':Tok} (h:Iw rl t=some t') (cs:List PV):LF t cs t'= .rptr t' cs:=by
 rcases AQ hp h with rfl | h
 . exact AP _ cs
 exact Qbv h t cs
theorem YC {t:Tok} {k:Nat} (hk:t.key=some k):∀{l:List Tok},t∈l->k∈P1 l
 | x::r,h=>by
   simp only[P1];rcases zM.1 h with rfl | h
   . exact zY _ (by rw[hk];simp)
   exact zV _ (YC hk h)
theorem Ew {k:Nat} {l:List Nat} (h:Pv k l=false):k∉l:=λhm=>by rw[Cv.2 hm] at h;cases h
theorem AS {b:Nat}:∀{caps:List (Nat×Nat)},b∉caps.map (·.1)->Ng b caps=false
 | [],_=>rfl
 | c::r,h=>by
   simp only[yE,zM,not_or] at h;simp only[Ng,Bool.or_eq_false_iff];exact ⟨AK λe=>h.1 e.symm,AS h.2⟩
theorem Qbw {r:Res} {c:C} (h:SB r c=true):Uy r.rl r.kb c=c:=by
 simp only[SB,zJ] at h;obtain ⟨h1,h2⟩:=h
 have hT:∀t:Tok,(match t.key with | some k=> !(Pv k (U7 r.rl)) | none=>true)=true->Iw r.rl t=some t:=by
  intro t ht;unfold Iw;cases hk:t.key with
  | none=>rfl
  | some k=>
    rw[hk] at ht;simp only[zP] at ht;simp only[Ev (Ew ht)]
 cases c with
 | slc t n l=>simp only[Uy,hT t h1,KY]
 | rptr t cs=>simp only[Uy,hT t h1,AP]
 | ept d k n i o cs=>
   have hk:get r.rl k=none:=Ev (Ew (by simpa [C.key] using h1));simp only[Uy,hk]
 | ptr k off=>
   cases hb:r.kb with
   | none=>rfl
   | some b=>
     rw[hb] at h2;simp only[zP,C.bkeys] at h2;have:=Ew h2;simp only[Uy,AK (a:=k) (b:=b) λe=>this (by simp[e]),cond_false]
 | fn f caps=>
   cases hb:r.kb with
   | none=>rfl
   | some b=>
     rw[hb] at h2;simp only[zP,C.bkeys] at h2;simp only[Uy,AS (Ew h2),cond_false]
 | _=>rfl
theorem Qfr {r:Res} {c0 c:C} (h:Uy r.rl r.kb c0=c) (hn:Qjd r c=true):c0=c:=by
 simp only[Qjd,zJ] at hn;obtain ⟨hp,hn⟩:=hn
 have hT:∀t t':Tok,Iw r.rl t=some t'->KX t' (LE r.rl)=false->t=t':=by
  intro t t' ht hm;unfold Iw at ht;cases hk:t.key with
  | none=>rw[hk] at ht;exact zD ht
  | some k=>
    rw[hk] at ht;simp only[] at ht;cases hg:get r.rl k with
    | none=>rw[hg] at ht;exact zD ht
    | some x=>
      rw[hg] at ht;simp only[] at ht;subst ht;rw[YA (P2 hp hg) (JJ hg).1] at hm;cases hm
 cases c0 with
 | slc t n l=>
   simp only[Uy] at h;split at h
   . rename_i t' ht;rw[YB hp ht] at h;subst h;simp only[zP] at hn;rw[hT t t' ht hn]
   subst h;cases hn
 | rptr t cs=>
   simp only[Uy] at h;split at h
   . rename_i t' ht;rw[KZ hp ht] at h;subst h;simp only[zP] at hn;rw[hT t t' ht hn]
   subst h;cases hn
 | ept d k n i o cs=>
   simp only[Uy] at h;split at h
   . exact h
   . rename_i t' hg;have hm:=YA (P2 hp hg) (JJ hg).1;split at h
     . subst h;simp[hm] at hn
     . subst h;simp[hm] at hn
     . cases P2 hp hg
     subst h;cases hn
   subst h;cases hn
 | ptr k off=>
   simp only[Uy] at h;split at h
   . exact h
   rename_i b hb;cases hkb:zQ k b with
   | true=>rw[hkb] at h;subst h;cases hn
   | false=>rw[hkb] at h;exact h
 | fn f caps=>
   simp only[Uy] at h;split at h
   . exact h
   rename_i b hb;cases hkb:Ng b caps with
   | true=>rw[hkb] at h;subst h;cases hn
   | false=>rw[hkb] at h;exact h
 | _=>exact h
theorem YD:Uy [] none=id:=by
 funext c
 cases c with
 | slc t n l=>cases t<;>rfl
 | rptr t cs=>cases t<;>rfl
 | _=>rfl
theorem Qbx {r:Res} {c0 c:C} (h:Uy r.rl r.kb c0=c) (hn:Qey r c=true):c0=c:=by
 simp only[Qey,Bool.or_eq_true] at hn;rcases hn with hq | hn
 . have e:Uy r.rl r.kb=id:=by
    unfold Qhx at hq;split at hq
    . rename_i e1 e2;rw[e1,e2,YD]
    cases hq
   rw[e] at h;exact h
 exact Qfr h hn
theorem Qby {ra rb:Res} (h1:N5 (U7 ra.rl) (U7 rb.rl++P1 (LE rb.rl))=true) (h2:N5 (U7 rb.rl) (P1 (LE ra.rl))=true) (p1:Pk ra.rl=true) (p2:Pk rb.rl=true) (c:C):Uy rb.rl rb.kb (Uy ra.rl ra.kb c)=Uy ra.rl ra.kb (Uy rb.rl rb.kb c):=by
 have hT :∀t:Tok,(Iw ra.rl t).bind (Iw rb.rl)=(Iw rb.rl t).bind (Iw ra.rl):=by
  have gen:∀(r r':Res),N5 (U7 r.rl) (U7 r'.rl)=true->N5 (U7 r'.rl) (P1 (LE r.rl))=true->∀(t:Tok) (k:Nat) (x:Option Tok),t.key=some k->get r.rl k=some x->(Iw r.rl t).bind (Iw r'.rl)=(Iw r'.rl t).bind (Iw r.rl):=by
   intro r r' d1 d2 t k x hk hx;have hka:k∈U7 r.rl:=yO λhn=>by rw[Ev hn] at hx;cases hx
   have hkb:get r'.rl k=none:=Ev (Fb d1 k hka);have e1:Iw r.rl t=x:=by unfold Iw;rw[hk];simp only[hx]
   have e2:Iw r'.rl t=some t:=by unfold Iw;rw[hk];simp only[hkb]
   rw[e1,e2];simp only[yM,e1];cases x with
   | none=>rfl
   | some t'=>
     simp only[yM];unfold Iw;cases hk':t'.key with
     | none=>rfl
     | some k'=>
       have hm:=YC hk' (JJ hx).1;have hn:k'∉U7 r'.rl:=λh=>Fb d2 k' h hm
       simp only[Ev hn]
  have d11:N5 (U7 ra.rl) (U7 rb.rl)=true:=by
   revert h1;generalize U7 ra.rl=l
   induction l with
   | nil=>intro _;rfl
   | cons x l ih=>
     intro h;simp only[N5,zJ,zP] at h⊢;refine ⟨?_,ih h.2⟩;cases hm:Pv x (U7 rb.rl) with
     | false=>rfl
     | true=>exact absurd (zY _ (Cv.1 hm)) (Ew h.1)
  have d12:N5 (U7 ra.rl) (P1 (LE rb.rl))=true:=by
   revert h1;generalize U7 ra.rl=l
   induction l with
   | nil=>intro _;rfl
   | cons x l ih=>
     intro h;simp only[N5,zJ,zP] at h⊢;refine ⟨?_,ih h.2⟩;cases hm:Pv x (P1 (LE rb.rl)) with
     | false=>rfl
     | true=>exact absurd (zV _ (Cv.1 hm)) (Ew h.1)
  have d21:N5 (U7 rb.rl) (U7 ra.rl)=true:=by
   have hx:∀x,x∈U7 rb.rl->x∉U7 ra.rl:=λx hb ha=>Fb d11 x ha hb
   revert hx;generalize U7 rb.rl=l
   induction l with
   | nil=>intro _;rfl
   | cons x l ih=>
     intro hx;simp only[N5,zJ,zP];refine ⟨?_,ih λy hy=>hx y (by simp[hy])⟩;cases hm:Pv x (U7 ra.rl) with
     | false=>rfl
     | true=>exact absurd (Cv.1 hm) (hx x (by simp))
  intro t;cases hk:t.key with
  | none=>
    have e1:Iw ra.rl t=some t:=by unfold Iw;rw[hk]
    have e2:Iw rb.rl t=some t:=by unfold Iw;rw[hk]
    rw[e1,e2];simp[e1,e2]
  | some k=>
    cases ha:get ra.rl k with
    | some x=>exact gen ra rb d11 h2 t k x hk ha
    | none=>
      cases hb:get rb.rl k with
      | some x=>exact (gen rb ra d21 d12 t k x hk hb).symm
      | none=>
        have e1:Iw ra.rl t=some t:=by unfold Iw;rw[hk];simp only[ha]
        have e2:Iw rb.rl t=some t:=by unfold Iw;rw[hk];simp only[hb]
        rw[e1,e2];simp[e1,e2]
 have hs:∀(x y:List (Nat×Option Tok)),Pk x=true->Pk y=true->∀(kx ky:Option Nat) (t:Tok) (n:Nat) (l:List (List PV)),Uy y ky (Uy x kx (.slc t n l))=(match (Iw x t).bind (Iw y) with | some t'=> .slc t' n l | none=> .dead):=by
  intro x y px py kx ky t n l;simp only[Uy];cases hx:Iw x t with
  | none=>rfl
  | some t'=>
    simp only[YB px hx,yM];cases hy:Iw y t' with
    | none=>simp only[hy]
    | some t2=>simp only[hy,YB py hy]
 have hp:∀(x y:List (Nat×Option Tok)),Pk x=true->Pk y=true->∀(kx ky:Option Nat) (t:Tok) (cs:List PV),Uy y ky (Uy x kx (.rptr t cs))=(match (Iw x t).bind (Iw y) with | some t'=> .rptr t' cs | none=> .dead):=by
  intro x y px py kx ky t cs;simp only[Uy];cases hx:Iw x t with
  | none=>rfl
  | some t'=>
    simp only[KZ px hx,yM];cases hy:Iw y t' with
    | none=>simp only[hy]
    | some t2=>simp only[hy,KZ py hy]
 have he :∀(r r':Res),Pk r.rl=true->(∀x,x∈U7 r'.rl->x∉P1 (LE r.rl))->∀(d:Bool) (k n i o:Nat) (cs:List PV),get r'.rl k=none->Uy r'.rl r'.kb (Uy r.rl r.kb (.ept d k n i o cs))=Uy r.rl r.kb (Uy r'.rl r'.kb (.ept d k n i o cs)):=by
  intro r r' hnp dd d k n i o cs hg;have e1:Uy r'.rl r'.kb (.ept d k n i o cs)= .ept d k n i o cs:=by simp only[Uy,hg]
  rw[e1];have key:∀y,Uy r.rl r.kb (.ept d k n i o cs)=y->Uy r'.rl r'.kb y=y->Uy r'.rl r'.kb (Uy r.rl r.kb (.ept d k n i o cs))=Uy r.rl r.kb (.ept d k n i o cs):=λy h1 h2=>by rw[h1,h2]
  cases hx:get r.rl k with
  | none=>exact key _ (by simp only[Uy,hx]) e1
  | some x=>
    cases x with
    | none=>exact key .dead (by simp only[Uy,hx]) rfl
    | some t'=>
      cases t' with
      | sh=>exact key (.rptr .sh cs) (by simp only[Uy,hx]) rfl
      | vw k'=>
        have hm:=YC (t:= .vw k') rfl (JJ hx).1;have hn:get r'.rl k'=none:=Ev λh=>dd k' h hm
        exact key (.rptr (.vw k') cs) (by simp only[Uy,hx]) (by simp only[Uy,Iw,Tok.key,hn,LF])
      | put=>cases P2 hnp hx
      | emp | own=>exact key .dead (by simp only[Uy,hx]) rfl
 cases c with
 | slc t n l=>rw[hs _ _ p1 p2,hs _ _ p2 p1,hT]
 | rptr t cs=>rw[hp _ _ p1 p2,hp _ _ p2 p1,hT]
 | ept d k n i o cs=>
   cases hg:get rb.rl k with
   | none=>exact he ra rb p1 (λx hx=>Fb h2 x hx) d k n i o cs hg
   | some x=>
     have hkb:k∈U7 rb.rl:=yO λhn=>by rw[Ev hn] at hg;cases hg
     have hga:get ra.rl k=none:=Ev λha=>Fb h1 k ha (zY _ hkb)
     exact (he rb ra p2 (λx hx hm=>Fb h1 x hx (zV _ hm)) d k n i o cs hga).symm
 | ptr k off=>
   cases ra.kb with
   | none=>cases rb.kb with
     | none=>rfl
     | some y=>simp only[Uy];cases h1:zQ k y<;>simp[Uy]
   | some x=>
     cases rb.kb with
     | none=>simp only[Uy];cases h1:zQ k x<;>simp[Uy]
     | some y=>simp only[Uy];cases h1:zQ k x<;>cases h2:zQ k y<;>simp[Uy,h1,h2]
 | fn f caps=>
   cases ra.kb with
   | none=>cases rb.kb with
     | none=>rfl
     | some y=>simp only[Uy];cases h1:Ng y caps<;>simp[Uy]
   | some x=>
     cases rb.kb with
     | none=>simp only[Uy];cases h1:Ng x caps<;>simp[Uy]
     | some y=>simp only[Uy];cases h1:Ng x caps<;>cases h2:Ng y caps<;>simp[Uy,h1,h2]
 | _=>rfl
def M (r:Res) (v:AV):AV:=v.map (Uy r.rl r.kb)
def ML (r:Res) (l:List C):List C:=l.map (Uy r.rl r.kb)
theorem M0 (s:St) (dst:Option Nat) (r:Res) (t:Nat):get (s.step dst r).tm t=if dst=some t then some r.av else (get s.tm t).map (M r):=by
 have h:get (match r.rl,r.kb with | [],none=>s | rl,kb=>s.map (Uy rl kb)).tm t=(get s.tm t).map (M r):=by
  unfold M;split
  . rename_i e1 e2;rw[e1,e2,YD];cases get s.tm t with
    | none=>rfl
    | some v=>rw[zK,AV.map_id' (f:=id) λc _=>rfl]
  simp only[St.map,Lo (AV.map _)]
 cases dst with
 | none=>simp only[St.step];rw[if_neg (by simp)];exact h
 | some d=>
   simp only[St.step,Pu,yS];split
   . rfl
   exact h
theorem S6 (s:St) (dst:Option Nat) (r:Res) (k:Nat):get (s.step dst r).bx k=if T4 r=some k then some (CV r) else (get s.bx k).map (ML r):=by
 have h:get (match r.rl,r.kb with | [],none=>s | rl,kb=>s.map (Uy rl kb)).bx k=(get s.bx k).map (ML r):=by
  unfold ML;split
  . rename_i e1 e2;rw[e1,e2,YD];cases get s.bx k<;>simp
  simp only[St.map,Lo (xU _)]
 unfold T4 CV;simp only[St.step];cases r.bx with
 | none=>simp only[];rw[if_neg (by simp)];exact h
 | some p=>
   obtain ⟨x,y⟩:=p;simp only[Pu,yS];split
   . rfl
   exact h
section
variable {tt:List (Nat×TI)} {N:Nat} {orc:Orc} {ops:List Oper}
structure SameLooks (ops:List Oper) (o:Oper) (s t:St):Prop where
 tm:∀x,x∈CT ops o->get s.tm x=get t.tm x
 bx:∀vs,G5 s o.op.operands.toList=some vs->∀k,k∈Py (Yx vs)->get s.bx k=get t.bx k
theorem AT {s t:St}:∀{xs:List Operand},(∀x,x∈Nj xs->get s.tm x=get t.tm x)->G5 s xs=G5 t xs
 | [],_=>rfl
 | x ::r,h=>by
   have h2:G5 s r=G5 t r:=AT λy hy=>h y (by cases x<;>simp[Nj,hy])
   have h1:UR s x=UR t x:=by
    cases x with
    | tmp y=>exact h y (by simp[Nj])
    | _=>rfl
   simp only[G5,h1,h2]
theorem P3 {s t:St}:∀{ks:List Nat},(∀k,k∈ks->get s.bx k=get t.bx k)->Ay s ks=Ay t ks
 | [],_=>rfl
 | k::r,h=>by simp only[Ay,h k (by simp),P3 (ks:=r) λx hx=>h x (by simp[hx])]
theorem AU {o:Oper} {s t:St} (h:SameLooks ops o s t):Gd tt N orc ops s o=Gd tt N orc ops t o:=by
 have h1:G5 s o.op.operands.toList=G5 t o.op.operands.toList:=AT λx hx=>h.tm x (zY _ hx)
 have h2:Eb ops s o=Eb ops t o:=by
  unfold Eb;cases hg:o.guard with
  | none=>rfl
  | some g=>
    obtain ⟨j,want⟩:=g;simp only[];cases hj:ops[j]? with
    | none=>rfl
    | some oj=>
      simp only[];cases hd:oj.dst with
      | none=>rfl
      | some x=>simp only[h.tm x (zV _ (by simp[hg,hj,hd]))]
 unfold Gd;rw[h2,h1];cases hv:G5 t o.op.operands.toList with
 | none=>rfl
 | some vs=>simp only[P3 (h.bx vs (h1.trans hv))]
theorem S7 {s:St} {k:Nat} {cs:List C}:∀{ks:List Nat},k∈ks->get s.bx k=some cs->∀c,c∈cs->c∈Mz (Ay s ks)
 | x::r,hk,hg,c,hc=>by
   simp only[Ay];rcases zM.1 hk with rfl | hk
   . rw[hg];simp[Mz,hc]
   have:=S7 hk hg c hc;split
   . simp[Mz,this]
   exact this
theorem OU {o:Oper} {s t:St} {ρ:Rec} (hg:Eb ops t o=Eb ops s o) (h:Gd tt N orc ops s o=some ρ)
 (hk:∀vs,ρ.avs=vs->G5 s o.op.operands.toList=some vs->ρ.bn=Ay s (Py (Yx vs))->G5 t o.op.operands.toList=some vs/\Ay t (Py (Yx vs))=Ay s (Py (Yx vs))):Gd tt N orc ops t o=some ρ:=by
 unfold Gd at h⊢;rw[hg];cases hd:LS N o.dst with
 | false=>rw[hd] at h;cases h
 | true =>
   rw[hd] at h;simp only[cond_true] at h⊢;split at h
   . split at h
     . rename_i vs hvs;split at h
       . rename_i r obs he;obtain rfl:=zD h;obtain ⟨h1,h2⟩:=hk vs rfl hvs rfl;simp only[h1,h2,he]
       cases h
     cases h
   . exact h
   cases h
theorem Qbz {t t':Tok} {n:Nat} {l:List (List PV)} {b:Bool} (h:JZ t n l t'= .bool b):False:=by
 cases t' with
 | put d m i o cs=>
   cases t with
   | own d0 k=>
     simp only[JZ] at h;cases hb:Qax d0 d&&zQ n m<;>rw[hb] at h<;>cases h
   | _=>cases h
 | _=>cases h
theorem Qfs {t t':Tok} {cs:List PV} {b:Bool} (h:LF t cs t'= .bool b):False:=by
 cases t' with
 | put=>cases t<;>cases h
 | _=>cases h
theorem Qb0 {rl:List (Nat×Option Tok)} {kb:Option Nat} {c:C} {b:Bool}:Uy rl kb c= .bool b↔c= .bool b:=by
 constructor
 . intro h;cases c with
   | slc t n l=>
     simp only[Uy] at h;split at h
     . exact (Qbz h).elim
     cases h
   | rptr t cs=>
     simp only[Uy] at h;split at h
     . exact (Qfs h).elim
     cases h
   | ept d k n i o cs=>
     simp only[Uy] at h;split at h
     . cases h
     . split at h<;>cases h
     cases h
   | ptr k off=>
     simp only[Uy] at h;split at h
     . cases h
     rename_i x y;cases hk:zQ k y<;>rw[hk] at h<;>cases h
   | fn f caps=>
     simp only[Uy] at h;split at h
     . cases h
     rename_i x y;cases hk:Ng y caps<;>rw[hk] at h<;>cases h
   | _=>exact h
 intro h;subst h;rfl
theorem AW {o :Oper} {s:St} {dst:Option Nat} {r:Res} (hd:∀x,x∈CT ops o->dst≠some x):Eb ops (s.step dst r) o=Eb ops s o:=by
 unfold Eb;cases hg:o.guard with
 | none=>rfl
 | some g =>
   obtain ⟨j,want⟩:=g;simp only[];cases hj:ops[j]? with
   | none=>rfl
   | some oj =>
     simp only[];cases hdj:oj.dst with
     | none=>rfl
     | some x =>
       have hx:dst≠some x:=hd x (zV _ (by simp[hg,hj,hdj]));simp only[M0,if_neg hx];cases hv:get s.tm x with
       | none=>rfl
       | some v=>
         simp only[zK];cases v with
         | one c=>
           simp only[M,AV.map];cases c with
           | bool b=>rfl
           | _=>
             generalize hc:Uy r.rl r.kb _=c';cases c' with
             | bool b=>exact absurd (Qb0.1 hc) (by simp)
             | _=>rfl
         | agg cs=>rfl
         | tup l=>cases l<;>rfl
theorem Ql5 {r:Res} {v:AV} (h:∀c,c∈v.cells->SB r c=true):M r v=v:=AV.map_id' λc hc=>Qbw (h c hc)
theorem Ql6 {r:Res} {l:List C} (h:∀c,c∈l->SB r c=true):ML r l=l:=(yH λc hc=>Qbw (h c hc)).trans (xK l)
theorem Qmp {r:Res} {v u:AV} (h:M r v=u) (hn:∀c,c∈u.cells->Qey r c=true):v=u:=AV.map_inj' h λ_ c hc hm=>Qbx hc (hn c hm)
theorem Qmg {r:Res}:∀{l m:List C},ML r l=m->(∀c,c∈m->Qey r c=true)->l=m
 | [],m,h,_=>h
 | c ::l,m,h,hn=>by
   cases m with
   | nil=>cases h
   | cons d m=>
     simp only[ML,yE,List.cons.injEq] at h;rw[Qbx h.1 (hn d (by simp)),Qmg (l:=l) h.2 λc hc=>hn c (by simp[hc])]
theorem Oa {a:Option Nat} {l:List Nat} (h:Gu a l=true):∀x,x∈l->a≠some x:=λx hx e=>by
 subst e;simp only[Gu,zP] at h;exact Ew h hx
theorem FF {o:Oper} {x:Nat} (h:x∈Nj o.op.operands.toList):x∈CT ops o:=zY _ h
theorem Qft {o:Oper} {s:St} {dst:Option Nat} {r:Res} {ρ:Rec} (h:Gd tt N orc ops (s.step dst r) o=some ρ) (hd:Gu dst (CT ops o)=true) (h1:B9 (Qey r) (Yx ρ.avs)=true) (h2:B9 (Qey r) (Mz ρ.bn)=true) (h3:Gu (T4 r) (Py (Yx ρ.avs))=true):Gd tt N orc ops s o=some ρ:=by
 have hd':=Oa hd;refine OU (AW hd').symm h λvs hvs hop hbn=> ?_
 subst hvs;rw[hbn] at h2
 have hop':∀(xs:List Operand) (vs:List AV),(∀x,x∈Nj xs->dst≠some x)->(∀c,c∈Yx vs->Qey r c=true)->G5 (s.step dst r) xs=some vs->G5 s xs=some vs:=by
  intro xs
  induction xs with
  | nil=>intro vs _ _ h;exact h
  | cons x xs ih=>
    intro vs hx hn h;simp only[G5] at h⊢;split at h
    . rename_i v vs' e1 e2;obtain rfl:=zD h;have hxs:=ih vs' (λy hy=>hx y (by cases x<;>simp[Nj,hy])) (λc hc=>hn c (by simp only[Yx];exact zV _ hc)) e2
      have h0:UR s x=some v:=by
       cases x with
       | tmp y=>
         have e1:get (s.step dst r).tm y=some v:=e1;rw[M0,if_neg (hx y (by simp[Nj]))] at e1;obtain ⟨u,hu,hm⟩:=zL.1 e1;show get s.tm y=some v;rw[hu,Qmp hm λc hc=>hn c (by simp only[Yx];exact zY _ hc)]
       | _=>exact e1
      simp only[h0,hxs]
    cases h
 have hv:=hop' _ _ (λx hx=>hd' x (FF hx)) (Bz h1) hop;refine ⟨hv, ?_⟩
 have : ∀ks:List Nat,(∀k,k∈ks->T4 r≠some k)->(∀c,c∈Mz (Ay (s.step dst r) ks)->Qey r c=true)->Ay s ks=Ay (s.step dst r) ks:=by
  intro ks
  induction ks with
  | nil=>intro _ _;rfl
  | cons k ks ih=>
    intro hk hn;have e:get (s.step dst r).bx k=(get s.bx k).map (ML r):=by rw[S6,if_neg (hk k (by simp))]
    have hg:get s.bx k=get (s.step dst r).bx k:=by
     rw[e];cases hc:get s.bx k with
     | none=>rfl
     | some cs=>
       rw[hc] at e;simp only[zK] at e⊢;exact congrArg some (Qmg (l:=cs) rfl λc hc'=>hn c (S7 (by simp) e c hc'))
    simp only[Ay,hg];split
    . rename_i cs hcs;rw[ih (λx hx=>hk x (by simp[hx])) λc hc=>hn c (by simp[Ay,hcs,Mz,hc])]
    rename_i hcs;exact ih (λx hx=>hk x (by simp[hx])) λc hc=>hn c (by simp[Ay,hcs,hc])
 exact this _ (Oa h3) (Bz h2)
theorem Qje {o:Oper} {s:St} {dst:Option Nat} {r:Res} {ρ:Rec} (h:Gd tt N orc ops s o=some ρ) (hd:Gu dst (CT ops o)=true) (h1:B9 (SB r) (Yx ρ.avs)=true) (h2:B9 (SB r) (Mz ρ.bn)=true) (h3:Gu (T4 r) (Py (Yx ρ.avs))=true):Gd tt N orc ops (s.step dst r) o=some ρ:=by
 have hd':=Oa hd;refine OU (AW hd') h λvs hvs hop hbn=> ?_
 subst hvs;rw[hbn] at h2
 have hop':∀(xs:List Operand) (vs:List AV),(∀x,x∈Nj xs->dst≠some x)->(∀c,c∈Yx vs->SB r c=true)->G5 s xs=some vs->G5 (s.step dst r) xs=some vs:=by
  intro xs
  induction xs with
  | nil=>intro vs _ _ h;exact h
  | cons x xs ih=>
    intro vs hx hn h;simp only[G5] at h⊢;split at h
    . rename_i v vs' e1 e2;obtain rfl:=zD h;have hxs:=ih vs' (λy hy=>hx y (by cases x<;>simp[Nj,hy])) (λc hc=>hn c (by simp only[Yx];exact zV _ hc)) e2
      have h0:UR (s.step dst r) x=some v:=by
       cases x with
       | tmp y=>
         have e1:get s.tm y=some v:=e1;show get (s.step dst r).tm y=some v;rw[M0,if_neg (hx y (by simp[Nj])),e1,zK,Ql5 λc hc=>hn c (by simp only[Yx];exact zY _ hc)]
       | _=>exact e1
      simp only[h0,hxs]
    cases h
 refine ⟨hop' _ _ (λx hx=>hd' x (FF hx)) (Bz h1) hop,P3 λk hk=> ?_⟩;rw[S6,if_neg (Oa h3 k hk)];cases hc:get s.bx k with
 | none=>rfl
 | some cs=>rw[zK,Ql6 λc hc'=>Bz h2 c (S7 hk hc c hc')]
theorem T5 {a b:Option Nat} (h:SC a b=true):∀x,a=some x->b≠some x:=λx e e'=>by
 subst e;subst e';simp[SC] at h
theorem Qjf {oa ob:Oper} {ra rb:Rec} {s:St} (hap:Qbu ops oa ra ob rb=true) {orca orcb:Orc} (ha:Gd tt N orca ops s oa=some ra) (hb:Gd tt N orcb ops (s.step oa.dst ra.res) ob=some rb):
 Gd tt N orcb ops s ob=some rb/\Gd tt N orca ops (s.step ob.dst rb.res) oa=some ra/\((s.step oa.dst ra.res).step ob.dst rb.res).eqv ((s.step ob.dst rb.res).step oa.dst ra.res):=by
 simp only[Qbu,zJ] at hap;obtain ⟨⟨⟨⟨⟨⟨⟨⟨⟨⟨⟨⟨⟨⟨⟨⟨⟨d1,d2⟩,d3⟩,n1⟩,n2⟩,f1⟩,f2⟩,g1⟩,g2⟩,g3⟩,g4⟩,k1⟩,k2⟩,b1⟩,b2⟩,b3⟩,q1⟩,q2⟩:=hap;have hcomm:=Qby k1 k2 q1 q2;refine ⟨Qft hb d2 n1 n2 b2,Qje ha d3 f1 f2 b3,λt=> ?_,λk=> ?_⟩
 . simp only[M0];by_cases ht:ob.dst=some t
   . rw[if_pos ht,if_neg (λe=>T5 d1 t e ht),if_pos ht,zK,Ql5 (Bz g1)]
   rw[if_neg ht,if_neg ht];by_cases ht':oa.dst=some t
   . rw[if_pos ht',if_pos ht',zK,Ql5 (Bz g3)]
   rw[if_neg ht',if_neg ht'];cases get s.tm t with
   | none=>rfl
   | some v=>
     simp only[zK,M,AV.map_map]
     congr 2
     funext c
     exact hcomm c
 simp only[S6];by_cases ht:T4 rb.res=some k
 . rw[if_pos ht,if_neg (λe=>T5 b1 k e ht),if_pos ht,zK,Ql6 (Bz g2)]
 rw[if_neg ht,if_neg ht];by_cases ht':T4 ra.res=some k
 . rw[if_pos ht',if_pos ht',zK,Ql6 (Bz g4)]
 rw[if_neg ht',if_neg ht'];cases get s.bx k with
 | none=>rfl
 | some l=>
   simp only[zK,ML,List.map_map]
   congr 2
   funext c
   exact hcomm c
end
end
end
section
open Go.RowKit
abbrev G6:=Nat×Oper×Rec
def Ed (o:Oper):List Nat:=(o.after.toList.filter λe=>Region.binds .any e).map (·.on)
def SE:List Nat->List Nat
 | []=> []
 | x::r=>bif Pv x r then SE r else x::SE r
def Qez (l:List (List Nat)) (i:Nat):List Nat:=match l[i]? with
 | some x=>x
 | none=> []
def OW:List Oper->List (List Nat)->List (List Nat)
 | [],acc=>acc
 | o::r,acc=>OW r (acc++ [SE (Ed o++(Ed o).flatMap λe=>Qez acc e)])
def Qfu (i:Nat):List Nat->Bool
 | []=>true
 | x::r=>Nat.blt x i&&Qfu i r
def VB:List Oper->Nat->Bool
 | [],_=>true
 | o::r,i=>Qfu i (Ed o)&&VB r (i+1)
def Qe0 (orcs:List (Nat×Orc)) (i:Nat) (o:Oper):Option (Nat×Nat):=match o.op,o.guard,o.dst,get orcs i with
 | .move (.tmp u),none,some v,none=>some (u,v)
 | _,_,_,_=>none
def AX (ops:List Oper) (m:Nat×Nat) (z:Oper):Bool:= !(Pv m.2 (CT ops z))&&SC z.dst (some m.1)&&SC z.dst (some m.2)
def AY (orcs:List (Nat×Orc)) (ops:List Oper) (y x:G6):Bool:=match Qe0 orcs y.1 y.2.1,Qe0 orcs x.1 x.2.1 with
 | none,none=>Qbu ops y.2.1 y.2.2 x.2.1 x.2.2
 | some m,_=>AX ops m x.2.1
 | none,some m=>AX ops m y.2.1
def Mk (orcs:List (Nat×Orc)) (ops:List Oper) (anc:List (List Nat)) (x:G6):List G6->Bool
 | []=>true
 | y::r=>(Pv x.1 (Qez anc y.1)|| AY orcs ops x y)&&Mk orcs ops anc x r
def M1 (orcs:List (Nat×Orc)) (ops:List Oper) (anc:List (List Nat)):List G6->Bool
 | []=>true
 | x::r=>Mk orcs ops anc x r&&M1 orcs ops anc r
def FG (tt:List (Nat×TI)) (N:Nat) (orcs:List (Nat×Orc)) (ops:List Oper):List Oper->Nat->St->Option (St×List G6)
 | [],_,s=>some (s, [])
 | o ::r,i,s=>match Gd tt N (CN orcs i) ops s o with
   | some ρ=>(match FG tt N orcs ops r (i+1) (s.step o.dst ρ.res) with
     | some (s',l)=>some (s',(i,o,ρ)::l)
     | none=>none)
   | none=>none
def Qfv:List G6->List Ob
 | []=> []
 | x::r=>x.2.2.obs++Qfv r
def Fd (tt:List (Nat×TI)) (N:Nat) (orcs:List (Nat×Orc)) (ops:List Oper) (ts bs:List Nat) (s:St):Option (St×List Ob):=
 bif VB ops 0 then
  match FG tt N orcs ops ops 0 s with
  | some (s',l)=>bif M1 orcs ops (OW ops []) l then some (s'.keep ts bs,Qfv l) else none
  | none=>none
 else none
section
variable {P:Program} {tt:List (Nat×TI)} {N:Nat} {orcs:List (Nat×Orc)} {ops:Array Oper} {w0:Base} {F0:Nat->Prop}
def Qjg (tt:List (Nat×TI)) (N:Nat) (orcs:List (Nat×Orc)) (ops:List Oper):List G6->St->St->Prop
 | [],s,s'=>s.eqv s'
 | x::r,s,s'=>∃ρ:Rec,Gd tt N (CN orcs x.1) ops s x.2.1=some ρ/\(Qe0 orcs x.1 x.2.1=none->ρ=x.2.2)/\Qjg tt N orcs ops r (s.step x.2.1.dst ρ.res) s'
theorem Qfw (s:St):s.eqv s:=⟨λ_=>rfl,λ_=>rfl⟩
theorem OX {s t:St} (h:s.eqv t):t.eqv s:=⟨λx=>(h.1 x).symm,λx=>(h.2 x).symm⟩
theorem Qb1 {s t u:St} (h:s.eqv t) (h':t.eqv u):s.eqv u:=⟨λx=>(h.1 x).trans (h'.1 x),λx=>(h.2 x).trans (h'.2 x)⟩
theorem Qfx {s t:St} (h:s.eqv t) (dst:Option Nat) (r:Res):(s.step dst r).eqv (t.step dst r):=⟨λx=>by rw[M0,M0,h.1 x],λx=>by rw[S6,S6,h.2 x]⟩
theorem Qb2 {s t:St} (h:s.eqv t) {orc:Orc} {l:List Oper} (o:Oper):Gd tt N orc l s o=Gd tt N orc l t o:=AU ⟨λx _=>h.1 x,λ_ _ k _=>h.2 k⟩
theorem JK:∀{l:List G6} {s t s':St},s.eqv t->Qjg tt N orcs ops.toList l s s'->Qjg tt N orcs ops.toList l t s'
 | [],s,t,s',h,hr=>Qb1 (OX h) hr
 | x::r,s,t,s',h,⟨ρ,h1,h2,hr⟩=>⟨ρ,(Qb2 h _).symm.trans h1,h2,JK (Qfx h _ _) hr⟩
theorem T6 {i:Nat} {o:Oper} {m:Nat×Nat} (h:Qe0 orcs i o=some m):o.op= .move (.tmp m.1)/\o.guard=none/\o.dst=some m.2/\CN orcs i= .no:=by
 unfold Qe0 at h;split at h
 . rename_i u v h1 h2 h3 h4;obtain rfl:=zD h;exact ⟨h1,h2,h3,by unfold CN;rw[h4]⟩
 cases h
theorem Qb3 {l:List Oper} {i:Nat} {o:Oper} {m:Nat×Nat} {s:St} {ρ:Rec} (h:Qe0 orcs i o=some m) (hr:Gd tt N (CN orcs i) l s o=some ρ):LS N o.dst=true/\∃x,get s.tm m.1=some x/\ρ.res=⟨x, [],none,none⟩/\ρ.obs= []:=by
 obtain ⟨h1,h2,h3,h4⟩:=T6 h;unfold Gd at hr;cases hd:LS N o.dst with
 | false=>rw[hd] at hr;cases hr
 | true=>
   rw[hd] at hr;refine ⟨rfl, ?_⟩;have hg:Eb l s o=some true:=by unfold Eb;rw[h2]
   simp only[hg,h1,h4,Op.operands,G5,UR,cond_true] at hr;cases hx:get s.tm m.1 with
   | none=>simp[hx,G5,UR] at hr
   | some x=>
     simp[hx,G5,UR,EZ,KS,KR,Qa0] at hr;obtain rfl:=hr;exact ⟨x,rfl,rfl,rfl⟩
theorem Qhy {l:List Oper} {i:Nat} {o:Oper} {m:Nat×Nat} {s:St} {x:AV} (h:Qe0 orcs i o=some m) (hd:LS N o.dst=true) (hx:get s.tm m.1=some x):∃ρ,Gd tt N (CN orcs i) l s o=some ρ/\ρ.res=⟨x, [],none,none⟩:=by
 obtain ⟨h1,h2,h3,h4⟩:=T6 h;have hg:Eb l s o=some true:=by unfold Eb;rw[h2]
 unfold Gd;simp[hd,hg,h1,h4,Op.operands,G5,UR,hx,EZ,KS,KR,Qa0]
theorem Qb4 (x v:AV):M ⟨x, [],none,none⟩ v=v:=AV.map_id' λc _=>by rw[YD];rfl
theorem Qb5 (x:AV) (l:List C):ML ⟨x, [],none,none⟩ l=l:=by
 show l.map (Uy [] none)=l;rw[YD,List.map_id]
theorem Qb6 {l:List Oper} {orc:Orc} {m:Nat×Nat} {z:Oper} {s:St} {x:AV} (hf:AX l m z=true) (hx:get s.tm m.1=some x) (ρ:Rec):
 Gd tt N orc l (s.step (some m.2) ⟨x, [],none,none⟩) z=Gd tt N orc l s z/\get (s.step z.dst ρ.res).tm m.1=some (M ρ.res x)/\((s.step (some m.2) ⟨x, [],none,none⟩).step z.dst ρ.res).eqv ((s.step z.dst ρ.res).step (some m.2) ⟨M ρ.res x, [],none,none⟩):=by
 simp only[AX,zJ,zP] at hf;obtain ⟨⟨f1,f2⟩,f3⟩:=hf;have f1:=Ew f1;refine ⟨AU ⟨λy hy=> ?_,λ_ _ k _=> ?_⟩, ?_,λy=> ?_,λk=> ?_⟩
 . rw[M0,if_neg (λe=>f1 (by cases e;exact hy))];cases get s.tm y with
   | none=>rfl
   | some v=>rw[zK,Qb4]
 . rw[S6,if_neg (by simp[T4])];cases get s.bx k with
   | none=>rfl
   | some v=>simp[ML,YD]
 . rw[M0,if_neg (λe=>T5 f2 _ e rfl),hx];rfl
 . simp only[M0];by_cases h1:z.dst=some y
   . rw[if_pos h1,if_neg (λe=>T5 f3 _ h1 e),if_pos h1,zK,Qb4]
   rw[if_neg h1,if_neg h1];by_cases h2:some m.2=some y
   . rw[if_pos h2,if_pos h2,zK]
   rw[if_neg h2,if_neg h2];cases get s.tm y with
   | none=>rfl
   | some v=>simp only[zK,Qb4]
 have hn:∀y:AV,¬T4 ⟨y, [],none,none⟩=some k:=λ_ e=>by cases e
 simp only[S6];by_cases h1:T4 ρ.res=some k
 . rw[if_pos h1,if_neg (hn _),if_pos h1,zK,Qb5]
 rw[if_neg h1,if_neg (hn _),if_neg (hn _),if_neg h1];cases get s.bx k with
 | none=>rfl
 | some v=>simp only[zK,Qb5]
theorem AZ {x:G6} {post:List G6}:∀{pre:List G6} {s s':St},(∀y,y∈pre->AY orcs ops.toList y x=true)->Qjg tt N orcs ops.toList (pre++x::post) s s'->Qjg tt N orcs ops.toList (x::(pre++post)) s s'
 | [],_,_,_,h=>h
 | y :: pre,s,s',ha,h=>by
   obtain ⟨ρy,hy,hy',hr⟩:=h;obtain ⟨ρx,hx,hx',hr'⟩:=AZ (λz hz=>ha z (zN _ hz)) hr;have hap:=ha y yB;unfold AY at hap;cases hmy:Qe0 orcs y.1 y.2.1 with
   | some m=>
     rw[hmy] at hap;obtain ⟨hd,x0,h1,h2,_⟩:=Qb3 hmy hy;have hdst:=(T6 hmy).2.2.1;obtain ⟨e1,e2,e3⟩:=Qb6 (tt:=tt) (N:=N) (orc:=CN orcs x.1) hap h1 ρx;rw[h2,hdst] at hx hr';obtain ⟨ρm,h3,h4⟩:=Qhy (tt:=tt) (l:=ops.toList) hmy hd e2;refine ⟨ρx,e1.symm.trans hx,hx',ρm,h3,λe=>(by rw[hmy] at e;cases e), ?_⟩;rw[h4,hdst];exact JK e3 hr'
   | none=>
     rw[hmy] at hap;cases hmx:Qe0 orcs x.1 x.2.1 with
     | some m=>
       rw[hmx] at hap;obtain ⟨hd,x1,h1,h2,_⟩:=Qb3 hmx hx;have hdst:=(T6 hmx).2.2.1;have hf:AX ops.toList m y.2.1=true:=hap
       have hne:y.2.1.dst≠some m.1:=λe=>by
        simp only[AX,zJ] at hf;exact T5 hf.1.2 _ e rfl
       rw[M0,if_neg hne] at h1;obtain ⟨x0,V,hM⟩:=zL.1 h1;obtain ⟨e1,e2,e3⟩:=Qb6 (tt:=tt) (N:=N) (orc:=CN orcs y.1) hf V ρy;obtain ⟨ρm,h3,h4⟩:=Qhy (tt:=tt) (l:=ops.toList) hmx hd V;refine ⟨ρm,h3,λe=>(by rw[hmx] at e;cases e),ρy, ?_,λ_=>hy' hmy, ?_⟩
       . rw[h4,hdst];exact e1.trans hy
       rw[h4,hdst];rw[h2,hdst,←hM] at hr';exact JK (OX e3) hr'
     | none=>
       rw[hmx] at hap;obtain rfl:=hy' hmy;obtain rfl:=hx' hmx;obtain ⟨h1,h2,h3⟩:=Qjf hap hy hx;exact ⟨_,h1,λ_=>rfl,_,h2,λ_=>rfl,JK h3 hr'⟩
theorem VD:∀{l:List Oper} {i:Nat} {s s':St} {R:List G6},FG tt N orcs ops.toList l i s=some (s',R)->Qjg tt N orcs ops.toList R s s'/\R.map (·.1)=List.range' i l.length/\R.map (·.2.1)=l
 | [],i,s,s',R,h=>by
   obtain ⟨rfl,rfl⟩:s=s'/\ []=R:=by simpa [FG] using h
   exact ⟨Qfw s,rfl,rfl⟩
 | o :: r,i,s,s',R,h=>by
   simp only[FG] at h;split at h
   . rename_i ρ hρ;split at h
     . rename_i s'' l' hr;obtain ⟨rfl,rfl⟩:s''=s'/\(i,o,ρ)::l'=R:=by simpa using h
       obtain ⟨h1,h2,h3⟩:=VD hr;exact ⟨⟨ρ,hρ,λ_=>rfl,h1⟩,by simp[h2,List.range'_succ],by simp[h3]⟩
     cases h
   cases h
inductive Anc (ops:Array Oper):Nat->Nat->Prop
 | one {x q:Nat} {o:Oper}:ops[q]? =some o->x∈Ed o->Anc ops x q
 | more {x e q:Nat} {o:Oper}:ops[q]? =some o->e∈Ed o->Anc ops x e->Anc ops x q
theorem VE {x:Nat}:∀{l:List Nat},x∈SE l->x∈l
 | [],h=>h
 | y ::r,h=>by
   simp only[SE] at h;cases hm:Pv y r with
   | true=>rw[hm] at h;exact zN _ (VE h)
   | false=>
     rw[hm] at h;rcases zM.1 h with rfl | h
     . exact yB
     exact zN _ (VE h)
theorem Qb7:∀{l:List Oper} {acc:List (List Nat)},ops.toList.drop acc.length=l->(∀q x,x∈Qez acc q->Anc ops x q)->∀q x,x∈Qez (OW l acc) q->Anc ops x q
 | [],_,_,h,q,x,hx=>h q x hx
 | o ::r,acc,hl,h,q,x,hx=>by
   refine Qb7 (l:=r) (acc:=acc++ [SE (Ed o++(Ed o).flatMap λe=>Qez acc e)]) ?_ ?_ q x hx
   . rw[yQ,List.length_singleton,←xC,hl];rfl
   intro q x hx
   have ho:ops[acc.length]? =some o:=by
    have:=congrArg (·[0]?) hl;simpa using this
   unfold Qez at hx;rcases Nat.lt_trichotomy q acc.length with hlt | he | hgt
   . rw[zU hlt] at hx;exact h q x hx
   . subst he;rw[zS (zX _),Nat.sub_self] at hx;simp only[List.getElem?_cons_zero] at hx;rcases yA.1 (VE hx) with hx | hx
     . exact .one ho hx
     obtain ⟨e,he,hx⟩:=xI.1 hx;exact .more ho he (h e x hx)
   rw[xN (by simp;omega)] at hx;simp at hx
theorem SF {listed:Array Bool} (hc:∀(j:Nat) (o:Oper),ops[j]? =some o->listed.getD j false=true->∀e,e∈Ed o->listed.getD e false=true) {x q:Nat} (h:Anc ops x q):(∀o,ops[q]? =some o->∀e,e∈Ed o->listed.getD e false=true)->listed.getD x false=true:=by
 induction h with
 | one ho hx=>intro hq;exact hq _ ho _ hx
 | more ho he _ ih=>intro hq;exact ih λo' ho' e' he'=>hc _ o' ho' (hq _ ho _ he) e' he'
theorem FH {o:Oper} {e:Nat}:e∈Ed o↔∃x,x∈o.after/\Region.binds .any x=true/\x.on=e:=by
 unfold Ed;simp only[xB,List.mem_filter,Array.mem_toList_iff];exact ⟨λ⟨x,⟨h1,h2⟩,h3⟩=>⟨x,h1,h2,h3⟩,λ⟨x,h1,h2,h3⟩=>⟨x,⟨h1,h2⟩,h3⟩⟩
theorem OY {i:Nat}:∀{l:List Nat},Qfu i l=true->∀x,x∈l->x<i
 | [],_,x,hx=>by simp at hx
 | y::r,h,x,hx=>by
   simp only[Qfu,zJ,Nat.blt_eq] at h;rcases zM.1 hx with rfl | hx
   . exact h.1
   exact OY h.2 x hx
theorem BA:∀{l:List Oper} {i:Nat},VB l i=true->∀(j:Nat) (o:Oper),l[j]? =some o->∀e,e∈Ed o->e<i+j
 | [],_,_,j,o,h,_,_=>by simp at h
 | x::r,i,h,j,o,hj,e,he=>by
   simp only[VB,zJ] at h;cases j with
   | zero=>simp at hj;subst hj;exact OY h.1 e he
   | succ j=>have:=BA h.2 j o (by simpa using hj) e he;omega
theorem OZ {anc:List (List Nat)} {x y:G6}:∀{l:List G6},Mk orcs ops.toList anc x l=true->y∈l->Pv x.1 (Qez anc y.1)=true\/AY orcs ops.toList x y=true
 | z::r,h,hy=>by
   simp only[Mk,zJ,Bool.or_eq_true] at h;rcases zM.1 hy with rfl | hy
   . exact h.1
   exact OZ h.2 hy
theorem FI {anc:List (List Nat)} {x:G6} {post:List G6}:∀{pre:List G6},M1 orcs ops.toList anc (pre++x::post)=true->∀y,y∈pre->Pv y.1 (Qez anc x.1)=true\/AY orcs ops.toList y x=true
 | [],_,y,hy=>by simp at hy
 | z::pre,h,y,hy=>by
   rw[xJ] at h;simp only[M1,zJ] at h;rcases zM.1 hy with rfl | hy
   . exact OZ h.1 (by simp)
   exact FI h.2 y hy
theorem T7 {anc:List (List Nat)} {z x:G6} {post:List G6}:∀{pre:List G6},Mk orcs ops.toList anc z (pre++x::post)=true->Mk orcs ops.toList anc z (pre++post)=true
 | [],h=>by simp only[xM,Mk,zJ] at h;exact h.2
 | y::pre,h=>by
   simp only[xJ,Mk,zJ] at h⊢;exact ⟨h.1,T7 h.2⟩
theorem BB {anc:List (List Nat)} {x:G6} {post:List G6}:∀{pre:List G6},M1 orcs ops.toList anc (pre++x::post)=true->M1 orcs ops.toList anc (pre++post)=true
 | [],h=>by simp only[xM,M1,zJ] at h;exact h.2
 | y::pre,h=>by
   simp only[xJ,M1,zJ] at h⊢;exact ⟨T7 h.1,BB h.2⟩
theorem Qjh {l:List G6} (h:AllOb (Zz P w0) (Ul P w0) (Qfv l)):∀x,x∈l->AllOb (Zz P w0) (Ul P w0) x.2.2.obs:=by
 induction l with
 | nil=>intro x hx;simp at hx
 | cons y r ih=>
   intro x hx;obtain ⟨h1,h2⟩:=AllOb.append h;rcases zM.1 hx with rfl | hx
   . exact h1
   exact ih h2 x hx
theorem Qji (htt:Gs P tt=true) {Q:Exit->Act->World->Prop} {sf:St} {anc:List (List Nat)} (hanc:∀q x,x∈Qez anc q->Anc ops x q) (hlt:∀(j:Nat) (o:Oper),ops[j]? =some o->∀e,e∈Ed o->e<j) (hQ:∀J a w,Rel N w0 F0 J a w sf->Q .normal a w):
 ∀ (n:Nat) (R:List G6) (listed:Array Bool) (s:St) (J:Inj) (a:Act) (w:World),R.length=n->listed.size=ops.size->(R.map (·.1)).Pairwise (· < ·)->(∀x,x∈R->ops[x.1]? =some x.2.1)->(∀j,j<ops.size->(listed.getD j true=false↔j∈R.map (·.1)))->
   (∀(j:Nat) (o:Oper),ops[j]? =some o->listed.getD j false=true->∀e,e∈Ed o->listed.getD e false=true)->M1 orcs ops.toList anc R=true->(∀x,x∈R->AllOb (Zz P w0) (Ul P w0) x.2.2.obs)->Qjg tt N orcs ops.toList R s sf->Rel N w0 F0 J a w s->wpAny P .any ops Q n listed a w:=by
 intro n
 have hget:∀(listed:Array Bool) (j:Nat),j<listed.size->(listed.getD j true=false↔¬listed.getD j false=true):=by
  intro listed j hj;simp[zZ,Array.getElem?_eq_getElem hj]
 have hready:∀(R:List G6) (listed:Array Bool),listed.size=ops.size->(∀j,j<ops.size->(listed.getD j true=false↔j∈R.map (·.1)))->∀i,i∈Region.ready .any ops listed->i∈R.map (·.1)/\∀o,ops[i]? =some o->∀e,e∈Ed o->listed.getD e false=true:=by
  intro R listed hsz hR i hi;obtain ⟨h0,o,ho,hall⟩:=mem_ready.1 hi;have hlt:i<ops.size:=(yF.1 ho).1;refine ⟨(hR i hlt).1 h0,λo' ho' e he=> ?_⟩;rw[ho] at ho';obtain rfl:=zD ho';obtain ⟨x,h1,h2,rfl⟩:=FH.1 he;exact hall x h1 h2
 induction n with
 | zero=>
   intro R listed s J a w hn hsz _ _ hR _ _ _ hr hrel;obtain rfl:R= []:=zO hn;refine ⟨?_,hQ J a w (hrel.eqv hr)⟩;cases hrd:Region.ready .any ops listed with
   | nil=>rfl
   | cons i r=>
     have:=(hready [] listed hsz hR i (by rw[hrd];simp)).1;simp at this
 | succ n ih=>
   intro R listed s J a w hn hsz hsort hops hR hclosed hpairs hobs hr hrel;refine ⟨λhnil=> ?_,λi hi=> ?_⟩
   . exfalso;cases R with
     | nil=>simp at hn
     | cons x r=>
       have hx:=hops x (by simp);have hxl:x.1<ops.size:=(yF.1 hx).1
       have:x.1∈Region.ready .any ops listed:=by
        refine mem_ready.2 ⟨(hR x.1 hxl).2 (by simp),x.2.1,hx,λe he hb=> ?_⟩;have hel:=hlt x.1 x.2.1 hx e.on (FH.2 ⟨e,he,hb,rfl⟩);refine yO λhne=> ?_
        have:=(hR e.on (by omega)).1 ((hget listed e.on (by omega)).2 hne);simp only[yE,zM] at this;rcases this with h | h
        . omega
        have:x.1<e.on:=(xE.1 hsort).1 e.on h;omega
       rw[hnil] at this;simp at this
   obtain ⟨hiR,hedges⟩:=hready R listed hsz hR i hi;obtain ⟨x,hx,rfl⟩:=xB.1 hiR;obtain ⟨pre,post,rfl⟩:=List.append_of_mem hx
   have hap:∀y,y∈pre->AY orcs ops.toList y x=true:=λy hy=>by
    rcases FI hpairs y hy with h | h
    . exfalso;have hl:=SF hclosed (hanc _ _ (Cv.1 h)) hedges;have hyo:=hops y (by simp[hy]);have hyl:y.1<ops.size:=(yF.1 hyo).1;exact (hget listed y.1 (by omega)).1 ((hR y.1 hyl).2 (by simp only[yP,yA];exact .inl (xB.2 ⟨y,hy,rfl⟩))) hl
    exact h
   obtain ⟨ρ,hrec,hρ,hrest⟩:=AZ hap hr
   have hobx:AllOb (Zz P w0) (Ul P w0) ρ.obs:=by
    cases hmv:Qe0 orcs x.1 x.2.1 with
    | none=>rw[hρ hmv];exact hobs x (by simp)
    | some m=>obtain ⟨_,_,_,_,e⟩:=Qb3 hmv hrec;rw[e];trivial
   have hxo:=hops x (by simp);have hxl:x.1<ops.size:=(yF.1 hxo).1
   have hdup:x.1∉(pre++post).map (·.1):=λhm=>by
    simp only[yP,yE,xR,xE] at hsort;simp only[yP,yA] at hm;rcases hm with hm | hm
    . have:=hsort.2.2 _ hm x.1 (by simp);omega
    have:=hsort.2.1.1 _ hm;omega
   refine Qbh (P:=P) htt hxo hrec hobx hrel λJ' a' w' hrel'=>ih (pre++post) _ _ J' a' w' (by simp at hn⊢;omega) (by simpa using hsz) ?_ ?_ ?_ ?_ (BB hpairs) ?_ hrest hrel'
   . simp only[yP,yE,xR,xE] at hsort⊢;exact ⟨hsort.1,hsort.2.1.2,λa ha b hb=>hsort.2.2 a ha b (by simp[hb])⟩
   . intro y hy;exact hops y (by simp only[yA,zM] at hy⊢;exact hy.elim .inl λh=> .inr (.inr h))
   . intro j hj;by_cases hji:x.1=j
     . subst hji;constructor
       . intro h;simp[hsz,hj] at h
       intro h;exact absurd h hdup
     rw[getD_set_ne true hji,hR j hj];simp only[yP,yE,yA,zM];exact ⟨λh=>h.elim .inl λh=>h.elim (λe=>absurd e.symm hji) .inr,λh=>h.elim .inl λh=> .inr (.inr h)⟩
   . intro j o ho hl e he;by_cases hji:x.1=j
     . subst hji;exact getD_set_true (hedges o ho e he)
     rw[getD_set_ne false hji] at hl;exact getD_set_true (hclosed j o ho hl e he)
   intro y hy;exact hobs y (by simp only[yA,zM] at hy⊢;exact hy.elim .inl λh=> .inr (.inr h))
theorem JL (htt:Gs P tt=true) (hm:P.follows .mixedOrders=true) {Q:Exit->St->Prop} {s s':St} (orcs:List (Nat×Orc)) (ts bs:List Nat) {id:Nat} {ops:Array Oper} {obs:List Ob} (h:Fd tt N orcs ops.toList ts bs s=some (s',obs))
 (hob:AllOb (Zz P w0) (Ul P w0) obs) (hQ:Q .normal s'):AWP P N w0 F0 (.region id ops true) Q s:=λJ a w hr=>by
 unfold Fd at h;cases he:VB ops.toList 0 with
 | false=>rw[he] at h;cases h
 | true =>
   rw[he] at h;simp only[cond_true] at h;split at h
   . rename_i s1 R h1;cases hp:M1 orcs ops.toList (OW ops.toList []) R with
     | false=>rw[hp] at h;cases h
     | true=>
       rw[hp] at h;obtain ⟨rfl,rfl⟩:s1.keep ts bs=s'/\Qfv R=obs:=by simpa using h
       obtain ⟨hruns,hidx,hop⟩:=VD h1;have hlen:R.length=ops.size:=by have:=congrArg List.length hop;simpa using this
       refine wp_region_any hm (Qji (P:=P) htt (Qb7 (acc:= []) (l:=ops.toList) rfl (λq x hx=>by simp[Qez] at hx)) (λj o ho e hx=>by have:=BA he j o (by simpa using ho) e hx;omega)
        (λJ' a' w' hR=>⟨J',_,hR.less (λt v hv=>Dz hv) (λk c hc=>Dz hc),hQ⟩) ops.size R _ s J a _ hlen (by simp) ?_ ?_ ?_ ?_ hp (Qjh hob) hruns ?_)
       . rw[hidx];exact List.pairwise_lt_range'
       . intro x hx;obtain ⟨k,hk,rfl⟩:=xS hx
         have e1:R[k].1=k:=by
          have:=congrArg (·[k]?) hidx;simp only[List.getElem?_map,zH hk,zK] at this;rw[List.getElem?_range' (by simpa [←hlen] using hk)] at this;simpa using this
         have e2:=congrArg (·[k]?) hop;simp only[List.getElem?_map,zH hk,zK] at e2;rw[e1];simpa using e2.symm
       . intro j hj;rw[hidx];simp[hj,List.mem_range'_1]
       . intro j o _ hl;simp only[zZ,Array.getElem?_replicate] at hl;split at hl<;>simp at hl
       refine {hr with below:= ?_,fl:=hr.fl,bo:= ?_,tm:= ?_}
       . exact hr.below.trans ⟨rfl,rfl,rfl,zX _,λ_ _=>rfl⟩
       . intro k c hk;obtain ⟨h1,h2,h3,arr,e,h4,h5⟩:=hr.bo k c hk;exact ⟨h1,h2,h3,arr,e,h4,h5.imp λv c _ hc=>hc.keep ⟨λb hb=>⟨hb,rfl⟩,λk _=>⟨rfl,λ_ _=>rfl⟩,λ_ _=>rfl⟩⟩
       intro t v hv;exact (hr.tm t v hv).keep λc _=>⟨λb hb=>⟨hb,rfl⟩,λk _=>⟨rfl,λ_ _=>rfl⟩,λ_ _=>rfl⟩
   cases h
end
open GoE (enc wide)
def nth {α:Type} [Inhabited α] (l:List α) (i:Nat):α:=l.getD i default
theorem Hb {α:Type} [Inhabited α] {l:List α} {i:Nat} (h:i<l.length):l[i]? =some (nth l i):=by
 simp[nth,List.getD,zH h]
theorem O9 {α:Type} [Inhabited α] {l:List α} {i:Nat} {a:α} (h:l[i]? =some a):nth l i=a:=by simp[nth,List.getD,h]
def dn (s:Int):Nat->Int
 | 0=>s
 | k+1=>dn s k-1
theorem LW (s:Int):∀k,dn s k=s-(k:Int)
 | 0=>by simp[dn]
 | k+1=>by rw[dn,LW s k];omega
section
variable {α:Type} [GoE α]
theorem FJ {J:Inj} {w:World} {v:Value} {tok:Tok} {l:List α} (h:CR J w v (.slc tok (GoD.n α) (eL l))):wide l:=by
 cases tok with
 | sh=>exact P0 h
 | emp=>
   obtain ⟨h,_⟩:=h;cases l with
   | nil=>exact ⟨yL _,by simp⟩
   | cons a l=>simp[eL] at h
 | vw k=>exact P0 h
 | put=>exact h.elim
 | own d k=>
   cases d with
   | true=>exact P0 (OwnDeep.vv (X:=λ_=>True) h λ_ _=>⟨trivial,rfl⟩)
   | false=>exact P0 (OwnTop.vv (X:=λ_=>True) h (λ_ _=>⟨trivial,rfl⟩) λ_ _=>⟨trivial,rfl⟩)
theorem CW {l:List α} {i:Nat} {a:α} (h:l[i]? =some a) (hw:wide l):wide a:=hw.2 a (yK h)
theorem Iz {l:List α} (hw:wide l):l.length<=1073741824:=hw.1
theorem CX {β:Type} [GoE β] {p:α×β} (hw:wide p):wide p.2:=hw.2
theorem FK {l:List α} (k:Nat) (hw:wide l):wide (List.take k l):=⟨yC (by simp[Nat.min_le_right]) hw.1,λa h=>hw.2 a (xO h)⟩
theorem FL {l:List α} (k:Nat) (hw:wide l):wide (List.drop k l):=⟨yC (by simp) hw.1,λa h=>hw.2 a (List.mem_of_mem_drop h)⟩
end
section
variable {P:Program} {N:Nat} {w0:Base} {F0:Nat->Prop} {Q:Exit->St->Prop} {s s':St} {c:Code} {α:Type} [GoE α]
end
abbrev PV.i (n:Int):PV:= .int .i64 n
abbrev PV.b (b:Bool):PV:= .bool b
abbrev PV.s (x:ByteArray):PV:= .str x
abbrev PV.h {α:Type} [GoE α] (l:List α):PV:= .slc (GoD.n α) (eL l)
abbrev C.i (n:Int):C:= .int .i64 n
abbrev C.b (b:Bool):C:= .bool b
abbrev C.s (x:ByteArray):C:= .str x
abbrev C.e (n:Nat):C:= .slc .emp n []
abbrev C.h {α:Type} [GoE α] (l:List α):C:= .slc .sh (GoD.n α) (eL l)
abbrev C.o {α:Type} [GoE α] (k:Nat) (l:List α):C:= .slc (.own true k) (GoD.n α) (eL l)
abbrev C.q {α:Type} [GoE α] (k:Nat) (l:List α):C:= .slc (.own false k) (GoD.n α) (eL l)
abbrev C.v {α:Type} [GoE α] (k:Nat) (l:List α):C:= .slc (.vw k) (GoD.n α) (eL l)
abbrev AV.i (n:Int):AV:= .one (.int .i64 n)
abbrev AV.b (b:Bool):AV:= .one (.bool b)
abbrev AV.s (x:ByteArray):AV:= .one (.str x)
abbrev AV.e (n:Nat):AV:= .one (.slc .emp n [])
abbrev AV.h {α:Type} [GoE α] (l:List α):AV:= .one (.slc .sh (GoD.n α) (eL l))
abbrev AV.o {α:Type} [GoE α] (k:Nat) (l:List α):AV:= .one (.slc (.own true k) (GoD.n α) (eL l))
abbrev AV.q {α:Type} [GoE α] (k:Nat) (l:List α):AV:= .one (.slc (.own false k) (GoD.n α) (eL l))
abbrev AV.v {α:Type} [GoE α] (k:Nat) (l:List α):AV:= .one (.slc (.vw k) (GoD.n α) (eL l))
abbrev AV.p (k o:Nat):AV:= .one (.ptr k o)
abbrev AV.a (cs:List C):AV:= .agg cs
section
variable {A:Nat->List AV->AV->Prop} {T:TakeT}
theorem o0:AllOb A T []:=trivial
theorem o1 {x:Ob} (h:x.holds A T):AllOb A T [x]:=h
theorem o2 {x y:Ob} {r:List Ob} (h:x.holds A T) (h':AllOb A T (y::r)):AllOb A T (x::y::r):=⟨h,h'⟩
end
section
variable {α:Type} [GoE α]
theorem Qk4 (l:List α):AV.one (.int .i64 ((eL l).length:Int))=AV.one (.int .i64 (l.length:Int)):=by rw[Zs]
theorem Qm {a b:Bool} (h:a=b):AV.one (.bool a)=AV.one (.bool b):=h▸rfl
theorem zB (p:Prop) [Decidable p] (h:p:=by omega):AV.one (.bool (decide p))=AV.one (.bool true):=Qm (decide_eq_true h)
theorem zC (p:Prop) [Decidable p] (h:¬p:=by omega):AV.one (.bool (decide p))=AV.one (.bool false):=Qm (decide_eq_false h)
theorem Qb8 (t:Tok) (n k:Nat) (lo:Int) (l:List α) (hk:lo.toNat=k):AV.one (.slc t n (((eL l).take (zG ((eL l).length:Int))).drop (zG lo)))=AV.one (.slc t n (eL (List.drop k l))):=by
 subst hk;rw[Int.toNat_natCast,List.take_length,Qi8]
theorem LX (t:Tok) (n k:Nat) (hi:Int) (l:List α) (hk:hi.toNat=k):AV.one (.slc t n (((eL l).take (zG hi)).drop (zG 0)))=AV.one (.slc t n (eL (List.take k l))):=by
 subst hk;rw[Qi7];rfl
theorem SG {l:List α} {i:Int} {k:Nat} {a:α} (h0:0<=i) (hk:i.toNat=k) (h:l[k]? =some a):0<=i/\(eL l)[i.toNat]? =some (enc a):=⟨h0,by rw[hk];exact Qbo h⟩
theorem Iu {a b m n:Nat} (ha:a=m) (hb:b=n) (h:m+n<=1073741824):a+b<=1073741824:=by omega
theorem Qhz {l:List α} {lo hi:Int} (h0:0<=lo) (h1:lo<=hi) (h2:hi<=(l.length:Int)):0<=lo/\lo<=hi/\hi<=((eL l).length:Int):=by rw[Zs];exact ⟨h0,h1,h2⟩
theorem Qb9 {l:List α} {lo:Int} (h0:0<=lo) (h2:lo<=(l.length:Int)):0<=lo/\lo<=((eL l).length:Int)/\((eL l).length:Int)<=((eL l).length:Int):=by rw[Zs];exact ⟨h0,h2,Int.le_refl _⟩
end
theorem We {α:Type} [GoE α] {A B:List (List PV)} {a b:List α} (ha:A=eL a) (hb:B=eL b):A++B=eL (a++b):=by rw[ha,hb,Qbn]
theorem Qfy {α:Type} [GoE α] (n:Nat) (a:α):xF n (enc a)=eL (xF n a):=by simp[eL]
theorem Z7 {α:Type} [BEq α] [LawfulBEq α] {a b:α} (h:(a==b)=false):a≠b:=by simpa using h
theorem T8 {α:Type} [BEq α] [LawfulBEq α] {a b:α} (h:(a !=b)=true):a≠b:=by simpa using h
theorem U8 {α:Type} [BEq α] [LawfulBEq α] {a b:α} (h:(a !=b)=false):a=b:=by simpa using h
theorem Xm {α:Sort _} {c:Bool} {a b r:α} (h:c=true) (e:a=r):(bif c then a else b)=r:=by subst h;exact e
theorem Qn {α:Sort _} {c:Bool} {a b r:α} (h:c=false) (e:b=r):(bif c then a else b)=r:=by subst h;exact e
def lt {α R:Type} (t:α) (f:α->R):R:=f t
inductive Rd (R S T:Type) where
 | next (s:S)
 | brk (t:T)
 | ret (r:R)
inductive Out (R T:Type) where
 | brk (t:T)
 | ret (r:R)
def Out.on {R T:Type} (o:Out R T) (f:T->R):R:=match o with
 | .brk t=>f t
 | .ret r=>r
theorem Uc {R T:Type} {o:Out R T} {f:T->R} {t:T} {r:R} (h:o= .brk t) (e:f t=r):o.on f=r:=by subst h;exact e
theorem Nk {R T:Type} {o:Out R T} {f:T->R} {r:R} (h:o= .ret r):o.on f=r:=by subst h;rfl
def X7 {α R S T:Type} (f:Nat->α->S->Rd R S T) (e:Nat->S->T):List α->Nat->S->Out R T
 | [],k,s=> .brk (e k s)
 | a::l,k,s=>match f k a s with
   | .next s'=>X7 f e l (k+1) s'
   | .brk t=> .brk t
   | .ret r=> .ret r
def U1 {R S T:Type} (f:Nat->S->Rd R S T) (e:Nat->S->T):Nat->Nat->S->Out R T
 | 0,k,s=> .brk (e k s)
 | n+1,k,s=>match f k s with
   | .next s'=>U1 f e n (k+1) s'
   | .brk t=> .brk t
   | .ret r=> .ret r
section
variable {α R S T:Type} {f:Nat->α->S->Rd R S T} {e:Nat->S->T} {l:List α} {k:Nat} {s:S} {a:α} {o:Out R T}
theorem VF (h:l[k]? =some a):l.drop k=a::l.drop (k+1):=by
 obtain ⟨hlt,rfl⟩:=zF.1 h;exact List.drop_eq_getElem_cons hlt
theorem Qp {s':S} (hx:l[k]? =some a) (h:f k a s= .next s') (hI:o=X7 f e (l.drop k) k s):o=X7 f e (l.drop (k+1)) (k+1) s':=by
 rw[hI,VF hx];simp only[X7,h]
theorem Qfz {t:T} (hx:l[k]? =some a) (h:f k a s= .brk t) (hI:o=X7 f e (l.drop k) k s):o= .brk t:=by
 rw[hI,VF hx];simp only[X7,h]
theorem Jr {r:R} (hx:l[k]? =some a) (h:f k a s= .ret r) (hI:o=X7 f e (l.drop k) k s):o= .ret r:=by
 rw[hI,VF hx];simp only[X7,h]
theorem Xt {t:T} (hk:k=l.length) (h:e k s=t) (hI:o=X7 f e (l.drop k) k s):o= .brk t:=by
 rw[hI,hk,List.drop_length,←hk];simp only[X7,h]
end
section
variable {R S T:Type} {f:Nat->S->Rd R S T} {e:Nat->S->T} {n k:Nat} {s:S} {o:Out R T}
theorem Wf {s':S} (hk:k<n) (h:f k s= .next s') (hI:o=U1 f e (n-k) k s):o=U1 f e (n-(k+1)) (k+1) s':=by
 rw[hI,show n-k=n-(k+1)+1 by omega];simp only[U1,h]
theorem JM {r:R} (hk:k<n) (h:f k s= .ret r) (hI:o=U1 f e (n-k) k s):o= .ret r:=by
 rw[hI,show n-k=n-(k+1)+1 by omega];simp only[U1,h]
theorem Cx {t:T} (hk:k=n) (h:e k s=t) (hI:o=U1 f e (n-k) k s):o= .brk t:=by
 rw[hI,hk,Nat.sub_self,←hk];simp only[U1,h]
end
def whl {R S T:Type} (f:S->Rd R S T):Nat->S->Option (Out R T)
 | 0,_=>none
 | n+1,s=>match f s with
   | .next s'=>whl f n s'
   | .brk t=>some (.brk t)
   | .ret r=>some (.ret r)
section
variable {R S T:Type} {f:S->Rd R S T} {n:Nat} {s:S} {o:Out R T}
theorem Qf0 {s':S} (h:f s= .next s') (hI:whl f (n+1) s=some o):whl f n s'=some o:=by simpa only[whl,h] using hI
theorem Qjj {t:T} (h:f s= .brk t) (hI:whl f (n+1) s=some o):o= .brk t:=by simp only[whl,h] at hI;exact (zD hI).symm
theorem Qjk {r:R} (h:f s= .ret r) (hI:whl f (n+1) s=some o):o= .ret r:=by simp only[whl,h] at hI;exact (zD hI).symm
end
instance {R T:Type} [Inhabited T]:Inhabited (Out R T):=⟨.brk default⟩
def N1 {R S T:Type} [Inhabited T] (f:S->Rd R S T) (n:Nat) (s:S):Out R T:=(whl f n s).getD default
theorem Oc {R S T:Type} [Inhabited T] {f:S->Rd R S T} {n:Nat} {s:S} (h:(whl f n s).isSome=true):whl f n s=some (N1 f n s):=by
 unfold N1;cases hw:whl f n s with
 | none=>rw[hw] at h;cases h
 | some o=>rfl
theorem Rv {R S T:Type} {f:S->Rd R S T} {s:S} {o:Out R T}:¬whl f 0 s=some o:=by simp[whl]
def QL (id:Nat) (A B:St->Prop) (Q:Exit->St->Prop):Exit->St->Prop
 | .normal,s=>A s
 | .exit i,s=>bif zQ i id then B s else Q (.exit i) s
 | e,s=>Q e s
section
variable {P:Program} {N:Nat} {w0:Base} {F0:Nat->Prop} {Q:Exit->St->Prop} {s s':St} {c:Code} {σ τ:Type} {id:Nat}
theorem Af (mk:Nat->σ->St) (after:τ->St) (I:Nat->σ->Prop) (D:τ->Prop) (len:Nat) (x0:σ) (h0:Weak s (mk 0 x0)) (i0:I 0 x0)
 (hr:∀k x,k<len->I k x->AWP P N w0 F0 c (QL id (λs'=>∃x',Weak s' (mk (k+1) x')/\I (k+1) x') (λs'=>∃y,Weak s' (after y)/\D y) Q) (mk k x))
 (he:∀k x,k=len->I k x->AWP P N w0 F0 c (QL id (λ_=>False) (λs'=>∃y,Weak s' (after y)/\D y) Q) (mk k x))
 (ha:∀y,D y->Q .normal (after y)):AWP P N w0 F0 (.block id (.loop c)) Q s:=by
 refine Qt (Mi h0 (Qfl (λn s=>∃k x,k<=len/\n=len-k/\s=mk k x/\I k x) (n:=len) ⟨0,x0,yL _,by omega,rfl,i0⟩ ?_))
 rintro n _ ⟨k,x,hk,rfl,rfl,hi⟩
 have hex:∀(A:St->Prop) (i:Nat) (s':St),QL id A (λs'=>∃y,Weak s' (after y)/\D y) Q (.exit i) s'->∀(J:Inj) (a:Act) (w:World),Rel N w0 F0 J a w s'->∃J s,Rel N w0 F0 J a w s/\Exit.inBlockS id Q (.exit i) s:=by
  intro A i s' hq J a w hR;simp only[QL] at hq;cases hb:zQ i id with
  | true=>
    rw[hb] at hq;obtain ⟨y,hw,hd⟩:=hq;obtain ⟨J',hR'⟩:=hw N w0 F0 J a w hR;exact ⟨J',_,hR',by simp only[Exit.inBlockS,hb,cond_true];exact ha y hd⟩
  | false=>
    rw[hb] at hq;exact ⟨J,s',hR,by simp only[Exit.inBlockS,hb,cond_false];exact hq⟩
 intro J a w hrel;by_cases h:k<len
 . refine wp_mono (hr k x h hi J a w hrel) ?_
   rintro e a' w' ⟨J',s',hR,hq⟩
   cases e with
   | normal=>
     obtain ⟨x',hw,hi'⟩:=hq;exact ⟨J',s',hR,len-(k+1),_,by omega,hw,k+1,x',by omega,rfl,rfl,hi'⟩
   | exit i=>exact hex _ i s' hq J' a' w' hR
   | _=>exact ⟨J',s',hR,hq⟩
 obtain rfl:k=len:=by omega
 refine wp_mono (he _ x rfl hi J a w hrel) ?_
 rintro e a' w' ⟨J',s',hR,hq⟩
 cases e with
 | normal=>exact hq.elim
 | exit i=>exact hex _ i s' hq J' a' w' hR
 | _=>exact ⟨J',s',hR,hq⟩
theorem SH (mk:σ->St) (after:τ->St) (I:Nat->σ->Prop) (D:τ->Prop) (n:Nat) (x0:σ) (h0:Weak s (mk x0)) (i0:I n x0) (hz:∀x,¬I 0 x)
 (hr:∀n x,I (n+1) x->AWP P N w0 F0 c (QL id (λs'=>∃x',Weak s' (mk x')/\I n x') (λs'=>∃y,Weak s' (after y)/\D y) Q) (mk x))
 (ha:∀y,D y->Q .normal (after y)):AWP P N w0 F0 (.block id (.loop c)) Q s:=by
 refine Af (λ_=>mk) after (λk x=>∃m,m+k=n/\I m x) D n x0 h0 ⟨n,rfl,i0⟩ (λk x hk ⟨m,hm,hi⟩=> ?_) (λk x hk ⟨m,hm,hi⟩=> ?_) ha
 . obtain ⟨m,rfl⟩:∃j,m=j+1:=⟨m-1,by omega⟩;refine Qfk (hr m x hi) λe s' hq=> ?_
   cases e with
   | normal=>obtain ⟨x',hw,hi'⟩:=hq;exact ⟨x',hw,m,by omega,hi'⟩
   | _=>exact hq
 obtain rfl:m=0:=by omega
 exact (hz x hi).elim
def QJ (s3:St) (e:Exit) (s':St):Prop:=e= .normal/\Weak s' s3
theorem Qf1 (s3:St) (b:Bool) (h1:b=true->AWP P N w0 F0 c (QJ s3) s) (h0:b=false->AWP P N w0 F0 c (QJ s3) s) (hQ:Q .normal s3):AWP P N w0 F0 c Q s:=by
 have key:AWP P N w0 F0 c (QJ s3) s:=by cases hb:b with
  | true=>exact h1 hb
  | false=>exact h0 hb
 intro J a w hr;refine wp_mono (key J a w hr) ?_
 rintro e a' w' ⟨J',s',hR,rfl,hw⟩
 obtain ⟨J2,hR2⟩:=hw N w0 F0 J' a' w' hR;exact ⟨J2,s3,hR2,hQ⟩
theorem Yj (b:Bool) (h1:b=true->AWP P N w0 F0 c Q s) (h0:b=false->AWP P N w0 F0 c Q s):AWP P N w0 F0 c Q s:=by cases hb:b with
 | true=>exact h1 hb
 | false=>exact h0 hb
theorem Qca {t:Nat} {x y:Code} (hc:get s.tm t=some (.one (.bool true))) (h1:AWP P N w0 F0 x Q s):AWP P N w0 F0 (.cond (.tmp t) x y) Q s:=T0 hc (λ_=>h1) (λh=>by cases h)
theorem T9 {t:Nat} {x y:Code} (hc:get s.tm t=some (.one (.bool false))) (h1:AWP P N w0 F0 y Q s):AWP P N w0 F0 (.cond (.tmp t) x y) Q s:=T0 hc (λh=>by cases h) (λ_=>h1)
theorem SI {t:Nat} {x y:Code} {b:Bool} (hc:get s.tm t=some (.one (.bool b))) (hb:b=true) (h1:AWP P N w0 F0 x Q s):AWP P N w0 F0 (.cond (.tmp t) x y) Q s:=T0 hc (λ_=>h1) (λh=>absurd (hb.symm.trans h) (by decide))
theorem SJ {t:Nat} {x y:Code} {b:Bool} (hc:get s.tm t=some (.one (.bool b))) (hb:b=false) (h1:AWP P N w0 F0 y Q s):AWP P N w0 F0 (.cond (.tmp t) x y) Q s:=T0 hc (λh=>absurd (hb.symm.trans h) (by decide)) (λ_=>h1)
end
theorem UV {a b:Bool} (h:(a&&b)=true):a=true:=by cases a<;>simp_all
theorem CY {a b:Bool} (h:(a&&b)=true):b=true:=by cases a<;>simp_all
theorem Rw {a b:Bool} (h:(a|| b)=false):a=false:=by cases a<;>simp_all
theorem Pr {a b:Bool} (h:(a|| b)=false):b=false:=by cases a<;>simp_all
theorem Vp {b:Bool} (h:(!b)=true):b=false:=by cases b<;>simp_all
theorem Zc {b:Bool} (h:(!b)=false):b=true:=by cases b<;>simp_all
def Qjl {α:Type} (d:List Nat):List (Nat×α)->List (Nat×α)
 | []=> []
 | p::r=>bif Pv p.1 d then Qjl d r else p::Qjl d r
def Qmh {α:Type} (u:List (Nat×α)) (d:List Nat) (l:List (Nat×α)):List (Nat×α):=u++Qjl d l
def Od {α:Type}:List (Nat×α)->List Nat
 | []=> []
 | p::r=>p.1::Od r
def St.up (s:St) (u:List (Nat×AV)) (d:List Nat) (bu:List (Nat×List C)) (bd:List Nat):St:=⟨Qmh u d s.tm,Qmh bu bd s.bx⟩
def St.fit (s s':St):St:=s.keep (Od s'.tm) (Od s'.bx)
theorem Qd {s s':St} (h:s.fit s'=s'):Weak s s':=KU _ _ h
theorem zA {α:Type} {e:α} {s s':St} (h:s.fit s'=s'):e=e/\Weak s s':=⟨rfl,Qd h⟩
def St.cellT (s:St) (t i:Nat):Option C:=match get s.tm t with
 | some (.one c)=>(match i with | 0=>some c | _=>none)
 | some (.agg cs)=>cs[i]?
 | _=>none
def St.cellB (s:St) (b i:Nat):Option C:=match get s.bx b with
 | some cs=>cs[i]?
 | _=>none
section
variable {P:Program} {N:Nat} {w0:Base} {F0:Nat->Prop} {Q:Exit->St->Prop} {s:St} {c:Code}
theorem ck {t:Nat} {x y:Code} (b:Bool) (h1:b=true->AWP P N w0 F0 x Q s) (h2:b=false->AWP P N w0 F0 y Q s) (hc:get s.tm t=some (.one (.bool b)):=by kernel_rfl):AWP P N w0 F0 (.cond (.tmp t) x y) Q s:=T0 hc h1 h2
theorem ckT {t:Nat} {x y:Code} (h1:AWP P N w0 F0 x Q s) (hc:get s.tm t=some (.one (.bool true)):=by kernel_rfl):AWP P N w0 F0 (.cond (.tmp t) x y) Q s:=Qca hc h1
theorem ckF {t:Nat} {x y:Code} (h1:AWP P N w0 F0 y Q s) (hc:get s.tm t=some (.one (.bool false)):=by kernel_rfl):AWP P N w0 F0 (.cond (.tmp t) x y) Q s:=T9 hc h1
theorem ckt {t:Nat} {x y:Code} {b:Bool} (hb:b=true) (h1:AWP P N w0 F0 x Q s) (hc:get s.tm t=some (.one (.bool b)):=by kernel_rfl):AWP P N w0 F0 (.cond (.tmp t) x y) Q s:=SI hc hb h1
theorem ckf {t:Nat} {x y:Code} {b:Bool} (hb:b=false) (h1:AWP P N w0 F0 y Q s) (hc:get s.tm t=some (.one (.bool b)):=by kernel_rfl):AWP P N w0 F0 (.cond (.tmp t) x y) Q s:=SJ hc hb h1
theorem jn (u:List (Nat×AV)) (d:List Nat) (bu:List (Nat×List C)) (bd:List Nat) (b:Bool) (h1:b=true->AWP P N w0 F0 c (QJ (s.up u d bu bd)) s) (h0:b=false->AWP P N w0 F0 c (QJ (s.up u d bu bd)) s) (hQ:Q .normal (s.up u d bu bd)):AWP P N w0 F0 c Q s:=Qf1 _ b h1 h0 hQ
theorem eqn (u:List (Nat×AV)) (d:List Nat) (bu:List (Nat×List C)) (bd:List Nat) (h:s.fit (s.up u d bu bd)=s.up u d bu bd) (k:AWP P N w0 F0 c Q (s.up u d bu bd)):AWP P N w0 F0 c Q s:=Mi (Qd h) k
theorem Qcb {J:Inj} {a:Act} {w:World} (h:Rel N w0 F0 J a w s) {t i:Nat} {x:C} (hc:s.cellT t i=some x):∃u,CR J w u x:=by
 unfold St.cellT at hc;split at hc
 . rename_i y hg;split at hc
   . obtain rfl:=zD hc;exact ⟨_,h.tm t _ hg⟩
   cases hc
 . rename_i cs hg;obtain ⟨vs,_,ha⟩:=h.tm t _ hg;obtain ⟨u,_,hu⟩:=ha.get' hc;exact ⟨u,hu⟩
 cases hc
theorem Qjm {J:Inj} {a:Act} {w:World} (h:Rel N w0 F0 J a w s) {b i:Nat} {x:C} (hc:s.cellB b i=some x):∃u,CR J w u x:=by
 unfold St.cellB at hc;split at hc
 . rename_i cs hg;obtain ⟨_,_,_,arr,e,_,ha⟩:=h.bo b _ hg;obtain ⟨u,_,hu⟩:=ha.get' hc;exact ⟨u,hu⟩
 cases hc
theorem wdT {α:Type} [GoE α] (t i:Nat) (tok:Tok) (l:List α) (k:wide l->AWP P N w0 F0 c Q s) (h:s.cellT t i=some (.slc tok (GoD.n α) (eL l)):=by kernel_rfl):AWP P N w0 F0 c Q s:=λJ a w hr=>k (by obtain ⟨u,hu⟩:=Qcb hr h;exact FJ hu) J a w hr
theorem wdB {α:Type} [GoE α] (b i:Nat) (tok:Tok) (l:List α) (k:wide l->AWP P N w0 F0 c Q s) (h:s.cellB b i=some (.slc tok (GoD.n α) (eL l)):=by kernel_rfl):AWP P N w0 F0 c Q s:=λJ a w hr=>k (by obtain ⟨u,hu⟩:=Qjm hr h;exact FJ hu) J a w hr
theorem stT (t i:Nat) (x:ByteArray) (k:x.size<=9223372036854775807->AWP P N w0 F0 c Q s) (h:s.cellT t i=some (.str x):=by kernel_rfl):AWP P N w0 F0 c Q s:=λJ a w hr=>k (by obtain ⟨u,hu⟩:=Qcb hr h;exact hu.2) J a w hr
theorem blk {σ τ:Type} {id:Nat} (u:Nat->σ->List (Nat×AV)) (d:List Nat) (bu:Nat->σ->List (Nat×List C)) (bd:List Nat) (ua:τ->List (Nat×AV)) (da:List Nat) (ba:τ->List (Nat×List C)) (bda:List Nat) (I:Nat->σ->Prop) (D:τ->Prop) (len:Nat) (x0:σ)
 (h0:Weak s (s.up (u 0 x0) d (bu 0 x0) bd)) (i0:I 0 x0)
 (hr:∀k x,k<len->I k x->AWP P N w0 F0 c (QL id (λs'=>∃x',Weak s' (s.up (u (k+1) x') d (bu (k+1) x') bd)/\I (k+1) x') (λs'=>∃y,Weak s' (s.up (ua y) da (ba y) bda)/\D y) Q) (s.up (u k x) d (bu k x) bd))
 (he:∀k x,k=len->I k x->AWP P N w0 F0 c (QL id (λ_=>False) (λs'=>∃y,Weak s' (s.up (ua y) da (ba y) bda)/\D y) Q) (s.up (u k x) d (bu k x) bd))
 (ha:∀y,D y->Q .normal (s.up (ua y) da (ba y) bda)):AWP P N w0 F0 (.block id (.loop c)) Q s:=Af _ _ I D len x0 h0 i0 hr he ha
theorem blw {σ τ:Type} {id:Nat} (u:σ->List (Nat×AV)) (d:List Nat) (bu:σ->List (Nat×List C)) (bd:List Nat) (ua:τ->List (Nat×AV)) (da:List Nat) (ba:τ->List (Nat×List C)) (bda:List Nat) (I:Nat->σ->Prop) (D:τ->Prop) (n:Nat) (x0:σ)
 (h0:Weak s (s.up (u x0) d (bu x0) bd)) (i0:I n x0) (hz:∀x,¬I 0 x)
 (hr:∀n x,I (n+1) x->AWP P N w0 F0 c (QL id (λs'=>∃x',Weak s' (s.up (u x') d (bu x') bd)/\I n x') (λs'=>∃y,Weak s' (s.up (ua y) da (ba y) bda)/\D y) Q) (s.up (u x) d (bu x) bd))
 (ha:∀y,D y->Q .normal (s.up (ua y) da (ba y) bda)):AWP P N w0 F0 (.block id (.loop c)) Q s:=SH _ _ I D n x0 h0 i0 hz hr ha
end
theorem J6 {a b:Int} (h:a=b):AV.i a=AV.i b:=h▸rfl
theorem cb {P:Program} {f:Nat} {args:List AV} {a b:Bool} (h:a=b) (c:ACalls P f args (.b a)):ACalls P f args (.b b):=h▸c
theorem Qjn {p:Prop} [Decidable p] (h:¬p):AV.b (decide p)=AV.b false:=by rw[decide_eq_false h]
theorem X4 {s s':St} (sw:List (Nat×Nat)) (h:(s.swaps sw).fit s'=s'):Weak s s':=(AL sw s).trans (Qd h)
theorem Oe {s s':St} (os:List (Bool×Nat×Nat×Bool×Nat×Nat)) (fz ds:List Nat) (sw:List (Nat×Nat)) (h:((((s.opens os).map (Uy (Yi fz) none)).demotes ds).swaps sw).fit s'=s'):Weak s s':=
 (XX os s).trans ((N9 fz rfl).trans ((Pz ds _).trans (X4 sw h)))
theorem opn {P:Program} {N:Nat} {w0:Base} {F0:Nat->Prop} {Q:Exit->St->Prop} {s:St} {c:Code} (l:List (Bool×Nat×Nat×Bool×Nat×Nat)) (h:AWP P N w0 F0 c Q (s.opens l)):AWP P N w0 F0 c Q s:=Qbj l rfl h
open GoE (enc wide)
def PL (A:Nat->List AV->AV->Prop) (T:TakeT) (_:List (Nat×Orc)) (obs:List Ob):Prop:=AllOb A T obs
section
variable {A:Nat->List AV->AV->Prop} {T:TakeT} {orcs:List (Nat×Orc)} {obs:List Ob}
theorem Nl {x:Ob} {r:List Ob} (h:x.holds A T) (k:AllOb A T r):AllOb A T (x::r):=by
 cases r with
 | nil=>exact h
 | cons y r=>exact ⟨h,k⟩
theorem p0:PL A T [] []:=trivial
theorem px {x:Ob} (h:x.holds A T) (k:PL A T orcs obs):PL A T orcs (x::obs):=Nl h k
theorem po (i:Nat) (o:Orc) (k:PL A T orcs obs):PL A T ((i,o)::orcs) obs:=k
theorem pe (i:Nat) {a b:AV} (h:a=b) (k:PL A T orcs obs):PL A T ((i,.val b)::orcs) (.eq a b::obs):=Nl (x:= .eq a b) h k
theorem pr (i:Nat) {l:List (List PV)} {j:Int} {r:List PV} (h:0<=j/\l[j.toNat]? =some r) (k:PL A T orcs obs):PL A T ((i,.row r)::orcs) (.elem l j r::obs):=Nl (x:= .elem l j r) h k
theorem pR (i:Nat) {l:List (List PV)} {j:Int} {r:List PV} (h:0<=j/\l[j.toNat]? =some r) (k:PL A T orcs obs):PL A T ((i,.rowE r)::orcs) (.elem l j r::obs):=Nl (x:= .elem l j r) h k
end
section
variable {P:Program} {w0:Base} {T:TakeT} {orcs:List (Nat×Orc)} {obs:List Ob}
theorem pc [GoodAt P w0] (i:Nat) {f:Nat} {args:List AV} {r:AV} (h:ACalls P f args r) (k:PL (Zz P w0) T orcs obs):PL (Zz P w0) T ((i,.val r)::orcs) (.call f args r::obs):=Nl (Lr h) k
end
section
variable {A:Nat->List AV->AV->Prop} {T:TakeT} {orcs:List (Nat×Orc)} {obs:List Ob}
theorem pl (i:Nat) {α:Type} [GoE α] (l:List α) (k:PL A T orcs obs):PL A T ((i,.val (.i (l.length:Int)))::orcs) (.eq (.one (.int .i64 ((eL l).length:Int))) (.i (l.length:Int))::obs):=pe i (Qk4 l) k
theorem pt (i:Nat) {b:Bool} (h:b=true) (k:PL A T orcs obs):PL A T ((i,.val (.b true))::orcs) (.eq (.one (.bool b)) (.b true)::obs):=pe i (Qm h) k
theorem pf (i:Nat) {b:Bool} (h:b=false) (k:PL A T orcs obs):PL A T ((i,.val (.b false))::orcs) (.eq (.one (.bool b)) (.b false)::obs):=pe i (Qm h) k
theorem pg (i:Nat) {α:Type} [GoE α] {l:List α} (j:Int) {k:Nat} {a:α} (h:l[k]? =some a) (r:PL A T orcs obs) (h0:0<=j:=by omega) (hk:j.toNat=k:=by rfl):PL A T ((i,.row (enc a))::orcs) (.elem (eL l) j (enc a)::obs):=pr i (SG h0 hk h) r
theorem pG (i:Nat) {α:Type} [GoE α] {l:List α} (j:Int) {k:Nat} {a:α} (h:l[k]? =some a) (r:PL A T orcs obs) (h0:0<=j:=by omega) (hk:j.toNat=k:=by rfl):PL A T ((i,.rowE (enc a))::orcs) (.elem (eL l) j (enc a)::obs):=pR i (SG h0 hk h) r
theorem pn (i:Nat) {α:Type} [GoE α] {l:List α} {k:Nat} {a:α} (h:l[k]? =some a) (r:PL A T orcs obs):PL A T ((i,.row (enc a))::orcs) (.elem (eL l) (k:Int) (enc a)::obs):=pr i (SG (Int.natCast_nonneg k) rfl h) r
theorem pN (i:Nat) {α:Type} [GoE α] {l:List α} {k:Nat} {a:α} (h:l[k]? =some a) (r:PL A T orcs obs):PL A T ((i,.rowE (enc a))::orcs) (.elem (eL l) (k:Int) (enc a)::obs):=pR i (SG (Int.natCast_nonneg k) rfl h) r
theorem pa {α:Type} [GoE α] (a b:List α) (r:PL A T orcs obs) (h:a.length+b.length<=1073741824:=by first|omega|(simp only[yW,List.length_nil];omega) | (simp;omega) | simp):PL A T orcs (.len ((eL a).length+(eL b).length)::obs):=px (Ga (Iu (Zs a) (Zs b) h)) r
end
def nx (tt:List (Nat×TI)) (N:Nat) (orcs:List (Nat×Orc)) (ops:List Oper) (ts bs:List Nat) (s:St):St:=match Oz tt N orcs ops ops 0 s with
 | some (s',_)=>s'.keep ts bs
 | none=>s
def nd (tt:List (Nat×TI)) (N:Nat) (orcs:List (Nat×Orc)) (ops:List Oper) (ts bs:List Nat) (s:St):St:=match Fd tt N orcs ops ts bs s with
 | some (s',_)=>s'
 | none=>s
def hd (x _:St):St:=x
section
variable {P:Program} {N:Nat} {w0:Base} {F0:Nat->Prop} {Q:Exit->St->Prop} {s x:St} {c y:Code} {tt:List (Nat×TI)} {orcs:List (Nat×Orc)} {obs:List Ob} {id:Nat} {ops:Array Oper}
theorem rn0 (htt:Gs P tt=true) (ts bs:List Nat) (hob:PL (Zz P w0) (Ul P w0) orcs obs) (hQ:Q .normal (nx tt N orcs ops.toList ts bs s))
 (h:(Oz tt N orcs ops.toList ops.toList 0 s).map yT=some obs):AWP P N w0 F0 (.region id ops false) Q s:=by
 cases hr:Oz tt N orcs ops.toList ops.toList 0 s with
 | none=>rw[hr] at h;cases h
 | some x=>
   obtain ⟨s',obs'⟩:=x;rw[hr] at h;obtain rfl:obs'=obs:=zD h;refine Wl htt orcs ts bs (s':=nx tt N orcs ops.toList ts bs s) ?_ hob hQ;unfold A9 nx;rw[hr]
theorem rN0 (htt:Gs P tt=true) (hm:P.follows .mixedOrders=true) (ts bs:List Nat) (hob:PL (Zz P w0) (Ul P w0) orcs obs) (hQ:Q .normal (nd tt N orcs ops.toList ts bs s))
 (h:(Fd tt N orcs ops.toList ts bs s).map yT=some obs):AWP P N w0 F0 (.region id ops true) Q s:=by
 cases hr:Fd tt N orcs ops.toList ts bs s with
 | none=>rw[hr] at h;cases h
 | some x=>
   obtain ⟨s',obs'⟩:=x;rw[hr] at h;obtain rfl:obs'=obs:=zD h;refine JL htt hm orcs ts bs (s':=nd tt N orcs ops.toList ts bs s) ?_ hob hQ;unfold nd;rw[hr]
theorem rn (htt:Gs P tt=true) (ts bs:List Nat) (hob:PL (Zz P w0) (Ul P w0) orcs obs) (hQ:Q .normal (hd (nx tt N orcs ops.toList ts bs s) s))
 (h:(Oz tt N orcs ops.toList ops.toList 0 s).map yT=some obs:=by kernel_rfl):AWP P N w0 F0 (.region id ops false) Q s:=rn0 htt ts bs (s:=s) hob hQ h
theorem sn (htt:Gs P tt=true) (ts bs:List Nat) (hob:PL (Zz P w0) (Ul P w0) orcs obs) (hQ:AWP P N w0 F0 y Q (hd (nx tt N orcs ops.toList ts bs s) s))
 (h:(Oz tt N orcs ops.toList ops.toList 0 s).map yT=some obs:=by kernel_rfl):AWP P N w0 F0 (.seq (.region id ops false) y) Q s:=Qc (rn htt ts bs hob hQ h)
theorem ru (htt:Gs P tt=true) (u:List (Nat×AV)) (d:List Nat) (bu:List (Nat×List C)) (bd:List Nat) (hob:PL (Zz P w0) (Ul P w0) orcs obs) (hQ:Q .normal (s.up u d bu bd))
 (h:A9 tt N orcs ops.toList (Od (s.up u d bu bd).tm) (Od (s.up u d bu bd).bx) s=some (s.up u d bu bd,obs):=by kernel_rfl):AWP P N w0 F0 (.region id ops false) Q s:=Wl htt orcs _ _ (s:=s) h hob hQ
theorem su (htt:Gs P tt=true) (u:List (Nat×AV)) (d:List Nat) (bu:List (Nat×List C)) (bd:List Nat) (hob:PL (Zz P w0) (Ul P w0) orcs obs) (hQ:AWP P N w0 F0 y Q (s.up u d bu bd))
 (h:A9 tt N orcs ops.toList (Od (s.up u d bu bd).tm) (Od (s.up u d bu bd).bx) s=some (s.up u d bu bd,obs):=by kernel_rfl):AWP P N w0 F0 (.seq (.region id ops false) y) Q s:=Qc (ru htt u d bu bd hob hQ h)
theorem rN (htt:Gs P tt=true) (hm:P.follows .mixedOrders=true) (ts bs:List Nat) (hob:PL (Zz P w0) (Ul P w0) orcs obs) (hQ:Q .normal (hd (nd tt N orcs ops.toList ts bs s) s))
 (h:(Fd tt N orcs ops.toList ts bs s).map yT=some obs:=by kernel_rfl):AWP P N w0 F0 (.region id ops true) Q s:=rN0 htt hm ts bs (s:=s) hob hQ h
theorem sN (htt:Gs P tt=true) (hm:P.follows .mixedOrders=true) (ts bs:List Nat) (hob:PL (Zz P w0) (Ul P w0) orcs obs) (hQ:AWP P N w0 F0 y Q (hd (nd tt N orcs ops.toList ts bs s) s))
 (h:(Fd tt N orcs ops.toList ts bs s).map yT=some obs:=by kernel_rfl):AWP P N w0 F0 (.seq (.region id ops true) y) Q s:=Qc (rN htt hm ts bs hob hQ h)
theorem rU (htt:Gs P tt=true) (hm:P.follows .mixedOrders=true) (u:List (Nat×AV)) (d:List Nat) (bu:List (Nat×List C)) (bd:List Nat) (hob:PL (Zz P w0) (Ul P w0) orcs obs) (hQ:Q .normal (s.up u d bu bd))
 (h:Fd tt N orcs ops.toList (Od (s.up u d bu bd).tm) (Od (s.up u d bu bd).bx) s=some (s.up u d bu bd,obs):=by kernel_rfl):AWP P N w0 F0 (.region id ops true) Q s:=JL htt hm orcs _ _ (s:=s) h hob hQ
theorem sU (htt:Gs P tt=true) (hm:P.follows .mixedOrders=true) (u:List (Nat×AV)) (d:List Nat) (bu:List (Nat×List C)) (bd:List Nat) (hob:PL (Zz P w0) (Ul P w0) orcs obs) (hQ:AWP P N w0 F0 y Q (s.up u d bu bd))
 (h:Fd tt N orcs ops.toList (Od (s.up u d bu bd).tm) (Od (s.up u d bu bd).bx) s=some (s.up u d bu bd,obs):=by kernel_rfl):AWP P N w0 F0 (.seq (.region id ops true) y) Q s:=Qc (rU htt hm u d bu bd hob hQ h)
theorem qn (htt:Gs P tt=true) (ts bs:List Nat) (hob:PL (Zz P w0) (Ul P w0) orcs obs) (hQ:Q .normal (hd (nx tt N orcs ops.toList ts bs x) s))
 (h:(Oz tt N orcs ops.toList ops.toList 0 x).map yT=some obs:=by kernel_rfl):AWP P N w0 F0 (.region id ops false) Q (hd x s):=rn0 htt ts bs (s:=x) hob hQ h
theorem tn (htt:Gs P tt=true) (ts bs:List Nat) (hob:PL (Zz P w0) (Ul P w0) orcs obs) (hQ:AWP P N w0 F0 y Q (hd (nx tt N orcs ops.toList ts bs x) s))
 (h:(Oz tt N orcs ops.toList ops.toList 0 x).map yT=some obs:=by kernel_rfl):AWP P N w0 F0 (.seq (.region id ops false) y) Q (hd x s):=Qc (qn htt ts bs hob hQ h)
theorem qu (htt:Gs P tt=true) (u:List (Nat×AV)) (d:List Nat) (bu:List (Nat×List C)) (bd:List Nat) (hob:PL (Zz P w0) (Ul P w0) orcs obs) (hQ:Q .normal (s.up u d bu bd))
 (h:A9 tt N orcs ops.toList (Od (s.up u d bu bd).tm) (Od (s.up u d bu bd).bx) x=some (s.up u d bu bd,obs):=by kernel_rfl):AWP P N w0 F0 (.region id ops false) Q (hd x s):=Wl htt orcs _ _ (s:=x) h hob hQ
theorem tu (htt:Gs P tt=true) (u:List (Nat×AV)) (d:List Nat) (bu:List (Nat×List C)) (bd:List Nat) (hob:PL (Zz P w0) (Ul P w0) orcs obs) (hQ:AWP P N w0 F0 y Q (s.up u d bu bd))
 (h:A9 tt N orcs ops.toList (Od (s.up u d bu bd).tm) (Od (s.up u d bu bd).bx) x=some (s.up u d bu bd,obs):=by kernel_rfl):AWP P N w0 F0 (.seq (.region id ops false) y) Q (hd x s):=Qc (qu htt u d bu bd hob hQ h)
theorem qN (htt:Gs P tt=true) (hm:P.follows .mixedOrders=true) (ts bs:List Nat) (hob:PL (Zz P w0) (Ul P w0) orcs obs) (hQ:Q .normal (hd (nd tt N orcs ops.toList ts bs x) s))
 (h:(Fd tt N orcs ops.toList ts bs x).map yT=some obs:=by kernel_rfl):AWP P N w0 F0 (.region id ops true) Q (hd x s):=rN0 htt hm ts bs (s:=x) hob hQ h
theorem tN (htt:Gs P tt=true) (hm:P.follows .mixedOrders=true) (ts bs:List Nat) (hob:PL (Zz P w0) (Ul P w0) orcs obs) (hQ:AWP P N w0 F0 y Q (hd (nd tt N orcs ops.toList ts bs x) s))
 (h:(Fd tt N orcs ops.toList ts bs x).map yT=some obs:=by kernel_rfl):AWP P N w0 F0 (.seq (.region id ops true) y) Q (hd x s):=Qc (qN htt hm ts bs hob hQ h)
theorem qU (htt:Gs P tt=true) (hm:P.follows .mixedOrders=true) (u:List (Nat×AV)) (d:List Nat) (bu:List (Nat×List C)) (bd:List Nat) (hob:PL (Zz P w0) (Ul P w0) orcs obs) (hQ:Q .normal (s.up u d bu bd))
 (h:Fd tt N orcs ops.toList (Od (s.up u d bu bd).tm) (Od (s.up u d bu bd).bx) x=some (s.up u d bu bd,obs):=by kernel_rfl):AWP P N w0 F0 (.region id ops true) Q (hd x s):=JL htt hm orcs _ _ (s:=x) h hob hQ
theorem tU (htt:Gs P tt=true) (hm:P.follows .mixedOrders=true) (u:List (Nat×AV)) (d:List Nat) (bu:List (Nat×List C)) (bd:List Nat) (hob:PL (Zz P w0) (Ul P w0) orcs obs) (hQ:AWP P N w0 F0 y Q (s.up u d bu bd))
 (h:Fd tt N orcs ops.toList (Od (s.up u d bu bd).tm) (Od (s.up u d bu bd).bx) x=some (s.up u d bu bd,obs):=by kernel_rfl):AWP P N w0 F0 (.seq (.region id ops true) y) Q (hd x s):=Qc (qU htt hm u d bu bd hob hQ h)
theorem mz (u:List (Nat×AV)) (d:List Nat) (bu:List (Nat×List C)) (bd:List Nat) (k:AWP P N w0 F0 c Q (s.up u d bu bd)) (h:x.fit (s.up u d bu bd)=s.up u d bu bd:=by kernel_rfl):AWP P N w0 F0 c Q (hd x s):=Mi (s:=x) (Qd h) k
theorem wT {α:Type} [GoE α] (t i:Nat) (tok:Tok) (l:List α) (k:wide l->l.length<=1073741824->AWP P N w0 F0 c Q s) (h:s.cellT t i=some (.slc tok (GoD.n α) (eL l)):=by kernel_rfl):AWP P N w0 F0 c Q s:=wdT t i tok l (λhw=>k hw (Iz hw)) h
theorem wB {α:Type} [GoE α] (b i:Nat) (tok:Tok) (l:List α) (k:wide l->l.length<=1073741824->AWP P N w0 F0 c Q s) (h:s.cellB b i=some (.slc tok (GoD.n α) (eL l)):=by kernel_rfl):AWP P N w0 F0 c Q s:=wdB b i tok l (λhw=>k hw (Iz hw)) h
end
section
variable {P:Program} {N:Nat} {w0:Base} {F0:Nat->Prop} {Q:Exit->St->Prop} {s:St} {c:Code} {α R σ τ:Type} {id:Nat}
theorem Pa (f:Nat->α->σ->Rd R σ τ) (e:Nat->σ->τ) (l:List α) (x0:σ) (u:Nat->σ->List (Nat×AV)) (d:List Nat) (ua:τ->List (Nat×AV)) (da:List Nat)
 (h0:Weak s (s.up (u 0 x0) d [] []))
 (hr:∀k x,k<l.length->X7 f e l 0 x0=X7 f e (l.drop k) k x->AWP P N w0 F0 c (QL id (λs'=>∃x',Weak s' (s.up (u (k+1) x') d [] [])/\(X7 f e l 0 x0=X7 f e (l.drop (k+1)) (k+1) x')) (λs'=>∃y,Weak s' (s.up (ua y) da [] [])/\X7 f e l 0 x0= .brk y) Q) (s.up (u k x) d [] []))
 (he:∀k x,k=l.length->X7 f e l 0 x0=X7 f e (l.drop k) k x->AWP P N w0 F0 c (QL id (λ_=>False) (λs'=>∃y,Weak s' (s.up (ua y) da [] [])/\X7 f e l 0 x0= .brk y) Q) (s.up (u k x) d [] []))
 (ha:∀y,X7 f e l 0 x0= .brk y->Q .normal (s.up (ua y) da [] [])):AWP P N w0 F0 (.block id (.loop c)) Q s:=Af (λk x=>s.up (u k x) d [] []) (λy=>s.up (ua y) da [] []) (λk x=>X7 f e l 0 x0=X7 f e (l.drop k) k x) (λy=>X7 f e l 0 x0= .brk y) l.length x0 h0 rfl hr he ha
theorem ZQ (f:Nat->α->σ->Rd R σ τ) (e:Nat->σ->τ) (l:List α) (x0:σ) (u:Nat->σ->List (Nat×AV)) (d:List Nat) (ua:τ->List (Nat×AV)) (da:List Nat) (A:Nat->σ->Prop)
 (h0:Weak s (s.up (u 0 x0) d [] [])) (i0:A 0 x0)
 (hr:∀k x,k<l.length->X7 f e l 0 x0=X7 f e (l.drop k) k x/\A k x->AWP P N w0 F0 c (QL id (λs'=>∃x',Weak s' (s.up (u (k+1) x') d [] [])/\(X7 f e l 0 x0=X7 f e (l.drop (k+1)) (k+1) x'/\A (k+1) x')) (λs'=>∃y,Weak s' (s.up (ua y) da [] [])/\X7 f e l 0 x0= .brk y) Q) (s.up (u k x) d [] []))
 (he:∀k x,k=l.length->X7 f e l 0 x0=X7 f e (l.drop k) k x/\A k x->AWP P N w0 F0 c (QL id (λ_=>False) (λs'=>∃y,Weak s' (s.up (ua y) da [] [])/\X7 f e l 0 x0= .brk y) Q) (s.up (u k x) d [] []))
 (ha:∀y,X7 f e l 0 x0= .brk y->Q .normal (s.up (ua y) da [] [])):AWP P N w0 F0 (.block id (.loop c)) Q s:=Af (λk x=>s.up (u k x) d [] []) (λy=>s.up (ua y) da [] []) (λk x=>X7 f e l 0 x0=X7 f e (l.drop k) k x/\A k x) (λy=>X7 f e l 0 x0= .brk y) l.length x0 h0 ⟨rfl,i0⟩ hr he ha
theorem Qmq (f:Nat->α->σ->Rd R σ τ) (e:Nat->σ->τ) (l:List α) (x0:σ) (u:Nat->σ->List (Nat×AV)) (d:List Nat) (ua:τ->List (Nat×AV)) (da:List Nat) (B:τ->Prop)
 (h0:Weak s (s.up (u 0 x0) d [] []))
 (hr:∀k x,k<l.length->X7 f e l 0 x0=X7 f e (l.drop k) k x->AWP P N w0 F0 c (QL id (λs'=>∃x',Weak s' (s.up (u (k+1) x') d [] [])/\(X7 f e l 0 x0=X7 f e (l.drop (k+1)) (k+1) x')) (λs'=>∃y,Weak s' (s.up (ua y) da [] [])/\(X7 f e l 0 x0= .brk y/\B y)) Q) (s.up (u k x) d [] []))
 (he:∀k x,k=l.length->X7 f e l 0 x0=X7 f e (l.drop k) k x->AWP P N w0 F0 c (QL id (λ_=>False) (λs'=>∃y,Weak s' (s.up (ua y) da [] [])/\(X7 f e l 0 x0= .brk y/\B y)) Q) (s.up (u k x) d [] []))
 (ha:∀y,X7 f e l 0 x0= .brk y/\B y->Q .normal (s.up (ua y) da [] [])):AWP P N w0 F0 (.block id (.loop c)) Q s:=Af (λk x=>s.up (u k x) d [] []) (λy=>s.up (ua y) da [] []) (λk x=>X7 f e l 0 x0=X7 f e (l.drop k) k x) (λy=>X7 f e l 0 x0= .brk y/\B y) l.length x0 h0 rfl hr he ha
theorem Qcc (f:Nat->α->σ->Rd R σ τ) (e:Nat->σ->τ) (l:List α) (x0:σ) (u:Nat->σ->List (Nat×AV)) (d:List Nat) (ua:τ->List (Nat×AV)) (da:List Nat) (A:Nat->σ->Prop) (B:τ->Prop)
 (h0:Weak s (s.up (u 0 x0) d [] [])) (i0:A 0 x0)
 (hr:∀k x,k<l.length->X7 f e l 0 x0=X7 f e (l.drop k) k x/\A k x->AWP P N w0 F0 c (QL id (λs'=>∃x',Weak s' (s.up (u (k+1) x') d [] [])/\(X7 f e l 0 x0=X7 f e (l.drop (k+1)) (k+1) x'/\A (k+1) x')) (λs'=>∃y,Weak s' (s.up (ua y) da [] [])/\(X7 f e l 0 x0= .brk y/\B y)) Q) (s.up (u k x) d [] []))
 (he:∀k x,k=l.length->X7 f e l 0 x0=X7 f e (l.drop k) k x/\A k x->AWP P N w0 F0 c (QL id (λ_=>False) (λs'=>∃y,Weak s' (s.up (ua y) da [] [])/\(X7 f e l 0 x0= .brk y/\B y)) Q) (s.up (u k x) d [] []))
 (ha:∀y,X7 f e l 0 x0= .brk y/\B y->Q .normal (s.up (ua y) da [] [])):AWP P N w0 F0 (.block id (.loop c)) Q s:=Af (λk x=>s.up (u k x) d [] []) (λy=>s.up (ua y) da [] []) (λk x=>X7 f e l 0 x0=X7 f e (l.drop k) k x/\A k x) (λy=>X7 f e l 0 x0= .brk y/\B y) l.length x0 h0 ⟨rfl,i0⟩ hr he ha
theorem Qcd (f:Nat->α->σ->Rd R σ τ) (e:Nat->σ->τ) (l:List α) (x0:σ) (u:Nat->σ->List (Nat×AV)) (d:List Nat) (bu:Nat->σ->List (Nat×List C)) (bd:List Nat) (ua:τ->List (Nat×AV)) (da:List Nat) (ba:τ->List (Nat×List C)) (bda:List Nat)
 (h0:Weak s (s.up (u 0 x0) d (bu 0 x0) bd))
 (hr:∀k x,k<l.length->X7 f e l 0 x0=X7 f e (l.drop k) k x->AWP P N w0 F0 c (QL id (λs'=>∃x',Weak s' (s.up (u (k+1) x') d (bu (k+1) x') bd)/\(X7 f e l 0 x0=X7 f e (l.drop (k+1)) (k+1) x')) (λs'=>∃y,Weak s' (s.up (ua y) da (ba y) bda)/\X7 f e l 0 x0= .brk y) Q) (s.up (u k x) d (bu k x) bd))
 (he:∀k x,k=l.length->X7 f e l 0 x0=X7 f e (l.drop k) k x->AWP P N w0 F0 c (QL id (λ_=>False) (λs'=>∃y,Weak s' (s.up (ua y) da (ba y) bda)/\X7 f e l 0 x0= .brk y) Q) (s.up (u k x) d (bu k x) bd))
 (ha:∀y,X7 f e l 0 x0= .brk y->Q .normal (s.up (ua y) da (ba y) bda)):AWP P N w0 F0 (.block id (.loop c)) Q s:=Af (λk x=>s.up (u k x) d (bu k x) bd) (λy=>s.up (ua y) da (ba y) bda) (λk x=>X7 f e l 0 x0=X7 f e (l.drop k) k x) (λy=>X7 f e l 0 x0= .brk y) l.length x0 h0 rfl hr he ha
theorem SK (f:Nat->α->σ->Rd R σ τ) (e:Nat->σ->τ) (l:List α) (x0:σ) (u:Nat->σ->List (Nat×AV)) (d:List Nat) (bu:Nat->σ->List (Nat×List C)) (bd:List Nat) (ua:τ->List (Nat×AV)) (da:List Nat) (ba:τ->List (Nat×List C)) (bda:List Nat) (A:Nat->σ->Prop)
 (h0:Weak s (s.up (u 0 x0) d (bu 0 x0) bd)) (i0:A 0 x0)
 (hr:∀k x,k<l.length->X7 f e l 0 x0=X7 f e (l.drop k) k x/\A k x->AWP P N w0 F0 c (QL id (λs'=>∃x',Weak s' (s.up (u (k+1) x') d (bu (k+1) x') bd)/\(X7 f e l 0 x0=X7 f e (l.drop (k+1)) (k+1) x'/\A (k+1) x')) (λs'=>∃y,Weak s' (s.up (ua y) da (ba y) bda)/\X7 f e l 0 x0= .brk y) Q) (s.up (u k x) d (bu k x) bd))
 (he:∀k x,k=l.length->X7 f e l 0 x0=X7 f e (l.drop k) k x/\A k x->AWP P N w0 F0 c (QL id (λ_=>False) (λs'=>∃y,Weak s' (s.up (ua y) da (ba y) bda)/\X7 f e l 0 x0= .brk y) Q) (s.up (u k x) d (bu k x) bd))
 (ha:∀y,X7 f e l 0 x0= .brk y->Q .normal (s.up (ua y) da (ba y) bda)):AWP P N w0 F0 (.block id (.loop c)) Q s:=Af (λk x=>s.up (u k x) d (bu k x) bd) (λy=>s.up (ua y) da (ba y) bda) (λk x=>X7 f e l 0 x0=X7 f e (l.drop k) k x/\A k x) (λy=>X7 f e l 0 x0= .brk y) l.length x0 h0 ⟨rfl,i0⟩ hr he ha
theorem Ql7 (f:Nat->σ->Rd R σ τ) (e:Nat->σ->τ) (l:Nat) (x0:σ) (u:Nat->σ->List (Nat×AV)) (d:List Nat) (ua:τ->List (Nat×AV)) (da:List Nat)
 (h0:Weak s (s.up (u 0 x0) d [] []))
 (hr:∀k x,k<l->U1 f e l 0 x0=U1 f e (l-k) k x->AWP P N w0 F0 c (QL id (λs'=>∃x',Weak s' (s.up (u (k+1) x') d [] [])/\(U1 f e l 0 x0=U1 f e (l-(k+1)) (k+1) x')) (λs'=>∃y,Weak s' (s.up (ua y) da [] [])/\U1 f e l 0 x0= .brk y) Q) (s.up (u k x) d [] []))
 (he:∀k x,k=l->U1 f e l 0 x0=U1 f e (l-k) k x->AWP P N w0 F0 c (QL id (λ_=>False) (λs'=>∃y,Weak s' (s.up (ua y) da [] [])/\U1 f e l 0 x0= .brk y) Q) (s.up (u k x) d [] []))
 (ha:∀y,U1 f e l 0 x0= .brk y->Q .normal (s.up (ua y) da [] [])):AWP P N w0 F0 (.block id (.loop c)) Q s:=Af (λk x=>s.up (u k x) d [] []) (λy=>s.up (ua y) da [] []) (λk x=>U1 f e l 0 x0=U1 f e (l-k) k x) (λy=>U1 f e l 0 x0= .brk y) l x0 h0 rfl hr he ha
theorem Qlu (f:Nat->σ->Rd R σ τ) (e:Nat->σ->τ) (l:Nat) (x0:σ) (u:Nat->σ->List (Nat×AV)) (d:List Nat) (ua:τ->List (Nat×AV)) (da:List Nat) (A:Nat->σ->Prop) (B:τ->Prop)
 (h0:Weak s (s.up (u 0 x0) d [] [])) (i0:A 0 x0)
 (hr:∀k x,k<l->U1 f e l 0 x0=U1 f e (l-k) k x/\A k x->AWP P N w0 F0 c (QL id (λs'=>∃x',Weak s' (s.up (u (k+1) x') d [] [])/\(U1 f e l 0 x0=U1 f e (l-(k+1)) (k+1) x'/\A (k+1) x')) (λs'=>∃y,Weak s' (s.up (ua y) da [] [])/\(U1 f e l 0 x0= .brk y/\B y)) Q) (s.up (u k x) d [] []))
 (he:∀k x,k=l->U1 f e l 0 x0=U1 f e (l-k) k x/\A k x->AWP P N w0 F0 c (QL id (λ_=>False) (λs'=>∃y,Weak s' (s.up (ua y) da [] [])/\(U1 f e l 0 x0= .brk y/\B y)) Q) (s.up (u k x) d [] []))
 (ha:∀y,U1 f e l 0 x0= .brk y/\B y->Q .normal (s.up (ua y) da [] [])):AWP P N w0 F0 (.block id (.loop c)) Q s:=Af (λk x=>s.up (u k x) d [] []) (λy=>s.up (ua y) da [] []) (λk x=>U1 f e l 0 x0=U1 f e (l-k) k x/\A k x) (λy=>U1 f e l 0 x0= .brk y/\B y) l x0 h0 ⟨rfl,i0⟩ hr he ha
theorem Qk5 (f:Nat->σ->Rd R σ τ) (e:Nat->σ->τ) (l:Nat) (x0:σ) (u:Nat->σ->List (Nat×AV)) (d:List Nat) (bu:Nat->σ->List (Nat×List C)) (bd:List Nat) (ua:τ->List (Nat×AV)) (da:List Nat) (ba:τ->List (Nat×List C)) (bda:List Nat)
 (h0:Weak s (s.up (u 0 x0) d (bu 0 x0) bd))
 (hr:∀k x,k<l->U1 f e l 0 x0=U1 f e (l-k) k x->AWP P N w0 F0 c (QL id (λs'=>∃x',Weak s' (s.up (u (k+1) x') d (bu (k+1) x') bd)/\(U1 f e l 0 x0=U1 f e (l-(k+1)) (k+1) x')) (λs'=>∃y,Weak s' (s.up (ua y) da (ba y) bda)/\U1 f e l 0 x0= .brk y) Q) (s.up (u k x) d (bu k x) bd))
 (he:∀k x,k=l->U1 f e l 0 x0=U1 f e (l-k) k x->AWP P N w0 F0 c (QL id (λ_=>False) (λs'=>∃y,Weak s' (s.up (ua y) da (ba y) bda)/\U1 f e l 0 x0= .brk y) Q) (s.up (u k x) d (bu k x) bd))
 (ha:∀y,U1 f e l 0 x0= .brk y->Q .normal (s.up (ua y) da (ba y) bda)):AWP P N w0 F0 (.block id (.loop c)) Q s:=Af (λk x=>s.up (u k x) d (bu k x) bd) (λy=>s.up (ua y) da (ba y) bda) (λk x=>U1 f e l 0 x0=U1 f e (l-k) k x) (λy=>U1 f e l 0 x0= .brk y) l x0 h0 rfl hr he ha
theorem Qf2 (f:Nat->σ->Rd R σ τ) (e:Nat->σ->τ) (l:Nat) (x0:σ) (u:Nat->σ->List (Nat×AV)) (d:List Nat) (bu:Nat->σ->List (Nat×List C)) (bd:List Nat) (ua:τ->List (Nat×AV)) (da:List Nat) (ba:τ->List (Nat×List C)) (bda:List Nat) (A:Nat->σ->Prop)
 (h0:Weak s (s.up (u 0 x0) d (bu 0 x0) bd)) (i0:A 0 x0)
 (hr:∀k x,k<l->U1 f e l 0 x0=U1 f e (l-k) k x/\A k x->AWP P N w0 F0 c (QL id (λs'=>∃x',Weak s' (s.up (u (k+1) x') d (bu (k+1) x') bd)/\(U1 f e l 0 x0=U1 f e (l-(k+1)) (k+1) x'/\A (k+1) x')) (λs'=>∃y,Weak s' (s.up (ua y) da (ba y) bda)/\U1 f e l 0 x0= .brk y) Q) (s.up (u k x) d (bu k x) bd))
 (he:∀k x,k=l->U1 f e l 0 x0=U1 f e (l-k) k x/\A k x->AWP P N w0 F0 c (QL id (λ_=>False) (λs'=>∃y,Weak s' (s.up (ua y) da (ba y) bda)/\U1 f e l 0 x0= .brk y) Q) (s.up (u k x) d (bu k x) bd))
 (ha:∀y,U1 f e l 0 x0= .brk y->Q .normal (s.up (ua y) da (ba y) bda)):AWP P N w0 F0 (.block id (.loop c)) Q s:=Af (λk x=>s.up (u k x) d (bu k x) bd) (λy=>s.up (ua y) da (ba y) bda) (λk x=>U1 f e l 0 x0=U1 f e (l-k) k x/\A k x) (λy=>U1 f e l 0 x0= .brk y) l x0 h0 ⟨rfl,i0⟩ hr he ha
end
section
variable {tt:List (Nat×TI)} {rs:List ResultVar} {s:St} {τ:Type}
theorem pz (frz:List Nat) {F v:τ} (e:F=v) (g:τ->AV) (h:XZ tt rs (s.map (Uy (Yi frz) none))=some (g v):=by kernel_rfl):Qbm tt rs (g F) .ret s:=Mj frz h (e▸rfl)
theorem pb {F v:Bool} (frz:List Nat) (e:F=v) (h:XZ tt rs (s.map (Uy (Yi frz) none))=some (.b v):=by kernel_rfl):Qbm tt rs (.b F) .ret s:=Mj frz h (e▸rfl)
theorem pi {F v:Int} (frz:List Nat) (e:F=v) (h:XZ tt rs (s.map (Uy (Yi frz) none))=some (.i v):=by kernel_rfl):Qbm tt rs (.i F) .ret s:=Mj frz h (e▸rfl)
theorem ps {F v:ByteArray} (frz:List Nat) (e:F=v) (h:XZ tt rs (s.map (Uy (Yi frz) none))=some (.s v):=by kernel_rfl):Qbm tt rs (.s F) .ret s:=Mj frz h (e▸rfl)
theorem po0 {α:Type} [GoE α] {F v:List α} (frz:List Nat) (e:F=v) (h:XZ tt rs (s.map (Uy (Yi frz) none))=some (.o 0 v):=by kernel_rfl):Qbm tt rs (.o 0 F) .ret s:=Mj frz h (e▸rfl)
theorem ph0 {α:Type} [GoE α] {F v:List α} (frz:List Nat) (e:F=v) (h:XZ tt rs (s.map (Uy (Yi frz) none))=some (.h v):=by kernel_rfl):Qbm tt rs (.h F) .ret s:=Mj frz h (e▸rfl)
end
theorem wn {R S T:Type} {f:S->Rd R S T} {n:Nat} {s s':S} {o:Out R T} (hI:whl f (n+1) s=some o) (h:f s= .next s'):whl f n s'=some o:=Qf0 h hI
theorem wb {R S T:Type} {f:S->Rd R S T} {n:Nat} {s:S} {t:T} {o:Out R T} (hI:whl f (n+1) s=some o) (h:f s= .brk t):o= .brk t:=Qjj h hI
theorem ng {α:Type} [Inhabited α] (l:List α) (i:Nat) (h:i<l.length:=by omega):l[i]? =some (nth l i):=Hb h
theorem en {P:Program} {tt:List (Nat×TI)} (htt:Gs P tt=true) {f:Nat} {fn:Func} {c:Code} (hf:P.funcs[f]? =some fn) {args:List AV} {r:AV}
 (h:∀w0 F0,GoodAt P w0->AWP P fn.ntmps w0 F0 c (Qbm tt fn.results.toList r) (CP args)) (hb:fn.body=some c:=by exact rfl) (hok:It P f:=by unfold It;kernel_rfl) (hn:args.length<=fn.ntmps:=by exact Nat.le_of_ble_eq_true rfl):ACalls P f args r:=KW htt hf hb hok hn h
theorem nm {α:Type} (t:α):∃z,t=z:=⟨_,rfl⟩
theorem wf0 {s s':St} (h:s.fit s'=s':=by kernel_rfl):Weak s s':=Qd h
theorem xw {α:Type} {s:St} {t:α->St} {b:α->Prop} (w:α) (hb:b w) (h:s.fit (t w)=t w:=by kernel_rfl):∃x,Weak s (t x)/\b x:=⟨w,Qd h,hb⟩
end
section
section
variable {α R S T:Type} {f g:Nat->α->S->Rd R S T} {e e':Nat->S->T}
theorem Rx (he:∀k s,e k s=e' k s):∀(l:List α) (k:Nat) (s:S),(∀i a s,l[i]? =some a->f (k+i) a s=g (k+i) a s)->X7 f e l k s=X7 g e' l k s
 | [],k,s,_=>by simp only[X7,he]
 | a ::l,k,s,h=>by
   have h0:=h 0 a s rfl;simp only[X7];rw[Nat.add_zero] at h0;rw[h0];cases g k a s with
   | next s'=>
     refine Rx he l (k+1) s' λi a s hi=> ?_
     have:=h (i+1) a s (by simpa using hi)
     rwa [show k+(i+1)=k+1+i by omega] at this
   | brk t=>rfl
   | ret r=>rfl
theorem Gv (hf:∀k a s,f k a s=g k a s) (he:∀k s,e k s=e' k s) (l:List α) (k:Nat) (s:S):X7 f e l k s=X7 g e' l k s:=Rx he l k s λ_ _ _ _=>hf _ _ _
end
section
variable {R S T:Type} {f g:Nat->S->Rd R S T} {e e':Nat->S->T}
theorem BC (he:∀k s,e k s=e' k s):∀(n k:Nat) (s:S),(∀i s,k<=i->i<k+n->f i s=g i s)->U1 f e n k s=U1 g e' n k s
 | 0,k,s,_=>by simp only[U1,he]
 | n+1,k,s,h=>by
   simp only[U1];rw[h k s (zX _) (by omega)];cases g k s with
   | next s'=>exact BC he n (k+1) s' λi s h1 h2=>h i s (by omega) (by omega)
   | brk t=>rfl
   | ret r=>rfl
end
section
variable {α R T:Type} {f:Nat->α->Unit->Rd R Unit T} {e:Nat->Unit->T}
theorem Og (hb :∀k a t,f k a ()≠ .brk t):∀{l:List α} {k:Nat} {t:T},X7 f e l k ()= .brk t->∀(i:Nat) (a:α),l[i]? =some a->f (k+i) a ()= .next ()
 | [],_,_,_,i,a,hi=>by simp at hi
 | x :: l, k, t,h,i,a,hi=>by
   simp only[X7] at h;cases hf:f k x () with
   | next s'=>
     rw[hf] at h;cases i with
     | zero => obtain rfl:x=a:=by simpa using hi
               exact hf
     | succ i=>
       have:=Og hb (k:=k+1) h i a (by simpa using hi)
       rwa [show k+1+i=k+(i+1) by omega] at this
   | brk t'=>exact (hb k x t' hf).elim
   | ret r=>rw[hf] at h;cases h
theorem S8:∀(l:List α) (k:Nat),(∀i a,l[i]? =some a->f (k+i) a ()= .next ())->X7 f e l k ()= .brk (e (k+l.length) ())
 | [],k,_=>by simp[X7]
 | x ::l,k,h=>by
   have h0:=h 0 x rfl;rw[Nat.add_zero] at h0;simp only[X7,h0]
   rw[S8 l (k+1) λi a hi=>by
    have:=h (i+1) a (by simpa using hi)
    rwa [show k+(i+1)=k+1+i by omega] at this]
   rw[yW,show k+1+l.length=k+(l.length+1) by omega]
end
theorem Cd {α β R T:Type} {f:Nat->α->List β->Rd R (List β) T} {e:Nat->List β->T} {p:α->Bool} {g:α->β} (hf:∀k a s,f k a s=(bif p a then .next (s++ [g a]) else .next s)):∀(l:List α) (k:Nat) (s:List β),X7 f e l k s= .brk (e (k+l.length) (s++(l.filter p).map g))
 | [],k,s=>by simp[X7]
 | a::l,k,s=>by
   simp only[X7,hf];cases hp:p a with
   | true=>simp only[cond_true];rw[Cd hf l (k+1),show k+1+l.length=k+(l.length+1) by omega];simp[hp]
   | false=>simp only[cond_false];rw[Cd hf l (k+1),show k+1+l.length=k+(l.length+1) by omega];simp[hp]
theorem A7 {α β R T:Type} {f:Nat->α->List β->Rd R (List β) T} {e:Nat->List β->T} {g:α->β} (hf:∀k a s,f k a s= .next (s++ [g a])):∀(l:List α) (k:Nat) (s:List β),X7 f e l k s= .brk (e (k+l.length) (s++l.map g))
 | [],k,s=>by simp[X7]
 | a::l,k,s=>by
   simp only[X7,hf];rw[A7 hf l (k+1),show k+1+l.length=k+(l.length+1) by omega];simp
end
section
open Go.RowKit
section
variable {P:Program} {N:Nat} {w0:Base} {F0:Nat->Prop} {J:Inj} {a:Act} {w:World} {s:St}
end
theorem AGive.emp {P:Program} {f:Nat} {cs cs':List C} {n m:Nat} {post:List AV} {r:AV} (h:AGive P f cs (.one (.slc (.own true 63) n [])::post) r cs') (hk:∀x,x∈post->∀c,c∈x.cells->c.key=none/\c.bkeys= []):AGive P f cs (.one (.slc .emp m [])::post) r cs':=by
 refine ⟨h.1,λw F L b vals hG hF hnd hLF hbF hbL hbox hargs=> ?_⟩;cases hargs with
 | @cons v _ vs _ h1 h2=>
 have h1:([]:List (List PV))= []/\∃oa,v= .slice oa 0 0:=h1;obtain ⟨_,oa,rfl⟩:=h1;have hG':GoodAt P ⟨w,λx=>x=b\/x∈([]:List Nat),some b⟩:=⟨λw' hk=>hG.at_ w' ⟨hk.os,hk.tape,hk.output,hk.size,λk hk' hn=>hk.block k hk' λhx=>hn (.inl (hx.resolve_right (by simp)))⟩⟩
 have key:∀{us:List Value} {ys:List AV},All2 (AR (XS F L b) w) us ys->(∀x,x∈ys->∀c,c∈x.cells->c.key=none/\c.bkeys= [])->All2 (AR (XS F [] b) w) us ys:=by
  intro us ys ha
  induction ha with
  | nil=>intro _;exact .nil
  | cons h1 _ ih=>
    intro hx;refine .cons (h1.keep λc hc=> ?_) (ih λx hm=>hx x (zN _ hm));obtain ⟨e1,e2⟩:=hx _ (yB ..) c hc;exact ⟨λb hb=>⟨hb,rfl⟩,(λk hk=>by rw[e1] at hk;cases hk),(λk hk=>by rw[e2] at hk;simp at hk)⟩
 have h0:AR (XS F [] b) w (.slice oa 0 0) (.one (.slc (.own true 63) n [])):=by
  show OwnDeep ((XS F [] b).L 63) w _ n [];exact ⟨[],.emp oa n,xD,(λb hb=>by simp at hb),.inl rfl⟩
 refine (h.2 w F [] b _ hG' hF xD (λx hx=>by simp at hx) hbF (by simp) hbox (.cons h0 (key h2 hk))).mono λe w' hret=> ?_
 obtain ⟨u,L',g1,g2,g3,g4,g5,g6,g7,g8,g9,g10,arr,ty,g11,g12⟩:=hret;have hFF:∀x,(UU F [] w w' L').F x->(UU F L w w' L').F x/\w'.heap[x]? =w'.heap[x]? :=λx hx=>⟨hx.imp id λ⟨q1,q2⟩=>⟨.inl (q1.resolve_right (by simp)),q2⟩,rfl⟩
 have hkk:∀c,Keeps (UU F [] w w' L') (UU F L w w' L') w' w' c:=λc=>⟨hFF,λk _=>⟨rfl,λ_ _=>rfl⟩,λ_ _=>rfl⟩
 exact ⟨u,L',g1,g2,g3,g4,g5,λk q1 q2 _=>g6 k q1 q2 (by simp),g7,λk x hx=>⟨(g8 k x hx).1,.inl ((g8 k x hx).2.resolve_right (by simp))⟩,g9,g10.keep λc _=>hkk c,arr,ty,g11,g12.imp λv c _ hc=>hc.keep (hkk c)⟩
end
section
open Go.RowKit
open GoD (rd own)
structure Chg (L:List Nat) (w w':World):Prop where
 os:w'.os=w.os
 tape:w'.tape=w.tape
 output:w'.output=w.output
 size:w.heap.size<=w'.heap.size
 block:∀b,b<w.heap.size->b∉L->w'.heap[b]? =w.heap[b]?
theorem Chg.refl (L:List Nat) (w:World):Chg L w w:=⟨rfl,rfl,rfl,Nat.le_refl _,λ_ _ _=>rfl⟩
theorem Chg.trans {L:List Nat} {a b c:World} (h:Chg L a b) (k:Chg L b c):Chg L a c:=
 ⟨k.os.trans h.os,k.tape.trans h.tape,k.output.trans h.output,yC h.size k.size,λi hi hn=>(k.block i (yR hi h.size) hn).trans (h.block i hi hn)⟩
theorem Chg.mono {L M:List Nat} {w w':World} (h:Chg L w w') (hs:∀b,b∈L->b∈M):Chg M w w':=
 ⟨h.os,h.tape,h.output,h.size,λb hb hn=>h.block b hb (λhm=>hn (hs b hm))⟩
theorem Chg.of_below {L:List Nat} {w w':World} (h:Below w.heap.size w w'):Chg L w w':=⟨h.os,h.tape,h.output,h.size,λb hb _=>h.block b hb⟩
theorem Chg.below {L:List Nat} {B:Nat} {w w':World} (h:Chg L w w') (hB:B<=w.heap.size) (hL:∀b,b∈L->B<=b):Below B w w':=
 ⟨h.os,h.tape,h.output,h.size,λk hk=>h.block k (by omega) (λhm=>by have:=hL k hm;omega)⟩
theorem Chg.cell {L:List Nat} {w w':World} (h:Chg L w w') {b:Nat} (hb:b<w.heap.size) (hn:b∉L) (o:Nat):w'.cell? ⟨b,o,none⟩=w.cell? ⟨b,o,none⟩:=
 World.cell?_of_block (h.block b hb hn)
theorem Chg.frozen {L:List Nat} {w w':World} (h:Chg L w w') {b:Nat} (hb:b<w.heap.size) (hn:b∉L) (o:Nat):w'.frozen? ⟨b,o,none⟩=w.frozen? ⟨b,o,none⟩:=
 World.frozen?_of_block (h.block b hb hn)
section
variable {α β:Type} [GoD α] [GoD β]
theorem Kv {L M:List Nat} {w w':World} {cs:List Value} {a:α} (h:own L w cs a) (hc:Chg M w w') (hd:∀b,b∈L->b∉M):own L w' cs a:=
 GoD.own_same h λb hb=>hc.block b (GoD.own_lt h b hb) (hd b hb)
theorem BD {B:Nat} {w0 W w':World} (h0:Below B w0 W) (hb:Below W.heap.size W w') (hB:B<=W.heap.size):Below B w0 w':=h0.trans (hb.mono hB)
def Mf (L:List Nat) (w:World) (cs:List Value) (r:α×Nat) (e:Ending) (w':World):Prop:=e= .returned (.int .i64 r.2)/\own L w' cs r.1/\Chg L w w'
theorem Vh {P:Program} {f:FuncId} {args:Array Value} {W:World} {L:List Nat} {cs:List Value} {r:α×Nat} {R:Ending->World->Prop} (hc:Calls P f args W (Mf L W cs r))
 (k:∀w',own L w' cs r.1->Chg L W w'->W.heap.size<=w'.heap.size->R (.returned (.int .i64 r.2)) w'):Calls P f args W R:=
 hc.mono λe w' ⟨he,ho,hch⟩=>by subst he;exact k w' ho hch hch.size
structure Upd (g lo m:Nat) (Li:List Nat) (w w':World):Prop where
 chg:Chg (g::Li) w w'
 row:∀cur e,w.heap[g]? =some (.cells cur e (0,0))->∃cur',w'.heap[g]? =some (.cells cur' e (0,0))/\cur'.size=cur.size/\∀j,(j<lo\/lo+m<=j)->cur'[j]? =cur[j]?
theorem Upd.refl (g lo m:Nat) (Li:List Nat) (w:World):Upd g lo m Li w w:=⟨Chg.refl _ _,λcur _ h=>⟨cur,h,rfl,λ_ _=>rfl⟩⟩
theorem Upd.setCell {g lo m:Nat} {Li:List Nat} {w w':World} (h:Upd g lo m Li w w') (o:Nat) (ho:lo<=o/\o<lo+m) (v:Value):Upd g lo m Li w (w'.setCell ⟨g,o,none⟩ v):=by
 refine ⟨h.chg.trans ⟨rfl,rfl,rfl,by simp,λb _ hn=>Lk w' g o v (λe=>hn (by simp[e]))⟩,λcur e hc=> ?_⟩;obtain ⟨cur',h1,h2,h3⟩:=h.row cur e hc;refine ⟨_,Pt w' g o v h1,by simpa using h2,λj hj=> ?_⟩;rw[Array.getElem?_setIfInBounds,if_neg (by omega)];exact h3 j hj
theorem Upd.mark {g lo m:Nat} {Li M:List Nat} {w w' w'':World} (h:Upd g lo m Li w w') (hc:Chg M w' w'') (hs:∀b,b∈M->b∈Li) (hg:g∉M) (hlt:g<w'.heap.size):Upd g lo m Li w w'':=by
 refine ⟨h.chg.trans (hc.mono λb hb=>zN _ (hs b hb)),λcur e hcur=> ?_⟩;obtain ⟨cur',h1,h2,h3⟩:=h.row cur e hcur;exact ⟨cur',(hc.block g hlt hg).trans h1,h2,h3⟩
theorem Upd.below {g lo m:Nat} {Li:List Nat} {w w' w'':World} (h:Upd g lo m Li w w') (hc:Below w'.heap.size w' w'') (hlt:g<w'.heap.size):Upd g lo m Li w w'':=
 h.mark (M:= []) (Chg.of_below hc) (by simp) (by simp) hlt
theorem CZ {a b:List Value} {o n:Nat} (h:∀j,j<n->a[o+j]? =b[o+j]?):(a.drop o).take n=(b.drop o).take n:=by
 apply List.ext_getElem?;intro j;by_cases hj:j<n
 . rw[Al hj,Al hj,h j hj]
 rw[yI,if_neg hj,yI,if_neg hj]
theorem Fe {L:List Nat} {w:World} {v:Value} {xs ys:List α} {a:α} (h:own L w [v] (xs++a::ys)):
 ∃ g cap cur e Li,v= .slice (some ⟨g,0,none⟩) (xs++a::ys).length cap/\w.heap[g]? =some (.cells cur e (0,0))/\xs.length*GoD.n α+GoD.n α<=cur.size/\g∉Li/\g∈L/\(∀b,b∈Li->b∈L)/\
   own Li w ((cur.toList.drop (xs.length*GoD.n α)).take (GoD.n α)) a/\
   ∀w' ce' a',Upd g (xs.length*GoD.n α) (GoD.n α) Li w w'->own Li w' ce' a'->(∀j u,ce'[j]? =some u->w'.cell? ⟨g,xs.length*GoD.n α+j,none⟩=some u)->own L w' [v] (xs++a'::ys):=by
 obtain ⟨hnd,h | ⟨g,cap,cur,e,Ls,hv,hg,hl,hm,hs,rfl,hLs,hel⟩⟩:=h
 . simp at h
 have hxl:xs.length<Ls.length:=by rw[hLs];simp
 have hxc:xs.length<cap:=by rw[hLs] at hxl;omega
 have ha:(xs++a::ys)[xs.length]? =some a:=by simp
 have hroom:xs.length*GoD.n α+GoD.n α<=cur.size:=by
  have:=zT (GoD.n α) (show xs.length+1<=cap by omega);rw[zR,yD] at this;omega
 have hgn:g∉Ls.flatten:=(yZ.1 hnd).1;have hi:=zH hxl;have ho:=hel _ _ _ hi ha;refine ⟨g,cap,cur,e,Ls[xs.length],by simpa using hv,hg,hroom,λhm'=>hgn (Us hi hm'),by simp,λb hb=>zN _ (Us hi hb),ho,λw' ce' a' hu ho' hc'=> ?_⟩;obtain ⟨cur',h1,h2,h3⟩:=hu.row cur e hg;have hcl:ce'.length=GoD.n α:=GoD.rd_len (GoD.own_rd ho');refine ⟨hnd,.inr ⟨g,cap,cur',e,Ls, ?_,h1,by simpa using hl,hm,h2.trans hs,rfl,by rw[hLs];simp,λi Li x hLi hx=> ?_⟩⟩
 . simpa using hv
 by_cases hik:i=xs.length
 . subst hik;rw[hi] at hLi;obtain rfl:Ls[xs.length]=Li:=by simpa using hLi
   obtain rfl:a'=x:=by simpa using hx
   have:(cur'.toList.drop (xs.length*GoD.n α)).take (GoD.n α)=ce':=by
    apply List.ext_getElem?;intro j;by_cases hj:j<GoD.n α
    . rw[Al hj,yG];have:=hc' j _ (zH (by omega));rw[zH (by omega),←this];simp[World.cell?,h1]
    rw[yI,if_neg hj,xN (by omega)]
   rw[this];exact ho'
 have hx':(xs++a::ys)[i]? =some x:=by
  rw[←hx];by_cases hlt:i<xs.length
  . rw[zU hlt,zU hlt]
  rw[zS (by omega),zS (by omega)];obtain ⟨j,hj⟩:∃j,i-xs.length=j+1:=⟨i-xs.length-1,by omega⟩;rw[hj];simp
 have hox:=hel i Li x hLi hx'
 rw [CZ (b:=cur.toList) (λj hj=>by
  rw[yG,yG];refine h3 _ ?_;rcases Nat.lt_or_gt_of_ne hik with hlt | hgt
  . left
    have:=zT (GoD.n α) (show i+1<=xs.length by omega);rw[zR,yD] at this;omega
  right
  have:=zT (GoD.n α) (show xs.length+1<=i by omega);rw[zR,yD] at this;omega)]
 refine GoD.own_same hox λb hb=>hu.chg.block b (GoD.own_lt hox b hb) (λhm'=> ?_)
 rcases zM.1 hm' with rfl | hm'
 . exact hgn (Us hLi hb)
 have hfn:=(yZ.1 hnd).2;rw[List.nodup_iff_pairwise_ne,List.pairwise_flatten] at hfn;have hpw:=hfn.2;rw[yN] at hpw;have hil:i<Ls.length:=(zF.1 hLi).1;have hie:Ls[i]=Li:=(zF.1 hLi).2;rcases Nat.lt_or_gt_of_ne hik with hlt | hgt
 . exact hpw i xs.length hil hxl hlt b (by rw[hie];exact hb) b hm' rfl
 exact hpw xs.length i hxl hil hgt b hm' b (by rw[hie];exact hb) rfl
theorem Ba {L:List Nat} {w:World} {oa:Option Addr} {l:List α} {n cap:Nat} (h:own L w [.slice oa n cap] l):l.length<=9223372036854775807:=by
 obtain ⟨_,cap,_,h1,h2,_⟩:=GoD.own_rd h;unfold maxLen at h2;omega
theorem Qce {w:World} {oa:Option Addr} {l:List α} {n cap:Nat} (h:rd w [.slice oa n cap] l):l.length<=9223372036854775807:=by
 obtain ⟨_,cap,_,h1,h2,_⟩:=h;unfold maxLen at h2;omega
theorem Zy {w:World} {g o n:Nat} {cur:Array Value} {e:TypeId} {fr:Nat×Nat} {ce:List Value} (h:w.heap[g]? =some (.cells cur e fr)) (hce:(cur.toList.drop o).take n=ce) (j:Nat) (u:Value) (hj:ce[j]? =some u):
 w.cell? ⟨g,o+j,none⟩=some u:=by
 rw[←hce] at hj;rw[yI] at hj;split at hj
 . rw[List.getElem?_drop] at hj;simpa [World.cell?,h] using hj
 cases hj
theorem LY (k:Nat) (z:Int) (h:z=(k:Int)):(z % 3==0)=(k % 3==0):=by
 subst h;rw[Bool.eq_iff_iff];simp;omega
theorem Dd (k:Nat) (h:k<=4611686018427387904):I64 (k:Int):=by unfold I64;omega
theorem Oh (l:List α):∀k,(Qx l k).1.length=l.length:=by
 induction l with
 | nil=>intro k;rfl
 | cons x l ih=>intro k;simp[Qx,ih]
theorem Vy (l:List α) (k:Nat):∀(i:Nat) (a:α),l[i]? =some a->Qx (l.take (i+1)) k=((Qx (l.take i) k).1++ [(GoD.mark a (Qx (l.take i) k).2).1],(GoD.mark a (Qx (l.take i) k).2).2):=by
 induction l generalizing k with
 | nil=>intro i a h;simp at h
 | cons x l ih=>
   intro i a h;cases i with
   | zero=>simp at h;subst h;simp[Qx]
   | succ i=>
     simp at h;simp only[List.take_succ_cons,Qx];rw[ih _ i a h];simp
theorem P4 (l:List α) (k i:Nat) (a:α) (h:l[i]? =some a):(Qx l k).1[i]? =some (GoD.mark a (Qx (l.take i) k).2).1:=by
 have h1:=Vy l k i a h;have h2:=Ps (l.take (i+1)) (l.drop (i+1)) k;have hi:=(zF.1 h).1;have hl:(Qx (l.take i) k).1.length=i:=by rw[Oh,List.length_take];omega
 rw[yV,h1] at h2;rw[h2];rw[zU (by simp[hl]),zS (by omega),hl];simp
theorem K4 (l:List α) (k:Nat) (i:Nat) (a:α) (h:l[i]? =some a):(GoD.mark a (Qx (l.take i) k).2).2<=(Qx l k).2:=by
 have h1:=Vy l k i a h;have h2:=Ps (l.take (i+1)) (l.drop (i+1)) k;rw[yV,h1] at h2;rw[h2];exact Zw _ _
theorem Bg (l:List α):∀k,(Qx l k).1.length=l.length:=by
 induction l with
 | nil=>intro k;rfl
 | cons x l ih=>intro k;simp[Qx,ih]
end
section
variable {α:Type} [GoD α]
theorem bdT {a:α} {k:Nat} (hv:GoD.lvm α<=64) (hs:GoD.size a<=1073741824):(GoD.markT a k).2<=k+68719476736:=by
 have h1:=GoD.mkT_bd a k;have h2:=Nat.mul_le_mul hv hs;omega
theorem bdS {l:List α} {k:Nat} (hv:GoD.lvm (List α)<=64) (hs:GoD.size l<=1073741824):(Qx l k).2<=k+68719476736:=bdT (a:=l) hv hs
end
end
section
open Go.RowKit
open GoD (rd own)
abbrev Dr:=Int×Int×ByteArray
abbrev Km:=ByteArray×Int
abbrev Ee:=ByteArray×Dr
abbrev Xx:=Int×Int×Bool×Int×(List Ee)
abbrev Xr:=(List Km)×(List Xx)×Int
abbrev Yz:=Int×Int×Int×ByteArray×Dr
abbrev Yc:=ByteArray×(List Yz)
abbrev Qj:=ByteArray×(List Int)
abbrev Ef:=ByteArray×(List Int)×(List Int)
abbrev Xj:=Xr×(List Yc)×(List Qj)
abbrev Kf:=Int×Xx×Int×Yc
abbrev Um:=Xr×(List Yc)
abbrev SL:=ByteArray×ByteArray
abbrev Cy:=Int×Um×Int
abbrev Nm:=Int×(List Int)×(List Int)
abbrev Nn:=Int×ByteArray×(List Int)×(List Nm)
abbrev Ab:=Xj×SL×Int×(List Cy)×(List Nn)×(List Int)
theorem Bf {α:Type} {l:List α} (h:l.length=1):∃x0,l= [x0]:=by
 match l,h with
 | [x0],_=>exact ⟨x0,rfl⟩
theorem YE {α:Type} {l:List α} (h:l.length=2):∃x0 x1,l= [x0,x1]:=by
 match l,h with
 | [x0,x1],_=>exact ⟨x0,x1,rfl⟩
theorem SM {α:Type} {l:List α} (h:l.length=3):∃x0 x1 x2,l= [x0,x1,x2]:=by
 match l,h with
 | [x0,x1,x2],_=>exact ⟨x0,x1,x2,rfl⟩
theorem Qkq {α:Type} {l:List α} (h:l.length=4):∃x0 x1 x2 x3,l= [x0,x1,x2,x3]:=by
 match l,h with
 | [x0,x1,x2,x3],_=>exact ⟨x0,x1,x2,x3,rfl⟩
theorem Qjo {α:Type} {l:List α} (h:l.length=5):∃x0 x1 x2 x3 x4,l= [x0,x1,x2,x3,x4]:=by
 match l,h with
 | [x0,x1,x2,x3,x4],_=>exact ⟨x0,x1,x2,x3,x4,rfl⟩
theorem Qmi {α:Type} {l:List α} (h:l.length=6):∃x0 x1 x2 x3 x4 x5,l= [x0,x1,x2,x3,x4,x5]:=by
 match l,h with
 | [x0,x1,x2,x3,x4,x5],_=>exact ⟨x0,x1,x2,x3,x4,x5,rfl⟩
theorem Qmj {α:Type} {l:List α} (h:l.length=7):∃x0 x1 x2 x3 x4 x5 x6,l= [x0,x1,x2,x3,x4,x5,x6]:=by
 match l,h with
 | [x0,x1,x2,x3,x4,x5,x6],_=>exact ⟨x0,x1,x2,x3,x4,x5,x6,rfl⟩
theorem Qmk {α:Type} {l:List α} (h:l.length=9):∃x0 x1 x2 x3 x4 x5 x6 x7 x8,l= [x0,x1,x2,x3,x4,x5,x6,x7,x8]:=by
 match l,h with
 | [x0,x1,x2,x3,x4,x5,x6,x7,x8],_=>exact ⟨x0,x1,x2,x3,x4,x5,x6,x7,x8,rfl⟩
theorem VG {w:World} {cs:List Value} {a:Dr} (h:rd w cs a):cs= [.int .i64 a.1,.int .i64 a.2.1,.string a.2.2]:=by
 obtain ⟨_,_,rfl,⟨rfl,_⟩,⟨_,_,rfl,⟨rfl,_⟩,⟨rfl,_⟩⟩⟩:=h;exact rfl
theorem LZ {w:World} {cs:List Value} {a:Km} (h:rd w cs a):cs= [.string a.1,.int .i64 a.2]:=by
 obtain ⟨_,_,rfl,⟨rfl,_⟩,⟨rfl,_⟩⟩:=h;exact rfl
theorem SN {w:World} {cs:List Value} {a:Ee} (h:rd w cs a):cs= [.string a.1,.int .i64 a.2.1,.int .i64 a.2.2.1,.string a.2.2.2]:=by
 obtain ⟨_,_,rfl,⟨rfl,_⟩,⟨_,_,rfl,⟨rfl,_⟩,⟨_,_,rfl,⟨rfl,_⟩,⟨rfl,_⟩⟩⟩⟩:=h;exact rfl
theorem BE {w:World} {cs:List Value} {a:Xx} (h:rd w cs a):∃(oa1:Option Addr) (cp1:Nat),cs= [.int .i64 a.1,.int .i64 a.2.1,.bool a.2.2.1,.int .i64 a.2.2.2.1,.slice oa1 a.2.2.2.2.length cp1]:=by
 obtain ⟨_,_,rfl,⟨rfl,_⟩,⟨_,_,rfl,⟨rfl,_⟩,⟨_,_,rfl,rfl,⟨_,_,rfl,⟨rfl,_⟩,⟨oa1,cp1,rfl,_⟩⟩⟩⟩⟩:=h;exact ⟨oa1,cp1,rfl⟩
theorem VH {w:World} {cs:List Value} {a:Xr} (h:rd w cs a):∃(oa1:Option Addr) (cp1:Nat) (oa2:Option Addr) (cp2:Nat),cs= [.slice oa1 a.1.length cp1,.slice oa2 a.2.1.length cp2,.int .i64 a.2.2]:=by
 obtain ⟨_,_,rfl,⟨oa1,cp1,rfl,_⟩,⟨_,_,rfl,⟨oa2,cp2,rfl,_⟩,⟨rfl,_⟩⟩⟩:=h;exact ⟨oa1,cp1,oa2,cp2,rfl⟩
theorem SO {w:World} {cs:List Value} {a:Yz} (h:rd w cs a):cs= [.int .i64 a.1,.int .i64 a.2.1,.int .i64 a.2.2.1,.string a.2.2.2.1,.int .i64 a.2.2.2.2.1,.int .i64 a.2.2.2.2.2.1,.string a.2.2.2.2.2.2]:=by
 obtain ⟨_,_,rfl,⟨rfl,_⟩,⟨_,_,rfl,⟨rfl,_⟩,⟨_,_,rfl,⟨rfl,_⟩,⟨_,_,rfl,⟨rfl,_⟩,⟨_,_,rfl,⟨rfl,_⟩,⟨_,_,rfl,⟨rfl,_⟩,⟨rfl,_⟩⟩⟩⟩⟩⟩⟩:=h;exact rfl
theorem FM {w:World} {cs:List Value} {a:Yc} (h:rd w cs a):∃(oa1:Option Addr) (cp1:Nat),cs= [.string a.1,.slice oa1 a.2.length cp1]:=by
 obtain ⟨_,_,rfl,⟨rfl,_⟩,⟨oa1,cp1,rfl,_⟩⟩:=h;exact ⟨oa1,cp1,rfl⟩
theorem FN {w:World} {cs:List Value} {a:Qj} (h:rd w cs a):∃(oa1:Option Addr) (cp1:Nat),cs= [.string a.1,.slice oa1 a.2.length cp1]:=by
 obtain ⟨_,_,rfl,⟨rfl,_⟩,⟨oa1,cp1,rfl,_⟩⟩:=h;exact ⟨oa1,cp1,rfl⟩
theorem DA {w:World} {cs:List Value} {a:Xj} (h:rd w cs a):∃(oa1:Option Addr) (cp1:Nat) (oa2:Option Addr) (cp2:Nat) (oa3:Option Addr) (cp3:Nat) (oa4:Option Addr) (cp4:Nat),cs= [.slice oa1 a.1.1.length cp1,.slice oa2 a.1.2.1.length cp2,.int .i64 a.1.2.2,.slice oa3 a.2.1.length cp3,.slice oa4 a.2.2.length cp4]:=by
 obtain ⟨_,_,rfl,⟨_,_,rfl,⟨oa1,cp1,rfl,_⟩,⟨_,_,rfl,⟨oa2,cp2,rfl,_⟩,⟨rfl,_⟩⟩⟩,⟨_,_,rfl,⟨oa3,cp3,rfl,_⟩,⟨oa4,cp4,rfl,_⟩⟩⟩:=h;exact ⟨oa1,cp1,oa2,cp2,oa3,cp3,oa4,cp4,rfl⟩
theorem FO {w:World} {cs:List Value} {a:Kf} (h:rd w cs a):∃(oa1:Option Addr) (cp1:Nat) (oa2:Option Addr) (cp2:Nat),cs= [.int .i64 a.1,.int .i64 a.2.1.1,.int .i64 a.2.1.2.1,.bool a.2.1.2.2.1,.int .i64 a.2.1.2.2.2.1,.slice oa1 a.2.1.2.2.2.2.length cp1,.int .i64 a.2.2.1,.string a.2.2.2.1,.slice oa2 a.2.2.2.2.length cp2]:=by
 obtain ⟨_,_,rfl,⟨rfl,_⟩,⟨_,_,rfl,⟨_,_,rfl,⟨rfl,_⟩,⟨_,_,rfl,⟨rfl,_⟩,⟨_,_,rfl,rfl,⟨_,_,rfl,⟨rfl,_⟩,⟨oa1,cp1,rfl,_⟩⟩⟩⟩⟩,⟨_,_,rfl,⟨rfl,_⟩,⟨_,_,rfl,⟨rfl,_⟩,⟨oa2,cp2,rfl,_⟩⟩⟩⟩⟩:=h;exact ⟨oa1,cp1,oa2,cp2,rfl⟩
theorem UW {w:World} {cs:List Value} {a:Um} (h:rd w cs a):∃(oa1:Option Addr) (cp1:Nat) (oa2:Option Addr) (cp2:Nat) (oa3:Option Addr) (cp3:Nat),cs= [.slice oa1 a.1.1.length cp1,.slice oa2 a.1.2.1.length cp2,.int .i64 a.1.2.2,.slice oa3 a.2.length cp3]:=by
 obtain ⟨_,_,rfl,⟨_,_,rfl,⟨oa1,cp1,rfl,_⟩,⟨_,_,rfl,⟨oa2,cp2,rfl,_⟩,⟨rfl,_⟩⟩⟩,⟨oa3,cp3,rfl,_⟩⟩:=h;exact ⟨oa1,cp1,oa2,cp2,oa3,cp3,rfl⟩
theorem SP {w:World} {cs:List Value} {a:SL} (h:rd w cs a):cs= [.string a.1,.string a.2]:=by
 obtain ⟨_,_,rfl,⟨rfl,_⟩,⟨rfl,_⟩⟩:=h;exact rfl
theorem DB {w:World} {cs:List Value} {a:Cy} (h:rd w cs a):∃(oa1:Option Addr) (cp1:Nat) (oa2:Option Addr) (cp2:Nat) (oa3:Option Addr) (cp3:Nat),cs= [.int .i64 a.1,.slice oa1 a.2.1.1.1.length cp1,.slice oa2 a.2.1.1.2.1.length cp2,.int .i64 a.2.1.1.2.2,.slice oa3 a.2.1.2.length cp3,.int .i64 a.2.2]:=by
 obtain ⟨_,_,rfl,⟨rfl,_⟩,⟨_,_,rfl,⟨_,_,rfl,⟨_,_,rfl,⟨oa1,cp1,rfl,_⟩,⟨_,_,rfl,⟨oa2,cp2,rfl,_⟩,⟨rfl,_⟩⟩⟩,⟨oa3,cp3,rfl,_⟩⟩,⟨rfl,_⟩⟩⟩:=h;exact ⟨oa1,cp1,oa2,cp2,oa3,cp3,rfl⟩
theorem MA {w:World} {cs:List Value} {a:Nm} (h:rd w cs a):∃(oa1:Option Addr) (cp1:Nat) (oa2:Option Addr) (cp2:Nat),cs= [.int .i64 a.1,.slice oa1 a.2.1.length cp1,.slice oa2 a.2.2.length cp2]:=by
 obtain ⟨_,_,rfl,⟨rfl,_⟩,⟨_,_,rfl,⟨oa1,cp1,rfl,_⟩,⟨oa2,cp2,rfl,_⟩⟩⟩:=h;exact ⟨oa1,cp1,oa2,cp2,rfl⟩
theorem MB {w:World} {cs:List Value} {a:Nn} (h:rd w cs a):∃(oa1:Option Addr) (cp1:Nat) (oa2:Option Addr) (cp2:Nat),cs= [.int .i64 a.1,.string a.2.1,.slice oa1 a.2.2.1.length cp1,.slice oa2 a.2.2.2.length cp2]:=by
 obtain ⟨_,_,rfl,⟨rfl,_⟩,⟨_,_,rfl,⟨rfl,_⟩,⟨_,_,rfl,⟨oa1,cp1,rfl,_⟩,⟨oa2,cp2,rfl,_⟩⟩⟩⟩:=h;exact ⟨oa1,cp1,oa2,cp2,rfl⟩
theorem FP {w:World} {cs:List Value} {a:Ab} (h:rd w cs a):∃(oa1:Option Addr) (cp1:Nat) (oa2:Option Addr) (cp2:Nat) (oa3:Option Addr) (cp3:Nat) (oa4:Option Addr) (cp4:Nat) (oa5:Option Addr) (cp5:Nat) (oa6:Option Addr) (cp6:Nat) (oa7:Option Addr) (cp7:Nat),cs= [.slice oa1 a.1.1.1.length cp1,.slice oa2 a.1.1.2.1.length cp2,.int .i64 a.1.1.2.2,.slice oa3 a.1.2.1.length cp3,.slice oa4 a.1.2.2.length cp4,.string a.2.1.1,.string a.2.1.2,.int .i64 a.2.2.1,.slice oa5 a.2.2.2.1.length cp5,.slice oa6 a.2.2.2.2.1.length cp6,.slice oa7 a.2.2.2.2.2.length cp7]:=by
 obtain ⟨_,_,rfl,⟨_,_,rfl,⟨_,_,rfl,⟨oa1,cp1,rfl,_⟩,⟨_,_,rfl,⟨oa2,cp2,rfl,_⟩,⟨rfl,_⟩⟩⟩,⟨_,_,rfl,⟨oa3,cp3,rfl,_⟩,⟨oa4,cp4,rfl,_⟩⟩⟩,⟨_,_,rfl,⟨_,_,rfl,⟨rfl,_⟩,⟨rfl,_⟩⟩,⟨_,_,rfl,⟨rfl,_⟩,⟨_,_,rfl,⟨oa5,cp5,rfl,_⟩,⟨_,_,rfl,⟨oa6,cp6,rfl,_⟩,⟨oa7,cp7,rfl,_⟩⟩⟩⟩⟩⟩:=h;exact ⟨oa1,cp1,oa2,cp2,oa3,cp3,oa4,cp4,oa5,cp5,oa6,cp6,oa7,cp7,rfl⟩
end
section
open Go.RowKit
open GoD (rd own)
theorem Qjp {P:Program} (w:World) (base:Nat) (t ty e:TypeId) (i:TypeInfo) (z:Value) (ht:P.underlying t=some (.slice e)) (hi:P.info? e=some i) (hz:i.zero=some z)
 (hzs:z.cells.size=i.size) (hsz:0<i.size) (hb:i.bytes<=1000) {v:Value} {n:Nat} {xs:List Value} (hown:w.ownsRow base e i.size v n xs)
 (a:Addr) (m c:Nat) (news:List Value) (hl:news.length=m*i.size) (hnews:∀j u,news[j]? =some u->w.cell? (a.add j)=some u) (h1:∀u∈news,u.oneCell'=true)
 (hnm:n+m<=1073741824) (hbase:base<=w.heap.size):
 ∃ v' w',(Builtin.append_ #[t,t] ty #[v,.slice (some a) m c]).run P w= .ok v' w'/\w'.ownsRow base e i.size v' (n+m) (xs++news)/\w.grownBy w' v.ownBlock/\
   (∀g,v'.ownBlock=some g->v.ownBlock=some g\/w.heap.size<=g)/\(∀x k c,v= .slice (some x) k c->c<n+m->(∀g,v'.ownBlock=some g->w.heap.size<=g)/\w.grownBy w' none):=by
 have hbytes:((n+m)+(n+m) / 4+192)*i.bytes<=281474976710656:=yC (Nat.mul_le_mul (show _<=1342177472 by omega) hb) (by decide);have h63:n+m<=maxLen:=by unfold maxLen;omega
 rcases hown.2 with ⟨rfl,rfl⟩ | ⟨g,cap,cur,rfl,hbg,hg,hnc,hcm,hcs,htake⟩
 . have h0:w.ownsRow w.heap.size e i.size (.slice none 0 0) 0 xs:=⟨hown.1,.inl ⟨rfl,rfl⟩⟩;obtain ⟨v',w',hr,hw,hgr,_⟩:=run_append_own_wide w w.heap.size t ty e i z i.size i.bytes ht hi hz rfl rfl hzs hsz _ 0 xs h0 a m c news hl hnews h1 h63 hbytes (zX _);refine ⟨v',w',hr,⟨hw.1, ?_⟩,hgr,λg hg=> .inr (World.ownsRow.lt hw g hg).1,λx k c h=>(by cases h)⟩;rcases hw.2 with h | ⟨g,cap,cur,h1,h2,h3⟩
   . exact .inl h
   exact .inr ⟨g,cap,cur,h1,yC hbase h2,h3⟩
 by_cases hroom:n+m<=cap
 . obtain ⟨w',hr,hw,hgr⟩:=run_append_own_spare w base t ty e i i.size ht hi rfl g n cap xs hown a m c news hl hnews h1 hroom;exact ⟨_,w',hr,hw,hgr,λk hk=> .inl hk,λx k c h hlt=>(by cases h;omega)⟩
 have hgs:cap<n+m:=by omega
 have hr:=run_append_grow (P:=P) w t ty e i z ht hi hz ⟨g,0,none⟩ n cap xs hown.1 (hown.cells (g:=g) rfl) a m c news hl hnews hgs (by unfold maxLen at h63;omega) (growslice_fits_wide hgs hbytes)
 refine ⟨_,_,hr,⟨by rw[yQ,hown.1,hl,zR],.inr ⟨w.heap.size,_,_,rfl,hbase,heap_alloc_new w.drew _,grownCap_ge w (n+m) cap e,grownCap_le_maxLen w (n+m) cap e h63, ?_, ?_⟩⟩,
  ⟨rfl,rfl,rfl,by simp,λk hk _=>heap_alloc_old w.drew _ hk⟩,λk hk=> .inr ?_,λx k c _ _=>⟨λg' hk=> ?_,rfl,rfl,rfl,by simp,λk hk _=>heap_alloc_old w.drew _ hk⟩⟩
 . have hge:=grownCap_ge w (n+m) cap e;simp only[Array.size_append,List.size_toArray,size_zeroCells,hzs,hown.1,hl,←zR]
   congr 1
   omega
 . simp only[Array.toList_append,List.append_assoc];rw[←List.append_assoc,yY (by simp[hown.1,hl,zR]),List.take_of_length_le (by simp[hown.1,hl,zR])]
 . simp only[Value.ownBlock,yS] at hk;omega
 simp only[Value.ownBlock,yS] at hk;omega
section
variable {α:Type} [GoD α]
def App (e:TypeId) (w0 w:World) (L:List Nat) (v:Value) (l:List α):Prop:=
 ∃ (xs:List Value) (Ls:List (List Nat)),w.ownsRow w0.heap.size e (GoD.n α) v l.length xs/\L=v.ownBlock.toList++Ls.flatten/\L.Nodup/\(∀b,b∈L->w0.heap.size<=b/\b<w.heap.size)/\Ls.length=l.length/\
   ∀i Li a,Ls[i]? =some Li->l[i]? =some a->own Li w ((xs.drop (i*GoD.n α)).take (GoD.n α)) a
def AppR (e:TypeId) (w0 w:World) (v:Value) (l:List α):Prop:=
 ∃(xs:List Value),w.ownsRow w0.heap.size e (GoD.n α) v l.length xs/\∀i a,l[i]? =some a->rd w0 ((xs.drop (i*GoD.n α)).take (GoD.n α)) a
theorem ZA {w w':World} {base:Nat} {e:TypeId} {sz n:Nat} {v:Value} {xs:List Value} (h:w.ownsRow base e sz v n xs) (hb:∀b,v.ownBlock=some b->w'.heap[b]? =w.heap[b]?):w'.ownsRow base e sz v n xs:=by
 refine ⟨h.1, ?_⟩;rcases h.2 with h | ⟨g,cap,cur,rfl,h2,h3,h4⟩
 . exact .inl h
 exact .inr ⟨g,cap,cur,rfl,h2,(hb g rfl).trans h3,h4⟩
theorem App.keep {e:TypeId} {w0 w w':World} {L:List Nat} {v:Value} {l:List α} (h:App e w0 w L v l) (hb:Below w.heap.size w w'):App e w0 w' L v l:=by
 obtain ⟨xs,Ls,h1,h2,h3,h4,h5,h6⟩:=h;exact ⟨xs,Ls,ZA h1 (λb hm=>hb.block b (World.ownsRow.lt h1 b hm).2),h2,h3,λb hm=>⟨(h4 b hm).1,yR (h4 b hm).2 hb.size⟩,h5,λi Li a x y=>Ku (h6 i Li a x y) hb⟩
theorem AppR.keep {e:TypeId} {w0 w w':World} {v:Value} {l:List α} (h:AppR e w0 w v l) (hb:Below w.heap.size w w'):AppR e w0 w' v l:=by
 obtain ⟨xs,h1,h2⟩:=h;exact ⟨xs,ZA h1 (λb hm=>hb.block b (World.ownsRow.lt h1 b hm).2),h2⟩
theorem App.start {e:TypeId} {w0 w:World} {v:Value} {c:Nat} {cur:Array Value} {g:Nat} (hv:v= .slice (some ⟨g,0,none⟩) 0 c) (hg:w.heap[g]? =some (.cells cur e (0,0))) (hs:cur.size=c*GoD.n α) (hc:c<=maxLen) (h0:w0.heap.size<=g):App e w0 w [g] v ([]:List α):=by
 subst hv;exact ⟨[], [],⟨by simp,.inr ⟨g,c,cur,rfl,h0,hg,yL _,hc,hs,by simp⟩⟩,rfl,by simp,λb hb=>by rw[zW.1 hb];exact ⟨h0,Q7 hg⟩,rfl,by simp⟩
theorem AppR.start {e:TypeId} {w0 w:World} {v:Value} {c:Nat} {cur:Array Value} {g:Nat} (hv:v= .slice (some ⟨g,0,none⟩) 0 c) (hg:w.heap[g]? =some (.cells cur e (0,0))) (hs:cur.size=c*GoD.n α) (hc:c<=maxLen) (h0:w0.heap.size<=g):AppR e w0 w v ([]:List α):=by
 subst hv;exact ⟨[],⟨by simp,.inr ⟨g,c,cur,rfl,h0,hg,yL _,hc,hs,by simp⟩⟩,by simp⟩
theorem App.alloc {e:TypeId} {w0 w:World} {L:List Nat} {v:Value} {l:List α} (h:App e w0 w L v l) (o:Obj):App e w0 (w.alloc o) L v l:=h.keep ((Below.refl _ _).alloc (Nat.le_refl _) _)
theorem App.drew {e:TypeId} {w0 w:World} {L:List Nat} {v:Value} {l:List α} (h:App e w0 w L v l):App e w0 w.drew L v l:=h.keep ((Below.refl _ _).drew)
theorem AppR.alloc {e:TypeId} {w0 w:World} {v:Value} {l:List α} (h:AppR e w0 w v l) (o:Obj):AppR e w0 (w.alloc o) v l:=h.keep ((Below.refl _ _).alloc (Nat.le_refl _) _)
theorem AppR.drew {e:TypeId} {w0 w:World} {v:Value} {l:List α} (h:AppR e w0 w v l):AppR e w0 w.drew v l:=h.keep ((Below.refl _ _).drew)
theorem App.nil {e:TypeId} (w0 w:World):App e w0 w [] (.slice none 0 0) ([]:List α):=⟨[], [],⟨by simp,.inl ⟨rfl,rfl⟩⟩,rfl,by simp,by simp,rfl,by simp⟩
theorem AppR.nil {e:TypeId} (w0 w:World):AppR e w0 w (.slice none 0 0) ([]:List α):=⟨[],⟨by simp,.inl ⟨rfl,rfl⟩⟩,by simp⟩
theorem App.done {e:TypeId} {w0 w:World} {L:List Nat} {v:Value} {l:List α} (h:App e w0 w L v l):own L w [v] l:=by
 obtain ⟨xs,Ls,⟨h1,h2⟩,rfl,h3,h4,h5,h6⟩:=h;refine ⟨h3, ?_⟩;rcases h2 with ⟨rfl,hl⟩ | ⟨g,cap,cur,rfl,_,hg,hnc,hcm,hcs,rfl⟩
 . have:l= []:=zO hl;subst this;have:Ls= []:=zO h5;subst this;exact .inl ⟨rfl,rfl,none,rfl⟩
 refine .inr ⟨g,cap,cur,e,Ls,rfl,hg,hnc,hcm,hcs,rfl,h5,λi Li a hi ha=> ?_⟩;have h:=h6 i Li a hi ha;have hil:i<l.length:=(zF.1 ha).1
 rw[xP,xQ,xL (by
  have:=zT (GoD.n α) (show i+1<=l.length by omega);rw[zR,yD] at this;omega)] at h
 exact h
theorem App.ge {e:TypeId} {w0 w:World} {L:List Nat} {v:Value} {l:List α} (h:App e w0 w L v l):∀b,b∈L->w0.heap.size<=b:=by
 obtain ⟨_,_,_,_,_,h4,_⟩:=h;exact λb hb=>(h4 b hb).1
theorem App.lt {e:TypeId} {w0 w:World} {L:List Nat} {v:Value} {l:List α} (h:App e w0 w L v l):∀b,b∈L->b<w.heap.size:=by
 obtain ⟨_,_,_,_,_,h4,_⟩:=h;exact λb hb=>(h4 b hb).2
theorem AppR.done {e:TypeId} {w0 w:World} {v:Value} {l:List α} (h:AppR e w0 w v l) (hb:Below w0.heap.size w0 w):rd w [v] l:=by
 obtain ⟨xs,⟨h1,h2⟩,h6⟩:=h;rcases h2 with ⟨rfl,hl⟩ | ⟨g,cap,cur,rfl,_,hg,hnc,hcm,hcs,rfl⟩
 . have:l= []:=zO hl;subst this;exact ⟨none,0,rfl,zX _,yL _,by simp⟩
 refine ⟨some ⟨g,0,none⟩,cap,rfl,hnc,hcm,λi a ha=>⟨g,0,_,rfl,GoD.rd_len (h6 i a ha),λj u hj=> ?_,Xw (h6 i a ha) hb⟩⟩;have hlt:=(zF.1 hj).1;simp only[List.length_take] at hlt;rw[Al (by omega),yI] at hj;split at hj
 . rw[xW];rw[yG] at hj;simp[World.cell?,hg,hj]
 cases hj
theorem AppR.slice {e:TypeId} {w0 w:World} {v:Value} {l:List α} (h:AppR e w0 w v l):∃oa cap,v= .slice oa l.length cap:=by
 obtain ⟨xs,⟨_,h2⟩,_⟩:=h;rcases h2 with ⟨rfl,hl⟩ | ⟨g,cap,cur,rfl,_⟩
 . exact ⟨none,0,by rw[hl]⟩
 exact ⟨_,_,rfl⟩
theorem App.slice {e:TypeId} {w0 w:World} {L:List Nat} {v:Value} {l:List α} (h:App e w0 w L v l):∃oa cap,v= .slice oa l.length cap:=Yd h.done
end
end
section
open Go.RowKit
open GoD (rd own)
theorem MC {P:Program} (w:World) (t ty e:TypeId) (i:TypeInfo) (ht:P.underlying t=some (.slice e)) (hi:P.info? e=some i) (g n cap:Nat) (hn:n<=cap):
 (Builtin.append_ #[t,t] ty #[.slice (some ⟨g,0,none⟩) n cap,.slice none 0 0]).run P w= .ok (.slice (some ⟨g,0,none⟩) n cap) w:=by
 simp[Builtin.append_,run_underlying ht,sizeOf,typeInfo,hi,Builtin.lenOf,Builtin.firstCells,loadCells,loadCellsFrom,hn,storeCells]
section
variable {α:Type} [GoD α]
def Plain (α:Type) [GoD α]:Prop:=0<GoD.n α/\∀(w w':World) (cs:List Value) (a:α),rd w cs a->own [] w' cs a/\∀u∈cs,u.oneCell'=true
theorem Ff:Plain Int:=⟨yJ,λw w' cs a h=>⟨⟨rfl,h.1,h.2⟩,by rw[h.1];simp[Value.oneCell']⟩⟩
theorem Np:Plain ByteArray:=⟨yJ,λw w' cs a h=>⟨⟨rfl,h.1,h.2⟩,by rw[h.1];simp[Value.oneCell']⟩⟩
theorem Bu {β:Type} [GoD β] (h1:Plain α) (h2:Plain β):Plain (α×β):=by
 refine ⟨yR h1.1 (yX _ _),λw w' cs a h=> ?_⟩;obtain ⟨c1,c2,rfl,k1,k2⟩:=h;obtain ⟨o1,u1⟩:=h1.2 w w' _ _ k1;obtain ⟨o2,u2⟩:=h2.2 w w' _ _ k2;refine ⟨X0 o1 o2 (by simp),λu hu=> ?_⟩;rcases yA.1 hu with hu | hu
 . exact u1 u hu
 exact u2 u hu
theorem Qf3 {w:World} {oa:Option Addr} {cap:Nat} {l:List α} (hn:0<GoD.n α) (h:rd w [.slice oa l.length cap] l):l= []\/∃(b off:Nat) (news:List Value),oa=some ⟨b,off,none⟩/\news.length=l.length*GoD.n α/\(∀j u,news[j]? =some u->w.cell? ⟨b,off+j,none⟩=some u)/\
 ∀i a,l[i]? =some a->rd w ((news.drop (i*GoD.n α)).take (GoD.n α)) a:=by
 obtain ⟨oa',cap',e,hl,hm,hel⟩:=h;obtain ⟨rfl,rfl⟩:oa=oa'/\cap=cap':=by simpa using e
 cases hcase:l with
 | nil=>exact .inl rfl
 | cons a0 l0=>
   right
   obtain ⟨b,off,_,rfl,_⟩:=hel 0 a0 (by simp[hcase]);rw[←hcase]
   have key:∀k,k<=l.length->∃news:List Value,news.length=k*GoD.n α/\(∀j u,news[j]? =some u->w.cell? ⟨b,off+j,none⟩=some u)/\∀i a,i<k->l[i]? =some a->rd w ((news.drop (i*GoD.n α)).take (GoD.n α)) a:=by
    intro k
    induction k with
    | zero=>intro _;exact ⟨[],by simp,by simp,λi a hi=>absurd hi (Nat.not_lt_zero _)⟩
    | succ k ih=>
      intro hk;obtain ⟨news,h1,h2,h3⟩:=ih (by omega);obtain ⟨b',off',ce,e',hcl,hcc,hr⟩:=hel k _ (zH (by omega:k<l.length));obtain ⟨rfl,rfl⟩:b=b'/\off=off':=by simpa using e'
      refine ⟨news++ce,by rw[yQ,h1,hcl,zR,yD],λj u hj=> ?_,λi a hi ha=> ?_⟩
      . rcases xV j news.length with h | h
        . rw[zU h] at hj;exact h2 j u hj
        rw[zS h] at hj;have:=hcc _ u hj;rw[show off+k*GoD.n α+(j-news.length)=off+j by rw[←h1];omega] at this;exact this
      rcases xV i k with h | h
      . have hmul:=zT (GoD.n α) (show i+1<=k by omega);rw[zR,yD] at hmul;rw[List.drop_append_of_le_length (by omega),yY (by rw[List.length_drop];omega)];exact h3 i a h ha
      obtain rfl:i=k:=by omega
      rw[zH (by omega)] at ha;obtain rfl:=zD ha;rw[←h1,List.drop_left,←hcl,List.take_length];exact hr
   obtain ⟨news,h1,h2,h3⟩:=key l.length (zX _);exact ⟨b,off,news,rfl,h1,h2,λi a ha=>h3 i a (zF.1 ha).1 ha⟩
theorem SQ {P:Program} (w:World) (t ty e:TypeId) (hpl:Plain α) (ht:P.underlying t=some (.slice e))
 (hinf:(P.info? e).map (λi=>(i.zero.map (·.cells.size),i.size,decide (i.bytes<=1000)))=some (some (GoD.n α),GoD.n α,true)) {g:Nat} (hg:w.heap[g]? =some (.cells #[] e (0,0)))
 {y:Value} {l:List α} (hr:rd w [y] l) (hl:l.length<=1073741824):
 ∃v' w' L,(Builtin.append_ #[t,t] ty #[.slice (some ⟨g,0,none⟩) 0 0,y]).run P w= .ok v' w'/\own L w' [v'] l/\Ext w w'/\∀b∈L,w.heap.size<=b/\b<w'.heap.size:=by
 obtain ⟨i,z,hi,hz,hsize,hzn,hb⟩:=Qaw hinf;obtain ⟨oa,cap,rfl⟩:=Ll hr;have hown:w.ownsRow g e i.size (.slice (some ⟨g,0,none⟩) 0 0) 0 []:=⟨by simp,.inr ⟨g,0, #[],rfl,zX _,hg,zX _,yL _,by simp,by simp⟩⟩;have h0:own [] w [.slice (some ⟨g,0,none⟩) 0 0] ([]:List α):=⟨by simp,.inl ⟨rfl,rfl,_,rfl⟩⟩;rcases Qf3 hpl.1 hr with rfl | ⟨b,off,news,rfl,hnl,hnews,hrd⟩
 . cases oa with
   | none=>
     obtain ⟨_,_,ee,_,_,_⟩:=hr;by_cases hc:cap=0
     . subst hc;exact ⟨_,w, [],MC w t ty e i ht hi g 0 0 (zX _),h0,Ext.refl w,by simp⟩
     refine ⟨_,w, [], ?_,h0,Ext.refl w,by simp⟩;simp[Builtin.append_,run_underlying ht,sizeOf,typeInfo,hi,Builtin.lenOf,Builtin.firstCells,loadCells,loadCellsFrom,storeCells]
   | some ad=>
     refine ⟨_,w, [], ?_,h0,Ext.refl w,by simp⟩;simp[Builtin.append_,run_underlying ht,sizeOf,typeInfo,hi,Builtin.lenOf,Builtin.firstCells,loadCells,loadCellsFrom,storeCells]
 cases hlc:l with
 | nil=>
   subst hlc;refine ⟨_,w, [], ?_,h0,Ext.refl w,by simp⟩;simp[Builtin.append_,run_underlying ht,sizeOf,typeInfo,hi,Builtin.lenOf,Builtin.firstCells,loadCells,loadCellsFrom,storeCells]
 | cons a0 l0=>
   rw[←hlc];have hpos:0<l.length:=by rw[hlc];simp
   have h1:∀u∈news,Value.oneCell' u=true:=λu hu=>by
    obtain ⟨j,hj,rfl⟩:=xS hu;have hnp:=hpl.1;have hjn:j / GoD.n α<l.length:=by rw[Nat.div_lt_iff_lt_mul hnp];omega
    have hx:=(hpl.2 w w _ _ (hrd _ _ (zH hjn))).2;refine hx _ (yK (i:=j % GoD.n α) ?_);rw[Al (Nat.mod_lt _ hnp),Nat.mul_comm,Nat.div_add_mod,zH hj]
   obtain ⟨v',w',hr',hw,hgr,_,hfresh⟩:=Qjp (P:=P) w g t ty e i z ht hi hz (by rw[hsize];exact hzn) (by rw[hsize];exact hpl.1) hb hown ⟨b,off,none⟩ l.length cap news (by rw[hsize];exact hnl) (λj u hj=>by
    have:=hnews j u hj;unfold Addr.add;by_cases hj0:j=0
    . subst hj0;simpa using this
    simpa [hj0] using this) h1 (by omega) (Nat.le_of_lt (Q7 hg))
   obtain ⟨hf1,hf2⟩:=hfresh _ _ _ rfl (by omega);have hext:Ext w w':=(Below.refl _ _).grown hf2 (zX _) (λk hk=>by cases hk);rw[xW,xM,hsize] at hw
   have hA:App e w w' (v'.ownBlock.toList++(xF l.length ([]:List Nat)).flatten) v' l:=by
    refine ⟨news,xF l.length [],⟨hw.1, ?_⟩,rfl, ?_, ?_,by simp,λi Li a hLi ha=> ?_⟩
    . rcases hw.2 with h | ⟨g',cap',cur,h1,h2,h3⟩
      . exact .inl h
      exact .inr ⟨g',cap',cur,h1,hf1 g' (by rw[h1];rfl),h3⟩
    . simp only[xG,xA];cases v'.ownBlock<;>simp
    . intro b' hb';simp only[xG,xA] at hb';have hb2:v'.ownBlock=some b':=by simpa using hb'
      exact ⟨hf1 b' hb2,(World.ownsRow.lt hw b' hb2).2⟩
    have:Li= []:=by
     have:=yK hLi;exact (List.mem_replicate.1 this).2
    subst this;exact (hpl.2 w w' _ _ (hrd i a ha)).1
   exact ⟨v',w',_,hr',hA.done,hext,λb hb=>⟨hA.ge b hb,hA.lt b hb⟩⟩
theorem Fg {P:Program} {w:World} {ops:Array Oper} {rest:List Oper} {o:Oper} {a:Act} {Q:Exit->Act->World->Prop} (s x:Operand) (t e:TypeId) (hpl:Plain α) (g:Nat) {y:Value} {l:List α} (hr:rd w [y] l) (hl:l.length<=1073741824)
 (hg:w.heap[g]? =some (.cells #[] e (0,0))) (hgd:o.guard=none) (ho:o.op= .call {callee:= .builtin .append,args:= #[s,x],argTypes:= #[t,t]}) (ht:P.underlying t=some (.slice e))
 (hinf:(P.info? e).map (λi=>(i.zero.map (·.cells.size),i.size,decide (i.bytes<=1000)))=some (some (GoD.n α),GoD.n α,true)) (hs:a.eval s= .slice (some ⟨g,0,none⟩) 0 0) (hx:a.eval x=y)
 (k:∀v' w' L,own L w' [v'] l->Ext w w'->(∀b∈L,w.heap.size<=b/\b<w'.heap.size)->wpList P ops Q rest (a.put o.dst v') w'):wpList P ops Q (o::rest) a w:=by
 refine wpList_plain hgd λ_ hK=> ?_
 obtain ⟨v',w',L,hr',h1,h2,h3⟩:=SQ (P:=P) w t o.type e hpl ht hinf hg hr hl;unfold Oper.wp execOp;simp only[ho,resolve,invoke,builtin,Sem.run_bind,Sem.run_pure,Result.andThen_ok,List.map_toArray,yE,List.map_nil,hs,hx,hr'];exact hK _ _ (k v' w' L h1 h2 h3)
end
section
variable {P:Program} {o:Oper} {a:Act} {w:World} {K:Act->World->Prop} {Q:Exit->Act->World->Prop}
def New0 (e:TypeId) (v:Value) (L:List Nat) (w:World):Prop:=L= []/\∃g,v= .slice (some ⟨g,0,none⟩) 0 0/\w.heap[g]? =some (.cells #[] e (0,0))
theorem New0.keep {e:TypeId} {v:Value} {L:List Nat} {w w':World} (h:New0 e v L w) (hx:Ext w w'):New0 e v L w':=by
 obtain ⟨h1,g,h2,h3⟩:=h;exact ⟨h1,g,h2,(hx.block g (Q7 h3)).trans h3⟩
end
end
section
open Go.RowKit
open GoD (rd own)
theorem SR (w:World) (v:Value) (l:List Int) (ha:rd w [v] l) (hl:l.length<=1073741824):Calls Tryz.prog 176 #[v] w (RetS w l):=by
 have HA:=Lib.hid ha;obtain ⟨oa,cap,e,hlc,hm,hel⟩:=ha;obtain rfl:v=_:=by simpa using e
 clear e;have q22:∀(w:World) (a:Option Addr) (n c n' c':Nat),(binOp .eql 34 (.slice a n c) (.slice none n' c')).run Tryz.prog w= .ok (.bool a.isNone) w:=λw a n c n' c'=>Lib.run_eql_slice_nil w _ _ a n c n' c' Tryz.underlying34
 cases oa with
 | none=>
   have hnil:l= []:=by
    cases l with
    | nil=>rfl
    | cons a l=>obtain ⟨b,off,ce,h,_⟩:=hel 0 a rfl;cases h
   clear hel;subst hnil;go_enter Tryz.func176,Tryz.ntmps176
   go_wp2
   go_ret
   all_goals exact ⟨_, [],rfl,Below.refl _ _,⟨by simp,.inl ⟨rfl,rfl,_,rfl⟩⟩,by simp⟩
 | some ad=>
   clear hel;go_enter Tryz.func176,Tryz.ntmps176
   go_wp2_with (at_builtin;refine Fg (α:=Int) _ _ 34 3 Ff w.heap.size (Xw HA.out (by go_grown)) hl (heap_alloc_new w _) rfl rfl Tryz.underlying34 (by kernel_rfl) rfl rfl ?_;intro v2 w2 L2 ho2 hx2 hL2)
   go_ret
   have hb:Below w.heap.size w w2:=Uk (show Below w.heap.size w _ by go_grown) hx2;exact ⟨v2,L2,rfl,hb,ho2,λb hb'=>by have:=(hL2 b hb').1;simp only[World.size_alloc] at this;omega⟩
theorem YF (l:List Int):ACalls Tryz.prog 176 [OT l] (Qhw l):=Ge (by unfold It;kernel_rfl) (λw v h hw=>SR w v l h (by have:=hw.1;omega)) id
theorem DC (w:World) (v:Value) (l:List ByteArray) (ha:rd w [v] l) (hl:l.length<=1073741824):Calls Tryz.prog 190 #[v] w (RetS w l):=by
 have HA:=Lib.hid ha;obtain ⟨oa,cap,e,hlc,hm,hel⟩:=ha;obtain rfl:v=_:=by simpa using e
 clear e;have q22:∀(w:World) (a:Option Addr) (n c n' c':Nat),(binOp .eql 204 (.slice a n c) (.slice none n' c')).run Tryz.prog w= .ok (.bool a.isNone) w:=λw a n c n' c'=>Lib.run_eql_slice_nil w _ _ a n c n' c' Tryz.underlying204
 cases oa with
 | none=>
   have hnil:l= []:=by
    cases l with
    | nil=>rfl
    | cons a l=>obtain ⟨b,off,ce,h,_⟩:=hel 0 a rfl;cases h
   clear hel;subst hnil;go_enter Tryz.func190,Tryz.ntmps190
   go_wp2
   go_ret
   all_goals exact ⟨_, [],rfl,Below.refl _ _,⟨by simp,.inl ⟨rfl,rfl,_,rfl⟩⟩,by simp⟩
 | some ad=>
   clear hel;go_enter Tryz.func190,Tryz.ntmps190
   go_wp2_with (at_builtin;refine Fg (α:=ByteArray) _ _ 204 9 Np w.heap.size (Xw HA.out (by go_grown)) hl (heap_alloc_new w _) rfl rfl Tryz.underlying204 (by kernel_rfl) rfl rfl ?_;intro v2 w2 L2 ho2 hx2 hL2)
   go_ret
   have hb:Below w.heap.size w w2:=Uk (show Below w.heap.size w _ by go_grown) hx2;exact ⟨v2,L2,rfl,hb,ho2,λb hb'=>by have:=(hL2 b hb').1;simp only[World.size_alloc] at this;omega⟩
theorem QA (l:List ByteArray):ACalls Tryz.prog 190 [OT l] (Qhw l):=Ge (by unfold It;kernel_rfl) (λw v h hw=>DC w v l h (by have:=hw.1;omega)) id
theorem MD (w:World) (v:Value) (l:List Ee) (ha:rd w [v] l) (hl:l.length<=1073741824):Calls Tryz.prog 221 #[v] w (RetS w l):=by
 have HA:=Lib.hid ha;obtain ⟨oa,cap,e,hlc,hm,hel⟩:=ha;obtain rfl:v=_:=by simpa using e
 clear e;have q22:∀(w:World) (a:Option Addr) (n c n' c':Nat),(binOp .eql 89 (.slice a n c) (.slice none n' c')).run Tryz.prog w= .ok (.bool a.isNone) w:=λw a n c n' c'=>Lib.run_eql_slice_nil w _ _ a n c n' c' Tryz.underlying89
 cases oa with
 | none=>
   have hnil:l= []:=by
    cases l with
    | nil=>rfl
    | cons a l=>obtain ⟨b,off,ce,h,_⟩:=hel 0 a rfl;cases h
   clear hel;subst hnil;go_enter Tryz.func221,Tryz.ntmps221
   go_wp2
   go_ret
   all_goals exact ⟨_, [],rfl,Below.refl _ _,⟨by simp,.inl ⟨rfl,rfl,_,rfl⟩⟩,by simp⟩
 | some ad=>
   clear hel;go_enter Tryz.func221,Tryz.ntmps221
   go_wp2_with (at_builtin;refine Fg (α:=Ee) _ _ 89 159 (Bu Np (Bu Ff (Bu Ff Np))) w.heap.size (Xw HA.out (by go_grown)) hl (heap_alloc_new w _) rfl rfl Tryz.underlying89 (by kernel_rfl) rfl rfl ?_;intro v2 w2 L2 ho2 hx2 hL2)
   go_ret
   have hb:Below w.heap.size w w2:=Uk (show Below w.heap.size w _ by go_grown) hx2;exact ⟨v2,L2,rfl,hb,ho2,λb hb'=>by have:=(hL2 b hb').1;simp only[World.size_alloc] at this;omega⟩
theorem ME (l:List Ee):ACalls Tryz.prog 221 [OT l] (Qhw l):=Ge (by unfold It;kernel_rfl) (λw v h hw=>MD w v l h (by have:=hw.1;omega)) id
theorem FQ (w:World) (v:Value) (l:List Km) (ha:rd w [v] l) (hl:l.length<=1073741824):Calls Tryz.prog 173 #[v] w (RetS w l):=by
 have HA:=Lib.hid ha;obtain ⟨oa,cap,e,hlc,hm,hel⟩:=ha;obtain rfl:v=_:=by simpa using e
 clear e;have q22:∀(w:World) (a:Option Addr) (n c n' c':Nat),(binOp .eql 40 (.slice a n c) (.slice none n' c')).run Tryz.prog w= .ok (.bool a.isNone) w:=λw a n c n' c'=>Lib.run_eql_slice_nil w _ _ a n c n' c' Tryz.underlying40
 cases oa with
 | none=>
   have hnil:l= []:=by
    cases l with
    | nil=>rfl
    | cons a l=>obtain ⟨b,off,ce,h,_⟩:=hel 0 a rfl;cases h
   clear hel;subst hnil;go_enter Tryz.func173,Tryz.ntmps173
   go_wp2
   go_ret
   all_goals exact ⟨_, [],rfl,Below.refl _ _,⟨by simp,.inl ⟨rfl,rfl,_,rfl⟩⟩,by simp⟩
 | some ad=>
   clear hel;go_enter Tryz.func173,Tryz.ntmps173
   go_wp2_with (at_builtin;refine Fg (α:=Km) _ _ 40 208 (Bu Np Ff) w.heap.size (Xw HA.out (by go_grown)) hl (heap_alloc_new w _) rfl rfl Tryz.underlying40 (by kernel_rfl) rfl rfl ?_;intro v2 w2 L2 ho2 hx2 hL2)
   go_ret
   have hb:Below w.heap.size w w2:=Uk (show Below w.heap.size w _ by go_grown) hx2;exact ⟨v2,L2,rfl,hb,ho2,λb hb'=>by have:=(hL2 b hb').1;simp only[World.size_alloc] at this;omega⟩
theorem FR (l:List Km):ACalls Tryz.prog 173 [OT l] (Qhw l):=Ge (by unfold It;kernel_rfl) (λw v h hw=>FQ w v l h (by have:=hw.1;omega)) id
theorem MF (w:World) (v:Value) (l:List Yz) (ha:rd w [v] l) (hl:l.length<=1073741824):Calls Tryz.prog 217 #[v] w (RetS w l):=by
 have HA:=Lib.hid ha;obtain ⟨oa,cap,e,hlc,hm,hel⟩:=ha;obtain rfl:v=_:=by simpa using e
 clear e;have q22:∀(w:World) (a:Option Addr) (n c n' c':Nat),(binOp .eql 92 (.slice a n c) (.slice none n' c')).run Tryz.prog w= .ok (.bool a.isNone) w:=λw a n c n' c'=>Lib.run_eql_slice_nil w _ _ a n c n' c' Tryz.underlying92
 cases oa with
 | none=>
   have hnil:l= []:=by
    cases l with
    | nil=>rfl
    | cons a l=>obtain ⟨b,off,ce,h,_⟩:=hel 0 a rfl;cases h
   clear hel;subst hnil;go_enter Tryz.func217,Tryz.ntmps217
   go_wp2
   go_ret
   all_goals exact ⟨_, [],rfl,Below.refl _ _,⟨by simp,.inl ⟨rfl,rfl,_,rfl⟩⟩,by simp⟩
 | some ad=>
   clear hel;go_enter Tryz.func217,Tryz.ntmps217
   go_wp2_with (at_builtin;refine Fg (α:=Yz) _ _ 92 162 (Bu Ff (Bu Ff (Bu Ff (Bu Np (Bu Ff (Bu Ff Np)))))) w.heap.size (Xw HA.out (by go_grown)) hl (heap_alloc_new w _) rfl rfl Tryz.underlying92 (by kernel_rfl) rfl rfl ?_;intro v2 w2 L2 ho2 hx2 hL2)
   go_ret
   have hb:Below w.heap.size w w2:=Uk (show Below w.heap.size w _ by go_grown) hx2;exact ⟨v2,L2,rfl,hb,ho2,λb hb'=>by have:=(hL2 b hb').1;simp only[World.size_alloc] at this;omega⟩
theorem MG (l:List Yz):ACalls Tryz.prog 217 [OT l] (Qhw l):=Ge (by unfold It;kernel_rfl) (λw v h hw=>MF w v l h (by have:=hw.1;omega)) id
open GoE (enc wide)
abbrev Z:=List ByteArray
def tt:List (Nat×TI):= [(3,⟨.int .i64,1, [.i 0], []⟩),
 (4,⟨.bool,1, [.b false], []⟩),
 (5,⟨.int .u8,1, [.int .u8 0], []⟩),
 (9,⟨.str,1, [.s ⟨#[]⟩], []⟩),
 (34,⟨.sli 3,1, [.e 1], []⟩),
 (36,⟨.struct [(0,5,true),(5,2,true),(7,1,false),(8,1,false),(9,1,false),(10,1,false)],11, [.e 2,.e 5,.i 0,.e 2,.e 2,.s ⟨#[]⟩,.s ⟨#[]⟩,.i 0,.e 6,.e 4,.e 1], []⟩),
 (40,⟨.sli 208,1, [.e 2], []⟩),
 (41,⟨.sli 91,1, [.e 5], []⟩),
 (43,⟨.struct [(0,1,false),(1,1,false),(2,1,false)],3, [.e 2,.e 5,.i 0], []⟩),
 (44,⟨.sli 94,1, [.e 2], []⟩),
 (46,⟨.struct [(0,3,true),(3,1,false)],4, [.e 2,.e 5,.i 0,.e 2], []⟩),
 (49,⟨.sli 190,1, [.e 2], []⟩),
 (51,⟨.struct [(0,3,true),(3,1,false),(4,1,false)],5, [.e 2,.e 5,.i 0,.e 2,.e 2], []⟩),
 (52,⟨.struct [(0,1,false),(1,1,false)],2, [.s ⟨#[]⟩,.s ⟨#[]⟩], []⟩),
 (53,⟨.sli 137,1, [.e 6], []⟩),
 (54,⟨.sli 141,1, [.e 4], []⟩),
 (56,⟨.struct [(0,5,true),(5,2,true),(7,1,false),(8,1,false),(9,1,false),(10,1,false)],11, [.e 2,.e 5,.i 0,.e 2,.e 2,.s ⟨#[]⟩,.s ⟨#[]⟩,.i 0,.e 6,.e 4,.e 1], []⟩),
 (58,⟨.sli 96,1, [.e 9], []⟩),
 (81,⟨.sli 192,1, [.e 3], []⟩),
 (89,⟨.sli 159,1, [.e 4], []⟩),
 (91,⟨.struct [(0,1,false),(1,1,false),(2,1,false),(3,1,false),(4,1,false)],5, [.i 0,.i 0,.b false,.i 0,.e 4], []⟩),
 (92,⟨.sli 162,1, [.e 7], []⟩),
 (94,⟨.struct [(0,1,false),(1,1,false)],2, [.s ⟨#[]⟩,.e 7], []⟩),
 (96,⟨.struct [(0,1,false),(1,5,true),(6,1,false),(7,2,true)],9, [.i 0,.i 0,.i 0,.b false,.i 0,.e 4,.i 0,.s ⟨#[]⟩,.e 7], []⟩),
 (137,⟨.struct [(0,1,false),(1,4,true),(5,1,false)],6, [.i 0,.e 2,.e 5,.i 0,.e 2,.i 0], []⟩),
 (139,⟨.sli 214,1, [.e 3], []⟩),
 (141,⟨.struct [(0,1,false),(1,1,false),(2,1,false),(3,1,false)],4, [.i 0,.s ⟨#[]⟩,.e 1,.e 3], []⟩),
 (157,⟨.struct [(0,1,false),(1,1,false),(2,1,false)],3, [.i 0,.i 0,.s ⟨#[]⟩], [.int,.int,.str]⟩),
 (159,⟨.struct [(0,1,false),(1,3,true)],4, [.s ⟨#[]⟩,.i 0,.i 0,.s ⟨#[]⟩], []⟩),
 (162,⟨.struct [(0,1,false),(1,1,false),(2,1,false),(3,1,false),(4,3,true)],7, [.i 0,.i 0,.i 0,.s ⟨#[]⟩,.i 0,.i 0,.s ⟨#[]⟩], [.int,.int,.int,.str,.int,.int,.str]⟩),
 (190,⟨.struct [(0,1,false),(1,1,false)],2, [.s ⟨#[]⟩,.e 1], []⟩),
 (192,⟨.struct [(0,1,false),(1,1,false),(2,1,false)],3, [.s ⟨#[]⟩,.e 1,.e 1], []⟩),
 (204,⟨.sli 9,1, [.e 1], []⟩),
 (208,⟨.struct [(0,1,false),(1,1,false)],2, [.s ⟨#[]⟩,.i 0], []⟩),
 (214,⟨.struct [(0,1,false),(1,1,false),(2,1,false)],3, [.i 0,.e 1,.e 1], []⟩),
 (323,⟨.sli 4,1, [.e 1], []⟩)]
theorem Qa:Gs Tryz.prog tt=true:=by kernel_rfl
theorem Zt:Tryz.prog.follows .mixedOrders=true:=by kernel_rfl
def Zk (n:Int) (low:Int) (high_:Int):Bool:=(decide (low<=n)&&decide (n<=high_))
theorem Kn (n:Int) (low:Int) (high_:Int):ACalls Tryz.prog 177 [.i n,.i low,.i high_] (.b (Zk n low high_)):=by
 refine en Qa Tryz.func177 λw0 F0 hG=> ?_
 refine sn Qa [0,1,2,6] [] p0 <| Qc <| mz [(6,.b false)] [] [] [] <| jn [(6,.b (decide (low<=n)&&decide (n<=high_)))] [0,1,2,6] [] [] (decide (low<=n)) (λh1=> ?_) (λh1=> ?_) ?_
 ·refine rn Qa [6] [] (pt 2 h1 p0) ?_;exact zA (by rw[h1]<;>kernel_rfl)
 ·refine rn Qa [6] [] (pf 2 h1 p0) ?_;exact zA (by rw[h1]<;>kernel_rfl)
 exact Qh <| pb [] (show Zk n low high_=(decide (low<=n)&&decide (n<=high_)) from rfl)
def Dg (s_:ByteArray) (k0:Nat) (_:Unit):Rd (Bool) (Unit) (Unit):=(bif (decide (Ct s_ (k0:Int)<(97:Int))|| decide (Ct s_ (k0:Int)>(122:Int))) then (.ret false) else (.next ()))
def Dh (_:Nat) (_:Unit):Unit:=()
def Zg (s_:ByteArray):Bool:=(Out.on (U1 (Dg s_) Dh (zE s_:Int).toNat 0 ()) (λ_=>(Zk (zE s_:Int) 1 6)))
theorem Vi (s_:ByteArray):ACalls Tryz.prog 228 [.s s_] (.b (Zg s_)):=by
 refine en Qa Tryz.func228 λw0 F0 hG=> ?_
 refine sn Qa [0,2] [] p0 <| Qc <| tn Qa [0,2,5,6] [] p0 <| mz [(2,.b false),(5,.i (zE s_:Int)),(6,.i 0)] [] [] [] <| stT 0 0 s_ (λhs1=> ?_)
 refine Ql7 (Dg s_) Dh (zE s_:Int).toNat () (λk0 _=> [(6,.i (k0:Int))]) [6] (λ_=> []) [5,6] wf0 (λk0 s0 hk0 U=> ?_) (λk0 s0 hk0 U=> ?_) (λy0 hD0=> ?_)
 ·refine sn Qa [0,2,5,6,7] [] (pe 0 (zB ((k0:Int)<(zE s_:Int))) p0) <| Qc <| ckT <| Qe <| Qc <| Qt <| tn Qa [0,2,3,5,6] [] p0 <| Qc <| mz [(3,.i (k0:Int))] [] [] [] <| jn [(18,.b (decide (Ct s_ (k0:Int)<(97:Int))|| decide (Ct s_ (k0:Int)>(122:Int))))] [3] [] [] (decide (Ct s_ (k0:Int)<(97:Int))) (λh2=> ?_) (λh2=> ?_) ?_
  ·have h2d:=of_decide_eq_true h2;refine rn Qa [0,2,5,6,18] [] (px (T3 (i:=(k0:Int)) (n:=(zE s_)) (by omega)) (pt 3 h2 p0)) ?_;exact zA (by rw[h2]<;>kernel_rfl)
  ·have h2d:=of_decide_eq_false h2;refine rn Qa [0,2,5,6,18] [] (px (T3 (i:=(k0:Int)) (n:=(zE s_)) (by omega)) (pf 3 h2 (px (T3 (i:=(k0:Int)) (n:=(zE s_)) (by omega)) p0))) ?_;exact zA (by rw[h2]<;>kernel_rfl)
  refine ck (decide (Ct s_ (k0:Int)<(97:Int))|| decide (Ct s_ (k0:Int)>(122:Int))) (λh3=> ?_) (λh3=> ?_)
  ·refine su Qa [] [18] [] [] p0 <| Qh ?_
   have hr4:(U1 (Dg s_) Dh (zE s_:Int).toNat 0 ())= .ret false:=JM hk0 (Xm h3 (rfl)) U;exact pb [] (Nk hr4)
  have h3l:(decide (Ct s_ (k0:Int)<(97:Int)))=false:=Rw h3;have h3ld:=of_decide_eq_false h3l;have h3r:(decide (Ct s_ (k0:Int)>(122:Int)))=false:=Pr h3;have h3rd:=of_decide_eq_false h3r;refine Qe <| rn Qa [0,2,5,6] [] (pe 0 (J6 (Ql k0 (by omega))) p0) ?_
  exact xw _ (Wf hk0 (Qn h3 (rfl)) U)
 ·exact sn Qa [0,2,5,6,7] [] (pe 0 (zC ((k0:Int)<(zE s_:Int))) p0) <| Qc <| ckF <| Q9 <| xw _ (Cx hk0 (rfl) U)
 exact sn Qa [2] [] (pc 2 (Kn (zE s_:Int) 1 6) p0) <| Qh <| pb [] (Uc hD0 (rfl))
def V5 (v:Dr):Bool:=(bif (v.1==(0:Int)) then ((v.1==0)&&((v.2.1==0)&&((v.2.2.toList==(⟨#[]⟩:ByteArray).toList)&&true))) else (bif (v.1==(1:Int)) then ((Zk v.2.1 0 999)&&(v.2.2.toList==(⟨#[]⟩:ByteArray).toList)) else (bif (v.1==(2:Int)) then ((Zg v.2.2)&&(v.2.1==(0:Int))) else false)))
theorem Wm (v:Dr):ACalls Tryz.prog 283 [.a [.i v.1,.i v.2.1,.s v.2.2]] (.b (V5 v)):=by
 refine en Qa Tryz.func283 λw0 F0 hG=> ?_
 refine sn Qa [1,2] [1] p0 <| Qc <| tn Qa [1,2,4] [1] p0 <| Qt <| tu Qa [(1,.p 1 0),(2,.b false),(4,.i v.1),(5,.b (v.1==(0:Int)))] [0] [(1, [.i v.1,.i v.2.1,.s v.2.2])] [] p0 <| ck (v.1==(0:Int)) (λh1=> ?_) (λh1=> ?_)
 ·exact sn Qa [2] [] p0 <| Qh <| pb [] (Xm h1 (rfl))
 refine sn Qa [1,2,4,10] [1] p0 <| ck (v.1==(1:Int)) (λh2=> ?_) (λh2=> ?_)
 ·refine Qc <| mz [(10,.b (v.1==(1:Int)))] [5] [] [] <| jn [(2,.b ((Zk v.2.1 0 999)&&(v.2.2.toList==(⟨#[]⟩:ByteArray).toList)))] [1,2,4,10] [] [1] (Zk v.2.1 0 999) (λh3=> ?_) (λh3=> ?_) ?_
  ·refine rn Qa [2] [] (pc 2 (cb h3 (Kn v.2.1 0 999)) p0) ?_;exact zA (by rw[h3]<;>kernel_rfl)
  ·refine rn Qa [2] [] (pc 2 (cb h3 (Kn v.2.1 0 999)) p0) ?_;exact zA (by rw[h3]<;>kernel_rfl)
  exact Qh <| pb [] (Qn h1 (Xm h2 (rfl)))
 refine tn Qa [1,2,20] [1] p0 <| ck (v.1==(2:Int)) (λh4=> ?_) (λh4=> ?_)
 ·refine Qc <| mz [(20,.b (v.1==(2:Int)))] [4,5] [] [] <| jn [(2,.b ((Zg v.2.2)&&(v.2.1==(0:Int))))] [1,2,20] [] [1] (Zg v.2.2) (λh5=> ?_) (λh5=> ?_) ?_
  ·refine rn Qa [2] [] (pc 2 (cb h5 (Vi v.2.2)) p0) ?_;exact zA (by rw[h5]<;>kernel_rfl)
  ·refine rn Qa [2] [] (pc 2 (cb h5 (Vi v.2.2)) p0) ?_;exact zA (by rw[h5]<;>kernel_rfl)
  exact Qh <| pb [] (Qn h1 (Qn h2 (Xm h4 (rfl))))
 exact Qe <| tu Qa [] [1,4,5] [] [1] p0 <| Qh <| pb [] (Qn h1 (Qn h2 (Qn h4 (rfl))))
def Xk (x:Int) (least:Int) (most:Int):Bool:=(decide (x>=least)&&decide (x<=most))
theorem Z9 (x:Int) (least:Int) (most:Int):ACalls Tryz.prog 100 [.i x,.i least,.i most] (.b (Xk x least most)):=by
 refine en Qa Tryz.func100 λw0 F0 hG=> ?_
 refine sn Qa [0,1,2,6] [] p0 <| Qc <| mz [(6,.b false)] [] [] [] <| jn [(6,.b (decide (x>=least)&&decide (x<=most)))] [0,1,2,6] [] [] (decide (x>=least)) (λh1=> ?_) (λh1=> ?_) ?_
 ·refine rn Qa [6] [] (pt 2 h1 p0) ?_;exact zA (by rw[h1]<;>kernel_rfl)
 ·refine rn Qa [6] [] (pf 2 h1 p0) ?_;exact zA (by rw[h1]<;>kernel_rfl)
 exact Qh <| pb [] (show Xk x least most=(decide (x>=least)&&decide (x<=most)) from rfl)
def Az (s_:ByteArray) (k0:Nat) (_:Unit):Rd (Bool) (Unit) (Unit):=(bif (decide (Ct s_ (k0:Int)<(97:Int))|| decide (Ct s_ (k0:Int)>(122:Int))) then (.ret false) else (.next ()))
def Bv (_:Nat) (_:Unit):Unit:=()
def Gf (s_:ByteArray) (most:Int):Bool:=(Out.on (U1 (Az s_) Bv (zE s_:Int).toNat 0 ()) (λ_=>(Xk (zE s_:Int) 1 most)))
theorem QB (s_:ByteArray) (most:Int):ACalls Tryz.prog 277 [.s s_,.i most] (.b (Gf s_ most)):=by
 refine en Qa Tryz.func277 λw0 F0 hG=> ?_
 refine sn Qa [0,1,4] [] p0 <| Qc <| tn Qa [0,1,4,5] [] p0 <| mz [(4,.b false),(5,.i 0)] [] [] [] <| stT 0 0 s_ (λhs1=> ?_)
 refine Ql7 (Az s_) Bv (zE s_:Int).toNat () (λk0 _=> [(5,.i (k0:Int))]) [5] (λ_=> []) [5] wf0 (λk0 s0 hk0 U=> ?_) (λk0 s0 hk0 U=> ?_) (λy0 hD0=> ?_)
 ·refine Qc <| sn Qa [0,1,4,5,9] [] (pe 3 (zB ((k0:Int)<(zE s_:Int))) p0) <| ckT <| Qe <| Qc <| Qt <| Qc <| mz [(9,.b true)] [] [] [] <| jn [(21,.b (decide (Ct s_ (k0:Int)<(97:Int))|| decide (Ct s_ (k0:Int)>(122:Int))))] [9] [] [] (decide (Ct s_ (k0:Int)<(97:Int))) (λh2=> ?_) (λh2=> ?_) ?_
  ·have h2d:=of_decide_eq_true h2;refine rn Qa [0,1,4,5,21] [] (px (T3 (i:=(k0:Int)) (n:=(zE s_)) (by omega)) (pt 3 h2 p0)) ?_;exact zA (by rw[h2]<;>kernel_rfl)
  ·have h2d:=of_decide_eq_false h2;refine rn Qa [0,1,4,5,21] [] (px (T3 (i:=(k0:Int)) (n:=(zE s_)) (by omega)) (pf 3 h2 (px (T3 (i:=(k0:Int)) (n:=(zE s_)) (by omega)) p0))) ?_;exact zA (by rw[h2]<;>kernel_rfl)
  refine ck (decide (Ct s_ (k0:Int)<(97:Int))|| decide (Ct s_ (k0:Int)>(122:Int))) (λh3=> ?_) (λh3=> ?_)
  ·refine su Qa [] [21] [] [] p0 <| Qh ?_
   have hr4:(U1 (Az s_) Bv (zE s_:Int).toNat 0 ())= .ret false:=JM hk0 (Xm h3 (rfl)) U;exact pb [] (Nk hr4)
  have h3l:(decide (Ct s_ (k0:Int)<(97:Int)))=false:=Rw h3;have h3ld:=of_decide_eq_false h3l;have h3r:(decide (Ct s_ (k0:Int)>(122:Int)))=false:=Pr h3;have h3rd:=of_decide_eq_false h3r;refine Qe <| rn Qa [0,1,4,5] [] (pe 1 (J6 (Ql k0 (by omega))) p0) ?_
  exact xw _ (Wf hk0 (Qn h3 (rfl)) U)
 ·exact Qc <| sn Qa [0,1,4,5,9] [] (pe 3 (zC ((k0:Int)<(zE s_:Int))) p0) <| ckF <| Q9 <| xw _ (Cx hk0 (rfl) U)
 exact sn Qa [4] [] (pc 3 (Z9 (zE s_:Int) 1 most) p0) <| Qh <| pb [] (Uc hD0 (rfl))
def Za (s_:ByteArray):Bool:=(Gf s_ 6)
theorem J7 (s_:ByteArray):ACalls Tryz.prog 245 [.s s_] (.b (Za s_)):=by
 refine en Qa Tryz.func245 λw0 F0 hG=> ?_
 exact sn Qa [0,2] [] p0 <| tn Qa [2] [] (pc 1 (QB s_ 6) p0) <| Qh <| pb [] (show Za s_=(Gf s_ 6) from rfl)
def Kb (v:Dr):Bool:=(bif (v.1==(0:Int)) then ((v.1==0)&&((v.2.1==0)&&((v.2.2.toList==(⟨#[]⟩:ByteArray).toList)&&true))) else (bif (v.1==(1:Int)) then ((Xk v.2.1 0 999)&&(v.2.2.toList==(⟨#[]⟩:ByteArray).toList)) else (bif (v.1==(2:Int)) then ((Za v.2.2)&&(v.2.1==(0:Int))) else false)))
theorem Jx (v:Dr):ACalls Tryz.prog 273 [.a [.i v.1,.i v.2.1,.s v.2.2]] (.b (Kb v)):=by
 refine en Qa Tryz.func273 λw0 F0 hG=> ?_
 refine sn Qa [1,2] [1] p0 <| Qc <| tn Qa [1,2,4] [1] p0 <| Qt <| tu Qa [(1,.p 1 0),(2,.b false),(4,.i v.1),(5,.b (v.1==(0:Int)))] [0] [(1, [.i v.1,.i v.2.1,.s v.2.2])] [] p0 <| ck (v.1==(0:Int)) (λh1=> ?_) (λh1=> ?_)
 ·exact sn Qa [2] [] p0 <| Qh <| pb [] (Xm h1 (rfl))
 refine sn Qa [1,2,4,10] [1] p0 <| ck (v.1==(1:Int)) (λh2=> ?_) (λh2=> ?_)
 ·refine Qc <| mz [(10,.b (v.1==(1:Int)))] [5] [] [] <| jn [(2,.b ((Xk v.2.1 0 999)&&(v.2.2.toList==(⟨#[]⟩:ByteArray).toList)))] [1,2,4,10] [] [1] (Xk v.2.1 0 999) (λh3=> ?_) (λh3=> ?_) ?_
  ·refine rn Qa [2] [] (pc 2 (cb h3 (Z9 v.2.1 0 999)) p0) ?_;exact zA (by rw[h3]<;>kernel_rfl)
  ·refine rn Qa [2] [] (pc 2 (cb h3 (Z9 v.2.1 0 999)) p0) ?_;exact zA (by rw[h3]<;>kernel_rfl)
  exact Qh <| pb [] (Qn h1 (Xm h2 (rfl)))
 refine tn Qa [1,2,20] [1] p0 <| ck (v.1==(2:Int)) (λh4=> ?_) (λh4=> ?_)
 ·refine Qc <| mz [(20,.b (v.1==(2:Int)))] [4,5] [] [] <| jn [(2,.b ((Za v.2.2)&&(v.2.1==(0:Int))))] [1,2,20] [] [1] (Za v.2.2) (λh5=> ?_) (λh5=> ?_) ?_
  ·refine rn Qa [2] [] (pc 2 (cb h5 (J7 v.2.2)) p0) ?_;exact zA (by rw[h5]<;>kernel_rfl)
  ·refine rn Qa [2] [] (pc 2 (cb h5 (J7 v.2.2)) p0) ?_;exact zA (by rw[h5]<;>kernel_rfl)
  exact Qh <| pb [] (Qn h1 (Qn h2 (Xm h4 (rfl))))
 exact Qe <| tu Qa [] [1,4,5] [] [1] p0 <| Qh <| pb [] (Qn h1 (Qn h2 (Qn h4 (rfl))))
def Yn (s_:ByteArray):Bool:=(Gf s_ 1)
theorem Y0 (s_:ByteArray):ACalls Tryz.prog 271 [.s s_] (.b (Yn s_)):=by
 refine en Qa Tryz.func271 λw0 F0 hG=> ?_
 exact sn Qa [0,2] [] p0 <| tn Qa [2] [] (pc 1 (QB s_ 1) p0) <| Qh <| pb [] (show Yn s_=(Gf s_ 1) from rfl)
def Zl (s_:ByteArray):Bool:=(((zE s_:Int)==(1:Int))&&(decide (Ct s_ 0>=(97:Int))&&decide (Ct s_ 0<=(122:Int))))
theorem Zx (s_:ByteArray):ACalls Tryz.prog 281 [.s s_] (.b (Zl s_)):=by
 refine en Qa Tryz.func281 λw0 F0 hG=> ?_
 refine sn Qa [0,2] [] p0 <| Qc <| mz [(2,.b false)] [] [] [] <| jn [(2,.b (((zE s_:Int)==(1:Int))&&(decide (Ct s_ 0>=(97:Int))&&decide (Ct s_ 0<=(122:Int)))))] [0,2] [] [] ((zE s_:Int)==(1:Int)) (λh1=> ?_) (λh1=> ?_) ?_
 ·have h1d:=eq_of_beq h1;refine Yj (decide (Ct s_ 0>=(97:Int))) (λh2=> ?_) (λh2=> ?_)
  ·have h2d:=of_decide_eq_true h2;refine rn Qa [2] [] (pt 2 h1 (px (T3 (i:=0) (n:=(zE s_)) (by omega)) (pt 6 h2 (px (T3 (i:=0) (n:=(zE s_)) (by omega)) p0)))) ?_;exact zA (by rw[h1,h2]<;>kernel_rfl)
  have h2d:=of_decide_eq_false h2;refine rn Qa [2] [] (pt 2 h1 (px (T3 (i:=0) (n:=(zE s_)) (by omega)) (pf 6 h2 p0))) ?_;exact zA (by rw[h1,h2]<;>kernel_rfl)
 ·refine rn Qa [2] [] (pf 2 h1 p0) ?_;exact zA (by rw[h1]<;>kernel_rfl)
 exact Qh <| pb [] (show Zl s_=(((zE s_:Int)==(1:Int))&&(decide (Ct s_ 0>=(97:Int))&&decide (Ct s_ 0<=(122:Int)))) from rfl)
def Jj (n:Yz) (at_:Int):Bool:=(bif (n.1==(1:Int)) then ((n.1==n.1)&&((n.2.1==0)&&((n.2.2.1==0)&&((n.2.2.2.1.toList==(⟨#[]⟩:ByteArray).toList)&&((n.2.2.2.2.1==0)&&((n.2.2.2.2.2.1==0)&&((n.2.2.2.2.2.2.toList==(⟨#[]⟩:ByteArray).toList)&&true))))))) else (bif (n.1==(2:Int)) then (((n.1==n.1)&&((n.2.1==0)&&((n.2.2.1==0)&&((n.2.2.2.1.toList==n.2.2.2.1.toList)&&((n.2.2.2.2.1==0)&&((n.2.2.2.2.2.1==0)&&((n.2.2.2.2.2.2.toList==(⟨#[]⟩:ByteArray).toList)&&true)))))))&&(Zl n.2.2.2.1)) else (bif (bif (n.1==(3:Int)) then (n.1==(3:Int)) else (n.1==(4:Int))) then (((n.1==n.1)&&((n.2.1==0)&&((n.2.2.1==0)&&((n.2.2.2.1.toList==n.2.2.2.1.toList)&&((n.2.2.2.2.1==n.2.2.2.2.1)&&((n.2.2.2.2.2.1==n.2.2.2.2.2.1)&&((n.2.2.2.2.2.2.toList==n.2.2.2.2.2.2.toList)&&true)))))))&&((Zl n.2.2.2.1)&&((V5 n.2.2.2.2)&&((n.2.2.2.2.1 !=(0:Int))&&((n.1==(3:Int))|| (n.2.2.2.2.1==(1:Int))))))) else (bif (n.1==(5:Int)) then (((n.1==n.1)&&((n.2.1==n.2.1)&&((n.2.2.1==0)&&((n.2.2.2.1.toList==(⟨#[]⟩:ByteArray).toList)&&((n.2.2.2.2.1==0)&&((n.2.2.2.2.2.1==0)&&((n.2.2.2.2.2.2.toList==(⟨#[]⟩:ByteArray).toList)&&true)))))))&&(decide (at_>(0:Int))&&(Zk n.2.1 0 (IntKind.i64.wrap (at_-1))))) else (bif (bif (n.1==(6:Int)) then (n.1==(6:Int)) else (n.1==(7:Int))) then (((n.1==n.1)&&((n.2.1==n.2.1)&&((n.2.2.1==n.2.2.1)&&((n.2.2.2.1.toList==(⟨#[]⟩:ByteArray).toList)&&((n.2.2.2.2.1==0)&&((n.2.2.2.2.2.1==0)&&((n.2.2.2.2.2.2.toList==(⟨#[]⟩:ByteArray).toList)&&true)))))))&&(decide (at_>(0:Int))&&((Zk n.2.1 0 (IntKind.i64.wrap (at_-1)))&&(Zk n.2.2.1 0 (IntKind.i64.wrap (at_-1)))))) else (bif (n.1==(8:Int)) then (((n.1==n.1)&&((n.2.1==0)&&((n.2.2.1==0)&&((n.2.2.2.1.toList==n.2.2.2.1.toList)&&((n.2.2.2.2.1==0)&&((n.2.2.2.2.2.1==0)&&((n.2.2.2.2.2.2.toList==(⟨#[]⟩:ByteArray).toList)&&true)))))))&&(Zg n.2.2.2.1)) else (bif (n.1==(9:Int)) then (((n.1==n.1)&&((n.2.1==0)&&((n.2.2.1==0)&&((n.2.2.2.1.toList==n.2.2.2.1.toList)&&((n.2.2.2.2.1==0)&&((n.2.2.2.2.2.1==0)&&((n.2.2.2.2.2.2.toList==(⟨#[]⟩:ByteArray).toList)&&true)))))))&&(Zg n.2.2.2.1)) else false)))))))
theorem Gg (n:Yz) (at_:Int):ACalls Tryz.prog 262 [.a [.i n.1,.i n.2.1,.i n.2.2.1,.s n.2.2.2.1,.i n.2.2.2.2.1,.i n.2.2.2.2.2.1,.s n.2.2.2.2.2.2],.i at_] (.b (Jj n at_)):=by
 refine en Qa Tryz.func262 λw0 F0 hG=> ?_
 refine sn Qa [1,2,4] [2] p0 <| tn Qa [1,2,4,5] [2,5] p0 <| Qc <| tu Qa [(2,.p 2 0),(4,.b false),(5,.p 5 0),(10,.i n.1)] [0] [(2, [.i n.1,.i n.2.1,.i n.2.2.1,.s n.2.2.2.1,.i n.2.2.2.2.1,.i n.2.2.2.2.2.1,.s n.2.2.2.2.2.2]),(5, [.i n.1,.i 0,.i 0,.s ⟨#[]⟩,.i 0,.i 0,.s ⟨#[]⟩])] [] p0 <| Qt <| sn Qa [1,2,4,5,10,11] [2,5] p0 <| ck (n.1==(1:Int)) (λh1=> ?_) (λh1=> ?_)
 ·exact Qe <| tn Qa [4] [] p0 <| Qh <| pb [] (Xm h1 (rfl))
 refine tn Qa [1,2,4,5,10,13] [2,5] p0 <| ck (n.1==(2:Int)) (λh2=> ?_) (λh2=> ?_)
 ·refine tu Qa [] [1,10] [(5, [.i n.1,.i 0,.i 0,.s n.2.2.2.1,.i 0,.i 0,.s ⟨#[]⟩])] [5] p0 <| Qc <| jn [(4,.b (((n.1==n.1)&&((n.2.1==0)&&((n.2.2.1==0)&&((n.2.2.2.1.toList==n.2.2.2.1.toList)&&((n.2.2.2.2.1==0)&&((n.2.2.2.2.2.1==0)&&((n.2.2.2.2.2.2.toList==(⟨#[]⟩:ByteArray).toList)&&true)))))))&&(Zl n.2.2.2.1)))] [4] [] [] ((n.1==n.1)&&((n.2.1==0)&&((n.2.2.1==0)&&((n.2.2.2.1.toList==n.2.2.2.1.toList)&&((n.2.2.2.2.1==0)&&((n.2.2.2.2.2.1==0)&&((n.2.2.2.2.2.2.toList==(⟨#[]⟩:ByteArray).toList)&&true))))))) (λh3=> ?_) (λh3=> ?_) ?_
  ·refine rn Qa [2,4,5] [2,5] (pt 2 h3 (pc 6 (Zx n.2.2.2.1) p0)) ?_;exact zA (by rw[h3]<;>kernel_rfl)
  ·refine ru Qa [] [] [] [] (pf 2 h3 p0) ?_;exact zA (by rw[h3]<;>kernel_rfl)
  exact Qh <| pb [] (Qn h1 (Xm h2 (rfl)))
 refine Qc <| tu Qa [(26,.b (n.1==(3:Int)))] [] [] [] p0 <| jn [(26,.b (bif (n.1==(3:Int)) then (n.1==(3:Int)) else (n.1==(4:Int))))] [26] [] [] (n.1==(3:Int)) (λh4=> ?_) (λh4=> ?_) ?_
 ·refine ckt h4 ?_;exact Qe <| ⟨rfl,Qd (by rw[h4]<;>kernel_rfl)⟩
 ·refine ckf h4 ?_;refine rn Qa [1,2,4,5,10,26] [2,5] p0 ?_;exact zA (by rw[h4]<;>kernel_rfl)
 refine ck (bif (n.1==(3:Int)) then (n.1==(3:Int)) else (n.1==(4:Int))) (λh5=> ?_) (λh5=> ?_)
 ·refine sN Qa Zt [2,4,5] [2,5] p0 <| Qc <| mz [] [1,10,26] [(5, [.i n.1,.i 0,.i 0,.s n.2.2.2.1,.i n.2.2.2.2.1,.i n.2.2.2.2.2.1,.s n.2.2.2.2.2.2])] [5] <| jn [(4,.b (((n.1==n.1)&&((n.2.1==0)&&((n.2.2.1==0)&&((n.2.2.2.1.toList==n.2.2.2.1.toList)&&((n.2.2.2.2.1==n.2.2.2.2.1)&&((n.2.2.2.2.2.1==n.2.2.2.2.2.1)&&((n.2.2.2.2.2.2.toList==n.2.2.2.2.2.2.toList)&&true)))))))&&((Zl n.2.2.2.1)&&((V5 n.2.2.2.2)&&((n.2.2.2.2.1 !=(0:Int))&&((n.1==(3:Int))|| (n.2.2.2.2.1==(1:Int))))))))] [4] [] [] ((n.1==n.1)&&((n.2.1==0)&&((n.2.2.1==0)&&((n.2.2.2.1.toList==n.2.2.2.1.toList)&&((n.2.2.2.2.1==n.2.2.2.2.1)&&((n.2.2.2.2.2.1==n.2.2.2.2.2.1)&&((n.2.2.2.2.2.2.toList==n.2.2.2.2.2.2.toList)&&true))))))) (λh6=> ?_) (λh6=> ?_) ?_
  ·refine Yj (Zl n.2.2.2.1) (λh7=> ?_) (λh7=> ?_)
   ·refine Yj (V5 n.2.2.2.2) (λh8=> ?_) (λh8=> ?_)
    ·refine Yj (n.2.2.2.2.1 !=(0:Int)) (λh9=> ?_) (λh9=> ?_)
     ·refine Yj (n.1==(3:Int)) (λh10=> ?_) (λh10=> ?_)
      ·refine rn Qa [2,4,5] [2,5] (pt 2 h6 (pc 6 (cb h7 (Zx n.2.2.2.1)) (pc 11 (cb h8 (Wm n.2.2.2.2)) (pt 17 h9 (pt 22 h10 p0))))) ?_;exact zA (by rw[h6,h7,h8,h9,h10]<;>kernel_rfl)
      refine rn Qa [2,4,5] [2,5] (pt 2 h6 (pc 6 (cb h7 (Zx n.2.2.2.1)) (pc 11 (cb h8 (Wm n.2.2.2.2)) (pt 17 h9 (pf 22 h10 p0))))) ?_;exact zA (by rw[h6,h7,h8,h9,h10]<;>kernel_rfl)
     refine ru Qa [] [] [] [] (pt 2 h6 (pc 6 (cb h7 (Zx n.2.2.2.1)) (pc 11 (cb h8 (Wm n.2.2.2.2)) (pf 17 h9 p0)))) ?_;exact zA (by rw[h6,h7,h8,h9]<;>kernel_rfl)
    refine ru Qa [] [] [] [] (pt 2 h6 (pc 6 (cb h7 (Zx n.2.2.2.1)) (pc 11 (cb h8 (Wm n.2.2.2.2)) p0))) ?_;exact zA (by rw[h6,h7,h8]<;>kernel_rfl)
   refine ru Qa [] [] [] [] (pt 2 h6 (pc 6 (cb h7 (Zx n.2.2.2.1)) p0)) ?_;exact zA (by rw[h6,h7]<;>kernel_rfl)
  ·refine ru Qa [] [] [] [] (pf 2 h6 p0) ?_;exact zA (by rw[h6]<;>kernel_rfl)
  exact Qh <| pb [] (Qn h1 (Qn h2 (Xm h5 (rfl))))
 refine sn Qa [1,2,4,5,10,65] [2,5] p0 <| ck (n.1==(5:Int)) (λh11=> ?_) (λh11=> ?_)
 ·refine tn Qa [1,2,4,5] [2,5] p0 <| Qc <| mz [] [10,26] [(5, [.i n.1,.i n.2.1,.i 0,.s ⟨#[]⟩,.i 0,.i 0,.s ⟨#[]⟩])] [5] <| jn [(4,.b (((n.1==n.1)&&((n.2.1==n.2.1)&&((n.2.2.1==0)&&((n.2.2.2.1.toList==(⟨#[]⟩:ByteArray).toList)&&((n.2.2.2.2.1==0)&&((n.2.2.2.2.2.1==0)&&((n.2.2.2.2.2.2.toList==(⟨#[]⟩:ByteArray).toList)&&true)))))))&&(decide (at_>(0:Int))&&(Zk n.2.1 0 (IntKind.i64.wrap (at_-1))))))] [1,4] [] [] ((n.1==n.1)&&((n.2.1==n.2.1)&&((n.2.2.1==0)&&((n.2.2.2.1.toList==(⟨#[]⟩:ByteArray).toList)&&((n.2.2.2.2.1==0)&&((n.2.2.2.2.2.1==0)&&((n.2.2.2.2.2.2.toList==(⟨#[]⟩:ByteArray).toList)&&true))))))) (λh12=> ?_) (λh12=> ?_) ?_
  ·refine Yj (decide (at_>(0:Int))) (λh13=> ?_) (λh13=> ?_)
   ·refine rn Qa [2,4,5] [2,5] (pt 2 h12 (pt 5 h13 (pc 12 (Kn n.2.1 0 (IntKind.i64.wrap (at_-1))) p0))) ?_;exact zA (by rw[h12,h13]<;>kernel_rfl)
   refine ru Qa [] [1] [] [] (pt 2 h12 (pf 5 h13 p0)) ?_;exact zA (by rw[h12,h13]<;>kernel_rfl)
  ·refine ru Qa [] [1] [] [] (pf 2 h12 p0) ?_;exact zA (by rw[h12]<;>kernel_rfl)
  exact Qh <| pb [] (Qn h1 (Qn h2 (Qn h5 (Xm h11 (rfl)))))
 refine Qc <| tn Qa [1,2,4,5,10,84] [2,5] p0 <| mz [(84,.b (n.1==(6:Int)))] [26] [] [] <| jn [(84,.b (bif (n.1==(6:Int)) then (n.1==(6:Int)) else (n.1==(7:Int))))] [84] [] [] (n.1==(6:Int)) (λh14=> ?_) (λh14=> ?_) ?_
 ·refine ckt h14 ?_;exact Qe <| ⟨rfl,Qd (by rw[h14]<;>kernel_rfl)⟩
 ·refine ckf h14 ?_;refine rn Qa [1,2,4,5,10,84] [2,5] p0 ?_;exact zA (by rw[h14]<;>kernel_rfl)
 refine ck (bif (n.1==(6:Int)) then (n.1==(6:Int)) else (n.1==(7:Int))) (λh15=> ?_) (λh15=> ?_)
 ·refine sN Qa Zt [1,2,4,5] [2,5] p0 <| Qc <| mz [] [10,84] [(5, [.i n.1,.i n.2.1,.i n.2.2.1,.s ⟨#[]⟩,.i 0,.i 0,.s ⟨#[]⟩])] [5] <| jn [(4,.b (((n.1==n.1)&&((n.2.1==n.2.1)&&((n.2.2.1==n.2.2.1)&&((n.2.2.2.1.toList==(⟨#[]⟩:ByteArray).toList)&&((n.2.2.2.2.1==0)&&((n.2.2.2.2.2.1==0)&&((n.2.2.2.2.2.2.toList==(⟨#[]⟩:ByteArray).toList)&&true)))))))&&(decide (at_>(0:Int))&&((Zk n.2.1 0 (IntKind.i64.wrap (at_-1)))&&(Zk n.2.2.1 0 (IntKind.i64.wrap (at_-1)))))))] [1,4] [] [] ((n.1==n.1)&&((n.2.1==n.2.1)&&((n.2.2.1==n.2.2.1)&&((n.2.2.2.1.toList==(⟨#[]⟩:ByteArray).toList)&&((n.2.2.2.2.1==0)&&((n.2.2.2.2.2.1==0)&&((n.2.2.2.2.2.2.toList==(⟨#[]⟩:ByteArray).toList)&&true))))))) (λh16=> ?_) (λh16=> ?_) ?_
  ·refine Yj (decide (at_>(0:Int))) (λh17=> ?_) (λh17=> ?_)
   ·refine Yj (Zk n.2.1 0 (IntKind.i64.wrap (at_-1))) (λh18=> ?_) (λh18=> ?_)
    ·refine rn Qa [2,4,5] [2,5] (pt 2 h16 (pt 5 h17 (pc 12 (cb h18 (Kn n.2.1 0 (IntKind.i64.wrap (at_-1)))) (pc 19 (Kn n.2.2.1 0 (IntKind.i64.wrap (at_-1))) p0)))) ?_;exact zA (by rw[h16,h17,h18]<;>kernel_rfl)
    refine ru Qa [] [1] [] [] (pt 2 h16 (pt 5 h17 (pc 12 (cb h18 (Kn n.2.1 0 (IntKind.i64.wrap (at_-1)))) p0))) ?_;exact zA (by rw[h16,h17,h18]<;>kernel_rfl)
   refine ru Qa [] [1] [] [] (pt 2 h16 (pf 5 h17 p0)) ?_;exact zA (by rw[h16,h17]<;>kernel_rfl)
  ·refine ru Qa [] [1] [] [] (pf 2 h16 p0) ?_;exact zA (by rw[h16]<;>kernel_rfl)
  exact Qh <| pb [] (Qn h1 (Qn h2 (Qn h5 (Qn h11 (Xm h15 (rfl))))))
 refine Qc <| sn Qa [2,4,5,10,114] [2,5] p0 <| ck (n.1==(8:Int)) (λh19=> ?_) (λh19=> ?_)
 ·refine Qe <| ckt h19 ?_
  refine tn Qa [2,4,5] [2,5] p0 <| Qc <| mz [] [1,10,84] [(5, [.i n.1,.i 0,.i 0,.s n.2.2.2.1,.i 0,.i 0,.s ⟨#[]⟩])] [5] <| jn [(4,.b (((n.1==n.1)&&((n.2.1==0)&&((n.2.2.1==0)&&((n.2.2.2.1.toList==n.2.2.2.1.toList)&&((n.2.2.2.2.1==0)&&((n.2.2.2.2.2.1==0)&&((n.2.2.2.2.2.2.toList==(⟨#[]⟩:ByteArray).toList)&&true)))))))&&(Zg n.2.2.2.1)))] [4] [] [] ((n.1==n.1)&&((n.2.1==0)&&((n.2.2.1==0)&&((n.2.2.2.1.toList==n.2.2.2.1.toList)&&((n.2.2.2.2.1==0)&&((n.2.2.2.2.2.1==0)&&((n.2.2.2.2.2.2.toList==(⟨#[]⟩:ByteArray).toList)&&true))))))) (λh20=> ?_) (λh20=> ?_) ?_
  ·refine rn Qa [2,4,5] [2,5] (pt 2 h20 (pc 6 (Vi n.2.2.2.1) p0)) ?_;exact zA (by rw[h20]<;>kernel_rfl)
  ·refine ru Qa [] [] [] [] (pf 2 h20 p0) ?_;exact zA (by rw[h20]<;>kernel_rfl)
  exact Qh <| pb [] (Qn h1 (Qn h2 (Qn h5 (Qn h11 (Qn h15 (Xm h19 (rfl)))))))
 refine qn Qa [2,4,5,114] [2,5] p0 ?_;refine ck (n.1==(9:Int)) (λh21=> ?_) (λh21=> ?_)
 ·refine tu Qa [] [1,10,84] [(5, [.i n.1,.i 0,.i 0,.s n.2.2.2.1,.i 0,.i 0,.s ⟨#[]⟩])] [5] p0 <| Qc <| jn [(4,.b (((n.1==n.1)&&((n.2.1==0)&&((n.2.2.1==0)&&((n.2.2.2.1.toList==n.2.2.2.1.toList)&&((n.2.2.2.2.1==0)&&((n.2.2.2.2.2.1==0)&&((n.2.2.2.2.2.2.toList==(⟨#[]⟩:ByteArray).toList)&&true)))))))&&(Zg n.2.2.2.1)))] [4] [] [] ((n.1==n.1)&&((n.2.1==0)&&((n.2.2.1==0)&&((n.2.2.2.1.toList==n.2.2.2.1.toList)&&((n.2.2.2.2.1==0)&&((n.2.2.2.2.2.1==0)&&((n.2.2.2.2.2.2.toList==(⟨#[]⟩:ByteArray).toList)&&true))))))) (λh22=> ?_) (λh22=> ?_) ?_
  ·refine rn Qa [2,4,5] [2,5] (pt 2 h22 (pc 6 (Vi n.2.2.2.1) p0)) ?_;exact zA (by rw[h22]<;>kernel_rfl)
  ·refine ru Qa [] [] [] [] (pf 2 h22 p0) ?_;exact zA (by rw[h22]<;>kernel_rfl)
  exact Qh <| pb [] (Qn h1 (Qn h2 (Qn h5 (Qn h11 (Qn h15 (Qn h19 (Xm h21 (rfl))))))))
 exact tu Qa [] [1,10,84] [] [] p0 <| Qh <| pb [] (Qn h1 (Qn h2 (Qn h5 (Qn h11 (Qn h15 (Qn h19 (Qn h21 (rfl))))))))
def K8 (at_:Int) (_:Nat) (a0:Yz) (s0:Int):Rd (Int) (Int) (Int):=(bif ((a0.2.1==at_)&&(((a0.1==(6:Int))|| (a0.1==(7:Int)))|| (a0.1==(5:Int)))) then (bif ((a0.2.2.1==at_)&&((a0.1==(6:Int))|| (a0.1==(7:Int)))) then (.next (IntKind.i64.wrap (IntKind.i64.wrap (s0+1)+1))) else (.next (IntKind.i64.wrap (s0+1)))) else (bif ((a0.2.2.1==at_)&&((a0.1==(6:Int))|| (a0.1==(7:Int)))) then (.next (IntKind.i64.wrap (s0+1))) else (.next s0)))
def H8 (_:Nat) (s0:Int):Int:=s0
def Ko (q:List Yz) (at_:Int):Int:=(Out.on (X7 (K8 at_) H8 q 0 0) (λy0=>y0))
theorem P5 (q:List Yz) (at_:Int):ACalls Tryz.prog 263 [.h q,.i at_] (.i (Ko q at_)):=by
 refine en Qa Tryz.func263 λw0 F0 hG=> ?_
 refine sn Qa [0,1,4] [] p0 <| tn Qa [0,1,4,5] [] p0 <| Qc <| tu Qa [(4,.i 0),(5,.i 0),(9,.h q),(10,.i (q.length:Int)),(11,.i 0)] [0] [] [] (pl 1 q p0) <| wT 9 0 .sh q (λhw1 hl2=> ?_)
 refine Pa (K8 at_) H8 q 0 (λk0 s0=> [(5,.i s0),(11,.i (k0:Int))]) [5,11] (λy0=> [(5,.i y0)]) [1,5,9,10,11] wf0 (λk0 s0 hk0 U=> ?_) (λk0 s0 hk0 U=> ?_) (λy0 hD0=> ?_)
 ·obtain ⟨a0,V⟩:=Xs (l:=q) (i:=k0) hk0;refine su Qa [(12,.b true)] [] [] [] (pe 0 (zB ((k0:Int)<(q.length:Int))) p0) <| Qc <| ckT <| Qe <| Qc <| Qt <| sn Qa [1,4,5,7,9,10,11] [7] (pn 0 V p0) <| Qc <| mz [(7,.p 7 0)] [12] [(7, [.i a0.1,.i a0.2.1,.i a0.2.2.1,.s a0.2.2.2.1,.i a0.2.2.2.2.1,.i a0.2.2.2.2.2.1,.s a0.2.2.2.2.2.2])] [] <| jn [(8,.b ((a0.1==(6:Int))|| (a0.1==(7:Int))))] [] [] [] (a0.1==(6:Int)) (λh3=> ?_) (λh3=> ?_) ?_
  ·refine ru Qa [(8,.b true)] [] [] [] (pt 2 h3 p0) ?_;exact zA (by rw[h3]<;>kernel_rfl)
  ·refine rn Qa [1,4,5,7,8,9,10,11] [7] (pf 2 h3 p0) ?_;exact zA (by rw[h3]<;>kernel_rfl)
  refine Qc <| Qc <| jn [(34,.b ((a0.2.1==at_)&&(((a0.1==(6:Int))|| (a0.1==(7:Int)))|| (a0.1==(5:Int)))))] [] [] [] (a0.2.1==at_) (λh4=> ?_) (λh4=> ?_) ?_
  ·refine Yj ((a0.1==(6:Int))|| (a0.1==(7:Int))) (λh5=> ?_) (λh5=> ?_)
   ·refine ru Qa [(34,.b true)] [] [] [] (pt 3 h4 (pt 5 h5 p0)) ?_;exact zA (by rw[h4,h5]<;>kernel_rfl)
   refine rn Qa [1,4,5,7,8,9,10,11,34] [7] (pt 3 h4 (pf 5 h5 p0)) ?_;exact zA (by rw[h4,h5]<;>kernel_rfl)
  ·refine ru Qa [(34,.b false)] [] [] [] (pf 3 h4 p0) ?_;exact zA (by rw[h4]<;>kernel_rfl)
  refine ck ((a0.2.1==at_)&&(((a0.1==(6:Int))|| (a0.1==(7:Int)))|| (a0.1==(5:Int)))) (λh6=> ?_) (λh6=> ?_)
  ·have h6l:((a0.2.1==at_))=true:=UV h6;have h6ld:=eq_of_beq h6l;refine rn Qa [1,4,5,7,8,9,10,11] [7] p0 ?_;refine Qc <| mz [(5,.i (IntKind.i64.wrap (s0+1)))] [5,34] [] [] <| jn [(43,.b ((a0.2.2.1==at_)&&((a0.1==(6:Int))|| (a0.1==(7:Int)))))] [7,8] [] [7] (a0.2.2.1==at_) (λh7=> ?_) (λh7=> ?_) ?_
   ·refine rn Qa [1,4,5,9,10,11,43] [] (pt 3 h7 p0) ?_;exact zA (by rw[h7]<;>kernel_rfl)
   ·refine rn Qa [1,4,5,9,10,11,43] [] (pf 3 h7 p0) ?_;exact zA (by rw[h7]<;>kernel_rfl)
   refine ck ((a0.2.2.1==at_)&&((a0.1==(6:Int))|| (a0.1==(7:Int)))) (λh8=> ?_) (λh8=> ?_)
   ·have h8l:((a0.2.2.1==at_))=true:=UV h8;have h8ld:=eq_of_beq h8l;refine rn Qa [1,4,5,9,10,11] [] p0 ?_;refine qn Qa [1,4,5,9,10,11] [] (pe 0 (J6 (Ql k0 (by omega))) p0) ?_;exact xw _ (Qp V (Xm h6 (Xm h8 (rfl))) U)
   refine Qe <| rn Qa [1,4,5,9,10,11] [] (pe 0 (J6 (Ql k0 (by omega))) p0) ?_
   exact xw _ (Qp V (Xm h6 (Qn h8 (rfl))) U)
  refine Qe <| Qc <| jn [(43,.b ((a0.2.2.1==at_)&&((a0.1==(6:Int))|| (a0.1==(7:Int)))))] [7,8,34] [] [7] (a0.2.2.1==at_) (λh9=> ?_) (λh9=> ?_) ?_
  ·refine rn Qa [1,4,5,9,10,11,43] [] (pt 3 h9 p0) ?_;exact zA (by rw[h9]<;>kernel_rfl)
  ·refine rn Qa [1,4,5,9,10,11,43] [] (pf 3 h9 p0) ?_;exact zA (by rw[h9]<;>kernel_rfl)
  refine ck ((a0.2.2.1==at_)&&((a0.1==(6:Int))|| (a0.1==(7:Int)))) (λh10=> ?_) (λh10=> ?_)
  ·have h10l:((a0.2.2.1==at_))=true:=UV h10;have h10ld:=eq_of_beq h10l;refine rn Qa [1,4,5,9,10,11] [] p0 ?_;refine qn Qa [1,4,5,9,10,11] [] (pe 0 (J6 (Ql k0 (by omega))) p0) ?_;exact xw _ (Qp V (Qn h6 (Xm h10 (rfl))) U)
  refine Qe <| rn Qa [1,4,5,9,10,11] [] (pe 0 (J6 (Ql k0 (by omega))) p0) ?_
  exact xw _ (Qp V (Qn h6 (Qn h10 (rfl))) U)
 ·exact su Qa [(12,.b false)] [] [] [] (pe 0 (zC ((k0:Int)<(q.length:Int))) p0) <| Qc <| ckF <| Q9 <| xw _ (Xt hk0 (rfl) U)
 exact sn Qa [4] [] p0 <| Qh <| pi [] (Uc hD0 (rfl))
def Z1 (q:List Yz) (k0:Nat) (a0:Yz) (_:Unit):Rd (Bool) (Unit) (Unit):=(bif ((!(Jj a0 (k0:Int)))|| (decide ((k0:Int)<((q.length:Int)-1))&&((Ko q (k0:Int)) !=(1:Int)))) then (.ret false) else (.next ()))
def Wb (_:Nat) (_:Unit):Unit:=()
def Q8 (q:List Yz):Bool:=(Out.on (X7 (Z1 q) Wb q 0 ()) (λ_=>(Zk (q.length:Int) 1 9)))
theorem An (q:List Yz):ACalls Tryz.prog 229 [.h q] (.b (Q8 q)):=by
 refine en Qa Tryz.func229 λw0 F0 hG=> ?_
 refine sn Qa [0,2] [] p0 <| Qc <| tn Qa [0,2,5,6,7] [] (pl 1 q p0) <| mz [(2,.b false),(5,.h q),(6,.i (q.length:Int)),(7,.i 0)] [] [] [] <| wT 0 0 .sh q (λhw1 hl2=> ?_)
 refine Pa (Z1 q) Wb q () (λk0 _=> [(7,.i (k0:Int))]) [7] (λ_=> []) [5,6,7] wf0 (λk0 s0 hk0 U=> ?_) (λk0 s0 hk0 U=> ?_) (λy0 hD0=> ?_)
 ·obtain ⟨a0,V⟩:=Xs (l:=q) (i:=k0) hk0;refine sn Qa [0,2,5,6,7,8] [] (pe 0 (zB ((k0:Int)<(q.length:Int))) p0) <| Qc <| ckT <| Qe <| Qc <| Qt <| tn Qa [0,2,3,4,5,6,7] [4] (pn 1 V p0) <| Qc <| mz [(3,.i (k0:Int)),(4,.p 4 0)] [] [(4, [.i a0.1,.i a0.2.1,.i a0.2.2.1,.s a0.2.2.2.1,.i a0.2.2.2.2.1,.i a0.2.2.2.2.2.1,.s a0.2.2.2.2.2.2])] [] <| jn [(28,.b ((!(Jj a0 (k0:Int)))|| (decide ((k0:Int)<((q.length:Int)-1))&&((Ko q (k0:Int)) !=(1:Int)))))] [3,4] [] [4] (!(Jj a0 (k0:Int))) (λh3=> ?_) (λh3=> ?_) ?_
  ·have h3n:(Jj a0 (k0:Int))=false:=Vp h3;refine rn Qa [0,2,5,6,7,28] [] (pc 2 (cb h3n (Gg a0 (k0:Int))) (pe 3 (show .b (!false)= .b true from rfl) p0)) ?_;exact zA (by rw[h3]<;>kernel_rfl)
  ·have h3n:(Jj a0 (k0:Int))=true:=Zc h3;refine Yj (decide ((k0:Int)<((q.length:Int)-1))) (λh4=> ?_) (λh4=> ?_)
   ·have h4d:=of_decide_eq_true h4;refine rn Qa [0,2,5,6,7,28] [] (pc 2 (cb h3n (Gg a0 (k0:Int))) (pe 3 (show .b (!true)= .b false from rfl) (pl 7 q (pe 8 (J6 (IntWalk.i64_in ((q.length:Int)-1) (by omega))) (pt 9 h4 (pc 13 (P5 q (k0:Int)) p0)))))) ?_;exact zA (by rw[h3,h4]<;>kernel_rfl)
   have h4d:=of_decide_eq_false h4;refine rn Qa [0,2,5,6,7,28] [] (pc 2 (cb h3n (Gg a0 (k0:Int))) (pe 3 (show .b (!true)= .b false from rfl) (pl 7 q (pe 8 (J6 (IntWalk.i64_in ((q.length:Int)-1) (by omega))) (pf 9 h4 p0))))) ?_;exact zA (by rw[h3,h4]<;>kernel_rfl)
  refine ck ((!(Jj a0 (k0:Int)))|| (decide ((k0:Int)<((q.length:Int)-1))&&((Ko q (k0:Int)) !=(1:Int)))) (λh5=> ?_) (λh5=> ?_)
  ·refine su Qa [] [28] [] [] p0 <| Qh ?_
   have hr6:(X7 (Z1 q) Wb q 0 ())= .ret false:=Jr V (Xm h5 (rfl)) U;exact pb [] (Nk hr6)
  refine Qe <| rn Qa [0,2,5,6,7] [] (pe 0 (J6 (Ql k0 (by omega))) p0) ?_
  exact xw _ (Qp V (Qn h5 (rfl)) U)
 ·exact sn Qa [0,2,5,6,7,8] [] (pe 0 (zC ((k0:Int)<(q.length:Int))) p0) <| Qc <| ckF <| Q9 <| xw _ (Xt hk0 (rfl) U)
 exact sn Qa [2] [] (pl 1 q (pc 2 (Kn (q.length:Int) 1 9) p0)) <| Qh <| pb [] (Uc hD0 (rfl))
def Wn (n:Yz) (at_:Int):Bool:=(bif (n.1==(1:Int)) then ((n.1==1)&&((n.2.1==0)&&((n.2.2.1==0)&&((n.2.2.2.1.toList==(⟨#[]⟩:ByteArray).toList)&&((n.2.2.2.2.1==0)&&((n.2.2.2.2.2.1==0)&&((n.2.2.2.2.2.2.toList==(⟨#[]⟩:ByteArray).toList)&&true))))))) else (bif (n.1==(2:Int)) then ((Yn n.2.2.2.1)&&((n.1==n.1)&&((n.2.1==0)&&((n.2.2.1==0)&&((n.2.2.2.1.toList==n.2.2.2.1.toList)&&((n.2.2.2.2.1==0)&&((n.2.2.2.2.2.1==0)&&((n.2.2.2.2.2.2.toList==(⟨#[]⟩:ByteArray).toList)&&true)))))))) else (bif (n.1==(3:Int)) then ((Yn n.2.2.2.1)&&((Kb n.2.2.2.2)&&((n.2.2.2.2.1 !=(0:Int))&&((n.2.1==(0:Int))&&(n.2.2.1==(0:Int)))))) else (bif (n.1==(4:Int)) then ((Yn n.2.2.2.1)&&((Kb n.2.2.2.2)&&((n.2.2.2.2.1==(1:Int))&&((n.2.1==(0:Int))&&(n.2.2.1==(0:Int)))))) else (bif (n.1==(5:Int)) then (((Xk n.2.1 0 (IntKind.i64.wrap (at_-1)))&&decide (at_>(0:Int)))&&((n.2.2.1==(0:Int))&&((n.2.2.2.1.toList==(⟨#[]⟩:ByteArray).toList)&&((n.2.2.2.2.1==0)&&((n.2.2.2.2.2.1==0)&&((n.2.2.2.2.2.2.toList==(⟨#[]⟩:ByteArray).toList)&&true)))))) else (bif (bif (n.1==(6:Int)) then (n.1==(6:Int)) else (n.1==(7:Int))) then ((((Xk n.2.1 0 (IntKind.i64.wrap (at_-1)))&&decide (at_>(0:Int)))&&(Xk n.2.2.1 0 (IntKind.i64.wrap (at_-1))))&&((n.2.2.2.1.toList==(⟨#[]⟩:ByteArray).toList)&&((n.2.2.2.2.1==0)&&((n.2.2.2.2.2.1==0)&&((n.2.2.2.2.2.2.toList==(⟨#[]⟩:ByteArray).toList)&&true))))) else (bif (n.1==(8:Int)) then ((Za n.2.2.2.1)&&((n.1==n.1)&&((n.2.1==0)&&((n.2.2.1==0)&&((n.2.2.2.1.toList==n.2.2.2.1.toList)&&((n.2.2.2.2.1==0)&&((n.2.2.2.2.2.1==0)&&((n.2.2.2.2.2.2.toList==(⟨#[]⟩:ByteArray).toList)&&true)))))))) else (bif (n.1==(9:Int)) then ((Za n.2.2.2.1)&&((n.1==n.1)&&((n.2.1==0)&&((n.2.2.1==0)&&((n.2.2.2.1.toList==n.2.2.2.1.toList)&&((n.2.2.2.2.1==0)&&((n.2.2.2.2.2.1==0)&&((n.2.2.2.2.2.2.toList==(⟨#[]⟩:ByteArray).toList)&&true)))))))) else false))))))))
theorem Gh (n:Yz) (at_:Int):ACalls Tryz.prog 278 [.a [.i n.1,.i n.2.1,.i n.2.2.1,.s n.2.2.2.1,.i n.2.2.2.2.1,.i n.2.2.2.2.2.1,.s n.2.2.2.2.2.2],.i at_] (.b (Wn n at_)):=by
 refine en Qa Tryz.func278 λw0 F0 hG=> ?_
 refine sn Qa [1,2,4] [2] p0 <| Qc <| mz [(2,.p 2 0),(4,.b false)] [0] [(2, [.i n.1,.i n.2.1,.i n.2.2.1,.s n.2.2.2.1,.i n.2.2.2.2.1,.i n.2.2.2.2.2.1,.s n.2.2.2.2.2.2])] [] <| jn [(5,.b ((Xk n.2.1 0 (IntKind.i64.wrap (at_-1)))&&decide (at_>(0:Int))))] [] [] [] (Xk n.2.1 0 (IntKind.i64.wrap (at_-1))) (λh1=> ?_) (λh1=> ?_) ?_
 ·refine rn Qa [1,2,4,5] [2] (pc 4 (cb h1 (Z9 n.2.1 0 (IntKind.i64.wrap (at_-1)))) p0) ?_;exact zA (by rw[h1]<;>kernel_rfl)
 ·refine rn Qa [1,2,4,5] [2] (pc 4 (cb h1 (Z9 n.2.1 0 (IntKind.i64.wrap (at_-1)))) p0) ?_;exact zA (by rw[h1]<;>kernel_rfl)
 refine Qc <| jn [(6,.b (((Xk n.2.1 0 (IntKind.i64.wrap (at_-1)))&&decide (at_>(0:Int)))&&(Xk n.2.2.1 0 (IntKind.i64.wrap (at_-1)))))] [1] [] [] ((Xk n.2.1 0 (IntKind.i64.wrap (at_-1)))&&decide (at_>(0:Int))) (λh2=> ?_) (λh2=> ?_) ?_
 ·refine rn Qa [2,4,5,6] [2] (pt 0 h2 (pc 6 (Z9 n.2.2.1 0 (IntKind.i64.wrap (at_-1))) p0)) ?_;exact zA (by rw[h2]<;>kernel_rfl)
 ·refine rn Qa [2,4,5,6] [2] (pf 0 h2 p0) ?_;exact zA (by rw[h2]<;>kernel_rfl)
 refine Qc <| sn Qa [2,4,5,6,25] [2] p0 <| Qt <| tn Qa [2,4,5,6,25,26] [2] p0 <| ck (n.1==(1:Int)) (λh3=> ?_) (λh3=> ?_)
 ·exact tu Qa [(4,.b ((n.1==1)&&((n.2.1==0)&&((n.2.2.1==0)&&((n.2.2.2.1.toList==(⟨#[]⟩:ByteArray).toList)&&((n.2.2.2.2.1==0)&&((n.2.2.2.2.2.1==0)&&((n.2.2.2.2.2.2.toList==(⟨#[]⟩:ByteArray).toList)&&true))))))))] [2,4,5,6] [] [2] p0 <| Qh <| pb [] (Xm h3 (rfl))
 refine tu Qa [(25,.i n.1),(31,.b (n.1==(2:Int)))] [] [] [] p0 <| ck (n.1==(2:Int)) (λh4=> ?_) (λh4=> ?_)
 ·refine Qc <| jn [(4,.b ((Yn n.2.2.2.1)&&((n.1==n.1)&&((n.2.1==0)&&((n.2.2.1==0)&&((n.2.2.2.1.toList==n.2.2.2.1.toList)&&((n.2.2.2.2.1==0)&&((n.2.2.2.2.2.1==0)&&((n.2.2.2.2.2.2.toList==(⟨#[]⟩:ByteArray).toList)&&true)))))))))] [2,4,5,6,25,31] [] [2] (Yn n.2.2.2.1) (λh5=> ?_) (λh5=> ?_) ?_
  ·refine rn Qa [4] [] (pc 2 (cb h5 (Y0 n.2.2.2.1)) p0) ?_;exact zA (by rw[h5]<;>kernel_rfl)
  ·refine rn Qa [4] [] (pc 2 (cb h5 (Y0 n.2.2.2.1)) p0) ?_;exact zA (by rw[h5]<;>kernel_rfl)
  exact Qh <| pb [] (Qn h3 (Xm h4 (rfl)))
 refine sn Qa [2,4,5,6,25,45] [2] p0 <| ck (n.1==(3:Int)) (λh6=> ?_) (λh6=> ?_)
 ·refine Qc <| mz [(45,.b (n.1==(3:Int)))] [31] [] [] <| jn [(4,.b ((Yn n.2.2.2.1)&&((Kb n.2.2.2.2)&&((n.2.2.2.2.1 !=(0:Int))&&((n.2.1==(0:Int))&&(n.2.2.1==(0:Int)))))))] [2,4,5,6,25,45] [] [2] (Yn n.2.2.2.1) (λh7=> ?_) (λh7=> ?_) ?_
  ·refine Yj (Kb n.2.2.2.2) (λh8=> ?_) (λh8=> ?_)
   ·refine Yj (n.2.2.2.2.1 !=(0:Int)) (λh9=> ?_) (λh9=> ?_)
    ·refine Yj (n.2.1==(0:Int)) (λh10=> ?_) (λh10=> ?_)
     ·refine rn Qa [4] [] (pc 2 (cb h7 (Y0 n.2.2.2.1)) (pc 6 (cb h8 (Jx n.2.2.2.2)) (pt 12 h9 (pt 17 h10 p0)))) ?_;exact zA (by rw[h7,h8,h9,h10]<;>kernel_rfl)
     refine rn Qa [4] [] (pc 2 (cb h7 (Y0 n.2.2.2.1)) (pc 6 (cb h8 (Jx n.2.2.2.2)) (pt 12 h9 (pf 17 h10 p0)))) ?_;exact zA (by rw[h7,h8,h9,h10]<;>kernel_rfl)
    refine rn Qa [4] [] (pc 2 (cb h7 (Y0 n.2.2.2.1)) (pc 6 (cb h8 (Jx n.2.2.2.2)) (pf 12 h9 p0))) ?_;exact zA (by rw[h7,h8,h9]<;>kernel_rfl)
   refine rn Qa [4] [] (pc 2 (cb h7 (Y0 n.2.2.2.1)) (pc 6 (cb h8 (Jx n.2.2.2.2)) p0)) ?_;exact zA (by rw[h7,h8]<;>kernel_rfl)
  ·refine rn Qa [4] [] (pc 2 (cb h7 (Y0 n.2.2.2.1)) p0) ?_;exact zA (by rw[h7]<;>kernel_rfl)
  exact Qh <| pb [] (Qn h3 (Qn h4 (Xm h6 (rfl))))
 refine tn Qa [2,4,5,6,25,71] [2] p0 <| ck (n.1==(4:Int)) (λh11=> ?_) (λh11=> ?_)
 ·refine Qc <| mz [(71,.b (n.1==(4:Int)))] [31] [] [] <| jn [(4,.b ((Yn n.2.2.2.1)&&((Kb n.2.2.2.2)&&((n.2.2.2.2.1==(1:Int))&&((n.2.1==(0:Int))&&(n.2.2.1==(0:Int)))))))] [2,4,5,6,25,71] [] [2] (Yn n.2.2.2.1) (λh12=> ?_) (λh12=> ?_) ?_
  ·refine Yj (Kb n.2.2.2.2) (λh13=> ?_) (λh13=> ?_)
   ·refine Yj (n.2.2.2.2.1==(1:Int)) (λh14=> ?_) (λh14=> ?_)
    ·refine Yj (n.2.1==(0:Int)) (λh15=> ?_) (λh15=> ?_)
     ·refine rn Qa [4] [] (pc 2 (cb h12 (Y0 n.2.2.2.1)) (pc 6 (cb h13 (Jx n.2.2.2.2)) (pt 12 h14 (pt 17 h15 p0)))) ?_;exact zA (by rw[h12,h13,h14,h15]<;>kernel_rfl)
     refine rn Qa [4] [] (pc 2 (cb h12 (Y0 n.2.2.2.1)) (pc 6 (cb h13 (Jx n.2.2.2.2)) (pt 12 h14 (pf 17 h15 p0)))) ?_;exact zA (by rw[h12,h13,h14,h15]<;>kernel_rfl)
    refine rn Qa [4] [] (pc 2 (cb h12 (Y0 n.2.2.2.1)) (pc 6 (cb h13 (Jx n.2.2.2.2)) (pf 12 h14 p0))) ?_;exact zA (by rw[h12,h13,h14]<;>kernel_rfl)
   refine rn Qa [4] [] (pc 2 (cb h12 (Y0 n.2.2.2.1)) (pc 6 (cb h13 (Jx n.2.2.2.2)) p0)) ?_;exact zA (by rw[h12,h13]<;>kernel_rfl)
  ·refine rn Qa [4] [] (pc 2 (cb h12 (Y0 n.2.2.2.1)) p0) ?_;exact zA (by rw[h12]<;>kernel_rfl)
  exact Qh <| pb [] (Qn h3 (Qn h4 (Qn h6 (Xm h11 (rfl)))))
 refine tu Qa [(97,.b (n.1==(5:Int)))] [31] [] [] p0 <| ck (n.1==(5:Int)) (λh16=> ?_) (λh16=> ?_)
 ·refine Qc <| jn [(4,.b (((Xk n.2.1 0 (IntKind.i64.wrap (at_-1)))&&decide (at_>(0:Int)))&&((n.2.2.1==(0:Int))&&((n.2.2.2.1.toList==(⟨#[]⟩:ByteArray).toList)&&((n.2.2.2.2.1==0)&&((n.2.2.2.2.2.1==0)&&((n.2.2.2.2.2.2.toList==(⟨#[]⟩:ByteArray).toList)&&true)))))))] [2,4,5,6,25,97] [] [2] ((Xk n.2.1 0 (IntKind.i64.wrap (at_-1)))&&decide (at_>(0:Int))) (λh17=> ?_) (λh17=> ?_) ?_
  ·refine Yj (n.2.2.1==(0:Int)) (λh18=> ?_) (λh18=> ?_)
   ·refine Yj (n.2.2.2.1.toList==(⟨#[]⟩:ByteArray).toList) (λh19=> ?_) (λh19=> ?_)
    ·refine rn Qa [4] [] (pt 0 h17 (pt 4 h18 (pt 9 h19 p0))) ?_;exact zA (by rw[h17,h18,h19]<;>kernel_rfl)
    refine rn Qa [4] [] (pt 0 h17 (pt 4 h18 (pf 9 h19 p0))) ?_;exact zA (by rw[h17,h18,h19]<;>kernel_rfl)
   refine rn Qa [4] [] (pt 0 h17 (pf 4 h18 p0)) ?_;exact zA (by rw[h17,h18]<;>kernel_rfl)
  ·refine rn Qa [4] [] (pf 0 h17 p0) ?_;exact zA (by rw[h17]<;>kernel_rfl)
  exact Qh <| pb [] (Qn h3 (Qn h4 (Qn h6 (Qn h11 (Xm h16 (rfl))))))
 refine Qc <| sn Qa [2,4,6,25,116] [2] p0 <| mz [(116,.b (n.1==(6:Int)))] [5,97] [] [] <| jn [(116,.b (bif (n.1==(6:Int)) then (n.1==(6:Int)) else (n.1==(7:Int))))] [116] [] [] (n.1==(6:Int)) (λh20=> ?_) (λh20=> ?_) ?_
 ·refine ckt h20 ?_;exact Qe <| ⟨rfl,Qd (by rw[h20]<;>kernel_rfl)⟩
 ·refine ckf h20 ?_;refine rn Qa [2,4,6,25,116] [2] p0 ?_;exact zA (by rw[h20]<;>kernel_rfl)
 refine ck (bif (n.1==(6:Int)) then (n.1==(6:Int)) else (n.1==(7:Int))) (λh21=> ?_) (λh21=> ?_)
 ·refine Qc <| jn [(4,.b ((((Xk n.2.1 0 (IntKind.i64.wrap (at_-1)))&&decide (at_>(0:Int)))&&(Xk n.2.2.1 0 (IntKind.i64.wrap (at_-1))))&&((n.2.2.2.1.toList==(⟨#[]⟩:ByteArray).toList)&&((n.2.2.2.2.1==0)&&((n.2.2.2.2.2.1==0)&&((n.2.2.2.2.2.2.toList==(⟨#[]⟩:ByteArray).toList)&&true))))))] [2,4,6,25,116] [] [2] (((Xk n.2.1 0 (IntKind.i64.wrap (at_-1)))&&decide (at_>(0:Int)))&&(Xk n.2.2.1 0 (IntKind.i64.wrap (at_-1)))) (λh22=> ?_) (λh22=> ?_) ?_
  ·refine Yj (n.2.2.2.1.toList==(⟨#[]⟩:ByteArray).toList) (λh23=> ?_) (λh23=> ?_)
   ·refine rn Qa [4] [] (pt 0 h22 (pt 4 h23 p0)) ?_;exact zA (by rw[h22,h23]<;>kernel_rfl)
   refine rn Qa [4] [] (pt 0 h22 (pf 4 h23 p0)) ?_;exact zA (by rw[h22,h23]<;>kernel_rfl)
  ·refine rn Qa [4] [] (pf 0 h22 p0) ?_;exact zA (by rw[h22]<;>kernel_rfl)
  exact Qh <| pb [] (Qn h3 (Qn h4 (Qn h6 (Qn h11 (Qn h16 (Xm h21 (rfl)))))))
 refine Qc <| sn Qa [2,4,25,131] [2] p0 <| ck (n.1==(8:Int)) (λh24=> ?_) (λh24=> ?_)
 ·refine Qe <| ckt h24 ?_
  refine Qc <| mz [(131,.b (n.1==(8:Int)))] [6,116] [] [] <| jn [(4,.b ((Za n.2.2.2.1)&&((n.1==n.1)&&((n.2.1==0)&&((n.2.2.1==0)&&((n.2.2.2.1.toList==n.2.2.2.1.toList)&&((n.2.2.2.2.1==0)&&((n.2.2.2.2.2.1==0)&&((n.2.2.2.2.2.2.toList==(⟨#[]⟩:ByteArray).toList)&&true)))))))))] [2,4,25,131] [] [2] (Za n.2.2.2.1) (λh25=> ?_) (λh25=> ?_) ?_
  ·refine rn Qa [4] [] (pc 2 (cb h25 (J7 n.2.2.2.1)) p0) ?_;exact zA (by rw[h25]<;>kernel_rfl)
  ·refine rn Qa [4] [] (pc 2 (cb h25 (J7 n.2.2.2.1)) p0) ?_;exact zA (by rw[h25]<;>kernel_rfl)
  exact Qh <| pb [] (Qn h3 (Qn h4 (Qn h6 (Qn h11 (Qn h16 (Qn h21 (Xm h24 (rfl))))))))
 refine qn Qa [2,4,131] [2] p0 ?_;refine ck (n.1==(9:Int)) (λh26=> ?_) (λh26=> ?_)
 ·refine Qc <| mz [(131,.b (n.1==(9:Int)))] [6,25,116] [] [] <| jn [(4,.b ((Za n.2.2.2.1)&&((n.1==n.1)&&((n.2.1==0)&&((n.2.2.1==0)&&((n.2.2.2.1.toList==n.2.2.2.1.toList)&&((n.2.2.2.2.1==0)&&((n.2.2.2.2.2.1==0)&&((n.2.2.2.2.2.2.toList==(⟨#[]⟩:ByteArray).toList)&&true)))))))))] [2,4,131] [] [2] (Za n.2.2.2.1) (λh27=> ?_) (λh27=> ?_) ?_
  ·refine rn Qa [4] [] (pc 2 (cb h27 (J7 n.2.2.2.1)) p0) ?_;exact zA (by rw[h27]<;>kernel_rfl)
  ·refine rn Qa [4] [] (pc 2 (cb h27 (J7 n.2.2.2.1)) p0) ?_;exact zA (by rw[h27]<;>kernel_rfl)
  exact Qh <| pb [] (Qn h3 (Qn h4 (Qn h6 (Qn h11 (Qn h16 (Qn h21 (Qn h24 (Xm h26 (rfl)))))))))
 exact Qe <| tu Qa [] [2,6,25,116] [] [2] p0 <| Qh <| pb [] (Qn h3 (Qn h4 (Qn h6 (Qn h11 (Qn h16 (Qn h21 (Qn h24 (Qn h26 (rfl)))))))))
def H9 (at_:Int) (_:Nat) (a0:Yz) (s0:Int):Rd (Int) (Int) (Int):=(bif (bif ((a0.1==(6:Int))|| (a0.1==(7:Int))) then (a0.2.1==at_) else ((a0.1==(5:Int))&&(a0.2.1==at_))) then (bif (((a0.1==(6:Int))|| (a0.1==(7:Int)))&&(a0.2.2.1==at_)) then (.next (IntKind.i64.wrap (IntKind.i64.wrap (s0+1)+1))) else (.next (IntKind.i64.wrap (s0+1)))) else (bif (((a0.1==(6:Int))|| (a0.1==(7:Int)))&&(a0.2.2.1==at_)) then (.next (IntKind.i64.wrap (s0+1))) else (.next s0)))
def Bw (_:Nat) (s0:Int):Int:=s0
def Ud (q:List Yz) (at_:Int):Int:=(Out.on (X7 (H9 at_) Bw q 0 0) (λy0=>y0))
theorem P6 (q:List Yz) (at_:Int):ACalls Tryz.prog 279 [.h q,.i at_] (.i (Ud q at_)):=by
 refine en Qa Tryz.func279 λw0 F0 hG=> ?_
 refine sn Qa [0,1,4] [] p0 <| tn Qa [0,1,4,5] [] p0 <| Qc <| tu Qa [(4,.i 0),(5,.i 0),(6,.i 0)] [] [] [] p0 <| wT 0 0 .sh q (λhw1 hl2=> ?_)
 refine Pa (H9 at_) Bw q 0 (λk0 s0=> [(5,.i s0),(6,.i (k0:Int))]) [5,6] (λy0=> [(5,.i y0)]) [0,1,5,6] wf0 (λk0 s0 hk0 U=> ?_) (λk0 s0 hk0 U=> ?_) (λy0 hD0=> ?_)
 ·obtain ⟨a0,V⟩:=Xs (l:=q) (i:=k0) hk0;refine Qc <| sn Qa [0,1,4,5,6,11] [] (pl 2 q (pe 3 (zB ((k0:Int)<(q.length:Int))) p0)) <| ckT <| Qe <| Qc <| Qt <| Qc <| mz [(11,.b true)] [] [] [] <| jn [(7,.b ((a0.1==(6:Int))|| (a0.1==(7:Int))))] [11] [] [] (a0.1==(6:Int)) (λh3=> ?_) (λh3=> ?_) ?_
  ·refine rn Qa [0,1,4,5,6,7] [] (pn 2 V (pt 5 h3 p0)) ?_;exact zA (by rw[h3]<;>kernel_rfl)
  ·refine rn Qa [0,1,4,5,6,7] [] (pn 2 V (pf 5 h3 (pn 9 V p0))) ?_;exact zA (by rw[h3]<;>kernel_rfl)
  refine Qc <| Qc <| jn [(45,.b (bif ((a0.1==(6:Int))|| (a0.1==(7:Int))) then (a0.2.1==at_) else ((a0.1==(5:Int))&&(a0.2.1==at_))))] [] [] [] ((a0.1==(6:Int))|| (a0.1==(7:Int))) (λh4=> ?_) (λh4=> ?_) ?_
  ·refine rn Qa [0,1,4,5,6,7,45] [] (pt 0 h4 (pn 12 V p0)) ?_;exact zA (by rw[h4]<;>kernel_rfl)
  ·refine Yj (a0.1==(5:Int)) (λh5=> ?_) (λh5=> ?_)
   ·refine rn Qa [0,1,4,5,6,7,45] [] (pf 0 h4 (pn 4 V (pt 7 h5 (pn 12 V p0)))) ?_;exact zA (by rw[h4,h5]<;>kernel_rfl)
   refine ru Qa [(45,.b false)] [] [] [] (pf 0 h4 (pn 4 V (pf 7 h5 p0))) ?_;exact zA (by rw[h4,h5]<;>kernel_rfl)
  refine ck (bif ((a0.1==(6:Int))|| (a0.1==(7:Int))) then (a0.2.1==at_) else ((a0.1==(5:Int))&&(a0.2.1==at_))) (λh6=> ?_) (λh6=> ?_)
  ·refine rn Qa [0,1,4,5,6,7] [] p0 ?_;refine Qc <| mz [(5,.i (IntKind.i64.wrap (s0+1)))] [5,45] [] [] <| jn [(57,.b (((a0.1==(6:Int))|| (a0.1==(7:Int)))&&(a0.2.2.1==at_)))] [7] [] [] ((a0.1==(6:Int))|| (a0.1==(7:Int))) (λh7=> ?_) (λh7=> ?_) ?_
   ·refine rn Qa [0,1,4,5,6,57] [] (pt 0 h7 (pn 4 V p0)) ?_;exact zA (by rw[h7]<;>kernel_rfl)
   ·refine rn Qa [0,1,4,5,6,57] [] (pf 0 h7 p0) ?_;exact zA (by rw[h7]<;>kernel_rfl)
   refine ck (((a0.1==(6:Int))|| (a0.1==(7:Int)))&&(a0.2.2.1==at_)) (λh8=> ?_) (λh8=> ?_)
   ·have h8r:((a0.2.2.1==at_))=true:=CY h8;have h8rd:=eq_of_beq h8r;refine rn Qa [0,1,4,5,6] [] p0 ?_;refine qn Qa [0,1,4,5,6] [] (pe 1 (J6 (Ql k0 (by omega))) p0) ?_;exact xw _ (Qp V (Xm h6 (Xm h8 (rfl))) U)
   refine Qe <| rn Qa [0,1,4,5,6] [] (pe 1 (J6 (Ql k0 (by omega))) p0) ?_
   exact xw _ (Qp V (Xm h6 (Qn h8 (rfl))) U)
  refine Qe <| Qc <| jn [(57,.b (((a0.1==(6:Int))|| (a0.1==(7:Int)))&&(a0.2.2.1==at_)))] [7,45] [] [] ((a0.1==(6:Int))|| (a0.1==(7:Int))) (λh9=> ?_) (λh9=> ?_) ?_
  ·refine rn Qa [0,1,4,5,6,57] [] (pt 0 h9 (pn 4 V p0)) ?_;exact zA (by rw[h9]<;>kernel_rfl)
  ·refine rn Qa [0,1,4,5,6,57] [] (pf 0 h9 p0) ?_;exact zA (by rw[h9]<;>kernel_rfl)
  refine ck (((a0.1==(6:Int))|| (a0.1==(7:Int)))&&(a0.2.2.1==at_)) (λh10=> ?_) (λh10=> ?_)
  ·have h10r:((a0.2.2.1==at_))=true:=CY h10;have h10rd:=eq_of_beq h10r;refine rn Qa [0,1,4,5,6] [] p0 ?_;refine qn Qa [0,1,4,5,6] [] (pe 1 (J6 (Ql k0 (by omega))) p0) ?_;exact xw _ (Qp V (Qn h6 (Xm h10 (rfl))) U)
  refine Qe <| rn Qa [0,1,4,5,6] [] (pe 1 (J6 (Ql k0 (by omega))) p0) ?_
  exact xw _ (Qp V (Qn h6 (Qn h10 (rfl))) U)
 ·exact Qc <| sn Qa [0,1,4,5,6,11] [] (pl 2 q (pe 3 (zC ((k0:Int)<(q.length:Int))) p0)) <| ckF <| Q9 <| xw _ (Xt hk0 (rfl) U)
 exact sn Qa [4] [] p0 <| Qh <| pi [] (Uc hD0 (rfl))
def Hy (q:List Yz) (k0:Nat) (a0:Yz) (_:Unit):Rd (Bool) (Unit) (Unit):=(bif ((!(Wn a0 (k0:Int)))|| (decide ((k0:Int)<((q.length:Int)-1))&&((Ud q (k0:Int)) !=(1:Int)))) then (.ret false) else (.next ()))
def Bm (_:Nat) (_:Unit):Unit:=()
def Zq (q:List Yz):Bool:=(Out.on (X7 (Hy q) Bm q 0 ()) (λ_=>(Xk (q.length:Int) 1 9)))
theorem Ut (q:List Yz):ACalls Tryz.prog 246 [.h q] (.b (Zq q)):=by
 refine en Qa Tryz.func246 λw0 F0 hG=> ?_
 refine sn Qa [0,2] [] p0 <| Qc <| tn Qa [0,2,3] [] p0 <| mz [(2,.b false),(3,.i 0)] [] [] [] <| wT 0 0 .sh q (λhw1 hl2=> ?_)
 refine Pa (Hy q) Bm q () (λk0 _=> [(3,.i (k0:Int))]) [3] (λ_=> []) [3] wf0 (λk0 s0 hk0 U=> ?_) (λk0 s0 hk0 U=> ?_) (λy0 hD0=> ?_)
 ·obtain ⟨a0,V⟩:=Xs (l:=q) (i:=k0) hk0;refine Qc <| sn Qa [0,2,3,7] [] (pl 2 q (pe 3 (zB ((k0:Int)<(q.length:Int))) p0)) <| ckT <| Qe <| Qc <| Qt <| Qc <| mz [(7,.b true)] [] [] [] <| jn [(29,.b ((!(Wn a0 (k0:Int)))|| (decide ((k0:Int)<((q.length:Int)-1))&&((Ud q (k0:Int)) !=(1:Int)))))] [7] [] [] (!(Wn a0 (k0:Int))) (λh3=> ?_) (λh3=> ?_) ?_
  ·have h3n:(Wn a0 (k0:Int))=false:=Vp h3;refine rn Qa [0,2,3,29] [] (pn 2 V (pc 5 (cb h3n (Gh a0 (k0:Int))) (pe 6 (show .b (!false)= .b true from rfl) p0))) ?_;exact zA (by rw[h3]<;>kernel_rfl)
  ·have h3n:(Wn a0 (k0:Int))=true:=Zc h3;refine Yj (decide ((k0:Int)<((q.length:Int)-1))) (λh4=> ?_) (λh4=> ?_)
   ·have h4d:=of_decide_eq_true h4;refine rn Qa [0,2,3,29] [] (pn 2 V (pc 5 (cb h3n (Gh a0 (k0:Int))) (pe 6 (show .b (!true)= .b false from rfl) (pl 10 q (pe 11 (J6 (IntWalk.i64_in ((q.length:Int)-1) (by omega))) (pt 12 h4 (pc 16 (P6 q (k0:Int)) p0))))))) ?_;exact zA (by rw[h3,h4]<;>kernel_rfl)
   have h4d:=of_decide_eq_false h4;refine rn Qa [0,2,3,29] [] (pn 2 V (pc 5 (cb h3n (Gh a0 (k0:Int))) (pe 6 (show .b (!true)= .b false from rfl) (pl 10 q (pe 11 (J6 (IntWalk.i64_in ((q.length:Int)-1) (by omega))) (pf 12 h4 p0)))))) ?_;exact zA (by rw[h3,h4]<;>kernel_rfl)
  refine ck ((!(Wn a0 (k0:Int)))|| (decide ((k0:Int)<((q.length:Int)-1))&&((Ud q (k0:Int)) !=(1:Int)))) (λh5=> ?_) (λh5=> ?_)
  ·refine sn Qa [0,2,3] [] p0 <| Qh ?_
   have hr6:(X7 (Hy q) Bm q 0 ())= .ret false:=Jr V (Xm h5 (rfl)) U;exact pb [] (Nk hr6)
  refine Qe <| rn Qa [0,2,3] [] (pe 1 (J6 (Ql k0 (by omega))) p0) ?_
  exact xw _ (Qp V (Qn h5 (rfl)) U)
 ·exact Qc <| sn Qa [0,2,3,7] [] (pl 2 q (pe 3 (zC ((k0:Int)<(q.length:Int))) p0)) <| ckF <| Q9 <| xw _ (Xt hk0 (rfl) U)
 exact sn Qa [2] [] (pl 1 q (pc 2 (Z9 (q.length:Int) 1 9) p0)) <| Qh <| pb [] (Uc hD0 (rfl))
theorem Qq0 (a b c:Int):Zk a b c=Xk a b c:=rfl
theorem Ry {a b c:Int}:Zk a b c=true↔b<=a/\a<=c:=by simp[Zk]
theorem Fh {a b c:Int}:Xk a b c=true↔b<=a/\a<=c:=by simp[Xk]
theorem Qcf (s:ByteArray):Zg s=Za s:=rfl
theorem PA (s:ByteArray):Zl s=Yn s:=by
 unfold Zl Yn Gf;by_cases h:s.size=1
 . simp only[h,Int.toNat_natCast,U1,Az];by_cases h1:Ct s 0<97<;>by_cases h2:Ct s 0>122<;>simp[h1,h2,Out.on,Xk,Bv]<;>omega
 have h1:((s.size:Int)==1)=false:=by simpa using λe:(s.size:Int)=1=>h (by omega)
 have h2:Xk (s.size:Int) 1 1=false:=by simp[Xk];omega
 rw[h1,h2,Bool.false_and];cases hf:U1 (Az s) Bv (zG (s.size:Int)) 0 () with
 | brk t=>rfl
 | ret r=>
   have key:∀n k,∀r,U1 (Az s) Bv n k ()= .ret r->r=false:=by
    intro n
    induction n with
    | zero=>intro k r h;simp[U1] at h
    | succ n ih=>
      intro k r h;simp only[U1,Az] at h;cases hc:(decide (Ct s ((k:Nat):Int)<(97:Int))|| decide (Ct s ((k:Nat):Int)>(122:Int))) with
      | true=>rw[hc] at h;simp only[cond_true] at h;cases h;rfl
      | false=>rw[hc] at h;exact ih _ _ h
   exact (key _ _ _ hf).symm
theorem Qcg (v:Dr):V5 v=Kb v:=rfl
theorem Qf4 (n:Yz) (k:Int):Jj n k=Wn n k:=by
 unfold Jj Wn;rw[PA,Qcg,Qcf];simp only[Qq0];by_cases h1:n.1=1
 . simp[h1]
 by_cases h2:n.1=2
 . simp[h1,h2,xT]
 by_cases h3:n.1=3
 . simp[h1,h2,h3];ac_rfl
 by_cases h4:n.1=4
 . simp[h1,h2,h3,h4];cases h:(n.2.2.2.2.1==1)<;>simp_all<;>ac_rfl
 by_cases h5:n.1=5
 . simp[h1,h2,h3,h4,h5];ac_rfl
 by_cases h6:n.1=6
 . simp[h1,h2,h3,h4,h5,h6];ac_rfl
 by_cases h7:n.1=7
 . simp[h1,h2,h3,h4,h5,h6,h7];ac_rfl
 by_cases h8:n.1=8
 . simp[h1,h2,h3,h4,h5,h6,h7,h8,xT]
 by_cases h9:n.1=9
 . simp[h1,h2,h3,h4,h5,h6,h7,h8,h9,xT]
 simp only[beq_eq_false_iff_ne.2 h1,beq_eq_false_iff_ne.2 h2,beq_eq_false_iff_ne.2 h3,beq_eq_false_iff_ne.2 h4,beq_eq_false_iff_ne.2 h5,beq_eq_false_iff_ne.2 h6,beq_eq_false_iff_ne.2 h7,beq_eq_false_iff_ne.2 h8,beq_eq_false_iff_ne.2 h9,cond_false]
theorem Qjq (q:List Yz) (k:Int):Ko q k=Ud q k:=by
 unfold Ko Ud
 rw[Gv (f:=K8 k) (g:=H9 k) (e:=H8) (e':=Bw) (λi a s=>by
  unfold K8 H9;cases (a.2.1==k)<;>cases (a.2.2.1==k)<;>cases (a.1==6)<;>cases (a.1==7)<;>cases (a.1==5)<;>rfl) (λ_ _=>rfl)]
theorem Qf5 (q:List Yz):Q8 q=Zq q:=by
 unfold Q8 Zq
 rw[Gv (f:=Z1 q) (g:=Hy q) (e:=Wb) (e':=Bm) (λi a s=>by
  unfold Z1 Hy;rw[Qf4,Qjq]) (λ_ _=>rfl)]
 rfl
theorem S9 {q:List Yz} (h:Zq q=true):Q8 q=true:=(Qf5 q).trans h
theorem Qch {q:List Yz} (h:Q8 q=true):(∃t,X7 (Z1 q) Wb q 0 ()= .brk t)/\Zk (q.length:Int) 1 9=true:=by
 unfold Q8 at h;cases hf:X7 (Z1 q) Wb q 0 () with
 | brk t=>rw[hf] at h;exact ⟨⟨t,rfl⟩,h⟩
 | ret r=>
   rw[hf] at h;obtain rfl:r=true:=h;exfalso
   have key:∀(l:List Yz) k,X7 (Z1 q) Wb l k ()≠ .ret true:=by
    intro l
    induction l with
    | nil=>intro k h;simp[X7] at h
    | cons a l ih=>
      intro k h;simp only[X7] at h;unfold Z1 at h;split at h
      . rename_i hf;exact ih _ h
      . cases h
      rename_i r hf;cases h;revert hf;generalize (_|| _:Bool)=c;cases c<;>simp
   exact key _ _ hf
theorem VI {q:List Yz} (h:Q8 q=true):1<=q.length/\q.length<=9:=by
 have:=Ry.1 (Qch h).2;omega
theorem MH {q:List Yz} (h:Q8 q=true) {i:Nat} {n:Yz} (hi:q[i]? =some n):Jj n (i:Int)=true:=by
 obtain ⟨⟨t,ht⟩,_⟩:=Qch h;have:=Og (λk a t=>by unfold Z1;generalize (_|| _:Bool)=c;cases c<;>simp) ht i n hi;unfold Z1 at this;rw[xW] at this;cases hn:Jj n (i:Int) with
 | true=>rfl
 | false=>rw[hn] at this;simp at this
theorem Qjr {n:Yz} {k:Int} (h:Jj n k=true) (hk:0<=k/\k<4611686018427387904):(n.1=5\/n.1=6\/n.1=7->0<=n.2.1/\n.2.1<k)/\(n.1=6\/n.1=7->0<=n.2.2.1/\n.2.2.1<k):=by
 have hw:IntKind.i64.wrap (k-1)=k-1:=IntWalk.i64_in _ (by omega);unfold Jj at h;rw[hw] at h;refine ⟨λh5=> ?_,λh5=> ?_⟩
 . rcases h5 with h5 | h5 | h5<;>(simp[h5,Zk] at h;omega)
 rcases h5 with h5 | h5<;>(simp[h5,Zk] at h;omega)
theorem Ig {q:List Yz} (h:Q8 q=true) {k:Int} (ha:0<=k) (hb:k<(q.length:Int)):
 ((nth q (zG k)).1=5\/(nth q (zG k)).1=6\/(nth q (zG k)).1=7->0<=(nth q (zG k)).2.1/\(nth q (zG k)).2.1<k)/\((nth q (zG k)).1=6\/(nth q (zG k)).1=7->0<=(nth q (zG k)).2.2.1/\(nth q (zG k)).2.2.1<k):=by
 have hi:q[zG k]? =some (nth q (zG k)):=Hb (by omega);have:=MH h hi;rw[Int.toNat_of_nonneg ha] at this;exact Qjr this ⟨ha,by have:=(VI h).2;omega⟩
section
variable {q:List Yz} {k:Int} (h:Q8 q=true) (ha:0<=k) (hb:k<(q.length:Int))
include h ha hb
theorem Qh0 (h5:((nth q (zG k)).1==(5:Int))=true):0<=(nth q (zG k)).2.1/\(nth q (zG k)).2.1<k:=(Ig h ha hb).1 (.inl (eq_of_beq h5))
theorem PB (h5:((nth q (zG k)).1==(6:Int))=true):0<=(nth q (zG k)).2.1/\(nth q (zG k)).2.1<k:=(Ig h ha hb).1 (.inr (.inl (eq_of_beq h5)))
theorem SS (h5:((nth q (zG k)).1==(7:Int))=true):0<=(nth q (zG k)).2.1/\(nth q (zG k)).2.1<k:=(Ig h ha hb).1 (.inr (.inr (eq_of_beq h5)))
theorem Qh1 (h5:((nth q (zG k)).1==(6:Int))=true):0<=(nth q (zG k)).2.2.1/\(nth q (zG k)).2.2.1<k:=(Ig h ha hb).2 (.inl (eq_of_beq h5))
theorem Qjs (h5:((nth q (zG k)).1==(7:Int))=true):0<=(nth q (zG k)).2.2.1/\(nth q (zG k)).2.2.1<k:=(Ig h ha hb).2 (.inr (eq_of_beq h5))
theorem Qh2 (h5:(((nth q (zG k)).1==(6:Int))|| ((nth q (zG k)).1==(7:Int)))=true):(0<=(nth q (zG k)).2.1/\(nth q (zG k)).2.1<k)/\(0<=(nth q (zG k)).2.2.1/\(nth q (zG k)).2.2.1<k):=by
 have h6:(nth q (zG k)).1=6\/(nth q (zG k)).1=7:=by simpa using h5
 exact ⟨(Ig h ha hb).1 (.inr h6),(Ig h ha hb).2 h6⟩
end
end
end Go.Proofs.YtnnhlokdfkajnaaGreat
