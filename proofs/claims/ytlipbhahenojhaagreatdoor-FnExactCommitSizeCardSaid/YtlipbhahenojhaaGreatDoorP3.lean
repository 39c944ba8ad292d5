/- A part. -/
import Derived.Test.YtlipbhahenojhaaGreatDoorP2
import Derived.Orders
import Derived.LoopN
import Derived.Deep.DeepAppendRoom
import Derived.Maps.AppendAt
import Derived.Test.YtlipbhahenojhaaGreatDoorProg
import Derived.Outline
import Derived.Lib.SliceRun
set_option linter.unusedVariables false
set_option linter.unusedSimpArgs false
namespace Go.Proofs.YtlipbhahenojhaaGreatDoor
open _root_ renaming Nat → Y, List → O, Int → H, Bool → uD, ByteArray → uE, Option → uG, if_neg → uH, Unit → uL, if_pos → uM, Array → uN, Inhabited → uO, beq_eq_false_iff_ne → uP, cond_true → uQ, congrArg → uR, cond_false → uS, of_decide_eq_false → uU, of_decide_eq_true → uV, LawfulBEq → uW
open _root_.Bool renaming true → E, false → uA
open _root_.Go renaming World → uC, Value → uF, Code → uI, Program → uJ, TypeId → uK, maxLen → uT
open _root_.Option renaming some → G, none → uB
open _root_.Go.IntKind renaming wrap → uX, i64 → uY
open _root_.Go.Proofs.Tryz renaming prog → uZ
open _root_.Go.Proofs.Tryz
open _root_.Array renaming getD_eq_getD_getElem? → zM, getElem?_eq_some_iff → yA, getElem?_append_left → yG, mapM_eq_mapM_toList → xC, replicate → xI, getElem?_toList → xL
open _root_.Bool renaming and_eq_true → zG, not_eq_true' → zO, and_comm → xR
open _root_.ByteArray renaming size → zE
open _root_.Classical renaming byContradiction → yM
open _root_.Int renaming toNat → yQ
open _root_.List renaming getElem?_eq_some_iff → zF, getElem?_eq_getElem → zK, mem_cons → zL, eq_nil_of_length_eq_zero → zN, mem_append_right → zQ, mem_singleton → zR, mem_cons_of_mem → zS, mem_append_left → zU, mem_append → zV, map_cons → zY, mem_cons_self → zZ, pairwise_iff_getElem → yB, map_congr_left → yD, getElem?_append_right → yH, mem_of_getElem? → yI, getElem?_append_left → yL, map_append → yN, length_append → yO, take_append_of_le_length → yV, append_nil → yW, mem_map → yX, drop_drop → yY, pairwise_cons → yZ, replicate → xA, flatten_replicate_nil → xB, getElem?_cons_succ → xE, mem_flatMap → xF, cons_append → xG, map_id' → xH, nil_append → xK, mem_of_mem_take → xM, drop_take → xN, take_take → xO, pairwise_append → xP, getElem_of_mem → xQ, map → xS
open _root_.Nat renaming beq → zP, le_refl → zT, add_mul → zW, le_trans → zX, mul_le_mul_right → yC, one_mul → yE, zero_lt_one → yF, zero_le → yJ, lt_of_lt_of_le → yP, eq_of_beq_eq_true → yT, le_add_right → yU, lt_trichotomy → xD, min_eq_left → xJ, lt_or_ge → xT, zero_add → xU
open _root_.Option renaming map_some → zH, map_eq_some_iff → zJ, bind_some → yK
open _root_.Option.some renaming inj → zD, injEq → yR
open _root_.Prod renaming snd → yS
section
open Go.RowKit
structure Rec where
 avs:O AV
 bn:O (Y×O C)
 res:Res
 obs:O Ob
def Nb(s:St):O Operand->uG (O AV)
 | []=>G []
 | x::r=>match IY s x,Nb s r with
   | some v,G vs=>G (v::vs)
   | _,_=>uB
def XH:O C->O Y
 | []=> []
 | c::r=>c.bkeys++XH r
def Cl(s:St):O Y->O (Y×O C)
 | []=> []
 | k::r=>match get s.bx k with
   | some cs=>(k,cs)::Cl s r
   | none=>Cl s r
def EM(tt : List (Y×TI))(b:Orc)(bn:O (Y×O C))(c:uG Y)(d:Op)(a:O AV):uG (Res×O Ob):=
 match Qjw tt b bn d a with
 | some (v,obs)=>(match b with
   | .val e=>G (⟨e, [],uB,uB⟩,.eq v e::obs)
   | _=>G (⟨v, [],uB,uB⟩,obs))
 | none => match Qtc tt bn c d a with
   | some x=>G x
   | none => match Qtf tt b c d a with
     | some x=>G x
     | none => match Qtj b bn c d a with
       | some x=>G x
       | none => match Qj5 tt b d a with
         | some (v,obs)=>(match b with
           | .val e=>G (⟨e, [],uB,uB⟩,.eq v e::obs)
           | _=>G (⟨v, [],uB,uB⟩,obs))
         | none =>match Qj6 tt d a with
           | some x=>G x
           | none =>match Qtk tt c d a with
             | some x=>G x
             | none=>match Qto b bn c d a with
               | some x=>G x
               | none=>match Qtp b bn c d a with
                 | some x=>G x
                 | none=>Qtq b c d a
def TU(tt:O (Y×TI))(a:Orc)(bn:O (Y×O C))(c:uG Y)(d:Op)(b:O AV):uG (Res×O Ob):=
 match EL tt a d b with
 | some (v,obs)=>G (⟨v, [],uB,uB⟩,obs)
 | none=>EM tt a bn c d b
def G0(ops:O Oper)(s:St)(o:Oper):uG uD:=
 match o.guard with
 | none=>G E
 | some (j,want)=>match ops[j]? with
   | some a=>(match a.dst with
     | some t=>(match get s.tm t with
       | some (.one (.bool b))=>G (match b,want with
         | true,E=>E
         | false,uA=>E
         | _,_=>uA)
       | some (.tup [])=>G uA
       | _=>uB)
     | none=>uB)
   | none=>uB
def Qdl(N:Y):uG Y->uD
 | none=>E
 | some d=>Nat.blt d N
def L9(tt:O (Y×TI))(N:Y)(b:Orc)(c:O Oper)(s:St)(o:Oper):uG Rec:=
 bif Qdl N o.dst then
  match G0 c s o with
  | some E=>(match Nb s o.op.operands.toList with
    | some a=>(match TU tt b (Cl s (XH (Z4 a))) o.dst o.op a with
      | some (r,obs)=>G ⟨a,Cl s (XH (Z4 a)),r,obs⟩
      | none=>uB)
    | none=>uB)
  | some uA=>G ⟨[], [],⟨.tup [], [],uB,uB⟩, []⟩
  | none=>uB
 else uB
section
variable {P:uJ} {N:Y} {w0:Base} {F0:Y->Prop} {J:Inj} {a:Act} {w:uC} {s:St}
theorem MM : ∀ {xs :O Operand} {vs:O AV},Nb s xs=G vs->All2 (λx v=>IY s x=G v) xs vs
 | [], vs, h => by obtain rfl: []=vs:=by simpa [Nb] using h
                   exact .nil
 | x::r,vs,h=>by
   simp only[Nb] at h;split at h
   . rename_i v a b c;obtain rfl:=zD h;exact .cons b (MM c)
   cases h
theorem JM:∀{ks:O Y} {k:Y} {c:O C},get (Cl s ks) k=G c->get s.bx k=G c
 | [],k,c,h=>by simp[Cl,get] at h
 | x ::r,k,c,h=>by
   simp only[Cl] at h;split at h
   . rename_i cs a;simp only[get] at h;split at h
     . rename_i e;subst e;rw[a];exact h
     exact JM h
   exact JM h
theorem Qhs{tt:O (Y×TI)}(m:S6 P tt=E){t:Orc}{bn:O (Y×O C)}{o:Oper}{y:O AV}{r:Res}{obs:O Ob}(h:EM tt t bn o.dst o.op y=G (r,obs))(j:AllOb (Jk P w0) (Uq P w0) obs)
 (f:∀d,o.dst=G d->d<N) (b:Rel N w0 F0 J a w s) (g:All2 (λx v=>IY s x=G v) o.op.operands.toList y) (q:∀k c,get bn k=G c->get s.bx k=G c) {K:Act->uC->Prop} {Q:Exit->Act->uC->Prop}
 (p:∀J' z w',Rel N w0 F0 J' z w' (s.step o.dst r)->K z w'):o.wp P a w K Q:=by
 unfold EM at h
 have a3:∀k c,get bn k=G c->∃a1 e,w.heap[J.B k]? =G (.cells a1 e (0,0))/\All2 (CR J w) a1.toList c:=λk c hk=>by
  obtain⟨_,_,_,h⟩:=b.bo k c (q k c hk);exact h
 split at h
 . rename_i v i hp
   have key:∀v',AllOb (Jk P w0) (Uq P w0) i->v=v'->(∀J' z w',Rel N w0 F0 J' z w' (s.step o.dst ⟨v', [],uB,uB⟩)->K z w')->o.wp P a w K Q:=by
    intro v' l e a4;obtain⟨u,hu,hr⟩:=Qo2 (P:=P) (A:=Jk P w0) (J:=J) (w:=w) m hp l rfl (ρ:=a.eval) (λ_=>rfl) (Gl b g) a3;exact An hu (a4 J _ _ (b.pure o.dst f v' u λ_=>e▸hr))
   split at h
   . rename_i v';obtain⟨rfl,rfl⟩:(⟨v', [],uB,uB⟩:Res)=r/\ .eq v v'::i=obs:=by simpa using h
     obtain⟨e,l⟩:=AllOb.cons j;exact key v' l e p
   obtain⟨rfl,rfl⟩:(⟨v, [],uB,uB⟩:Res)=r/\i=obs:=by simpa using h
   exact key v j rfl p
 split at h
 . rename_i x n;obtain rfl:=zD h;exact Qo5 (P:=P) m n f b g q p
 split at h
 . rename_i x n;obtain rfl:=zD h;exact Qo6 (P:=P) m n j f b g p
 split at h
 . rename_i x n;obtain rfl:=zD h;exact Qo9 (P:=P) n j f b g q p
 split at h
 . rename_i v i hp;have a2:(∃v',t= .val v')\/∀v',t≠ .val v':=by cases t<;>simp
   rcases a2 with⟨v',rfl⟩ | hne
   . obtain⟨rfl,rfl⟩:(⟨v', [],uB,uB⟩:Res)=r/\ .eq v v'::i=obs:=by simpa using h
     obtain⟨e,l⟩:=AllOb.cons j;obtain⟨u,hu,hr⟩:=TN (P:=P) (A:=Jk P w0) (J:=J) (w:=w) m hp l rfl (ρ:=a.eval) (Gl b g);have e:v=v':=e;exact An hu (p _ _ _ (b.pure o.dst f _ _ λ_=>e▸hr))
   have h2:G ((⟨v, [],uB,uB⟩:Res),i)=G (r,obs):=by
    split at h
    . exact absurd rfl (hne _)
    exact h
   obtain⟨rfl,rfl⟩:(⟨v, [],uB,uB⟩:Res)=r/\i=obs:=by simpa using h2
   obtain⟨u,hu,hr⟩:=TN (P:=P) (A:=Jk P w0) (J:=J) (w:=w) m hp j rfl (ρ:=a.eval) (Gl b g);exact An hu (p _ _ _ (b.pure o.dst f _ _ λ_=>hr))
 split at h
 . rename_i x n;obtain rfl:=zD h;exact Qj8 (P:=P) m n f b g p
 split at h
 . rename_i x n;obtain rfl:=zD h;exact Qpb (P:=P) m n j f b g p
 split at h
 . rename_i x n;obtain rfl:=zD h;exact Qpd (P:=P) n j f b g q p
 split at h
 . rename_i x n;obtain rfl:=zD h;exact Qpf (P:=P) n j f b g q p
 exact Qph (P:=P) h j f b g p
theorem Qkg{tt:O (Y×TI)}(g:S6 P tt=E){m:Orc}{bn:O (Y×O C)}{o:Oper}{i:O AV}{r:Res}{obs:O Ob}(h:TU tt m bn o.dst o.op i=G (r,obs))(j:AllOb (Jk P w0) (Uq P w0) obs)
 (e:∀d,o.dst=G d->d<N) (b:Rel N w0 F0 J a w s) (f:All2 (λx v=>IY s x=G v) o.op.operands.toList i) (n:∀k c,get bn k=G c->get s.bx k=G c) {K:Act->uC->Prop} {Q:Exit->Act->uC->Prop}
 (p:∀J' q w',Rel N w0 F0 J' q w' (s.step o.dst r)->K q w'):o.wp P a w K Q:=by
 unfold TU at h;split at h
 . rename_i v l t;obtain⟨rfl,rfl⟩:(⟨v, [],uB,uB⟩:Res)=r/\l=obs:=by simpa using h
   obtain⟨u,y,z⟩:=Qhr (P:=P) (A:=Jk P w0) (J:=J) (w:=w) g t j rfl (ρ:=a.eval) (Gl b f);exact An y (p _ _ _ (b.pure o.dst e _ _ λ_=>z))
 exact Qhs g h j e b f n p
theorem Qft{e:uN Oper}{o:Oper}{b:uD}(g:Rel N w0 F0 J a w s)(h:G0 e.toList s o=G b):Region.wanted o (yielded e a.tmps)=b:=by
 unfold G0 at h;unfold Region.wanted;split at h
 . rename_i l;rw[l];exact zD h
 rename_i j k l;rw[l];split at h
 . rename_i oj p;split at h
   . rename_i t m;split at h
     . rename_i c n;have d:a.tmps.getD t undef= .bool c:=g.tm t _ n
       have q:a.tmps[t]? =G (.bool c):=by
        rw[zM] at d;cases i:a.tmps[t]? with
        | none=>rw[i] at d;simp[undef] at d
        | some u=>rw[i] at d;simp at d;rw[d]
       have f:e[j]? =G oj:=by simpa using p
       simp only[yielded,f,yK,m,q];obtain rfl:=zD h;cases c<;>cases k<;>rfl
     . rename_i n;obtain⟨vs,d,r⟩:=g.tm t _ n;cases r
       have f:e[j]? =G oj:=by simpa using p
       obtain rfl:=zD h;rw[zM] at d;cases i:a.tmps[t]? with
       | none=>simp[yielded,f,m,i]
       | some u=>
         rw[i] at d;obtain rfl:u=_:=d;simp[yielded,f,m,i]
     cases h
   cases h
 cases h
theorem Qkh{tt:O (Y×TI)}(l:S6 P tt=E){m:Orc}{g:uN Oper}{i:Y}{o:Oper}(u:g[i]? =G o){ρ:Rec}(h:L9 tt N m g.toList s o=G ρ)(n:AllOb (Jk P w0) (Uq P w0) ρ.obs)(b:Rel N w0 F0 J a w s)
 {K:Act->uC->Prop} {Q:Exit->Act->uC->Prop} (q:∀J' t w',Rel N w0 F0 J' t w' (s.step o.dst ρ.res)->K t w'):wpOp P g Q i K a w:=by
 unfold L9 at h;cases hd:Qdl N o.dst with
 | false=>rw[hd] at h;cases h
 | true =>
   rw[hd] at h;simp only[uQ] at h;have f:∀d,o.dst=G d->d<N:=λd e=>by rw[e] at hd;simpa [Qdl] using hd
   unfold wpOp;simp only[u];split at h
   . rename_i p;have hw:=Qft b p;split at h
     . rename_i v j;split at h
       . rename_i r obs x;obtain rfl:=zD h;rw[uM hw];exact .inl (Qkg (P:=P) l x n f b (MM j) (λk c y=>JM y) q)
       cases h
     cases h
   . rename_i p;obtain rfl:=zD h;have hw:=Qft b p;rw[uH (by rw[hw];simp)];exact q J _ _ (b.pure o.dst f _ _ λ_=>⟨[],rfl,.nil⟩)
   cases h
def PG(a:O (Y×Orc))(i:Y):Orc:=match get a i with
 | some x=>x
 | none=> .no
def T6(tt:O (Y×TI))(N:Y)(a:O (Y×Orc))(b:O Oper):O Oper->Y->St->uG (St×O Ob)
 | [],_,s=>G (s, [])
 | o ::r,i,s=>match L9 tt N (PG a i) b s o with
   | some ρ=>(match T6 tt N a b r (i+1) (s.step o.dst ρ.res) with
     | some (s',obs)=>G (s',ρ.obs++obs)
     | none=>uB)
   | none=>uB
theorem TV{tt:O (Y×TI)}(c:S6 P tt=E){d:O (Y×Orc)}{b:uN Oper}{Q:Exit->Act->uC->Prop}:∀(l:O Oper) (i:Y) {s s':St} {obs:O Ob} {J:Inj} {a:Act} {w:uC},b.toList.drop i=l->
 T6 tt N d b.toList l i s=G (s',obs)->AllOb (Jk P w0) (Uq P w0) obs->Rel N w0 F0 J a w s->(∀J' f w',Rel N w0 F0 J' f w' s'->Q .normal f w')->wpOps P b Q (List.range' i l.length) a w
 | [],i,s,s',obs,J,a,w,_,h,_,hrel,hQ=>by
   obtain⟨rfl,rfl⟩:s=s'/\ []=obs:=by simpa [T6] using h
   exact hQ J a w hrel
 | o :: r,i,s,s',obs,J,a,w,hl,h,hob,hrel,hQ=>by
   simp only[T6] at h;split at h
   . rename_i ρ hρ;split at h
     . rename_i g e n;obtain⟨rfl,rfl⟩:g=s'/\ρ.obs++e=obs:=by simpa using h
       obtain⟨j,k⟩:=AllOb.append hob
       have p:b[i]? =G o:=by
        have:=uR (·[0]?) hl;simpa using this
       have m:b.toList.drop (i+1)=r:=by rw[←yY,hl];rfl
       rw[List.length_cons,List.range'_succ,wpOps_cons];exact Qkh (P:=P) c p hρ j hrel λJ' f w' q=>TV c r (i+1) m n k q hQ
     cases h
   cases h
end
end
section
open Go.RowKit
section
variable (P:uJ) (N:Y) (w0:Base) (F0:Y->Prop)
def QX(Q:Exit->St->Prop):Exit->Act->uC->Prop:=λe a w=>∃J s,Rel N w0 F0 J a w s/\Q e s
def AWP(c:uI)(Q:Exit->St->Prop)(s:St):Prop:=∀J a w,Rel N w0 F0 J a w s->c.wp P (QX N w0 F0 Q) a w
end
def Weak(s s':St):Prop:=∀N w0 F0 J a w,Rel N w0 F0 J a w s->∃J',Rel N w0 F0 J' a w s'
def Exit.thenS(K:St->Prop)(Q:Exit->St->Prop):Exit->St->Prop
 | .normal,s=>K s
 | e,s=>Q e s
def Exit.inBlockS(a:Y)(Q:Exit->St->Prop):Exit->St->Prop
 | .exit i,s=>bif zP i a then Q .normal s else Q (.exit i) s
 | e,s=>Q e s
section
variable {P:uJ} {N:Y} {w0:Base} {F0:Y->Prop} {Q:Exit->St->Prop} {s s':St}
theorem Weak.refl(s:St):Weak s s:=λ_ _ _ J _ _ h=>⟨J,h⟩
theorem Weak.trans{s s' s'':St}(h:Weak s s')(c:Weak s' s''):Weak s s'':=λN w0 F0 J a w d=>by
 obtain⟨J',b⟩:=h N w0 F0 J a w d;exact c N w0 F0 J' a w b
theorem I3{c:uI}(d:Weak s s')(h:AWP P N w0 F0 c Q s'):AWP P N w0 F0 c Q s:=λJ a w e=>by
 obtain⟨J',b⟩:=d N w0 F0 J a w e;exact h J' a w b
theorem Qpi{c:uI}{b:Exit->St->Prop}(h:AWP P N w0 F0 c Q s)(d:∀e s,Q e s->b e s):AWP P N w0 F0 c b s:=λJ a w f=>
 wp_mono (h J a w f) λe a w ⟨J,s,h1,h2⟩=>⟨J,s,h1,d e s h2⟩
theorem Qa{x y:uI}(h:AWP P N w0 F0 x (Exit.thenS (AWP P N w0 F0 y Q) Q) s):AWP P N w0 F0 (.seq x y) Q s:=λJ a w d=>by
 refine wp_seq (wp_mono (h J a w d) ?_)
 rintro e f w' ⟨J',s',b,c⟩
 cases e with
 | normal=>exact c J' f w' b
 | _=>exact⟨J',s',b,c⟩
theorem Qd(h:Q .normal s):AWP P N w0 F0 .skip Q s:=λJ a w b=>wp_skip ⟨J,s,b,h⟩
theorem Qv{b:Y}(h:Q (.exit b) s):AWP P N w0 F0 (.exit b) Q s:=λJ a w c=>wp_exit ⟨J,s,c,h⟩
theorem Qc(h:Q .ret s):AWP P N w0 F0 .ret Q s:=λJ a w b=>wp_ret ⟨J,s,b,h⟩
theorem VB{t:Y}{x y:uI}{b:uD}(d:get s.tm t=G (.one (.bool b)))(f:b=E->AWP P N w0 F0 x Q s)(g:b=uA->AWP P N w0 F0 y Q s):AWP P N w0 F0 (.cond (.tmp t) x y) Q s:=λJ a w c=>
 wp_cond_split (t:=b) (c.tm t _ d) (λe=>f e J a w c) (λe=>g e J a w c)
theorem Qn{d:Y}{c:uI}(h:AWP P N w0 F0 c (Exit.inBlockS d Q) s):AWP P N w0 F0 (.block d c) Q s:=λJ a w j=>by
 refine wp_block (wp_mono (h J a w j) ?_)
 rintro e k w' ⟨J',s',f,b⟩
 cases e with
 | exit i=>
   simp only[Exit.inBlockS] at b;simp only[Exit.inBlock];split<;>rename_i g
   . subst g;simp only[Nat.beq_refl,uQ] at b;exact⟨J',s',f,b⟩
   rw[show zP i d=uA by
    cases hb:zP i d with
    | false=>rfl
    | true=>exact absurd (yT hb) g] at b
   exact⟨J',s',f,b⟩
 | _=>exact⟨J',s',f,b⟩
theorem EN{c:uI}{Q:Exit->Act->uC->Prop}:∀(n m:Y),n<=m->∀a w,Code.rounds P c Q n a w->Code.rounds P c Q m a w
 | 0,_,_,_,_,h=>h.elim
 | n+1,0,h,_,_,_=>absurd h (by omega)
 | n +1,m+1,hnm,a,w,h=>wp_mono (show c.wp P (Exit.then (Code.rounds P c Q n) Q) a w from h) λe a w b=>by
     cases e with
     | normal=>exact EN n m (by omega) a w b
     | _=>exact b
theorem Qpj{c:uI}(I:Y->St->Prop){n:Y}(o:I n s)(p:∀n s,I n s->AWP P N w0 F0 c (Exit.thenS (λs'=>∃m b,m<n/\Weak s' b/\I m b) Q) s):AWP P N w0 F0 (.loop c) Q s:=λJ a w d=>by
 have key:∀n s J a w,I n s->Rel N w0 F0 J a w s->Code.rounds P c (QX N w0 F0 Q) (n+1) a w:=by
  intro n
  induction n using Nat.strongRecOn with
  | _ n q=>
    intro s J a w r d;refine wp_mono (p n s r J a w d) ?_
    rintro e f w' ⟨J',s',j,k⟩
    cases e with
    | normal=>
      obtain⟨m,b,l,hw,g⟩:=k;obtain⟨h,i⟩:=hw N w0 F0 J' f w' j;exact EN (m+1) n l f w' (q m l b h f w' g i)
    | _=>exact⟨J',s',j,k⟩
 exact wp_loop_rounds (n+1) (key n s J a w o d)
def Qdm{α:Type}(l:O (Y×α)):O Y->O (Y×α)
 | []=> []
 | t::r=>match get l t with
   | some v=>(t,v)::Qdm l r
   | none=>Qdm l r
theorem P7{α:Type}{l:O (Y×α)}{t:Y}{v:α}:∀{a:O Y},get (Qdm l a) t=G v->get l t=G v
 | [],h=>by simp[Qdm,get] at h
 | x ::r,h=>by
   simp only[Qdm] at h;split at h
   . rename_i u b;simp only[get] at h;split at h
     . rename_i e;subst e;rw[b];exact h
     exact P7 h
   exact P7 h
def St.keep(s:St)(a b:O Y):St:=⟨Qdm s.tm a,Qdm s.bx b⟩
theorem EO(b d:O Y)(h:s.keep b d=s'):Weak s s':=λN w0 F0 J a w e=>⟨J,by
 subst h;exact e.less (λt v f=>P7 f) λk c g=>P7 g⟩
def Hm(tt:O (Y×TI))(N:Y)(a:O (Y×Orc))(b:O Oper)(c d:O Y)(s:St):uG (St×O Ob):=
 match T6 tt N a b b 0 s with
 | some (s',obs)=>G (s'.keep c d,obs)
 | none=>uB
theorem Ky{tt:O (Y×TI)}(f:S6 P tt=E)(d:O (Y×Orc))(i j:O Y){l:Y}{b:uN Oper}{obs:O Ob}(h:Hm tt N d b.toList i j s=G (s',obs))(g:AllOb (Jk P w0) (Uq P w0) obs)(m:Q .normal s'):
 AWP P N w0 F0 (.region l b uA) Q s:=λJ a w n=>by
 unfold Hm at h;split at h
 . rename_i o e p;obtain⟨rfl,rfl⟩:o.keep i j=s'/\e=obs:=by simpa using h
   refine wp_region ?_;have:=TV (P:=P) (Q:=QX N w0 F0 Q) f b.toList 0 rfl p g n λJ' x w' q=>⟨J',_,q.less (λt v r=>P7 r) (λk c u=>P7 u),m⟩
   rw[List.range_eq_range'];simpa using this
 cases h
def Te(k a x:Y):Y:=bif zP x k then a else bif zP x a then k else x
def Qwb(k a:Y):Tok->Tok
 | .own d x=> .own d (Te k a x)
 | .vw x=> .vw (Te k a x)
 | t=>t
def Qts(k a:Y):C->C
 | .slc t n l=> .slc (Qwb k a t) n l
 | .rptr t cs=> .rptr (Qwb k a t) cs
 | .ept d x n i o cs=> .ept d (Te k a x) n i o cs
 | c=>c
theorem MN{a b:Y}(h:a≠b):zP a b=uA:=by
 cases hb:zP a b with
 | false=>rfl
 | true=>exact absurd (yT hb) h
theorem D9(k a x:Y):Te k a (Te k a x)=x:=by
 simp only[Te];by_cases c:x=k
 . subst c;simp;by_cases b:a=x
   . simp[b]
   have:zP a x=uA:=MN b;simp[this]
 have d:zP x k=uA:=MN c;simp only[d,uS];by_cases b:x=a
 . subst b;simp
 have e:zP x a=uA:=MN b;simp[d,e]
def Inj.swap(J:Inj)(k a:Y):Inj:=⟨J.F,λx=>J.L (Te k a x),J.B⟩
theorem Qfu{J:Inj}{w:uC}{k a:Y}{v:uF}{c:C}(h:CR J w v c):CR (J.swap k a) w v (Qts k a c):=by
 cases c with
 | slc t n l=>
   cases t with
   | sh | emp | put=>exact h
   | own d x=>
     cases d with
     | true=>show OwnDeep (J.L (Te k a (Te k a x))) w v n l;rw[D9];exact h
     | false=>show OwnTop J.F (J.L (Te k a (Te k a x))) w v n l;rw[D9];exact h
   | vw x=>
     refine VV.keep (X:=J.X (.vw x)) (λb hb=>⟨?_,rfl⟩) h;show b∈J.L (Te k a (Te k a x))\/J.F b;rw[D9];exact hb
 | ept d x n i o cs=>
   obtain⟨g,r,vs,e,f,j,m⟩:=h;refine⟨g,r,vs, ?_,f,j.keep λb hb=>⟨?_,rfl⟩,m⟩
   . show J.L (Te k a (Te k a x))=_;rw[D9];exact e
   cases d with
   | true=>
     show b∈J.L (Te k a (Te k a x))\/J.F b;rw[D9];exact hb
   | false=>exact hb
 | rptr t cs=>
   refine Reads.keep h λb hb=>⟨?_,rfl⟩
   cases t with
   | vw x=>
     show b∈J.L (Te k a (Te k a x))\/J.F b;rw[D9];exact hb
   | _=>exact hb
 | _=>exact h
theorem Rel.swap{J:Inj}{a:Act}{w:uC}(h:Rel N w0 F0 J a w s)(k d:Y):Rel N w0 F0 (J.swap k d) a w (s.map (Qts k d)) where
 below:=h.below
 nodef:=h.nodef
 size:=h.size
 fl:=h.fl
 f0:=h.f0
 nd x:=h.nd _
 lo x:=h.lo _
 nb:=h.nb
 cb:=h.cb
 dj x y b hx hy:=by
  have:=h.dj _ _ b hx hy;rw[←D9 k d x,this,D9]
 bo x c hc:=by
  simp only[St.map,Oy (xS _)] at hc;obtain⟨y,hy,rfl⟩:=zJ.1 hc;obtain⟨i,j,l,f,e,m,n⟩:=h.bo x y hy;exact⟨i,j,λk=>l _,f,e,m,n.map _ λa b _ o=>Qfu o⟩
 bi x y c c' hc hc' hB:=by
  simp only[St.map,Oy (xS _)] at hc hc';obtain⟨z,p,rfl⟩:=zJ.1 hc;obtain⟨q,g,rfl⟩:=zJ.1 hc';exact h.bi x y z q p g hB
 tm t v hv:=by
  simp only[St.map,Oy (AV.map _)] at hv;obtain⟨y,hy,rfl⟩:=zJ.1 hv;exact AR.map _ (h.tm t y hy) λu c _ hc=>Qfu hc
def St.swaps(s:St):O (Y×Y)->St
 | []=>s
 | (k,k')::r=>(s.map (Qts k k')).swaps r
theorem MO:∀(l:O (Y×Y)) (s:St),Weak s (s.swaps l)
 | [],s=>Weak.refl s
 | (k,k')::r,s=>Weak.trans (λN w0 F0 J a w h=>⟨_,h.swap k k'⟩) (MO r _)
theorem MP(g:O Y){J:Inj}{a:Act}{w:uC}(j:Rel N w0 F0 J a w s):∃J':Inj,(∀k,k∈g->J'.L k= [])/\Rel N w0 F0 J' a w (s.map (Ht (Yz g) uB)):=by
 let J':Inj:=⟨λb=>J.F b\/∃k,k∈g/\b∈J.L k,λk=>if k∈g then [] else J.L k,J.B⟩
 have x:∀k b,b∈J'.L k->k∉g/\b∈J.L k:=λk b f=>by
  have f:b∈(if k∈g then [] else J.L k):=f;split at f
  . simp at f
  rename_i u;exact⟨u,f⟩
 have hT:Turns J J' w w (Yz g) uB:=by
  constructor
  . exact λb hb=>⟨.inl hb,rfl⟩
  . intro k e;rw[A9] at e;split at e
    . cases e
    rename_i u;exact⟨uH u,λ_ _=>rfl⟩
  . intro k e b hb;rw[A9] at e;split at e
    . rename_i f;exact⟨.inr ⟨k,f,hb⟩,rfl⟩
    cases e
  . intro k q e;rw[A9] at e;split at e<;>cases e
  . intro k t e;rw[A9] at e;split at e
    . simp at e;exact .inl e.symm
    cases e
  . exact λ_ _=>rfl
  intro k d m i o cs e;rw[A9] at e;split at e<;>cases e
 have hN:Names w0 F0 J' w:=by
  constructor
  . exact λb hb=>hb.elim (j.fl b) λ⟨k,_,f⟩=>⟨(j.lo k b f).2.1,.inr (j.lo k b f).1⟩
  . exact λb hb=> .inl (j.f0 b hb)
  . intro k;show(if _ then _ else _:O Y).Nodup;split
    . simp
    exact j.nd k
  . intro k b f;obtain⟨u,f⟩:=x k b f;obtain⟨h1,h2,y⟩:=j.lo k b f;exact⟨h1,h2,λhF=>hF.elim y λ⟨q,hk',r⟩=>u (j.dj k q b f r▸hk')⟩
  intro k q b f r;exact j.dj k q b (x k b f).2 (x q b r).2
 have z:=j.upd (w':=w) (J':=J') uB (by simp) ⟨.one .dead,Yz g,uB,uB⟩ undef j.below hT hN (λh=>absurd rfl h) (λk c e _=>by
  obtain⟨_,h2,y,_⟩:=j.bo k c e;exact⟨by simp,λhF=>hF.elim h2 λ⟨q,_,f⟩=>y q f,λq f=>y q (x q _ f).2,rfl⟩) (λk c e=>by cases e)
 refine⟨J',λk e=>uM e, ?_⟩;have z:Rel N w0 F0 J' a w (match Yz g,(none:uG Y) with | [],uB=>s | rl,kb=>s.map (Ht rl kb)):=z;cases g with
 | nil =>
   have a1:s.map (Ht (Yz []) uB)=s:=by
    have hc:(Ht (Yz []) uB)=id:=by
     funext c
     cases c with
     | slc t n l=>cases t<;>rfl
     | rptr t cs=>cases t<;>rfl
     | _=>rfl
    rw[hc];obtain⟨tm,bx⟩:=s;simp only[St.map]
    congr 1
    . conv=>rhs;rw[←List.map_id tm]
      refine yD λp _=>?_
      obtain⟨t,v⟩:=p;cases v<;>simp[AV.map]
    simp
   rw[a1];exact z
 | cons k g=>exact z
theorem Dd(b:O Y)(h:s.map (Ht (Yz b) uB)=s'):Weak s s':=λN w0 F0 J a w c=>by
 subst h;obtain⟨J',_,h⟩:=MP b c;exact⟨J',h⟩
def Qpk(d:uD)(k n:Y):C->C
 | .slc .emp _ []=> .slc (.own d k) n []
 | c=>c
def Qdn(i:Y)(d:uD)(k n:Y):O C->O C
 | []=> []
 | c::r=>match i with
   | 0=>Qpk d k n c::r
   | i+1=>c::Qdn i d k n r
def Qr4(i:Y)(d:uD)(k n:Y):AV->AV
 | .one c=> .one (Qpk d k n c)
 | .agg cs=> .agg (Qdn i d k n cs)
 | v=>v
theorem Qfv{J:Inj}{w:uC}{v:uF}{d:uD}{k n:Y}(_:J.L k= []){c:C}(h:CR J w v c):CR J w v (Qpk d k n c):=by
 unfold Qpk;split
 . obtain⟨_,oa,rfl⟩:=h;cases d with
   | true=>show OwnDeep (J.L k) w _ n [];exact⟨[],.emp oa n,List.nodup_nil,(λb hb=>by simp at hb),.inl rfl⟩
   | false=>exact .inl ⟨rfl,oa,rfl⟩
 exact h
theorem PH{J:Inj}{w:uC}{d:uD}{k n:Y}(a:J.L k= []):∀(i:Y) {cs:O C} {vs:O uF},All2 (CR J w) vs cs->All2 (CR J w) vs (Qdn i d k n cs)
 | _, [],_,h=>by unfold Qdn;exact h
 | 0,c::r,_,.cons h1 h2=>by unfold Qdn;exact .cons (Qfv a h1) h2
 | i+1,c::r,_,.cons h1 h2=>by unfold Qdn;exact .cons h1 (PH a i h2)
theorem Qki{J:Inj}{w:uC}{v:uF}{d:uD}{k n:Y}(a:J.L k= [])(i:Y){x:AV}(h:AR J w v x):AR J w v (Qr4 i d k n x):=by
 cases x with
 | one c=>exact Qfv a h
 | agg cs=>obtain⟨vs,e,h⟩:=h;exact⟨vs,e,PH a i h⟩
 | tup l=>exact h
def Qvy{α:Type}(t:Y)(f:α->α):O (Y×α)->O (Y×α)
 | []=> []
 | (k,a)::r=>(k,if k=t then f a else a)::Qvy t f r
theorem VD{α:Type}{t u:Y}{f:α->α}{v:α}:∀{l:O (Y×α)},get (Qvy t f l) u=G v->∃y,get l u=G y/\(v=f y\/v=y)
 | [],h=>by simp[Qvy,get] at h
 | (k,a)::r,h=>by
   simp only[Qvy,get] at h⊢;by_cases b:k=u
   . simp only[b,if_true] at h⊢;refine⟨a,rfl, ?_⟩;by_cases c:u=t
     . simp only[c,if_true] at h;exact .inl (zD h).symm
     simp only[c,if_false] at h;exact .inr (zD h).symm
   simp only[b,if_false] at h⊢;exact VD h
def St.open1(s:St):uD×Y×Y×uD×Y×Y->St
 | (E,t,i,d,k,n)=>⟨(s.map (Ht (Yz [k]) uB)).tm,Qvy t (Qdn i d k n) (s.map (Ht (Yz [k]) uB)).bx⟩
 | (uA,t,i,d,k,n)=>⟨Qvy t (Qr4 i d k n) (s.map (Ht (Yz [k]) uB)).tm,(s.map (Ht (Yz [k]) uB)).bx⟩
theorem Qht(o:uD×Y×Y×uD×Y×Y)(s:St):Weak s (s.open1 o):=λN w0 F0 J a w r=>by
 obtain⟨b,t,i,d,k,n⟩:=o;obtain⟨J',j,h⟩:=MP [k] r;have j:=j k zZ;refine⟨J', ?_⟩;cases b with
 | true=>
   refine {h with bo:=λx c l=>?_,bi:=λx y c c' l m=>?_}
   . obtain⟨y,f,e⟩:=VD l;obtain⟨u,z,h3,p,ty,h4,g⟩:=h.bo x y f;refine⟨u,z,h3,p,ty,h4, ?_⟩;rcases e with rfl | rfl
     . exact PH j i g
     exact g
   obtain⟨_,f,_⟩:=VD l;obtain⟨_,q,_⟩:=VD m;exact h.bi x y _ _ f q
 | false=>
   refine {h with tm:=λx v hv=>?_};obtain⟨y,f,e⟩:=VD hv;have g:=h.tm x y f;rcases e with rfl | rfl
   . exact Qki j i g
   exact g
def St.opens(s:St):O (uD×Y×Y×uD×Y×Y)->St
 | []=>s
 | o::r=>(s.open1 o).opens r
theorem HD:∀(l:O (uD×Y×Y×uD×Y×Y)) (s:St),Weak s (s.opens l)
 | [],s=>Weak.refl s
 | o::r,s=>Weak.trans (Qht o s) (HD r _)
theorem Qkj{c:uI}(l:O (uD×Y×Y×uD×Y×Y))(a:s.opens l=s')(h:AWP P N w0 F0 c Q s'):AWP P N w0 F0 c Q s:=I3 (a▸HD l s) h
def Qx3(k:Y):C->C
 | .slc (.own E x) n l=>bif zP x k then .slc (.own uA x) n l else .slc (.own E x) n l
 | .ept E x n i o cs=>bif zP x k then .rptr (.vw x) cs else .ept E x n i o cs
 | c=>c
def Inj.dem(J:Inj)(k:Y):Inj:=⟨λb=>J.F b\/(b∈J.L k/\b∉(J.L k).take 1),λx=>if x=k then(J.L k).take 1 else J.L x,J.B⟩
theorem Qkk{J:Inj}{k:Y}{t:Tok}:∀b,J.X t b->(J.dem k).X t b:=by
 intro b hb;cases t with
 | sh=>exact .inl hb
 | emp | own | put=>exact hb.elim
 | vw x =>
   rcases hb with hb | hb
   . by_cases a:x=k
     . subst a;by_cases c:b∈(J.L x).take 1
       . exact .inl (by show b∈(if x=x then _ else _);rw[uM rfl];exact c)
       exact .inr (.inr ⟨hb,c⟩)
     exact .inl (by show b∈(if x=k then _ else _);rw[uH a];exact hb)
   exact .inr (.inl hb)
theorem Qkl{J:Inj}{w:uC}{v:uF}{k:Y}{c:C}(h:CR J w v c):CR (J.dem k) w v (Qx3 k c):=by
 have y:∀b,J.F b->(J.dem k).F b/\w.heap[b]? =w.heap[b]? :=λb hb=>⟨.inl hb,rfl⟩
 have z:∀x,x≠k->(J.dem k).L x=J.L x:=λx a=>uH a
 have m:(J.dem k).L k=(J.L k).take 1:=uM rfl;cases c with
 | int | bool | str | raw | dead=>exact h
 | slc t n l=>
   cases t with
   | sh=>exact VV.keep y h
   | emp=>exact h
   | put=>exact h.elim
   | vw x=>exact VV.keep (λb hb=>⟨Qkk (t:= .vw x) b hb,rfl⟩) h
   | own d x=>
     cases d with
     | false=>
       show OwnTop _ ((J.dem k).L x) w v n l;rcases h with h | ⟨g,cap,cur,e,e1,hv,hg,hs,hr,j,q⟩
       . exact .inl h
       refine .inr ⟨g,cap,cur,e, ?_,hv,hg,hs,hr.keep y,j,q⟩;by_cases a:x=k
       . subst a;rw[m,e1];rfl
       rw[z x a];exact e1
     | true =>
       show CR (J.dem k) w v (bif zP x k then .slc (.own uA x) n l else .slc (.own E x) n l);cases hb:zP x k with
       | false=>
         have a:x≠k:=λe=>by subst e;simp at hb
         show OwnDeep ((J.dem k).L x) w v n l;rw[z x a];exact h
       | true=>
         obtain rfl:=yT hb;show OwnTop _ ((J.dem x).L x) w v n l;rw[m];obtain⟨L',j,q,u,s⟩:=h;generalize hp:PV.slc n l=p at j;cases j with
         | int | bool | str | any | raw=>cases hp
         | emp oa n'=>cases hp;exact .inl ⟨rfl,oa,rfl⟩
         | @slc g cap n' cur e L1 l' hg hs hr h5 h6=>
           cases hp
           rcases s with s | ⟨g',r1,r2,e1,e2⟩
           . cases s
           cases e1
           obtain⟨n1,_⟩:=List.nodup_cons.1 q;refine .inr ⟨g,cap,cur,e,by rw[e2];rfl,rfl,hg,hs,hr.vr λb hb=> .inr ⟨u b (zS _ hb),λhm=>?_⟩,h5,h6⟩;rw[e2] at hm;simp at hm;exact n1 (hm▸hb)
 | ptr=>exact h
 | fn=>exact h
 | fnr f a1=>
   obtain⟨vs,rfl,ha⟩:=h;exact⟨vs,rfl,ha.imp λ_ _ _ h=>h.keep y⟩
 | rptr t cs=>exact Reads.keep h λb hb=>⟨Qkk b hb,rfl⟩
 | ept d x n i o cs=>
   obtain⟨g,r,vs,j,q,u,s,h5⟩:=h;cases d with
   | false=>
     refine⟨g,if x=k then [] else r,vs, ?_,q,u.keep y,s,h5⟩;by_cases a:x=k
     . subst a;rw[m,j,uM rfl];rfl
     rw[z x a,uH a];exact j
   | true=>
     show CR (J.dem k) w v (bif zP x k then .rptr (.vw x) cs else .ept E x n i o cs);cases hb:zP x k with
     | false=>
       have a:x≠k:=λe=>by subst e;simp at hb
       exact⟨g,r,vs,by rw[z x a];exact j,q,u.keep λb hb=>⟨Qkk (t:= .vw x) b hb,rfl⟩,s,h5⟩
     | true=>exact⟨g,i*n+o,vs,q,Qkk (t:= .vw x) g (.inl (by rw[j];exact zZ)),u.keep λb hb=>⟨Qkk (t:= .vw x) b hb,rfl⟩,s⟩
theorem Qdo(k:Y)(s:St):Weak s (s.map (Qx3 k)):=λN w0 F0 J a w h=>by
 have d:∀x b,b∈(J.dem k).L x->b∈J.L x:=λx b hb=>by
  have hb:b∈(if x=k then(J.L k).take 1 else J.L x):=hb;split at hb
  . rename_i i;subst i;exact xM hb
  exact hb
 refine⟨J.dem k,{below:=h.below,nodef:=h.nodef,size:=h.size,fl:=λb hb=>?_,f0:=λb hb=> .inl (h.f0 b hb),nd:=λx=>?_,lo:=λx b hb=>?_,dj:=λx y b i j=>h.dj x y b (d x b i) (d y b j),nb:=h.nb,cb:=h.cb,bo:=λx c f=>?_,bi:=λx y c c' f l hB=>?_,tm:=λt v hv=>?_}⟩
 . rcases hb with hb | ⟨hb,_⟩
   . exact h.fl b hb
   exact⟨(h.lo k b hb).2.1,.inr (h.lo k b hb).1⟩
 . show(if _ then _ else _:O Y).Nodup;split
   . exact(List.take_sublist 1 _).nodup (h.nd k)
   exact h.nd x
 . obtain⟨n,o,m⟩:=h.lo x b (d x b hb);refine⟨n,o,λg=>?_⟩;rcases g with g | ⟨p,hn⟩
   . exact m g
   have i:=h.dj x k b (d x b hb) p;subst i;exact hn (by have hb:b∈(if x=x then(J.L x).take 1 else J.L x):=hb;rw[uM rfl] at hb;exact hb)
 . simp only[St.map,Oy (xS _)] at f;obtain⟨y,j,rfl⟩:=zJ.1 f;obtain⟨n,o,m,q,e,h4,h5⟩:=h.bo x y j;refine⟨n,λg=>?_,λz r=>m z (d z _ r),q,e,h4,h5.map _ λa b _ hr=>Qkl hr⟩;rcases g with g | ⟨p,_⟩
   . exact o g
   exact m k p
 . simp only[St.map,Oy (xS _)] at f l;obtain⟨z,r,rfl⟩:=zJ.1 f;obtain⟨z',a1,rfl⟩:=zJ.1 l;exact h.bi x y z z' r a1 hB
 simp only[St.map,Oy (AV.map _)] at hv;obtain⟨y,j,rfl⟩:=zJ.1 hv;exact AR.map _ (h.tm t y j) λu c _ f=>Qkl f
def St.demotes(s:St):O Y->St
 | []=>s
 | k::r=>(s.map (Qx3 k)).demotes r
theorem XI:∀(l:O Y) (s:St),Weak s (s.demotes l)
 | [],s=>Weak.refl s
 | k::r,s=>Weak.trans (Qdo k s) (XI r _)
end
end
section
open Go.RowKit
def MQ:Y->O AV->O (Y×AV)
 | _, []=> []
 | i,v::r=>(i,v)::MQ (i+1) r
def HF(args:O AV):St:=⟨MQ 0 args, []⟩
def TW(tt:O (Y×TI))(s:St):O ResultVar->uG (O AV)
 | []=>G []
 | .tmp t::r=>match get s.tm t,TW tt s r with
   | some v,G vs=>G (v::vs)
   | _,_=>uB
 | .cell a t::r=>match get s.tm a,get tt t,TW tt s r with
   | some (.one (.ptr k off)),G ti,G vs=>(match get s.bx k with
     | some cells=>(match Qhj ti ((cells.drop off).take ti.size) with
       | some v=>G (v::vs)
       | none=>uB)
     | none=>uB)
   | _,_,_=>uB
def Qwc:AV->uG (uD×O C)
 | .one c=>G (uA, [c])
 | .agg cs=>G (E,cs)
 | .tup _=>uB
def JN:O AV->uG (O (uD×O C))
 | []=>G []
 | v::r=>match Qwc v,JN r with
   | some p,G ps=>G (p::ps)
   | _,_=>uB
def MR:O AV->uG AV
 | [v]=>G v
 | vs=>(JN vs).map .tup
def Qr5(k:Y):O Y->Y
 | []=>0
 | x::r=>bif zP x k then 0 else Qr5 k r+1
def Qy0(a:O Y):C->C
 | .slc (.own b k) n l=> .slc (.own b (Qr5 k a)) n l
 | c=>c
def Qtt:C->uD
 | .int _ _=>E
 | .bool _=>E
 | .str _=>E
 | .slc .sh _ _=>E
 | .slc .emp _ _=>E
 | .slc (.own _ _) _ _=>E
 | _=>uA
def Tf(tt:O (Y×TI))(a:O ResultVar)(s:St):uG AV:=
 match TW tt s a with
 | some vs=>(match MR vs with
   | some v=>bif Cp Qtt v.cells&&C3 (Qy v.cells) then G (v.map (Qy0 (Qy v.cells))) else uB
   | none=>uB)
 | none=>uB
def Qjq(tt:O (Y×TI))(b:O ResultVar)(r:AV):Exit->St->Prop
 | .normal,s=>∃a,Tf tt b (s.map (Ht (Yz a) uB))=G r
 | .ret,s=>∃a,Tf tt b (s.map (Ht (Yz a) uB))=G r
 | _,_=>False
theorem N8{tt:O (Y×TI)}{c:O ResultVar}{r b:AV}{s:St}(a:O Y)(h:Tf tt c (s.map (Ht (Yz a) uB))=G b)(e:b=r):Qjq tt c r .ret s:=⟨a,e▸h⟩
def EP(b:uN uF):ResultVar->Sem uF
 | .tmp t=>pure (b.getD t undef)
 | .cell a t=>do loadVar t (←asAddr (b.getD a undef))
theorem HG(b:Func)(a:uN uF):results b a=(do
 let vs←b.results.mapM (EP a)
 pure (if h:vs.size=1 then vs[0] else .tuple vs)):=by
 unfold results
 congr 2
def Qdp(J:Inj)(a:O Y)(i:Y):O Y:=match a[i]? with
 | some k=>J.L k
 | none=> []
theorem Tg{J:Inj}{a:O Y}{i b:Y}(h:b∈Qdp J a i):∃k,a[i]? =G k/\b∈J.L k:=by
 unfold Qdp at h;split at h
 . rename_i k c;exact⟨k,c,h⟩
 simp at h
section
variable {P:uJ} {N:Y} {w0:Base} {F0:Y->Prop} {J:Inj} {a:Act} {w:uC} {s:St}
theorem XJ:∀{args:O AV} {i t:Y} {v:AV},get (MQ i args) t=G v->i<=t/\args[t-i]? =G v
 | [],i,t,v,h=>by simp[MQ,get] at h
 | x::r,i,t,v,h=>by
   simp only[MQ,get] at h;split at h
   . rename_i e;subst e;exact⟨zT _,by simpa using h⟩
   rename_i a;obtain⟨c,b⟩:=XJ h;refine⟨by omega, ?_⟩;obtain⟨j,hj⟩:∃j,t-i=j+1:=⟨t-i-1,by omega⟩;rw[hj,xE,show j=t-(i+1) by omega];exact b
theorem VE{tt:O (Y×TI)}(d:S6 P tt=E)(c:Rel N w0 F0 J a w s):∀{rs:O ResultVar} {vs:O AV},TW tt s rs=G vs->
 ∃g:O uF,(rs.mapM (EP a.tmps)).run P w= .ok g w/\All2 (AR J w) g vs
 | [],vs,h=>by
   obtain rfl: []=vs:=by simpa [TW] using h
   exact⟨[],by simp,.nil⟩
 | .tmp t::r,vs,h=>by
   simp only[TW] at h;split at h
   . rename_i v n o p;obtain rfl:=zD h;obtain⟨g,q,y⟩:=VE d c p;exact⟨a.tmps.getD t undef::g,by simp[List.mapM_cons,EP,q],.cons (c.tm t v o) y⟩
   cases h
 | .cell x t::r,vs,h=>by
   simp only[TW] at h;split at h
   . rename_i k off z n o p e3;split at h
     . rename_i cells hk;split at h
       . rename_i v i;obtain rfl:=zD h;obtain⟨g,q,y⟩:=VE d c e3;have hx:a.tmps.getD x undef= .pointer (G ⟨J.B k,off,uB⟩):=c.tm x _ o;obtain⟨_,_,_,l,e,f,m⟩:=c.bo k cells hk
         have hc:∀(j:Y) (u:uF),((l.toList.drop off).take z.size)[j]? =G u->w.cell? ⟨J.B k,off+j,uB⟩=G u:=by
          have:=Il (k:=z.size) (Ff (w:=w) (vs:=l.toList) (b:=J.B k) (off:=0) (k:=off) (λj u hj=>by
           rw[xL] at hj;simp[World.cell?,f,hj]))
          simpa using this
         obtain⟨u,hu,hr⟩:=CV (P:=P) (Ji d p) ((m.drop off).take z.size) i hc;exact⟨u::g,by simp[List.mapM_cons,EP,hx,asAddr,hu,q],.cons hr y⟩
       cases h
     cases h
   cases h
theorem PI:∀{vs:O AV} {ps:O (uD×O C)} {a:O uF},JN vs=G ps->All2 (AR J w) a vs->All2 (VA J w) a ps
 | [],ps,a,h,hu=>by
   obtain rfl: []=ps:=by simpa [JN] using h
   cases hu
   exact .nil
 | v :: r,ps,a,h,hu=>by
   simp only[JN] at h;split at h
   . rename_i p e b f;obtain rfl:=zD h;cases hu with
     | cons d g=>
       refine .cons ?_ (PI f g);cases v with
       | one c=>obtain rfl:=zD b;exact⟨c,rfl,d⟩
       | agg cs=>obtain rfl:=zD b;exact d
       | tup l=>cases b
   cases h
theorem VF:∀{ks:O Y} {k:Y},k∈ks->ks[Qr5 k ks]? =G k
 | [],k,h=>by simp at h
 | x::r,k,h=>by
   simp only[Qr5];by_cases a:x=k
   . subst a;simp
   rw[MN a];simp only[uS,xE];exact VF ((zL.1 h).resolve_left λe=>a e.symm)
theorem Qfw{w':uC}{tt:O (Y×TI)}(a1:S6 P tt=E){fn:Func}{r:AV}(d:Rel N ⟨w,λ_=>False,uB⟩ F0 J a w' s)(h:Tf tt fn.results.toList s=G r):∃v,(results fn a.tmps).run P w'= .ok v w'/\Qo7 F0 w r (.returned v) w':=by
 unfold Tf at h;split at h
 . rename_i vs a2;split at h
   . rename_i x hx;cases hc:(Cp Qtt x.cells&&C3 (Qy x.cells)) with
     | false=>rw[hc] at h;cases h
     | true =>
       rw[hc] at h;obtain rfl:=zD h;simp only[zG] at hc;obtain⟨a3,j⟩:=hc;have j:=Fh.1 j;obtain⟨us,p,q⟩:=VE (P:=P) a1 d a2
       have y:∃v,(results fn a.tmps).run P w'= .ok v w'/\AR J w' v x:=by
        have g:(fn.results.mapM (EP a.tmps)).run P w'= .ok us.toArray w':=by
         rw[xC];simp[p]
        have f:(results fn a.tmps).run P w'= .ok (if h:us.toArray.size=1 then us.toArray[0] else .tuple us.toArray) w':=by
         rw[HG];simp only[Sem.run_bind,g,Result.andThen_ok,Sem.run_pure]
        cases q with
        | nil=>
          obtain rfl:AV.tup []=x:=by simpa [MR,JN] using hx
          exact⟨.tuple #[],by rw[f];simp, [],rfl,.nil⟩
        | cons h1 m=>
          cases m with
          | nil=>
            obtain rfl:=zD hx;exact⟨_,by rw[f];simp,h1⟩
          | cons m h3=>
            obtain⟨ps,a4,rfl⟩:=zJ.1 hx;exact⟨_,by rw[f];simp,_,rfl,PI a4 (.cons h1 (.cons m h3))⟩
       obtain⟨v,hv,a5⟩:=y;refine⟨v,hv,v,Qdp J (Qy x.cells),rfl,d.below.below (λ_ h=>h),λi=>?_,λi b hb=>?_,λi i' b hb a6=>?_, ?_⟩
       . unfold Qdp;split
         . exact d.nd _
         simp
       . obtain⟨k,_,g⟩:=Tg hb;exact⟨(d.lo k b g).1.elim id False.elim,(d.lo k b g).2.1⟩
       . obtain⟨k,hk,g⟩:=Tg hb;obtain⟨k',a7,a8⟩:=Tg a6;have:=d.dj k k' b g a8;subst this;obtain⟨l1,e1⟩:=zF.1 hk;obtain⟨l2,e2⟩:=zF.1 a7;rcases xD i i' with hlt | he | hlt
         . exact absurd (e1.trans e2.symm) (yB.1 j i i' l1 l2 hlt)
         . exact he
         exact absurd (e2.trans e1.symm) (yB.1 j i' i l2 l1 hlt)
       refine AR.map _ a5 λu c o e=>?_
       have hF:∀b,J.F b->(F0 b\/(w.heap.size<=b/\b<w'.heap.size/\∀i,b∉Qdp J (Qy x.cells) i)):=λb hb=>by
        obtain⟨h1,m⟩:=d.fl b hb;refine m.imp id λm=>⟨m.elim id False.elim,h1,λi g=>?_⟩
        obtain⟨k,_,g⟩:=Tg g;exact(d.lo k b g).2.2 hb
       have z:=B8 a3 c o;cases c with
       | int | bool | str | raw=>exact e
       | slc t n l=>
         cases t with
         | emp=>exact e
         | sh=>exact VV.keep (λb hb=>⟨hF b hb,rfl⟩) e
         | vw k=>cases z
         | put=>exact e.elim
         | own b k=>
           cases b with
           | false=>
             show OwnTop _ (Qdp J (Qy x.cells) (Qr5 k (Qy x.cells))) w' u _ _;unfold Qdp;rw[VF (Tc o rfl)];exact OwnTop.keep (F:=J.F) e (λb hb=>⟨hF b hb,rfl⟩) λ_ _=>rfl
           | true=>
             show OwnDeep (Qdp J (Qy x.cells) (Qr5 k (Qy x.cells))) w' u _ _;unfold Qdp;rw[VF (Tc o rfl)];exact e
       | _=>cases z
   cases h
 cases h
theorem VG{tt:O (Y×TI)}(m:S6 P tt=E){f:Y}{fn:Func}{c:uI}(hf:P.funcs[f]? =G fn)(a:fn.body=G c)(n:Iy P f){args:O AV}{r:AV}(hn:args.length<=fn.ntmps)
 (h:∀w0 F0,GoodAt P w0->AWP P fn.ntmps w0 F0 c (Qjq tt fn.results.toList r) (HF args)):ACalls P f args r:=by
 refine⟨n,λw hg F d hF g=>calls_of_wp hf a ?_⟩;have z:=g.length;refine wp_mono (h ⟨w,λ_=>False,uB⟩ F (.of hg) (LA F) _ w ?_) ?_
 . refine {below:=Base.Keeps.refl _,nodef:=rfl,size:= ?_,fl:=λb a=>⟨hF b a,.inl a⟩,f0:=λb a=>a,nd:=λk=>by simp[LA],lo:=λk b a=>by simp[LA] at a,dj:=λk k' b a=>by simp[LA] at a,bo:=λk c o=>by simp[HF,get] at o,nb:= .inl rfl,cb:=(λb a=>by cases a),bi:=λk k' c c' o=>by simp[HF,get] at o,tm:=λt v hv=>?_}
   . simp;omega
   obtain⟨_,ht⟩:=XJ hv;obtain⟨u,p,hr⟩:=g.get' ht;have q:t<d.length:=(zF.1 p).1
   have:(d.toArray++xI (fn.ntmps-d.toArray.size) undef).getD t undef=u:=by
    rw[zM,yG (by simpa using q)];simp at p⊢;rw[p];rfl
   rw[this];exact hr
 rintro e a' w' ⟨J',s',i,j⟩
 cases e with
 | normal=>
   obtain⟨l,j⟩:=j;obtain⟨s,i⟩:=Dd l rfl _ _ _ _ _ _ i;obtain⟨v,x,y⟩:=Qfw (P:=P) m (fn:=fn) i j;exact⟨i.nodef,v,x,y⟩
 | ret=>
   obtain⟨l,j⟩:=j;obtain⟨s,i⟩:=Dd l rfl _ _ _ _ _ _ i;obtain⟨v,x,y⟩:=Qfw (P:=P) m (fn:=fn) i j;exact⟨i.nodef,v,x,y⟩
 | _=>exact j.elim
end
end
section
open Go.RowKit
open GoD (rd own)
class GoE (α:Type) extends GoD α where
 enc:α->O PV
 enc_len:∀a,(enc a).length=GoD.n α
 no_any:∀{a:α} {p:PV},p∈enc a->p≠ .any
 n_pos:0<GoD.n α
 /-- no list in it is longer than what any append makes -/
 wide:α->Prop
 wide_size:∀{a:α},GoD.size a<=1073741824->wide a
 vc_wide:∀{X:Y->Prop} {w:uC} {cs:O uF} {a:α},VC X w cs (enc a)->wide a
 rd_vc:∀{w:uC} {cs:O uF} {a:α},rd w cs a->wide a->VC (λb=>b<w.heap.size) w cs (enc a)
 vc_rd:∀{X:Y->Prop} {w:uC} {cs:O uF} {a:α},VC X w cs (enc a)->rd w cs a
 own_oc:∀{L:O Y} {w:uC} {cs:O uF} {a:α},own L w cs a->wide a->OC w L cs (enc a)
 oc_own:∀{L:O Y} {w:uC} {cs:O uF} {a:α},OC w L cs (enc a)->L.Nodup->own L w cs a
open GoE (enc wide)
instance instGoEInt:GoE H where
 enc a:= [.int .i64 a]
 no_any h:=by rw[zR.1 h];simp
 enc_len _:=rfl
 n_pos:=yF
 wide _:=True
 wide_size _:=trivial
 vc_wide _:=trivial
 rd_vc h _:=by obtain⟨rfl,h⟩:=h;exact .cons (.int ((XB _).2 h)) .nil
 vc_rd h:=by
  cases h with
  | cons b c=>cases c;cases b;exact⟨rfl,(XB _).1 ‹_›⟩
 own_oc h _:=by obtain⟨rfl,rfl,h⟩:=h;exact OC.cons (L1:= []) (L2:= []) (.int ((XB _).2 h)) .nil
 oc_own h _:=by
  cases h with
  | cons b c=>cases c;cases b;exact⟨rfl,rfl,(XB _).1 ‹_›⟩
instance instGoEBool:GoE uD where
 enc a:= [.bool a]
 no_any h:=by rw[zR.1 h];simp
 enc_len _:=rfl
 n_pos:=yF
 wide _:=True
 wide_size _:=trivial
 vc_wide _:=trivial
 rd_vc h _:=by rw[show _=_ from h];exact .cons (.bool _) .nil
 vc_rd h:=by
  cases h with
  | cons b c=>cases c;cases b;rfl
 own_oc h _:=by obtain⟨rfl,rfl⟩:=h;exact OC.cons (L1:= []) (L2:= []) (.bool _) .nil
 oc_own h _:=by
  cases h with
  | cons b c=>cases c;cases b;exact⟨rfl,rfl⟩
instance instGoEStr:GoE uE where
 enc a:= [.str a]
 no_any h:=by rw[zR.1 h];simp
 enc_len _:=rfl
 n_pos:=yF
 wide _:=True
 wide_size _:=trivial
 vc_wide _:=trivial
 rd_vc h _:=by obtain⟨rfl,h⟩:=h;exact .cons (.str h) .nil
 vc_rd h:=by
  cases h with
  | cons b c=>cases c;cases b;exact⟨rfl,‹_›⟩
 own_oc h _:=by obtain⟨rfl,rfl,h⟩:=h;exact OC.cons (L1:= []) (L2:= []) (.str h) .nil
 oc_own h _:=by
  cases h with
  | cons b c=>cases c;cases b;exact⟨rfl,rfl,‹_›⟩
theorem VC.split{X:Y->Prop}{w:uC}:∀{ps a:O PV} {vs:O uF},VC X w vs (ps++a)->∃c b,vs=c++b/\VC X w c ps/\VC X w b a
 | [],a,vs,h=>⟨[],vs,rfl,.nil,h⟩
 | p ::ps,a,vs,h=>by
   generalize d:p::ps++a=q at h;cases h with
   | nil=>cases d
   | cons e f=>
     cases d
     obtain⟨c,b,rfl,g,i⟩:=VC.split f;exact⟨_,b,rfl,.cons e g,i⟩
instance instGoEProd {α β:Type} [GoE α] [GoE β]:GoE (α×β) where
 enc p:=enc p.1++enc p.2
 no_any h:=(zV.1 h).elim GoE.no_any GoE.no_any
 enc_len p:=by rw[yO,GoE.enc_len,GoE.enc_len];rfl
 n_pos:=yP (GoE.n_pos (α:=α)) (yU _ _)
 wide p:=wide p.1/\wide p.2
 wide_size h:=⟨GoE.wide_size (zX (yU _ _) h),GoE.wide_size (zX (Nat.le_add_left _ _) h)⟩
 vc_wide h:=by
  obtain⟨c,d,rfl,a,b⟩:=VC.split h;exact⟨GoE.vc_wide a,GoE.vc_wide b⟩
 rd_vc h hw:=by
  obtain⟨c,d,rfl,a,b⟩:=h;exact VC.append (GoE.rd_vc b hw.2) (GoE.rd_vc a hw.1)
 vc_rd h:=by
  obtain⟨c,d,rfl,a,b⟩:=VC.split h;exact⟨c,d,rfl,GoE.vc_rd a,GoE.vc_rd b⟩
 own_oc h hw:=by
  obtain⟨_,c,d,L1,L2,rfl,rfl,a,b⟩:=h;exact OC.append (GoE.own_oc b hw.2) (GoE.own_oc a hw.1)
 oc_own h hn:=by
  obtain⟨L1,L2,c,d,rfl,rfl,a,b⟩:=OC.split h;obtain⟨e,f,_⟩:=List.nodup_append.1 hn;exact⟨hn,c,d,L1,L2,rfl,rfl,GoE.oc_own a e,GoE.oc_own b f⟩
def eL{α:Type}[GoE α](l:O α):O (O PV):=l.map enc
section
variable {α:Type} [GoE α]
theorem EQ(a:α)(l:O α):eL (a::l)=enc a::eL l:=rfl
theorem TX(l m:O α):eL (l++m)=eL l++eL m:=by simp[eL]
theorem Zv(l:O α):(eL l).length=l.length:=by simp[eL]
theorem Qkm(l:O α)(k:Y):(eL l).take k=eL (l.take k):=by simp[eL]
theorem Qkn(l:O α)(k:Y):(eL l).drop k=eL (l.drop k):=by simp[eL]
theorem Qko{l:O α}{i:Y}{a:α}(h:l[i]? =G a):(eL l)[i]? =G (enc a):=by simp[eL,h]
theorem Qkp{w:uC}{X:Y->Prop}{b off:Y}:∀(l:O α),(∀i a,l[i]? =G a->∃ce:O uF,ce.length=GoD.n α/\(∀j v,ce[j]? =G v->w.cell? ⟨b,off+i*GoD.n α+j,uB⟩=G v)/\VC X w ce (enc a))->
 ∃cs,(∀(j:Y) (u:uF),cs[j]? =G u->w.cell? ⟨b,off+j,uB⟩=G u)/\VR X w (GoD.n α) cs (eL l)
 | [],_=>⟨[],by simp,.nil _⟩
 | a ::l,h=>by
   obtain⟨ce,q,f,g⟩:=h 0 a rfl
   obtain⟨cs,k,m⟩:=Qkp (b:=b) (off:=off+GoD.n α) l λi x n=>by
    obtain⟨c,k1,o,p⟩:=h (i+1) x (by simpa using n);refine⟨c,k1,λj v d=>?_,p⟩;have:=o j v d;rw[zW,yE] at this;rw[show off+GoD.n α+i*GoD.n α+j=off+(i*GoD.n α+GoD.n α)+j by omega];exact this
   refine⟨ce++cs,λj u d=>?_,.cons g (GoE.enc_len a) m⟩;rcases xT j ce.length with e | hge
   . rw[yL e] at d;have:=f j u d;simpa using this
   rw[yH hge] at d;have:=k _ u d;rw[show off+GoD.n α+(j-ce.length)=off+j by omega] at this;exact this
theorem Qfx{w:uC}:∀(l:O α) (b:O (O Y)) (cs:O uF),(∀a,a∈l->wide a)->b.length=l.length->cs.length=l.length*GoD.n α->(∀i c a,b[i]? =G c->l[i]? =G a->own c w ((cs.drop (i*GoD.n α)).take (GoD.n α)) a)->OR w (GoD.n α) b.flatten cs (eL l)
 | [],b,cs,_,h1,h2,_=>by
   obtain rfl:b= []:=zN h1;obtain rfl:cs= []:=zN (by simpa using h2);exact .nil _
 | a::l, [],cs,_,h1,_,_=>by simp at h1
 | a ::l,c::b,cs,hw,h1,h2,h=>by
   have e:=h 0 c a rfl rfl;rw[Nat.zero_mul,List.drop_zero] at e
   have f:=Qfx l b (cs.drop (GoD.n α)) (λx d=>hw x (zS _ d)) (by simpa using h1) (by rw[List.length_drop,h2,List.length_cons,zW,yE];omega) λi g x j d=>by
    have:=h (i+1) g x (by simpa using j) (by simpa using d);rw[zW,yE,Nat.add_comm,←yY] at this;exact this
   rw[←List.take_append_drop (GoD.n α) cs];exact .cons (GoE.own_oc e (hw a zZ)) (GoE.enc_len a) f
theorem Qfy{w:uC}:∀(l:O α) (L:O Y) (cs:O uF),OR w (GoD.n α) L cs (eL l)->L.Nodup->∃c:O (O Y),L=c.flatten/\c.length=l.length/\∀i d a,c[i]? =G d->l[i]? =G a->own d w ((cs.drop (i*GoD.n α)).take (GoD.n α)) a
 | [],L,cs,h,_=>by cases h;exact⟨[],rfl,rfl,by simp⟩
 | a :: l,L,cs,h,hn=>by
   cases h with
   | @cons _ L1 L2 ce cs' _ _ h1 h2 h3=>
     obtain⟨g,j,_⟩:=List.nodup_append.1 hn;obtain⟨c,rfl,k,m⟩:=Qfy l L2 cs' h3 j;have b:ce.length=GoD.n α:=by rw[h1.length,GoE.enc_len]
     refine⟨L1::c,rfl,by simp[k],λi d x e f=>?_⟩;cases i with
     | zero=>
       simp at e f;subst e f;rw[Nat.zero_mul,List.drop_zero,←b,List.take_left];exact GoE.oc_own h1 g
     | succ i=>
       have:=m i d x (by simpa using e) (by simpa using f);rw[zW,yE,Nat.add_comm,←yY,←b,List.drop_left,b];exact this
def Qpl(l:O α):Prop:=l.length<=1073741824/\∀a,a∈l->wide a
theorem Qr6{w:uC}{v:uF}{l:O α}(h:rdS w [v] l)(k:Qpl l):VV (λb=>b<w.heap.size) w v (.slc (GoD.n α) (eL l)):=by
 obtain⟨oa,cap,e,p,m,d⟩:=h;obtain rfl:v=_:=by simpa using e
 cases f:l with
 | nil=>exact .emp oa _ m
 | cons a l'=>
   obtain⟨b,off,g,j,q,c,n⟩:=d 0 a (by rw[f];rfl);subst j
   obtain⟨cs,r,s⟩:=Qkp (X:=λb=>b<w.heap.size) (w:=w) (b:=b) (off:=off) l λi x o=>by
    obtain⟨t,off',ce,e',k1,u,y⟩:=d i x o;obtain⟨rfl,rfl⟩:b=t/\off=off':=by simpa using e'
    exact⟨ce,k1,u,GoE.rd_vc y (k.2 x (yI o))⟩
   rw[←f,←Zv (l:=l)];refine .slc ?_ r s (by rw[Zv];exact p) ⟨m,by rw[Zv];exact k.1⟩;have z:=GoE.n_pos (α:=α);have:=c 0 g[0] (zK (by omega));exact World.block_lt_of_cell? _ _ this
theorem Qkq{X:Y->Prop}{w:uC}{v:uF}{l:O α}(h:VV X w v (.slc (GoD.n α) (eL l))):rdS w [v] l:=by
 generalize c:PV.slc (GoD.n α) (eL l)=p at h;cases h with
 | int | bool | str | any | raw=>cases c
 | @emp oa cap n hcap=>
   simp only[PV.slc.injEq] at c
   have:l= []:=by
    cases l with
    | nil=>rfl
    | cons a l=>simp[eL] at c
   subst this;exact⟨oa,cap,rfl,yJ _,hcap,by simp⟩
 | @slc b off cap n cs l' hb hc hr h1 h2=>
   simp only[PV.slc.injEq] at c;obtain⟨rfl,rfl⟩:=c;refine⟨_,cap,by rw[Zv],by simpa [Zv] using h1,h2.1,λi a d=>⟨b,off,(cs.drop (i*GoD.n α)).take (GoD.n α),rfl, ?_, ?_, ?_⟩⟩
   . exact(hr.get (Qko d)).1.length.trans (GoE.enc_len a)
   . exact Il (Ff hc)
   exact GoE.vc_rd (hr.get (Qko d)).1
theorem Qkr{L:O Y}{w:uC}{v:uF}{l:O α}(h:Qv0 L w [v] l)(f:Qpl l):OV w L v (.slc (GoD.n α) (eL l)):=by
 obtain⟨m,⟨rfl,rfl,oa,e⟩ | ⟨g,cap,cur,e,n,o,p,j,q,k,rfl,b,c⟩⟩:=h
 . obtain rfl:v=_:=by simpa using e
   exact .emp oa _
 obtain rfl:v=_:=by simpa using o
 rw[←Zv (l:=l)];refine .slc p k ?_ (by simpa [Zv] using j) ⟨q,by rw[Zv];exact f.1⟩;have d:l.length*GoD.n α<=cur.size:=by rw[k];exact yC _ j
 refine Qfx l n _ f.2 b (by simp[Zv];omega) λi r a s ha=>?_
 have t:i<l.length:=(zF.1 ha).1;have:=c i r a s ha
 rw[xN,xO,Zv,xJ (by
  have:=yC (GoD.n α) (show i+1<=l.length by omega);rw[zW,yE] at this;omega)]
 exact this
theorem Qtu{L:O Y}{w:uC}{v:uF}{l:O α}(h:OV w L v (.slc (GoD.n α) (eL l)))(c:L.Nodup):Qv0 L w [v] l:=by
 generalize b:PV.slc (GoD.n α) (eL l)=p at h;cases h with
 | int | bool | str | any | raw=>cases b
 | emp oa n=>
   simp only[PV.slc.injEq] at b
   have:l= []:=by
    cases l with
    | nil=>rfl
    | cons a l=>simp[eL] at b
   subst this;exact⟨by simp,.inl ⟨rfl,rfl,oa,rfl⟩⟩
 | @slc g cap n cur e L l' hg hs hr h1 h2=>
   simp only[PV.slc.injEq] at b;obtain⟨rfl,rfl⟩:=b;obtain⟨d,rfl,f,j⟩:=Qfy l L _ hr (List.nodup_cons.1 c).2;refine⟨c,.inr ⟨g,cap,cur,e,d,by rw[Zv],hg,by simpa [Zv] using h1,h2.1,hs,rfl,f,λi k a m ha=>?_⟩⟩;have o:i<l.length:=(zF.1 ha).1;have:=j i k a m ha
   rw[xN,xO,Zv,xJ (by
    have:=yC (GoD.n α) (show i+1<=l.length by omega);rw[zW,yE] at this;omega)] at this
   exact this
theorem TY{X:Y->Prop}{w:uC}:∀{l:O α} {cs:O uF},VR X w (GoD.n α) cs (eL l)->∀a,a∈l->wide a
 | [],_,_,a,ha=>by simp at ha
 | x ::l,cs,h,a,ha=>by
   cases h with
   | cons b d c=>
     rcases zL.1 ha with rfl | ha
     . exact GoE.vc_wide b
     exact TY c a ha
theorem JO{X:Y->Prop}{w:uC}{v:uF}{l:O α}(h:VV X w v (.slc (GoD.n α) (eL l))):Qpl l:=by
 generalize c:PV.slc (GoD.n α) (eL l)=p at h;cases h with
 | int | bool | str | any | raw=>cases c
 | emp oa n d=>
   simp only[PV.slc.injEq] at c
   have:l= []:=by
    cases l with
    | nil=>rfl
    | cons a l=>simp[eL] at c
   subst this;exact⟨yJ _,by simp⟩
 | @slc b off cap n cs l' hb hc hr h1 h2=>
   simp only[PV.slc.injEq] at c;obtain⟨rfl,rfl⟩:=c;exact⟨by have:=h2.2;rwa [Zv] at this,TY hr⟩
end
theorem VC.one{X:Y->Prop}{w:uC}{v:uF}{p:PV}(h:VC X w [v] [p]):VV X w v p:=by cases h;assumption
theorem OC.one{w:uC}{L:O Y}{v:uF}{p:PV}(h:OC w L [v] [p]):OV w L v p:=by
 generalize a: [v]=vs at h;generalize b: [p]=ps at h;cases h with
 | nil=>cases a
 | cons c d=>
   cases a
   cases b
   cases d
   rw[yW];exact c
theorem VC.one' {X:Y->Prop} {w:uC} {a:O uF} {p:PV} (h:VC X w a [p]):∃v,a= [v]/\VV X w v p:=by
 cases h with
 | cons b c=>cases c;exact⟨_,rfl,b⟩
theorem OC.one' {w:uC} {L:O Y} {a:O uF} {p:PV} (h:OC w L a [p]):∃v,a= [v]/\OV w L v p:=by
 obtain⟨v,e⟩:∃v,a= [v]:=by
  have:=h.length
  match a,this with
  | [v],_=>exact⟨v,rfl⟩
 subst e;exact⟨v,rfl,h.one⟩
instance instGoEList {α:Type} [GoE α]:GoE (O α) where
 enc l:= [.slc (GoD.n α) (eL l)]
 no_any h:=by rw[zR.1 h];simp
 enc_len _:=rfl
 n_pos:=yF
 wide:=Qpl
 wide_size h:=⟨zX (OT _) h,λa ha=>by
  obtain⟨i,b⟩:=List.mem_iff_getElem?.1 ha;exact GoE.wide_size (zX (OU b) h)⟩
 vc_wide hc:=by
  obtain⟨v,rfl,h⟩:=VC.one' hc;exact JO h
 rd_vc h hw:=by
  have h:rdS _ _ _:=h;obtain⟨oa,cap,rfl,_⟩:=id h;exact .cons (Qr6 h hw) .nil
 vc_rd hc:=by
  obtain⟨v,rfl,h⟩:=VC.one' hc;exact Qkq h
 own_oc h hw:=by
  have h:Qv0 _ _ _ _:=h;obtain⟨oa,cap,rfl,_⟩:=Qfj h;have:=OC.cons (Qkr h hw) .nil;rw[yW] at this;exact this
 oc_own hc hn:=by
  obtain⟨v,rfl,h⟩:=OC.one' hc;exact Qtu h hn
def shC:PV->C:=IZ .sh
def owC:Y->O PV->O C
 | _, []=> []
 | k,.slc n l::r=> .slc (.own E k) n l::owC (k+1) r
 | k,.int a b::r=> .int a b::owC k r
 | k,.bool b::r=> .bool b::owC k r
 | k,.str b::r=> .str b::owC k r
 | k,.any::r=> .dead::owC k r
 | k,.raw v::r=> .raw v::owC k r
section
variable {X:Y->Prop} {F:Y->Prop} {w w':uC} {L:Y->O Y}
theorem Qr7{J:Inj}:∀{vs:O uF} {ps:O PV},VC J.F w vs ps->All2 (CR J w) vs (ps.map shC)
 | _,_,.nil=> .nil
 | _,_,.cons h1 h2=> .cons (OW (J:=J) (tok:= .sh) (X:=J.F) (λ_ _ _ h=>h) h1) (Qr7 h2)
theorem Qwd{J:Inj}:∀{ps:O PV} {vs:O uF},All2 (CR J w) vs (ps.map shC)->(∀p,p∈ps->p≠ .any)->VC J.F w vs ps
 | [],vs,h,_=>by cases h;exact .nil
 | p ::ps,vs,h,hz=>by
   cases h with
   | cons a b=>
     refine .cons ?_ (Qwd b λp c=>hz p (zS _ c));cases p with
     | int=>obtain⟨rfl,h⟩:=a;exact .int h
     | bool=>obtain rfl:=a;exact .bool _
     | str=>obtain⟨rfl,h⟩:=a;exact .str h
     | slc n l=>exact a
     | any=>exact(hz _ zZ rfl).elim
     | raw=>obtain⟨rfl,a,b⟩:=a;exact .raw a b
end
section
variable {α:Type} [GoE α] {P:uJ}
def B9(a:α):AV:= .agg ((enc a).map shC)
def QQ(a:α):AV:= .agg (owC 0 (enc a))
def Qhu(l:O α):AV:= .one (.slc .sh (GoD.n α) (eL l))
def MS(l:O α):AV:= .one (.slc (.own E 0) (GoD.n α) (eL l))
def Qpm(n:H):AV:= .one (.int .i64 n)
def Qtv(b:uD):AV:= .one (.bool b)
theorem Qtw{w:uC}{cs:O uF}{a:α}(h:rd w cs a)(c:wide a):AR (LA λb=>b<w.heap.size) w (.agg cs.toArray) (B9 a):=⟨cs,rfl,Qr7 (J:=LA λb=>b<w.heap.size) (GoE.rd_vc h c)⟩
theorem Qtx{w:uC}{v:uF}{l:O α}(h:rd w [v] l)(a:wide l):AR (LA λb=>b<w.heap.size) w v (Qhu l):=Qr6 h a
theorem Qty{w:uC}{F:Y->Prop}{n:H}(h:I64 n):AR (LA F) w (.int .i64 n) (Qpm n):=⟨rfl,(XB n).2 h⟩
theorem ACalls.run{f:Y}{args:O AV}{r:AV}(h:ACalls P f args r){w:uC}[c:Good P w]{a:O uF}(d:All2 (AR (LA λb=>b<w.heap.size) w) a args):Calls P f a.toArray w (Qo7 (λb=>b<w.heap.size) w r):=
 h.2 w c _ a (λ_ h=>h) d
theorem Qpn{w:uC}{F:Y->Prop}{b:uD}{e:Ending}{w':uC}(h:Qo7 F w (Qtv b) e w'):Ret w (.bool b) e w':=by
 obtain⟨v,L,rfl,hb,_,_,_,rfl⟩:=h;exact⟨rfl,hb⟩
end
end
section
open Go.RowKit
open GoE (enc)
section
variable {A:Y->O AV->AV->Prop} {T:TakeT}
theorem Pa{P:uJ}{a:Base}[GoodAt P a]{f:Y}{args:O AV}{r:AV}(h:ACalls P f args r):(Ob.call f args r).holds (Jk P a) T:=h.at
theorem JP{P:uJ}{c:Base}[GoodAt P c]{f n:Y}{l:O (O PV)}{args:O AV}{b a:uD}{d:O (O PV)}(h:ATake P f n l args b a d):(Ob.take f n l args b a d).holds A (Uq P c):=h.at
theorem Pb{P:uJ}{b:Base}[GoodAt P b]{f:Y}{cs:O C}{args:O AV}{r:AV}{a:O C}(h:AGive P f cs args r a):(Ob.give f cs args r a).holds A (Uq P b):=h.at
theorem Qfz{P:uJ}{a:Base}[GoodAt P a]{f:Y}{args:O AV}{r:AV}(h:AVal P f args r):(Ob.val f args r).holds A (Uq P a):=h.at
theorem Qx4{a b:AV}(h:a=b):(Ob.eq a b).holds A T:=h
theorem Nc{lo hi:H}{n:Y}(h:0<=lo/\lo<=hi/\hi<=n):(Ob.rng lo hi n).holds A T:=h
theorem F9{i:H}{n:Y}(h:0<=i/\i<n):(Ob.idx i n).holds A T:=h
theorem G1{l:O (O PV)}(h:Ms l):(Ob.flat l).holds A T:=h
theorem L7{n:Y}(h:n<=1073741824):(Ob.len n).holds A T:=h
theorem Jr{n:Y}(h:n<=uT):(Ob.slen n).holds A T:=h
theorem Qtz{n:H}(h:n≠0):(Ob.nz n).holds A T:=h
theorem Qks{k:IntKind}{n:H}(h:InR k n):(Ob.inr k n).holds A T:=h
end
theorem ER(k:Y)(h:k<9223372036854775807):uX uY ((k:H)+1)=((k+1:Y):H):=by
 rw[IntWalk.i64_in _ (by omega)];rfl
theorem Xn{α:Type}{l:O α}{i:Y}(h:i<l.length):∃x,l[i]? =G x:=⟨l[i],zK h⟩
class FlatE (α:Type) [GoE α]:Prop where
 flat:∀a:α,∀p,p∈enc a->p.flat
instance:FlatE H:=⟨λa p b=>by obtain rfl:=zR.1 b;trivial⟩
instance:FlatE uD:=⟨λa p b=>by obtain rfl:=zR.1 b;trivial⟩
instance:FlatE uE:=⟨λa p b=>by obtain rfl:=zR.1 b;trivial⟩
instance {α β:Type} [GoE α] [GoE β] [FlatE α] [FlatE β]:FlatE (α×β):=⟨λa p b=>(zV.1 b).elim (FlatE.flat a.1 p) (FlatE.flat a.2 p)⟩
theorem Ea{α:Type}[GoE α][FlatE α](l:O α):Ms (eL l):=λr b p c=>by
 obtain⟨a,_,rfl⟩:=yX.1 b;exact FlatE.flat a p c
theorem MT{α β:Type}[GoD α][GoD β]{p:α×β}{N:Y}(a:GoD.size p<=N):GoD.size p.1<=N:=zX (yU _ _) a
theorem MU{α β:Type}[GoD α][GoD β]{p:α×β}{N:Y}(a:GoD.size p<=N):GoD.size p.2<=N:=zX (Nat.le_add_left _ _) a
section
variable {P:uJ} {α β:Type} [GoE α] [GoE β]
theorem Pc{f:Y}(j:Iy P f){l:O α}{r:O β}(h:∀w v,GoD.rd w [v] l->GoE.wide l->Calls P f #[v] w (RetS w r))(q:GoE.wide l->GoE.wide r):ACalls P f [Qhu l] (MS r):=by
 refine⟨j,λw _ F p x g=>?_⟩;cases g with
 | cons m s=>
   cases s
   refine(h w _ (Qkq m) (JO m)).mono ?_
   rintro e w' ⟨v,L,rfl,hb,i,t⟩
   have n:=GoD.own_lt i
   have a:∀k b,b∈(if k=0 then L else [])->k=0/\b∈L:=λk b c=>by
    by_cases d:k=0
    . rw[uM d] at c;exact⟨d,c⟩
    rw[uH d] at c;simp at c
   refine⟨v,λk=>if k=0 then L else [],rfl,hb,λk=>?_,λk b c=>⟨t b (a k b c).2,n b (a k b c).2⟩,λk u b c o=>(a k b c).1.trans (a u b o).1.symm,OwnDeep.of (Qkr i (q (JO m))) (GoD.own_nd i)⟩;by_cases d:k=0
   . simp only[uM d];exact GoD.own_nd i
   simp only[uH d];exact List.nodup_nil
end
theorem Pd{P:uJ}{N:Y}{a:Base}{b:Y->Prop}{Q:Exit->St->Prop}{s s':St}{c:uI}(l:O Y)(d:s.demotes l=s')(h:AWP P N a b c Q s'):AWP P N a b c Q s:=I3 (d▸XI l s) h
theorem Wd{α:Type}[GoE α]{o:Y}{ps:O PV}{y:α}:∀{l:O α} {i:Y} {x:α},l[i]? =G x->(GoE.enc x).take o++ps++(GoE.enc x).drop (o+ps.length)=GoE.enc y->setRow (eL l) i o ps=eL (l.set i y)
 | [],i,x,h,_=>by simp at h
 | a::l,0,x,h,e=>by
   obtain rfl:a=x:=by simpa using h
   show((GoE.enc a).take o++ps++(GoE.enc a).drop (o+ps.length))::eL l=_;rw[e];rfl
 | a::l,i+1,x,h,e=>by
   show GoE.enc a::setRow (eL l) i o ps=_;rw[Wd (l:=l) (i:=i) (x:=x) (by simpa using h) e];rfl
end
section
open Go.RowKit
def Sj:O Operand->O Y
 | []=> []
 | .tmp t::r=>t::Sj r
 | _::r=>Sj r
def PJ(a:O Oper)(o:Oper):O Y:=
 Sj o.op.operands.toList++(match o.guard with
  | some (j,_)=>(match a[j]? with
    | some b=>(match b.dst with
      | some t=> [t]
      | none=> [])
    | none=> [])
  | none=> [])
def Ao:O (Y×uG Tok)->O Y
 | []=> []
 | p::r=>p.1::Ao r
def Qc3:O (Y×uG Tok)->O Tok
 | []=> []
 | (_,G t)::r=>t::Qc3 r
 | _::r=>Qc3 r
def PK:Tok->Tok->uD
 | .sh,.sh=>E
 | .emp,.emp=>E
 | .own d k,.own d' k'=>(match d,d' with
   | true,E=>E
   | false,uA=>E
   | _,_=>uA)&&zP k k'
 | .vw k,.vw k'=>zP k k'
 | _,_=>uA
def BD:Tok->uD
 | .put _ _ _ _ _=>uA
 | _=>E
def QR:O (Y×uG Tok)->uD
 | []=>E
 | (_,G t)::r=>BD t&&QR r
 | (_,uB)::r=>QR r
def ES(t:Tok):O Tok->uD
 | []=>uA
 | x::r=>PK x t|| ES t r
def Qhv(r:Res)(c:C):uD:=
 (match c.key with
  | some k=> !(S7 k (Ao r.rl))
  | none=>E)&&(match r.kb with
  | some b=> !(S7 b c.bkeys)
  | none=>E)
def Qt0(r:Res)(c:C):uD:=
 QR r.rl&&match c with
 | .dead=>uA
 | .slc t _ _=> !(ES t (Qc3 r.rl))
 | .rptr t _=> !(ES t (Qc3 r.rl))
 | _=>E
def Qr8(r:Res):uD:=match r.rl,r.kb with
 | [],uB=>E
 | _,_=>uA
def Qos(r:Res)(c:C):uD:=Qr8 r|| Qt0 r c
def Rw:O (Y×O C)->O C
 | []=> []
 | p::r=>p.2++Rw r
def XK:O Tok->O Y
 | []=> []
 | t::r=>(match t.key with
   | some k=> [k]
   | none=> [])++XK r
def Qhw(a b:uG Y):uD:=match a,b with
 | some x,G y=> !(zP x y)
 | _,_=>E
def Mu(a:uG Y)(l:O Y):uD:=match a with
 | some x=> !(S7 x l)
 | none=>E
def VH(r:Res):uG Y:=match r.bx with
 | some p=>G p.1
 | none=>uB
def PM(r:Res):O C:=match r.bx with
 | some p=>p.2
 | none=> []
def Qkt(c:O Oper)(d:Oper)(b:Rec)(e:Oper)(a:Rec):uD:=
 Qhw d.dst e.dst&&Mu d.dst (PJ c e)&&Mu e.dst (PJ c d)&&
 Cp (Qos b.res) (Z4 a.avs)&&Cp (Qos b.res) (Rw a.bn)&&Cp (Qhv a.res) (Z4 b.avs)&&Cp (Qhv a.res) (Rw b.bn)&&
 Cp (Qhv b.res) a.res.av.cells&&Cp (Qhv b.res) (PM a.res)&&Cp (Qhv a.res) b.res.av.cells&&Cp (Qhv a.res) (PM b.res)&&
 XF (Ao b.res.rl) (Ao a.res.rl++XK (Qc3 a.res.rl))&&XF (Ao a.res.rl) (XK (Qc3 b.res.rl))&&
 Qhw (VH b.res) (VH a.res)&&Mu (VH b.res) (XH (Z4 a.avs))&&Mu (VH a.res) (XH (Z4 b.avs))&&QR b.res.rl&&QR a.res.rl
section
theorem AV.map_map(f g:C->C)(v:AV):(v.map f).map g=v.map (g ∘ f):=by
 cases v<;>simp[AV.map,Function.comp_def]
theorem AV.map_id' {f:C->C} {v:AV} (h:∀c,c∈v.cells->f c=c):v.map f=v:=by
 cases v with
 | one c=>simp[AV.map,h c (by simp[AV.cells])]
 | agg cs=>
   simp only[AV.map]
   congr 1
   exact(yD λc b=>h c b).trans (xH cs)
 | tup l=>
   simp only[AV.map]
   congr 1
   refine(yD λp d=>?_).trans (xH l);obtain⟨a,cs⟩:=p;have:cs.map f=cs:=(yD λc b=>h c (by simp only[AV.cells,xF];exact⟨_,d,b⟩)).trans (xH cs);simp[this]
theorem AV.map_inj' {f:C->C} {v u:AV} (h:v.map f=u) (i:∀j c,f j=c->c∈u.cells->j=c):v=u:=by
 have key:∀(l m:O C),l.map f=m->(∀c,c∈m->c∈u.cells)->l=m:=by
  intro l
  induction l with
  | nil=>intro m h _;exact h
  | cons c l g=>
    intro m h k;cases m with
    | nil=>cases h
    | cons d m=>
      simp only[zY,List.cons.injEq] at h;rw[i c d h.1 (k d (by simp)),g m h.2 λc b=>k c (by simp[b])]
 cases v with
 | one c=>
   simp only[AV.map] at h;subst h;exact uR AV.one (i c _ rfl (by simp[AV.cells]))
 | agg cs=>
   simp only[AV.map] at h;subst h;exact uR AV.agg (key cs _ rfl λc b=>b)
 | tup l=>
   simp only[AV.map] at h;subst h
   congr 1
   have :∀(ps:O (uD×O C)),(∀p,p∈ps->p∈l)->ps=ps.map λp=>(p.1,p.2.map f):=by
    intro ps
    induction ps with
    | nil=>intro _;rfl
    | cons p ps g=>
      intro e;obtain⟨a,cs⟩:=p;simp only[zY];rw[←g λp n=>e p (by simp[n])]
      congr 2
      exact key cs _ rfl λc b=>by
       simp only[AV.cells,xF,yX];exact⟨(a,cs.map f),⟨(a,cs),e _ (by simp),rfl⟩,b⟩
   exact this l λp e=>e
theorem Im{c:O (Y×uG Tok)}{k:Y}:k∉Ao c->get c k=uB:=by
 induction c with
 | nil=>intro _;rfl
 | cons p r d=>
   intro h;simp only[Ao,zL,not_or] at h;obtain⟨a,b⟩:=p;simp only[get];rw[uH λe=>h.1 e.symm];exact d h.2
theorem CY{rl:O (Y×uG Tok)}{k:Y}{t:Tok}:get rl k=G (G t)->t∈Qc3 rl/\k∈Ao rl:=by
 induction rl with
 | nil=>intro h;cases h
 | cons p r c=>
   intro h;obtain⟨a,b⟩:=p;simp only[get] at h;split at h
   . rename_i e;obtain rfl:=zD h;exact⟨by simp[Qc3],by simp[Ao,e]⟩
   obtain⟨d,f⟩:=c h;refine⟨?_,by simp[Ao,f]⟩;cases b<;>simp[Qc3,d]
theorem TZ(t:Tok)(a:BD t=E):PK t t=E:=by
 cases t with
 | own d k=>cases d<;>simp[PK]
 | put=>cases a
 | _=>simp[PK]
theorem HH{t:Tok}(a:BD t=E):∀{l:O Tok},t∈l->ES t l=E
 | x::r,h=>by
   rcases zL.1 h with rfl | h
   . simp[ES,TZ t a]
   simp[ES,HH a h]
theorem XL{d:O (Y×uG Tok)}{k:Y}{t:Tok}(c:QR d=E):get d k=G (G t)->BD t=E:=by
 induction d with
 | nil=>intro h;cases h
 | cons p r g=>
   intro h;obtain⟨a,b⟩:=p
   have f:QR r=E/\(∀t,b=G t->BD t=E):=by
    cases b with
    | none=>exact⟨c,λt e=>by cases e⟩
    | some t=>simp only[QR,zG] at c;exact⟨c.2,λi e=>by cases e;exact c.1⟩
   simp only[get] at h;split at h
   . exact f.2 t (zD h)
   exact g f.1 h
theorem ET(t:Tok)(n:Y)(l:O (O PV)):DV t n l t= .slc t n l:=by cases t<;>rfl
theorem MV(t:Tok)(cs:O PV):Qc4 t cs t= .rptr t cs:=by cases t<;>rfl
theorem Qhx{a:Tok}(h:BD a=E)(t:Tok)(n:Y)(l:O (O PV)):DV t n l a= .slc a n l:=by cases a<;>first | rfl | cases h
theorem Qku{a:Tok}(h:BD a=E)(t:Tok)(cs:O PV):Qc4 t cs a= .rptr a cs:=by cases a<;>first | rfl | cases h
theorem MW{b:O (Y×uG Tok)}(c:QR b=E){t a:Tok}(h:N6 b t=G a):a=t\/BD a=E:=by
 unfold N6 at h;split at h
 . exact .inl (zD h).symm
 split at h
 . exact .inl (zD h).symm
 rename_i x d;subst h;exact .inr (XL c d)
theorem HI{b:O (Y×uG Tok)}(c:QR b=E){t a:Tok}(h:N6 b t=G a)(n:Y)(l:O (O PV)):DV t n l a= .slc a n l:=by
 rcases MW c h with rfl | h
 . exact ET _ n l
 exact Qhx h t n l
theorem EU{b:O (Y×uG Tok)}(c:QR b=E){t a:Tok}(h:N6 b t=G a)(cs:O PV):Qc4 t cs a= .rptr a cs:=by
 rcases MW c h with rfl | h
 . exact MV _ cs
 exact Qku h t cs
theorem HJ{t:Tok}{k:Y}(a:t.key=G k):∀{l:O Tok},t∈l->k∈XK l
 | x::r,h=>by
   simp only[XK];rcases zL.1 h with rfl | h
   . exact zU _ (by rw[a];simp)
   exact zQ _ (HJ a h)
theorem Io{k:Y}{l:O Y}(h:S7 k l=uA):k∉l:=λa=>by rw[Fg.2 a] at h;cases h
theorem MX{b:Y}:∀{caps:O (Y×Y)},b∉caps.map (·.1)->Sf b caps=uA
 | [],_=>rfl
 | c::r,h=>by
   simp only[zY,zL,not_or] at h;simp only[Sf,Bool.or_eq_false_iff];exact⟨MN λe=>h.1 e.symm,MX h.2⟩
theorem Qkv{r:Res}{c:C}(h:Qhv r c=E):Ht r.rl r.kb c=c:=by
 simp only[Qhv,zG] at h;obtain⟨j,g⟩:=h
 have q:∀t:Tok,(match t.key with | some k=> !(S7 k (Ao r.rl)) | none=>E)=E->N6 r.rl t=G t:=by
  intro t m;unfold N6;cases p:t.key with
  | none=>rfl
  | some k=>
    rw[p] at m;simp only[zO] at m;simp only[Im (Io m)]
 cases c with
 | slc t n l=>simp only[Ht,q t j,ET]
 | rptr t cs=>simp only[Ht,q t j,MV]
 | ept d k n i o cs=>
   have p:get r.rl k=uB:=Im (Io (by simpa [C.key] using j));simp only[Ht,p]
 | ptr k off=>
   cases hb:r.kb with
   | none=>rfl
   | some b=>
     rw[hb] at g;simp only[zO,C.bkeys] at g;have:=Io g;simp only[Ht,MN (a:=k) (b:=b) λe=>this (by simp[e]),uS]
 | fn f s=>
   cases hb:r.kb with
   | none=>rfl
   | some b=>
     rw[hb] at g;simp only[zO,C.bkeys] at g;simp only[Ht,MX (Io g),uS]
 | _=>rfl
theorem Qpo{r:Res}{s c:C}(h:Ht r.rl r.kb s=c)(e:Qt0 r c=E):s=c:=by
 simp only[Qt0,zG] at e;obtain⟨m,e⟩:=e
 have u:∀t t':Tok,N6 r.rl t=G t'->ES t' (Qc3 r.rl)=uA->t=t':=by
  intro t t' a p;unfold N6 at a;cases v:t.key with
  | none=>rw[v] at a;exact zD a
  | some k=>
    rw[v] at a;simp only[] at a;cases j:get r.rl k with
    | none=>rw[j] at a;exact zD a
    | some x=>
      rw[j] at a;simp only[] at a;subst a;rw[HH (XL m j) (CY j).1] at p;cases p
 cases s with
 | slc t n l=>
   simp only[Ht] at h;split at h
   . rename_i t' a;rw[HI m a] at h;subst h;simp only[zO] at e;rw[u t t' a e]
   subst h;cases e
 | rptr t cs=>
   simp only[Ht] at h;split at h
   . rename_i t' a;rw[EU m a] at h;subst h;simp only[zO] at e;rw[u t t' a e]
   subst h;cases e
 | ept d k n i o cs=>
   simp only[Ht] at h;split at h
   . exact h
   . rename_i t' j;have p:=HH (XL m j) (CY j).1;split at h
     . subst h;simp[p] at e
     . subst h;simp[p] at e
     . cases XL m j
     subst h;cases e
   subst h;cases e
 | ptr k off=>
   simp only[Ht] at h;split at h
   . exact h
   rename_i b hb;cases g:zP k b with
   | true=>rw[g] at h;subst h;cases e
   | false=>rw[g] at h;exact h
 | fn f q=>
   simp only[Ht] at h;split at h
   . exact h
   rename_i b hb;cases g:Sf b q with
   | true=>rw[g] at h;subst h;cases e
   | false=>rw[g] at h;exact h
 | _=>exact h
theorem HK:Ht [] uB=id:=by
 funext c
 cases c with
 | slc t n l=>cases t<;>rfl
 | rptr t cs=>cases t<;>rfl
 | _=>rfl
theorem Qkw{r:Res}{b c:C}(h:Ht r.rl r.kb b=c)(hn:Qos r c=E):b=c:=by
 simp only[Qos,Bool.or_eq_true] at hn;rcases hn with a | hn
 . have e:Ht r.rl r.kb=id:=by
    unfold Qr8 at a;split at a
    . rename_i d f;rw[d,f,HK]
    cases a
   rw[e] at h;exact h
 exact Qpo h hn
theorem Qkx{b a:Res}(j:XF (Ao b.rl) (Ao a.rl++XK (Qc3 a.rl))=E)(w:XF (Ao a.rl) (XK (Qc3 b.rl))=E)(p1:QR b.rl=E)(p2:QR a.rl=E)(c:C):Ht a.rl a.kb (Ht b.rl b.kb c)=Ht b.rl b.kb (Ht a.rl a.kb c):=by
 have hT :∀t:Tok,(N6 b.rl t).bind (N6 a.rl)=(N6 a.rl t).bind (N6 b.rl):=by
  have a2:∀(r g:Res),XF (Ao r.rl) (Ao g.rl)=E->XF (Ao g.rl) (XK (Qc3 r.rl))=E->∀(t:Tok) (k:Y) (x:uG Tok),t.key=G k->get r.rl k=G x->(N6 r.rl t).bind (N6 g.rl)=(N6 g.rl t).bind (N6 r.rl):=by
   intro r g d1 d2 t k x u e;have a4:k∈Ao r.rl:=yM λz=>by rw[Im z] at e;cases e
   have a1:get g.rl k=uB:=Im (Na d1 k a4);have p:N6 r.rl t=x:=by unfold N6;rw[u];simp only[e]
   have e2:N6 g.rl t=G t:=by unfold N6;rw[u];simp only[a1]
   rw[p,e2];simp only[yK,p];cases x with
   | none=>rfl
   | some q=>
     simp only[yK];unfold N6;cases a5:q.key with
     | none=>rfl
     | some k'=>
       have s:=HJ a5 (CY e).1;have z:k'∉Ao g.rl:=λh=>Na d2 k' h s
       simp only[Im z]
  have a3:XF (Ao b.rl) (Ao a.rl)=E:=by
   revert j;generalize Ao b.rl=l
   induction l with
   | nil=>intro _;rfl
   | cons x l ih=>
     intro h;simp only[XF,zG,zO] at h⊢;refine⟨?_,ih h.2⟩;cases s:S7 x (Ao a.rl) with
     | false=>rfl
     | true=>exact absurd (zU _ (Fg.1 s)) (Io h.1)
  have a6:XF (Ao b.rl) (XK (Qc3 a.rl))=E:=by
   revert j;generalize Ao b.rl=l
   induction l with
   | nil=>intro _;rfl
   | cons x l ih=>
     intro h;simp only[XF,zG,zO] at h⊢;refine⟨?_,ih h.2⟩;cases s:S7 x (XK (Qc3 a.rl)) with
     | false=>rfl
     | true=>exact absurd (zQ _ (Fg.1 s)) (Io h.1)
  have a7:XF (Ao a.rl) (Ao b.rl)=E:=by
   have e:∀x,x∈Ao a.rl->x∉Ao b.rl:=λx hb ha=>Na a3 x ha hb
   revert e;generalize Ao a.rl=l
   induction l with
   | nil=>intro _;rfl
   | cons x l ih=>
     intro e;simp only[XF,zG,zO];refine⟨?_,ih λy v=>e y (by simp[v])⟩;cases s:S7 x (Ao b.rl) with
     | false=>rfl
     | true=>exact absurd (Fg.1 s) (e x (by simp))
  intro t;cases u:t.key with
  | none=>
    have p:N6 b.rl t=G t:=by unfold N6;rw[u]
    have e2:N6 a.rl t=G t:=by unfold N6;rw[u]
    rw[p,e2];simp[p,e2]
  | some k=>
    cases ha:get b.rl k with
    | some x=>exact a2 b a a3 w t k x u ha
    | none=>
      cases hb:get a.rl k with
      | some x=>exact(a2 a b a7 a6 t k x u hb).symm
      | none=>
        have p:N6 b.rl t=G t:=by unfold N6;rw[u];simp only[ha]
        have e2:N6 a.rl t=G t:=by unfold N6;rw[u];simp only[hb]
        rw[p,e2];simp[p,e2]
 have hs:∀(x y:O (Y×uG Tok)),QR x=E->QR y=E->∀(kx ky:uG Y) (t:Tok) (n:Y) (l:O (O PV)),Ht y ky (Ht x kx (.slc t n l))=(match (N6 x t).bind (N6 y) with | some q=> .slc q n l | none=> .dead):=by
  intro x y px py kx ky t n l;simp only[Ht];cases e:N6 x t with
  | none=>rfl
  | some q=>
    simp only[HI px e,yK];cases v:N6 y q with
    | none=>simp only[v]
    | some t2=>simp only[v,HI py v]
 have hp:∀(x y:O (Y×uG Tok)),QR x=E->QR y=E->∀(kx ky:uG Y) (t:Tok) (cs:O PV),Ht y ky (Ht x kx (.rptr t cs))=(match (N6 x t).bind (N6 y) with | some q=> .rptr q cs | none=> .dead):=by
  intro x y px py kx ky t cs;simp only[Ht];cases e:N6 x t with
  | none=>rfl
  | some q=>
    simp only[EU px e,yK];cases v:N6 y q with
    | none=>simp only[v]
    | some t2=>simp only[v,EU py v]
 have he :∀(r g:Res),QR r.rl=E->(∀x,x∈Ao g.rl->x∉XK (Qc3 r.rl))->∀(d:uD) (k n i o:Y) (cs:O PV),get g.rl k=uB->Ht g.rl g.kb (Ht r.rl r.kb (.ept d k n i o cs))=Ht r.rl r.kb (Ht g.rl g.kb (.ept d k n i o cs)):=by
  intro r g a8 dd d k n i o cs hg;have p:Ht g.rl g.kb (.ept d k n i o cs)= .ept d k n i o cs:=by simp only[Ht,hg]
  rw[p];have key:∀y,Ht r.rl r.kb (.ept d k n i o cs)=y->Ht g.rl g.kb y=y->Ht g.rl g.kb (Ht r.rl r.kb (.ept d k n i o cs))=Ht r.rl r.kb (.ept d k n i o cs):=λy j w=>by rw[j,w]
  cases e:get r.rl k with
  | none=>exact key _ (by simp only[Ht,e]) p
  | some x=>
    cases x with
    | none=>exact key .dead (by simp only[Ht,e]) rfl
    | some q=>
      cases q with
      | sh=>exact key (.rptr .sh cs) (by simp only[Ht,e]) rfl
      | vw k'=>
        have s:=HJ (t:= .vw k') rfl (CY e).1;have z:get g.rl k'=uB:=Im λh=>dd k' h s
        exact key (.rptr (.vw k') cs) (by simp only[Ht,e]) (by simp only[Ht,N6,Tok.key,z,Qc4])
      | put=>cases XL a8 e
      | emp | own=>exact key .dead (by simp only[Ht,e]) rfl
 cases c with
 | slc t n l=>rw[hs _ _ p1 p2,hs _ _ p2 p1,hT]
 | rptr t cs=>rw[hp _ _ p1 p2,hp _ _ p2 p1,hT]
 | ept d k n i o cs=>
   cases hg:get a.rl k with
   | none=>exact he b a p1 (λx e=>Na w x e) d k n i o cs hg
   | some x=>
     have a1:k∈Ao a.rl:=yM λz=>by rw[Im z] at hg;cases hg
     have a9:get b.rl k=uB:=Im λha=>Na j k ha (zU _ a1)
     exact(he a b p2 (λx e s=>Na j x e (zQ _ s)) d k n i o cs a9).symm
 | ptr k off=>
   cases b.kb with
   | none=>cases a.kb with
     | none=>rfl
     | some y=>simp only[Ht];cases j:zP k y<;>simp[Ht]
   | some x=>
     cases a.kb with
     | none=>simp only[Ht];cases j:zP k x<;>simp[Ht]
     | some y=>simp only[Ht];cases j:zP k x<;>cases w:zP k y<;>simp[Ht,j,w]
 | fn f m=>
   cases b.kb with
   | none=>cases a.kb with
     | none=>rfl
     | some y=>simp only[Ht];cases j:Sf y m<;>simp[Ht]
   | some x=>
     cases a.kb with
     | none=>simp only[Ht];cases j:Sf x m<;>simp[Ht]
     | some y=>simp only[Ht];cases j:Sf x m<;>cases w:Sf y m<;>simp[Ht,j,w]
 | _=>rfl
def M(r:Res)(v:AV):AV:=v.map (Ht r.rl r.kb)
def ML(r:Res)(l:O C):O C:=l.map (Ht r.rl r.kb)
theorem Rx(s:St)(a:uG Y)(r:Res)(t:Y):get (s.step a r).tm t=if a=G t then G r.av else(get s.tm t).map (M r):=by
 have h:get (match r.rl,r.kb with | [],uB=>s | rl,kb=>s.map (Ht rl kb)).tm t=(get s.tm t).map (M r):=by
  unfold M;split
  . rename_i b e;rw[b,e,HK];cases get s.tm t with
    | none=>rfl
    | some v=>rw[zH,AV.map_id' (f:=id) λc _=>rfl]
  simp only[St.map,Oy (AV.map _)]
 cases a with
 | none=>simp only[St.step];rw[uH (by simp)];exact h
 | some d=>
   simp only[St.step,JJ,yR];split
   . rfl
   exact h
theorem JQ(s:St)(a:uG Y)(r:Res)(k:Y):get (s.step a r).bx k=if VH r=G k then G (PM r) else(get s.bx k).map (ML r):=by
 have h:get (match r.rl,r.kb with | [],uB=>s | rl,kb=>s.map (Ht rl kb)).bx k=(get s.bx k).map (ML r):=by
  unfold ML;split
  . rename_i b c;rw[b,c,HK];cases get s.bx k<;>simp
  simp only[St.map,Oy (xS _)]
 unfold VH PM;simp only[St.step];cases r.bx with
 | none=>simp only[];rw[uH (by simp)];exact h
 | some p=>
   obtain⟨x,y⟩:=p;simp only[JJ,yR];split
   . rfl
   exact h
section
variable {tt:O (Y×TI)} {N:Y} {orc:Orc} {ops:O Oper}
structure SameLooks (ops:O Oper) (o:Oper) (s t:St):Prop where
 tm:∀x,x∈PJ ops o->get s.tm x=get t.tm x
 bx:∀vs,Nb s o.op.operands.toList=G vs->∀k,k∈XH (Z4 vs)->get s.bx k=get t.bx k
theorem MY{s t:St}:∀{xs:O Operand},(∀x,x∈Sj xs->get s.tm x=get t.tm x)->Nb s xs=Nb t xs
 | [],_=>rfl
 | x ::r,h=>by
   have a:Nb s r=Nb t r:=MY λy b=>h y (by cases x<;>simp[Sj,b])
   have c:IY s x=IY t x:=by
    cases x with
    | tmp y=>exact h y (by simp[Sj])
    | _=>rfl
   simp only[Nb,c,a]
theorem XM{s t:St}:∀{ks:O Y},(∀k,k∈ks->get s.bx k=get t.bx k)->Cl s ks=Cl t ks
 | [],_=>rfl
 | k::r,h=>by simp only[Cl,h k (by simp),XM (ks:=r) λx a=>h x (by simp[a])]
theorem MZ{o:Oper}{s t:St}(h:SameLooks ops o s t):L9 tt N orc ops s o=L9 tt N orc ops t o:=by
 have a:Nb s o.op.operands.toList=Nb t o.op.operands.toList:=MY λx c=>h.tm x (zU _ c)
 have d:G0 ops s o=G0 ops t o:=by
  unfold G0;cases e:o.guard with
  | none=>rfl
  | some g=>
    obtain⟨j,b⟩:=g;simp only[];cases f:ops[j]? with
    | none=>rfl
    | some i=>
      simp only[];cases hd:i.dst with
      | none=>rfl
      | some x=>simp only[h.tm x (zQ _ (by simp[e,f,hd]))]
 unfold L9;rw[d,a];cases k:Nb t o.op.operands.toList with
 | none=>rfl
 | some vs=>simp only[XM (h.bx vs (a.trans k))]
theorem JR{s:St}{k:Y}{cs:O C}:∀{ks:O Y},k∈ks->get s.bx k=G cs->∀c,c∈cs->c∈Rw (Cl s ks)
 | x::r,hk,hg,c,hc=>by
   simp only[Cl];rcases zL.1 hk with rfl | hk
   . rw[hg];simp[Rw,hc]
   have:=JR hk hg c hc;split
   . simp[Rw,this]
   exact this
theorem Qf0{o:Oper}{s t:St}{ρ:Rec}(b:G0 ops t o=G0 ops s o)(h:L9 tt N orc ops s o=G ρ)
 (c:∀vs,ρ.avs=vs->Nb s o.op.operands.toList=G vs->ρ.bn=Cl s (XH (Z4 vs))->Nb t o.op.operands.toList=G vs/\Cl t (XH (Z4 vs))=Cl s (XH (Z4 vs))):L9 tt N orc ops t o=G ρ:=by
 unfold L9 at h⊢;rw[b];cases hd:Qdl N o.dst with
 | false=>rw[hd] at h;cases h
 | true =>
   rw[hd] at h;simp only[uQ] at h⊢;split at h
   . split at h
     . rename_i vs a;split at h
       . rename_i r obs d;obtain rfl:=zD h;obtain⟨e,f⟩:=c vs rfl a rfl;simp only[e,f,d]
       cases h
     cases h
   . exact h
   cases h
theorem Qky{t a:Tok}{n:Y}{l:O (O PV)}{b:uD}(h:DV t n l a= .bool b):False:=by
 cases a with
 | put d m i o cs=>
   cases t with
   | own c k=>
     simp only[DV] at h;cases hb:Qjt c d&&zP n m<;>rw[hb] at h<;>cases h
   | _=>cases h
 | _=>cases h
theorem Qpp{t a:Tok}{cs:O PV}{b:uD}(h:Qc4 t cs a= .bool b):False:=by
 cases a with
 | put=>cases t<;>cases h
 | _=>cases h
theorem Qkz{g:O (Y×uG Tok)}{j:uG Y}{c:C}{b:uD}:Ht g j c= .bool b↔c= .bool b:=by
 constructor
 . intro h;cases c with
   | slc t n l=>
     simp only[Ht] at h;split at h
     . exact(Qky h).elim
     cases h
   | rptr t cs=>
     simp only[Ht] at h;split at h
     . exact(Qpp h).elim
     cases h
   | ept d k n i o cs=>
     simp only[Ht] at h;split at h
     . cases h
     . split at h<;>cases h
     cases h
   | ptr k off=>
     simp only[Ht] at h;split at h
     . cases h
     rename_i x y;cases e:zP k y<;>rw[e] at h<;>cases h
   | fn f a=>
     simp only[Ht] at h;split at h
     . cases h
     rename_i x y;cases e:Sf y a<;>rw[e] at h<;>cases h
   | _=>exact h
 intro h;subst h;rfl
theorem NA{o :Oper}{s:St}{a:uG Y}{r:Res}(hd:∀x,x∈PJ ops o->a≠G x):G0 ops (s.step a r) o=G0 ops s o:=by
 unfold G0;cases f:o.guard with
 | none=>rfl
 | some g =>
   obtain⟨j,e⟩:=g;simp only[];cases h:ops[j]? with
   | none=>rfl
   | some oj =>
     simp only[];cases d:oj.dst with
     | none=>rfl
     | some x =>
       have i:a≠G x:=hd x (zQ _ (by simp[f,h,d]));simp only[Rx,uH i];cases n:get s.tm x with
       | none=>rfl
       | some v=>
         simp only[zH];cases v with
         | one c=>
           simp only[M,AV.map];cases c with
           | bool b=>rfl
           | _=>
             generalize k:Ht r.rl r.kb _=m;cases m with
             | bool b=>exact absurd (Qkz.1 k) (by simp)
             | _=>rfl
         | agg cs=>rfl
         | tup l=>cases l<;>rfl
theorem Qx5{r:Res}{v:AV}(h:∀c,c∈v.cells->Qhv r c=E):M r v=v:=AV.map_id' λc a=>Qkv (h c a)
theorem Qx6{r:Res}{l:O C}(h:∀c,c∈l->Qhv r c=E):ML r l=l:=(yD λc a=>Qkv (h c a)).trans (xH l)
theorem Qy1{r:Res}{v u:AV}(h:M r v=u)(a:∀c,c∈u.cells->Qos r c=E):v=u:=AV.map_inj' h λ_ c b d=>Qkw b (a c d)
theorem Qyq{r:Res}:∀{l m:O C},ML r l=m->(∀c,c∈m->Qos r c=E)->l=m
 | [],m,h,_=>h
 | c ::l,m,h,hn=>by
   cases m with
   | nil=>cases h
   | cons d m=>
     simp only[ML,zY,List.cons.injEq] at h;rw[Qkw h.1 (hn d (by simp)),Qyq (l:=l) h.2 λc a=>hn c (by simp[a])]
theorem Th{a:uG Y}{l:O Y}(h:Mu a l=E):∀x,x∈l->a≠G x:=λx b e=>by
 subst e;simp only[Mu,zO] at h;exact Io h b
theorem Qaa{o:Oper}{x:Y}(h:x∈Sj o.op.operands.toList):x∈PJ ops o:=zU _ h
theorem Qpq{o:Oper}{s:St}{a:uG Y}{r:Res}{ρ:Rec}(h:L9 tt N orc ops (s.step a r) o=G ρ)(hd:Mu a (PJ ops o)=E)(h1:Cp (Qos r) (Z4 ρ.avs)=E)(h2:Cp (Qos r) (Rw ρ.bn)=E)(h3:Mu (VH r) (XH (Z4 ρ.avs))=E):L9 tt N orc ops s o=G ρ:=by
 have j:=Th hd;refine Qf0 (NA j).symm h λvs p q t=>?_
 subst p;rw[t] at h2
 have hop':∀(g:O Operand) (vs:O AV),(∀x,x∈Sj g->a≠G x)->(∀c,c∈Z4 vs->Qos r c=E)->Nb (s.step a r) g=G vs->Nb s g=G vs:=by
  intro g
  induction g with
  | nil=>intro vs _ _ h;exact h
  | cons x g n=>
    intro vs d i h;simp only[Nb] at h⊢;split at h
    . rename_i v w m e2;obtain rfl:=zD h;have z:=n w (λy hy=>d y (by cases x<;>simp[Sj,hy])) (λc b=>i c (by simp only[Z4];exact zQ _ b)) e2
      have h0:IY s x=G v:=by
       cases x with
       | tmp y=>
         have m:get (s.step a r).tm y=G v:=m;rw[Rx,uH (d y (by simp[Sj]))] at m;obtain⟨u,hu,hm⟩:=zJ.1 m;show get s.tm y=G v;rw[hu,Qy1 hm λc b=>i c (by simp only[Z4];exact zU _ b)]
       | _=>exact m
      simp only[h0,z]
    cases h
 have hv:=hop' _ _ (λx d=>j x (Qaa d)) (B8 h1) q;refine⟨hv, ?_⟩
 have : ∀ks:O Y,(∀k,k∈ks->VH r≠G k)->(∀c,c∈Rw (Cl (s.step a r) ks)->Qos r c=E)->Cl s ks=Cl (s.step a r) ks:=by
  intro ks
  induction ks with
  | nil=>intro _ _;rfl
  | cons k ks n=>
    intro hk i;have e:get (s.step a r).bx k=(get s.bx k).map (ML r):=by rw[JQ,uH (hk k (by simp))]
    have hg:get s.bx k=get (s.step a r).bx k:=by
     rw[e];cases b:get s.bx k with
     | none=>rfl
     | some cs=>
       rw[b] at e;simp only[zH] at e⊢;exact uR G (Qyq (l:=cs) rfl λc a1=>i c (JR (by simp) e c a1))
    simp only[Cl,hg];split
    . rename_i cs f;rw[n (λx d=>hk x (by simp[d])) λc b=>i c (by simp[Cl,f,Rw,b])]
    rename_i f;exact n (λx d=>hk x (by simp[d])) λc b=>i c (by simp[Cl,f,b])
 exact this _ (Th h3) (B8 h2)
theorem Qt1{o:Oper}{s:St}{a:uG Y}{r:Res}{ρ:Rec}(h:L9 tt N orc ops s o=G ρ)(hd:Mu a (PJ ops o)=E)(w:Cp (Qhv r) (Z4 ρ.avs)=E)(q:Cp (Qhv r) (Rw ρ.bn)=E)(z:Mu (VH r) (XH (Z4 ρ.avs))=E):L9 tt N orc ops (s.step a r) o=G ρ:=by
 have d:=Th hd;refine Qf0 (NA d) h λvs i j l=>?_
 subst i;rw[l] at q
 have hop':∀(b:O Operand) (vs:O AV),(∀x,x∈Sj b->a≠G x)->(∀c,c∈Z4 vs->Qhv r c=E)->Nb s b=G vs->Nb (s.step a r) b=G vs:=by
  intro b
  induction b with
  | nil=>intro vs _ _ h;exact h
  | cons x b ih=>
    intro vs f t h;simp only[Nb] at h⊢;split at h
    . rename_i v m g e2;obtain rfl:=zD h;have n:=ih m (λy hy=>f y (by cases x<;>simp[Sj,hy])) (λc e=>t c (by simp only[Z4];exact zQ _ e)) e2
      have h0:IY (s.step a r) x=G v:=by
       cases x with
       | tmp y=>
         have g:get s.tm y=G v:=g;show get (s.step a r).tm y=G v;rw[Rx,uH (f y (by simp[Sj])),g,zH,Qx5 λc e=>t c (by simp only[Z4];exact zU _ e)]
       | _=>exact g
      simp only[h0,n]
    cases h
 refine⟨hop' _ _ (λx f=>d x (Qaa f)) (B8 w) j,XM λk u=>?_⟩;rw[JQ,uH (Th z k u)];cases e:get s.bx k with
 | none=>rfl
 | some cs=>rw[zH,Qx6 λc p=>B8 q c (JR u e c p)]
theorem VI{a b:uG Y}(h:Qhw a b=E):∀x,a=G x->b≠G x:=λx e e'=>by
 subst e;subst e';simp[Qhw] at h
theorem Qt2{h i:Oper}{j m:Rec}{s:St}(n:Qkt ops h j i m=E){f g:Orc}(o:L9 tt N f ops s h=G j)(p:L9 tt N g ops (s.step h.dst j.res) i=G m):
 L9 tt N g ops s i=G m/\L9 tt N f ops (s.step i.dst m.res) h=G j/\((s.step h.dst j.res).step i.dst m.res).eqv ((s.step i.dst m.res).step h.dst j.res):=by
 simp only[Qkt,zG] at n;obtain⟨⟨⟨⟨⟨⟨⟨⟨⟨⟨⟨⟨⟨⟨⟨⟨⟨q,r⟩,u⟩,w⟩,x⟩,y⟩,z⟩,g1⟩,g2⟩,g3⟩,g4⟩,k1⟩,k2⟩,b1⟩,b2⟩,b3⟩,q1⟩,q2⟩:=n;have b:=Qkx k1 k2 q1 q2;refine⟨Qpq p r w x b2,Qt1 o u y z b3,λt=>?_,λk=>?_⟩
 . simp only[Rx];by_cases d:i.dst=G t
   . rw[uM d,uH (λe=>VI q t e d),uM d,zH,Qx5 (B8 g1)]
   rw[uH d,uH d];by_cases a:h.dst=G t
   . rw[uM a,uM a,zH,Qx5 (B8 g3)]
   rw[uH a,uH a];cases get s.tm t with
   | none=>rfl
   | some v=>
     simp only[zH,M,AV.map_map]
     congr 2
     funext c
     exact b c
 simp only[JQ];by_cases d:VH m.res=G k
 . rw[uM d,uH (λe=>VI b1 k e d),uM d,zH,Qx6 (B8 g2)]
 rw[uH d,uH d];by_cases a:VH j.res=G k
 . rw[uM a,uM a,zH,Qx6 (B8 g4)]
 rw[uH a,uH a];cases get s.bx k with
 | none=>rfl
 | some l=>
   simp only[zH,ML,List.map_map]
   congr 2
   funext c
   exact b c
end
end
end
section
open Go.RowKit
abbrev Nd:=Y×Oper×Rec
def G2(o:Oper):O Y:=(o.after.toList.filter λe=>Region.binds .any e).map (·.on)
def Qhy:O Y->O Y
 | []=> []
 | x::r=>bif S7 x r then Qhy r else x::Qhy r
def Qot(l:O (O Y))(i:Y):O Y:=match l[i]? with
 | some x=>x
 | none=> []
def Qf1:O Oper->O (O Y)->O (O Y)
 | [],acc=>acc
 | o::r,acc=>Qf1 r (acc++ [Qhy (G2 o++(G2 o).flatMap λe=>Qot acc e)])
def Qpr(i:Y):O Y->uD
 | []=>E
 | x::r=>Nat.blt x i&&Qpr i r
def EV:O Oper->Y->uD
 | [],_=>E
 | o::r,i=>Qpr i (G2 o)&&EV r (i+1)
def Qou(a:O (Y×Orc))(i:Y)(o:Oper):uG (Y×Y):=match o.op,o.guard,o.dst,get a i with
 | .move (.tmp u),uB,G v,uB=>G (u,v)
 | _,_,_,_=>uB
def NB(a:O Oper)(m:Y×Y)(z:Oper):uD:= !(S7 m.2 (PJ a z))&&Qhw z.dst (G m.1)&&Qhw z.dst (G m.2)
def NC(a:O (Y×Orc))(b:O Oper)(y x:Nd):uD:=match Qou a y.1 y.2.1,Qou a x.1 x.2.1 with
 | none,uB=>Qkt b y.2.1 y.2.2 x.2.1 x.2.2
 | some m,_=>NB b m x.2.1
 | none,G m=>NB b m y.2.1
def P8(a:O (Y×Orc))(b:O Oper)(c:O (O Y))(x:Nd):O Nd->uD
 | []=>E
 | y::r=>(S7 x.1 (Qot c y.1)|| NC a b x y)&&P8 a b c x r
def Ry(a:O (Y×Orc))(b:O Oper)(c:O (O Y)):O Nd->uD
 | []=>E
 | x::r=>P8 a b c x r&&Ry a b c r
def Qab(tt:O (Y×TI))(N:Y)(a:O (Y×Orc))(b:O Oper):O Oper->Y->St->uG (St×O Nd)
 | [],_,s=>G (s, [])
 | o ::r,i,s=>match L9 tt N (PG a i) b s o with
   | some ρ=>(match Qab tt N a b r (i+1) (s.step o.dst ρ.res) with
     | some (s',l)=>G (s',(i,o,ρ)::l)
     | none=>uB)
   | none=>uB
def Qps:O Nd->O Ob
 | []=> []
 | x::r=>x.2.2.obs++Qps r
def I4(tt:O (Y×TI))(N:Y)(b:O (Y×Orc))(a:O Oper)(c d:O Y)(s:St):uG (St×O Ob):=
 bif EV a 0 then
  match Qab tt N b a a 0 s with
  | some (s',l)=>bif Ry b a (Qf1 a []) l then G (s'.keep c d,Qps l) else uB
  | none=>uB
 else uB
section
variable {P:uJ} {tt:O (Y×TI)} {N:Y} {orcs:O (Y×Orc)} {ops:uN Oper} {w0:Base} {F0:Y->Prop}
def Qt3(tt:O (Y×TI))(N:Y)(a:O (Y×Orc))(b:O Oper):O Nd->St->St->Prop
 | [],s,s'=>s.eqv s'
 | x::r,s,s'=>∃ρ:Rec,L9 tt N (PG a x.1) b s x.2.1=G ρ/\(Qou a x.1 x.2.1=uB->ρ=x.2.2)/\Qt3 tt N a b r (s.step x.2.1.dst ρ.res) s'
theorem Qpt(s:St):s.eqv s:=⟨λ_=>rfl,λ_=>rfl⟩
theorem Qf2{s t:St}(h:s.eqv t):t.eqv s:=⟨λx=>(h.1 x).symm,λx=>(h.2 x).symm⟩
theorem Qk0{s t u:St}(h:s.eqv t)(a:t.eqv u):s.eqv u:=⟨λx=>(h.1 x).trans (a.1 x),λx=>(h.2 x).trans (a.2 x)⟩
theorem Qpu{s t:St}(h:s.eqv t)(a:uG Y)(r:Res):(s.step a r).eqv (t.step a r):=⟨λx=>by rw[Rx,Rx,h.1 x],λx=>by rw[JQ,JQ,h.2 x]⟩
theorem Qk1{s t:St}(h:s.eqv t){a:Orc}{l:O Oper}(o:Oper):L9 tt N a l s o=L9 tt N a l t o:=MZ ⟨λx _=>h.1 x,λ_ _ k _=>h.2 k⟩
theorem CZ:∀{l:O Nd} {s t s':St},s.eqv t->Qt3 tt N orcs ops.toList l s s'->Qt3 tt N orcs ops.toList l t s'
 | [],s,t,s',h,hr=>Qk0 (Qf2 h) hr
 | x::r,s,t,s',h,⟨ρ,h1,h2,hr⟩=>⟨ρ,(Qk1 h _).symm.trans h1,h2,CZ (Qpu h _ _) hr⟩
theorem VJ{i:Y}{o:Oper}{m:Y×Y}(h:Qou orcs i o=G m):o.op= .move (.tmp m.1)/\o.guard=uB/\o.dst=G m.2/\PG orcs i= .no:=by
 unfold Qou at h;split at h
 . rename_i u v a b c d;obtain rfl:=zD h;exact⟨a,b,c,by unfold PG;rw[d]⟩
 cases h
theorem Qk2{l:O Oper}{i:Y}{o:Oper}{m:Y×Y}{s:St}{ρ:Rec}(h:Qou orcs i o=G m)(a:L9 tt N (PG orcs i) l s o=G ρ):Qdl N o.dst=E/\∃x,get s.tm m.1=G x/\ρ.res=⟨x, [],uB,uB⟩/\ρ.obs= []:=by
 obtain⟨c,d,g,e⟩:=VJ h;unfold L9 at a;cases hd:Qdl N o.dst with
 | false=>rw[hd] at a;cases a
 | true=>
   rw[hd] at a;refine⟨rfl, ?_⟩;have f:G0 l s o=G E:=by unfold G0;rw[d]
   simp only[f,c,e,Op.operands,Nb,IY,uQ] at a;cases b:get s.tm m.1 with
   | none=>simp[b,Nb,IY] at a
   | some x=>
     simp[b,Nb,IY,TU,EM,EL,Qjw] at a;obtain rfl:=a;exact⟨x,rfl,rfl,rfl⟩
theorem Qr9{l:O Oper}{i:Y}{o:Oper}{m:Y×Y}{s:St}{x:AV}(h:Qou orcs i o=G m)(hd:Qdl N o.dst=E)(a:get s.tm m.1=G x):∃ρ,L9 tt N (PG orcs i) l s o=G ρ/\ρ.res=⟨x, [],uB,uB⟩:=by
 obtain⟨b,c,f,d⟩:=VJ h;have e:G0 l s o=G E:=by unfold G0;rw[c]
 unfold L9;simp[hd,e,b,d,Op.operands,Nb,IY,a,TU,EM,EL,Qjw]
theorem Qk3(x v:AV):M ⟨x, [],uB,uB⟩ v=v:=AV.map_id' λc _=>by rw[HK];rfl
theorem Qk4(x:AV)(l:O C):ML ⟨x, [],uB,uB⟩ l=l:=by
 show l.map (Ht [] uB)=l;rw[HK,List.map_id]
theorem Qk5{l:O Oper}{orc:Orc}{m:Y×Y}{z:Oper}{s:St}{x:AV}(f:NB l m z=E)(g:get s.tm m.1=G x)(ρ:Rec):
 L9 tt N orc l (s.step (G m.2) ⟨x, [],uB,uB⟩) z=L9 tt N orc l s z/\get (s.step z.dst ρ.res).tm m.1=G (M ρ.res x)/\((s.step (G m.2) ⟨x, [],uB,uB⟩).step z.dst ρ.res).eqv ((s.step z.dst ρ.res).step (G m.2) ⟨M ρ.res x, [],uB,uB⟩):=by
 simp only[NB,zG,zO] at f;obtain⟨⟨c,h⟩,i⟩:=f;have c:=Io c;refine⟨MZ ⟨λy j=>?_,λ_ _ k _=>?_⟩, ?_,λy=>?_,λk=>?_⟩
 . rw[Rx,uH (λe=>c (by cases e;exact j))];cases get s.tm y with
   | none=>rfl
   | some v=>rw[zH,Qk3]
 . rw[JQ,uH (by simp[VH])];cases get s.bx k with
   | none=>rfl
   | some v=>simp[ML,HK]
 . rw[Rx,uH (λe=>VI h _ e rfl),g];rfl
 . simp only[Rx];by_cases a:z.dst=G y
   . rw[uM a,uH (λe=>VI i _ a e),uM a,zH,Qk3]
   rw[uH a,uH a];by_cases b:G m.2=G y
   . rw[uM b,uM b,zH]
   rw[uH b,uH b];cases get s.tm y with
   | none=>rfl
   | some v=>simp only[zH,Qk3]
 have d:∀y:AV,¬VH ⟨y, [],uB,uB⟩=G k:=λ_ e=>by cases e
 simp only[JQ];by_cases a:VH ρ.res=G k
 . rw[uM a,uH (d _),uM a,zH,Qk4]
 rw[uH a,uH (d _),uH (d _),uH a];cases get s.bx k with
 | none=>rfl
 | some v=>simp only[zH,Qk4]
theorem ND{x:Nd}{i:O Nd}:∀{g:O Nd} {s s':St},(∀y,y∈g->NC orcs ops.toList y x=E)->Qt3 tt N orcs ops.toList (g++x::i) s s'->Qt3 tt N orcs ops.toList (x::(g++i)) s s'
 | [],_,_,_,h=>h
 | y :: g,s,s',ha,h=>by
   obtain⟨ρy,t,k,hr⟩:=h;obtain⟨ρx,q,n,f⟩:=ND (λz hz=>ha z (zS _ hz)) hr;have b:=ha y zZ;unfold NC at b;cases c:Qou orcs y.1 y.2.1 with
   | some m=>
     rw[c] at b;obtain⟨hd,x0,j,o,_⟩:=Qk2 c t;have a:=(VJ c).2.2.1;obtain⟨u,e2,v⟩:=Qk5 (tt:=tt) (N:=N) (orc:=PG orcs x.1) b j ρx;rw[o,a] at q f;obtain⟨ρm,p,r⟩:=Qr9 (tt:=tt) (l:=ops.toList) c hd e2;refine⟨ρx,u.symm.trans q,n,ρm,p,λe=>(by rw[c] at e;cases e), ?_⟩;rw[r,a];exact CZ v f
   | none=>
     rw[c] at b;cases d:Qou orcs x.1 x.2.1 with
     | some m=>
       rw[d] at b;obtain⟨hd,x1,j,o,_⟩:=Qk2 d q;have a:=(VJ d).2.2.1;have w:NB ops.toList m y.2.1=E:=b
       have a1:y.2.1.dst≠G m.1:=λe=>by
        simp only[NB,zG] at w;exact VI w.1.2 _ e rfl
       rw[Rx,uH a1] at j;obtain⟨x0,V,hM⟩:=zJ.1 j;obtain⟨u,e2,v⟩:=Qk5 (tt:=tt) (N:=N) (orc:=PG orcs y.1) w V ρy;obtain⟨ρm,p,r⟩:=Qr9 (tt:=tt) (l:=ops.toList) d hd V;refine⟨ρm,p,λe=>(by rw[d] at e;cases e),ρy, ?_,λ_=>k c, ?_⟩
       . rw[r,a];exact u.trans t
       rw[r,a];rw[o,a,←hM] at f;exact CZ (Qf2 v) f
     | none=>
       rw[d] at b;obtain rfl:=k c;obtain rfl:=n d;obtain⟨j,o,p⟩:=Qt2 b t q;exact⟨_,j,λ_=>rfl,_,o,λ_=>rfl,CZ p f⟩
theorem EW:∀{l:O Oper} {i:Y} {s s':St} {R:O Nd},Qab tt N orcs ops.toList l i s=G (s',R)->Qt3 tt N orcs ops.toList R s s'/\R.map (·.1)=List.range' i l.length/\R.map (·.2.1)=l
 | [],i,s,s',R,h=>by
   obtain⟨rfl,rfl⟩:s=s'/\ []=R:=by simpa [Qab] using h
   exact⟨Qpt s,rfl,rfl⟩
 | o :: r,i,s,s',R,h=>by
   simp only[Qab] at h;split at h
   . rename_i ρ hρ;split at h
     . rename_i a b c;obtain⟨rfl,rfl⟩:a=s'/\(i,o,ρ)::b=R:=by simpa using h
       obtain⟨d,e,f⟩:=EW c;exact⟨⟨ρ,hρ,λ_=>rfl,d⟩,by simp[e,List.range'_succ],by simp[f]⟩
     cases h
   cases h
inductive Anc (ops:uN Oper):Y->Y->Prop
 | one {x q:Y} {o:Oper}:ops[q]? =G o->x∈G2 o->Anc ops x q
 | more {x e q:Y} {o:Oper}:ops[q]? =G o->e∈G2 o->Anc ops x e->Anc ops x q
theorem EX{x:Y}:∀{l:O Y},x∈Qhy l->x∈l
 | [],h=>h
 | y ::r,h=>by
   simp only[Qhy] at h;cases a:S7 y r with
   | true=>rw[a] at h;exact zS _ (EX h)
   | false=>
     rw[a] at h;rcases zL.1 h with rfl | h
     . exact zZ
     exact zS _ (EX h)
theorem Qk6:∀{l:O Oper} {acc:O (O Y)},ops.toList.drop acc.length=l->(∀q x,x∈Qot acc q->Anc ops x q)->∀q x,x∈Qot (Qf1 l acc) q->Anc ops x q
 | [],_,_,h,q,x,hx=>h q x hx
 | o ::r,acc,hl,h,q,x,hx=>by
   refine Qk6 (l:=r) (acc:=acc++ [Qhy (G2 o++(G2 o).flatMap λe=>Qot acc e)]) ?_ ?_ q x hx
   . rw[yO,List.length_singleton,←yY,hl];rfl
   intro q x hx
   have b:ops[acc.length]? =G o:=by
    have:=uR (·[0]?) hl;simpa using this
   unfold Qot at hx;rcases xD q acc.length with a | he | hgt
   . rw[yL a] at hx;exact h q x hx
   . subst he;rw[yH (zT _),Nat.sub_self] at hx;simp only[List.getElem?_cons_zero] at hx;rcases zV.1 (EX hx) with hx | hx
     . exact .one b hx
     obtain⟨e,he,hx⟩:=xF.1 hx;exact .more b he (h e x hx)
   rw[List.getElem?_eq_none (by simp;omega)] at hx;simp at hx
theorem Qhz{a:uN uD}(g:∀(j:Y) (o:Oper),ops[j]? =G o->a.getD j uA=E->∀e,e∈G2 o->a.getD e uA=E){x q:Y}(h:Anc ops x q):(∀o,ops[q]? =G o->∀e,e∈G2 o->a.getD e uA=E)->a.getD x uA=E:=by
 induction h with
 | one b i=>intro c;exact c _ b _ i
 | more b k _ l=>intro c;exact l λm d e' f=>g _ m d (c _ b _ k) e' f
theorem Qac{o:Oper}{e:Y}:e∈G2 o↔∃x,x∈o.after/\Region.binds .any x=E/\x.on=e:=by
 unfold G2;simp only[yX,List.mem_filter,Array.mem_toList_iff];exact⟨λ⟨x,⟨h1,h2⟩,h3⟩=>⟨x,h1,h2,h3⟩,λ⟨x,h1,h2,h3⟩=>⟨x,⟨h1,h2⟩,h3⟩⟩
theorem Qf3{i:Y}:∀{l:O Y},Qpr i l=E->∀x,x∈l->x<i
 | [],_,x,hx=>by simp at hx
 | y::r,h,x,hx=>by
   simp only[Qpr,zG,Nat.blt_eq] at h;rcases zL.1 hx with rfl | hx
   . exact h.1
   exact Qf3 h.2 x hx
theorem NE:∀{l:O Oper} {i:Y},EV l i=E->∀(j:Y) (o:Oper),l[j]? =G o->∀e,e∈G2 o->e<i+j
 | [],_,_,j,o,h,_,_=>by simp at h
 | x::r,i,h,j,o,hj,e,he=>by
   simp only[EV,zG] at h;cases j with
   | zero=>simp at hj;subst hj;exact Qf3 h.1 e he
   | succ j=>have:=NE h.2 j o (by simpa using hj) e he;omega
theorem Qf4{a:O (O Y)}{x y:Nd}:∀{l:O Nd},P8 orcs ops.toList a x l=E->y∈l->S7 x.1 (Qot a y.1)=E\/NC orcs ops.toList x y=E
 | z::r,h,hy=>by
   simp only[P8,zG,Bool.or_eq_true] at h;rcases zL.1 hy with rfl | hy
   . exact h.1
   exact Qf4 h.2 hy
theorem Qad{b:O (O Y)}{x:Nd}{c:O Nd}:∀{a:O Nd},Ry orcs ops.toList b (a++x::c)=E->∀y,y∈a->S7 y.1 (Qot b x.1)=E\/NC orcs ops.toList y x=E
 | [],_,y,hy=>by simp at hy
 | z::a,h,y,hy=>by
   rw[xG] at h;simp only[Ry,zG] at h;rcases zL.1 hy with rfl | hy
   . exact Qf4 h.1 (by simp)
   exact Qad h.2 y hy
theorem VK{c:O (O Y)}{z x:Nd}{a:O Nd}:∀{b:O Nd},P8 orcs ops.toList c z (b++x::a)=E->P8 orcs ops.toList c z (b++a)=E
 | [],h=>by simp only[xK,P8,zG] at h;exact h.2
 | y::b,h=>by
   simp only[xG,P8,zG] at h⊢;exact⟨h.1,VK h.2⟩
theorem NF{c:O (O Y)}{x:Nd}{a:O Nd}:∀{b:O Nd},Ry orcs ops.toList c (b++x::a)=E->Ry orcs ops.toList c (b++a)=E
 | [],h=>by simp only[xK,Ry,zG] at h;exact h.2
 | y::b,h=>by
   simp only[xG,Ry,zG] at h⊢;exact⟨VK h.1,NF h.2⟩
theorem Qt4{l:O Nd}(h:AllOb (Jk P w0) (Uq P w0) (Qps l)):∀x,x∈l->AllOb (Jk P w0) (Uq P w0) x.2.2.obs:=by
 induction l with
 | nil=>intro x hx;simp at hx
 | cons y r a=>
   intro x hx;obtain⟨b,c⟩:=AllOb.append h;rcases zL.1 hx with rfl | hx
   . exact b
   exact a c x hx
theorem Qt5(ak:S6 P tt=E){Q:Exit->Act->uC->Prop}{sf:St}{a9:O (O Y)}(aa:∀q x,x∈Qot a9 q->Anc ops x q)(a5:∀(j:Y) (o:Oper),ops[j]? =G o->∀e,e∈G2 o->e<j)(hQ:∀J a w,Rel N w0 F0 J a w sf->Q .normal a w):
 ∀(n:Y) (R:O Nd) (listed:uN uD) (s:St) (J:Inj) (a:Act) (w:uC),R.length=n->listed.size=ops.size->(R.map (·.1)).Pairwise (· < ·)->(∀x,x∈R->ops[x.1]? =G x.2.1)->(∀j,j<ops.size->(listed.getD j E=uA↔j∈R.map (·.1)))->
   (∀(j:Y) (o:Oper),ops[j]? =G o->listed.getD j uA=E->∀e,e∈G2 o->listed.getD e uA=E)->Ry orcs ops.toList a9 R=E->(∀x,x∈R->AllOb (Jk P w0) (Uq P w0) x.2.2.obs)->Qt3 tt N orcs ops.toList R s sf->Rel N w0 F0 J a w s->wpAny P .any ops Q n listed a w:=by
 intro n
 have a1:∀(listed:uN uD) (j:Y),j<listed.size->(listed.getD j E=uA↔¬listed.getD j uA=E):=by
  intro listed j hj;simp[zM,Array.getElem?_eq_getElem hj]
 have f:∀(R:O Nd) (listed:uN uD),listed.size=ops.size->(∀j,j<ops.size->(listed.getD j E=uA↔j∈R.map (·.1)))->∀i,i∈Region.ready .any ops listed->i∈R.map (·.1)/\∀o,ops[i]? =G o->∀e,e∈G2 o->listed.getD e uA=E:=by
  intro R listed p v i hi;obtain⟨h0,o,ho,ab⟩:=mem_ready.1 hi;have a5:i<ops.size:=(yA.1 ho).1;refine⟨(v i a5).1 h0,λo' ad e he=>?_⟩;rw[ho] at ad;obtain rfl:=zD ad;obtain⟨x,h1,h2,rfl⟩:=Qac.1 he;exact ab x h1 h2
 induction n with
 | zero=>
   intro R listed s J a w hn p _ _ v _ _ _ hr u;obtain rfl:R= []:=zN hn;refine⟨?_,hQ J a w (u.eqv hr)⟩;cases al:Region.ready .any ops listed with
   | nil=>rfl
   | cons i r=>
     have:=(f [] listed p v i (by rw[al];simp)).1;simp at this
 | succ n ih=>
   intro R listed s J a w hn p c g v d k a2 hr u;refine⟨λae=>?_,λi hi=>?_⟩
   . exfalso;cases R with
     | nil=>simp at hn
     | cons x r=>
       have hx:=g x (by simp);have af:x.1<ops.size:=(yA.1 hx).1
       have:x.1∈Region.ready .any ops listed:=by
        refine mem_ready.2 ⟨(v x.1 af).2 (by simp),x.2.1,hx,λe he hb=>?_⟩;have ar:=a5 x.1 x.2.1 hx e.on (Qac.2 ⟨e,he,hb,rfl⟩);refine yM λam=>?_
        have:=(v e.on (by omega)).1 ((a1 listed e.on (by omega)).2 am);simp only[zY,zL] at this;rcases this with h | h
        . omega
        have:x.1<e.on:=(yZ.1 c).1 e.on h;omega
       rw[ae] at this;simp at this
   obtain⟨an,l⟩:=f R listed p v i hi;obtain⟨x,hx,rfl⟩:=yX.1 an;obtain⟨a6,a3,rfl⟩:=List.append_of_mem hx
   have ao:∀y,y∈a6->NC orcs ops.toList y x=E:=λy z=>by
    rcases Qad k y z with h | h
    . exfalso;have hl:=Qhz d (aa _ _ (Fg.1 h)) l;have ap:=g y (by simp[z]);have aq:y.1<ops.size:=(yA.1 ap).1;exact(a1 listed y.1 (by omega)).1 ((v y.1 aq).2 (by simp only[yN,zV];exact .inl (yX.2 ⟨y,z,rfl⟩))) hl
    exact h
   obtain⟨ρ,a4,hρ,a7⟩:=ND ao hr
   have ag:AllOb (Jk P w0) (Uq P w0) ρ.obs:=by
    cases ah:Qou orcs x.1 x.2.1 with
    | none=>rw[hρ ah];exact a2 x (by simp)
    | some m=>obtain⟨_,_,_,_,e⟩:=Qk2 ah a4;rw[e];trivial
   have ai:=g x (by simp);have af:x.1<ops.size:=(yA.1 ai).1
   have aj:x.1∉(a6++a3).map (·.1):=λhm=>by
    simp only[yN,zY,xP,yZ] at c;simp only[yN,zV] at hm;rcases hm with hm | hm
    . have:=c.2.2 _ hm x.1 (by simp);omega
    have:=c.2.1.1 _ hm;omega
   refine Qkh (P:=P) ak ai a4 ag u λJ' a' w' a8=>ih (a6++a3) _ _ J' a' w' (by simp at hn⊢;omega) (by simpa using p) ?_ ?_ ?_ ?_ (NF k) ?_ a7 a8
   . simp only[yN,zY,xP,yZ] at c⊢;exact⟨c.1,c.2.1.2,λa ha b hb=>c.2.2 a ha b (by simp[hb])⟩
   . intro y z;exact g y (by simp only[zV,zL] at z⊢;exact z.elim .inl λh=> .inr (.inr h))
   . intro j hj;by_cases t:x.1=j
     . subst t;constructor
       . intro h;simp[p,hj] at h
       intro h;exact absurd h aj
     rw[getD_set_ne E t,v j hj];simp only[yN,zY,zV,zL];exact⟨λh=>h.elim .inl λh=>h.elim (λe=>absurd e.symm t) .inr,λh=>h.elim .inl λh=> .inr (.inr h)⟩
   . intro j o ho hl e he;by_cases t:x.1=j
     . subst t;exact getD_set_true (l o ho e he)
     rw[getD_set_ne uA t] at hl;exact getD_set_true (d j o ho hl e he)
   intro y z;exact a2 y (by simp only[zV,zL] at z⊢;exact z.elim .inl λh=> .inr (.inr h))
theorem DA(y:S6 P tt=E)(hm:P.follows .mixedOrders=E){Q:Exit->St->Prop}{s s':St}(g:O (Y×Orc))(ts bs:O Y){id:Y}{d:uN Oper}{obs:O Ob}(h:I4 tt N g d.toList ts bs s=G (s',obs))
 (z:AllOb (Jk P w0) (Uq P w0) obs) (hQ:Q .normal s'):AWP P N w0 F0 (.region id d E) Q s:=λJ a w n=>by
 unfold I4 at h;cases he:EV d.toList 0 with
 | false=>rw[he] at h;cases h
 | true =>
   rw[he] at h;simp only[uQ] at h;split at h
   . rename_i s1 R h1;cases hp:Ry g d.toList (Qf1 d.toList []) R with
     | false=>rw[hp] at h;cases h
     | true=>
       rw[hp] at h;obtain⟨rfl,rfl⟩:s1.keep ts bs=s'/\Qps R=obs:=by simpa using h
       obtain⟨m,f,p⟩:=EW h1;have i:R.length=d.size:=by have:=uR List.length p;simpa using this
       refine wp_region_any hm (Qt5 (P:=P) y (Qk6 (acc:= []) (l:=d.toList) rfl (λq x r=>by simp[Qot] at r)) (λj o ho e r=>by have:=NE he j o (by simpa using ho) e r;omega)
        (λJ' a' w' hR=>⟨J',_,hR.less (λt v hv=>P7 hv) (λk c hc=>P7 hc),hQ⟩) d.size R _ s J a _ i (by simp) ?_ ?_ ?_ ?_ hp (Qt4 z) m ?_)
       . rw[f];exact List.pairwise_lt_range'
       . intro x r;obtain⟨k,u,rfl⟩:=xQ r
         have e1:R[k].1=k:=by
          have:=uR (·[k]?) f;simp only[List.getElem?_map,zK u,zH] at this;rw[List.getElem?_range' (by simpa [←i] using u)] at this;simpa using this
         have e2:=uR (·[k]?) p;simp only[List.getElem?_map,zK u,zH] at e2;rw[e1];simpa using e2.symm
       . intro j hj;rw[f];simp[hj,List.mem_range'_1]
       . intro j o _ hl;simp only[zM,Array.getElem?_replicate] at hl;split at hl<;>simp at hl
       refine {n with below:= ?_,fl:=n.fl,bo:= ?_,tm:= ?_}
       . exact n.below.trans ⟨rfl,rfl,rfl,zT _,λ_ _=>rfl⟩
       . intro k c u;obtain⟨h1,h2,h3,a1,e,h4,h5⟩:=n.bo k c u;exact⟨h1,h2,h3,a1,e,h4,h5.imp λv c _ hc=>hc.keep ⟨λb hb=>⟨hb,rfl⟩,λk _=>⟨rfl,λ_ _=>rfl⟩,λ_ _=>rfl⟩⟩
       intro t v hv;exact(n.tm t v hv).keep λc _=>⟨λb hb=>⟨hb,rfl⟩,λk _=>⟨rfl,λ_ _=>rfl⟩,λ_ _=>rfl⟩
   cases h
end
open GoE (enc wide)
def nth{α:Type}[uO α](l:O α)(i:Y):α:=l.getD i default
theorem Hn{α:Type}[uO α]{l:O α}{i:Y}(h:i<l.length):l[i]? =G (nth l i):=by
 simp[nth,List.getD,zK h]
theorem T7{α:Type}[uO α]{l:O α}{i:Y}{a:α}(h:l[i]? =G a):nth l i=a:=by simp[nth,List.getD,h]
def dn(s:H):Y->H
 | 0=>s
 | k+1=>dn s k-1
theorem Qdq(s:H):∀k,dn s k=s-(k:H)
 | 0=>by simp[dn]
 | k+1=>by rw[dn,Qdq s k];omega
section
variable {α:Type} [GoE α]
theorem Qae{J:Inj}{w:uC}{v:uF}{b:Tok}{l:O α}(h:CR J w v (.slc b (GoD.n α) (eL l))):wide l:=by
 cases b with
 | sh=>exact JO h
 | emp=>
   obtain⟨h,_⟩:=h;cases l with
   | nil=>exact⟨yJ _,by simp⟩
   | cons a l=>simp[eL] at h
 | vw k=>exact JO h
 | put=>exact h.elim
 | own d k=>
   cases d with
   | true=>exact JO (OwnDeep.vv (X:=λ_=>True) h λ_ _=>⟨trivial,rfl⟩)
   | false=>exact JO (OwnTop.vv (X:=λ_=>True) h (λ_ _=>⟨trivial,rfl⟩) λ_ _=>⟨trivial,rfl⟩)
theorem PN{l:O α}{i:Y}{a:α}(h:l[i]? =G a)(b:wide l):wide a:=b.2 a (yI h)
theorem N9{l:O α}(a:wide l):l.length<=1073741824:=a.1
theorem PO{β:Type}[GoE β]{p:α×β}(a:wide p):wide p.2:=a.2
theorem Qaf{l:O α}(k:Y)(b:wide l):wide (List.take k l):=⟨zX (by simp[Nat.min_le_right]) b.1,λa h=>b.2 a (xM h)⟩
theorem Qag{l:O α}(k:Y)(b:wide l):wide (List.drop k l):=⟨zX (by simp) b.1,λa h=>b.2 a (List.mem_of_mem_drop h)⟩
end
section
variable {P:uJ} {N:Y} {w0:Base} {F0:Y->Prop} {Q:Exit->St->Prop} {s s':St} {c:uI} {α:Type} [GoE α]
end
abbrev PV.i(n:H):PV:= .int .i64 n
abbrev PV.b(b:uD):PV:= .bool b
abbrev PV.s(x:uE):PV:= .str x
abbrev PV.h{α:Type}[GoE α](l:O α):PV:= .slc (GoD.n α) (eL l)
abbrev C.i(n:H):C:= .int .i64 n
abbrev C.b(b:uD):C:= .bool b
abbrev C.s(x:uE):C:= .str x
abbrev C.e(n:Y):C:= .slc .emp n []
abbrev C.h{α:Type}[GoE α](l:O α):C:= .slc .sh (GoD.n α) (eL l)
abbrev C.o{α:Type}[GoE α](k:Y)(l:O α):C:= .slc (.own E k) (GoD.n α) (eL l)
abbrev C.q{α:Type}[GoE α](k:Y)(l:O α):C:= .slc (.own uA k) (GoD.n α) (eL l)
abbrev C.v{α:Type}[GoE α](k:Y)(l:O α):C:= .slc (.vw k) (GoD.n α) (eL l)
abbrev AV.i(n:H):AV:= .one (.int .i64 n)
abbrev AV.b(b:uD):AV:= .one (.bool b)
abbrev AV.s(x:uE):AV:= .one (.str x)
abbrev AV.e(n:Y):AV:= .one (.slc .emp n [])
abbrev AV.h{α:Type}[GoE α](l:O α):AV:= .one (.slc .sh (GoD.n α) (eL l))
abbrev AV.o{α:Type}[GoE α](k:Y)(l:O α):AV:= .one (.slc (.own E k) (GoD.n α) (eL l))
abbrev AV.q{α:Type}[GoE α](k:Y)(l:O α):AV:= .one (.slc (.own uA k) (GoD.n α) (eL l))
abbrev AV.v{α:Type}[GoE α](k:Y)(l:O α):AV:= .one (.slc (.vw k) (GoD.n α) (eL l))
abbrev AV.p(k o:Y):AV:= .one (.ptr k o)
abbrev AV.a(cs:O C):AV:= .agg cs
section
variable {A:Y->O AV->AV->Prop} {T:TakeT}
theorem o1{x:Ob}(h:x.holds A T):AllOb A T [x]:=h
theorem o2{x y:Ob}{r:O Ob}(h:x.holds A T)(a:AllOb A T (y::r)):AllOb A T (x::y::r):=⟨h,a⟩
end
section
variable {α:Type} [GoE α]
theorem Qwe(l:O α):AV.one (.int .i64 ((eL l).length:H))=AV.one (.int .i64 (l.length:H)):=by rw[Zv]
theorem Qk{a b:uD}(h:a=b):AV.one (.bool a)=AV.one (.bool b):=h▸rfl
theorem zB(p:Prop)[Decidable p](h:p:=by omega):AV.one (.bool (decide p))=AV.one (.bool E):=Qk (decide_eq_true h)
theorem zC(p:Prop)[Decidable p](h:¬p:=by omega):AV.one (.bool (decide p))=AV.one (.bool uA):=Qk (decide_eq_false h)
theorem JS(t:Tok)(n k:Y)(lo:H)(l:O α)(a:lo.toNat=k):AV.one (.slc t n (((eL l).take (yQ ((eL l).length:H))).drop (yQ lo)))=AV.one (.slc t n (eL (List.drop k l))):=by
 subst a;rw[Int.toNat_natCast,List.take_length,Qkn]
theorem Qdr(t:Tok)(n k:Y)(a:H)(l:O α)(b:a.toNat=k):AV.one (.slc t n (((eL l).take (yQ a)).drop (yQ 0)))=AV.one (.slc t n (eL (List.take k l))):=by
 subst b;rw[Qkm];rfl
theorem Qwf(t:Tok)(n j k:Y)(lo a:H)(l:O α)(b:lo.toNat=j)(c:a.toNat=k):AV.one (.slc t n (((eL l).take (yQ a)).drop (yQ lo)))=AV.one (.slc t n (eL (List.drop j (List.take k l)))):=by
 subst b;subst c;rw[Qkm,Qkn]
theorem Qh0{l:O α}{i:H}{k:Y}{a:α}(b:0<=i)(c:i.toNat=k)(h:l[k]? =G a):0<=i/\(eL l)[i.toNat]? =G (enc a):=⟨b,by rw[c];exact Qko h⟩
theorem N1{a b m n:Y}(c:a=m)(d:b=n)(h:m+n<=1073741824):a+b<=1073741824:=by omega
theorem Qk7{l:O α}{lo a:H}(b:0<=lo)(c:lo<=a)(d:a<=(l.length:H)):0<=lo/\lo<=a/\a<=((eL l).length:H):=by rw[Zv];exact⟨b,c,d⟩
theorem JT{l:O α}{lo:H}(a:0<=lo)(b:lo<=(l.length:H)):0<=lo/\lo<=((eL l).length:H)/\((eL l).length:H)<=((eL l).length:H):=by rw[Zv];exact⟨a,b,Int.le_refl _⟩
end
theorem NG{α:Type}[GoE α]{A B:O (O PV)}{a b:O α}(c:A=eL a)(d:B=eL b):A++B=eL (a++b):=by rw[c,d,TX]
theorem Qpv{α:Type}[GoE α](n:Y)(a:α):xA n (enc a)=eL (xA n a):=by simp[eL]
theorem Yt{α:Type}[BEq α][uW α]{a b:α}(h:(a==b)=uA):a≠b:=by simpa using h
theorem Sk{α:Type}[BEq α][uW α]{a b:α}(h:(a !=b)=E):a≠b:=by simpa using h
theorem Ut{α:Type}[BEq α][uW α]{a b:α}(h:(a !=b)=uA):a=b:=by simpa using h
theorem Qu{α:Sort _}{c:uD}{a b r:α}(h:c=E)(e:a=r):(bif c then a else b)=r:=by subst h;exact e
theorem Qh{α:Sort _}{c:uD}{a b r:α}(h:c=uA)(e:b=r):(bif c then a else b)=r:=by subst h;exact e
def lt{α R:Type}(t:α)(f:α->R):R:=f t
theorem XN{α R:Type}{t v:α}{f:α->R}{r:R}(h:t=v)(e:f v=r):lt t f=r:=by subst h;exact e
inductive Rd (R S T:Type) where
 | next (s:S)
 | brk (t:T)
 | ret (r:R)
inductive Out (R T:Type) where
 | brk (t:T)
 | ret (r:R)
def Out.on{R T:Type}(o:Out R T)(f:T->R):R:=match o with
 | .brk t=>f t
 | .ret r=>r
theorem Vz{R T:Type}{o:Out R T}{f:T->R}{t:T}{r:R}(h:o= .brk t)(e:f t=r):o.on f=r:=by subst h;exact e
theorem Pe{R T:Type}{o:Out R T}{f:T->R}{r:R}(h:o= .ret r):o.on f=r:=by subst h;rfl
def X5{α R S T:Type}(f:Y->α->S->Rd R S T)(e:Y->S->T):O α->Y->S->Out R T
 | [],k,s=> .brk (e k s)
 | a::l,k,s=>match f k a s with
   | .next s'=>X5 f e l (k+1) s'
   | .brk t=> .brk t
   | .ret r=> .ret r
def Vj{R S T:Type}(f:Y->S->Rd R S T)(e:Y->S->T):Y->Y->S->Out R T
 | 0,k,s=> .brk (e k s)
 | n+1,k,s=>match f k s with
   | .next s'=>Vj f e n (k+1) s'
   | .brk t=> .brk t
   | .ret r=> .ret r
section
variable {α R S T:Type} {f:Y->α->S->Rd R S T} {e:Y->S->T} {l:O α} {k:Y} {s:S} {a:α} {o:Out R T}
theorem EY(h:l[k]? =G a):l.drop k=a::l.drop (k+1):=by
 obtain⟨b,rfl⟩:=zF.1 h;exact List.drop_eq_getElem_cons b
theorem Qp{s':S}(b:l[k]? =G a)(h:f k a s= .next s')(c:o=X5 f e (l.drop k) k s):o=X5 f e (l.drop (k+1)) (k+1) s':=by
 rw[c,EY b];simp only[X5,h]
theorem Qpw{t:T}(b:l[k]? =G a)(h:f k a s= .brk t)(c:o=X5 f e (l.drop k) k s):o= .brk t:=by
 rw[c,EY b];simp only[X5,h]
theorem Kc{r:R}(b:l[k]? =G a)(h:f k a s= .ret r)(c:o=X5 f e (l.drop k) k s):o= .ret r:=by
 rw[c,EY b];simp only[X5,h]
theorem Xo{t:T}(a:k=l.length)(h:e k s=t)(b:o=X5 f e (l.drop k) k s):o= .brk t:=by
 rw[b,a,List.drop_length,←a];simp only[X5,h]
end
section
variable {R S T:Type} {f:Y->S->Rd R S T} {e:Y->S->T} {n k:Y} {s:S} {o:Out R T}
theorem Kb{s':S}(b:k<n)(h:f k s= .next s')(a:o=Vj f e (n-k) k s):o=Vj f e (n-(k+1)) (k+1) s':=by
 rw[a,show n-k=n-(k+1)+1 by omega];simp only[Vj,h]
theorem Ti{r:R}(b:k<n)(h:f k s= .ret r)(a:o=Vj f e (n-k) k s):o= .ret r:=by
 rw[a,show n-k=n-(k+1)+1 by omega];simp only[Vj,h]
theorem Hu{t:T}(a:k=n)(h:e k s=t)(b:o=Vj f e (n-k) k s):o= .brk t:=by
 rw[b,a,Nat.sub_self,←a];simp only[Vj,h]
end
def whl{R S T:Type}(f:S->Rd R S T):Y->S->uG (Out R T)
 | 0,_=>uB
 | n+1,s=>match f s with
   | .next s'=>whl f n s'
   | .brk t=>G (.brk t)
   | .ret r=>G (.ret r)
section
variable {R S T:Type} {f:S->Rd R S T} {n:Y} {s:S} {o:Out R T}
theorem Qpx{s':S}(h:f s= .next s')(a:whl f (n+1) s=G o):whl f n s'=G o:=by simpa only[whl,h] using a
theorem Qt6{t:T}(h:f s= .brk t)(a:whl f (n+1) s=G o):o= .brk t:=by simp only[whl,h] at a;exact(zD a).symm
theorem Qt7{r:R}(h:f s= .ret r)(a:whl f (n+1) s=G o):o= .ret r:=by simp only[whl,h] at a;exact(zD a).symm
end
instance {R T:Type} [uO T]:uO (Out R T):=⟨.brk default⟩
def N2{R S T:Type}[uO T](f:S->Rd R S T)(n:Y)(s:S):Out R T:=(whl f n s).getD default
theorem Mv{R S T:Type}[uO T]{f:S->Rd R S T}{n:Y}{s:S}(h:(whl f n s).isSome=E):whl f n s=G (N2 f n s):=by
 unfold N2;cases hw:whl f n s with
 | none=>rw[hw] at h;cases h
 | some o=>rfl
theorem P9{R S T:Type}{f:S->Rd R S T}{s:S}{o:Out R T}:¬whl f 0 s=G o:=by simp[whl]
def QL(a:Y)(A B:St->Prop)(Q:Exit->St->Prop):Exit->St->Prop
 | .normal,s=>A s
 | .exit i,s=>bif zP i a then B s else Q (.exit i) s
 | e,s=>Q e s
section
variable {P:uJ} {N:Y} {w0:Base} {F0:Y->Prop} {Q:Exit->St->Prop} {s s':St} {c:uI} {σ τ:Type} {id:Y}
theorem Ho(mk:Y->σ->St)(after:τ->St)(I:Y->σ->Prop)(D:τ->Prop)(len:Y)(l:σ)(r:Weak s (mk 0 l))(t:I 0 l)
 (u:∀k x,k<len->I k x->AWP P N w0 F0 c (QL id (λs'=>∃j,Weak s' (mk (k+1) j)/\I (k+1) j) (λs'=>∃y,Weak s' (after y)/\D y) Q) (mk k x))
 (v:∀k x,k=len->I k x->AWP P N w0 F0 c (QL id (λ_=>False) (λs'=>∃y,Weak s' (after y)/\D y) Q) (mk k x))
 (z:∀y,D y->Q .normal (after y)):AWP P N w0 F0 (.block id (.loop c)) Q s:=by
 refine Qn (I3 r (Qpj (λn s=>∃k x,k<=len/\n=len-k/\s=mk k x/\I k x) (n:=len) ⟨0,l,yJ _,by omega,rfl,t⟩ ?_))
 rintro n _ ⟨k,x,hk,rfl,rfl,q⟩
 have g:∀(A:St->Prop) (i:Y) (s':St),QL id A (λs'=>∃y,Weak s' (after y)/\D y) Q (.exit i) s'->∀(J:Inj) (a:Act) (w:uC),Rel N w0 F0 J a w s'->∃J s,Rel N w0 F0 J a w s/\Exit.inBlockS id Q (.exit i) s:=by
  intro A i s' b J a w d;simp only[QL] at b;cases hb:zP i id with
  | true=>
    rw[hb] at b;obtain⟨y,hw,hd⟩:=b;obtain⟨J',m⟩:=hw N w0 F0 J a w d;exact⟨J',_,m,by simp only[Exit.inBlockS,hb,uQ];exact z y hd⟩
  | false=>
    rw[hb] at b;exact⟨J,s',d,by simp only[Exit.inBlockS,hb,uS];exact b⟩
 intro J a w f;by_cases h:k<len
 . refine wp_mono (u k x h q J a w f) ?_
   rintro e o w' ⟨J',s',d,b⟩
   cases e with
   | normal=>
     obtain⟨j,hw,p⟩:=b;exact⟨J',s',d,len-(k+1),_,by omega,hw,k+1,j,by omega,rfl,rfl,p⟩
   | exit i=>exact g _ i s' b J' o w' d
   | _=>exact⟨J',s',d,b⟩
 obtain rfl:k=len:=by omega
 refine wp_mono (v _ x rfl q J a w f) ?_
 rintro e o w' ⟨J',s',d,b⟩
 cases e with
 | normal=>exact b.elim
 | exit i=>exact g _ i s' b J' o w' d
 | _=>exact⟨J',s',d,b⟩
theorem Qh1(mk:σ->St)(after:τ->St)(I:Y->σ->Prop)(D:τ->Prop)(n:Y)(b:σ)(g:Weak s (mk b))(h:I n b)(i:∀x,¬I 0 x)
 (l:∀n x,I (n+1) x->AWP P N w0 F0 c (QL id (λs'=>∃a,Weak s' (mk a)/\I n a) (λs'=>∃y,Weak s' (after y)/\D y) Q) (mk x))
 (o:∀y,D y->Q .normal (after y)):AWP P N w0 F0 (.block id (.loop c)) Q s:=by
 refine Ho (λ_=>mk) after (λk x=>∃m,m+k=n/\I m x) D n b g ⟨n,rfl,h⟩ (λk x p ⟨m,hm,hi⟩=>?_) (λk x p ⟨m,hm,hi⟩=>?_) o
 . obtain⟨m,rfl⟩:∃j,m=j+1:=⟨m-1,by omega⟩;refine Qpi (l m x hi) λe s' f=>?_
   cases e with
   | normal=>obtain⟨a,hw,d⟩:=f;exact⟨a,hw,m,by omega,d⟩
   | _=>exact f
 obtain rfl:m=0:=by omega
 exact(i x hi).elim
def QJ(a:St)(e:Exit)(s':St):Prop:=e= .normal/\Weak s' a
theorem Qpy(d:St)(b:uD)(g:b=E->AWP P N w0 F0 c (QJ d) s)(h:b=uA->AWP P N w0 F0 c (QJ d) s)(i:Q .normal d):AWP P N w0 F0 c Q s:=by
 have key:AWP P N w0 F0 c (QJ d) s:=by cases hb:b with
  | true=>exact g hb
  | false=>exact h hb
 intro J a w j;refine wp_mono (key J a w j) ?_
 rintro e k w' ⟨J',s',l,rfl,hw⟩
 obtain⟨m,f⟩:=hw N w0 F0 J' k w' l;exact⟨m,d,f,i⟩
theorem Qk8(e:s=s'):Weak s s':=e▸Weak.refl s
theorem Ye(b:uD)(a:b=E->AWP P N w0 F0 c Q s)(d:b=uA->AWP P N w0 F0 c Q s):AWP P N w0 F0 c Q s:=by cases hb:b with
 | true=>exact a hb
 | false=>exact d hb
theorem Qk9{t:Y}{x y:uI}(a:get s.tm t=G (.one (.bool E)))(b:AWP P N w0 F0 x Q s):AWP P N w0 F0 (.cond (.tmp t) x y) Q s:=VB a (λ_=>b) (λh=>by cases h)
theorem VL{t:Y}{x y:uI}(a:get s.tm t=G (.one (.bool uA)))(b:AWP P N w0 F0 y Q s):AWP P N w0 F0 (.cond (.tmp t) x y) Q s:=VB a (λh=>by cases h) (λ_=>b)
theorem Qh2{t:Y}{x y:uI}{b:uD}(a:get s.tm t=G (.one (.bool b)))(c:b=E)(d:AWP P N w0 F0 x Q s):AWP P N w0 F0 (.cond (.tmp t) x y) Q s:=VB a (λ_=>d) (λh=>absurd (c.symm.trans h) (by decide))
theorem Qh3{t:Y}{x y:uI}{b:uD}(a:get s.tm t=G (.one (.bool b)))(c:b=uA)(d:AWP P N w0 F0 y Q s):AWP P N w0 F0 (.cond (.tmp t) x y) Q s:=VB a (λh=>absurd (c.symm.trans h) (by decide)) (λ_=>d)
end
theorem HL{a b:uD}(h:(a&&b)=E):a=E:=by cases a<;>simp_all
theorem HM{a b:uD}(h:(a&&b)=E):b=E:=by cases a<;>simp_all
theorem Sl{a b:uD}(h:(a|| b)=uA):a=uA:=by cases a<;>simp_all
theorem Rz{a b:uD}(h:(a|| b)=uA):b=uA:=by cases a<;>simp_all
theorem Kj{b:uD}(h:(!b)=E):b=uA:=by cases b<;>simp_all
theorem Yu{b:uD}(h:(!b)=uA):b=E:=by cases b<;>simp_all
def Qt8{α:Type}(d:O Y):O (Y×α)->O (Y×α)
 | []=> []
 | p::r=>bif S7 p.1 d then Qt8 d r else p::Qt8 d r
def Qyr{α:Type}(u:O (Y×α))(d:O Y)(l:O (Y×α)):O (Y×α):=u++Qt8 d l
def Tj{α:Type}:O (Y×α)->O Y
 | []=> []
 | p::r=>p.1::Tj r
def St.up(s:St)(u:O (Y×AV))(d:O Y)(a:O (Y×O C))(b:O Y):St:=⟨Qyr u d s.tm,Qyr a b s.bx⟩
def St.fit(s s':St):St:=s.keep (Tj s'.tm) (Tj s'.bx)
theorem Qe{s s':St}(h:s.fit s'=s'):Weak s s':=EO _ _ h
theorem zA{α:Type}{e:α}{s s':St}(h:s.fit s'=s'):e=e/\Weak s s':=⟨rfl,Qe h⟩
def St.cellT(s:St)(t i:Y):uG C:=match get s.tm t with
 | some (.one c)=>(match i with | 0=>G c | _=>uB)
 | some (.agg cs)=>cs[i]?
 | _=>uB
def St.cellB(s:St)(b i:Y):uG C:=match get s.bx b with
 | some cs=>cs[i]?
 | _=>uB
section
variable {P:uJ} {N:Y} {w0:Base} {F0:Y->Prop} {Q:Exit->St->Prop} {s:St} {c:uI}
theorem ck{t:Y}{x y:uI}(b:uD)(a:b=E->AWP P N w0 F0 x Q s)(c:b=uA->AWP P N w0 F0 y Q s)(d:get s.tm t=G (.one (.bool b)):=by kernel_rfl):AWP P N w0 F0 (.cond (.tmp t) x y) Q s:=VB d a c
theorem ckT{t:Y}{x y:uI}(a:AWP P N w0 F0 x Q s)(b:get s.tm t=G (.one (.bool E)):=by kernel_rfl):AWP P N w0 F0 (.cond (.tmp t) x y) Q s:=Qk9 b a
theorem ckF{t:Y}{x y:uI}(a:AWP P N w0 F0 y Q s)(b:get s.tm t=G (.one (.bool uA)):=by kernel_rfl):AWP P N w0 F0 (.cond (.tmp t) x y) Q s:=VL b a
theorem ckt{t:Y}{x y:uI}{b:uD}(a:b=E)(c:AWP P N w0 F0 x Q s)(d:get s.tm t=G (.one (.bool b)):=by kernel_rfl):AWP P N w0 F0 (.cond (.tmp t) x y) Q s:=Qh2 d a c
theorem ckf{t:Y}{x y:uI}{b:uD}(a:b=uA)(c:AWP P N w0 F0 y Q s)(d:get s.tm t=G (.one (.bool b)):=by kernel_rfl):AWP P N w0 F0 (.cond (.tmp t) x y) Q s:=Qh3 d a c
theorem jn(u:O (Y×AV))(d:O Y)(a:O (Y×O C))(e:O Y)(b:uD)(f:b=E->AWP P N w0 F0 c (QJ (s.up u d a e)) s)(g:b=uA->AWP P N w0 F0 c (QJ (s.up u d a e)) s)(h:Q .normal (s.up u d a e)):AWP P N w0 F0 c Q s:=Qpy _ b f g h
theorem eqn(u:O (Y×AV))(d:O Y)(a:O (Y×O C))(b:O Y)(h:s.fit (s.up u d a b)=s.up u d a b)(k:AWP P N w0 F0 c Q (s.up u d a b)):AWP P N w0 F0 c Q s:=I3 (Qe h) k
theorem Qla{J:Inj}{a:Act}{w:uC}(h:Rel N w0 F0 J a w s){t i:Y}{x:C}(b:s.cellT t i=G x):∃u,CR J w u x:=by
 unfold St.cellT at b;split at b
 . rename_i y c;split at b
   . obtain rfl:=zD b;exact⟨_,h.tm t _ c⟩
   cases b
 . rename_i cs c;obtain⟨vs,_,ha⟩:=h.tm t _ c;obtain⟨u,_,d⟩:=ha.get' b;exact⟨u,d⟩
 cases b
theorem Qt9{J:Inj}{a:Act}{w:uC}(h:Rel N w0 F0 J a w s){b i:Y}{x:C}(c:s.cellB b i=G x):∃u,CR J w u x:=by
 unfold St.cellB at c;split at c
 . rename_i cs d;obtain⟨_,_,_,f,e,_,ha⟩:=h.bo b _ d;obtain⟨u,_,g⟩:=ha.get' c;exact⟨u,g⟩
 cases c
theorem wdT{α:Type}[GoE α](t i:Y)(b:Tok)(l:O α)(k:wide l->AWP P N w0 F0 c Q s)(h:s.cellT t i=G (.slc b (GoD.n α) (eL l)):=by kernel_rfl):AWP P N w0 F0 c Q s:=λJ a w d=>k (by obtain⟨u,e⟩:=Qla d h;exact Qae e) J a w d
theorem wdB{α:Type}[GoE α](b i:Y)(d:Tok)(l:O α)(k:wide l->AWP P N w0 F0 c Q s)(h:s.cellB b i=G (.slc d (GoD.n α) (eL l)):=by kernel_rfl):AWP P N w0 F0 c Q s:=λJ a w e=>k (by obtain⟨u,f⟩:=Qt9 e h;exact Qae f) J a w e
theorem stT(t i:Y)(x:uE)(k:x.size<=9223372036854775807->AWP P N w0 F0 c Q s)(h:s.cellT t i=G (.str x):=by kernel_rfl):AWP P N w0 F0 c Q s:=λJ a w b=>k (by obtain⟨u,d⟩:=Qla b h;exact d.2) J a w b
theorem blk{σ τ:Type}{g:Y}(u:Y->σ->O (Y×AV))(d:O Y)(b:Y->σ->O (Y×O C))(e:O Y)(h:τ->O (Y×AV))(i:O Y)(j:τ->O (Y×O C))(a:O Y)(I:Y->σ->Prop)(D:τ->Prop)(len:Y)(f:σ)
 (m:Weak s (s.up (u 0 f) d (b 0 f) e)) (n:I 0 f)
 (o:∀k x,k<len->I k x->AWP P N w0 F0 c (QL g (λs'=>∃l,Weak s' (s.up (u (k+1) l) d (b (k+1) l) e)/\I (k+1) l) (λs'=>∃y,Weak s' (s.up (h y) i (j y) a)/\D y) Q) (s.up (u k x) d (b k x) e))
 (p:∀k x,k=len->I k x->AWP P N w0 F0 c (QL g (λ_=>False) (λs'=>∃y,Weak s' (s.up (h y) i (j y) a)/\D y) Q) (s.up (u k x) d (b k x) e))
 (q:∀y,D y->Q .normal (s.up (h y) i (j y) a)):AWP P N w0 F0 (.block g (.loop c)) Q s:=Ho _ _ I D len f m n o p q
theorem blw{σ τ:Type}{h:Y}(u:σ->O (Y×AV))(d:O Y)(e:σ->O (Y×O C))(f:O Y)(i:τ->O (Y×AV))(j:O Y)(k:τ->O (Y×O C))(a:O Y)(I:Y->σ->Prop)(D:τ->Prop)(n:Y)(b:σ)
 (l:Weak s (s.up (u b) d (e b) f)) (m:I n b) (o:∀x,¬I 0 x)
 (p:∀n x,I (n+1) x->AWP P N w0 F0 c (QL h (λs'=>∃g,Weak s' (s.up (u g) d (e g) f)/\I n g) (λs'=>∃y,Weak s' (s.up (i y) j (k y) a)/\D y) Q) (s.up (u x) d (e x) f))
 (q:∀y,D y->Q .normal (s.up (i y) j (k y) a)):AWP P N w0 F0 (.block h (.loop c)) Q s:=Qh1 _ _ I D n b l m o p q
end
theorem Nn{a b:H}(h:a=b):AV.i a=AV.i b:=h▸rfl
theorem cb{P:uJ}{f:Y}{args:O AV}{a b:uD}(h:a=b)(c:ACalls P f args (.b a)):ACalls P f args (.b b):=h▸c
theorem Qlb{s s':St}(a:O (Y×Y))(h:(s.swaps a).fit s'=s'):Weak s s':=(MO a s).trans (Qe h)
theorem Qua{s s':St}(a:O (uD×Y×Y×uD×Y×Y))(b c:O Y)(d:O (Y×Y))(h:((((s.opens a).map (Ht (Yz b) uB)).demotes c).swaps d).fit s'=s'):Weak s s':=
 (HD a s).trans ((Dd b rfl).trans ((XI c _).trans (Qlb d h)))
theorem opn{P:uJ}{N:Y}{a:Base}{b:Y->Prop}{Q:Exit->St->Prop}{s:St}{c:uI}(l:O (uD×Y×Y×uD×Y×Y))(h:AWP P N a b c Q (s.opens l)):AWP P N a b c Q s:=Qkj l rfl h
open GoE (enc wide)
def PL(A:Y->O AV->AV->Prop)(T:TakeT)(_:O (Y×Orc))(a:O Ob):Prop:=AllOb A T a
section
variable {A:Y->O AV->AV->Prop} {T:TakeT} {orcs:O (Y×Orc)} {obs:O Ob}
theorem Sm{x:Ob}{r:O Ob}(h:x.holds A T)(k:AllOb A T r):AllOb A T (x::r):=by
 cases r with
 | nil=>exact h
 | cons y r=>exact⟨h,k⟩
theorem p0:PL A T [] []:=trivial
theorem px{x:Ob}(h:x.holds A T)(k:PL A T orcs obs):PL A T orcs (x::obs):=Sm h k
theorem po(i:Y)(o:Orc)(k:PL A T orcs obs):PL A T ((i,o)::orcs) obs:=k
theorem pe(i:Y){a b:AV}(h:a=b)(k:PL A T orcs obs):PL A T ((i,.val b)::orcs) (.eq a b::obs):=Sm (x:= .eq a b) h k
theorem pr(i:Y){l:O (O PV)}{j:H}{r:O PV}(h:0<=j/\l[j.toNat]? =G r)(k:PL A T orcs obs):PL A T ((i,.row r)::orcs) (.elem l j r::obs):=Sm (x:= .elem l j r) h k
theorem pR(i:Y){l:O (O PV)}{j:H}{r:O PV}(h:0<=j/\l[j.toNat]? =G r)(k:PL A T orcs obs):PL A T ((i,.rowE r)::orcs) (.elem l j r::obs):=Sm (x:= .elem l j r) h k
end
section
variable {P:uJ} {w0:Base} {T:TakeT} {orcs:O (Y×Orc)} {obs:O Ob}
theorem pc[GoodAt P w0](i:Y){f:Y}{args:O AV}{r:AV}(h:ACalls P f args r)(k:PL (Jk P w0) T orcs obs):PL (Jk P w0) T ((i,.val r)::orcs) (.call f args r::obs):=Sm (Pa h) k
end
section
variable {A:Y->O AV->AV->Prop} {T:TakeT} {orcs:O (Y×Orc)} {obs:O Ob}
theorem pl(i:Y){α:Type}[GoE α](l:O α)(k:PL A T orcs obs):PL A T ((i,.val (.i (l.length:H)))::orcs) (.eq (.one (.int .i64 ((eL l).length:H))) (.i (l.length:H))::obs):=pe i (Qwe l) k
theorem pt(i:Y){b:uD}(h:b=E)(k:PL A T orcs obs):PL A T ((i,.val (.b E))::orcs) (.eq (.one (.bool b)) (.b E)::obs):=pe i (Qk h) k
theorem pf(i:Y){b:uD}(h:b=uA)(k:PL A T orcs obs):PL A T ((i,.val (.b uA))::orcs) (.eq (.one (.bool b)) (.b uA)::obs):=pe i (Qk h) k
theorem pg(i:Y){α:Type}[GoE α]{l:O α}(j:H){k:Y}{a:α}(h:l[k]? =G a)(r:PL A T orcs obs)(b:0<=j:=by omega)(c:j.toNat=k:=by rfl):PL A T ((i,.row (enc a))::orcs) (.elem (eL l) j (enc a)::obs):=pr i (Qh0 b c h) r
theorem pG(i:Y){α:Type}[GoE α]{l:O α}(j:H){k:Y}{a:α}(h:l[k]? =G a)(r:PL A T orcs obs)(b:0<=j:=by omega)(c:j.toNat=k:=by rfl):PL A T ((i,.rowE (enc a))::orcs) (.elem (eL l) j (enc a)::obs):=pR i (Qh0 b c h) r
theorem pn(i:Y){α:Type}[GoE α]{l:O α}{k:Y}{a:α}(h:l[k]? =G a)(r:PL A T orcs obs):PL A T ((i,.row (enc a))::orcs) (.elem (eL l) (k:H) (enc a)::obs):=pr i (Qh0 (Int.natCast_nonneg k) rfl h) r
theorem pN(i:Y){α:Type}[GoE α]{l:O α}{k:Y}{a:α}(h:l[k]? =G a)(r:PL A T orcs obs):PL A T ((i,.rowE (enc a))::orcs) (.elem (eL l) (k:H) (enc a)::obs):=pR i (Qh0 (Int.natCast_nonneg k) rfl h) r
theorem pa{α:Type}[GoE α](a b:O α)(r:PL A T orcs obs)(h:a.length+b.length<=1073741824:=by first|omega|(simp only[List.length_cons,List.length_nil];omega) | (simp;omega) | simp):PL A T orcs (.len ((eL a).length+(eL b).length)::obs):=px (L7 (N1 (Zv a) (Zv b) h)) r
end
def nx(tt:O (Y×TI))(N:Y)(a:O (Y×Orc))(b:O Oper)(c d:O Y)(s:St):St:=match T6 tt N a b b 0 s with
 | some (s',_)=>s'.keep c d
 | none=>s
def nd(tt:O (Y×TI))(N:Y)(a:O (Y×Orc))(b:O Oper)(c d:O Y)(s:St):St:=match I4 tt N a b c d s with
 | some (s',_)=>s'
 | none=>s
def hd(x _:St):St:=x
section
variable {P:uJ} {N:Y} {w0:Base} {F0:Y->Prop} {Q:Exit->St->Prop} {s x:St} {c y:uI} {tt:O (Y×TI)} {orcs:O (Y×Orc)} {obs:O Ob} {id:Y} {ops:uN Oper}
theorem rn0(b:S6 P tt=E)(c d:O Y)(e:PL (Jk P w0) (Uq P w0) orcs obs)(g:Q .normal (nx tt N orcs ops.toList c d s))
 (h:(T6 tt N orcs ops.toList ops.toList 0 s).map yS=G obs):AWP P N w0 F0 (.region id ops uA) Q s:=by
 cases f:T6 tt N orcs ops.toList ops.toList 0 s with
 | none=>rw[f] at h;cases h
 | some x=>
   obtain⟨s',a⟩:=x;rw[f] at h;obtain rfl:a=obs:=zD h;refine Ky b orcs c d (s':=nx tt N orcs ops.toList c d s) ?_ e g;unfold Hm nx;rw[f]
theorem rN0(d:S6 P tt=E)(g:P.follows .mixedOrders=E)(a b:O Y)(e:PL (Jk P w0) (Uq P w0) orcs obs)(i:Q .normal (nd tt N orcs ops.toList a b s))
 (h:(I4 tt N orcs ops.toList a b s).map yS=G obs):AWP P N w0 F0 (.region id ops E) Q s:=by
 cases f:I4 tt N orcs ops.toList a b s with
 | none=>rw[f] at h;cases h
 | some x=>
   obtain⟨s',c⟩:=x;rw[f] at h;obtain rfl:c=obs:=zD h;refine DA d g orcs a b (s':=nd tt N orcs ops.toList a b s) ?_ e i;unfold nd;rw[f]
theorem mz(u:O (Y×AV))(d:O Y)(a:O (Y×O C))(bd:O Y)(k:AWP P N w0 F0 c Q (s.up u d a bd))(h:x.fit (s.up u d a bd)=s.up u d a bd:=by kernel_rfl):AWP P N w0 F0 c Q (hd x s):=I3 (s:=x) (Qe h) k
theorem wT{α:Type}[GoE α](t i:Y)(a:Tok)(l:O α)(k:wide l->l.length<=1073741824->AWP P N w0 F0 c Q s)(h:s.cellT t i=G (.slc a (GoD.n α) (eL l)):=by kernel_rfl):AWP P N w0 F0 c Q s:=wdT t i a l (λhw=>k hw (N9 hw)) h
theorem wB{α:Type}[GoE α](b i:Y)(a:Tok)(l:O α)(k:wide l->l.length<=1073741824->AWP P N w0 F0 c Q s)(h:s.cellB b i=G (.slc a (GoD.n α) (eL l)):=by kernel_rfl):AWP P N w0 F0 c Q s:=wdB b i a l (λhw=>k hw (N9 hw)) h
end
section
variable {P:uJ} {N:Y} {w0:Base} {F0:Y->Prop} {Q:Exit->St->Prop} {s:St} {c:uI} {α R σ τ:Type} {id:Y}
theorem S8(f:Y->α->σ->Rd R σ τ)(e:Y->σ->τ)(l:O α)(a:σ)(u:Y->σ->O (Y×AV))(d:O Y)(b:τ->O (Y×AV))(g:O Y)
 (i:Weak s (s.up (u 0 a) d [] []))
 (j:∀k x,k<l.length->X5 f e l 0 a=X5 f e (l.drop k) k x->AWP P N w0 F0 c (QL id (λs'=>∃h,Weak s' (s.up (u (k+1) h) d [] [])/\(X5 f e l 0 a=X5 f e (l.drop (k+1)) (k+1) h)) (λs'=>∃y,Weak s' (s.up (b y) g [] [])/\X5 f e l 0 a= .brk y) Q) (s.up (u k x) d [] []))
 (m:∀k x,k=l.length->X5 f e l 0 a=X5 f e (l.drop k) k x->AWP P N w0 F0 c (QL id (λ_=>False) (λs'=>∃y,Weak s' (s.up (b y) g [] [])/\X5 f e l 0 a= .brk y) Q) (s.up (u k x) d [] []))
 (n:∀y,X5 f e l 0 a= .brk y->Q .normal (s.up (b y) g [] [])):AWP P N w0 F0 (.block id (.loop c)) Q s:=Ho (λk x=>s.up (u k x) d [] []) (λy=>s.up (b y) g [] []) (λk x=>X5 f e l 0 a=X5 f e (l.drop k) k x) (λy=>X5 f e l 0 a= .brk y) l.length a i rfl j m n
theorem HN(f:Y->α->σ->Rd R σ τ)(e:Y->σ->τ)(l:O α)(a:σ)(u:Y->σ->O (Y×AV))(d:O Y)(b:τ->O (Y×AV))(g:O Y)(A:Y->σ->Prop)
 (i:Weak s (s.up (u 0 a) d [] [])) (j:A 0 a)
 (m:∀k x,k<l.length->X5 f e l 0 a=X5 f e (l.drop k) k x/\A k x->AWP P N w0 F0 c (QL id (λs'=>∃h,Weak s' (s.up (u (k+1) h) d [] [])/\(X5 f e l 0 a=X5 f e (l.drop (k+1)) (k+1) h/\A (k+1) h)) (λs'=>∃y,Weak s' (s.up (b y) g [] [])/\X5 f e l 0 a= .brk y) Q) (s.up (u k x) d [] []))
 (n:∀k x,k=l.length->X5 f e l 0 a=X5 f e (l.drop k) k x/\A k x->AWP P N w0 F0 c (QL id (λ_=>False) (λs'=>∃y,Weak s' (s.up (b y) g [] [])/\X5 f e l 0 a= .brk y) Q) (s.up (u k x) d [] []))
 (o:∀y,X5 f e l 0 a= .brk y->Q .normal (s.up (b y) g [] [])):AWP P N w0 F0 (.block id (.loop c)) Q s:=Ho (λk x=>s.up (u k x) d [] []) (λy=>s.up (b y) g [] []) (λk x=>X5 f e l 0 a=X5 f e (l.drop k) k x/\A k x) (λy=>X5 f e l 0 a= .brk y) l.length a i ⟨rfl,j⟩ m n o
theorem Qy2(f:Y->α->σ->Rd R σ τ)(e:Y->σ->τ)(l:O α)(a:σ)(u:Y->σ->O (Y×AV))(d:O Y)(b:τ->O (Y×AV))(g:O Y)(B:τ->Prop)
 (i:Weak s (s.up (u 0 a) d [] []))
 (j:∀k x,k<l.length->X5 f e l 0 a=X5 f e (l.drop k) k x->AWP P N w0 F0 c (QL id (λs'=>∃h,Weak s' (s.up (u (k+1) h) d [] [])/\(X5 f e l 0 a=X5 f e (l.drop (k+1)) (k+1) h)) (λs'=>∃y,Weak s' (s.up (b y) g [] [])/\(X5 f e l 0 a= .brk y/\B y)) Q) (s.up (u k x) d [] []))
 (m:∀k x,k=l.length->X5 f e l 0 a=X5 f e (l.drop k) k x->AWP P N w0 F0 c (QL id (λ_=>False) (λs'=>∃y,Weak s' (s.up (b y) g [] [])/\(X5 f e l 0 a= .brk y/\B y)) Q) (s.up (u k x) d [] []))
 (n:∀y,X5 f e l 0 a= .brk y/\B y->Q .normal (s.up (b y) g [] [])):AWP P N w0 F0 (.block id (.loop c)) Q s:=Ho (λk x=>s.up (u k x) d [] []) (λy=>s.up (b y) g [] []) (λk x=>X5 f e l 0 a=X5 f e (l.drop k) k x) (λy=>X5 f e l 0 a= .brk y/\B y) l.length a i rfl j m n
theorem SW(f:Y->α->σ->Rd R σ τ)(e:Y->σ->τ)(l:O α)(a:σ)(u:Y->σ->O (Y×AV))(d:O Y)(b:τ->O (Y×AV))(g:O Y)(A:Y->σ->Prop)(B:τ->Prop)
 (i:Weak s (s.up (u 0 a) d [] [])) (j:A 0 a)
 (m:∀k x,k<l.length->X5 f e l 0 a=X5 f e (l.drop k) k x/\A k x->AWP P N w0 F0 c (QL id (λs'=>∃h,Weak s' (s.up (u (k+1) h) d [] [])/\(X5 f e l 0 a=X5 f e (l.drop (k+1)) (k+1) h/\A (k+1) h)) (λs'=>∃y,Weak s' (s.up (b y) g [] [])/\(X5 f e l 0 a= .brk y/\B y)) Q) (s.up (u k x) d [] []))
 (n:∀k x,k=l.length->X5 f e l 0 a=X5 f e (l.drop k) k x/\A k x->AWP P N w0 F0 c (QL id (λ_=>False) (λs'=>∃y,Weak s' (s.up (b y) g [] [])/\(X5 f e l 0 a= .brk y/\B y)) Q) (s.up (u k x) d [] []))
 (o:∀y,X5 f e l 0 a= .brk y/\B y->Q .normal (s.up (b y) g [] [])):AWP P N w0 F0 (.block id (.loop c)) Q s:=Ho (λk x=>s.up (u k x) d [] []) (λy=>s.up (b y) g [] []) (λk x=>X5 f e l 0 a=X5 f e (l.drop k) k x/\A k x) (λy=>X5 f e l 0 a= .brk y/\B y) l.length a i ⟨rfl,j⟩ m n o
theorem Qlc(f:Y->α->σ->Rd R σ τ)(e:Y->σ->τ)(l:O α)(a:σ)(u:Y->σ->O (Y×AV))(d:O Y)(g:Y->σ->O (Y×O C))(h:O Y)(i:τ->O (Y×AV))(j:O Y)(m:τ->O (Y×O C))(b:O Y)
 (o:Weak s (s.up (u 0 a) d (g 0 a) h))
 (p:∀k x,k<l.length->X5 f e l 0 a=X5 f e (l.drop k) k x->AWP P N w0 F0 c (QL id (λs'=>∃n,Weak s' (s.up (u (k+1) n) d (g (k+1) n) h)/\(X5 f e l 0 a=X5 f e (l.drop (k+1)) (k+1) n)) (λs'=>∃y,Weak s' (s.up (i y) j (m y) b)/\X5 f e l 0 a= .brk y) Q) (s.up (u k x) d (g k x) h))
 (q:∀k x,k=l.length->X5 f e l 0 a=X5 f e (l.drop k) k x->AWP P N w0 F0 c (QL id (λ_=>False) (λs'=>∃y,Weak s' (s.up (i y) j (m y) b)/\X5 f e l 0 a= .brk y) Q) (s.up (u k x) d (g k x) h))
 (r:∀y,X5 f e l 0 a= .brk y->Q .normal (s.up (i y) j (m y) b)):AWP P N w0 F0 (.block id (.loop c)) Q s:=Ho (λk x=>s.up (u k x) d (g k x) h) (λy=>s.up (i y) j (m y) b) (λk x=>X5 f e l 0 a=X5 f e (l.drop k) k x) (λy=>X5 f e l 0 a= .brk y) l.length a o rfl p q r
theorem LC(f:Y->α->σ->Rd R σ τ)(e:Y->σ->τ)(l:O α)(a:σ)(u:Y->σ->O (Y×AV))(d:O Y)(g:Y->σ->O (Y×O C))(h:O Y)(i:τ->O (Y×AV))(j:O Y)(m:τ->O (Y×O C))(b:O Y)(A:Y->σ->Prop)
 (o:Weak s (s.up (u 0 a) d (g 0 a) h)) (p:A 0 a)
 (q:∀k x,k<l.length->X5 f e l 0 a=X5 f e (l.drop k) k x/\A k x->AWP P N w0 F0 c (QL id (λs'=>∃n,Weak s' (s.up (u (k+1) n) d (g (k+1) n) h)/\(X5 f e l 0 a=X5 f e (l.drop (k+1)) (k+1) n/\A (k+1) n)) (λs'=>∃y,Weak s' (s.up (i y) j (m y) b)/\X5 f e l 0 a= .brk y) Q) (s.up (u k x) d (g k x) h))
 (r:∀k x,k=l.length->X5 f e l 0 a=X5 f e (l.drop k) k x/\A k x->AWP P N w0 F0 c (QL id (λ_=>False) (λs'=>∃y,Weak s' (s.up (i y) j (m y) b)/\X5 f e l 0 a= .brk y) Q) (s.up (u k x) d (g k x) h))
 (t:∀y,X5 f e l 0 a= .brk y->Q .normal (s.up (i y) j (m y) b)):AWP P N w0 F0 (.block id (.loop c)) Q s:=Ho (λk x=>s.up (u k x) d (g k x) h) (λy=>s.up (i y) j (m y) b) (λk x=>X5 f e l 0 a=X5 f e (l.drop k) k x/\A k x) (λy=>X5 f e l 0 a= .brk y) l.length a o ⟨rfl,p⟩ q r t
theorem Qx7(f:Y->σ->Rd R σ τ)(e:Y->σ->τ)(l:Y)(a:σ)(u:Y->σ->O (Y×AV))(d:O Y)(b:τ->O (Y×AV))(g:O Y)
 (i:Weak s (s.up (u 0 a) d [] []))
 (j:∀k x,k<l->Vj f e l 0 a=Vj f e (l-k) k x->AWP P N w0 F0 c (QL id (λs'=>∃h,Weak s' (s.up (u (k+1) h) d [] [])/\(Vj f e l 0 a=Vj f e (l-(k+1)) (k+1) h)) (λs'=>∃y,Weak s' (s.up (b y) g [] [])/\Vj f e l 0 a= .brk y) Q) (s.up (u k x) d [] []))
 (m:∀k x,k=l->Vj f e l 0 a=Vj f e (l-k) k x->AWP P N w0 F0 c (QL id (λ_=>False) (λs'=>∃y,Weak s' (s.up (b y) g [] [])/\Vj f e l 0 a= .brk y) Q) (s.up (u k x) d [] []))
 (n:∀y,Vj f e l 0 a= .brk y->Q .normal (s.up (b y) g [] [])):AWP P N w0 F0 (.block id (.loop c)) Q s:=Ho (λk x=>s.up (u k x) d [] []) (λy=>s.up (b y) g [] []) (λk x=>Vj f e l 0 a=Vj f e (l-k) k x) (λy=>Vj f e l 0 a= .brk y) l a i rfl j m n
theorem Qx8(f:Y->σ->Rd R σ τ)(e:Y->σ->τ)(l:Y)(a:σ)(u:Y->σ->O (Y×AV))(d:O Y)(b:τ->O (Y×AV))(g:O Y)(A:Y->σ->Prop)
 (i:Weak s (s.up (u 0 a) d [] [])) (j:A 0 a)
 (m:∀k x,k<l->Vj f e l 0 a=Vj f e (l-k) k x/\A k x->AWP P N w0 F0 c (QL id (λs'=>∃h,Weak s' (s.up (u (k+1) h) d [] [])/\(Vj f e l 0 a=Vj f e (l-(k+1)) (k+1) h/\A (k+1) h)) (λs'=>∃y,Weak s' (s.up (b y) g [] [])/\Vj f e l 0 a= .brk y) Q) (s.up (u k x) d [] []))
 (n:∀k x,k=l->Vj f e l 0 a=Vj f e (l-k) k x/\A k x->AWP P N w0 F0 c (QL id (λ_=>False) (λs'=>∃y,Weak s' (s.up (b y) g [] [])/\Vj f e l 0 a= .brk y) Q) (s.up (u k x) d [] []))
 (o:∀y,Vj f e l 0 a= .brk y->Q .normal (s.up (b y) g [] [])):AWP P N w0 F0 (.block id (.loop c)) Q s:=Ho (λk x=>s.up (u k x) d [] []) (λy=>s.up (b y) g [] []) (λk x=>Vj f e l 0 a=Vj f e (l-k) k x/\A k x) (λy=>Vj f e l 0 a= .brk y) l a i ⟨rfl,j⟩ m n o
theorem Qsa(f:Y->σ->Rd R σ τ)(e:Y->σ->τ)(l:Y)(a:σ)(u:Y->σ->O (Y×AV))(d:O Y)(b:τ->O (Y×AV))(g:O Y)(A:Y->σ->Prop)(B:τ->Prop)
 (i:Weak s (s.up (u 0 a) d [] [])) (j:A 0 a)
 (m:∀k x,k<l->Vj f e l 0 a=Vj f e (l-k) k x/\A k x->AWP P N w0 F0 c (QL id (λs'=>∃h,Weak s' (s.up (u (k+1) h) d [] [])/\(Vj f e l 0 a=Vj f e (l-(k+1)) (k+1) h/\A (k+1) h)) (λs'=>∃y,Weak s' (s.up (b y) g [] [])/\(Vj f e l 0 a= .brk y/\B y)) Q) (s.up (u k x) d [] []))
 (n:∀k x,k=l->Vj f e l 0 a=Vj f e (l-k) k x/\A k x->AWP P N w0 F0 c (QL id (λ_=>False) (λs'=>∃y,Weak s' (s.up (b y) g [] [])/\(Vj f e l 0 a= .brk y/\B y)) Q) (s.up (u k x) d [] []))
 (o:∀y,Vj f e l 0 a= .brk y/\B y->Q .normal (s.up (b y) g [] [])):AWP P N w0 F0 (.block id (.loop c)) Q s:=Ho (λk x=>s.up (u k x) d [] []) (λy=>s.up (b y) g [] []) (λk x=>Vj f e l 0 a=Vj f e (l-k) k x/\A k x) (λy=>Vj f e l 0 a= .brk y/\B y) l a i ⟨rfl,j⟩ m n o
theorem Qwg(f:Y->σ->Rd R σ τ)(e:Y->σ->τ)(l:Y)(a:σ)(u:Y->σ->O (Y×AV))(d:O Y)(g:Y->σ->O (Y×O C))(h:O Y)(i:τ->O (Y×AV))(j:O Y)(m:τ->O (Y×O C))(b:O Y)
 (o:Weak s (s.up (u 0 a) d (g 0 a) h))
 (p:∀k x,k<l->Vj f e l 0 a=Vj f e (l-k) k x->AWP P N w0 F0 c (QL id (λs'=>∃n,Weak s' (s.up (u (k+1) n) d (g (k+1) n) h)/\(Vj f e l 0 a=Vj f e (l-(k+1)) (k+1) n)) (λs'=>∃y,Weak s' (s.up (i y) j (m y) b)/\Vj f e l 0 a= .brk y) Q) (s.up (u k x) d (g k x) h))
 (q:∀k x,k=l->Vj f e l 0 a=Vj f e (l-k) k x->AWP P N w0 F0 c (QL id (λ_=>False) (λs'=>∃y,Weak s' (s.up (i y) j (m y) b)/\Vj f e l 0 a= .brk y) Q) (s.up (u k x) d (g k x) h))
 (r:∀y,Vj f e l 0 a= .brk y->Q .normal (s.up (i y) j (m y) b)):AWP P N w0 F0 (.block id (.loop c)) Q s:=Ho (λk x=>s.up (u k x) d (g k x) h) (λy=>s.up (i y) j (m y) b) (λk x=>Vj f e l 0 a=Vj f e (l-k) k x) (λy=>Vj f e l 0 a= .brk y) l a o rfl p q r
theorem Qpz(f:Y->σ->Rd R σ τ)(e:Y->σ->τ)(l:Y)(a:σ)(u:Y->σ->O (Y×AV))(d:O Y)(g:Y->σ->O (Y×O C))(h:O Y)(i:τ->O (Y×AV))(j:O Y)(m:τ->O (Y×O C))(b:O Y)(A:Y->σ->Prop)
 (o:Weak s (s.up (u 0 a) d (g 0 a) h)) (p:A 0 a)
 (q:∀k x,k<l->Vj f e l 0 a=Vj f e (l-k) k x/\A k x->AWP P N w0 F0 c (QL id (λs'=>∃n,Weak s' (s.up (u (k+1) n) d (g (k+1) n) h)/\(Vj f e l 0 a=Vj f e (l-(k+1)) (k+1) n/\A (k+1) n)) (λs'=>∃y,Weak s' (s.up (i y) j (m y) b)/\Vj f e l 0 a= .brk y) Q) (s.up (u k x) d (g k x) h))
 (r:∀k x,k=l->Vj f e l 0 a=Vj f e (l-k) k x/\A k x->AWP P N w0 F0 c (QL id (λ_=>False) (λs'=>∃y,Weak s' (s.up (i y) j (m y) b)/\Vj f e l 0 a= .brk y) Q) (s.up (u k x) d (g k x) h))
 (t:∀y,Vj f e l 0 a= .brk y->Q .normal (s.up (i y) j (m y) b)):AWP P N w0 F0 (.block id (.loop c)) Q s:=Ho (λk x=>s.up (u k x) d (g k x) h) (λy=>s.up (i y) j (m y) b) (λk x=>Vj f e l 0 a=Vj f e (l-k) k x/\A k x) (λy=>Vj f e l 0 a= .brk y) l a o ⟨rfl,p⟩ q r t
theorem Qx9(f:Y->σ->Rd R σ τ)(e:Y->σ->τ)(l:Y)(a:σ)(u:Y->σ->O (Y×AV))(d:O Y)(g:Y->σ->O (Y×O C))(h:O Y)(i:τ->O (Y×AV))(j:O Y)(m:τ->O (Y×O C))(b:O Y)(A:Y->σ->Prop)(B:τ->Prop)
 (o:Weak s (s.up (u 0 a) d (g 0 a) h)) (p:A 0 a)
 (q:∀k x,k<l->Vj f e l 0 a=Vj f e (l-k) k x/\A k x->AWP P N w0 F0 c (QL id (λs'=>∃n,Weak s' (s.up (u (k+1) n) d (g (k+1) n) h)/\(Vj f e l 0 a=Vj f e (l-(k+1)) (k+1) n/\A (k+1) n)) (λs'=>∃y,Weak s' (s.up (i y) j (m y) b)/\(Vj f e l 0 a= .brk y/\B y)) Q) (s.up (u k x) d (g k x) h))
 (r:∀k x,k=l->Vj f e l 0 a=Vj f e (l-k) k x/\A k x->AWP P N w0 F0 c (QL id (λ_=>False) (λs'=>∃y,Weak s' (s.up (i y) j (m y) b)/\(Vj f e l 0 a= .brk y/\B y)) Q) (s.up (u k x) d (g k x) h))
 (t:∀y,Vj f e l 0 a= .brk y/\B y->Q .normal (s.up (i y) j (m y) b)):AWP P N w0 F0 (.block id (.loop c)) Q s:=Ho (λk x=>s.up (u k x) d (g k x) h) (λy=>s.up (i y) j (m y) b) (λk x=>Vj f e l 0 a=Vj f e (l-k) k x/\A k x) (λy=>Vj f e l 0 a= .brk y/\B y) l a o ⟨rfl,p⟩ q r t
end
section
variable {tt:O (Y×TI)} {rs:O ResultVar} {s:St} {τ:Type}
theorem pz(a:O Y){F v:τ}(e:F=v)(g:τ->AV)(h:Tf tt rs (s.map (Ht (Yz a) uB))=G (g v):=by kernel_rfl):Qjq tt rs (g F) .ret s:=N8 a h (e▸rfl)
theorem pb{F v:uD}(a:O Y)(e:F=v)(h:Tf tt rs (s.map (Ht (Yz a) uB))=G (.b v):=by kernel_rfl):Qjq tt rs (.b F) .ret s:=N8 a h (e▸rfl)
theorem pi{F v:H}(a:O Y)(e:F=v)(h:Tf tt rs (s.map (Ht (Yz a) uB))=G (.i v):=by kernel_rfl):Qjq tt rs (.i F) .ret s:=N8 a h (e▸rfl)
theorem ps{F v:uE}(a:O Y)(e:F=v)(h:Tf tt rs (s.map (Ht (Yz a) uB))=G (.s v):=by kernel_rfl):Qjq tt rs (.s F) .ret s:=N8 a h (e▸rfl)
theorem po0{α:Type}[GoE α]{F v:O α}(a:O Y)(e:F=v)(h:Tf tt rs (s.map (Ht (Yz a) uB))=G (.o 0 v):=by kernel_rfl):Qjq tt rs (.o 0 F) .ret s:=N8 a h (e▸rfl)
theorem ph0{α:Type}[GoE α]{F v:O α}(a:O Y)(e:F=v)(h:Tf tt rs (s.map (Ht (Yz a) uB))=G (.h v):=by kernel_rfl):Qjq tt rs (.h F) .ret s:=N8 a h (e▸rfl)
end
theorem wn{R S T:Type}{f:S->Rd R S T}{n:Y}{s s':S}{o:Out R T}(a:whl f (n+1) s=G o)(h:f s= .next s'):whl f n s'=G o:=Qpx h a
theorem wb{R S T:Type}{f:S->Rd R S T}{n:Y}{s:S}{t:T}{o:Out R T}(a:whl f (n+1) s=G o)(h:f s= .brk t):o= .brk t:=Qt6 h a
theorem ng{α:Type}[uO α](l:O α)(i:Y)(h:i<l.length:=by omega):l[i]? =G (nth l i):=Hn h
theorem nm{α:Type}(t:α):∃z,t=z:=⟨_,rfl⟩
theorem wf0{s s':St}(h:s.fit s'=s':=by kernel_rfl):Weak s s':=Qe h
abbrev qa{α:Type}[uO α](q:O α)(i:H):α:=nth q (yQ i)
abbrev eA{α:Type}[GoE α](l:O α)(x:α):O (O PV):=eL l++ [enc x]
theorem Wu{α:Type}[GoE α](l:O α)(x:α):eA l x=eL (l++ [x]):=(TX l [x]).symm
theorem wsf{s s':St}(a:O (Y×Y))(h:(s.swaps a).fit s'=s':=by kernel_rfl):Weak s s':=Qlb a h
theorem wgf{s s':St}(a:O (uD×Y×Y×uD×Y×Y))(b c:O Y)(d:O (Y×Y))(h:((((s.opens a).map (Ht (Yz b) uB)).demotes c).swaps d).fit s'=s':=by kernel_rfl):Weak s s':=Qua a b c d h
theorem pw{A:Y->O AV->AV->Prop}{T:TakeT}{a:O (Y×Orc)}{b:O Ob}(i k:Y)(r:PL A T a b)(h:k<9223372036854775807:=by omega):PL A T ((i,.val (.i ((k+1:Y):H)))::a) (.eq (.i (uX uY ((k:H)+1))) (.i ((k+1:Y):H))::b):=pe i (Nn (ER k h)) r
theorem xw{α:Type}{s:St}{t:α->St}{b:α->Prop}(w:α)(a:b w)(h:s.fit (t w)=t w:=by kernel_rfl):∃x,Weak s (t x)/\b x:=⟨w,Qe h,a⟩
end
section
section
variable {α R S T:Type} {f g:Y->α->S->Rd R S T} {e e':Y->S->T}
theorem YU(b:∀k s,e k s=e' k s):∀(l:O α) (k:Y) (s:S),(∀i a s,l[i]? =G a->f (k+i) a s=g (k+i) a s)->X5 f e l k s=X5 g e' l k s
 | [],k,s,_=>by simp only[X5,b]
 | a ::l,k,s,h=>by
   have c:=h 0 a s rfl;simp only[X5];rw[Nat.add_zero] at c;rw[c];cases g k a s with
   | next s'=>
     refine YU b l (k+1) s' λi a s d=>?_
     have:=h (i+1) a s (by simpa using d)
     rwa [show k+(i+1)=k+1+i by omega] at this
   | brk t=>rfl
   | ret r=>rfl
theorem Mw(b:∀k a s,f k a s=g k a s)(c:∀k s,e k s=e' k s)(l:O α)(k:Y)(s:S):X5 f e l k s=X5 g e' l k s:=YU c l k s λ_ _ _ _=>b _ _ _
end
section
variable {R S T:Type} {f g:Y->S->Rd R S T} {e e':Y->S->T}
theorem NH(a:∀k s,e k s=e' k s):∀(n k:Y) (s:S),(∀i s,k<=i->i<k+n->f i s=g i s)->Vj f e n k s=Vj g e' n k s
 | 0,k,s,_=>by simp only[Vj,a]
 | n+1,k,s,h=>by
   simp only[Vj];rw[h k s (zT _) (by omega)];cases g k s with
   | next s'=>exact NH a n (k+1) s' λi s b c=>h i s (by omega) (by omega)
   | brk t=>rfl
   | ret r=>rfl
end
section
variable {α R T:Type} {f:Y->α->uL->Rd R uL T} {e:Y->uL->T}
theorem Ra(hb :∀k a t,f k a ()≠ .brk t):∀{l:O α} {k:Y} {t:T},X5 f e l k ()= .brk t->∀(i:Y) (a:α),l[i]? =G a->f (k+i) a ()= .next ()
 | [],_,_,_,i,a,hi=>by simp at hi
 | x :: l, k, t,h,i,a,hi=>by
   simp only[X5] at h;cases b:f k x () with
   | next s'=>
     rw[b] at h;cases i with
     | zero => obtain rfl:x=a:=by simpa using hi
               exact b
     | succ i=>
       have:=Ra hb (k:=k+1) h i a (by simpa using hi)
       rwa [show k+1+i=k+(i+1) by omega] at this
   | brk c=>exact(hb k x c b).elim
   | ret r=>rw[b] at h;cases h
theorem JU:∀(l:O α) (k:Y),(∀i a,l[i]? =G a->f (k+i) a ()= .next ())->X5 f e l k ()= .brk (e (k+l.length) ())
 | [],k,_=>by simp[X5]
 | x ::l,k,h=>by
   have b:=h 0 x rfl;rw[Nat.add_zero] at b;simp only[X5,b]
   rw[JU l (k+1) λi a c=>by
    have:=h (i+1) a (by simpa using c)
    rwa [show k+(i+1)=k+1+i by omega] at this]
   rw[List.length_cons,show k+1+l.length=k+(l.length+1) by omega]
end
theorem Eb{α β R T:Type}{f:Y->α->O β->Rd R (O β) T}{e:Y->O β->T}{p:α->uD}{g:α->β}(b:∀k a s,f k a s=(bif p a then .next (s++ [g a]) else .next s)):∀(l:O α) (k:Y) (s:O β),X5 f e l k s= .brk (e (k+l.length) (s++(l.filter p).map g))
 | [],k,s=>by simp[X5]
 | a::l,k,s=>by
   simp only[X5,b];cases c:p a with
   | true=>simp only[uQ];rw[Eb b l (k+1),show k+1+l.length=k+(l.length+1) by omega];simp[c]
   | false=>simp only[uS];rw[Eb b l (k+1),show k+1+l.length=k+(l.length+1) by omega];simp[c]
theorem Ww{α β R T:Type}{f:Y->α->O β->Rd R (O β) T}{e:Y->O β->T}{g:α->β}(b:∀k a s,f k a s= .next (s++ [g a])):∀(l:O α) (k:Y) (s:O β),X5 f e l k s= .brk (e (k+l.length) (s++l.map g))
 | [],k,s=>by simp[X5]
 | a::l,k,s=>by
   simp only[X5,b];rw[Ww b l (k+1),show k+1+l.length=k+(l.length+1) by omega];simp
theorem Qld{R S T:Type}{f:S->Rd R S T}(m:S->H)(N:H)(h:∀s s',0<=m s->f s= .next s'->m s<N/\m s'=m s+1):∀(n:Y) (s:S),0<=m s->N<=m s+n->(whl f (n+1) s).isSome=E
 | n, s,h0,hn=>by
   simp only[whl];cases a:f s with
   | brk t=>rfl
   | ret r=>rfl
   | next s'=>
     obtain⟨b,c⟩:=h s s' h0 a;cases n with
     | zero=>omega
     | succ n=>exact Qld m N h n s' (by omega) (by omega)
end
section
open Go.RowKit
def Qwh(cs:O C)(args:O AV):St:=⟨MQ 0 (.one (.ptr bxK 0)::args), [(bxK,cs)]⟩
def Qwi(b:O Y)(cs:O C)(s:St):Prop:=∃a,get (s.map (Ht (Yz b) uB)).bx bxK=G a/\(Cp Qoq a&&C3 (Qy a))=E/\Qdg 40 a=cs
def Qwj(tt:O (Y×TI))(b:O ResultVar)(r:AV)(cs:O C)(e:Exit)(s:St):Prop:=
 (e= .ret\/e= .normal)/\∃a,Tf tt b (s.map (Ht (Yz a) uB))=G r/\Qwi a cs s
def Qle(a:O Y)(s:St):uG (O C):=match get (s.map (Ht (Yz a) uB)).bx bxK with
 | some b=>bif Cp Qoq b&&C3 (Qy b) then G (Qdg 40 b) else uB
 | none=>uB
theorem Qlf{a:O Y}{cs:O C}{s:St}(h:Qle a s=G cs):Qwi a cs s:=by
 unfold Qle at h;split at h
 . rename_i b d;cases c:(Cp Qoq b&&C3 (Qy b)) with
   | true=>rw[c] at h;exact⟨b,d,c,zD h⟩
   | false=>rw[c] at h;cases h
 cases h
theorem Qf5{tt:O (Y×TI)}{c:O ResultVar}{r b:AV}{cs cs0:O C}{s:St}(a:O Y)(e:b=r)(d:cs0=cs)(h:Tf tt c (s.map (Ht (Yz a) uB))=G b:=by kernel_rfl)(f:Qle a s=G cs0:=by kernel_rfl):Qwj tt c r cs .ret s:=⟨.inl rfl,a,e▸h,d▸Qlf f⟩
section
variable {P:uJ} {N:Y} {w0:Base} {F0:Y->Prop} {J:Inj} {a:Act} {w:uC} {s:St}
theorem Qah{w':uC}{tt:O (Y×TI)}(a1:S6 P tt=E){fn:Func}{r:AV}(e:Rel N w0 F0 J a w' s)(h:Tf tt fn.results.toList s=G r):∃v m,(results fn a.tmps).run P w'= .ok v w'/\(∀k,(m k).Nodup)/\(∀k x,x∈m k->∃k0,x∈J.L k0)/\(∀k z x,x∈m k->x∈m z->k=z)/\AR ⟨J.F,m,λ_=>0⟩ w' v r:=by
 unfold Tf at h;split at h
 . rename_i vs a2;split at h
   . rename_i x hx;cases hc:(Cp Qtt x.cells&&C3 (Qy x.cells)) with
     | false=>rw[hc] at h;cases h
     | true =>
       rw[hc] at h;obtain rfl:=zD h;simp only[zG] at hc;obtain⟨a3,g⟩:=hc;have g:=Fh.1 g;obtain⟨us,o,p⟩:=VE (P:=P) a1 e a2
       have q:∃v,(results fn a.tmps).run P w'= .ok v w'/\AR J w' v x:=by
        have w:(fn.results.mapM (EP a.tmps)).run P w'= .ok us.toArray w':=by
         rw[xC];simp[o]
        have f:(results fn a.tmps).run P w'= .ok (if h:us.toArray.size=1 then us.toArray[0] else .tuple us.toArray) w':=by
         rw[HG];simp only[Sem.run_bind,w,Result.andThen_ok,Sem.run_pure]
        cases p with
        | nil=>
          obtain rfl:AV.tup []=x:=by simpa [MR,JN] using hx
          exact⟨.tuple #[],by rw[f];simp, [],rfl,.nil⟩
        | cons h1 h2=>
          cases h2 with
          | nil=>
            obtain rfl:=zD hx;exact⟨_,by rw[f];simp,h1⟩
          | cons h2 h3=>
            obtain⟨ps,a4,rfl⟩:=zJ.1 hx;exact⟨_,by rw[f];simp,_,rfl,PI a4 (.cons h1 (.cons h2 h3))⟩
       obtain⟨v,hv,a5⟩:=q;refine⟨v,Qdp J (Qy x.cells),hv,λi=>?_,λi b hb=>?_,λi i' b hb a6=>?_, ?_⟩
       . unfold Qdp;split
         . exact e.nd _
         simp
       . obtain⟨k,_,w⟩:=Tg hb;exact⟨k,w⟩
       . obtain⟨k,hk,w⟩:=Tg hb;obtain⟨z,a7,a8⟩:=Tg a6;have:=e.dj k z b w a8;subst this;obtain⟨l1,e1⟩:=zF.1 hk;obtain⟨l2,e2⟩:=zF.1 a7;rcases xD i i' with hlt | he | hlt
         . exact absurd (e1.trans e2.symm) (yB.1 g i i' l1 l2 hlt)
         . exact he
         exact absurd (e2.trans e1.symm) (yB.1 g i' i l2 l1 hlt)
       refine AR.map _ a5 λu c j d=>?_
       have y:=B8 a3 c j;cases c with
       | int | bool | str | raw=>exact d
       | slc t n l=>
         cases t with
         | emp=>exact d
         | sh=>exact VV.keep (λb hb=>⟨hb,rfl⟩) d
         | vw k=>cases y
         | put=>exact d.elim
         | own b k=>
           cases b with
           | false=>
             show OwnTop J.F (Qdp J (Qy x.cells) (Qr5 k (Qy x.cells))) w' u _ _;unfold Qdp;rw[VF (Tc j rfl)];exact d
           | true=>
             show OwnDeep (Qdp J (Qy x.cells) (Qr5 k (Qy x.cells))) w' u _ _;unfold Qdp;rw[VF (Tc j rfl)];exact d
       | _=>cases y
   cases h
 cases h
theorem PP{tt:O (Y×TI)}(a5:S6 P tt=E){f:Y}{fn:Func}{c:uI}(hf:P.funcs[f]? =G fn)(hb:fn.body=G c)(a6:Iy P f){cs cs':O C}{args:O AV}{r:AV}(hn:args.length+1<=fn.ntmps)(hN:fn.ntmps<=bxK)(hr:Cp LB r.cells=E)(a7:Cp LB (Z4 args)=E)
 (h:∀w0 F0,GoodAt P w0->AWP P fn.ntmps w0 F0 c (Qwj tt fn.results.toList r cs') (Qwh cs args)):AGive P f cs args r cs':=by
 refine⟨a6,λw F L b l hG n a2 p=>calls_of_wp hf hb ?_⟩;have ag:=p.length;obtain⟨a8,e,q,y⟩:=a2;have ah:=Xy q;refine wp_mono (h ⟨w,λx=>x=b\/∃j,x∈L j,G b⟩ F hG (Qo8 F L b) _ w ?_) ?_
 . refine { below:=Base.Keeps.refl _,nodef:=rfl,size:= ?_,fl:=λx a=>⟨n.fl x a,.inl a⟩,f0:=λx a=>a,nd:=n.nd,lo:=λk x a=>⟨.inr (.inr ⟨k,a⟩),n.lt k x a⟩,dj:=n.dj,
            bo:=λk c o=>?_,nb:= .inr hN,cb:=λx a=>(zD a),bi:=λk k' c c' o s _=>?_,tm:=λt v' hv=>?_}
   . simp;omega
   . have o:get [(bxK,cs)] k=G c:=o;simp only[get] at o;split at o
     . obtain rfl:=zD o;exact⟨.inr (.inl rfl),n.bF,n.bL,a8,e,q,y⟩
     cases o
   . have o:get [(bxK,cs)] k=G c:=o;have s:get [(bxK,cs)] k'=G c':=s;simp only[get] at o s;split at o
     . split at s
       . rename_i e1 e2;exact e1.symm.trans e2
       cases s
     cases o
   obtain⟨_,ht⟩:=XJ hv;have a3:All2 (AR (Qo8 F L b) w) (.pointer (G ⟨b,0,uB⟩)::l) (.one (.ptr bxK 0)::args):= .cons rfl ?_
   . obtain ⟨u,hu,hr⟩:=a3.get' ht;have a9:t<(Value.pointer (G ⟨b,0,uB⟩)::l).length:=(zF.1 hu).1
     have:((Value.pointer (G ⟨b,0,uB⟩)::l).toArray++xI (fn.ntmps-(Value.pointer (G ⟨b,0,uB⟩)::l).toArray.size) undef).getD t undef=u:=by
      rw[zM,yG (by simpa using a9)];simp at hu⊢;rw[hu];rfl
     rw[this];exact hr
   exact Qdh p a7
 rintro e' a' w' ⟨J',s',i,he,aa,hg,cx,ab,a1,rfl⟩
 simp only[zG] at a1;obtain⟨d,i⟩:=Dd aa rfl _ _ _ _ _ _ i;obtain⟨v,_,h1,_,_,_,h5⟩:=Qah (P:=P) a5 (fn:=fn) i hg;have hB:d.B bxK=b:=i.cb b rfl;obtain⟨_,b2,b3,a4,e2,b4,b5⟩:=i.bo bxK cx ab;rw[hB] at b2 b3 b4
 have m:∀k x,x∈BC d 40 cx k->x<w'.heap.size/\(w.heap.size<=x\/∃j,x∈L j)/\x≠b/\¬d.F x:=λk x a=>by
  obtain⟨k0,_,hm⟩:=CX a;obtain⟨g1,g2,g3⟩:=i.lo k0 x hm;have z:x≠b:=λe=>b3 k0 (e▸hm)
  exact⟨g2,g1.imp id λg=>g.resolve_left z,z,g3⟩
 have ad:∀x,d.F x->(Qj3 F L w w' (BC d 40 cx)).F x:=λx a=>by
  obtain⟨g1,g2⟩:=i.fl x a;rcases g2 with g2 | g2 | g2
  . exact .inl g2
  . exact .inr ⟨.inl g2,g1,λk hm=>(m k x hm).2.2.2 a⟩
  have z:x≠b:=λe=>b2 (e▸a)
  exact .inr ⟨.inr (g2.resolve_left z),g1,λk hm=>(m k x hm).2.2.2 a⟩
 have hT:Qx1 F L b w r (Qdg 40 cx) (.returned v) w':=by
  refine⟨v,BC d 40 cx,rfl,i.below.os,i.below.tape,i.below.output,i.below.size,λk hk ae af=>i.below.block k hk λa=>a.elim ae λ⟨j,hj⟩=>af j hj,Qdi i cx 40,λk x a=>⟨(m k x a).1,(m k x a).2.1⟩,λk k' x h1 h2=>Qdj i (Fh.1 a1.2) h1 h2,Qka h5 hr,a4,e2,b4, ?_⟩;have:=PE (b:=0) (F:=(Qj3 F L w w' (BC d 40 cx)).F) ad (L:=BC d 40 cx) b5 a1.1 λ_ _=>rfl
  exact this
 rcases he with rfl | rfl
 . exact⟨i.nodef,v,h1,hT⟩
 exact⟨i.nodef,v,h1,hT⟩
theorem Qub{J J':Inj}{w:uC}{v:uF}{x:AV}(h:AR J w v x)(b:Cp Qv7 x.cells=E)(e:J'.L=J.L):AR J' w v x:=by
 have :=AR.map (J':=J') (w':=w) id h λu c f a=>by
  have hb:=B8 b c f;cases c with
  | int | bool | str=>exact a
  | slc t n l=>
    cases t with
    | own d k=>
      cases d with
      | true=>show OwnDeep (J'.L k) w u n l;rw[e];exact a
      | false=>cases hb
    | _=>cases hb
  | _=>cases hb
 rwa [show x.map id=x by cases x<;>simp[AV.map]] at this
theorem Qlg{tt:O (Y×TI)}(o:S6 P tt=E){f:Y}{fn:Func}{c:uI}(hf:P.funcs[f]? =G fn)(p:fn.body=G c)(q:Iy P f){args:O AV}{r:AV}(hn:args.length<=fn.ntmps)(s:Cp Qv7 r.cells=E)
 (h:∀w0 F0,GoodAt P w0->AWP P fn.ntmps w0 F0 c (Qjq tt fn.results.toList r) (HF args)):AVal P f args r:=by
 refine⟨q,λw F L a hG n d=>calls_of_wp hf p ?_⟩;have a2:=d.length;refine wp_mono (h ⟨w,λx=>∃j,x∈L j,uB⟩ F hG (Qxq F L) _ w ?_) ?_
 . refine { below:=Base.Keeps.refl _,nodef:=rfl,size:= ?_,fl:=λx g=>⟨n.fl x g,.inl g⟩,f0:=λx g=>g,nd:=n.nd,lo:=λk x g=>⟨.inr ⟨k,g⟩,n.lt k x g⟩,dj:=n.dj,
            bo:=λk c y=>by simp[HF,get] at y,nb:= .inl rfl,cb:=(λb p=>by cases p),bi:=λk k' c c' y=>by simp[HF,get] at y,tm:=λt v' hv=>?_}
   . simp;omega
   obtain⟨_,ht⟩:=XJ hv;obtain⟨u,z,s⟩:=d.get' ht;have a1:t<a.length:=(zF.1 z).1
   have:(a.toArray++xI (fn.ntmps-a.toArray.size) undef).getD t undef=u:=by
    rw[zM,yG (by simpa using a1)];simp at z⊢;rw[z];rfl
   rw[this];exact s
 rintro e' a' w' ⟨J',s',e,hP⟩
 have key:(∃i,Tf tt fn.results.toList (s'.map (Ht (Yz i) uB))=G r)->∃v,(results fn a'.tmps).run P w'= .ok v w'/\Qx2 L w r (.returned v) w':=by
  rintro⟨i,hg⟩
  obtain⟨a3,e⟩:=Dd i rfl _ _ _ _ _ _ e;obtain⟨v,L',l,m,h3,h4,h5⟩:=Qah (P:=P) o (fn:=fn) e hg;refine⟨v,l,v,L',rfl,e.below.os,e.below.tape,e.below.output,e.below.size,λk hk hn=>e.below.block k hk λ⟨j,hj⟩=>hn j hj,m,λk x g=>?_,h4,Qub h5 s rfl⟩;obtain⟨k0,hm⟩:=h3 k x g;obtain⟨g1,g2,_⟩:=e.lo k0 x hm;exact⟨g2,g1⟩
 cases e' with
 | normal=>obtain⟨v,l,m⟩:=key hP;exact⟨e.nodef,v,l,m⟩
 | ret=>obtain⟨v,l,m⟩:=key hP;exact⟨e.nodef,v,l,m⟩
 | _=>exact hP.elim
end
theorem gb{P:uJ}{f:Y}{cs:O C}{args:O AV}{a b:uD}{cs2:O C}(h:a=b)(c:AGive P f cs args (.one (.bool a)) cs2):AGive P f cs args (.one (.bool b)) cs2:=h▸c
end
section
open Go.RowKit
open GoD (rd own)
structure Chg (L:O Y) (w w':uC):Prop where
 os:w'.os=w.os
 tape:w'.tape=w.tape
 output:w'.output=w.output
 size:w.heap.size<=w'.heap.size
 block:∀b,b<w.heap.size->b∉L->w'.heap[b]? =w.heap[b]?
theorem Chg.refl(L:O Y)(w:uC):Chg L w w:=⟨rfl,rfl,rfl,Nat.le_refl _,λ_ _ _=>rfl⟩
theorem Chg.trans{L:O Y}{a b c:uC}(h:Chg L a b)(k:Chg L b c):Chg L a c:=
 ⟨k.os.trans h.os,k.tape.trans h.tape,k.output.trans h.output,zX h.size k.size,λi d e=>(k.block i (yP d h.size) e).trans (h.block i d e)⟩
theorem Chg.mono{L M:O Y}{w w':uC}(h:Chg L w w')(a:∀b,b∈L->b∈M):Chg M w w':=
 ⟨h.os,h.tape,h.output,h.size,λb hb c=>h.block b hb (λd=>c (a b d))⟩
theorem Chg.of_below{L:O Y}{w w':uC}(h:Below w.heap.size w w'):Chg L w w':=⟨h.os,h.tape,h.output,h.size,λb hb _=>h.block b hb⟩
theorem Chg.below{L:O Y}{B:Y}{w w':uC}(h:Chg L w w')(d:B<=w.heap.size)(a:∀b,b∈L->B<=b):Below B w w':=
 ⟨h.os,h.tape,h.output,h.size,λk e=>h.block k (by omega) (λc=>by have:=a k c;omega)⟩
theorem Chg.cell{L:O Y}{w w':uC}(h:Chg L w w'){b:Y}(a:b<w.heap.size)(c:b∉L)(o:Y):w'.cell? ⟨b,o,uB⟩=w.cell? ⟨b,o,uB⟩:=
 World.cell?_of_block (h.block b a c)
theorem Chg.frozen{L:O Y}{w w':uC}(h:Chg L w w'){b:Y}(a:b<w.heap.size)(c:b∉L)(o:Y):w'.frozen? ⟨b,o,uB⟩=w.frozen? ⟨b,o,uB⟩:=
 World.frozen?_of_block (h.block b a c)
section
variable {α β:Type} [GoD α] [GoD β]
theorem NI{B:Y}{a W w':uC}(b:Below B a W)(c:Below W.heap.size W w')(d:B<=W.heap.size):Below B a w':=b.trans (c.mono d)
structure Upd (g lo m:Y) (Li:O Y) (w w':uC):Prop where
 chg:Chg (g::Li) w w'
 row:∀cur e,w.heap[g]? =G (.cells cur e (0,0))->∃cur',w'.heap[g]? =G (.cells cur' e (0,0))/\cur'.size=cur.size/\∀j,(j<lo\/lo+m<=j)->cur'[j]? =cur[j]?
theorem Upd.refl(g lo m:Y)(a:O Y)(w:uC):Upd g lo m a w w:=⟨Chg.refl _ _,λcur _ h=>⟨cur,h,rfl,λ_ _=>rfl⟩⟩
theorem Upd.setCell{g lo m:Y}{a:O Y}{w w':uC}(h:Upd g lo m a w w')(o:Y)(p:lo<=o/\o<lo+m)(v:uF):Upd g lo m a w (w'.setCell ⟨g,o,uB⟩ v):=by
 refine⟨h.chg.trans ⟨rfl,rfl,rfl,by simp,λb _ d=>XA w' g o v (λe=>d (by simp[e]))⟩,λcur e f=>?_⟩;obtain⟨c,i,k,l⟩:=h.row cur e f;refine⟨_,QZ w' g o v i,by simpa using k,λj n=>?_⟩;rw[Array.getElem?_setIfInBounds,uH (by omega)];exact l j n
theorem Upd.mark{g lo m:Y}{d M:O Y}{w w' w'':uC}(h:Upd g lo m d w w')(i:Chg M w' w'')(j:∀b,b∈M->b∈d)(k:g∉M)(f:g<w'.heap.size):Upd g lo m d w w'':=by
 refine⟨h.chg.trans (i.mono λb hb=>zS _ (j b hb)),λcur e a=>?_⟩;obtain⟨c,l,n,o⟩:=h.row cur e a;exact⟨c,(i.block g f k).trans l,n,o⟩
theorem Upd.below{g lo m:Y}{b:O Y}{w w' w'':uC}(h:Upd g lo m b w w')(c:Below w'.heap.size w' w'')(a:g<w'.heap.size):Upd g lo m b w w'':=
 h.mark (M:= []) (Chg.of_below c) (by simp) (by simp) a
theorem Qlh{w:uC}{b:uG Addr}{l:O α}{n a:Y}(h:rd w [.slice b n a] l):l.length<=9223372036854775807:=by
 obtain⟨_,a,_,d,c,_⟩:=h;unfold uT at c;omega
theorem VM(l:O α):∀k,(JG l k).1.length=l.length:=by
 induction l with
 | nil=>intro k;rfl
 | cons x l a=>intro k;simp[JG,a]
end
section
variable {α:Type} [GoD α]
end
end
section
open Go.RowKit
open GoD (rd own)
abbrev Wx:=H×H×uE
abbrev Zt:=uE×H
abbrev Hk:=uE×Wx
abbrev Xt:=H×H×uD×H×(O Hk)
abbrev X2:=(O Zt)×(O Xt)×H
abbrev Q0:=H×H×H×uE×Wx
abbrev Yj:=uE×(O Q0)
abbrev Qi:=uE×(O H)
abbrev G3:=uE×(O H)×(O H)
abbrev Xu:=X2×(O Yj)×(O Qi)
abbrev Vk:=H×Xt×H×Yj
abbrev Qw:=X2×(O Yj)
abbrev P3:=uE×uE
abbrev Gm:=H×Qw×H
abbrev T8:=H×(O H)×(O H)
abbrev T9:=H×uE×(O H)×(O T8)
abbrev Ul:=Xu×P3×H×(O Gm)×(O T9)×(O H)
theorem Sn{α:Type}{l:O α}(h:l.length=1):∃a,l= [a]:=by
 match l,h with
 | [a],_=>exact⟨a,rfl⟩
theorem LD{α:Type}{l:O α}(h:l.length=2):∃a b,l= [a,b]:=by
 match l,h with
 | [a,b],_=>exact⟨a,b,rfl⟩
theorem Qwk{α:Type}{l:O α}(h:l.length=3):∃a b c,l= [a,b,c]:=by
 match l,h with
 | [a,b,c],_=>exact⟨a,b,c,rfl⟩
theorem Qya{α:Type}{l:O α}(h:l.length=4):∃a b c d,l= [a,b,c,d]:=by
 match l,h with
 | [a,b,c,d],_=>exact⟨a,b,c,d,rfl⟩
theorem Qyb{α:Type}{l:O α}(h:l.length=5):∃a b c d e,l= [a,b,c,d,e]:=by
 match l,h with
 | [a,b,c,d,e],_=>exact⟨a,b,c,d,e,rfl⟩
theorem Qy3{α:Type}{l:O α}(h:l.length=6):∃a b c d e f,l= [a,b,c,d,e,f]:=by
 match l,h with
 | [a,b,c,d,e,f],_=>exact⟨a,b,c,d,e,f,rfl⟩
theorem Qy4{α:Type}{l:O α}(h:l.length=7):∃a b c d e f g,l= [a,b,c,d,e,f,g]:=by
 match l,h with
 | [a,b,c,d,e,f,g],_=>exact⟨a,b,c,d,e,f,g,rfl⟩
theorem Qy5{α:Type}{l:O α}(h:l.length=9):∃a b c d e f g i j,l= [a,b,c,d,e,f,g,i,j]:=by
 match l,h with
 | [a,b,c,d,e,f,g,i,j],_=>exact⟨a,b,c,d,e,f,g,i,j,rfl⟩
theorem Qai{w:uC}{cs:O uF}{a:Ul}(h:rd w cs a):∃(b:uG Addr) (c:Y) (d:uG Addr) (e:Y) (f:uG Addr) (g:Y) (i:uG Addr) (j:Y) (k:uG Addr) (l:Y) (m:uG Addr) (n:Y) (o:uG Addr) (p:Y),cs= [.slice b a.1.1.1.length c,.slice d a.1.1.2.1.length e,.int .i64 a.1.1.2.2,.slice f a.1.2.1.length g,.slice i a.1.2.2.length j,.string a.2.1.1,.string a.2.1.2,.int .i64 a.2.2.1,.slice k a.2.2.2.1.length l,.slice m a.2.2.2.2.1.length n,.slice o a.2.2.2.2.2.length p]:=by
 obtain⟨_,_,rfl,⟨_,_,rfl,⟨_,_,rfl,⟨b,c,rfl,_⟩,⟨_,_,rfl,⟨d,e,rfl,_⟩,⟨rfl,_⟩⟩⟩,⟨_,_,rfl,⟨f,g,rfl,_⟩,⟨i,j,rfl,_⟩⟩⟩,⟨_,_,rfl,⟨_,_,rfl,⟨rfl,_⟩,⟨rfl,_⟩⟩,⟨_,_,rfl,⟨rfl,_⟩,⟨_,_,rfl,⟨k,l,rfl,_⟩,⟨_,_,rfl,⟨m,n,rfl,_⟩,⟨o,p,rfl,_⟩⟩⟩⟩⟩⟩:=h;exact⟨b,c,d,e,f,g,i,j,k,l,m,n,o,p,rfl⟩
def eqb{α:Type}[GoD α](a b:α):uD:= @decide (a=b) (GoD.deq a b)
theorem Quc(a b:uE):(a.toList==b.toList)=eqb a b:=by
 unfold eqb;rw[ByteArray.toList_eq,ByteArray.toList_eq,Bool.eq_iff_iff];simp only[beq_iff_eq,decide_eq_true_eq];constructor
 . intro h;cases a;cases b;simp_all [Array.toList_inj]
 intro h;rw[h]
end
section
open Go.RowKit
open GoD (rd own)
theorem Qud{P:uJ}(w:uC)(base:Y)(t ty e:uK)(i:TypeInfo)(z:uF)(ht:P.underlying t=G (.slice e))(hi:P.info? e=G i)(hz:i.zero=G z)
 (a1:z.cells.size=i.size) (a3:0<i.size) (hb:i.bytes<=1000) {v:uF} {n:Y} {xs:O uF} (b:w.ownsRow base e i.size v n xs)
 (a:Addr) (m c:Y) (d:O uF) (q:d.length=m*i.size) (f:∀j u,d[j]? =G u->w.cell? (a.add j)=G u) (h1:∀u∈d,u.oneCell'=E)
 (a5:n+m<=1073741824) (o:base<=w.heap.size):
 ∃ v' w',(Builtin.append_ #[t,t] ty #[v,.slice (G a) m c]).run P w= .ok v' w'/\w'.ownsRow base e i.size v' (n+m) (xs++d)/\w.grownBy w' v.ownBlock/\
   (∀g,v'.ownBlock=G g->v.ownBlock=G g\/w.heap.size<=g)/\(∀x k c,v= .slice (G x) k c->c<n+m->(∀g,v'.ownBlock=G g->w.heap.size<=g)/\w.grownBy w' uB):=by
 have l:((n+m)+(n+m) / 4+192)*i.bytes<=281474976710656:=zX (Nat.mul_le_mul (show _<=1342177472 by omega) hb) (by decide);have r:n+m<=uT:=by unfold uT;omega
 rcases b.2 with⟨rfl,rfl⟩ | ⟨g,cap,cur,rfl,a6,hg,a7,a8,a9,a4⟩
 . have h0:w.ownsRow w.heap.size e i.size (.slice uB 0 0) 0 xs:=⟨b.1,.inl ⟨rfl,rfl⟩⟩;obtain⟨v',w',hr,hw,s,_⟩:=run_append_own_wide w w.heap.size t ty e i z i.size i.bytes ht hi hz rfl rfl a1 a3 _ 0 xs h0 a m c d q f h1 r l (zT _);refine⟨v',w',hr,⟨hw.1, ?_⟩,s,λg hg=> .inr (World.ownsRow.lt hw g hg).1,λx k c h=>(by cases h)⟩;rcases hw.2 with h | ⟨g,cap,cur,h1,h2,h3⟩
   . exact .inl h
   exact .inr ⟨g,cap,cur,h1,zX o h2,h3⟩
 by_cases y:n+m<=cap
 . obtain⟨w',hr,hw,s⟩:=run_append_own_spare w base t ty e i i.size ht hi rfl g n cap xs b a m c d q f h1 y;exact⟨_,w',hr,hw,s,λk p=> .inl p,λx k c h aa=>(by cases h;omega)⟩
 have a2:cap<n+m:=by omega
 have hr:=run_append_grow (P:=P) w t ty e i z ht hi hz ⟨g,0,uB⟩ n cap xs b.1 (b.cells (g:=g) rfl) a m c d q f a2 (by unfold uT at r;omega) (growslice_fits_wide a2 l)
 refine⟨_,_,hr,⟨by rw[yO,b.1,q,zW],.inr ⟨w.heap.size,_,_,rfl,o,heap_alloc_new w.drew _,grownCap_ge w (n+m) cap e,grownCap_le_maxLen w (n+m) cap e r, ?_, ?_⟩⟩,
  ⟨rfl,rfl,rfl,by simp,λk p _=>heap_alloc_old w.drew _ p⟩,λk p=> .inr ?_,λx k c _ _=>⟨λg' p=>?_,rfl,rfl,rfl,by simp,λk p _=>heap_alloc_old w.drew _ p⟩⟩
 . have ab:=grownCap_ge w (n+m) cap e;simp only[Array.size_append,List.size_toArray,size_zeroCells,a1,b.1,q,←zW]
   congr 1
   omega
 . simp only[Array.toList_append,List.append_assoc];rw[←List.append_assoc,yV (by simp[b.1,q,zW]),List.take_of_length_le (by simp[b.1,q,zW])]
 . simp only[Value.ownBlock,yR] at p;omega
 simp only[Value.ownBlock,yR] at p;omega
section
variable {α:Type} [GoD α]
def App(e:uK)(d w:uC)(L:O Y)(v:uF)(l:O α):Prop:=
 ∃(f:O uF) (c:O (O Y)),w.ownsRow d.heap.size e (GoD.n α) v l.length f/\L=v.ownBlock.toList++c.flatten/\L.Nodup/\(∀b,b∈L->d.heap.size<=b/\b<w.heap.size)/\c.length=l.length/\
   ∀i g a,c[i]? =G g->l[i]? =G a->own g w ((f.drop (i*GoD.n α)).take (GoD.n α)) a
def AppR(e:uK)(b w:uC)(v:uF)(l:O α):Prop:=
 ∃(c:O uF),w.ownsRow b.heap.size e (GoD.n α) v l.length c/\∀i a,l[i]? =G a->rd b ((c.drop (i*GoD.n α)).take (GoD.n α)) a
theorem BE{w w':uC}{base:Y}{e:uK}{a n:Y}{v:uF}{xs:O uF}(h:w.ownsRow base e a v n xs)(c:∀b,v.ownBlock=G b->w'.heap[b]? =w.heap[b]?):w'.ownsRow base e a v n xs:=by
 refine⟨h.1, ?_⟩;rcases h.2 with h | ⟨g,cap,cur,rfl,d,f,i⟩
 . exact .inl h
 exact .inr ⟨g,cap,cur,rfl,d,(c g rfl).trans f,i⟩
theorem App.keep{e:uK}{f w w':uC}{L:O Y}{v:uF}{l:O α}(h:App e f w L v l)(d:Below w.heap.size w w'):App e f w' L v l:=by
 obtain⟨k,m,g,n,o,j,p,q⟩:=h;exact⟨k,m,BE g (λb c=>d.block b (World.ownsRow.lt g b c).2),n,o,λb c=>⟨(j b c).1,yP (j b c).2 d.size⟩,p,λi r a x y=>Qjr (q i r a x y) d⟩
theorem AppR.keep{e:uK}{a w w':uC}{v:uF}{l:O α}(h:AppR e a w v l)(d:Below w.heap.size w w'):AppR e a w' v l:=by
 obtain⟨f,c,g⟩:=h;exact⟨f,BE c (λb i=>d.block b (World.ownsRow.lt c b i).2),g⟩
theorem App.start{e:uK}{d w:uC}{v:uF}{c:Y}{a:uN uF}{g:Y}(i:v= .slice (G ⟨g,0,uB⟩) 0 c)(f:w.heap[g]? =G (.cells a e (0,0)))(j:a.size=c*GoD.n α)(k:c<=uT)(h:d.heap.size<=g):App e d w [g] v ([]:O α):=by
 subst i;exact⟨[], [],⟨by simp,.inr ⟨g,c,a,rfl,h,f,yJ _,k,j,by simp⟩⟩,rfl,by simp,λb hb=>by rw[zR.1 hb];exact⟨h,Xy f⟩,rfl,by simp⟩
theorem AppR.start{e:uK}{b w:uC}{v:uF}{c:Y}{a:uN uF}{g:Y}(d:v= .slice (G ⟨g,0,uB⟩) 0 c)(f:w.heap[g]? =G (.cells a e (0,0)))(h:a.size=c*GoD.n α)(i:c<=uT)(j:b.heap.size<=g):AppR e b w v ([]:O α):=by
 subst d;exact⟨[],⟨by simp,.inr ⟨g,c,a,rfl,j,f,yJ _,i,h,by simp⟩⟩,by simp⟩
theorem App.fresh{e:uK}{b a:uC}{g:Y}(c:g=a.heap.size)(d:b.heap.size<=g):App e b (a.alloc (.cells #[] e)) [g] (.slice (G ⟨g,0,uB⟩) 0 0) ([]:O α):=by
 subst c;exact App.start rfl (heap_alloc_new a _) (by simp) (by decide) d
theorem AppR.fresh{e:uK}{b a:uC}{g:Y}(c:g=a.heap.size)(d:b.heap.size<=g):AppR e b (a.alloc (.cells #[] e)) (.slice (G ⟨g,0,uB⟩) 0 0) ([]:O α):=by
 subst c;exact AppR.start rfl (heap_alloc_new a _) (by simp) (by decide) d
theorem App.alloc{e:uK}{a w:uC}{L:O Y}{v:uF}{l:O α}(h:App e a w L v l)(o:Obj):App e a (w.alloc o) L v l:=h.keep ((Below.refl _ _).alloc (Nat.le_refl _) _)
theorem App.drew{e:uK}{a w:uC}{L:O Y}{v:uF}{l:O α}(h:App e a w L v l):App e a w.drew L v l:=h.keep ((Below.refl _ _).drew)
theorem AppR.alloc{e:uK}{a w:uC}{v:uF}{l:O α}(h:AppR e a w v l)(o:Obj):AppR e a (w.alloc o) v l:=h.keep ((Below.refl _ _).alloc (Nat.le_refl _) _)
theorem AppR.drew{e:uK}{a w:uC}{v:uF}{l:O α}(h:AppR e a w v l):AppR e a w.drew v l:=h.keep ((Below.refl _ _).drew)
theorem App.nil{e:uK}(a w:uC):App e a w [] (.slice uB 0 0) ([]:O α):=⟨[], [],⟨by simp,.inl ⟨rfl,rfl⟩⟩,rfl,by simp,by simp,rfl,by simp⟩
theorem AppR.nil{e:uK}(a w:uC):AppR e a w (.slice uB 0 0) ([]:O α):=⟨[],⟨by simp,.inl ⟨rfl,rfl⟩⟩,by simp⟩
theorem App.done{e:uK}{k w:uC}{L:O Y}{v:uF}{l:O α}(h:App e k w L v l):own L w [v] l:=by
 obtain⟨u,f,⟨x,m⟩,rfl,n,y,j,o⟩:=h;refine⟨n, ?_⟩;rcases m with⟨rfl,p⟩ | ⟨g,cap,cur,rfl,_,q,b,c,d,rfl⟩
 . have:l= []:=zN p;subst this;have:f= []:=zN j;subst this;exact .inl ⟨rfl,rfl,uB,rfl⟩
 refine .inr ⟨g,cap,cur,e,f,rfl,q,b,c,d,rfl,j,λi r a s ha=>?_⟩;have h:=o i r a s ha;have t:i<l.length:=(zF.1 ha).1
 rw[xN,xO,xJ (by
  have:=yC (GoD.n α) (show i+1<=l.length by omega);rw[zW,yE] at this;omega)] at h
 exact h
theorem App.ge{e:uK}{a w:uC}{L:O Y}{v:uF}{l:O α}(h:App e a w L v l):∀b,b∈L->a.heap.size<=b:=by
 obtain⟨_,_,_,_,_,c,_⟩:=h;exact λb hb=>(c b hb).1
theorem App.lt{e:uK}{a w:uC}{L:O Y}{v:uF}{l:O α}(h:App e a w L v l):∀b,b∈L->b<w.heap.size:=by
 obtain⟨_,_,_,_,_,c,_⟩:=h;exact λb hb=>(c b hb).2
theorem AppR.done{e:uK}{c w:uC}{v:uF}{l:O α}(h:AppR e c w v l)(n:Below c.heap.size c w):rd w [v] l:=by
 obtain⟨s,⟨t,o⟩,m⟩:=h;rcases o with⟨rfl,p⟩ | ⟨g,cap,cur,rfl,_,q,d,f,r,rfl⟩
 . have:l= []:=zN p;subst this;exact⟨uB,0,rfl,zT _,yJ _,by simp⟩
 refine⟨G ⟨g,0,uB⟩,cap,rfl,d,f,λi a ha=>⟨g,0,_,rfl,GoD.rd_len (m i a ha),λj u b=>?_,J4 (m i a ha) n⟩⟩;have k:=(zF.1 b).1;simp only[List.length_take] at k;rw[I0 (by omega),List.getElem?_take] at b;split at b
 . rw[xU];rw[xL] at b;simp[World.cell?,q,b]
 cases b
theorem AppR.slice{e:uK}{a w:uC}{v:uF}{l:O α}(h:AppR e a w v l):∃oa cap,v= .slice oa l.length cap:=by
 obtain⟨d,⟨_,b⟩,_⟩:=h;rcases b with⟨rfl,c⟩ | ⟨g,cap,cur,rfl,_⟩
 . exact⟨uB,0,by rw[c]⟩
 exact⟨_,_,rfl⟩
theorem App.slice{e:uK}{a w:uC}{L:O Y}{v:uF}{l:O α}(h:App e a w L v l):∃oa cap,v= .slice oa l.length cap:=TA h.done
end
end
section
open Go.RowKit
open GoD (rd own)
theorem Qds{P:uJ}(w:uC)(t b e:uK)(i:TypeInfo)(c:P.underlying t=G (.slice e))(d:P.info? e=G i)(g n a:Y)(f:n<=a):
 (Builtin.append_ #[t,t] b #[.slice (G ⟨g,0,uB⟩) n a,.slice uB 0 0]).run P w= .ok (.slice (G ⟨g,0,uB⟩) n a) w:=by
 simp[Builtin.append_,run_underlying c,sizeOf,typeInfo,d,Builtin.lenOf,Builtin.firstCells,loadCells,loadCellsFrom,f,storeCells]
section
variable {α:Type} [GoD α]
def Plain(α:Type)[GoD α]:Prop:=0<GoD.n α/\∀(w w':uC) (cs:O uF) (a:α),rd w cs a->own [] w' cs a/\∀u∈cs,u.oneCell'=E
theorem I5:Plain H:=⟨yF,λw w' cs a h=>⟨⟨rfl,h.1,h.2⟩,by rw[h.1];simp[Value.oneCell']⟩⟩
theorem So:Plain uE:=⟨yF,λw w' cs a h=>⟨⟨rfl,h.1,h.2⟩,by rw[h.1];simp[Value.oneCell']⟩⟩
theorem Dq{β:Type}[GoD β](b:Plain α)(c:Plain β):Plain (α×β):=by
 refine⟨yP b.1 (yU _ _),λw w' cs a h=>?_⟩;obtain⟨g,i,rfl,k1,d⟩:=h;obtain⟨o1,e⟩:=b.2 w w' _ _ k1;obtain⟨o2,f⟩:=c.2 w w' _ _ d;refine⟨Qov o1 o2 (by simp),λu hu=>?_⟩;rcases zV.1 hu with hu | hu
 . exact e u hu
 exact f u hu
theorem Qp0{w:uC}{q:uG Addr}{f:Y}{l:O α}(hn:0<GoD.n α)(h:rd w [.slice q l.length f] l):l= []\/∃(b off:Y) (c:O uF),q=G ⟨b,off,uB⟩/\c.length=l.length*GoD.n α/\(∀j u,c[j]? =G u->w.cell? ⟨b,off+j,uB⟩=G u)/\
 ∀i a,l[i]? =G a->rd w ((c.drop (i*GoD.n α)).take (GoD.n α)) a:=by
 obtain⟨r,cap',e,hl,hm,g⟩:=h;obtain⟨rfl,rfl⟩:q=r/\f=cap':=by simpa using e
 cases d:l with
 | nil=>exact .inl rfl
 | cons y l0=>
   right
   obtain⟨b,off,_,rfl,_⟩:=g 0 y (by simp[d]);rw[←d]
   have key:∀k,k<=l.length->∃c:O uF,c.length=k*GoD.n α/\(∀j u,c[j]? =G u->w.cell? ⟨b,off+j,uB⟩=G u)/\∀i a,i<k->l[i]? =G a->rd w ((c.drop (i*GoD.n α)).take (GoD.n α)) a:=by
    intro k
    induction k with
    | zero=>intro _;exact⟨[],by simp,by simp,λi a x=>absurd x (Nat.not_lt_zero _)⟩
    | succ k z=>
      intro hk;obtain⟨c,m,s,t⟩:=z (by omega);obtain⟨b',off',ce,e',n,v,hr⟩:=g k _ (zK (by omega:k<l.length));obtain⟨rfl,rfl⟩:b=b'/\off=off':=by simpa using e'
      refine⟨c++ce,by rw[yO,m,n,zW,yE],λj u p=>?_,λi a x ha=>?_⟩
      . rcases xT j c.length with h | h
        . rw[yL h] at p;exact s j u p
        rw[yH h] at p;have:=v _ u p;rw[show off+k*GoD.n α+(j-c.length)=off+j by rw[←m];omega] at this;exact this
      rcases xT i k with h | h
      . have o:=yC (GoD.n α) (show i+1<=k by omega);rw[zW,yE] at o;rw[List.drop_append_of_le_length (by omega),yV (by rw[List.length_drop];omega)];exact t i a h ha
      obtain rfl:i=k:=by omega
      rw[zK (by omega)] at ha;obtain rfl:=zD ha;rw[←m,List.drop_left,←n,List.take_length];exact hr
   obtain⟨c,m,s,t⟩:=key l.length (zT _);exact⟨b,off,c,rfl,m,s,λi a ha=>t i a (zF.1 ha).1 ha⟩
theorem Qh4{P:uJ}(w:uC)(t ty e:uK)(d:Plain α)(q:P.underlying t=G (.slice e))
 (r:(P.info? e).map (λi=>(i.zero.map (·.cells.size),i.size,decide (i.bytes<=1000)))=G (G (GoD.n α),GoD.n α,E)) {g:Y} (hg:w.heap[g]? =G (.cells #[] e (0,0)))
 {y:uF} {l:O α} (hr:rd w [y] l) (hl:l.length<=1073741824):
 ∃n w' L,(Builtin.append_ #[t,t] ty #[.slice (G ⟨g,0,uB⟩) 0 0,y]).run P w= .ok n w'/\own L w' [n] l/\Ext w w'/\∀b∈L,w.heap.size<=b/\b<w'.heap.size:=by
 obtain⟨i,z,s,hz,c,a8,hb⟩:=Qs4 r;obtain⟨oa,cap,rfl⟩:=JI hr;have v:w.ownsRow g e i.size (.slice (G ⟨g,0,uB⟩) 0 0) 0 []:=⟨by simp,.inr ⟨g,0, #[],rfl,zT _,hg,zT _,yJ _,by simp,by simp⟩⟩;have h0:own [] w [.slice (G ⟨g,0,uB⟩) 0 0] ([]:O α):=⟨by simp,.inl ⟨rfl,rfl,_,rfl⟩⟩;rcases Qp0 d.1 hr with rfl | ⟨b,off,f,rfl,a9,o,x⟩
 . cases oa with
   | none=>
     obtain⟨_,_,ee,_,_,_⟩:=hr;by_cases hc:cap=0
     . subst hc;exact⟨_,w, [],Qds w t ty e i q s g 0 0 (zT _),h0,Ext.refl w,by simp⟩
     refine⟨_,w, [], ?_,h0,Ext.refl w,by simp⟩;simp[Builtin.append_,run_underlying q,sizeOf,typeInfo,s,Builtin.lenOf,Builtin.firstCells,loadCells,loadCellsFrom,storeCells]
   | some ad=>
     refine⟨_,w, [], ?_,h0,Ext.refl w,by simp⟩;simp[Builtin.append_,run_underlying q,sizeOf,typeInfo,s,Builtin.lenOf,Builtin.firstCells,loadCells,loadCellsFrom,storeCells]
 cases p:l with
 | nil=>
   subst p;refine⟨_,w, [], ?_,h0,Ext.refl w,by simp⟩;simp[Builtin.append_,run_underlying q,sizeOf,typeInfo,s,Builtin.lenOf,Builtin.firstCells,loadCells,loadCellsFrom,storeCells]
 | cons a0 l0=>
   rw[←p];have ag:0<l.length:=by rw[p];simp
   have h1:∀u∈f,Value.oneCell' u=E:=λu hu=>by
    obtain⟨j,hj,rfl⟩:=xQ hu;have a1:=d.1;have aa:j / GoD.n α<l.length:=by rw[Nat.div_lt_iff_lt_mul a1];omega
    have hx:=(d.2 w w _ _ (x _ _ (zK aa))).2;refine hx _ (yI (i:=j % GoD.n α) ?_);rw[I0 (Nat.mod_lt _ a1),Nat.mul_comm,Nat.div_add_mod,zK hj]
   obtain⟨n,w',ab,hw,ah,_,m⟩:=Qud (P:=P) w g t ty e i z q s hz (by rw[c];exact a8) (by rw[c];exact d.1) hb v ⟨b,off,uB⟩ l.length cap f (by rw[c];exact a9) (λj u hj=>by
    have:=o j u hj;unfold Addr.add;by_cases a2:j=0
    . subst a2;simpa using this
    simpa [a2] using this) h1 (by omega) (Nat.le_of_lt (Xy hg))
   obtain⟨a3,ae⟩:=m _ _ _ rfl (by omega);have a4:Ext w w':=(Below.refl _ _).grown ae (zT _) (λk hk=>by cases hk);rw[xU,xK,c] at hw
   have hA:App e w w' (n.ownBlock.toList++(xA l.length ([]:O Y)).flatten) n l:=by
    refine⟨f,xA l.length [],⟨hw.1, ?_⟩,rfl, ?_, ?_,by simp,λi Li a af ha=>?_⟩
    . rcases hw.2 with h | ⟨g',a5,cur,h1,h2,h3⟩
      . exact .inl h
      exact .inr ⟨g',a5,cur,h1,a3 g' (by rw[h1];rfl),h3⟩
    . simp only[xB,yW];cases n.ownBlock<;>simp
    . intro b' a6;simp only[xB,yW] at a6;have a7:n.ownBlock=G b':=by simpa using a6
      exact⟨a3 b' a7,(World.ownsRow.lt hw b' a7).2⟩
    have:Li= []:=by
     have:=yI af;exact(List.mem_replicate.1 this).2
    subst this;exact(d.2 w w' _ _ (x i a ha)).1
   exact⟨n,w',_,ab,hA.done,a4,λb hb=>⟨hA.ge b hb,hA.lt b hb⟩⟩
theorem I6{P:uJ}{w:uC}{d:uN Oper}{c:O Oper}{o:Oper}{a:Act}{Q:Exit->Act->uC->Prop}(s x:Operand)(t e:uK)(j:Plain α)(g:Y){y:uF}{l:O α}(p:rd w [y] l)(q:l.length<=1073741824)
 (r:w.heap[g]? =G (.cells #[] e (0,0))) (m:o.guard=uB) (u:o.op= .call {callee:= .builtin .append,args:= #[s,x],argTypes:= #[t,t]}) (v:P.underlying t=G (.slice e))
 (f:(P.info? e).map (λi=>(i.zero.map (·.cells.size),i.size,decide (i.bytes<=1000)))=G (G (GoD.n α),GoD.n α,E)) (z:a.eval s= .slice (G ⟨g,0,uB⟩) 0 0) (hx:a.eval x=y)
 (k:∀h w' L,own L w' [h] l->Ext w w'->(∀b∈L,w.heap.size<=b/\b<w'.heap.size)->wpList P d Q c (a.put o.dst h) w'):wpList P d Q (o::c) a w:=by
 refine wpList_plain m λ_ hK=>?_
 obtain⟨h,w',L,n,h1,h2,h3⟩:=Qh4 (P:=P) w t o.type e j v f r p q;unfold Oper.wp execOp;simp only[u,resolve,invoke,builtin,Sem.run_bind,Sem.run_pure,Result.andThen_ok,List.map_toArray,zY,List.map_nil,z,hx,n];exact hK _ _ (k h w' L h1 h2 h3)
end
section
variable {P:uJ} {o:Oper} {a:Act} {w:uC} {K:Act->uC->Prop} {Q:Exit->Act->uC->Prop}
def New0(e:uK)(v:uF)(L:O Y)(w:uC):Prop:=L= []/\∃g,v= .slice (G ⟨g,0,uB⟩) 0 0/\w.heap[g]? =G (.cells #[] e (0,0))
theorem New0.keep{e:uK}{v:uF}{L:O Y}{w w':uC}(h:New0 e v L w)(b:Ext w w'):New0 e v L w':=by
 obtain⟨c,g,d,a⟩:=h;exact⟨c,g,d,(b.block g (Xy a)).trans a⟩
end
end
section
open Go.RowKit
open GoD (rd own)
theorem Qh5(w:uC)(v:uF)(l:O H)(p:rd w [v] l)(q:l.length<=1073741824):Calls uZ 219 #[v] w (RetS w l):=by
 have r:=Lib.hid p;obtain⟨oa,cap,e,s,x,d⟩:=p;obtain rfl:v=_:=by simpa using e
 clear e;have t:∀(w:uC) (a:uG Addr) (n c g i:Y),(binOp .eql 34 (.slice a n c) (.slice uB g i)).run uZ w= .ok (.bool a.isNone) w:=λw a n c g i=>Lib.run_eql_slice_nil w _ _ a n c g i underlying34
 cases oa with
 | none=>
   have f:l= []:=by
    cases l with
    | nil=>rfl
    | cons a l=>obtain⟨b,off,ce,h,_⟩:=d 0 a rfl;cases h
   clear d;subst f;go_enter func219,ntmps219
   go_wp2
   go_ret
   all_goals exact⟨_, [],rfl,Below.refl _ _,⟨by simp,.inl ⟨rfl,rfl,_,rfl⟩⟩,by simp⟩
 | some y=>
   clear d;go_enter func219,ntmps219
   go_wp2_with (at_builtin;refine I6 (α:=H) _ _ 34 3 I5 w.heap.size (J4 r.out (by go_grown)) q (heap_alloc_new w _) rfl rfl underlying34 (by kernel_rfl) rfl rfl ?_;intro u w2 L2 j k m)
   go_ret
   have hb:Below w.heap.size w w2:=M8 (show Below w.heap.size w _ by go_grown) k;exact⟨u,L2,rfl,hb,j,λb o=>by have:=(m b o).1;simp only[World.size_alloc] at this;omega⟩
theorem HO(l:O H):ACalls uZ 219 [Qhu l] (MS l):=Pc (by unfold Iy;kernel_rfl) (λw v h hw=>Qh5 w v l h (by have:=hw.1;omega)) id
theorem PQ(w:uC)(v:uF)(l:O uE)(p:rd w [v] l)(q:l.length<=1073741824):Calls uZ 230 #[v] w (RetS w l):=by
 have r:=Lib.hid p;obtain⟨oa,cap,e,s,x,d⟩:=p;obtain rfl:v=_:=by simpa using e
 clear e;have t:∀(w:uC) (a:uG Addr) (n c g i:Y),(binOp .eql 119 (.slice a n c) (.slice uB g i)).run uZ w= .ok (.bool a.isNone) w:=λw a n c g i=>Lib.run_eql_slice_nil w _ _ a n c g i underlying119
 cases oa with
 | none=>
   have f:l= []:=by
    cases l with
    | nil=>rfl
    | cons a l=>obtain⟨b,off,ce,h,_⟩:=d 0 a rfl;cases h
   clear d;subst f;go_enter func230,ntmps230
   go_wp2
   go_ret
   all_goals exact⟨_, [],rfl,Below.refl _ _,⟨by simp,.inl ⟨rfl,rfl,_,rfl⟩⟩,by simp⟩
 | some y=>
   clear d;go_enter func230,ntmps230
   go_wp2_with (at_builtin;refine I6 (α:=uE) _ _ 119 9 So w.heap.size (J4 r.out (by go_grown)) q (heap_alloc_new w _) rfl rfl underlying119 (by kernel_rfl) rfl rfl ?_;intro u w2 L2 j k m)
   go_ret
   have hb:Below w.heap.size w w2:=M8 (show Below w.heap.size w _ by go_grown) k;exact⟨u,L2,rfl,hb,j,λb o=>by have:=(m b o).1;simp only[World.size_alloc] at this;omega⟩
theorem VN(l:O uE):ACalls uZ 230 [Qhu l] (MS l):=Pc (by unfold Iy;kernel_rfl) (λw v h hw=>PQ w v l h (by have:=hw.1;omega)) id
theorem Qdt(w:uC)(v:uF)(l:O Hk)(p:rd w [v] l)(q:l.length<=1073741824):Calls uZ 247 #[v] w (RetS w l):=by
 have r:=Lib.hid p;obtain⟨oa,cap,e,s,x,d⟩:=p;obtain rfl:v=_:=by simpa using e
 clear e;have t:∀(w:uC) (a:uG Addr) (n c g i:Y),(binOp .eql 86 (.slice a n c) (.slice uB g i)).run uZ w= .ok (.bool a.isNone) w:=λw a n c g i=>Lib.run_eql_slice_nil w _ _ a n c g i underlying86
 cases oa with
 | none=>
   have f:l= []:=by
    cases l with
    | nil=>rfl
    | cons a l=>obtain⟨b,off,ce,h,_⟩:=d 0 a rfl;cases h
   clear d;subst f;go_enter func247,ntmps247
   go_wp2
   go_ret
   all_goals exact⟨_, [],rfl,Below.refl _ _,⟨by simp,.inl ⟨rfl,rfl,_,rfl⟩⟩,by simp⟩
 | some y=>
   clear d;go_enter func247,ntmps247
   go_wp2_with (at_builtin;refine I6 (α:=Hk) _ _ 86 228 (Dq So (Dq I5 (Dq I5 So))) w.heap.size (J4 r.out (by go_grown)) q (heap_alloc_new w _) rfl rfl underlying86 (by kernel_rfl) rfl rfl ?_;intro u w2 L2 j k m)
   go_ret
   have hb:Below w.heap.size w w2:=M8 (show Below w.heap.size w _ by go_grown) k;exact⟨u,L2,rfl,hb,j,λb o=>by have:=(m b o).1;simp only[World.size_alloc] at this;omega⟩
theorem Qdu(l:O Hk):ACalls uZ 247 [Qhu l] (MS l):=Pc (by unfold Iy;kernel_rfl) (λw v h hw=>Qdt w v l h (by have:=hw.1;omega)) id
theorem Qaj(w:uC)(v:uF)(l:O Zt)(p:rd w [v] l)(q:l.length<=1073741824):Calls uZ 110 #[v] w (RetS w l):=by
 have r:=Lib.hid p;obtain⟨oa,cap,e,s,x,d⟩:=p;obtain rfl:v=_:=by simpa using e
 clear e;have t:∀(w:uC) (a:uG Addr) (n c g i:Y),(binOp .eql 41 (.slice a n c) (.slice uB g i)).run uZ w= .ok (.bool a.isNone) w:=λw a n c g i=>Lib.run_eql_slice_nil w _ _ a n c g i underlying41
 cases oa with
 | none=>
   have f:l= []:=by
    cases l with
    | nil=>rfl
    | cons a l=>obtain⟨b,off,ce,h,_⟩:=d 0 a rfl;cases h
   clear d;subst f;go_enter func110,ntmps110
   go_wp2
   go_ret
   all_goals exact⟨_, [],rfl,Below.refl _ _,⟨by simp,.inl ⟨rfl,rfl,_,rfl⟩⟩,by simp⟩
 | some y=>
   clear d;go_enter func110,ntmps110
   go_wp2_with (at_builtin;refine I6 (α:=Zt) _ _ 41 165 (Dq So I5) w.heap.size (J4 r.out (by go_grown)) q (heap_alloc_new w _) rfl rfl underlying41 (by kernel_rfl) rfl rfl ?_;intro u w2 L2 j k m)
   go_ret
   have hb:Below w.heap.size w w2:=M8 (show Below w.heap.size w _ by go_grown) k;exact⟨u,L2,rfl,hb,j,λb o=>by have:=(m b o).1;simp only[World.size_alloc] at this;omega⟩
theorem Qak(l:O Zt):ACalls uZ 110 [Qhu l] (MS l):=Pc (by unfold Iy;kernel_rfl) (λw v h hw=>Qaj w v l h (by have:=hw.1;omega)) id
theorem Qdv(w:uC)(v:uF)(l:O Q0)(p:rd w [v] l)(q:l.length<=1073741824):Calls uZ 179 #[v] w (RetS w l):=by
 have r:=Lib.hid p;obtain⟨oa,cap,e,s,x,d⟩:=p;obtain rfl:v=_:=by simpa using e
 clear e;have t:∀(w:uC) (a:uG Addr) (n c g i:Y),(binOp .eql 89 (.slice a n c) (.slice uB g i)).run uZ w= .ok (.bool a.isNone) w:=λw a n c g i=>Lib.run_eql_slice_nil w _ _ a n c g i underlying89
 cases oa with
 | none=>
   have f:l= []:=by
    cases l with
    | nil=>rfl
    | cons a l=>obtain⟨b,off,ce,h,_⟩:=d 0 a rfl;cases h
   clear d;subst f;go_enter func179,ntmps179
   go_wp2
   go_ret
   all_goals exact⟨_, [],rfl,Below.refl _ _,⟨by simp,.inl ⟨rfl,rfl,_,rfl⟩⟩,by simp⟩
 | some y=>
   clear d;go_enter func179,ntmps179
   go_wp2_with (at_builtin;refine I6 (α:=Q0) _ _ 89 239 (Dq I5 (Dq I5 (Dq I5 (Dq So (Dq I5 (Dq I5 So)))))) w.heap.size (J4 r.out (by go_grown)) q (heap_alloc_new w _) rfl rfl underlying89 (by kernel_rfl) rfl rfl ?_;intro u w2 L2 j k m)
   go_ret
   have hb:Below w.heap.size w w2:=M8 (show Below w.heap.size w _ by go_grown) k;exact⟨u,L2,rfl,hb,j,λb o=>by have:=(m b o).1;simp only[World.size_alloc] at this;omega⟩
theorem Qdw(l:O Q0):ACalls uZ 179 [Qhu l] (MS l):=Pc (by unfold Iy;kernel_rfl) (λw v h hw=>Qdv w v l h (by have:=hw.1;omega)) id
open GoE (enc wide)
abbrev Z:=O uE
def tt:O (Y×TI):= [(3,⟨.int .i64,1, [.i 0], []⟩),
 (4,⟨.bool,1, [.b uA], []⟩),
 (5,⟨.int .u8,1, [.int .u8 0], []⟩),
 (9,⟨.str,1, [.s ⟨#[]⟩], []⟩),
 (22,⟨.sli 191,1, [.e 2], []⟩),
 (23,⟨.sli 68,1, [.e 5], []⟩),
 (25,⟨.struct [(0,1,uA),(1,1,uA),(2,1,uA)],3, [.e 2,.e 5,.i 0], []⟩),
 (26,⟨.sli 71,1, [.e 2], []⟩),
 (27,⟨.sli 152,1, [.e 2], []⟩),
 (29,⟨.struct [(0,3,E),(3,1,uA),(4,1,uA)],5, [.e 2,.e 5,.i 0,.e 2,.e 2], []⟩),
 (31,⟨.struct [(0,1,uA),(1,1,uA)],2, [.s ⟨#[]⟩,.s ⟨#[]⟩], []⟩),
 (32,⟨.sli 108,1, [.e 6], []⟩),
 (33,⟨.sli 112,1, [.e 4], []⟩),
 (34,⟨.sli 3,1, [.e 1], []⟩),
 (36,⟨.struct [(0,5,E),(5,2,E),(7,1,uA),(8,1,uA),(9,1,uA),(10,1,uA)],11, [.e 2,.e 5,.i 0,.e 2,.e 2,.s ⟨#[]⟩,.s ⟨#[]⟩,.i 0,.e 6,.e 4,.e 1], []⟩),
 (37,⟨.sli 73,1, [.e 9], []⟩),
 (41,⟨.sli 165,1, [.e 2], []⟩),
 (42,⟨.sli 88,1, [.e 5], []⟩),
 (44,⟨.struct [(0,1,uA),(1,1,uA),(2,1,uA)],3, [.e 2,.e 5,.i 0], []⟩),
 (45,⟨.sli 91,1, [.e 2], []⟩),
 (46,⟨.sli 175,1, [.e 2], []⟩),
 (48,⟨.struct [(0,3,E),(3,1,uA),(4,1,uA)],5, [.e 2,.e 5,.i 0,.e 2,.e 2], []⟩),
 (49,⟨.struct [(0,1,uA),(1,1,uA)],2, [.s ⟨#[]⟩,.s ⟨#[]⟩], []⟩),
 (50,⟨.sli 129,1, [.e 6], []⟩),
 (51,⟨.sli 133,1, [.e 4], []⟩),
 (53,⟨.struct [(0,5,E),(5,2,E),(7,1,uA),(8,1,uA),(9,1,uA),(10,1,uA)],11, [.e 2,.e 5,.i 0,.e 2,.e 2,.s ⟨#[]⟩,.s ⟨#[]⟩,.i 0,.e 6,.e 4,.e 1], []⟩),
 (55,⟨.sli 93,1, [.e 9], []⟩),
 (66,⟨.sli 199,1, [.e 4], []⟩),
 (68,⟨.struct [(0,1,uA),(1,1,uA),(2,1,uA),(3,1,uA),(4,1,uA)],5, [.i 0,.i 0,.b uA,.i 0,.e 4], []⟩),
 (69,⟨.sli 202,1, [.e 7], []⟩),
 (71,⟨.struct [(0,1,uA),(1,1,uA)],2, [.s ⟨#[]⟩,.e 7], []⟩),
 (73,⟨.struct [(0,1,uA),(1,5,E),(6,1,uA),(7,2,E)],9, [.i 0,.i 0,.i 0,.b uA,.i 0,.e 4,.i 0,.s ⟨#[]⟩,.e 7], []⟩),
 (75,⟨.struct [(0,3,E),(3,1,uA)],4, [.e 2,.e 5,.i 0,.e 2], []⟩),
 (86,⟨.sli 228,1, [.e 4], []⟩),
 (88,⟨.struct [(0,1,uA),(1,1,uA),(2,1,uA),(3,1,uA),(4,1,uA)],5, [.i 0,.i 0,.b uA,.i 0,.e 4], []⟩),
 (89,⟨.sli 239,1, [.e 7], []⟩),
 (91,⟨.struct [(0,1,uA),(1,1,uA)],2, [.s ⟨#[]⟩,.e 7], []⟩),
 (93,⟨.struct [(0,1,uA),(1,5,E),(6,1,uA),(7,2,E)],9, [.i 0,.i 0,.i 0,.b uA,.i 0,.e 4,.i 0,.s ⟨#[]⟩,.e 7], []⟩),
 (106,⟨.struct [(0,3,E),(3,1,uA)],4, [.e 2,.e 5,.i 0,.e 2], []⟩),
 (108,⟨.struct [(0,1,uA),(1,4,E),(5,1,uA)],6, [.i 0,.e 2,.e 5,.i 0,.e 2,.i 0], []⟩),
 (110,⟨.sli 194,1, [.e 3], []⟩),
 (112,⟨.struct [(0,1,uA),(1,1,uA),(2,1,uA),(3,1,uA)],4, [.i 0,.s ⟨#[]⟩,.e 1,.e 3], []⟩),
 (115,⟨.sli 220,1, [.e 3], []⟩),
 (119,⟨.sli 9,1, [.e 1], []⟩),
 (129,⟨.struct [(0,1,uA),(1,4,E),(5,1,uA)],6, [.i 0,.e 2,.e 5,.i 0,.e 2,.i 0], []⟩),
 (131,⟨.sli 235,1, [.e 3], []⟩),
 (133,⟨.struct [(0,1,uA),(1,1,uA),(2,1,uA),(3,1,uA)],4, [.i 0,.s ⟨#[]⟩,.e 1,.e 3], []⟩),
 (152,⟨.struct [(0,1,uA),(1,1,uA)],2, [.s ⟨#[]⟩,.e 1], []⟩),
 (165,⟨.struct [(0,1,uA),(1,1,uA)],2, [.s ⟨#[]⟩,.i 0], []⟩),
 (175,⟨.struct [(0,1,uA),(1,1,uA)],2, [.s ⟨#[]⟩,.e 1], []⟩),
 (191,⟨.struct [(0,1,uA),(1,1,uA)],2, [.s ⟨#[]⟩,.i 0], []⟩),
 (194,⟨.struct [(0,1,uA),(1,1,uA),(2,1,uA)],3, [.i 0,.e 1,.e 1], []⟩),
 (197,⟨.struct [(0,1,uA),(1,1,uA),(2,1,uA)],3, [.i 0,.i 0,.s ⟨#[]⟩], []⟩),
 (199,⟨.struct [(0,1,uA),(1,3,E)],4, [.s ⟨#[]⟩,.i 0,.i 0,.s ⟨#[]⟩], []⟩),
 (202,⟨.struct [(0,1,uA),(1,1,uA),(2,1,uA),(3,1,uA),(4,3,E)],7, [.i 0,.i 0,.i 0,.s ⟨#[]⟩,.i 0,.i 0,.s ⟨#[]⟩], []⟩),
 (220,⟨.struct [(0,1,uA),(1,1,uA),(2,1,uA)],3, [.s ⟨#[]⟩,.e 1,.e 1], []⟩),
 (226,⟨.struct [(0,1,uA),(1,1,uA),(2,1,uA)],3, [.i 0,.i 0,.s ⟨#[]⟩], [.int,.int,.str]⟩),
 (228,⟨.struct [(0,1,uA),(1,3,E)],4, [.s ⟨#[]⟩,.i 0,.i 0,.s ⟨#[]⟩], []⟩),
 (235,⟨.struct [(0,1,uA),(1,1,uA),(2,1,uA)],3, [.i 0,.e 1,.e 1], []⟩),
 (239,⟨.struct [(0,1,uA),(1,1,uA),(2,1,uA),(3,1,uA),(4,3,E)],7, [.i 0,.i 0,.i 0,.s ⟨#[]⟩,.i 0,.i 0,.s ⟨#[]⟩], [.int,.int,.int,.str,.int,.int,.str]⟩),
 (376,⟨.sli 4,1, [.e 1], []⟩),
 (393,⟨.struct [(0,1,uA),(1,1,uA)],2, [.e 1,.e 7], []⟩)]
theorem Z7:S6 uZ tt=E:=by kernel_rfl
theorem QS:Tryz.prog.follows .mixedOrders=E:=by kernel_rfl
section
variable {N:Y} {w0:Base} {F0:Y->Prop} {Q:Exit->St->Prop} {s x:St} {c y:uI} {orcs:O (Y×Orc)} {obs:O Ob} {id:Y} {ops:uN Oper}
theorem rn(b c:O Y)(a:PL (Jk uZ w0) (Uq uZ w0) orcs obs)(d:Q .normal (hd (nx tt N orcs ops.toList b c s) s))
 (h:(T6 tt N orcs ops.toList ops.toList 0 s).map yS=G obs:=by kernel_rfl):AWP uZ N w0 F0 (.region id ops uA) Q s:=rn0 Z7 b c (s:=s) a d h
theorem sn(b c:O Y)(a:PL (Jk uZ w0) (Uq uZ w0) orcs obs)(d:AWP uZ N w0 F0 y Q (hd (nx tt N orcs ops.toList b c s) s))
 (h:(T6 tt N orcs ops.toList ops.toList 0 s).map yS=G obs:=by kernel_rfl):AWP uZ N w0 F0 (.seq (.region id ops uA) y) Q s:=Qa (rn b c a d h)
theorem ru(u:O (Y×AV))(d:O Y)(a:O (Y×O C))(b:O Y)(c:PL (Jk uZ w0) (Uq uZ w0) orcs obs)(e:Q .normal (s.up u d a b))
 (h:Hm tt N orcs ops.toList (Tj (s.up u d a b).tm) (Tj (s.up u d a b).bx) s=G (s.up u d a b,obs):=by kernel_rfl):AWP uZ N w0 F0 (.region id ops uA) Q s:=Ky Z7 orcs _ _ (s:=s) h c e
theorem su(u:O (Y×AV))(d:O Y)(a:O (Y×O C))(b:O Y)(c:PL (Jk uZ w0) (Uq uZ w0) orcs obs)(e:AWP uZ N w0 F0 y Q (s.up u d a b))
 (h:Hm tt N orcs ops.toList (Tj (s.up u d a b).tm) (Tj (s.up u d a b).bx) s=G (s.up u d a b,obs):=by kernel_rfl):AWP uZ N w0 F0 (.seq (.region id ops uA) y) Q s:=Qa (ru u d a b c e h)
theorem rN(a b:O Y)(c:PL (Jk uZ w0) (Uq uZ w0) orcs obs)(d:Q .normal (hd (nd tt N orcs ops.toList a b s) s))
 (h:(I4 tt N orcs ops.toList a b s).map yS=G obs:=by kernel_rfl):AWP uZ N w0 F0 (.region id ops E) Q s:=rN0 Z7 QS a b (s:=s) c d h
theorem sN(a b:O Y)(c:PL (Jk uZ w0) (Uq uZ w0) orcs obs)(d:AWP uZ N w0 F0 y Q (hd (nd tt N orcs ops.toList a b s) s))
 (h:(I4 tt N orcs ops.toList a b s).map yS=G obs:=by kernel_rfl):AWP uZ N w0 F0 (.seq (.region id ops E) y) Q s:=Qa (rN a b c d h)
theorem rU(u:O (Y×AV))(d:O Y)(a:O (Y×O C))(b:O Y)(c:PL (Jk uZ w0) (Uq uZ w0) orcs obs)(e:Q .normal (s.up u d a b))
 (h:I4 tt N orcs ops.toList (Tj (s.up u d a b).tm) (Tj (s.up u d a b).bx) s=G (s.up u d a b,obs):=by kernel_rfl):AWP uZ N w0 F0 (.region id ops E) Q s:=DA Z7 QS orcs _ _ (s:=s) h c e
theorem sU(u:O (Y×AV))(d:O Y)(a:O (Y×O C))(b:O Y)(c:PL (Jk uZ w0) (Uq uZ w0) orcs obs)(e:AWP uZ N w0 F0 y Q (s.up u d a b))
 (h:I4 tt N orcs ops.toList (Tj (s.up u d a b).tm) (Tj (s.up u d a b).bx) s=G (s.up u d a b,obs):=by kernel_rfl):AWP uZ N w0 F0 (.seq (.region id ops E) y) Q s:=Qa (rU u d a b c e h)
theorem qn(b c:O Y)(a:PL (Jk uZ w0) (Uq uZ w0) orcs obs)(d:Q .normal (hd (nx tt N orcs ops.toList b c x) s))
 (h:(T6 tt N orcs ops.toList ops.toList 0 x).map yS=G obs:=by kernel_rfl):AWP uZ N w0 F0 (.region id ops uA) Q (hd x s):=rn0 Z7 b c (s:=x) a d h
theorem tn(b c:O Y)(a:PL (Jk uZ w0) (Uq uZ w0) orcs obs)(d:AWP uZ N w0 F0 y Q (hd (nx tt N orcs ops.toList b c x) s))
 (h:(T6 tt N orcs ops.toList ops.toList 0 x).map yS=G obs:=by kernel_rfl):AWP uZ N w0 F0 (.seq (.region id ops uA) y) Q (hd x s):=Qa (qn b c a d h)
theorem qu(u:O (Y×AV))(d:O Y)(a:O (Y×O C))(b:O Y)(c:PL (Jk uZ w0) (Uq uZ w0) orcs obs)(e:Q .normal (s.up u d a b))
 (h:Hm tt N orcs ops.toList (Tj (s.up u d a b).tm) (Tj (s.up u d a b).bx) x=G (s.up u d a b,obs):=by kernel_rfl):AWP uZ N w0 F0 (.region id ops uA) Q (hd x s):=Ky Z7 orcs _ _ (s:=x) h c e
theorem tu(u:O (Y×AV))(d:O Y)(a:O (Y×O C))(b:O Y)(c:PL (Jk uZ w0) (Uq uZ w0) orcs obs)(e:AWP uZ N w0 F0 y Q (s.up u d a b))
 (h:Hm tt N orcs ops.toList (Tj (s.up u d a b).tm) (Tj (s.up u d a b).bx) x=G (s.up u d a b,obs):=by kernel_rfl):AWP uZ N w0 F0 (.seq (.region id ops uA) y) Q (hd x s):=Qa (qu u d a b c e h)
theorem qN(a b:O Y)(c:PL (Jk uZ w0) (Uq uZ w0) orcs obs)(d:Q .normal (hd (nd tt N orcs ops.toList a b x) s))
 (h:(I4 tt N orcs ops.toList a b x).map yS=G obs:=by kernel_rfl):AWP uZ N w0 F0 (.region id ops E) Q (hd x s):=rN0 Z7 QS a b (s:=x) c d h
theorem tN(a b:O Y)(c:PL (Jk uZ w0) (Uq uZ w0) orcs obs)(d:AWP uZ N w0 F0 y Q (hd (nd tt N orcs ops.toList a b x) s))
 (h:(I4 tt N orcs ops.toList a b x).map yS=G obs:=by kernel_rfl):AWP uZ N w0 F0 (.seq (.region id ops E) y) Q (hd x s):=Qa (qN a b c d h)
theorem qU(u:O (Y×AV))(d:O Y)(a:O (Y×O C))(b:O Y)(c:PL (Jk uZ w0) (Uq uZ w0) orcs obs)(e:Q .normal (s.up u d a b))
 (h:I4 tt N orcs ops.toList (Tj (s.up u d a b).tm) (Tj (s.up u d a b).bx) x=G (s.up u d a b,obs):=by kernel_rfl):AWP uZ N w0 F0 (.region id ops E) Q (hd x s):=DA Z7 QS orcs _ _ (s:=x) h c e
theorem tU(u:O (Y×AV))(d:O Y)(a:O (Y×O C))(b:O Y)(c:PL (Jk uZ w0) (Uq uZ w0) orcs obs)(e:AWP uZ N w0 F0 y Q (s.up u d a b))
 (h:I4 tt N orcs ops.toList (Tj (s.up u d a b).tm) (Tj (s.up u d a b).bx) x=G (s.up u d a b,obs):=by kernel_rfl):AWP uZ N w0 F0 (.seq (.region id ops E) y) Q (hd x s):=Qa (qU u d a b c e h)
end
theorem en{f:Y}{a:Func}{c:uI}(d:Tryz.prog.funcs[f]? =G a){args:O AV}{r:AV}
 (h:∀w0 F0,GoodAt uZ w0->AWP uZ a.ntmps w0 F0 c (Qjq tt a.results.toList r) (HF args)) (e:a.body=G c:=by exact rfl) (b:Iy uZ f:=by unfold Iy;kernel_rfl) (g:args.length<=a.ntmps:=by exact Nat.le_of_ble_eq_true rfl):ACalls uZ f args r:=VG Z7 d e b g h
def X6(n:H)(b:H)(a:H):uD:=(decide (b<=n)&&decide (n<=a))
theorem Kt(n:H)(b:H)(a:H):ACalls uZ 181 [.i n,.i b,.i a] (.b (X6 n b a)):=by
 refine en func181 λ_ _ _=>sn [0,1,2,6] [] p0 ?_
 refine Qa<|mz [(6,.b uA)] [] [] []<|jn [(6,.b (decide (b<=n)&&decide (n<=a)))] [0,1,2,6] [] [] (decide (b<=n)) (λc=>?_) (λc=>?_) ?_
 ·exact rn [6] [] (pt 2 c p0)<|zA (by rw[c]<;>kernel_rfl)
 ·exact rn [6] [] (pf 2 c p0)<|zA (by rw[c]<;>kernel_rfl)
 exact Qc<|pb [] (show X6 n b a=(decide (b<=n)&&decide (n<=a)) from rfl)
def Y3(a:uE)(b:Y)(_:uL):Rd (uD) (uL) (uL):=(bif (decide (Kp a (b:H)<(97:H))|| decide (Kp a (b:H)>(122:H))) then(.ret uA) else(.next ()))
def V6(_:Y)(_:uL):uL:=()
def Xp(a:uE):uD:=(Out.on (Vj (Y3 a) V6 (zE a:H).toNat 0 ()) (λ_=>(X6 (zE a:H) 1 6)))
theorem Wl(a:uE):ACalls uZ 275 [.s a] (.b (Xp a)):=by
 refine en func275 λ_ _ _=>sn [0,2] [] p0 ?_
 refine Qa<|tn [0,2,5,6] [] p0<|mz [(2,.b uA),(5,.i (zE a:H)),(6,.i 0)] [] [] []<|stT 0 0 a (λj=>?_)
 refine Qx7 (Y3 a) V6 (zE a:H).toNat () (λb _=> [(6,.i (b:H))]) [6] (λ_=> []) [5,6] wf0 (λb k c U=>?_) (λb k c U=>?_) (λl e=>?_)
 ·refine sn [0,2,5,6,7] [] (pe 0 (zB ((b:H)<(zE a:H))) p0)<|Qa<|ckT<|Qd<|Qa<|Qn<|tn [0,2,3,5,6] [] p0<|Qa<|mz [(3,.i (b:H))] [] [] []<|jn [(18,.b (decide (Kp a (b:H)<(97:H))|| decide (Kp a (b:H)>(122:H))))] [3] [] [] (decide (Kp a (b:H)<(97:H))) (λd=>?_) (λd=>?_) ?_
  ·have f:=uV d;exact rn [0,2,5,6,18] [] (px (F9 (i:=(b:H)) (n:=(zE a)) (by omega)) (pt 3 d p0))<|zA (by rw[d]<;>kernel_rfl)
  ·have f:=uU d;exact rn [0,2,5,6,18] [] (px (F9 (i:=(b:H)) (n:=(zE a)) (by omega)) (pf 3 d (px (F9 (i:=(b:H)) (n:=(zE a)) (by omega)) p0)))<|zA (by rw[d]<;>kernel_rfl)
  refine ck (decide (Kp a (b:H)<(97:H))|| decide (Kp a (b:H)>(122:H))) (λg=>?_) (λg=>?_)
  ·refine su [] [18] [] [] p0<|Qc ?_
   have h:(Vj (Y3 a) V6 (zE a:H).toNat 0 ())= .ret uA:=Ti c (Qu g rfl) U;exact pb [] (Pe h)
  refine Qd<|rn [0,2,5,6] [] (pw 0 b p0) ?_
  exact xw _ (Kb c (Qh g rfl) U)
 ·exact sn [0,2,5,6,7] [] (pe 0 (zC ((b:H)<(zE a:H))) p0)<|Qa<|ckF<|Qv<|xw _ (Hu c rfl U)
 exact sn [2] [] (pc 2 (Kt (zE a:H) 1 6) p0)<|Qc<|pb [] (Vz e rfl)
def Xf(v:Wx):uD:=(bif (v.1==(0:H)) then((v.1==0)&&((v.2.1==0)&&((v.2.2.toList==(⟨#[]⟩:uE).toList)&&E))) else(bif (v.1==(1:H)) then((X6 v.2.1 0 999)&&(v.2.2.toList==(⟨#[]⟩:uE).toList)) else(bif (v.1==(2:H)) then((Xp v.2.2)&&(v.2.1==(0:H))) else uA)))
theorem K4(v:Wx):ACalls uZ 240 [.a [.i v.1,.i v.2.1,.s v.2.2]] (.b (Xf v)):=by
 refine en func240 λ_ _ _=>sn [1,2] [1] p0 ?_
 refine Qa<|tn [1,2,4] [1] p0<|Qn<|tu [(1,.p 1 0),(2,.b uA),(4,.i v.1),(5,.b (v.1==(0:H)))] [0] [(1, [.i v.1,.i v.2.1,.s v.2.2])] [] p0<|ck (v.1==(0:H)) (λa=>?_) (λa=>?_)
 ·exact sn [2] [] p0<|Qc<|pb [] (Qu a rfl)
 refine sn [1,2,4,10] [1] p0<|ck (v.1==(1:H)) (λd=>?_) (λd=>?_)
 ·refine Qa<|mz [(10,.b (v.1==(1:H)))] [5] [] []<|jn [(2,.b ((X6 v.2.1 0 999)&&(v.2.2.toList==(⟨#[]⟩:uE).toList)))] [1,2,4,10] [] [1] (X6 v.2.1 0 999) (λb=>?_) (λb=>?_) ?_
  ·exact rn [2] [] (pc 2 (cb b (Kt v.2.1 0 999)) p0)<|zA (by rw[b]<;>kernel_rfl)
  ·exact rn [2] [] (pc 2 (cb b (Kt v.2.1 0 999)) p0)<|zA (by rw[b]<;>kernel_rfl)
  exact Qc<|pb [] (Qh a (Qu d rfl))
 refine tn [1,2,20] [1] p0<|ck (v.1==(2:H)) (λe=>?_) (λe=>?_)
 ·refine Qa<|mz [(20,.b (v.1==(2:H)))] [4,5] [] []<|jn [(2,.b ((Xp v.2.2)&&(v.2.1==(0:H))))] [1,2,20] [] [1] (Xp v.2.2) (λc=>?_) (λc=>?_) ?_
  ·exact rn [2] [] (pc 2 (cb c (Wl v.2.2)) p0)<|zA (by rw[c]<;>kernel_rfl)
  ·exact rn [2] [] (pc 2 (cb c (Wl v.2.2)) p0)<|zA (by rw[c]<;>kernel_rfl)
  exact Qc<|pb [] (Qh a (Qh d (Qu e rfl)))
 exact Qd<|tu [] [1,4,5] [] [1] p0<|Qc<|pb [] (Qh a (Qh d (Qh e rfl)))
def Xd(x:H)(a:H)(b:H):uD:=(decide (x>=a)&&decide (x<=b))
theorem Js(x:H)(a:H)(b:H):ACalls uZ 91 [.i x,.i a,.i b] (.b (Xd x a b)):=by
 refine en func91 λ_ _ _=>sn [0,1,2,6] [] p0 ?_
 refine Qa<|mz [(6,.b uA)] [] [] []<|jn [(6,.b (decide (x>=a)&&decide (x<=b)))] [0,1,2,6] [] [] (decide (x>=a)) (λc=>?_) (λc=>?_) ?_
 ·exact rn [6] [] (pt 2 c p0)<|zA (by rw[c]<;>kernel_rfl)
 ·exact rn [6] [] (pf 2 c p0)<|zA (by rw[c]<;>kernel_rfl)
 exact Qc<|pb [] (show Xd x a b=(decide (x>=a)&&decide (x<=b)) from rfl)
def Cm(a:uE)(b:Y)(_:uL):Rd (uD) (uL) (uL):=(bif (decide (Kp a (b:H)<(97:H))|| decide (Kp a (b:H)>(122:H))) then(.ret uA) else(.next ()))
def Dr(_:Y)(_:uL):uL:=()
def Ma(b:uE)(a:H):uD:=(Out.on (Vj (Cm b) Dr (zE b:H).toNat 0 ()) (λ_=>(Xd (zE b:H) 1 a)))
theorem VO(a:uE)(c:H):ACalls uZ 205 [.s a,.i c] (.b (Ma a c)):=by
 refine en func205 λ_ _ _=>sn [0,1,4] [] p0 ?_
 refine Qa<|tn [0,1,4,5] [] p0<|mz [(4,.b uA),(5,.i 0)] [] [] []<|stT 0 0 a (λk=>?_)
 refine Qx7 (Cm a) Dr (zE a:H).toNat () (λb _=> [(5,.i (b:H))]) [5] (λ_=> []) [5] wf0 (λb l d U=>?_) (λb l d U=>?_) (λm f=>?_)
 ·refine Qa<|sn [0,1,4,5,9] [] (pe 3 (zB ((b:H)<(zE a:H))) p0)<|ckT<|Qd<|Qa<|Qn<|Qa<|mz [(9,.b E)] [] [] []<|jn [(21,.b (decide (Kp a (b:H)<(97:H))|| decide (Kp a (b:H)>(122:H))))] [9] [] [] (decide (Kp a (b:H)<(97:H))) (λe=>?_) (λe=>?_) ?_
  ·have g:=uV e;exact rn [0,1,4,5,21] [] (px (F9 (i:=(b:H)) (n:=(zE a)) (by omega)) (pt 3 e p0))<|zA (by rw[e]<;>kernel_rfl)
  ·have g:=uU e;exact rn [0,1,4,5,21] [] (px (F9 (i:=(b:H)) (n:=(zE a)) (by omega)) (pf 3 e (px (F9 (i:=(b:H)) (n:=(zE a)) (by omega)) p0)))<|zA (by rw[e]<;>kernel_rfl)
  refine ck (decide (Kp a (b:H)<(97:H))|| decide (Kp a (b:H)>(122:H))) (λh=>?_) (λh=>?_)
  ·refine su [] [21] [] [] p0<|Qc ?_
   have j:(Vj (Cm a) Dr (zE a:H).toNat 0 ())= .ret uA:=Ti d (Qu h rfl) U;exact pb [] (Pe j)
  refine Qd<|rn [0,1,4,5] [] (pw 1 b p0) ?_
  exact xw _ (Kb d (Qh h rfl) U)
 ·exact Qa<|sn [0,1,4,5,9] [] (pe 3 (zC ((b:H)<(zE a:H))) p0)<|ckF<|Qv<|xw _ (Hu d rfl U)
 exact sn [4] [] (pc 3 (Js (zE a:H) 1 c) p0)<|Qc<|pb [] (Vz f rfl)
def Zu(a:uE):uD:=(Ma a 6)
theorem Va(a:uE):ACalls uZ 263 [.s a] (.b (Zu a)):=by
 refine en func263 λ_ _ _=>sn [0,2] [] p0 ?_
 exact tn [2] [] (pc 1 (VO a 6) p0)<|Qc<|pb [] (show Zu a=(Ma a 6) from rfl)
def Yk(v:Wx):uD:=(bif (v.1==(0:H)) then((v.1==0)&&((v.2.1==0)&&((v.2.2.toList==(⟨#[]⟩:uE).toList)&&E))) else(bif (v.1==(1:H)) then((Xd v.2.1 0 999)&&(v.2.2.toList==(⟨#[]⟩:uE).toList)) else(bif (v.1==(2:H)) then((Zu v.2.2)&&(v.2.1==(0:H))) else uA)))
theorem Z8(v:Wx):ACalls uZ 206 [.a [.i v.1,.i v.2.1,.s v.2.2]] (.b (Yk v)):=by
 refine en func206 λ_ _ _=>sn [1,2] [1] p0 ?_
 refine Qa<|tn [1,2,4] [1] p0<|Qn<|tu [(1,.p 1 0),(2,.b uA),(4,.i v.1),(5,.b (v.1==(0:H)))] [0] [(1, [.i v.1,.i v.2.1,.s v.2.2])] [] p0<|ck (v.1==(0:H)) (λa=>?_) (λa=>?_)
 ·exact sn [2] [] p0<|Qc<|pb [] (Qu a rfl)
 refine sn [1,2,4,10] [1] p0<|ck (v.1==(1:H)) (λd=>?_) (λd=>?_)
 ·refine Qa<|mz [(10,.b (v.1==(1:H)))] [5] [] []<|jn [(2,.b ((Xd v.2.1 0 999)&&(v.2.2.toList==(⟨#[]⟩:uE).toList)))] [1,2,4,10] [] [1] (Xd v.2.1 0 999) (λb=>?_) (λb=>?_) ?_
  ·exact rn [2] [] (pc 2 (cb b (Js v.2.1 0 999)) p0)<|zA (by rw[b]<;>kernel_rfl)
  ·exact rn [2] [] (pc 2 (cb b (Js v.2.1 0 999)) p0)<|zA (by rw[b]<;>kernel_rfl)
  exact Qc<|pb [] (Qh a (Qu d rfl))
 refine tn [1,2,20] [1] p0<|ck (v.1==(2:H)) (λe=>?_) (λe=>?_)
 ·refine Qa<|mz [(20,.b (v.1==(2:H)))] [4,5] [] []<|jn [(2,.b ((Zu v.2.2)&&(v.2.1==(0:H))))] [1,2,20] [] [1] (Zu v.2.2) (λc=>?_) (λc=>?_) ?_
  ·exact rn [2] [] (pc 2 (cb c (Va v.2.2)) p0)<|zA (by rw[c]<;>kernel_rfl)
  ·exact rn [2] [] (pc 2 (cb c (Va v.2.2)) p0)<|zA (by rw[c]<;>kernel_rfl)
  exact Qc<|pb [] (Qh a (Qh d (Qu e rfl)))
 exact Qd<|tu [] [1,4,5] [] [1] p0<|Qc<|pb [] (Qh a (Qh d (Qh e rfl)))
def Q8(a:uE):uD:=(((zE a:H)==(1:H))&&(decide (Kp a 0>=(97:H))&&decide (Kp a 0<=(122:H))))
theorem Ja(a:uE):ACalls uZ 172 [.s a] (.b (Q8 a)):=by
 refine en func172 λ_ _ _=>sn [0,2] [] p0 ?_
 refine Qa<|mz [(2,.b uA)] [] [] []<|jn [(2,.b (((zE a:H)==(1:H))&&(decide (Kp a 0>=(97:H))&&decide (Kp a 0<=(122:H)))))] [0,2] [] [] ((zE a:H)==(1:H)) (λb=>?_) (λb=>?_) ?_
 ·have e:=eq_of_beq b;refine Ye (decide (Kp a 0>=(97:H))) (λc=>?_) (λc=>?_)
  ·have d:=uV c;exact rn [2] [] (pt 2 b (px (F9 (i:=0) (n:=(zE a)) (by omega)) (pt 6 c (px (F9 (i:=0) (n:=(zE a)) (by omega)) p0))))<|zA (by rw[b,c]<;>kernel_rfl)
  have d:=uU c;exact rn [2] [] (pt 2 b (px (F9 (i:=0) (n:=(zE a)) (by omega)) (pf 6 c p0)))<|zA (by rw[b,c]<;>kernel_rfl)
 ·exact rn [2] [] (pf 2 b p0)<|zA (by rw[b]<;>kernel_rfl)
 exact Qc<|pb [] (show Q8 a=(((zE a:H)==(1:H))&&(decide (Kp a 0>=(97:H))&&decide (Kp a 0<=(122:H)))) from rfl)
def Yf(a:uE):uD:=(Ma a 1)
theorem Zb(a:uE):ACalls uZ 142 [.s a] (.b (Yf a)):=by
 refine en func142 λ_ _ _=>sn [0,2] [] p0 ?_
 exact tn [2] [] (pc 1 (VO a 1) p0)<|Qc<|pb [] (show Yf a=(Ma a 1) from rfl)
def Jb(n:Q0)(a:H):uD:=(bif (n.1==(1:H)) then((n.1==n.1)&&((n.2.1==0)&&((n.2.2.1==0)&&((n.2.2.2.1.toList==(⟨#[]⟩:uE).toList)&&((n.2.2.2.2.1==0)&&((n.2.2.2.2.2.1==0)&&((n.2.2.2.2.2.2.toList==(⟨#[]⟩:uE).toList)&&E))))))) else(bif (n.1==(2:H)) then(((n.1==n.1)&&((n.2.1==0)&&((n.2.2.1==0)&&((n.2.2.2.1.toList==n.2.2.2.1.toList)&&((n.2.2.2.2.1==0)&&((n.2.2.2.2.2.1==0)&&((n.2.2.2.2.2.2.toList==(⟨#[]⟩:uE).toList)&&E)))))))&&(Q8 n.2.2.2.1)) else(bif (bif (n.1==(3:H)) then(n.1==(3:H)) else(n.1==(4:H))) then(((n.1==n.1)&&((n.2.1==0)&&((n.2.2.1==0)&&((n.2.2.2.1.toList==n.2.2.2.1.toList)&&((n.2.2.2.2.1==n.2.2.2.2.1)&&((n.2.2.2.2.2.1==n.2.2.2.2.2.1)&&((n.2.2.2.2.2.2.toList==n.2.2.2.2.2.2.toList)&&E)))))))&&((Q8 n.2.2.2.1)&&((Xf n.2.2.2.2)&&((n.2.2.2.2.1 !=(0:H))&&((n.1==(3:H))|| (n.2.2.2.2.1==(1:H))))))) else(bif (n.1==(5:H)) then(((n.1==n.1)&&((n.2.1==n.2.1)&&((n.2.2.1==0)&&((n.2.2.2.1.toList==(⟨#[]⟩:uE).toList)&&((n.2.2.2.2.1==0)&&((n.2.2.2.2.2.1==0)&&((n.2.2.2.2.2.2.toList==(⟨#[]⟩:uE).toList)&&E)))))))&&(decide (a>(0:H))&&(X6 n.2.1 0 (uX uY (a-1))))) else(bif (bif (n.1==(6:H)) then(n.1==(6:H)) else(n.1==(7:H))) then(((n.1==n.1)&&((n.2.1==n.2.1)&&((n.2.2.1==n.2.2.1)&&((n.2.2.2.1.toList==(⟨#[]⟩:uE).toList)&&((n.2.2.2.2.1==0)&&((n.2.2.2.2.2.1==0)&&((n.2.2.2.2.2.2.toList==(⟨#[]⟩:uE).toList)&&E)))))))&&(decide (a>(0:H))&&((X6 n.2.1 0 (uX uY (a-1)))&&(X6 n.2.2.1 0 (uX uY (a-1)))))) else(bif (n.1==(8:H)) then(((n.1==n.1)&&((n.2.1==0)&&((n.2.2.1==0)&&((n.2.2.2.1.toList==n.2.2.2.1.toList)&&((n.2.2.2.2.1==0)&&((n.2.2.2.2.2.1==0)&&((n.2.2.2.2.2.2.toList==(⟨#[]⟩:uE).toList)&&E)))))))&&(Xp n.2.2.2.1)) else(bif (n.1==(9:H)) then(((n.1==n.1)&&((n.2.1==0)&&((n.2.2.1==0)&&((n.2.2.2.1.toList==n.2.2.2.1.toList)&&((n.2.2.2.2.1==0)&&((n.2.2.2.2.2.1==0)&&((n.2.2.2.2.2.2.toList==(⟨#[]⟩:uE).toList)&&E)))))))&&(Xp n.2.2.2.1)) else uA)))))))
theorem Mb(n:Q0)(a:H):ACalls uZ 244 [.a [.i n.1,.i n.2.1,.i n.2.2.1,.s n.2.2.2.1,.i n.2.2.2.2.1,.i n.2.2.2.2.2.1,.s n.2.2.2.2.2.2],.i a] (.b (Jb n a)):=by
 refine en func244 λ_ _ _=>sn [1,2,4] [2] p0 ?_
 refine tn [1,2,4,5] [2,5] p0<|Qa<|tu [(2,.p 2 0),(4,.b uA),(5,.p 5 0),(10,.i n.1)] [0] [(2, [.i n.1,.i n.2.1,.i n.2.2.1,.s n.2.2.2.1,.i n.2.2.2.2.1,.i n.2.2.2.2.2.1,.s n.2.2.2.2.2.2]),(5, [.i n.1,.i 0,.i 0,.s ⟨#[]⟩,.i 0,.i 0,.s ⟨#[]⟩])] [] p0<|Qn<|sn [1,2,4,5,10,11] [2,5] p0<|ck (n.1==(1:H)) (λq=>?_) (λq=>?_)
 ·exact Qd<|tn [4] [] p0<|Qc<|pb [] (Qu q rfl)
 refine tn [1,2,4,5,10,13] [2,5] p0<|ck (n.1==(2:H)) (λs=>?_) (λs=>?_)
 ·refine tu [] [1,10] [(5, [.i n.1,.i 0,.i 0,.s n.2.2.2.1,.i 0,.i 0,.s ⟨#[]⟩])] [5] p0<|Qa<|jn [(4,.b (((n.1==n.1)&&((n.2.1==0)&&((n.2.2.1==0)&&((n.2.2.2.1.toList==n.2.2.2.1.toList)&&((n.2.2.2.2.1==0)&&((n.2.2.2.2.2.1==0)&&((n.2.2.2.2.2.2.toList==(⟨#[]⟩:uE).toList)&&E)))))))&&(Q8 n.2.2.2.1)))] [4] [] [] ((n.1==n.1)&&((n.2.1==0)&&((n.2.2.1==0)&&((n.2.2.2.1.toList==n.2.2.2.1.toList)&&((n.2.2.2.2.1==0)&&((n.2.2.2.2.2.1==0)&&((n.2.2.2.2.2.2.toList==(⟨#[]⟩:uE).toList)&&E))))))) (λw=>?_) (λw=>?_) ?_
  ·exact rn [2,4,5] [2,5] (pt 2 w (pc 6 (Ja n.2.2.2.1) p0))<|zA (by rw[w]<;>kernel_rfl)
  ·exact ru [] [] [] [] (pf 2 w p0)<|zA (by rw[w]<;>kernel_rfl)
  exact Qc<|pb [] (Qh q (Qu s rfl))
 refine Qa<|tu [(26,.b (n.1==(3:H)))] [] [] [] p0<|jn [(26,.b (bif (n.1==(3:H)) then(n.1==(3:H)) else(n.1==(4:H))))] [26] [] [] (n.1==(3:H)) (λx=>?_) (λx=>?_) ?_
 ·refine ckt x ?_;exact Qd<|⟨rfl,Qe (by rw[x]<;>kernel_rfl)⟩
 ·refine ckf x ?_;exact rn [1,2,4,5,10,26] [2,5] p0<|zA (by rw[x]<;>kernel_rfl)
 refine ck (bif (n.1==(3:H)) then(n.1==(3:H)) else(n.1==(4:H))) (λt=>?_) (λt=>?_)
 ·refine sN [2,4,5] [2,5] p0<|Qa<|mz [] [1,10,26] [(5, [.i n.1,.i 0,.i 0,.s n.2.2.2.1,.i n.2.2.2.2.1,.i n.2.2.2.2.2.1,.s n.2.2.2.2.2.2])] [5]<|jn [(4,.b (((n.1==n.1)&&((n.2.1==0)&&((n.2.2.1==0)&&((n.2.2.2.1.toList==n.2.2.2.1.toList)&&((n.2.2.2.2.1==n.2.2.2.2.1)&&((n.2.2.2.2.2.1==n.2.2.2.2.2.1)&&((n.2.2.2.2.2.2.toList==n.2.2.2.2.2.2.toList)&&E)))))))&&((Q8 n.2.2.2.1)&&((Xf n.2.2.2.2)&&((n.2.2.2.2.1 !=(0:H))&&((n.1==(3:H))|| (n.2.2.2.2.1==(1:H))))))))] [4] [] [] ((n.1==n.1)&&((n.2.1==0)&&((n.2.2.1==0)&&((n.2.2.2.1.toList==n.2.2.2.1.toList)&&((n.2.2.2.2.1==n.2.2.2.2.1)&&((n.2.2.2.2.2.1==n.2.2.2.2.2.1)&&((n.2.2.2.2.2.2.toList==n.2.2.2.2.2.2.toList)&&E))))))) (λe=>?_) (λe=>?_) ?_
  ·refine Ye (Q8 n.2.2.2.1) (λg=>?_) (λg=>?_)
   ·refine Ye (Xf n.2.2.2.2) (λr=>?_) (λr=>?_)
    ·refine Ye (n.2.2.2.2.1 !=(0:H)) (λu=>?_) (λu=>?_)
     ·refine Ye (n.1==(3:H)) (λh=>?_) (λh=>?_)
      ·exact rn [2,4,5] [2,5] (pt 2 e (pc 6 (cb g (Ja n.2.2.2.1)) (pc 11 (cb r (K4 n.2.2.2.2)) (pt 17 u (pt 22 h p0)))))<|zA (by rw[e,g,r,u,h]<;>kernel_rfl)
      exact rn [2,4,5] [2,5] (pt 2 e (pc 6 (cb g (Ja n.2.2.2.1)) (pc 11 (cb r (K4 n.2.2.2.2)) (pt 17 u (pf 22 h p0)))))<|zA (by rw[e,g,r,u,h]<;>kernel_rfl)
     exact ru [] [] [] [] (pt 2 e (pc 6 (cb g (Ja n.2.2.2.1)) (pc 11 (cb r (K4 n.2.2.2.2)) (pf 17 u p0))))<|zA (by rw[e,g,r,u]<;>kernel_rfl)
    exact ru [] [] [] [] (pt 2 e (pc 6 (cb g (Ja n.2.2.2.1)) (pc 11 (cb r (K4 n.2.2.2.2)) p0)))<|zA (by rw[e,g,r]<;>kernel_rfl)
   exact ru [] [] [] [] (pt 2 e (pc 6 (cb g (Ja n.2.2.2.1)) p0))<|zA (by rw[e,g]<;>kernel_rfl)
  ·exact ru [] [] [] [] (pf 2 e p0)<|zA (by rw[e]<;>kernel_rfl)
  exact Qc<|pb [] (Qh q (Qh s (Qu t rfl)))
 refine sn [1,2,4,5,10,65] [2,5] p0<|ck (n.1==(5:H)) (λf=>?_) (λf=>?_)
 ·refine tn [1,2,4,5] [2,5] p0<|Qa<|mz [] [10,26] [(5, [.i n.1,.i n.2.1,.i 0,.s ⟨#[]⟩,.i 0,.i 0,.s ⟨#[]⟩])] [5]<|jn [(4,.b (((n.1==n.1)&&((n.2.1==n.2.1)&&((n.2.2.1==0)&&((n.2.2.2.1.toList==(⟨#[]⟩:uE).toList)&&((n.2.2.2.2.1==0)&&((n.2.2.2.2.2.1==0)&&((n.2.2.2.2.2.2.toList==(⟨#[]⟩:uE).toList)&&E)))))))&&(decide (a>(0:H))&&(X6 n.2.1 0 (uX uY (a-1))))))] [1,4] [] [] ((n.1==n.1)&&((n.2.1==n.2.1)&&((n.2.2.1==0)&&((n.2.2.2.1.toList==(⟨#[]⟩:uE).toList)&&((n.2.2.2.2.1==0)&&((n.2.2.2.2.2.1==0)&&((n.2.2.2.2.2.2.toList==(⟨#[]⟩:uE).toList)&&E))))))) (λc=>?_) (λc=>?_) ?_
  ·refine Ye (decide (a>(0:H))) (λi=>?_) (λi=>?_)
   ·exact rn [2,4,5] [2,5] (pt 2 c (pt 5 i (pc 12 (Kt n.2.1 0 (uX uY (a-1))) p0)))<|zA (by rw[c,i]<;>kernel_rfl)
   exact ru [] [1] [] [] (pt 2 c (pf 5 i p0))<|zA (by rw[c,i]<;>kernel_rfl)
  ·exact ru [] [1] [] [] (pf 2 c p0)<|zA (by rw[c]<;>kernel_rfl)
  exact Qc<|pb [] (Qh q (Qh s (Qh t (Qu f rfl))))
 refine Qa<|tn [1,2,4,5,10,84] [2,5] p0<|mz [(84,.b (n.1==(6:H)))] [26] [] []<|jn [(84,.b (bif (n.1==(6:H)) then(n.1==(6:H)) else(n.1==(7:H))))] [84] [] [] (n.1==(6:H)) (λj=>?_) (λj=>?_) ?_
 ·refine ckt j ?_;exact Qd<|⟨rfl,Qe (by rw[j]<;>kernel_rfl)⟩
 ·refine ckf j ?_;exact rn [1,2,4,5,10,84] [2,5] p0<|zA (by rw[j]<;>kernel_rfl)
 refine ck (bif (n.1==(6:H)) then(n.1==(6:H)) else(n.1==(7:H))) (λk=>?_) (λk=>?_)
 ·refine sN [1,2,4,5] [2,5] p0<|Qa<|mz [] [10,84] [(5, [.i n.1,.i n.2.1,.i n.2.2.1,.s ⟨#[]⟩,.i 0,.i 0,.s ⟨#[]⟩])] [5]<|jn [(4,.b (((n.1==n.1)&&((n.2.1==n.2.1)&&((n.2.2.1==n.2.2.1)&&((n.2.2.2.1.toList==(⟨#[]⟩:uE).toList)&&((n.2.2.2.2.1==0)&&((n.2.2.2.2.2.1==0)&&((n.2.2.2.2.2.2.toList==(⟨#[]⟩:uE).toList)&&E)))))))&&(decide (a>(0:H))&&((X6 n.2.1 0 (uX uY (a-1)))&&(X6 n.2.2.1 0 (uX uY (a-1)))))))] [1,4] [] [] ((n.1==n.1)&&((n.2.1==n.2.1)&&((n.2.2.1==n.2.2.1)&&((n.2.2.2.1.toList==(⟨#[]⟩:uE).toList)&&((n.2.2.2.2.1==0)&&((n.2.2.2.2.2.1==0)&&((n.2.2.2.2.2.2.toList==(⟨#[]⟩:uE).toList)&&E))))))) (λb=>?_) (λb=>?_) ?_
  ·refine Ye (decide (a>(0:H))) (λd=>?_) (λd=>?_)
   ·refine Ye (X6 n.2.1 0 (uX uY (a-1))) (λl=>?_) (λl=>?_)
    ·exact rn [2,4,5] [2,5] (pt 2 b (pt 5 d (pc 12 (cb l (Kt n.2.1 0 (uX uY (a-1)))) (pc 19 (Kt n.2.2.1 0 (uX uY (a-1))) p0))))<|zA (by rw[b,d,l]<;>kernel_rfl)
    exact ru [] [1] [] [] (pt 2 b (pt 5 d (pc 12 (cb l (Kt n.2.1 0 (uX uY (a-1)))) p0)))<|zA (by rw[b,d,l]<;>kernel_rfl)
   exact ru [] [1] [] [] (pt 2 b (pf 5 d p0))<|zA (by rw[b,d]<;>kernel_rfl)
  ·exact ru [] [1] [] [] (pf 2 b p0)<|zA (by rw[b]<;>kernel_rfl)
  exact Qc<|pb [] (Qh q (Qh s (Qh t (Qh f (Qu k rfl)))))
 refine Qa<|sn [2,4,5,10,114] [2,5] p0<|ck (n.1==(8:H)) (λm=>?_) (λm=>?_)
 ·refine Qd<|ckt m ?_
  refine tn [2,4,5] [2,5] p0<|Qa<|mz [] [1,10,84] [(5, [.i n.1,.i 0,.i 0,.s n.2.2.2.1,.i 0,.i 0,.s ⟨#[]⟩])] [5]<|jn [(4,.b (((n.1==n.1)&&((n.2.1==0)&&((n.2.2.1==0)&&((n.2.2.2.1.toList==n.2.2.2.1.toList)&&((n.2.2.2.2.1==0)&&((n.2.2.2.2.2.1==0)&&((n.2.2.2.2.2.2.toList==(⟨#[]⟩:uE).toList)&&E)))))))&&(Xp n.2.2.2.1)))] [4] [] [] ((n.1==n.1)&&((n.2.1==0)&&((n.2.2.1==0)&&((n.2.2.2.1.toList==n.2.2.2.1.toList)&&((n.2.2.2.2.1==0)&&((n.2.2.2.2.2.1==0)&&((n.2.2.2.2.2.2.toList==(⟨#[]⟩:uE).toList)&&E))))))) (λo=>?_) (λo=>?_) ?_
  ·exact rn [2,4,5] [2,5] (pt 2 o (pc 6 (Wl n.2.2.2.1) p0))<|zA (by rw[o]<;>kernel_rfl)
  ·exact ru [] [] [] [] (pf 2 o p0)<|zA (by rw[o]<;>kernel_rfl)
  exact Qc<|pb [] (Qh q (Qh s (Qh t (Qh f (Qh k (Qu m rfl))))))
 refine qn [2,4,5,114] [2,5] p0 ?_;refine ck (n.1==(9:H)) (λv=>?_) (λv=>?_)
 ·refine tu [] [1,10,84] [(5, [.i n.1,.i 0,.i 0,.s n.2.2.2.1,.i 0,.i 0,.s ⟨#[]⟩])] [5] p0<|Qa<|jn [(4,.b (((n.1==n.1)&&((n.2.1==0)&&((n.2.2.1==0)&&((n.2.2.2.1.toList==n.2.2.2.1.toList)&&((n.2.2.2.2.1==0)&&((n.2.2.2.2.2.1==0)&&((n.2.2.2.2.2.2.toList==(⟨#[]⟩:uE).toList)&&E)))))))&&(Xp n.2.2.2.1)))] [4] [] [] ((n.1==n.1)&&((n.2.1==0)&&((n.2.2.1==0)&&((n.2.2.2.1.toList==n.2.2.2.1.toList)&&((n.2.2.2.2.1==0)&&((n.2.2.2.2.2.1==0)&&((n.2.2.2.2.2.2.toList==(⟨#[]⟩:uE).toList)&&E))))))) (λp=>?_) (λp=>?_) ?_
  ·exact rn [2,4,5] [2,5] (pt 2 p (pc 6 (Wl n.2.2.2.1) p0))<|zA (by rw[p]<;>kernel_rfl)
  ·exact ru [] [] [] [] (pf 2 p p0)<|zA (by rw[p]<;>kernel_rfl)
  exact Qc<|pb [] (Qh q (Qh s (Qh t (Qh f (Qh k (Qh m (Qu v rfl)))))))
 exact tu [] [1,10,84] [] [] p0<|Qc<|pb [] (Qh q (Qh s (Qh t (Qh f (Qh k (Qh m (Qh v rfl)))))))
def Wb(b:H)(_:Y)(a:Q0)(c:H):Rd (H) (H) (H):=(bif ((a.2.1==b)&&(((a.1==(6:H))|| (a.1==(7:H)))|| (a.1==(5:H)))) then(bif ((a.2.2.1==b)&&((a.1==(6:H))|| (a.1==(7:H)))) then(.next (uX uY (uX uY (c+1)+1))) else(.next (uX uY (c+1)))) else(bif ((a.2.2.1==b)&&((a.1==(6:H))|| (a.1==(7:H)))) then(.next (uX uY (c+1))) else(.next c)))
def Bv(_:Y)(a:H):H:=a
def Vp(q:O Q0)(a:H):H:=(Out.on (X5 (Wb a) Bv q 0 0) (λb=>b))
theorem XO(q:O Q0)(b:H):ACalls uZ 245 [.h q,.i b] (.i (Vp q b)):=by
 refine en func245 λ_ _ _=>sn [0,1,4] [] p0 ?_
 refine tn [0,1,4,5] [] p0<|Qa<|tu [(4,.i 0),(5,.i 0),(9,.h q),(10,.i (q.length:H)),(11,.i 0)] [0] [] [] (pl 1 q p0)<|wT 9 0 .sh q (λs t=>?_)
 refine S8 (Wb b) Bv q 0 (λc n=> [(5,.i n),(11,.i (c:H))]) [5,11] (λr=> [(5,.i r)]) [1,5,9,10,11] wf0 (λc n d U=>?_) (λc n d U=>?_) (λr o=>?_)
 ·obtain⟨a,V⟩:=Xn (l:=q) (i:=c) d;refine su [(12,.b E)] [] [] [] (pe 0 (zB ((c:H)<(q.length:H))) p0)<|Qa<|ckT<|Qd<|Qa<|Qn<|sn [1,4,5,7,9,10,11] [7] (pn 0 V p0)<|Qa<|mz [(7,.p 7 0)] [12] [(7, [.i a.1,.i a.2.1,.i a.2.2.1,.s a.2.2.2.1,.i a.2.2.2.2.1,.i a.2.2.2.2.2.1,.s a.2.2.2.2.2.2])] []<|jn [(8,.b ((a.1==(6:H))|| (a.1==(7:H))))] [] [] [] (a.1==(6:H)) (λg=>?_) (λg=>?_) ?_
  ·exact ru [(8,.b E)] [] [] [] (pt 2 g p0)<|zA (by rw[g]<;>kernel_rfl)
  ·exact rn [1,4,5,7,8,9,10,11] [7] (pf 2 g p0)<|zA (by rw[g]<;>kernel_rfl)
  refine Qa<|Qa<|jn [(34,.b ((a.2.1==b)&&(((a.1==(6:H))|| (a.1==(7:H)))|| (a.1==(5:H)))))] [] [] [] (a.2.1==b) (λe=>?_) (λe=>?_) ?_
  ·refine Ye ((a.1==(6:H))|| (a.1==(7:H))) (λh=>?_) (λh=>?_)
   ·exact ru [(34,.b E)] [] [] [] (pt 3 e (pt 5 h p0))<|zA (by rw[e,h]<;>kernel_rfl)
   exact rn [1,4,5,7,8,9,10,11,34] [7] (pt 3 e (pf 5 h p0))<|zA (by rw[e,h]<;>kernel_rfl)
  ·exact ru [(34,.b uA)] [] [] [] (pf 3 e p0)<|zA (by rw[e]<;>kernel_rfl)
  refine ck ((a.2.1==b)&&(((a.1==(6:H))|| (a.1==(7:H)))|| (a.1==(5:H)))) (λj=>?_) (λj=>?_)
  ·refine rn [1,4,5,7,8,9,10,11] [7] p0 ?_;refine Qa<|mz [(5,.i (uX uY (n+1)))] [5,34] [] []<|jn [(43,.b ((a.2.2.1==b)&&((a.1==(6:H))|| (a.1==(7:H)))))] [7,8] [] [7] (a.2.2.1==b) (λk=>?_) (λk=>?_) ?_
   ·exact rn [1,4,5,9,10,11,43] [] (pt 3 k p0)<|zA (by rw[k]<;>kernel_rfl)
   ·exact rn [1,4,5,9,10,11,43] [] (pf 3 k p0)<|zA (by rw[k]<;>kernel_rfl)
   refine ck ((a.2.2.1==b)&&((a.1==(6:H))|| (a.1==(7:H)))) (λp=>?_) (λp=>?_)
   ·refine rn [1,4,5,9,10,11] [] p0 ?_;refine qn [1,4,5,9,10,11] [] (pw 0 c p0) ?_;exact xw _ (Qp V (Qu j (Qu p rfl)) U)
   refine Qd<|rn [1,4,5,9,10,11] [] (pw 0 c p0) ?_
   exact xw _ (Qp V (Qu j (Qh p rfl)) U)
  refine Qd<|Qa<|jn [(43,.b ((a.2.2.1==b)&&((a.1==(6:H))|| (a.1==(7:H)))))] [7,8,34] [] [7] (a.2.2.1==b) (λm=>?_) (λm=>?_) ?_
  ·exact rn [1,4,5,9,10,11,43] [] (pt 3 m p0)<|zA (by rw[m]<;>kernel_rfl)
  ·exact rn [1,4,5,9,10,11,43] [] (pf 3 m p0)<|zA (by rw[m]<;>kernel_rfl)
  refine ck ((a.2.2.1==b)&&((a.1==(6:H))|| (a.1==(7:H)))) (λf=>?_) (λf=>?_)
  ·refine rn [1,4,5,9,10,11] [] p0 ?_;refine qn [1,4,5,9,10,11] [] (pw 0 c p0) ?_;exact xw _ (Qp V (Qh j (Qu f rfl)) U)
  refine Qd<|rn [1,4,5,9,10,11] [] (pw 0 c p0) ?_
  exact xw _ (Qp V (Qh j (Qh f rfl)) U)
 ·exact su [(12,.b uA)] [] [] [] (pe 0 (zC ((c:H)<(q.length:H))) p0)<|Qa<|ckF<|Qv<|xw _ (Xo d rfl U)
 exact sn [4] [] p0<|Qc<|pi [] (Vz o rfl)
def Ju(q:O Q0)(a:Y)(b:Q0)(_:uL):Rd (uD) (uL) (uL):=(bif ((!(Jb b (a:H)))|| (decide ((a:H)<((q.length:H)-1))&&((Vp q (a:H)) !=(1:H)))) then(.ret uA) else(.next ()))
def Um(_:Y)(_:uL):uL:=()
def Qm(q:O Q0):uD:=(Out.on (X5 (Ju q) Um q 0 ()) (λ_=>(X6 (q.length:H) 1 9)))
theorem Uu(q:O Q0):ACalls uZ 176 [.h q] (.b (Qm q)):=by
 refine en func176 λ_ _ _=>sn [0,2] [] p0 ?_
 refine Qa<|tn [0,2,5,6,7] [] (pl 1 q p0)<|mz [(2,.b uA),(5,.h q),(6,.i (q.length:H)),(7,.i 0)] [] [] []<|wT 0 0 .sh q (λm n=>?_)
 refine S8 (Ju q) Um q () (λa _=> [(7,.i (a:H))]) [7] (λ_=> []) [5,6,7] wf0 (λa o d U=>?_) (λa o d U=>?_) (λp g=>?_)
 ·obtain⟨b,V⟩:=Xn (l:=q) (i:=a) d;refine sn [0,2,5,6,7,8] [] (pe 0 (zB ((a:H)<(q.length:H))) p0)<|Qa<|ckT<|Qd<|Qa<|Qn<|tn [0,2,3,4,5,6,7] [4] (pn 1 V p0)<|Qa<|mz [(3,.i (a:H)),(4,.p 4 0)] [] [(4, [.i b.1,.i b.2.1,.i b.2.2.1,.s b.2.2.2.1,.i b.2.2.2.2.1,.i b.2.2.2.2.2.1,.s b.2.2.2.2.2.2])] []<|jn [(28,.b ((!(Jb b (a:H)))|| (decide ((a:H)<((q.length:H)-1))&&((Vp q (a:H)) !=(1:H)))))] [3,4] [] [4] (!(Jb b (a:H))) (λf=>?_) (λf=>?_) ?_
  ·have c:(Jb b (a:H))=uA:=Kj f;exact rn [0,2,5,6,7,28] [] (pc 2 (cb c (Mb b (a:H))) (pe 3 (show .b (!uA)= .b E from rfl) p0))<|zA (by rw[f]<;>kernel_rfl)
  ·have c:(Jb b (a:H))=E:=Yu f;refine Ye (decide ((a:H)<((q.length:H)-1))) (λe=>?_) (λe=>?_)
   ·have h:=uV e;exact rn [0,2,5,6,7,28] [] (pc 2 (cb c (Mb b (a:H))) (pe 3 (show .b (!E)= .b uA from rfl) (pl 7 q (pe 8 (Nn (IntWalk.i64_in ((q.length:H)-1) (by omega))) (pt 9 e (pc 13 (XO q (a:H)) p0))))))<|zA (by rw[f,e]<;>kernel_rfl)
   have h:=uU e;exact rn [0,2,5,6,7,28] [] (pc 2 (cb c (Mb b (a:H))) (pe 3 (show .b (!E)= .b uA from rfl) (pl 7 q (pe 8 (Nn (IntWalk.i64_in ((q.length:H)-1) (by omega))) (pf 9 e p0)))))<|zA (by rw[f,e]<;>kernel_rfl)
  refine ck ((!(Jb b (a:H)))|| (decide ((a:H)<((q.length:H)-1))&&((Vp q (a:H)) !=(1:H)))) (λj=>?_) (λj=>?_)
  ·refine su [] [28] [] [] p0<|Qc ?_
   have k:(X5 (Ju q) Um q 0 ())= .ret uA:=Kc V (Qu j rfl) U;exact pb [] (Pe k)
  refine Qd<|rn [0,2,5,6,7] [] (pw 0 a p0) ?_
  exact xw _ (Qp V (Qh j rfl) U)
 ·exact sn [0,2,5,6,7,8] [] (pe 0 (zC ((a:H)<(q.length:H))) p0)<|Qa<|ckF<|Qv<|xw _ (Xo d rfl U)
 exact sn [2] [] (pl 1 q (pc 2 (Kt (q.length:H) 1 9) p0))<|Qc<|pb [] (Vz g rfl)
def Uv(n:Q0)(a:H):uD:=(bif (n.1==(1:H)) then((n.1==1)&&((n.2.1==0)&&((n.2.2.1==0)&&((n.2.2.2.1.toList==(⟨#[]⟩:uE).toList)&&((n.2.2.2.2.1==0)&&((n.2.2.2.2.2.1==0)&&((n.2.2.2.2.2.2.toList==(⟨#[]⟩:uE).toList)&&E))))))) else(bif (n.1==(2:H)) then((Yf n.2.2.2.1)&&((n.1==n.1)&&((n.2.1==0)&&((n.2.2.1==0)&&((n.2.2.2.1.toList==n.2.2.2.1.toList)&&((n.2.2.2.2.1==0)&&((n.2.2.2.2.2.1==0)&&((n.2.2.2.2.2.2.toList==(⟨#[]⟩:uE).toList)&&E)))))))) else(bif (n.1==(3:H)) then((Yf n.2.2.2.1)&&((Yk n.2.2.2.2)&&((n.2.2.2.2.1 !=(0:H))&&((n.2.1==(0:H))&&(n.2.2.1==(0:H)))))) else(bif (n.1==(4:H)) then((Yf n.2.2.2.1)&&((Yk n.2.2.2.2)&&((n.2.2.2.2.1==(1:H))&&((n.2.1==(0:H))&&(n.2.2.1==(0:H)))))) else(bif (n.1==(5:H)) then(((Xd n.2.1 0 (uX uY (a-1)))&&decide (a>(0:H)))&&((n.2.2.1==(0:H))&&((n.2.2.2.1.toList==(⟨#[]⟩:uE).toList)&&((n.2.2.2.2.1==0)&&((n.2.2.2.2.2.1==0)&&((n.2.2.2.2.2.2.toList==(⟨#[]⟩:uE).toList)&&E)))))) else(bif (bif (n.1==(6:H)) then(n.1==(6:H)) else(n.1==(7:H))) then((((Xd n.2.1 0 (uX uY (a-1)))&&decide (a>(0:H)))&&(Xd n.2.2.1 0 (uX uY (a-1))))&&((n.2.2.2.1.toList==(⟨#[]⟩:uE).toList)&&((n.2.2.2.2.1==0)&&((n.2.2.2.2.2.1==0)&&((n.2.2.2.2.2.2.toList==(⟨#[]⟩:uE).toList)&&E))))) else(bif (n.1==(8:H)) then((Zu n.2.2.2.1)&&((n.1==n.1)&&((n.2.1==0)&&((n.2.2.1==0)&&((n.2.2.2.1.toList==n.2.2.2.1.toList)&&((n.2.2.2.2.1==0)&&((n.2.2.2.2.2.1==0)&&((n.2.2.2.2.2.2.toList==(⟨#[]⟩:uE).toList)&&E)))))))) else(bif (n.1==(9:H)) then((Zu n.2.2.2.1)&&((n.1==n.1)&&((n.2.1==0)&&((n.2.2.1==0)&&((n.2.2.2.1.toList==n.2.2.2.1.toList)&&((n.2.2.2.2.1==0)&&((n.2.2.2.2.2.1==0)&&((n.2.2.2.2.2.2.toList==(⟨#[]⟩:uE).toList)&&E)))))))) else uA))))))))
theorem Mc(n:Q0)(a:H):ACalls uZ 207 [.a [.i n.1,.i n.2.1,.i n.2.2.1,.s n.2.2.2.1,.i n.2.2.2.2.1,.i n.2.2.2.2.2.1,.s n.2.2.2.2.2.2],.i a] (.b (Uv n a)):=by
 refine en func207 λ_ _ _=>sn [1,2,4] [2] p0 ?_
 refine Qa<|mz [(2,.p 2 0),(4,.b uA)] [0] [(2, [.i n.1,.i n.2.1,.i n.2.2.1,.s n.2.2.2.1,.i n.2.2.2.2.1,.i n.2.2.2.2.2.1,.s n.2.2.2.2.2.2])] []<|jn [(5,.b ((Xd n.2.1 0 (uX uY (a-1)))&&decide (a>(0:H))))] [] [] [] (Xd n.2.1 0 (uX uY (a-1))) (λh1=>?_) (λh1=>?_) ?_
 ·exact rn [1,2,4,5] [2] (pc 4 (cb h1 (Js n.2.1 0 (uX uY (a-1)))) p0)<|zA (by rw[h1]<;>kernel_rfl)
 ·exact rn [1,2,4,5] [2] (pc 4 (cb h1 (Js n.2.1 0 (uX uY (a-1)))) p0)<|zA (by rw[h1]<;>kernel_rfl)
 refine Qa<|jn [(6,.b (((Xd n.2.1 0 (uX uY (a-1)))&&decide (a>(0:H)))&&(Xd n.2.2.1 0 (uX uY (a-1)))))] [1] [] [] ((Xd n.2.1 0 (uX uY (a-1)))&&decide (a>(0:H))) (λh2=>?_) (λh2=>?_) ?_
 ·exact rn [2,4,5,6] [2] (pt 0 h2 (pc 6 (Js n.2.2.1 0 (uX uY (a-1))) p0))<|zA (by rw[h2]<;>kernel_rfl)
 ·exact rn [2,4,5,6] [2] (pf 0 h2 p0)<|zA (by rw[h2]<;>kernel_rfl)
 refine Qa<|sn [2,4,5,6,25] [2] p0<|Qn<|tn [2,4,5,6,25,26] [2] p0<|ck (n.1==(1:H)) (λu=>?_) (λu=>?_)
 ·exact tu [(4,.b ((n.1==1)&&((n.2.1==0)&&((n.2.2.1==0)&&((n.2.2.2.1.toList==(⟨#[]⟩:uE).toList)&&((n.2.2.2.2.1==0)&&((n.2.2.2.2.2.1==0)&&((n.2.2.2.2.2.2.toList==(⟨#[]⟩:uE).toList)&&E))))))))] [2,4,5,6] [] [2] p0<|Qc<|pb [] (Qu u rfl)
 refine tu [(25,.i n.1),(31,.b (n.1==(2:H)))] [] [] [] p0<|ck (n.1==(2:H)) (λv=>?_) (λv=>?_)
 ·refine Qa<|jn [(4,.b ((Yf n.2.2.2.1)&&((n.1==n.1)&&((n.2.1==0)&&((n.2.2.1==0)&&((n.2.2.2.1.toList==n.2.2.2.1.toList)&&((n.2.2.2.2.1==0)&&((n.2.2.2.2.2.1==0)&&((n.2.2.2.2.2.2.toList==(⟨#[]⟩:uE).toList)&&E)))))))))] [2,4,5,6,25,31] [] [2] (Yf n.2.2.2.1) (λh5=>?_) (λh5=>?_) ?_
  ·exact rn [4] [] (pc 2 (cb h5 (Zb n.2.2.2.1)) p0)<|zA (by rw[h5]<;>kernel_rfl)
  ·exact rn [4] [] (pc 2 (cb h5 (Zb n.2.2.2.1)) p0)<|zA (by rw[h5]<;>kernel_rfl)
  exact Qc<|pb [] (Qh u (Qu v rfl))
 refine sn [2,4,5,6,25,45] [2] p0<|ck (n.1==(3:H)) (λx=>?_) (λx=>?_)
 ·refine Qa<|mz [(45,.b (n.1==(3:H)))] [31] [] []<|jn [(4,.b ((Yf n.2.2.2.1)&&((Yk n.2.2.2.2)&&((n.2.2.2.2.1 !=(0:H))&&((n.2.1==(0:H))&&(n.2.2.1==(0:H)))))))] [2,4,5,6,25,45] [] [2] (Yf n.2.2.2.1) (λj=>?_) (λj=>?_) ?_
  ·refine Ye (Yk n.2.2.2.2) (λw=>?_) (λw=>?_)
   ·refine Ye (n.2.2.2.2.1 !=(0:H)) (λy=>?_) (λy=>?_)
    ·refine Ye (n.2.1==(0:H)) (λk=>?_) (λk=>?_)
     ·exact rn [4] [] (pc 2 (cb j (Zb n.2.2.2.1)) (pc 6 (cb w (Z8 n.2.2.2.2)) (pt 12 y (pt 17 k p0))))<|zA (by rw[j,w,y,k]<;>kernel_rfl)
     exact rn [4] [] (pc 2 (cb j (Zb n.2.2.2.1)) (pc 6 (cb w (Z8 n.2.2.2.2)) (pt 12 y (pf 17 k p0))))<|zA (by rw[j,w,y,k]<;>kernel_rfl)
    exact rn [4] [] (pc 2 (cb j (Zb n.2.2.2.1)) (pc 6 (cb w (Z8 n.2.2.2.2)) (pf 12 y p0)))<|zA (by rw[j,w,y]<;>kernel_rfl)
   exact rn [4] [] (pc 2 (cb j (Zb n.2.2.2.1)) (pc 6 (cb w (Z8 n.2.2.2.2)) p0))<|zA (by rw[j,w]<;>kernel_rfl)
  ·exact rn [4] [] (pc 2 (cb j (Zb n.2.2.2.1)) p0)<|zA (by rw[j]<;>kernel_rfl)
  exact Qc<|pb [] (Qh u (Qh v (Qu x rfl)))
 refine tn [2,4,5,6,25,71] [2] p0<|ck (n.1==(4:H)) (λe=>?_) (λe=>?_)
 ·refine Qa<|mz [(71,.b (n.1==(4:H)))] [31] [] []<|jn [(4,.b ((Yf n.2.2.2.1)&&((Yk n.2.2.2.2)&&((n.2.2.2.2.1==(1:H))&&((n.2.1==(0:H))&&(n.2.2.1==(0:H)))))))] [2,4,5,6,25,71] [] [2] (Yf n.2.2.2.1) (λb=>?_) (λb=>?_) ?_
  ·refine Ye (Yk n.2.2.2.2) (λc=>?_) (λc=>?_)
   ·refine Ye (n.2.2.2.2.1==(1:H)) (λf=>?_) (λf=>?_)
    ·refine Ye (n.2.1==(0:H)) (λl=>?_) (λl=>?_)
     ·exact rn [4] [] (pc 2 (cb b (Zb n.2.2.2.1)) (pc 6 (cb c (Z8 n.2.2.2.2)) (pt 12 f (pt 17 l p0))))<|zA (by rw[b,c,f,l]<;>kernel_rfl)
     exact rn [4] [] (pc 2 (cb b (Zb n.2.2.2.1)) (pc 6 (cb c (Z8 n.2.2.2.2)) (pt 12 f (pf 17 l p0))))<|zA (by rw[b,c,f,l]<;>kernel_rfl)
    exact rn [4] [] (pc 2 (cb b (Zb n.2.2.2.1)) (pc 6 (cb c (Z8 n.2.2.2.2)) (pf 12 f p0)))<|zA (by rw[b,c,f]<;>kernel_rfl)
   exact rn [4] [] (pc 2 (cb b (Zb n.2.2.2.1)) (pc 6 (cb c (Z8 n.2.2.2.2)) p0))<|zA (by rw[b,c]<;>kernel_rfl)
  ·exact rn [4] [] (pc 2 (cb b (Zb n.2.2.2.1)) p0)<|zA (by rw[b]<;>kernel_rfl)
  exact Qc<|pb [] (Qh u (Qh v (Qh x (Qu e rfl))))
 refine tu [(97,.b (n.1==(5:H)))] [31] [] [] p0<|ck (n.1==(5:H)) (λi=>?_) (λi=>?_)
 ·refine Qa<|jn [(4,.b (((Xd n.2.1 0 (uX uY (a-1)))&&decide (a>(0:H)))&&((n.2.2.1==(0:H))&&((n.2.2.2.1.toList==(⟨#[]⟩:uE).toList)&&((n.2.2.2.2.1==0)&&((n.2.2.2.2.2.1==0)&&((n.2.2.2.2.2.2.toList==(⟨#[]⟩:uE).toList)&&E)))))))] [2,4,5,6,25,97] [] [2] ((Xd n.2.1 0 (uX uY (a-1)))&&decide (a>(0:H))) (λd=>?_) (λd=>?_) ?_
  ·refine Ye (n.2.2.1==(0:H)) (λg=>?_) (λg=>?_)
   ·refine Ye (n.2.2.2.1.toList==(⟨#[]⟩:uE).toList) (λm=>?_) (λm=>?_)
    ·exact rn [4] [] (pt 0 d (pt 4 g (pt 9 m p0)))<|zA (by rw[d,g,m]<;>kernel_rfl)
    exact rn [4] [] (pt 0 d (pt 4 g (pf 9 m p0)))<|zA (by rw[d,g,m]<;>kernel_rfl)
   exact rn [4] [] (pt 0 d (pf 4 g p0))<|zA (by rw[d,g]<;>kernel_rfl)
  ·exact rn [4] [] (pf 0 d p0)<|zA (by rw[d]<;>kernel_rfl)
  exact Qc<|pb [] (Qh u (Qh v (Qh x (Qh e (Qu i rfl)))))
 refine Qa<|sn [2,4,6,25,116] [2] p0<|mz [(116,.b (n.1==(6:H)))] [5,97] [] []<|jn [(116,.b (bif (n.1==(6:H)) then(n.1==(6:H)) else(n.1==(7:H))))] [116] [] [] (n.1==(6:H)) (λo=>?_) (λo=>?_) ?_
 ·refine ckt o ?_;exact Qd<|⟨rfl,Qe (by rw[o]<;>kernel_rfl)⟩
 ·refine ckf o ?_;exact rn [2,4,6,25,116] [2] p0<|zA (by rw[o]<;>kernel_rfl)
 refine ck (bif (n.1==(6:H)) then(n.1==(6:H)) else(n.1==(7:H))) (λp=>?_) (λp=>?_)
 ·refine Qa<|jn [(4,.b ((((Xd n.2.1 0 (uX uY (a-1)))&&decide (a>(0:H)))&&(Xd n.2.2.1 0 (uX uY (a-1))))&&((n.2.2.2.1.toList==(⟨#[]⟩:uE).toList)&&((n.2.2.2.2.1==0)&&((n.2.2.2.2.2.1==0)&&((n.2.2.2.2.2.2.toList==(⟨#[]⟩:uE).toList)&&E))))))] [2,4,6,25,116] [] [2] (((Xd n.2.1 0 (uX uY (a-1)))&&decide (a>(0:H)))&&(Xd n.2.2.1 0 (uX uY (a-1)))) (λh=>?_) (λh=>?_) ?_
  ·refine Ye (n.2.2.2.1.toList==(⟨#[]⟩:uE).toList) (λq=>?_) (λq=>?_)
   ·exact rn [4] [] (pt 0 h (pt 4 q p0))<|zA (by rw[h,q]<;>kernel_rfl)
   exact rn [4] [] (pt 0 h (pf 4 q p0))<|zA (by rw[h,q]<;>kernel_rfl)
  ·exact rn [4] [] (pf 0 h p0)<|zA (by rw[h]<;>kernel_rfl)
  exact Qc<|pb [] (Qh u (Qh v (Qh x (Qh e (Qh i (Qu p rfl))))))
 refine Qa<|sn [2,4,25,131] [2] p0<|ck (n.1==(8:H)) (λr=>?_) (λr=>?_)
 ·refine Qd<|ckt r ?_
  refine Qa<|mz [(131,.b (n.1==(8:H)))] [6,116] [] []<|jn [(4,.b ((Zu n.2.2.2.1)&&((n.1==n.1)&&((n.2.1==0)&&((n.2.2.1==0)&&((n.2.2.2.1.toList==n.2.2.2.1.toList)&&((n.2.2.2.2.1==0)&&((n.2.2.2.2.2.1==0)&&((n.2.2.2.2.2.2.toList==(⟨#[]⟩:uE).toList)&&E)))))))))] [2,4,25,131] [] [2] (Zu n.2.2.2.1) (λs=>?_) (λs=>?_) ?_
  ·exact rn [4] [] (pc 2 (cb s (Va n.2.2.2.1)) p0)<|zA (by rw[s]<;>kernel_rfl)
  ·exact rn [4] [] (pc 2 (cb s (Va n.2.2.2.1)) p0)<|zA (by rw[s]<;>kernel_rfl)
  exact Qc<|pb [] (Qh u (Qh v (Qh x (Qh e (Qh i (Qh p (Qu r rfl)))))))
 refine qn [2,4,131] [2] p0 ?_;refine ck (n.1==(9:H)) (λz=>?_) (λz=>?_)
 ·refine Qa<|mz [(131,.b (n.1==(9:H)))] [6,25,116] [] []<|jn [(4,.b ((Zu n.2.2.2.1)&&((n.1==n.1)&&((n.2.1==0)&&((n.2.2.1==0)&&((n.2.2.2.1.toList==n.2.2.2.1.toList)&&((n.2.2.2.2.1==0)&&((n.2.2.2.2.2.1==0)&&((n.2.2.2.2.2.2.toList==(⟨#[]⟩:uE).toList)&&E)))))))))] [2,4,131] [] [2] (Zu n.2.2.2.1) (λt=>?_) (λt=>?_) ?_
  ·exact rn [4] [] (pc 2 (cb t (Va n.2.2.2.1)) p0)<|zA (by rw[t]<;>kernel_rfl)
  ·exact rn [4] [] (pc 2 (cb t (Va n.2.2.2.1)) p0)<|zA (by rw[t]<;>kernel_rfl)
  exact Qc<|pb [] (Qh u (Qh v (Qh x (Qh e (Qh i (Qh p (Qh r (Qu z rfl))))))))
 exact Qd<|tu [] [2,6,25,116] [] [2] p0<|Qc<|pb [] (Qh u (Qh v (Qh x (Qh e (Qh i (Qh p (Qh r (Qh z rfl))))))))
def Bw(b:H)(_:Y)(a:Q0)(c:H):Rd (H) (H) (H):=(bif (bif ((a.1==(6:H))|| (a.1==(7:H))) then(a.2.1==b) else((a.1==(5:H))&&(a.2.1==b))) then(bif (((a.1==(6:H))|| (a.1==(7:H)))&&(a.2.2.1==b)) then(.next (uX uY (uX uY (c+1)+1))) else(.next (uX uY (c+1)))) else(bif (((a.1==(6:H))|| (a.1==(7:H)))&&(a.2.2.1==b)) then(.next (uX uY (c+1))) else(.next c)))
def Dv(_:Y)(a:H):H:=a
def Hp(q:O Q0)(a:H):H:=(Out.on (X5 (Bw a) Dv q 0 0) (λb=>b))
theorem XP(q:O Q0)(b:H):ACalls uZ 208 [.h q,.i b] (.i (Hp q b)):=by
 refine en func208 λ_ _ _=>sn [0,1,4] [] p0 ?_
 refine tn [0,1,4,5] [] p0<|Qa<|tu [(4,.i 0),(5,.i 0),(6,.i 0)] [] [] [] p0<|wT 0 0 .sh q (λs t=>?_)
 refine S8 (Bw b) Dv q 0 (λc n=> [(5,.i n),(6,.i (c:H))]) [5,6] (λr=> [(5,.i r)]) [0,1,5,6] wf0 (λc n d U=>?_) (λc n d U=>?_) (λr o=>?_)
 ·obtain⟨a,V⟩:=Xn (l:=q) (i:=c) d;refine Qa<|sn [0,1,4,5,6,11] [] (pl 2 q (pe 3 (zB ((c:H)<(q.length:H))) p0))<|ckT<|Qd<|Qa<|Qn<|Qa<|mz [(11,.b E)] [] [] []<|jn [(7,.b ((a.1==(6:H))|| (a.1==(7:H))))] [11] [] [] (a.1==(6:H)) (λg=>?_) (λg=>?_) ?_
  ·exact rn [0,1,4,5,6,7] [] (pn 2 V (pt 5 g p0))<|zA (by rw[g]<;>kernel_rfl)
  ·exact rn [0,1,4,5,6,7] [] (pn 2 V (pf 5 g (pn 9 V p0)))<|zA (by rw[g]<;>kernel_rfl)
  refine Qa<|Qa<|jn [(45,.b (bif ((a.1==(6:H))|| (a.1==(7:H))) then(a.2.1==b) else((a.1==(5:H))&&(a.2.1==b))))] [] [] [] ((a.1==(6:H))|| (a.1==(7:H))) (λe=>?_) (λe=>?_) ?_
  ·exact rn [0,1,4,5,6,7,45] [] (pt 0 e (pn 12 V p0))<|zA (by rw[e]<;>kernel_rfl)
  ·refine Ye (a.1==(5:H)) (λh=>?_) (λh=>?_)
   ·exact rn [0,1,4,5,6,7,45] [] (pf 0 e (pn 4 V (pt 7 h (pn 12 V p0))))<|zA (by rw[e,h]<;>kernel_rfl)
   exact ru [(45,.b uA)] [] [] [] (pf 0 e (pn 4 V (pf 7 h p0)))<|zA (by rw[e,h]<;>kernel_rfl)
  refine ck (bif ((a.1==(6:H))|| (a.1==(7:H))) then(a.2.1==b) else((a.1==(5:H))&&(a.2.1==b))) (λj=>?_) (λj=>?_)
  ·refine rn [0,1,4,5,6,7] [] p0 ?_;refine Qa<|mz [(5,.i (uX uY (n+1)))] [5,45] [] []<|jn [(57,.b (((a.1==(6:H))|| (a.1==(7:H)))&&(a.2.2.1==b)))] [7] [] [] ((a.1==(6:H))|| (a.1==(7:H))) (λk=>?_) (λk=>?_) ?_
   ·exact rn [0,1,4,5,6,57] [] (pt 0 k (pn 4 V p0))<|zA (by rw[k]<;>kernel_rfl)
   ·exact rn [0,1,4,5,6,57] [] (pf 0 k p0)<|zA (by rw[k]<;>kernel_rfl)
   refine ck (((a.1==(6:H))|| (a.1==(7:H)))&&(a.2.2.1==b)) (λp=>?_) (λp=>?_)
   ·refine rn [0,1,4,5,6] [] p0 ?_;refine qn [0,1,4,5,6] [] (pw 1 c p0) ?_;exact xw _ (Qp V (Qu j (Qu p rfl)) U)
   refine Qd<|rn [0,1,4,5,6] [] (pw 1 c p0) ?_
   exact xw _ (Qp V (Qu j (Qh p rfl)) U)
  refine Qd<|Qa<|jn [(57,.b (((a.1==(6:H))|| (a.1==(7:H)))&&(a.2.2.1==b)))] [7,45] [] [] ((a.1==(6:H))|| (a.1==(7:H))) (λm=>?_) (λm=>?_) ?_
  ·exact rn [0,1,4,5,6,57] [] (pt 0 m (pn 4 V p0))<|zA (by rw[m]<;>kernel_rfl)
  ·exact rn [0,1,4,5,6,57] [] (pf 0 m p0)<|zA (by rw[m]<;>kernel_rfl)
  refine ck (((a.1==(6:H))|| (a.1==(7:H)))&&(a.2.2.1==b)) (λf=>?_) (λf=>?_)
  ·refine rn [0,1,4,5,6] [] p0 ?_;refine qn [0,1,4,5,6] [] (pw 1 c p0) ?_;exact xw _ (Qp V (Qh j (Qu f rfl)) U)
  refine Qd<|rn [0,1,4,5,6] [] (pw 1 c p0) ?_
  exact xw _ (Qp V (Qh j (Qh f rfl)) U)
 ·exact Qa<|sn [0,1,4,5,6,11] [] (pl 2 q (pe 3 (zC ((c:H)<(q.length:H))) p0))<|ckF<|Qv<|xw _ (Xo d rfl U)
 exact sn [4] [] p0<|Qc<|pi [] (Vz o rfl)
def Bi(q:O Q0)(a:Y)(b:Q0)(_:uL):Rd (uD) (uL) (uL):=(bif ((!(Uv b (a:H)))|| (decide ((a:H)<((q.length:H)-1))&&((Hp q (a:H)) !=(1:H)))) then(.ret uA) else(.next ()))
def De(_:Y)(_:uL):uL:=()
def Zp(q:O Q0):uD:=(Out.on (X5 (Bi q) De q 0 ()) (λ_=>(Xd (q.length:H) 1 9)))
theorem Uw(q:O Q0):ACalls uZ 145 [.h q] (.b (Zp q)):=by
 refine en func145 λ_ _ _=>sn [0,2] [] p0 ?_
 refine Qa<|tn [0,2,3] [] p0<|mz [(2,.b uA),(3,.i 0)] [] [] []<|wT 0 0 .sh q (λm n=>?_)
 refine S8 (Bi q) De q () (λa _=> [(3,.i (a:H))]) [3] (λ_=> []) [3] wf0 (λa o d U=>?_) (λa o d U=>?_) (λp g=>?_)
 ·obtain⟨c,V⟩:=Xn (l:=q) (i:=a) d;refine Qa<|sn [0,2,3,7] [] (pl 2 q (pe 3 (zB ((a:H)<(q.length:H))) p0))<|ckT<|Qd<|Qa<|Qn<|Qa<|mz [(7,.b E)] [] [] []<|jn [(29,.b ((!(Uv c (a:H)))|| (decide ((a:H)<((q.length:H)-1))&&((Hp q (a:H)) !=(1:H)))))] [7] [] [] (!(Uv c (a:H))) (λf=>?_) (λf=>?_) ?_
  ·have b:(Uv c (a:H))=uA:=Kj f;exact rn [0,2,3,29] [] (pn 2 V (pc 5 (cb b (Mc c (a:H))) (pe 6 (show .b (!uA)= .b E from rfl) p0)))<|zA (by rw[f]<;>kernel_rfl)
  ·have b:(Uv c (a:H))=E:=Yu f;refine Ye (decide ((a:H)<((q.length:H)-1))) (λe=>?_) (λe=>?_)
   ·have h:=uV e;exact rn [0,2,3,29] [] (pn 2 V (pc 5 (cb b (Mc c (a:H))) (pe 6 (show .b (!E)= .b uA from rfl) (pl 10 q (pe 11 (Nn (IntWalk.i64_in ((q.length:H)-1) (by omega))) (pt 12 e (pc 16 (XP q (a:H)) p0)))))))<|zA (by rw[f,e]<;>kernel_rfl)
   have h:=uU e;exact rn [0,2,3,29] [] (pn 2 V (pc 5 (cb b (Mc c (a:H))) (pe 6 (show .b (!E)= .b uA from rfl) (pl 10 q (pe 11 (Nn (IntWalk.i64_in ((q.length:H)-1) (by omega))) (pf 12 e p0))))))<|zA (by rw[f,e]<;>kernel_rfl)
  refine ck ((!(Uv c (a:H)))|| (decide ((a:H)<((q.length:H)-1))&&((Hp q (a:H)) !=(1:H)))) (λj=>?_) (λj=>?_)
  ·refine sn [0,2,3] [] p0<|Qc ?_
   have k:(X5 (Bi q) De q 0 ())= .ret uA:=Kc V (Qu j rfl) U;exact pb [] (Pe k)
  refine Qd<|rn [0,2,3] [] (pw 1 a p0) ?_
  exact xw _ (Qp V (Qh j rfl) U)
 ·exact Qa<|sn [0,2,3,7] [] (pl 2 q (pe 3 (zC ((a:H)<(q.length:H))) p0))<|ckF<|Qv<|xw _ (Xo d rfl U)
 exact sn [2] [] (pl 1 q (pc 2 (Js (q.length:H) 1 9) p0))<|Qc<|pb [] (Vz g rfl)
end
section
open Go.RowKit
theorem EZ(a b c:H):X6 a b c=Xd a b c:=rfl
theorem V0{a b c:H}:X6 a b c=E↔b<=a/\a<=c:=by simp[X6]
theorem Bj{a b c:H}:Xd a b c=E↔b<=a/\a<=c:=by simp[Xd]
theorem Qli(s:uE):Xp s=Zu s:=rfl
theorem DB(s:uE):Q8 s=Yf s:=by
 unfold Q8 Yf Ma;by_cases h:s.size=1
 . simp only[h,Int.toNat_natCast,Vj,Cm];by_cases a:Kp s 0<97<;>by_cases b:Kp s 0>122<;>simp[a,b,Out.on,Xd,Dr]<;>omega
 have a:((s.size:H)==1)=uA:=by simpa using λe:(s.size:H)=1=>h (by omega)
 have b:Xd (s.size:H) 1 1=uA:=by simp[Xd];omega
 rw[a,b,Bool.false_and];cases d:Vj (Cm s) Dr (yQ (s.size:H)) 0 () with
 | brk t=>rfl
 | ret r=>
   have key:∀n k,∀r,Vj (Cm s) Dr n k ()= .ret r->r=uA:=by
    intro n
    induction n with
    | zero=>intro k r h;simp[Vj] at h
    | succ n f=>
      intro k r h;simp only[Vj,Cm] at h;cases c:(decide (Kp s ((k:Y):H)<(97:H))|| decide (Kp s ((k:Y):H)>(122:H))) with
      | true=>rw[c] at h;simp only[uQ] at h;cases h;rfl
      | false=>rw[c] at h;exact f _ _ h
   exact(key _ _ _ d).symm
theorem Qlj(v:Wx):Xf v=Yk v:=rfl
theorem Qp1(n:Q0)(k:H):Jb n k=Uv n k:=by
 unfold Jb Uv;rw[DB,Qlj,Qli];simp only[EZ];by_cases a:n.1=1
 . simp[a]
 by_cases b:n.1=2
 . simp[a,b,xR]
 by_cases c:n.1=3
 . simp[a,b,c];ac_rfl
 by_cases d:n.1=4
 . simp[a,b,c,d];cases h:(n.2.2.2.2.1==1)<;>simp_all<;>ac_rfl
 by_cases e:n.1=5
 . simp[a,b,c,d,e];ac_rfl
 by_cases f:n.1=6
 . simp[a,b,c,d,e,f];ac_rfl
 by_cases g:n.1=7
 . simp[a,b,c,d,e,f,g];ac_rfl
 by_cases i:n.1=8
 . simp[a,b,c,d,e,f,g,i,xR]
 by_cases j:n.1=9
 . simp[a,b,c,d,e,f,g,i,j,xR]
 simp only[uP.2 a,uP.2 b,uP.2 c,uP.2 d,uP.2 e,uP.2 f,uP.2 g,uP.2 i,uP.2 j,uS]
theorem Que(q:O Q0)(k:H):Vp q k=Hp q k:=by
 unfold Vp Hp
 rw[Mw (f:=Wb k) (g:=Bw k) (e:=Bv) (e':=Dv) (λi a s=>by
  unfold Wb Bw;cases(a.2.1==k)<;>cases(a.2.2.1==k)<;>cases(a.1==6)<;>cases(a.1==7)<;>cases(a.1==5)<;>rfl) (λ_ _=>rfl)]
theorem Qlk(q:O Q0):Qm q=Zp q:=by
 unfold Qm Zp
 rw[Mw (f:=Ju q) (g:=Bi q) (e:=Um) (e':=De) (λi a s=>by
  unfold Ju Bi;rw[Qp1,Que]) (λ_ _=>rfl)]
 rfl
theorem Tk{q:O Q0}(h:Zp q=E):Qm q=E:=(Qlk q).trans h
theorem Qll{q:O Q0}(h:Qm q=E):(∃t,X5 (Ju q) Um q 0 ()= .brk t)/\X6 (q.length:H) 1 9=E:=by
 unfold Qm at h;cases b:X5 (Ju q) Um q 0 () with
 | brk t=>rw[b] at h;exact⟨⟨t,rfl⟩,h⟩
 | ret r=>
   rw[b] at h;obtain rfl:r=E:=h;exfalso
   have key:∀(l:O Q0) k,X5 (Ju q) Um l k ()≠ .ret E:=by
    intro l
    induction l with
    | nil=>intro k h;simp[X5] at h
    | cons a l d=>
      intro k h;simp only[X5] at h;unfold Ju at h;split at h
      . rename_i b;exact d _ h
      . cases h
      rename_i r b;cases h;revert b;generalize(_|| _:uD)=c;cases c<;>simp
   exact key _ _ b
theorem Nf{q:O Q0}(h:Qm q=E):1<=q.length/\q.length<=9:=by
 have:=V0.1 (Qll h).2;omega
theorem HP{q:O Q0}(h:Qm q=E){i:Y}{n:Q0}(b:q[i]? =G n):Jb n (i:H)=E:=by
 obtain⟨⟨t,d⟩,_⟩:=Qll h;have:=Ra (λk a t=>by unfold Ju;generalize(_|| _:uD)=c;cases c<;>simp) d i n b;unfold Ju at this;rw[xU] at this;cases e:Jb n (i:H) with
 | true=>rfl
 | false=>rw[e] at this;simp at this
theorem Quf{n:Q0}{k:H}(h:Jb n k=E)(a:0<=k/\k<4611686018427387904):(n.1=5\/n.1=6\/n.1=7->0<=n.2.1/\n.2.1<k)/\(n.1=6\/n.1=7->0<=n.2.2.1/\n.2.2.1<k):=by
 have hw:uX uY (k-1)=k-1:=IntWalk.i64_in _ (by omega);unfold Jb at h;rw[hw] at h;refine⟨λh5=>?_,λh5=>?_⟩
 . rcases h5 with h5 | h5 | h5<;>(simp[h5,X6] at h;omega)
 rcases h5 with h5 | h5<;>(simp[h5,X6] at h;omega)
theorem Nq{q:O Q0}(h:Qm q=E){k:H}(a:0<=k)(c:k<(q.length:H)):
 ((qa q k).1=5\/(qa q k).1=6\/(qa q k).1=7->0<=(qa q k).2.1/\(qa q k).2.1<k)/\((qa q k).1=6\/(qa q k).1=7->0<=(qa q k).2.2.1/\(qa q k).2.2.1<k):=by
 have b:q[yQ k]? =G (qa q k):=Hn (by omega);have:=HP h b;rw[Int.toNat_of_nonneg a] at this;exact Quf this ⟨a,by have:=(Nf h).2;omega⟩
section
variable {q:O Q0} {k:H} (h:Qm q=E) (ha:0<=k) (hb:k<(q.length:H))
include h ha hb
theorem SX(a:((qa q k).1==(5:H))=E):0<=(qa q k).2.1/\(qa q k).2.1<k:=(Nq h ha hb).1 (.inl (eq_of_beq a))
theorem DC(a:((qa q k).1==(6:H))=E):0<=(qa q k).2.1/\(qa q k).2.1<k:=(Nq h ha hb).1 (.inr (.inl (eq_of_beq a)))
theorem FA(a:((qa q k).1==(7:H))=E):0<=(qa q k).2.1/\(qa q k).2.1<k:=(Nq h ha hb).1 (.inr (.inr (eq_of_beq a)))
theorem SY(a:((qa q k).1==(6:H))=E):0<=(qa q k).2.2.1/\(qa q k).2.2.1<k:=(Nq h ha hb).2 (.inl (eq_of_beq a))
theorem Qal(a:((qa q k).1==(7:H))=E):0<=(qa q k).2.2.1/\(qa q k).2.2.1<k:=(Nq h ha hb).2 (.inr (eq_of_beq a))
theorem Qsb(b:(((qa q k).1==(6:H))|| ((qa q k).1==(7:H)))=E):(0<=(qa q k).2.1/\(qa q k).2.1<k)/\(0<=(qa q k).2.2.1/\(qa q k).2.2.1<k):=by
 have a:(qa q k).1=6\/(qa q k).1=7:=by simpa using b
 exact⟨(Nq h ha hb).1 (.inr a),(Nq h ha hb).2 a⟩
end
end
end Go.Proofs.YtlipbhahenojhaaGreatDoor
