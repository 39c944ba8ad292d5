/- Texts of this proof, put together by a program: Zc, Mk, Ty, App, Fk, Kn, Cka, Ckb. -/
import Derived.Test.YtkdnkiggkgakmaaGreatDoorP2
import Derived.Orders
import Derived.LoopN
import Derived.KernelRfl
import Derived.Deep.DeepAppendWide
import Derived.Deep.DeepAppendRoom
import Derived.Maps.AppendAt
import Derived.Test.YtkdnkiggkgakmaaGreatDoorProg
import Derived.Outline
import Derived.Lib.SliceRun
set_option linter.unusedVariables false
set_option linter.unusedSimpArgs false
namespace Go.Proofs.YtkdnkiggkgakmaaGreatDoor
open _root_ renaming Nat → Y, List → H, Int → G, Bool → uE, ByteArray → uF, Option → uH, if_neg → uI, Unit → uM, if_pos → uN, Array → uO, beq_eq_false_iff_ne → uP, Inhabited → uQ, cond_true → uR, congrArg → uS, cond_false → uT, of_decide_eq_false → uV, of_decide_eq_true → uW, LawfulBEq → uX, decide_eq_false → uY
open _root_.Bool renaming true → uA, false → uB
open _root_.Go renaming World → uD, Value → uG, Code → uJ, Program → uK, TypeId → uL, maxLen → uU
open _root_.Option renaming some → E, none → uC
open _root_.Go.IntKind renaming wrap → uZ, i64 → vA
open _root_.Go.Proofs.Tryz renaming prog → vB
open _root_.Go.Proofs.Tryz
open _root_.Array renaming getD_eq_getD_getElem? → zN, getElem?_eq_some_iff → yG, getElem?_toList → yH, getElem?_append_left → yL, mapM_eq_mapM_toList → xG, replicate → xM
open _root_.Bool renaming and_eq_true → zH, not_eq_true' → zP, and_comm → xV
open _root_.ByteArray renaming size → zF
open _root_.Classical renaming byContradiction → yP
open _root_.Int renaming toNat → zG
open _root_.List renaming getElem?_eq_some_iff → zE, getElem?_eq_getElem → zJ, mem_cons → zM, eq_nil_of_length_eq_zero → zO, mem_cons_of_mem → zR, getElem?_append_right → zT, getElem?_append_left → zV, mem_append_right → zW, mem_singleton → zX, mem_append_left → zZ, mem_append → yA, pairwise_iff_getElem → yB, map_cons → yE, mem_cons_self → yF, map_congr_left → yI, getElem?_take → yJ, mem_of_getElem? → yM, map_append → yQ, length_append → yR, take_append_drop → yW, take_append_of_le_length → yY, nodup_cons → yZ, append_nil → xA, mem_map → xB, drop_drop → xC, pairwise_cons → xD, replicate → xE, flatten_replicate_nil → xF, getElem?_cons_succ → xI, mem_flatMap → xJ, cons_append → xK, map_id' → xL, nil_append → xO, getElem?_eq_none → xP, mem_of_mem_take → xQ, drop_take → xR, take_take → xS, pairwise_append → xT, getElem_of_mem → xU, map → xW
open _root_.Nat renaming beq → zQ, add_mul → zS, mul_le_mul_right → zU, le_refl → zY, le_trans → yC, one_mul → yD, zero_lt_one → yK, zero_le → yN, lt_of_lt_of_le → yS, eq_of_beq_eq_true → yV, le_add_right → yX, lt_trichotomy → xH, min_eq_left → xN, lt_or_ge → xX, zero_add → xY
open _root_.Option renaming map_some → zK, map_eq_some_iff → zL, bind_some → yO
open _root_.Option.some renaming inj → zD, injEq → yT
open _root_.Prod renaming snd → yU
section
open Go.RowKit
structure Rec where
 avs:H AV
 bn:H (Y×H C)
 res:Res
 obs:H Ob
def Gr(s:St):H Operand->uH (H AV)
 | []=>E []
 | x::r=>match BZ s x,Gr s r with
   | some v,E vs=>E (v::vs)
   | _,_=>uC
def P2:H C->H Y
 | []=> []
 | c::r=>c.bkeys++P2 r
def Ad(s:St):H Y->H (Y×H C)
 | []=> []
 | k::r=>match get s.bx k with
   | some cs=>(k,cs)::Ad s r
   | none=>Ad s r
def UI(tt : List (Y×TI))(orc:Orc)(bn:H (Y×H C))(b:uH Y)(c:Op)(a:H AV):uH (Res×H Ob):=
 match Qfb tt orc bn c a with
 | some (v,obs)=>(match orc with
   | .val d=>E (⟨d, [],uC,uC⟩,.eq v d::obs)
   | _=>E (⟨v, [],uC,uC⟩,obs))
 | none => match Qno tt bn b c a with
   | some x=>E x
   | none => match Qnr tt orc b c a with
     | some x=>E x
     | none => match Qnv orc bn b c a with
       | some x=>E x
       | none => match Qfk tt orc c a with
         | some (v,obs)=>(match orc with
           | .val d=>E (⟨d, [],uC,uC⟩,.eq v d::obs)
           | _=>E (⟨v, [],uC,uC⟩,obs))
         | none =>match Qfl tt c a with
           | some x=>E x
           | none =>match Qnw tt b c a with
             | some x=>E x
             | none=>match Qn0 orc bn b c a with
               | some x=>E x
               | none=>match Qn1 orc bn b c a with
                 | some x=>E x
                 | none=>Qn2 orc b c a
def MJ(tt:H (Y×TI))(orc:Orc)(bn:H (Y×H C))(b:uH Y)(c:Op)(a:H AV):uH (Res×H Ob):=
 match UH tt orc c a with
 | some (v,obs)=>E (⟨v, [],uC,uC⟩,obs)
 | none=>UI tt orc bn b c a
def D1(ops:H Oper)(s:St)(o:Oper):uH uE:=
 match o.guard with
 | none=>E uA
 | some (j,want)=>match ops[j]? with
   | some a=>(match a.dst with
     | some t=>(match get s.tm t with
       | some (.one (.bool b))=>E (match b,want with
         | true,uA=>uA
         | false,uB=>uA
         | _,_=>uB)
       | some (.tup [])=>E uB
       | _=>uC)
     | none=>uC)
   | none=>uC
def SI(N:Y):uH Y->uE
 | none=>uA
 | some d=>Nat.blt d N
def Fv(tt:H (Y×TI))(N:Y)(orc:Orc)(b:H Oper)(s:St)(o:Oper):uH Rec:=
 bif SI N o.dst then
  match D1 b s o with
  | some uA=>(match Gr s o.op.operands.toList with
    | some a=>(match MJ tt orc (Ad s (P2 (Ze a))) o.dst o.op a with
      | some (r,obs)=>E ⟨a,Ad s (P2 (Ze a)),r,obs⟩
      | none=>uC)
    | none=>uC)
  | some uB=>E ⟨[], [],⟨.tup [], [],uC,uC⟩, []⟩
  | none=>uC
 else uC
section
variable {P:uK} {N:Y} {w0:Base} {F0:Y->Prop} {J:Inj} {a:Act} {w:uD} {s:St}
theorem DE : ∀ {xs :H Operand} {vs:H AV},Gr s xs=E vs->All2 (λx v=>BZ s x=E v) xs vs
 | [], vs, h => by obtain rfl: []=vs:=by simpa [Gr] using h
                   exact .nil
 | x::r,vs,h=>by
   simp only[Gr] at h;split at h
   . rename_i v a b c;obtain rfl:=zD h;exact .cons b (DE c)
   cases h
theorem Tu:∀{ks:H Y} {k:Y} {c:H C},get (Ad s ks) k=E c->get s.bx k=E c
 | [],k,c,h=>by simp[Ad,get] at h
 | x ::r,k,c,h=>by
   simp only[Ad] at h;split at h
   . rename_i cs a;simp only[get] at h;split at h
     . rename_i e;subst e;rw[a];exact h
     exact Tu h
   exact Tu h
theorem Qdg{tt:H (Y×TI)}(m:Nq P tt=uA){orc:Orc}{bn:H (Y×H C)}{o:Oper}{t:H AV}{r:Res}{obs:H Ob}(h:UI tt orc bn o.dst o.op t=E (r,obs))(j:AllOb (Zp P w0) (V0 P w0) obs)
 (f:∀d,o.dst=E d->d<N) (b:Rel N w0 F0 J a w s) (g:All2 (λx v=>BZ s x=E v) o.op.operands.toList t) (q:∀k c,get bn k=E c->get s.bx k=E c) {K:Act->uD->Prop} {Q:Exit->Act->uD->Prop}
 (p:∀J' y w',Rel N w0 F0 J' y w' (s.step o.dst r)->K y w'):o.wp P a w K Q:=by
 unfold UI at h
 have a2:∀k c,get bn k=E c->∃z e,w.heap[J.B k]? =E (.cells z e (0,0))/\All2 (CR J w) z.toList c:=λk c hk=>by
  obtain⟨_,_,_,h⟩:=b.bo k c (q k c hk);exact h
 split at h
 . rename_i v i hp
   have key:∀v',AllOb (Zp P w0) (V0 P w0) i->v=v'->(∀J' y w',Rel N w0 F0 J' y w' (s.step o.dst ⟨v', [],uC,uC⟩)->K y w')->o.wp P a w K Q:=by
    intro v' l e a3;obtain⟨u,V,hr⟩:=Qj0 (P:=P) (A:=Zp P w0) (J:=J) (w:=w) m hp l rfl (ρ:=a.eval) (λ_=>rfl) (Dt b g) a2;exact V4 V (a3 J _ _ (b.pure o.dst f v' u λ_=>e▸hr))
   split at h
   . rename_i v';obtain⟨rfl,rfl⟩:(⟨v', [],uC,uC⟩:Res)=r/\ .eq v v'::i=obs:=by simpa using h
     obtain⟨e,l⟩:=AllOb.cons j;exact key v' l e p
   obtain⟨rfl,rfl⟩:(⟨v, [],uC,uC⟩:Res)=r/\i=obs:=by simpa using h
   exact key v j rfl p
 split at h
 . rename_i x n;obtain rfl:=zD h;exact Qj3 (P:=P) m n f b g q p
 split at h
 . rename_i x n;obtain rfl:=zD h;exact Qj4 (P:=P) m n j f b g p
 split at h
 . rename_i x n;obtain rfl:=zD h;exact Qj7 (P:=P) n j f b g q p
 split at h
 . rename_i v i hp;have a1:(∃v',orc= .val v')\/∀v',orc≠ .val v':=by cases orc<;>simp
   rcases a1 with⟨v',rfl⟩ | hne
   . obtain⟨rfl,rfl⟩:(⟨v', [],uC,uC⟩:Res)=r/\ .eq v v'::i=obs:=by simpa using h
     obtain⟨e,l⟩:=AllOb.cons j;obtain⟨u,V,hr⟩:=MB (P:=P) (A:=Zp P w0) (J:=J) (w:=w) m hp l rfl (ρ:=a.eval) (Dt b g);have e:v=v':=e;exact V4 V (p _ _ _ (b.pure o.dst f _ _ λ_=>e▸hr))
   have h2:E ((⟨v, [],uC,uC⟩:Res),i)=E (r,obs):=by
    split at h
    . exact absurd rfl (hne _)
    exact h
   obtain⟨rfl,rfl⟩:(⟨v, [],uC,uC⟩:Res)=r/\i=obs:=by simpa using h2
   obtain⟨u,V,hr⟩:=MB (P:=P) (A:=Zp P w0) (J:=J) (w:=w) m hp j rfl (ρ:=a.eval) (Dt b g);exact V4 V (p _ _ _ (b.pure o.dst f _ _ λ_=>hr))
 split at h
 . rename_i x n;obtain rfl:=zD h;exact Qfn (P:=P) m n f b g p
 split at h
 . rename_i x n;obtain rfl:=zD h;exact Qj9 (P:=P) m n j f b g p
 split at h
 . rename_i x n;obtain rfl:=zD h;exact Qkb (P:=P) n j f b g q p
 split at h
 . rename_i x n;obtain rfl:=zD h;exact Qkd (P:=P) n j f b g q p
 exact Qkf (P:=P) h j f b g p
theorem Qfu{tt:H (Y×TI)}(g:Nq P tt=uA){orc:Orc}{bn:H (Y×H C)}{o:Oper}{i:H AV}{r:Res}{obs:H Ob}(h:MJ tt orc bn o.dst o.op i=E (r,obs))(j:AllOb (Zp P w0) (V0 P w0) obs)
 (e:∀d,o.dst=E d->d<N) (b:Rel N w0 F0 J a w s) (f:All2 (λx v=>BZ s x=E v) o.op.operands.toList i) (m:∀k c,get bn k=E c->get s.bx k=E c) {K:Act->uD->Prop} {Q:Exit->Act->uD->Prop}
 (n:∀J' p w',Rel N w0 F0 J' p w' (s.step o.dst r)->K p w'):o.wp P a w K Q:=by
 unfold MJ at h;split at h
 . rename_i v l q;obtain⟨rfl,rfl⟩:(⟨v, [],uC,uC⟩:Res)=r/\l=obs:=by simpa using h
   obtain⟨u,t,y⟩:=Qdf (P:=P) (A:=Zp P w0) (J:=J) (w:=w) g q j rfl (ρ:=a.eval) (Dt b f);exact V4 t (n _ _ _ (b.pure o.dst e _ _ λ_=>y))
 exact Qdg g h j e b f m n
theorem Qba{e:uO Oper}{o:Oper}{b:uE}(g:Rel N w0 F0 J a w s)(h:D1 e.toList s o=E b):Region.wanted o (yielded e a.tmps)=b:=by
 unfold D1 at h;unfold Region.wanted;split at h
 . rename_i l;rw[l];exact zD h
 rename_i j k l;rw[l];split at h
 . rename_i oj p;split at h
   . rename_i t m;split at h
     . rename_i c n;have d:a.tmps.getD t undef= .bool c:=g.tm t _ n
       have q:a.tmps[t]? =E (.bool c):=by
        rw[zN] at d;cases i:a.tmps[t]? with
        | none=>rw[i] at d;simp[undef] at d
        | some u=>rw[i] at d;simp at d;rw[d]
       have f:e[j]? =E oj:=by simpa using p
       simp only[yielded,f,yO,m,q];obtain rfl:=zD h;cases c<;>cases k<;>rfl
     . rename_i n;obtain⟨vs,d,r⟩:=g.tm t _ n;cases r
       have f:e[j]? =E oj:=by simpa using p
       obtain rfl:=zD h;rw[zN] at d;cases i:a.tmps[t]? with
       | none=>simp[yielded,f,m,i]
       | some u=>
         rw[i] at d;obtain rfl:u=_:=d;simp[yielded,f,m,i]
     cases h
   cases h
 cases h
theorem Qfv{tt:H (Y×TI)}(l:Nq P tt=uA){orc:Orc}{g:uO Oper}{i:Y}{o:Oper}(hi:g[i]? =E o){ρ:Rec}(h:Fv tt N orc g.toList s o=E ρ)(m:AllOb (Zp P w0) (V0 P w0) ρ.obs)(b:Rel N w0 F0 J a w s)
 {K:Act->uD->Prop} {Q:Exit->Act->uD->Prop} (p:∀J' q w',Rel N w0 F0 J' q w' (s.step o.dst ρ.res)->K q w'):wpOp P g Q i K a w:=by
 unfold Fv at h;cases hd:SI N o.dst with
 | false=>rw[hd] at h;cases h
 | true =>
   rw[hd] at h;simp only[uR] at h;have f:∀d,o.dst=E d->d<N:=λd e=>by rw[e] at hd;simpa [SI] using hd
   unfold wpOp;simp only[hi];split at h
   . rename_i n;have hw:=Qba b n;split at h
     . rename_i t j;split at h
       . rename_i r obs u;obtain rfl:=zD h;rw[uN hw];exact .inl (Qfu (P:=P) l u m f b (DE j) (λk c v=>Tu v) p)
       cases h
     cases h
   . rename_i n;obtain rfl:=zD h;have hw:=Qba b n;rw[uI (by rw[hw];simp)];exact p J _ _ (b.pure o.dst f _ _ λ_=>⟨[],rfl,.nil⟩)
   cases h
def FP(a:H (Y×Orc))(i:Y):Orc:=match get a i with
 | some x=>x
 | none=> .no
def Pb(tt:H (Y×TI))(N:Y)(a:H (Y×Orc))(b:H Oper):H Oper->Y->St->uH (St×H Ob)
 | [],_,s=>E (s, [])
 | o ::r,i,s=>match Fv tt N (FP a i) b s o with
   | some ρ=>(match Pb tt N a b r (i+1) (s.step o.dst ρ.res) with
     | some (s',obs)=>E (s',ρ.obs++obs)
     | none=>uC)
   | none=>uC
theorem MK{tt:H (Y×TI)}(c:Nq P tt=uA){d:H (Y×Orc)}{b:uO Oper}{Q:Exit->Act->uD->Prop}:∀(l:H Oper) (i:Y) {s s':St} {obs:H Ob} {J:Inj} {a:Act} {w:uD},b.toList.drop i=l->
 Pb tt N d b.toList l i s=E (s',obs)->AllOb (Zp P w0) (V0 P w0) obs->Rel N w0 F0 J a w s->(∀J' f w',Rel N w0 F0 J' f w' s'->Q .normal f w')->wpOps P b Q (List.range' i l.length) a w
 | [],i,s,s',obs,J,a,w,_,h,_,hrel,hQ=>by
   obtain⟨rfl,rfl⟩:s=s'/\ []=obs:=by simpa [Pb] using h
   exact hQ J a w hrel
 | o :: r,i,s,s',obs,J,a,w,hl,h,hob,hrel,hQ=>by
   simp only[Pb] at h;split at h
   . rename_i ρ hρ;split at h
     . rename_i g e n;obtain⟨rfl,rfl⟩:g=s'/\ρ.obs++e=obs:=by simpa using h
       obtain⟨j,k⟩:=AllOb.append hob
       have hi:b[i]? =E o:=by
        have:=uS (·[0]?) hl;simpa using this
       have m:b.toList.drop (i+1)=r:=by rw[←xC,hl];rfl
       rw[List.length_cons,List.range'_succ,wpOps_cons];exact Qfv (P:=P) c hi hρ j hrel λJ' f w' p=>MK c r (i+1) m n k p hQ
     cases h
   cases h
end
end
section
open Go.RowKit
section
variable (P:uK) (N:Y) (w0:Base) (F0:Y->Prop)
def QX(Q:Exit->St->Prop):Exit->Act->uD->Prop:=λe a w=>∃J s,Rel N w0 F0 J a w s/\Q e s
def AWP(c:uJ)(Q:Exit->St->Prop)(s:St):Prop:=∀J a w,Rel N w0 F0 J a w s->c.wp P (QX N w0 F0 Q) a w
end
def Weak(s s':St):Prop:=∀N w0 F0 J a w,Rel N w0 F0 J a w s->∃J',Rel N w0 F0 J' a w s'
def Exit.thenS(K:St->Prop)(Q:Exit->St->Prop):Exit->St->Prop
 | .normal,s=>K s
 | e,s=>Q e s
def Exit.inBlockS(a:Y)(Q:Exit->St->Prop):Exit->St->Prop
 | .exit i,s=>bif zQ i a then Q .normal s else Q (.exit i) s
 | e,s=>Q e s
section
variable {P:uK} {N:Y} {w0:Base} {F0:Y->Prop} {Q:Exit->St->Prop} {s s':St}
theorem Weak.refl(s:St):Weak s s:=λ_ _ _ J _ _ h=>⟨J,h⟩
theorem Weak.trans{s s' s'':St}(h:Weak s s')(c:Weak s' s''):Weak s s'':=λN w0 F0 J a w d=>by
 obtain⟨J',b⟩:=h N w0 F0 J a w d;exact c N w0 F0 J' a w b
theorem Ex{c:uJ}(d:Weak s s')(h:AWP P N w0 F0 c Q s'):AWP P N w0 F0 c Q s:=λJ a w e=>by
 obtain⟨J',b⟩:=d N w0 F0 J a w e;exact h J' a w b
theorem Qkg{c:uJ}{b:Exit->St->Prop}(h:AWP P N w0 F0 c Q s)(d:∀e s,Q e s->b e s):AWP P N w0 F0 c b s:=λJ a w f=>
 wp_mono (h J a w f) λe a w ⟨J,s,h1,h2⟩=>⟨J,s,h1,d e s h2⟩
theorem Qa{x y:uJ}(h:AWP P N w0 F0 x (Exit.thenS (AWP P N w0 F0 y Q) Q) s):AWP P N w0 F0 (.seq x y) Q s:=λJ a w d=>by
 refine wp_seq (wp_mono (h J a w d) ?_)
 rintro e f w' ⟨J',s',b,c⟩
 cases e with
 | normal=>exact c J' f w' b
 | _=>exact⟨J',s',b,c⟩
theorem Qd(h:Q .normal s):AWP P N w0 F0 .skip Q s:=λJ a w b=>wp_skip ⟨J,s,b,h⟩
theorem Xa{b:Y}(h:Q (.exit b) s):AWP P N w0 F0 (.exit b) Q s:=λJ a w c=>wp_exit ⟨J,s,c,h⟩
theorem Qc(h:Q .ret s):AWP P N w0 F0 .ret Q s:=λJ a w b=>wp_ret ⟨J,s,b,h⟩
theorem QS{t:Y}{x y:uJ}{b:uE}(d:get s.tm t=E (.one (.bool b)))(f:b=uA->AWP P N w0 F0 x Q s)(g:b=uB->AWP P N w0 F0 y Q s):AWP P N w0 F0 (.cond (.tmp t) x y) Q s:=λJ a w c=>
 wp_cond_split (t:=b) (c.tm t _ d) (λe=>f e J a w c) (λe=>g e J a w c)
theorem Qp{d:Y}{c:uJ}(h:AWP P N w0 F0 c (Exit.inBlockS d Q) s):AWP P N w0 F0 (.block d c) Q s:=λJ a w g=>by
 refine wp_block (wp_mono (h J a w g) ?_)
 rintro e j w' ⟨J',s',f,b⟩
 cases e with
 | exit i=>
   simp only[Exit.inBlockS] at b;simp only[Exit.inBlock];split<;>rename_i hi
   . subst hi;simp only[Nat.beq_refl,uR] at b;exact⟨J',s',f,b⟩
   rw[show zQ i d=uB by
    cases hb:zQ i d with
    | false=>rfl
    | true=>exact absurd (yV hb) hi] at b
   exact⟨J',s',f,b⟩
 | _=>exact⟨J',s',f,b⟩
theorem UJ{c:uJ}{Q:Exit->Act->uD->Prop}:∀(n m:Y),n<=m->∀a w,Code.rounds P c Q n a w->Code.rounds P c Q m a w
 | 0,_,_,_,_,h=>h.elim
 | n+1,0,h,_,_,_=>absurd h (by omega)
 | n +1,m+1,hnm,a,w,h=>wp_mono (show c.wp P (Exit.then (Code.rounds P c Q n) Q) a w from h) λe a w b=>by
     cases e with
     | normal=>exact UJ n m (by omega) a w b
     | _=>exact b
theorem Qkh{c:uJ}(I:Y->St->Prop){n:Y}(o:I n s)(p:∀n s,I n s->AWP P N w0 F0 c (Exit.thenS (λs'=>∃m b,m<n/\Weak s' b/\I m b) Q) s):AWP P N w0 F0 (.loop c) Q s:=λJ a w d=>by
 have key:∀n s J a w,I n s->Rel N w0 F0 J a w s->Code.rounds P c (QX N w0 F0 Q) (n+1) a w:=by
  intro n
  induction n using Nat.strongRecOn with
  | _ n q=>
    intro s J a w hi d;refine wp_mono (p n s hi J a w d) ?_
    rintro e f w' ⟨J',s',j,k⟩
    cases e with
    | normal=>
      obtain⟨m,b,l,hw,g⟩:=k;obtain⟨h,i⟩:=hw N w0 F0 J' f w' j;exact UJ (m+1) n l f w' (q m l b h f w' g i)
    | _=>exact⟨J',s',j,k⟩
 exact wp_loop_rounds (n+1) (key n s J a w o d)
def SJ{α:Type}(l:H (Y×α)):H Y->H (Y×α)
 | []=> []
 | t::r=>match get l t with
   | some v=>(t,v)::SJ l r
   | none=>SJ l r
theorem Gc{α:Type}{l:H (Y×α)}{t:Y}{v:α}:∀{a:H Y},get (SJ l a) t=E v->get l t=E v
 | [],h=>by simp[SJ,get] at h
 | x ::r,h=>by
   simp only[SJ] at h;split at h
   . rename_i u b;simp only[get] at h;split at h
     . rename_i e;subst e;rw[b];exact h
     exact Gc h
   exact Gc h
def St.keep(s:St)(a b:H Y):St:=⟨SJ s.tm a,SJ s.bx b⟩
theorem UK(b d:H Y)(h:s.keep b d=s'):Weak s s':=λN w0 F0 J a w e=>⟨J,by
 subst h;exact e.less (λt v f=>Gc f) λk c g=>Gc g⟩
def Wr(tt:H (Y×TI))(N:Y)(a:H (Y×Orc))(b:H Oper)(c d:H Y)(s:St):uH (St×H Ob):=
 match Pb tt N a b b 0 s with
 | some (s',obs)=>E (s'.keep c d,obs)
 | none=>uC
theorem Jr{tt:H (Y×TI)}(f:Nq P tt=uA)(d:H (Y×Orc))(i j:H Y){l:Y}{b:uO Oper}{obs:H Ob}(h:Wr tt N d b.toList i j s=E (s',obs))(g:AllOb (Zp P w0) (V0 P w0) obs)(m:Q .normal s'):
 AWP P N w0 F0 (.region l b uB) Q s:=λJ a w n=>by
 unfold Wr at h;split at h
 . rename_i o e p;obtain⟨rfl,rfl⟩:o.keep i j=s'/\e=obs:=by simpa using h
   refine wp_region ?_;have:=MK (P:=P) (Q:=QX N w0 F0 Q) f b.toList 0 rfl p g n λJ' x w' q=>⟨J',_,q.less (λt v r=>Gc r) (λk c u=>Gc u),m⟩
   rw[List.range_eq_range'];simpa using this
 cases h
def Ny(k a x:Y):Y:=bif zQ x k then a else bif zQ x a then k else x
def Qqk(k a:Y):Tok->Tok
 | .own d x=> .own d (Ny k a x)
 | .vw x=> .vw (Ny k a x)
 | t=>t
def Qn4(k a:Y):C->C
 | .slc t n l=> .slc (Qqk k a t) n l
 | .rptr t cs=> .rptr (Qqk k a t) cs
 | .ept d x n i o cs=> .ept d (Ny k a x) n i o cs
 | c=>c
theorem DF{a b:Y}(h:a≠b):zQ a b=uB:=by
 cases hb:zQ a b with
 | false=>rfl
 | true=>exact absurd (yV hb) h
theorem B3(k a x:Y):Ny k a (Ny k a x)=x:=by
 simp only[Ny];by_cases c:x=k
 . subst c;simp;by_cases b:a=x
   . simp[b]
   have:zQ a x=uB:=DF b;simp[this]
 have d:zQ x k=uB:=DF c;simp only[d,uT];by_cases b:x=a
 . subst b;simp
 have e:zQ x a=uB:=DF b;simp[d,e]
def Inj.swap(J:Inj)(k a:Y):Inj:=⟨J.F,λx=>J.L (Ny k a x),J.B⟩
theorem Qbb{J:Inj}{w:uD}{k a:Y}{v:uG}{c:C}(h:CR J w v c):CR (J.swap k a) w v (Qn4 k a c):=by
 cases c with
 | slc t n l=>
   cases t with
   | sh | emp | put=>exact h
   | own d x=>
     cases d with
     | true=>show OwnDeep (J.L (Ny k a (Ny k a x))) w v n l;rw[B3];exact h
     | false=>show OwnTop J.F (J.L (Ny k a (Ny k a x))) w v n l;rw[B3];exact h
   | vw x=>
     refine VV.keep (X:=J.X (.vw x)) (λb hb=>⟨?_,rfl⟩) h;show b∈J.L (Ny k a (Ny k a x))\/J.F b;rw[B3];exact hb
 | ept d x n i o cs=>
   obtain⟨g,r,vs,e,f,j,m⟩:=h;refine⟨g,r,vs, ?_,f,j.keep λb hb=>⟨?_,rfl⟩,m⟩
   . show J.L (Ny k a (Ny k a x))=_;rw[B3];exact e
   cases d with
   | true=>
     show b∈J.L (Ny k a (Ny k a x))\/J.F b;rw[B3];exact hb
   | false=>exact hb
 | rptr t cs=>
   refine Reads.keep h λb hb=>⟨?_,rfl⟩
   cases t with
   | vw x=>
     show b∈J.L (Ny k a (Ny k a x))\/J.F b;rw[B3];exact hb
   | _=>exact hb
 | _=>exact h
theorem Rel.swap{J:Inj}{a:Act}{w:uD}(h:Rel N w0 F0 J a w s)(k d:Y):Rel N w0 F0 (J.swap k d) a w (s.map (Qn4 k d)) where
 below:=h.below
 nodef:=h.nodef
 size:=h.size
 fl:=h.fl
 f0:=h.f0
 nd x:=h.nd _
 lo x:=h.lo _
 nb:=h.nb
 cb:=h.cb
 dj x y b hx hy:=by
  have:=h.dj _ _ b hx hy;rw[←B3 k d x,this,B3]
 bo x c hc:=by
  simp only[St.map,I9 (xW _)] at hc;obtain⟨y,hy,rfl⟩:=zL.1 hc;obtain⟨i,j,l,f,e,m,n⟩:=h.bo x y hy;exact⟨i,j,λk=>l _,f,e,m,n.map _ λa b _ o=>Qbb o⟩
 bi x y c c' hc hc' hB:=by
  simp only[St.map,I9 (xW _)] at hc hc';obtain⟨z,p,rfl⟩:=zL.1 hc;obtain⟨q,g,rfl⟩:=zL.1 hc';exact h.bi x y z q p g hB
 tm t v hv:=by
  simp only[St.map,I9 (AV.map _)] at hv;obtain⟨y,hy,rfl⟩:=zL.1 hv;exact AR.map _ (h.tm t y hy) λu c _ hc=>Qbb hc
def St.swaps(s:St):H (Y×Y)->St
 | []=>s
 | (k,k')::r=>(s.map (Qn4 k k')).swaps r
theorem DG:∀(l:H (Y×Y)) (s:St),Weak s (s.swaps l)
 | [],s=>Weak.refl s
 | (k,k')::r,s=>Weak.trans (λN w0 F0 J a w h=>⟨_,h.swap k k'⟩) (DG r _)
theorem DH(ks:H Y){J:Inj}{a:Act}{w:uD}(g:Rel N w0 F0 J a w s):∃J':Inj,(∀k,k∈ks->J'.L k= [])/\Rel N w0 F0 J' a w (s.map (Wt (X7 ks) uC)):=by
 let J':Inj:=⟨λb=>J.F b\/∃k,k∈ks/\b∈J.L k,λk=>if k∈ks then [] else J.L k,J.B⟩
 have u:∀k b,b∈J'.L k->k∉ks/\b∈J.L k:=λk b f=>by
  have f:b∈(if k∈ks then [] else J.L k):=f;split at f
  . simp at f
  rename_i r;exact⟨r,f⟩
 have hT:Turns J J' w w (X7 ks) uC:=by
  constructor
  . exact λb hb=>⟨.inl hb,rfl⟩
  . intro k e;rw[U9] at e;split at e
    . cases e
    rename_i r;exact⟨uI r,λ_ _=>rfl⟩
  . intro k e b hb;rw[U9] at e;split at e
    . rename_i f;exact⟨.inr ⟨k,f,hb⟩,rfl⟩
    cases e
  . intro k j e;rw[U9] at e;split at e<;>cases e
  . intro k t e;rw[U9] at e;split at e
    . simp at e;exact .inl e.symm
    cases e
  . exact λ_ _=>rfl
  intro k d m i o cs e;rw[U9] at e;split at e<;>cases e
 have hN:Names w0 F0 J' w:=by
  constructor
  . exact λb hb=>hb.elim (g.fl b) λ⟨k,_,f⟩=>⟨(g.lo k b f).2.1,.inr (g.lo k b f).1⟩
  . exact λb hb=> .inl (g.f0 b hb)
  . intro k;show(if _ then _ else _:H Y).Nodup;split
    . simp
    exact g.nd k
  . intro k b f;obtain⟨r,f⟩:=u k b f;obtain⟨h1,z,x⟩:=g.lo k b f;exact⟨h1,z,λV=>V.elim x λ⟨j,hk',q⟩=>r (g.dj k j b f q▸hk')⟩
  intro k j b f q;exact g.dj k j b (u k b f).2 (u j b q).2
 have y:=g.upd (w':=w) (J':=J') uC (by simp) ⟨.one .dead,X7 ks,uC,uC⟩ undef g.below hT hN (λh=>absurd rfl h) (λk c e _=>by
  obtain⟨_,z,x,_⟩:=g.bo k c e;exact⟨by simp,λV=>V.elim z λ⟨j,_,f⟩=>x j f,λj f=>x j (u j _ f).2,rfl⟩) (λk c e=>by cases e)
 refine⟨J',λk e=>uN e, ?_⟩;have y:Rel N w0 F0 J' a w (match X7 ks,(none:uH Y) with | [],uC=>s | rl,kb=>s.map (Wt rl kb)):=y;cases ks with
 | nil =>
   have a1:s.map (Wt (X7 []) uC)=s:=by
    have hc:(Wt (X7 []) uC)=id:=by
     funext c
     cases c with
     | slc t n l=>cases t<;>rfl
     | rptr t cs=>cases t<;>rfl
     | _=>rfl
    rw[hc];obtain⟨tm,bx⟩:=s;simp only[St.map]
    congr 1
    . conv=>rhs;rw[←List.map_id tm]
      refine yI λp _=>?_
      obtain⟨t,v⟩:=p;cases v<;>simp[AV.map]
    simp
   rw[a1];exact y
 | cons k ks=>exact y
theorem B4(ks:H Y)(h:s.map (Wt (X7 ks) uC)=s'):Weak s s':=λN w0 F0 J a w b=>by
 subst h;obtain⟨J',_,h⟩:=DH ks b;exact⟨J',h⟩
def Qki(d:uE)(k n:Y):C->C
 | .slc .emp _ []=> .slc (.own d k) n []
 | c=>c
def SK(i:Y)(d:uE)(k n:Y):H C->H C
 | []=> []
 | c::r=>match i with
   | 0=>Qki d k n c::r
   | i+1=>c::SK i d k n r
def Qmr(i:Y)(d:uE)(k n:Y):AV->AV
 | .one c=> .one (Qki d k n c)
 | .agg cs=> .agg (SK i d k n cs)
 | v=>v
theorem Qbc{J:Inj}{w:uD}{v:uG}{d:uE}{k n:Y}(_:J.L k= []){c:C}(h:CR J w v c):CR J w v (Qki d k n c):=by
 unfold Qki;split
 . obtain⟨_,oa,rfl⟩:=h;cases d with
   | true=>show OwnDeep (J.L k) w _ n [];exact⟨[],.emp oa n,List.nodup_nil,(λb hb=>by simp at hb),.inl rfl⟩
   | false=>exact .inl ⟨rfl,oa,rfl⟩
 exact h
theorem FQ{J:Inj}{w:uD}{d:uE}{k n:Y}(a:J.L k= []):∀(i:Y) {cs:H C} {vs:H uG},All2 (CR J w) vs cs->All2 (CR J w) vs (SK i d k n cs)
 | _, [],_,h=>by unfold SK;exact h
 | 0,c::r,_,.cons h1 h2=>by unfold SK;exact .cons (Qbc a h1) h2
 | i+1,c::r,_,.cons h1 h2=>by unfold SK;exact .cons h1 (FQ a i h2)
theorem Qfw{J:Inj}{w:uD}{v:uG}{d:uE}{k n:Y}(a:J.L k= [])(i:Y){x:AV}(h:AR J w v x):AR J w v (Qmr i d k n x):=by
 cases x with
 | one c=>exact Qbc a h
 | agg cs=>obtain⟨vs,e,h⟩:=h;exact⟨vs,e,FQ a i h⟩
 | tup l=>exact h
def Qp7{α:Type}(t:Y)(f:α->α):H (Y×α)->H (Y×α)
 | []=> []
 | (k,a)::r=>(k,if k=t then f a else a)::Qp7 t f r
theorem QT{α:Type}{t u:Y}{f:α->α}{v:α}:∀{l:H (Y×α)},get (Qp7 t f l) u=E v->∃y,get l u=E y/\(v=f y\/v=y)
 | [],h=>by simp[Qp7,get] at h
 | (k,a)::r,h=>by
   simp only[Qp7,get] at h⊢;by_cases b:k=u
   . simp only[b,if_true] at h⊢;refine⟨a,rfl, ?_⟩;by_cases c:u=t
     . simp only[c,if_true] at h;exact .inl (zD h).symm
     simp only[c,if_false] at h;exact .inr (zD h).symm
   simp only[b,if_false] at h⊢;exact QT h
def St.open1(s:St):uE×Y×Y×uE×Y×Y->St
 | (uA,t,i,d,k,n)=>⟨(s.map (Wt (X7 [k]) uC)).tm,Qp7 t (SK i d k n) (s.map (Wt (X7 [k]) uC)).bx⟩
 | (uB,t,i,d,k,n)=>⟨Qp7 t (Qmr i d k n) (s.map (Wt (X7 [k]) uC)).tm,(s.map (Wt (X7 [k]) uC)).bx⟩
theorem Qdh(o:uE×Y×Y×uE×Y×Y)(s:St):Weak s (s.open1 o):=λN w0 F0 J a w r=>by
 obtain⟨b,t,i,d,k,n⟩:=o;obtain⟨J',j,h⟩:=DH [k] r;have j:=j k yF;refine⟨J', ?_⟩;cases b with
 | true=>
   refine {h with bo:=λx c l=>?_,bi:=λx y c c' l m=>?_}
   . obtain⟨y,f,e⟩:=QT l;obtain⟨u,z,V,p,ty,h4,g⟩:=h.bo x y f;refine⟨u,z,V,p,ty,h4, ?_⟩;rcases e with rfl | rfl
     . exact FQ j i g
     exact g
   obtain⟨_,f,_⟩:=QT l;obtain⟨_,q,_⟩:=QT m;exact h.bi x y _ _ f q
 | false=>
   refine {h with tm:=λx v hv=>?_};obtain⟨y,f,e⟩:=QT hv;have g:=h.tm x y f;rcases e with rfl | rfl
   . exact Qfw j i g
   exact g
def St.opens(s:St):H (uE×Y×Y×uE×Y×Y)->St
 | []=>s
 | o::r=>(s.open1 o).opens r
theorem ZP:∀(l:H (uE×Y×Y×uE×Y×Y)) (s:St),Weak s (s.opens l)
 | [],s=>Weak.refl s
 | o::r,s=>Weak.trans (Qdh o s) (ZP r _)
theorem Qfx{c:uJ}(l:H (uE×Y×Y×uE×Y×Y))(a:s.opens l=s')(h:AWP P N w0 F0 c Q s'):AWP P N w0 F0 c Q s:=Ex (a▸ZP l s) h
def Qso(k:Y):C->C
 | .slc (.own uA x) n l=>bif zQ x k then .slc (.own uB x) n l else .slc (.own uA x) n l
 | .ept uA x n i o cs=>bif zQ x k then .rptr (.vw x) cs else .ept uA x n i o cs
 | c=>c
def Inj.dem(J:Inj)(k:Y):Inj:=⟨λb=>J.F b\/(b∈J.L k/\b∉(J.L k).take 1),λx=>if x=k then(J.L k).take 1 else J.L x,J.B⟩
theorem Qfy{J:Inj}{k:Y}{t:Tok}:∀b,J.X t b->(J.dem k).X t b:=by
 intro b hb;cases t with
 | sh=>exact .inl hb
 | emp | own | put=>exact hb.elim
 | vw x =>
   rcases hb with hb | hb
   . by_cases a:x=k
     . subst a;by_cases c:b∈(J.L x).take 1
       . exact .inl (by show b∈(if x=x then _ else _);rw[uN rfl];exact c)
       exact .inr (.inr ⟨hb,c⟩)
     exact .inl (by show b∈(if x=k then _ else _);rw[uI a];exact hb)
   exact .inr (.inl hb)
theorem Qfz{J:Inj}{w:uD}{v:uG}{k:Y}{c:C}(h:CR J w v c):CR (J.dem k) w v (Qso k c):=by
 have y:∀b,J.F b->(J.dem k).F b/\w.heap[b]? =w.heap[b]? :=λb hb=>⟨.inl hb,rfl⟩
 have z:∀x,x≠k->(J.dem k).L x=J.L x:=λx a=>uI a
 have m:(J.dem k).L k=(J.L k).take 1:=uN rfl;cases c with
 | int | bool | str | raw | dead=>exact h
 | slc t n l=>
   cases t with
   | sh=>exact VV.keep y h
   | emp=>exact h
   | put=>exact h.elim
   | vw x=>exact VV.keep (λb hb=>⟨Qfy (t:= .vw x) b hb,rfl⟩) h
   | own d x=>
     cases d with
     | false=>
       show OwnTop _ ((J.dem k).L x) w v n l;rcases h with h | ⟨g,cap,cur,e,V,hv,hg,hs,hr,j,q⟩
       . exact .inl h
       refine .inr ⟨g,cap,cur,e, ?_,hv,hg,hs,hr.keep y,j,q⟩;by_cases a:x=k
       . subst a;rw[m,V];rfl
       rw[z x a];exact V
     | true =>
       show CR (J.dem k) w v (bif zQ x k then .slc (.own uB x) n l else .slc (.own uA x) n l);cases hb:zQ x k with
       | false=>
         have a:x≠k:=λe=>by subst e;simp at hb
         show OwnDeep ((J.dem k).L x) w v n l;rw[z x a];exact h
       | true=>
         obtain rfl:=yV hb;show OwnTop _ ((J.dem x).L x) w v n l;rw[m];obtain⟨L',j,q,u,s⟩:=h;generalize hp:PV.slc n l=p at j;cases j with
         | int | bool | str | any | raw=>cases hp
         | emp oa n'=>cases hp;exact .inl ⟨rfl,oa,rfl⟩
         | @slc g cap n' cur e L1 l' hg hs hr h5 h6=>
           cases hp
           rcases s with s | ⟨g',r1,r2,V,e2⟩
           . cases s
           cases V
           obtain⟨n1,_⟩:=yZ.1 q;refine .inr ⟨g,cap,cur,e,by rw[e2];rfl,rfl,hg,hs,hr.vr λb hb=> .inr ⟨u b (zR _ hb),λhm=>?_⟩,h5,h6⟩;rw[e2] at hm;simp at hm;exact n1 (hm▸hb)
 | ptr=>exact h
 | fn=>exact h
 | fnr f caps=>
   obtain⟨vs,rfl,ha⟩:=h;exact⟨vs,rfl,ha.imp λ_ _ _ h=>h.keep y⟩
 | rptr t cs=>exact Reads.keep h λb hb=>⟨Qfy b hb,rfl⟩
 | ept d x n i o cs=>
   obtain⟨g,r,vs,j,q,u,s,h5⟩:=h;cases d with
   | false=>
     refine⟨g,if x=k then [] else r,vs, ?_,q,u.keep y,s,h5⟩;by_cases a:x=k
     . subst a;rw[m,j,uN rfl];rfl
     rw[z x a,uI a];exact j
   | true=>
     show CR (J.dem k) w v (bif zQ x k then .rptr (.vw x) cs else .ept uA x n i o cs);cases hb:zQ x k with
     | false=>
       have a:x≠k:=λe=>by subst e;simp at hb
       exact⟨g,r,vs,by rw[z x a];exact j,q,u.keep λb hb=>⟨Qfy (t:= .vw x) b hb,rfl⟩,s,h5⟩
     | true=>exact⟨g,i*n+o,vs,q,Qfy (t:= .vw x) g (.inl (by rw[j];exact yF)),u.keep λb hb=>⟨Qfy (t:= .vw x) b hb,rfl⟩,s⟩
theorem SL(k:Y)(s:St):Weak s (s.map (Qso k)):=λN w0 F0 J a w h=>by
 have d:∀x b,b∈(J.dem k).L x->b∈J.L x:=λx b hb=>by
  have hb:b∈(if x=k then(J.L k).take 1 else J.L x):=hb;split at hb
  . rename_i i;subst i;exact xQ hb
  exact hb
 refine⟨J.dem k,{below:=h.below,nodef:=h.nodef,size:=h.size,fl:=λb hb=>?_,f0:=λb hb=> .inl (h.f0 b hb),nd:=λx=>?_,lo:=λx b hb=>?_,dj:=λx y b i j=>h.dj x y b (d x b i) (d y b j),nb:=h.nb,cb:=h.cb,bo:=λx c f=>?_,bi:=λx y c c' f l hB=>?_,tm:=λt v hv=>?_}⟩
 . rcases hb with hb | ⟨hb,_⟩
   . exact h.fl b hb
   exact⟨(h.lo k b hb).2.1,.inr (h.lo k b hb).1⟩
 . show(if _ then _ else _:H Y).Nodup;split
   . exact(List.take_sublist 1 _).nodup (h.nd k)
   exact h.nd x
 . obtain⟨n,o,m⟩:=h.lo x b (d x b hb);refine⟨n,o,λg=>?_⟩;rcases g with g | ⟨p,hn⟩
   . exact m g
   have i:=h.dj x k b (d x b hb) p;subst i;exact hn (by have hb:b∈(if x=x then(J.L x).take 1 else J.L x):=hb;rw[uN rfl] at hb;exact hb)
 . simp only[St.map,I9 (xW _)] at f;obtain⟨y,j,rfl⟩:=zL.1 f;obtain⟨n,o,m,q,e,h4,h5⟩:=h.bo x y j;refine⟨n,λg=>?_,λz r=>m z (d z _ r),q,e,h4,h5.map _ λa b _ hr=>Qfz hr⟩;rcases g with g | ⟨p,_⟩
   . exact o g
   exact m k p
 . simp only[St.map,I9 (xW _)] at f l;obtain⟨z,r,rfl⟩:=zL.1 f;obtain⟨z',V,rfl⟩:=zL.1 l;exact h.bi x y z z' r V hB
 simp only[St.map,I9 (AV.map _)] at hv;obtain⟨y,j,rfl⟩:=zL.1 hv;exact AR.map _ (h.tm t y j) λu c _ f=>Qfz f
def St.demotes(s:St):H Y->St
 | []=>s
 | k::r=>(s.map (Qso k)).demotes r
theorem P3:∀(l:H Y) (s:St),Weak s (s.demotes l)
 | [],s=>Weak.refl s
 | k::r,s=>Weak.trans (SL k s) (P3 r _)
end
end
section
open Go.RowKit
def DI:Y->H AV->H (Y×AV)
 | _, []=> []
 | i,v::r=>(i,v)::DI (i+1) r
def ZQ(args:H AV):St:=⟨DI 0 args, []⟩
def MM(tt:H (Y×TI))(s:St):H ResultVar->uH (H AV)
 | []=>E []
 | .tmp t::r=>match get s.tm t,MM tt s r with
   | some v,E vs=>E (v::vs)
   | _,_=>uC
 | .cell a t::r=>match get s.tm a,get tt t,MM tt s r with
   | some (.one (.ptr k off)),E ti,E vs=>(match get s.bx k with
     | some cells=>(match Qc6 ti ((cells.drop off).take ti.size) with
       | some v=>E (v::vs)
       | none=>uC)
     | none=>uC)
   | _,_,_=>uC
def Qql:AV->uH (uE×H C)
 | .one c=>E (uB, [c])
 | .agg cs=>E (uA,cs)
 | .tup _=>uC
def Tv:H AV->uH (H (uE×H C))
 | []=>E []
 | v::r=>match Qql v,Tv r with
   | some p,E ps=>E (p::ps)
   | _,_=>uC
def DJ:H AV->uH AV
 | [v]=>E v
 | vs=>(Tv vs).map .tup
def Qms(k:Y):H Y->Y
 | []=>0
 | x::r=>bif zQ x k then 0 else Qms k r+1
def Qtj(ks:H Y):C->C
 | .slc (.own b k) n l=> .slc (.own b (Qms k ks)) n l
 | c=>c
def Qn5:C->uE
 | .int _ _=>uA
 | .bool _=>uA
 | .str _=>uA
 | .slc .sh _ _=>uA
 | .slc .emp _ _=>uA
 | .slc (.own _ _) _ _=>uA
 | _=>uB
def Ml(tt:H (Y×TI))(rs:H ResultVar)(s:St):uH AV:=
 match MM tt s rs with
 | some vs=>(match DJ vs with
   | some v=>bif Ai Qn5 v.cells&&Ao (Qu v.cells) then E (v.map (Qtj (Qu v.cells))) else uC
   | none=>uC)
 | none=>uC
def Qe5(tt:H (Y×TI))(rs:H ResultVar)(r:AV):Exit->St->Prop
 | .normal,s=>∃frz,Ml tt rs (s.map (Wt (X7 frz) uC))=E r
 | .ret,s=>∃frz,Ml tt rs (s.map (Wt (X7 frz) uC))=E r
 | _,_=>False
theorem Ir{tt:H (Y×TI)}{rs:H ResultVar}{r b:AV}{s:St}(frz:H Y)(h:Ml tt rs (s.map (Wt (X7 frz) uC))=E b)(e:b=r):Qe5 tt rs r .ret s:=⟨frz,e▸h⟩
def UL(b:uO uG):ResultVar->Sem uG
 | .tmp t=>pure (b.getD t undef)
 | .cell a t=>do loadVar t (←asAddr (b.getD a undef))
theorem ZR(fn:Func)(a:uO uG):results fn a=(do
 let vs←fn.results.mapM (UL a)
 pure (if h:vs.size=1 then vs[0] else .tuple vs)):=by
 unfold results
 congr 2
def SM(J:Inj)(ks:H Y)(i:Y):H Y:=match ks[i]? with
 | some k=>J.L k
 | none=> []
theorem Nz{J:Inj}{ks:H Y}{i b:Y}(h:b∈SM J ks i):∃k,ks[i]? =E k/\b∈J.L k:=by
 unfold SM at h;split at h
 . rename_i k a;exact⟨k,a,h⟩
 simp at h
section
variable {P:uK} {N:Y} {w0:Base} {F0:Y->Prop} {J:Inj} {a:Act} {w:uD} {s:St}
theorem P4:∀{args:H AV} {i t:Y} {v:AV},get (DI i args) t=E v->i<=t/\args[t-i]? =E v
 | [],i,t,v,h=>by simp[DI,get] at h
 | x::r,i,t,v,h=>by
   simp only[DI,get] at h;split at h
   . rename_i e;subst e;exact⟨zY _,by simpa using h⟩
   rename_i a;obtain⟨c,b⟩:=P4 h;refine⟨by omega, ?_⟩;obtain⟨j,hj⟩:∃j,t-i=j+1:=⟨t-i-1,by omega⟩;rw[hj,xI,show j=t-(i+1) by omega];exact b
theorem QU{tt:H (Y×TI)}(d:Nq P tt=uA)(c:Rel N w0 F0 J a w s):∀{rs:H ResultVar} {vs:H AV},MM tt s rs=E vs->
 ∃us:H uG,(rs.mapM (UL a.tmps)).run P w= .ok us w/\All2 (AR J w) us vs
 | [],vs,h=>by
   obtain rfl: []=vs:=by simpa [MM] using h
   exact⟨[],by simp,.nil⟩
 | .tmp t::r,vs,h=>by
   simp only[MM] at h;split at h
   . rename_i v m n o;obtain rfl:=zD h;obtain⟨us,p,q⟩:=QU d c o;exact⟨a.tmps.getD t undef::us,by simp[List.mapM_cons,UL,p],.cons (c.tm t v n) q⟩
   cases h
 | .cell x t::r,vs,h=>by
   simp only[MM] at h;split at h
   . rename_i k off y m n o V;split at h
     . rename_i cells hk;split at h
       . rename_i v g;obtain rfl:=zD h;obtain⟨us,p,q⟩:=QU d c V;have hx:a.tmps.getD x undef= .pointer (E ⟨J.B k,off,uC⟩):=c.tm x _ n;obtain⟨_,_,_,i,e,f,l⟩:=c.bo k cells hk
         have hc:∀(j:Y) (u:uG),((i.toList.drop off).take y.size)[j]? =E u->w.cell? ⟨J.B k,off+j,uC⟩=E u:=by
          have:=El (k:=y.size) (Cx (w:=w) (vs:=i.toList) (b:=J.B k) (off:=0) (k:=off) (λj u z=>by
           rw[yH] at z;simp[World.cell?,f,z]))
          simpa using this
         obtain⟨u,hu,hr⟩:=VP (P:=P) (Jc d o) ((l.drop off).take y.size) g hc;exact⟨u::us,by simp[List.mapM_cons,UL,hx,asAddr,hu,p],.cons hr q⟩
       cases h
     cases h
   cases h
theorem FR:∀{vs:H AV} {ps:H (uE×H C)} {us:H uG},Tv vs=E ps->All2 (AR J w) us vs->All2 (VA J w) us ps
 | [],ps,us,h,hu=>by
   obtain rfl: []=ps:=by simpa [Tv] using h
   cases hu
   exact .nil
 | v :: r,ps,us,h,hu=>by
   simp only[Tv] at h;split at h
   . rename_i p d a e;obtain rfl:=zD h;cases hu with
     | cons b f=>
       refine .cons ?_ (FR e f);cases v with
       | one c=>obtain rfl:=zD a;exact⟨c,rfl,b⟩
       | agg cs=>obtain rfl:=zD a;exact b
       | tup l=>cases a
   cases h
theorem QV:∀{ks:H Y} {k:Y},k∈ks->ks[Qms k ks]? =E k
 | [],k,h=>by simp at h
 | x::r,k,h=>by
   simp only[Qms];by_cases a:x=k
   . subst a;simp
   rw[DF a];simp only[uT,xI];exact QV ((zM.1 h).resolve_left λe=>a e.symm)
theorem Qbd{w':uD}{tt:H (Y×TI)}(a1:Nq P tt=uA){fn:Func}{r:AV}(d:Rel N ⟨w,λ_=>False,uC⟩ F0 J a w' s)(h:Ml tt fn.results.toList s=E r):∃v,(results fn a.tmps).run P w'= .ok v w'/\Qj5 F0 w r (.returned v) w':=by
 unfold Ml at h;split at h
 . rename_i vs a2;split at h
   . rename_i x hx;cases V:(Ai Qn5 x.cells&&Ao (Qu x.cells)) with
     | false=>rw[V] at h;cases h
     | true =>
       rw[V] at h;obtain rfl:=zD h;simp only[zH] at V;obtain⟨a3,j⟩:=V;have j:=Bh.1 j;obtain⟨us,p,q⟩:=QU (P:=P) a1 d a2
       have y:∃v,(results fn a.tmps).run P w'= .ok v w'/\AR J w' v x:=by
        have g:(fn.results.mapM (UL a.tmps)).run P w'= .ok us.toArray w':=by
         rw[xG];simp[p]
        have f:(results fn a.tmps).run P w'= .ok (if h:us.toArray.size=1 then us.toArray[0] else .tuple us.toArray) w':=by
         rw[ZR];simp only[Sem.run_bind,g,Result.andThen_ok,Sem.run_pure]
        cases q with
        | nil=>
          obtain rfl:AV.tup []=x:=by simpa [DJ,Tv] using hx
          exact⟨.tuple #[],by rw[f];simp, [],rfl,.nil⟩
        | cons h1 m=>
          cases m with
          | nil=>
            obtain rfl:=zD hx;exact⟨_,by rw[f];simp,h1⟩
          | cons m h3=>
            obtain⟨ps,a4,rfl⟩:=zL.1 hx;exact⟨_,by rw[f];simp,_,rfl,FR a4 (.cons h1 (.cons m h3))⟩
       obtain⟨v,hv,a5⟩:=y;refine⟨v,hv,v,SM J (Qu x.cells),rfl,d.below.below (λ_ h=>h),λi=>?_,λi b hb=>?_,λi i' b hb a6=>?_, ?_⟩
       . unfold SM;split
         . exact d.nd _
         simp
       . obtain⟨k,_,g⟩:=Nz hb;exact⟨(d.lo k b g).1.elim id False.elim,(d.lo k b g).2.1⟩
       . obtain⟨k,hk,g⟩:=Nz hb;obtain⟨k',a7,a8⟩:=Nz a6;have:=d.dj k k' b g a8;subst this;obtain⟨l1,e1⟩:=zE.1 hk;obtain⟨l2,e2⟩:=zE.1 a7;rcases xH i i' with hlt | he | hlt
         . exact absurd (e1.trans e2.symm) (yB.1 j i i' l1 l2 hlt)
         . exact he
         exact absurd (e2.trans e1.symm) (yB.1 j i' i l2 l1 hlt)
       refine AR.map _ a5 λu c o e=>?_
       have hF:∀b,J.F b->(F0 b\/(w.heap.size<=b/\b<w'.heap.size/\∀i,b∉SM J (Qu x.cells) i)):=λb hb=>by
        obtain⟨h1,m⟩:=d.fl b hb;refine m.imp id λm=>⟨m.elim id False.elim,h1,λi g=>?_⟩
        obtain⟨k,_,g⟩:=Nz g;exact(d.lo k b g).2.2 hb
       have z:=Hw a3 c o;cases c with
       | int | bool | str | raw=>exact e
       | slc t n l=>
         cases t with
         | emp=>exact e
         | sh=>exact VV.keep (λb hb=>⟨hF b hb,rfl⟩) e
         | vw k=>cases z
         | put=>exact e.elim
         | own b k=>
           cases b with
           | false=>
             show OwnTop _ (SM J (Qu x.cells) (Qms k (Qu x.cells))) w' u _ _;unfold SM;rw[QV (Nw o rfl)];exact OwnTop.keep (F:=J.F) e (λb hb=>⟨hF b hb,rfl⟩) λ_ _=>rfl
           | true=>
             show OwnDeep (SM J (Qu x.cells) (Qms k (Qu x.cells))) w' u _ _;unfold SM;rw[QV (Nw o rfl)];exact e
       | _=>cases z
   cases h
 cases h
theorem QW{tt:H (Y×TI)}(l:Nq P tt=uA){f:Y}{fn:Func}{c:uJ}(z:P.funcs[f]? =E fn)(a:fn.body=E c)(m:Fr P f){args:H AV}{r:AV}(hn:args.length<=fn.ntmps)
 (h:∀w0 F0,GoodAt P w0->AWP P fn.ntmps w0 F0 c (Qe5 tt fn.results.toList r) (ZQ args)):ACalls P f args r:=by
 refine⟨m,λw V F d hF g=>calls_of_wp z a ?_⟩;have y:=g.length;refine wp_mono (h ⟨w,λ_=>False,uC⟩ F (.of V) (LL F) _ w ?_) ?_
 . refine {below:=Base.Keeps.refl _,nodef:=rfl,size:= ?_,fl:=λb a=>⟨hF b a,.inl a⟩,f0:=λb a=>a,nd:=λk=>by simp[LL],lo:=λk b a=>by simp[LL] at a,dj:=λk k' b a=>by simp[LL] at a,bo:=λk c n=>by simp[ZQ,get] at n,nb:= .inl rfl,cb:=(λb a=>by cases a),bi:=λk k' c c' n=>by simp[ZQ,get] at n,tm:=λt v hv=>?_}
   . simp;omega
   obtain⟨_,ht⟩:=P4 hv;obtain⟨u,o,hr⟩:=g.get' ht;have p:t<d.length:=(zE.1 o).1
   have:(d.toArray++xM (fn.ntmps-d.toArray.size) undef).getD t undef=u:=by
    rw[zN,yL (by simpa using p)];simp at o⊢;rw[o];rfl
   rw[this];exact hr
 rintro e a' w' ⟨J',s',i,j⟩
 cases e with
 | normal=>
   obtain⟨frz,j⟩:=j;obtain⟨q,i⟩:=B4 frz rfl _ _ _ _ _ _ i;obtain⟨v,s,x⟩:=Qbd (P:=P) l (fn:=fn) i j;exact⟨i.nodef,v,s,x⟩
 | ret=>
   obtain⟨frz,j⟩:=j;obtain⟨q,i⟩:=B4 frz rfl _ _ _ _ _ _ i;obtain⟨v,s,x⟩:=Qbd (P:=P) l (fn:=fn) i j;exact⟨i.nodef,v,s,x⟩
 | _=>exact j.elim
end
end
section
open Go.RowKit
open GoD (rd own)
class GoE (α:Type) extends GoD α where
 enc:α->H PV
 enc_len:∀a,(enc a).length=GoD.n α
 no_any:∀{a:α} {p:PV},p∈enc a->p≠ .any
 n_pos:0<GoD.n α
 /-- no list in it is longer than what any append makes -/
 wide:α->Prop
 wide_size:∀{a:α},GoD.size a<=1073741824->wide a
 vc_wide:∀{X:Y->Prop} {w:uD} {cs:H uG} {a:α},VC X w cs (enc a)->wide a
 rd_vc:∀{w:uD} {cs:H uG} {a:α},rd w cs a->wide a->VC (λb=>b<w.heap.size) w cs (enc a)
 vc_rd:∀{X:Y->Prop} {w:uD} {cs:H uG} {a:α},VC X w cs (enc a)->rd w cs a
 own_oc:∀{L:H Y} {w:uD} {cs:H uG} {a:α},own L w cs a->wide a->OC w L cs (enc a)
 oc_own:∀{L:H Y} {w:uD} {cs:H uG} {a:α},OC w L cs (enc a)->L.Nodup->own L w cs a
open GoE (enc wide)
instance instGoEInt:GoE G where
 enc a:= [.int .i64 a]
 no_any h:=by rw[zX.1 h];simp
 enc_len _:=rfl
 n_pos:=yK
 wide _:=True
 wide_size _:=trivial
 vc_wide _:=trivial
 rd_vc h _:=by obtain⟨rfl,h⟩:=h;exact .cons (.int ((Mj _).2 h)) .nil
 vc_rd h:=by
  cases h with
  | cons b c=>cases c;cases b;exact⟨rfl,(Mj _).1 ‹_›⟩
 own_oc h _:=by obtain⟨rfl,rfl,h⟩:=h;exact OC.cons (L1:= []) (L2:= []) (.int ((Mj _).2 h)) .nil
 oc_own h _:=by
  cases h with
  | cons b c=>cases c;cases b;exact⟨rfl,rfl,(Mj _).1 ‹_›⟩
instance instGoEBool:GoE uE where
 enc a:= [.bool a]
 no_any h:=by rw[zX.1 h];simp
 enc_len _:=rfl
 n_pos:=yK
 wide _:=True
 wide_size _:=trivial
 vc_wide _:=trivial
 rd_vc h _:=by rw[show _=_ from h];exact .cons (.bool _) .nil
 vc_rd h:=by
  cases h with
  | cons b c=>cases c;cases b;rfl
 own_oc h _:=by obtain⟨rfl,rfl⟩:=h;exact OC.cons (L1:= []) (L2:= []) (.bool _) .nil
 oc_own h _:=by
  cases h with
  | cons b c=>cases c;cases b;exact⟨rfl,rfl⟩
instance instGoEStr:GoE uF where
 enc a:= [.str a]
 no_any h:=by rw[zX.1 h];simp
 enc_len _:=rfl
 n_pos:=yK
 wide _:=True
 wide_size _:=trivial
 vc_wide _:=trivial
 rd_vc h _:=by obtain⟨rfl,h⟩:=h;exact .cons (.str h) .nil
 vc_rd h:=by
  cases h with
  | cons b c=>cases c;cases b;exact⟨rfl,‹_›⟩
 own_oc h _:=by obtain⟨rfl,rfl,h⟩:=h;exact OC.cons (L1:= []) (L2:= []) (.str h) .nil
 oc_own h _:=by
  cases h with
  | cons b c=>cases c;cases b;exact⟨rfl,rfl,‹_›⟩
theorem VC.split{X:Y->Prop}{w:uD}:∀{ps a:H PV} {vs:H uG},VC X w vs (ps++a)->∃c b,vs=c++b/\VC X w c ps/\VC X w b a
 | [],a,vs,h=>⟨[],vs,rfl,.nil,h⟩
 | p ::ps,a,vs,h=>by
   generalize d:p::ps++a=q at h;cases h with
   | nil=>cases d
   | cons e f=>
     cases d
     obtain⟨c,b,rfl,g,i⟩:=VC.split f;exact⟨_,b,rfl,.cons e g,i⟩
instance instGoEProd {α β:Type} [GoE α] [GoE β]:GoE (α×β) where
 enc p:=enc p.1++enc p.2
 no_any h:=(yA.1 h).elim GoE.no_any GoE.no_any
 enc_len p:=by rw[yR,GoE.enc_len,GoE.enc_len];rfl
 n_pos:=yS (GoE.n_pos (α:=α)) (yX _ _)
 wide p:=wide p.1/\wide p.2
 wide_size h:=⟨GoE.wide_size (yC (yX _ _) h),GoE.wide_size (yC (Nat.le_add_left _ _) h)⟩
 vc_wide h:=by
  obtain⟨c,d,rfl,a,b⟩:=VC.split h;exact⟨GoE.vc_wide a,GoE.vc_wide b⟩
 rd_vc h hw:=by
  obtain⟨c,d,rfl,a,b⟩:=h;exact VC.append (GoE.rd_vc b hw.2) (GoE.rd_vc a hw.1)
 vc_rd h:=by
  obtain⟨c,d,rfl,a,b⟩:=VC.split h;exact⟨c,d,rfl,GoE.vc_rd a,GoE.vc_rd b⟩
 own_oc h hw:=by
  obtain⟨_,c,d,L1,L2,rfl,rfl,a,b⟩:=h;exact OC.append (GoE.own_oc b hw.2) (GoE.own_oc a hw.1)
 oc_own h hn:=by
  obtain⟨L1,L2,c,d,rfl,rfl,a,b⟩:=OC.split h;obtain⟨e,f,_⟩:=List.nodup_append.1 hn;exact⟨hn,c,d,L1,L2,rfl,rfl,GoE.oc_own a e,GoE.oc_own b f⟩
def eL{α:Type}[GoE α](l:H α):H (H PV):=l.map enc
section
variable {α:Type} [GoE α]
theorem UM(a:α)(l:H α):eL (a::l)=enc a::eL l:=rfl
theorem Qf0(l m:H α):eL (l++m)=eL l++eL m:=by simp[eL]
theorem Yu(l:H α):(eL l).length=l.length:=by simp[eL]
theorem Qf1(l:H α)(k:Y):(eL l).take k=eL (l.take k):=by simp[eL]
theorem Qf2(l:H α)(k:Y):(eL l).drop k=eL (l.drop k):=by simp[eL]
theorem Qf3{l:H α}{i:Y}{a:α}(h:l[i]? =E a):(eL l)[i]? =E (enc a):=by simp[eL,h]
theorem Qf4{w:uD}{X:Y->Prop}{b off:Y}:∀(l:H α),(∀i a,l[i]? =E a->∃ce:H uG,ce.length=GoD.n α/\(∀j v,ce[j]? =E v->w.cell? ⟨b,off+i*GoD.n α+j,uC⟩=E v)/\VC X w ce (enc a))->
 ∃cs,(∀(j:Y) (u:uG),cs[j]? =E u->w.cell? ⟨b,off+j,uC⟩=E u)/\VR X w (GoD.n α) cs (eL l)
 | [],_=>⟨[],by simp,.nil _⟩
 | a ::l,h=>by
   obtain⟨ce,q,f,g⟩:=h 0 a rfl
   obtain⟨cs,k,m⟩:=Qf4 (b:=b) (off:=off+GoD.n α) l λi x n=>by
    obtain⟨c,k1,o,p⟩:=h (i+1) x (by simpa using n);refine⟨c,k1,λj v d=>?_,p⟩;have:=o j v d;rw[zS,yD] at this;rw[show off+GoD.n α+i*GoD.n α+j=off+(i*GoD.n α+GoD.n α)+j by omega];exact this
   refine⟨ce++cs,λj u d=>?_,.cons g (GoE.enc_len a) m⟩;rcases xX j ce.length with e | hge
   . rw[zV e] at d;have:=f j u d;simpa using this
   rw[zT hge] at d;have:=k _ u d;rw[show off+GoD.n α+(j-ce.length)=off+j by omega] at this;exact this
theorem Qbe{w:uD}:∀(l:H α) (b:H (H Y)) (cs:H uG),(∀a,a∈l->wide a)->b.length=l.length->cs.length=l.length*GoD.n α->(∀i c a,b[i]? =E c->l[i]? =E a->own c w ((cs.drop (i*GoD.n α)).take (GoD.n α)) a)->OR w (GoD.n α) b.flatten cs (eL l)
 | [],b,cs,_,h1,h2,_=>by
   obtain rfl:b= []:=zO h1;obtain rfl:cs= []:=zO (by simpa using h2);exact .nil _
 | a::l, [],cs,_,h1,_,_=>by simp at h1
 | a ::l,c::b,cs,hw,h1,h2,h=>by
   have e:=h 0 c a rfl rfl;rw[Nat.zero_mul,List.drop_zero] at e
   have f:=Qbe l b (cs.drop (GoD.n α)) (λx d=>hw x (zR _ d)) (by simpa using h1) (by rw[List.length_drop,h2,List.length_cons,zS,yD];omega) λi g x hi d=>by
    have:=h (i+1) g x (by simpa using hi) (by simpa using d);rw[zS,yD,Nat.add_comm,←xC] at this;exact this
   rw[←yW (GoD.n α) cs];exact .cons (GoE.own_oc e (hw a yF)) (GoE.enc_len a) f
theorem Qbf{w:uD}:∀(l:H α) (L:H Y) (cs:H uG),OR w (GoD.n α) L cs (eL l)->L.Nodup->∃c:H (H Y),L=c.flatten/\c.length=l.length/\∀i d a,c[i]? =E d->l[i]? =E a->own d w ((cs.drop (i*GoD.n α)).take (GoD.n α)) a
 | [],L,cs,h,_=>by cases h;exact⟨[],rfl,rfl,by simp⟩
 | a :: l,L,cs,h,hn=>by
   cases h with
   | @cons _ L1 L2 ce cs' _ _ h1 h2 h3=>
     obtain⟨f,g,_⟩:=List.nodup_append.1 hn;obtain⟨c,rfl,j,k⟩:=Qbf l L2 cs' h3 g;have b:ce.length=GoD.n α:=by rw[h1.length,GoE.enc_len]
     refine⟨L1::c,rfl,by simp[j],λi d x hi e=>?_⟩;cases i with
     | zero=>
       simp at hi e;subst hi e;rw[Nat.zero_mul,List.drop_zero,←b,List.take_left];exact GoE.oc_own h1 f
     | succ i=>
       have:=k i d x (by simpa using hi) (by simpa using e);rw[zS,yD,Nat.add_comm,←xC,←b,List.drop_left,b];exact this
def Qkj(l:H α):Prop:=l.length<=1073741824/\∀a,a∈l->wide a
theorem Qqm{w:uD}{v:uG}{l:H α}(h:rdS w [v] l)(k:Qkj l):VV (λb=>b<w.heap.size) w v (.slc (GoD.n α) (eL l)):=by
 obtain⟨oa,cap,e,p,m,d⟩:=h;obtain rfl:v=_:=by simpa using e
 cases f:l with
 | nil=>exact .emp oa _ m
 | cons a l'=>
   obtain⟨b,off,g,j,q,c,n⟩:=d 0 a (by rw[f];rfl);subst j
   obtain⟨cs,r,s⟩:=Qf4 (X:=λb=>b<w.heap.size) (w:=w) (b:=b) (off:=off) l λi x o=>by
    obtain⟨t,off',ce,e',k1,u,y⟩:=d i x o;obtain⟨rfl,rfl⟩:b=t/\off=off':=by simpa using e'
    exact⟨ce,k1,u,GoE.rd_vc y (k.2 x (yM o))⟩
   rw[←f,←Yu (l:=l)];refine .slc ?_ r s (by rw[Yu];exact p) ⟨m,by rw[Yu];exact k.1⟩;have z:=GoE.n_pos (α:=α);have:=c 0 g[0] (zJ (by omega));exact World.block_lt_of_cell? _ _ this
theorem Qmt{X:Y->Prop}{w:uD}{v:uG}{l:H α}(h:VV X w v (.slc (GoD.n α) (eL l))):rdS w [v] l:=by
 generalize c:PV.slc (GoD.n α) (eL l)=p at h;cases h with
 | int | bool | str | any | raw=>cases c
 | @emp oa cap n hcap=>
   simp only[PV.slc.injEq] at c
   have:l= []:=by
    cases l with
    | nil=>rfl
    | cons a l=>simp[eL] at c
   subst this;exact⟨oa,cap,rfl,yN _,hcap,by simp⟩
 | @slc b off cap n cs l' hb hc hr h1 h2=>
   simp only[PV.slc.injEq] at c;obtain⟨rfl,rfl⟩:=c;refine⟨_,cap,by rw[Yu],by simpa [Yu] using h1,h2.1,λi a hi=>⟨b,off,(cs.drop (i*GoD.n α)).take (GoD.n α),rfl, ?_, ?_, ?_⟩⟩
   . exact(hr.get (Qf3 hi)).1.length.trans (GoE.enc_len a)
   . exact El (Cx hc)
   exact GoE.vc_rd (hr.get (Qf3 hi)).1
theorem Qf5{L:H Y}{w:uD}{v:uG}{l:H α}(h:Qqa L w [v] l)(f:Qkj l):OV w L v (.slc (GoD.n α) (eL l)):=by
 obtain⟨m,⟨rfl,rfl,oa,e⟩ | ⟨g,cap,cur,e,n,o,p,j,q,k,rfl,b,c⟩⟩:=h
 . obtain rfl:v=_:=by simpa using e
   exact .emp oa _
 obtain rfl:v=_:=by simpa using o
 rw[←Yu (l:=l)];refine .slc p k ?_ (by simpa [Yu] using j) ⟨q,by rw[Yu];exact f.1⟩;have d:l.length*GoD.n α<=cur.size:=by rw[k];exact zU _ j
 refine Qbe l n _ f.2 b (by simp[Yu];omega) λi r a hi ha=>?_
 have s:i<l.length:=(zE.1 ha).1;have:=c i r a hi ha
 rw[xR,xS,Yu,xN (by
  have:=zU (GoD.n α) (show i+1<=l.length by omega);rw[zS,yD] at this;omega)]
 exact this
theorem Qn6{L:H Y}{w:uD}{v:uG}{l:H α}(h:OV w L v (.slc (GoD.n α) (eL l)))(c:L.Nodup):Qqa L w [v] l:=by
 generalize b:PV.slc (GoD.n α) (eL l)=p at h;cases h with
 | int | bool | str | any | raw=>cases b
 | emp oa n=>
   simp only[PV.slc.injEq] at b
   have:l= []:=by
    cases l with
    | nil=>rfl
    | cons a l=>simp[eL] at b
   subst this;exact⟨by simp,.inl ⟨rfl,rfl,oa,rfl⟩⟩
 | @slc g cap n cur e L l' hg hs hr h1 h2=>
   simp only[PV.slc.injEq] at b;obtain⟨rfl,rfl⟩:=b;obtain⟨d,rfl,f,j⟩:=Qbf l L _ hr (yZ.1 c).2;refine⟨c,.inr ⟨g,cap,cur,e,d,by rw[Yu],hg,by simpa [Yu] using h1,h2.1,hs,rfl,f,λi k a hi ha=>?_⟩⟩;have m:i<l.length:=(zE.1 ha).1;have:=j i k a hi ha
   rw[xR,xS,Yu,xN (by
    have:=zU (GoD.n α) (show i+1<=l.length by omega);rw[zS,yD] at this;omega)] at this
   exact this
theorem MN{X:Y->Prop}{w:uD}:∀{l:H α} {cs:H uG},VR X w (GoD.n α) cs (eL l)->∀a,a∈l->wide a
 | [],_,_,a,ha=>by simp at ha
 | x ::l,cs,h,a,ha=>by
   cases h with
   | cons b d c=>
     rcases zM.1 ha with rfl | ha
     . exact GoE.vc_wide b
     exact MN c a ha
theorem Tw{X:Y->Prop}{w:uD}{v:uG}{l:H α}(h:VV X w v (.slc (GoD.n α) (eL l))):Qkj l:=by
 generalize c:PV.slc (GoD.n α) (eL l)=p at h;cases h with
 | int | bool | str | any | raw=>cases c
 | emp oa n d=>
   simp only[PV.slc.injEq] at c
   have:l= []:=by
    cases l with
    | nil=>rfl
    | cons a l=>simp[eL] at c
   subst this;exact⟨yN _,by simp⟩
 | @slc b off cap n cs l' hb hc hr h1 h2=>
   simp only[PV.slc.injEq] at c;obtain⟨rfl,rfl⟩:=c;exact⟨by have:=h2.2;rwa [Yu] at this,MN hr⟩
end
theorem VC.one{X:Y->Prop}{w:uD}{v:uG}{p:PV}(h:VC X w [v] [p]):VV X w v p:=by cases h;assumption
theorem OC.one{w:uD}{L:H Y}{v:uG}{p:PV}(h:OC w L [v] [p]):OV w L v p:=by
 generalize a: [v]=vs at h;generalize b: [p]=ps at h;cases h with
 | nil=>cases a
 | cons c d=>
   cases a
   cases b
   cases d
   rw[xA];exact c
theorem VC.one' {X:Y->Prop} {w:uD} {vs:H uG} {p:PV} (h:VC X w vs [p]):∃v,vs= [v]/\VV X w v p:=by
 cases h with
 | cons a b=>cases b;exact⟨_,rfl,a⟩
theorem OC.one' {w:uD} {L:H Y} {vs:H uG} {p:PV} (h:OC w L vs [p]):∃v,vs= [v]/\OV w L v p:=by
 obtain⟨v,e⟩:∃v,vs= [v]:=by
  have:=h.length
  match vs,this with
  | [v],_=>exact⟨v,rfl⟩
 subst e;exact⟨v,rfl,h.one⟩
instance instGoEList {α:Type} [GoE α]:GoE (H α) where
 enc l:= [.slc (GoD.n α) (eL l)]
 no_any h:=by rw[zX.1 h];simp
 enc_len _:=rfl
 n_pos:=yK
 wide:=Qkj
 wide_size h:=⟨yC (QI _) h,λa ha=>by
  obtain⟨i,hi⟩:=List.mem_iff_getElem?.1 ha;exact GoE.wide_size (yC (FF hi) h)⟩
 vc_wide hc:=by
  obtain⟨v,rfl,h⟩:=VC.one' hc;exact Tw h
 rd_vc h hw:=by
  have h:rdS _ _ _:=h;obtain⟨oa,cap,rfl,_⟩:=id h;exact .cons (Qqm h hw) .nil
 vc_rd hc:=by
  obtain⟨v,rfl,h⟩:=VC.one' hc;exact Qmt h
 own_oc h hw:=by
  have h:Qqa _ _ _ _:=h;obtain⟨oa,cap,rfl,_⟩:=Qaz h;have:=OC.cons (Qf5 h hw) .nil;rw[xA] at this;exact this
 oc_own hc hn:=by
  obtain⟨v,rfl,h⟩:=OC.one' hc;exact Qn6 h hn
def shC:PV->C:=CC .sh
def owC:Y->H PV->H C
 | _, []=> []
 | k,.slc n l::r=> .slc (.own uA k) n l::owC (k+1) r
 | k,.int a b::r=> .int a b::owC k r
 | k,.bool b::r=> .bool b::owC k r
 | k,.str b::r=> .str b::owC k r
 | k,.any::r=> .dead::owC k r
 | k,.raw v::r=> .raw v::owC k r
section
variable {X:Y->Prop} {F:Y->Prop} {w w':uD} {L:Y->H Y}
theorem Qf6{J:Inj}:∀{vs:H uG} {ps:H PV},VC J.F w vs ps->All2 (CR J w) vs (ps.map shC)
 | _,_,.nil=> .nil
 | _,_,.cons h1 h2=> .cons (FG (J:=J) (tok:= .sh) (X:=J.F) (λ_ _ _ h=>h) h1) (Qf6 h2)
theorem Qqn{J:Inj}:∀{ps:H PV} {vs:H uG},All2 (CR J w) vs (ps.map shC)->(∀p,p∈ps->p≠ .any)->VC J.F w vs ps
 | [],vs,h,_=>by cases h;exact .nil
 | p ::ps,vs,h,hz=>by
   cases h with
   | cons a b=>
     refine .cons ?_ (Qqn b λp c=>hz p (zR _ c));cases p with
     | int=>obtain⟨rfl,h⟩:=a;exact .int h
     | bool=>obtain rfl:=a;exact .bool _
     | str=>obtain⟨rfl,h⟩:=a;exact .str h
     | slc n l=>exact a
     | any=>exact(hz _ yF rfl).elim
     | raw=>obtain⟨rfl,a,b⟩:=a;exact .raw a b
end
section
variable {α:Type} [GoE α] {P:uK}
def Aj(a:α):AV:= .agg ((enc a).map shC)
def R9(a:α):AV:= .agg (owC 0 (enc a))
def Qp8(l:H α):AV:= .one (.slc .sh (GoD.n α) (eL l))
def LM(l:H α):AV:= .one (.slc (.own uA 0) (GoD.n α) (eL l))
def Qmu(n:G):AV:= .one (.int .i64 n)
def Qqo(b:uE):AV:= .one (.bool b)
theorem Qn7{w:uD}{cs:H uG}{a:α}(h:rd w cs a)(c:wide a):AR (LL λb=>b<w.heap.size) w (.agg cs.toArray) (Aj a):=⟨cs,rfl,Qf6 (J:=LL λb=>b<w.heap.size) (GoE.rd_vc h c)⟩
theorem ACalls.run{f:Y}{args:H AV}{r:AV}(h:ACalls P f args r){w:uD}[c:Good P w]{a:H uG}(d:All2 (AR (LL λb=>b<w.heap.size) w) a args):Calls P f a.toArray w (Qj5 (λb=>b<w.heap.size) w r):=
 h.2 w c _ a (λ_ h=>h) d
theorem Qkk{w:uD}{F:Y->Prop}{b:uE}{e:Ending}{w':uD}(h:Qj5 F w (Qqo b) e w'):Ret w (.bool b) e w':=by
 obtain⟨v,L,rfl,hb,_,_,_,rfl⟩:=h;exact⟨rfl,hb⟩
end
end
section
open Go.RowKit
open GoE (enc)
section
variable {A:Y->H AV->AV->Prop} {T:TakeT}
theorem Mm{P:uK}{a:Base}[GoodAt P a]{f:Y}{args:H AV}{r:AV}(h:ACalls P f args r):(Ob.call f args r).holds (Zp P a) T:=h.at
theorem UN{P:uK}{c:Base}[GoodAt P c]{f n:Y}{l:H (H PV)}{args:H AV}{b a:uE}{l':H (H PV)}(h:ATake P f n l args b a l'):(Ob.take f n l args b a l').holds A (V0 P c):=h.at
theorem Lc{P:uK}{b:Base}[GoodAt P b]{f:Y}{cs:H C}{args:H AV}{r:AV}{a:H C}(h:AGive P f cs args r a):(Ob.give f cs args r a).holds A (V0 P b):=h.at
theorem Qbg{P:uK}{a:Base}[GoodAt P a]{f:Y}{args:H AV}{r:AV}(h:AVal P f args r):(Ob.val f args r).holds A (V0 P a):=h.at
theorem Qsp{a b:AV}(h:a=b):(Ob.eq a b).holds A T:=h
theorem Gt{lo hi:G}{n:Y}(h:0<=lo/\lo<=hi/\hi<=n):(Ob.rng lo hi n).holds A T:=h
theorem Df{i:G}{n:Y}(h:0<=i/\i<n):(Ob.idx i n).holds A T:=h
theorem Ae{l:H (H PV)}(h:Ds l):(Ob.flat l).holds A T:=h
theorem Db{n:Y}(h:n<=1073741824):(Ob.len n).holds A T:=h
theorem Zw{n:Y}(h:n<=uU):(Ob.slen n).holds A T:=h
theorem Qn8{n:G}(h:n≠0):(Ob.nz n).holds A T:=h
theorem Qf7{k:IntKind}{n:G}(h:InR k n):(Ob.inr k n).holds A T:=h
end
theorem UO(k:Y)(h:k<9223372036854775807):uZ vA ((k:G)+1)=((k+1:Y):G):=by
 rw[IntWalk.i64_in _ (by omega)];rfl
theorem Xo{α:Type}{l:H α}{i:Y}(h:i<l.length):∃x,l[i]? =E x:=⟨l[i],zJ h⟩
class FlatE (α:Type) [GoE α]:Prop where
 flat:∀a:α,∀p,p∈enc a->p.flat
instance:FlatE G:=⟨λa p b=>by obtain rfl:=zX.1 b;trivial⟩
instance:FlatE uE:=⟨λa p b=>by obtain rfl:=zX.1 b;trivial⟩
instance:FlatE uF:=⟨λa p b=>by obtain rfl:=zX.1 b;trivial⟩
instance {α β:Type} [GoE α] [GoE β] [FlatE α] [FlatE β]:FlatE (α×β):=⟨λa p b=>(yA.1 b).elim (FlatE.flat a.1 p) (FlatE.flat a.2 p)⟩
theorem Uz{α:Type}[GoE α][FlatE α](l:H α):Ds (eL l):=λr b p c=>by
 obtain⟨a,_,rfl⟩:=xB.1 b;exact FlatE.flat a p c
theorem S6{α β:Type}[GoD α][GoD β]{p:α×β}{N:Y}(a:GoD.size p<=N):GoD.size p.1<=N:=yC (yX _ _) a
theorem M8{α β:Type}[GoD α][GoD β]{p:α×β}{N:Y}(a:GoD.size p<=N):GoD.size p.2<=N:=yC (Nat.le_add_left _ _) a
section
variable {P:uK} {α β:Type} [GoE α] [GoE β]
theorem Ld{f:Y}(j:Fr P f){l:H α}{r:H β}(h:∀w v,GoD.rd w [v] l->GoE.wide l->Calls P f #[v] w (RetS w r))(q:GoE.wide l->GoE.wide r):ACalls P f [Qp8 l] (LM r):=by
 refine⟨j,λw _ F p x g=>?_⟩;cases g with
 | cons m s=>
   cases s
   refine(h w _ (Qmt m) (Tw m)).mono ?_
   rintro e w' ⟨v,L,rfl,hb,i,t⟩
   have n:=GoD.own_lt i
   have a:∀k b,b∈(if k=0 then L else [])->k=0/\b∈L:=λk b c=>by
    by_cases d:k=0
    . rw[uN d] at c;exact⟨d,c⟩
    rw[uI d] at c;simp at c
   refine⟨v,λk=>if k=0 then L else [],rfl,hb,λk=>?_,λk b c=>⟨t b (a k b c).2,n b (a k b c).2⟩,λk u b c o=>(a k b c).1.trans (a u b o).1.symm,OwnDeep.of (Qf5 i (q (Tw m))) (GoD.own_nd i)⟩;by_cases d:k=0
   . simp only[uN d];exact GoD.own_nd i
   simp only[uI d];exact List.nodup_nil
end
theorem UP{P:uK}{N:Y}{a:Base}{b:Y->Prop}{Q:Exit->St->Prop}{s s':St}{c:uJ}(l:H Y)(d:s.demotes l=s')(h:AWP P N a b c Q s'):AWP P N a b c Q s:=Ex (d▸P3 l s) h
theorem Km{α:Type}[GoE α]{o:Y}{ps:H PV}{y:α}:∀{l:H α} {i:Y} {x:α},l[i]? =E x->(GoE.enc x).take o++ps++(GoE.enc x).drop (o+ps.length)=GoE.enc y->setRow (eL l) i o ps=eL (l.set i y)
 | [],i,x,h,_=>by simp at h
 | a::l,0,x,h,e=>by
   obtain rfl:a=x:=by simpa using h
   show((GoE.enc a).take o++ps++(GoE.enc a).drop (o+ps.length))::eL l=_;rw[e];rfl
 | a::l,i+1,x,h,e=>by
   show GoE.enc a::setRow (eL l) i o ps=_;rw[Km (l:=l) (i:=i) (x:=x) (by simpa using h) e];rfl
end
section
open Go.RowKit
def M9:H Operand->H Y
 | []=> []
 | .tmp t::r=>t::M9 r
 | _::r=>M9 r
def FS(a:H Oper)(o:Oper):H Y:=
 M9 o.op.operands.toList++(match o.guard with
  | some (j,_)=>(match a[j]? with
    | some b=>(match b.dst with
      | some t=> [t]
      | none=> [])
    | none=> [])
  | none=> [])
def Ut:H (Y×uH Tok)->H Y
 | []=> []
 | p::r=>p.1::Ut r
def RQ:H (Y×uH Tok)->H Tok
 | []=> []
 | (_,E t)::r=>t::RQ r
 | _::r=>RQ r
def FT:Tok->Tok->uE
 | .sh,.sh=>uA
 | .emp,.emp=>uA
 | .own d k,.own d' k'=>(match d,d' with
   | true,uA=>uA
   | false,uB=>uA
   | _,_=>uB)&&zQ k k'
 | .vw k,.vw k'=>zQ k k'
 | _,_=>uB
def KJ:Tok->uE
 | .put _ _ _ _ _=>uB
 | _=>uA
def Pp:H (Y×uH Tok)->uE
 | []=>uA
 | (_,E t)::r=>KJ t&&Pp r
 | (_,uC)::r=>Pp r
def UQ(t:Tok):H Tok->uE
 | []=>uB
 | x::r=>FT x t|| UQ t r
def Qdi(r:Res)(c:C):uE:=
 (match c.key with
  | some k=> !(Nr k (Ut r.rl))
  | none=>uA)&&(match r.kb with
  | some b=> !(Nr b c.bkeys)
  | none=>uA)
def Qn9(r:Res)(c:C):uE:=
 Pp r.rl&&match c with
 | .dead=>uB
 | .slc t _ _=> !(UQ t (RQ r.rl))
 | .rptr t _=> !(UQ t (RQ r.rl))
 | _=>uA
def Qmv(r:Res):uE:=match r.rl,r.kb with
 | [],uC=>uA
 | _,_=>uB
def Qjr(r:Res)(c:C):uE:=Qmv r|| Qn9 r c
def Mn:H (Y×H C)->H C
 | []=> []
 | p::r=>p.2++Mn r
def P5:H Tok->H Y
 | []=> []
 | t::r=>(match t.key with
   | some k=> [k]
   | none=> [])++P5 r
def Qdj(a b:uH Y):uE:=match a,b with
 | some x,E y=> !(zQ x y)
 | _,_=>uA
def Ge(a:uH Y)(l:H Y):uE:=match a with
 | some x=> !(Nr x l)
 | none=>uA
def QY(r:Res):uH Y:=match r.bx with
 | some p=>E p.1
 | none=>uC
def FU(r:Res):H C:=match r.bx with
 | some p=>p.2
 | none=> []
def Qf8(c:H Oper)(d:Oper)(b:Rec)(e:Oper)(a:Rec):uE:=
 Qdj d.dst e.dst&&Ge d.dst (FS c e)&&Ge e.dst (FS c d)&&
 Ai (Qjr b.res) (Ze a.avs)&&Ai (Qjr b.res) (Mn a.bn)&&Ai (Qdi a.res) (Ze b.avs)&&Ai (Qdi a.res) (Mn b.bn)&&
 Ai (Qdi b.res) a.res.av.cells&&Ai (Qdi b.res) (FU a.res)&&Ai (Qdi a.res) b.res.av.cells&&Ai (Qdi a.res) (FU b.res)&&
 P0 (Ut b.res.rl) (Ut a.res.rl++P5 (RQ a.res.rl))&&P0 (Ut a.res.rl) (P5 (RQ b.res.rl))&&
 Qdj (QY b.res) (QY a.res)&&Ge (QY b.res) (P2 (Ze a.avs))&&Ge (QY a.res) (P2 (Ze b.avs))&&Pp b.res.rl&&Pp a.res.rl
section
theorem AV.map_map(f g:C->C)(v:AV):(v.map f).map g=v.map (g ∘ f):=by
 cases v<;>simp[AV.map,Function.comp_def]
theorem AV.map_id' {f:C->C} {v:AV} (h:∀c,c∈v.cells->f c=c):v.map f=v:=by
 cases v with
 | one c=>simp[AV.map,h c (by simp[AV.cells])]
 | agg cs=>
   simp only[AV.map]
   congr 1
   exact(yI λc b=>h c b).trans (xL cs)
 | tup l=>
   simp only[AV.map]
   congr 1
   refine(yI λp d=>?_).trans (xL l);obtain⟨a,cs⟩:=p;have:cs.map f=cs:=(yI λc b=>h c (by simp only[AV.cells,xJ];exact⟨_,d,b⟩)).trans (xL cs);simp[this]
theorem AV.map_inj' {f:C->C} {v u:AV} (h:v.map f=u) (i:∀j c,f j=c->c∈u.cells->j=c):v=u:=by
 have key:∀(l m:H C),l.map f=m->(∀c,c∈m->c∈u.cells)->l=m:=by
  intro l
  induction l with
  | nil=>intro m h _;exact h
  | cons c l g=>
    intro m h k;cases m with
    | nil=>cases h
    | cons d m=>
      simp only[yE,List.cons.injEq] at h;rw[i c d h.1 (k d (by simp)),g m h.2 λc b=>k c (by simp[b])]
 cases v with
 | one c=>
   simp only[AV.map] at h;subst h;exact uS AV.one (i c _ rfl (by simp[AV.cells]))
 | agg cs=>
   simp only[AV.map] at h;subst h;exact uS AV.agg (key cs _ rfl λc b=>b)
 | tup l=>
   simp only[AV.map] at h;subst h
   congr 1
   have :∀(ps:H (uE×H C)),(∀p,p∈ps->p∈l)->ps=ps.map λp=>(p.1,p.2.map f):=by
    intro ps
    induction ps with
    | nil=>intro _;rfl
    | cons p ps g=>
      intro e;obtain⟨a,cs⟩:=p;simp only[yE];rw[←g λp n=>e p (by simp[n])]
      congr 2
      exact key cs _ rfl λc b=>by
       simp only[AV.cells,xJ,xB];exact⟨(a,cs.map f),⟨(a,cs),e _ (by simp),rfl⟩,b⟩
   exact this l λp e=>e
theorem Em{c:H (Y×uH Tok)}{k:Y}:k∉Ut c->get c k=uC:=by
 induction c with
 | nil=>intro _;rfl
 | cons p r d=>
   intro h;simp only[Ut,zM,not_or] at h;obtain⟨a,b⟩:=p;simp only[get];rw[uI λe=>h.1 e.symm];exact d h.2
theorem VU{rl:H (Y×uH Tok)}{k:Y}{t:Tok}:get rl k=E (E t)->t∈RQ rl/\k∈Ut rl:=by
 induction rl with
 | nil=>intro h;cases h
 | cons p r c=>
   intro h;obtain⟨a,b⟩:=p;simp only[get] at h;split at h
   . rename_i e;obtain rfl:=zD h;exact⟨by simp[RQ],by simp[Ut,e]⟩
   obtain⟨d,f⟩:=c h;refine⟨?_,by simp[Ut,f]⟩;cases b<;>simp[RQ,d]
theorem MO(t:Tok)(a:KJ t=uA):FT t t=uA:=by
 cases t with
 | own d k=>cases d<;>simp[FT]
 | put=>cases a
 | _=>simp[FT]
theorem ZT{t:Tok}(a:KJ t=uA):∀{l:H Tok},t∈l->UQ t l=uA
 | x::r,h=>by
   rcases zM.1 h with rfl | h
   . simp[UQ,MO t a]
   simp[UQ,ZT a h]
theorem P6{d:H (Y×uH Tok)}{k:Y}{t:Tok}(c:Pp d=uA):get d k=E (E t)->KJ t=uA:=by
 induction d with
 | nil=>intro h;cases h
 | cons p r g=>
   intro h;obtain⟨a,b⟩:=p
   have f:Pp r=uA/\(∀t,b=E t->KJ t=uA):=by
    cases b with
    | none=>exact⟨c,λt e=>by cases e⟩
    | some t=>simp only[Pp,zH] at c;exact⟨c.2,λi e=>by cases e;exact c.1⟩
   simp only[get] at h;split at h
   . exact f.2 t (zD h)
   exact g f.1 h
theorem UR(t:Tok)(n:Y)(l:H (H PV)):WQ t n l t= .slc t n l:=by cases t<;>rfl
theorem DK(t:Tok)(cs:H PV):RS t cs t= .rptr t cs:=by cases t<;>rfl
theorem Qdk{a:Tok}(h:KJ a=uA)(t:Tok)(n:Y)(l:H (H PV)):WQ t n l a= .slc a n l:=by cases a<;>first | rfl | cases h
theorem Qf9{a:Tok}(h:KJ a=uA)(t:Tok)(cs:H PV):RS t cs a= .rptr a cs:=by cases a<;>first | rfl | cases h
theorem DL{b:H (Y×uH Tok)}(c:Pp b=uA){t a:Tok}(h:Ip b t=E a):a=t\/KJ a=uA:=by
 unfold Ip at h;split at h
 . exact .inl (zD h).symm
 split at h
 . exact .inl (zD h).symm
 rename_i x d;subst h;exact .inr (P6 c d)
theorem ZU{b:H (Y×uH Tok)}(c:Pp b=uA){t a:Tok}(h:Ip b t=E a)(n:Y)(l:H (H PV)):WQ t n l a= .slc a n l:=by
 rcases DL c h with rfl | h
 . exact UR _ n l
 exact Qdk h t n l
theorem UT{b:H (Y×uH Tok)}(c:Pp b=uA){t a:Tok}(h:Ip b t=E a)(cs:H PV):RS t cs a= .rptr a cs:=by
 rcases DL c h with rfl | h
 . exact DK _ cs
 exact Qf9 h t cs
theorem ZV{t:Tok}{k:Y}(a:t.key=E k):∀{l:H Tok},t∈l->k∈P5 l
 | x::r,h=>by
   simp only[P5];rcases zM.1 h with rfl | h
   . exact zZ _ (by rw[a];simp)
   exact zW _ (ZV a h)
theorem En{k:Y}{l:H Y}(h:Nr k l=uB):k∉l:=λa=>by rw[Cy.2 a] at h;cases h
theorem DM{b:Y}:∀{caps:H (Y×Y)},b∉caps.map (·.1)->M6 b caps=uB
 | [],_=>rfl
 | c::r,h=>by
   simp only[yE,zM,not_or] at h;simp only[M6,Bool.or_eq_false_iff];exact⟨DF λe=>h.1 e.symm,DM h.2⟩
theorem Qga{r:Res}{c:C}(h:Qdi r c=uA):Wt r.rl r.kb c=c:=by
 simp only[Qdi,zH] at h;obtain⟨j,g⟩:=h
 have q:∀t:Tok,(match t.key with | some k=> !(Nr k (Ut r.rl)) | none=>uA)=uA->Ip r.rl t=E t:=by
  intro t m;unfold Ip;cases p:t.key with
  | none=>rfl
  | some k=>
    rw[p] at m;simp only[zP] at m;simp only[Em (En m)]
 cases c with
 | slc t n l=>simp only[Wt,q t j,UR]
 | rptr t cs=>simp only[Wt,q t j,DK]
 | ept d k n i o cs=>
   have p:get r.rl k=uC:=Em (En (by simpa [C.key] using j));simp only[Wt,p]
 | ptr k off=>
   cases hb:r.kb with
   | none=>rfl
   | some b=>
     rw[hb] at g;simp only[zP,C.bkeys] at g;have:=En g;simp only[Wt,DF (a:=k) (b:=b) λe=>this (by simp[e]),uT]
 | fn f caps=>
   cases hb:r.kb with
   | none=>rfl
   | some b=>
     rw[hb] at g;simp only[zP,C.bkeys] at g;simp only[Wt,DM (En g),uT]
 | _=>rfl
theorem Qkl{r:Res}{q c:C}(h:Wt r.rl r.kb q=c)(e:Qn9 r c=uA):q=c:=by
 simp only[Qn9,zH] at e;obtain⟨m,e⟩:=e
 have s:∀t t':Tok,Ip r.rl t=E t'->UQ t' (RQ r.rl)=uB->t=t':=by
  intro t t' a p;unfold Ip at a;cases u:t.key with
  | none=>rw[u] at a;exact zD a
  | some k=>
    rw[u] at a;simp only[] at a;cases j:get r.rl k with
    | none=>rw[j] at a;exact zD a
    | some x=>
      rw[j] at a;simp only[] at a;subst a;rw[ZT (P6 m j) (VU j).1] at p;cases p
 cases q with
 | slc t n l=>
   simp only[Wt] at h;split at h
   . rename_i t' a;rw[ZU m a] at h;subst h;simp only[zP] at e;rw[s t t' a e]
   subst h;cases e
 | rptr t cs=>
   simp only[Wt] at h;split at h
   . rename_i t' a;rw[UT m a] at h;subst h;simp only[zP] at e;rw[s t t' a e]
   subst h;cases e
 | ept d k n i o cs=>
   simp only[Wt] at h;split at h
   . exact h
   . rename_i t' j;have p:=ZT (P6 m j) (VU j).1;split at h
     . subst h;simp[p] at e
     . subst h;simp[p] at e
     . cases P6 m j
     subst h;cases e
   subst h;cases e
 | ptr k off=>
   simp only[Wt] at h;split at h
   . exact h
   rename_i b hb;cases g:zQ k b with
   | true=>rw[g] at h;subst h;cases e
   | false=>rw[g] at h;exact h
 | fn f caps=>
   simp only[Wt] at h;split at h
   . exact h
   rename_i b hb;cases g:M6 b caps with
   | true=>rw[g] at h;subst h;cases e
   | false=>rw[g] at h;exact h
 | _=>exact h
theorem ZW:Wt [] uC=id:=by
 funext c
 cases c with
 | slc t n l=>cases t<;>rfl
 | rptr t cs=>cases t<;>rfl
 | _=>rfl
theorem Qgb{r:Res}{b c:C}(h:Wt r.rl r.kb b=c)(hn:Qjr r c=uA):b=c:=by
 simp only[Qjr,Bool.or_eq_true] at hn;rcases hn with a | hn
 . have e:Wt r.rl r.kb=id:=by
    unfold Qmv at a;split at a
    . rename_i d f;rw[d,f,ZW]
    cases a
   rw[e] at h;exact h
 exact Qkl h hn
theorem Qgc{b a:Res}(j:P0 (Ut b.rl) (Ut a.rl++P5 (RQ a.rl))=uA)(v:P0 (Ut a.rl) (P5 (RQ b.rl))=uA)(p1:Pp b.rl=uA)(p2:Pp a.rl=uA)(c:C):Wt a.rl a.kb (Wt b.rl b.kb c)=Wt b.rl b.kb (Wt a.rl a.kb c):=by
 have hT :∀t:Tok,(Ip b.rl t).bind (Ip a.rl)=(Ip a.rl t).bind (Ip b.rl):=by
  have a1:∀(r g:Res),P0 (Ut r.rl) (Ut g.rl)=uA->P0 (Ut g.rl) (P5 (RQ r.rl))=uA->∀(t:Tok) (k:Y) (x:uH Tok),t.key=E k->get r.rl k=E x->(Ip r.rl t).bind (Ip g.rl)=(Ip g.rl t).bind (Ip r.rl):=by
   intro r g d1 d2 t k x s e;have a3:k∈Ut r.rl:=yP λw=>by rw[Em w] at e;cases e
   have z:get g.rl k=uC:=Em (Gq d1 k a3);have m:Ip r.rl t=x:=by unfold Ip;rw[s];simp only[e]
   have V:Ip g.rl t=E t:=by unfold Ip;rw[s];simp only[z]
   rw[m,V];simp only[yO,m];cases x with
   | none=>rfl
   | some p=>
     simp only[yO];unfold Ip;cases a4:p.key with
     | none=>rfl
     | some k'=>
       have q:=ZV a4 (VU e).1;have w:k'∉Ut g.rl:=λh=>Gq d2 k' h q
       simp only[Em w]
  have a2:P0 (Ut b.rl) (Ut a.rl)=uA:=by
   revert j;generalize Ut b.rl=l
   induction l with
   | nil=>intro _;rfl
   | cons x l ih=>
     intro h;simp only[P0,zH,zP] at h⊢;refine⟨?_,ih h.2⟩;cases q:Nr x (Ut a.rl) with
     | false=>rfl
     | true=>exact absurd (zZ _ (Cy.1 q)) (En h.1)
  have a5:P0 (Ut b.rl) (P5 (RQ a.rl))=uA:=by
   revert j;generalize Ut b.rl=l
   induction l with
   | nil=>intro _;rfl
   | cons x l ih=>
     intro h;simp only[P0,zH,zP] at h⊢;refine⟨?_,ih h.2⟩;cases q:Nr x (P5 (RQ a.rl)) with
     | false=>rfl
     | true=>exact absurd (zW _ (Cy.1 q)) (En h.1)
  have a6:P0 (Ut a.rl) (Ut b.rl)=uA:=by
   have e:∀x,x∈Ut a.rl->x∉Ut b.rl:=λx hb ha=>Gq a2 x ha hb
   revert e;generalize Ut a.rl=l
   induction l with
   | nil=>intro _;rfl
   | cons x l ih=>
     intro e;simp only[P0,zH,zP];refine⟨?_,ih λy u=>e y (by simp[u])⟩;cases q:Nr x (Ut b.rl) with
     | false=>rfl
     | true=>exact absurd (Cy.1 q) (e x (by simp))
  intro t;cases s:t.key with
  | none=>
    have m:Ip b.rl t=E t:=by unfold Ip;rw[s]
    have V:Ip a.rl t=E t:=by unfold Ip;rw[s]
    rw[m,V];simp[m,V]
  | some k=>
    cases ha:get b.rl k with
    | some x=>exact a1 b a a2 v t k x s ha
    | none=>
      cases hb:get a.rl k with
      | some x=>exact(a1 a b a6 a5 t k x s hb).symm
      | none=>
        have m:Ip b.rl t=E t:=by unfold Ip;rw[s];simp only[ha]
        have V:Ip a.rl t=E t:=by unfold Ip;rw[s];simp only[hb]
        rw[m,V];simp[m,V]
 have hs:∀(x y:H (Y×uH Tok)),Pp x=uA->Pp y=uA->∀(kx ky:uH Y) (t:Tok) (n:Y) (l:H (H PV)),Wt y ky (Wt x kx (.slc t n l))=(match (Ip x t).bind (Ip y) with | some p=> .slc p n l | none=> .dead):=by
  intro x y px py kx ky t n l;simp only[Wt];cases e:Ip x t with
  | none=>rfl
  | some p=>
    simp only[ZU px e,yO];cases u:Ip y p with
    | none=>simp only[u]
    | some t2=>simp only[u,ZU py u]
 have hp:∀(x y:H (Y×uH Tok)),Pp x=uA->Pp y=uA->∀(kx ky:uH Y) (t:Tok) (cs:H PV),Wt y ky (Wt x kx (.rptr t cs))=(match (Ip x t).bind (Ip y) with | some p=> .rptr p cs | none=> .dead):=by
  intro x y px py kx ky t cs;simp only[Wt];cases e:Ip x t with
  | none=>rfl
  | some p=>
    simp only[UT px e,yO];cases u:Ip y p with
    | none=>simp only[u]
    | some t2=>simp only[u,UT py u]
 have he :∀(r g:Res),Pp r.rl=uA->(∀x,x∈Ut g.rl->x∉P5 (RQ r.rl))->∀(d:uE) (k n i o:Y) (cs:H PV),get g.rl k=uC->Wt g.rl g.kb (Wt r.rl r.kb (.ept d k n i o cs))=Wt r.rl r.kb (Wt g.rl g.kb (.ept d k n i o cs)):=by
  intro r g a7 dd d k n i o cs hg;have m:Wt g.rl g.kb (.ept d k n i o cs)= .ept d k n i o cs:=by simp only[Wt,hg]
  rw[m];have key:∀y,Wt r.rl r.kb (.ept d k n i o cs)=y->Wt g.rl g.kb y=y->Wt g.rl g.kb (Wt r.rl r.kb (.ept d k n i o cs))=Wt r.rl r.kb (.ept d k n i o cs):=λy j v=>by rw[j,v]
  cases e:get r.rl k with
  | none=>exact key _ (by simp only[Wt,e]) m
  | some x=>
    cases x with
    | none=>exact key .dead (by simp only[Wt,e]) rfl
    | some p=>
      cases p with
      | sh=>exact key (.rptr .sh cs) (by simp only[Wt,e]) rfl
      | vw k'=>
        have q:=ZV (t:= .vw k') rfl (VU e).1;have w:get g.rl k'=uC:=Em λh=>dd k' h q
        exact key (.rptr (.vw k') cs) (by simp only[Wt,e]) (by simp only[Wt,Ip,Tok.key,w,RS])
      | put=>cases P6 a7 e
      | emp | own=>exact key .dead (by simp only[Wt,e]) rfl
 cases c with
 | slc t n l=>rw[hs _ _ p1 p2,hs _ _ p2 p1,hT]
 | rptr t cs=>rw[hp _ _ p1 p2,hp _ _ p2 p1,hT]
 | ept d k n i o cs=>
   cases hg:get a.rl k with
   | none=>exact he b a p1 (λx e=>Gq v x e) d k n i o cs hg
   | some x=>
     have z:k∈Ut a.rl:=yP λw=>by rw[Em w] at hg;cases hg
     have a8:get b.rl k=uC:=Em λha=>Gq j k ha (zZ _ z)
     exact(he a b p2 (λx e q=>Gq j x e (zW _ q)) d k n i o cs a8).symm
 | ptr k off=>
   cases b.kb with
   | none=>cases a.kb with
     | none=>rfl
     | some y=>simp only[Wt];cases j:zQ k y<;>simp[Wt]
   | some x=>
     cases a.kb with
     | none=>simp only[Wt];cases j:zQ k x<;>simp[Wt]
     | some y=>simp only[Wt];cases j:zQ k x<;>cases v:zQ k y<;>simp[Wt,j,v]
 | fn f caps=>
   cases b.kb with
   | none=>cases a.kb with
     | none=>rfl
     | some y=>simp only[Wt];cases j:M6 y caps<;>simp[Wt]
   | some x=>
     cases a.kb with
     | none=>simp only[Wt];cases j:M6 x caps<;>simp[Wt]
     | some y=>simp only[Wt];cases j:M6 x caps<;>cases v:M6 y caps<;>simp[Wt,j,v]
 | _=>rfl
def M(r:Res)(v:AV):AV:=v.map (Wt r.rl r.kb)
def ML(r:Res)(l:H C):H C:=l.map (Wt r.rl r.kb)
theorem Mo(s:St)(a:uH Y)(r:Res)(t:Y):get (s.step a r).tm t=if a=E t then E r.av else(get s.tm t).map (M r):=by
 have h:get (match r.rl,r.kb with | [],uC=>s | rl,kb=>s.map (Wt rl kb)).tm t=(get s.tm t).map (M r):=by
  unfold M;split
  . rename_i b e;rw[b,e,ZW];cases get s.tm t with
    | none=>rfl
    | some v=>rw[zK,AV.map_id' (f:=id) λc _=>rfl]
  simp only[St.map,I9 (AV.map _)]
 cases a with
 | none=>simp only[St.step];rw[uI (by simp)];exact h
 | some d=>
   simp only[St.step,Tr,yT];split
   . rfl
   exact h
theorem Tx(s:St)(a:uH Y)(r:Res)(k:Y):get (s.step a r).bx k=if QY r=E k then E (FU r) else(get s.bx k).map (ML r):=by
 have h:get (match r.rl,r.kb with | [],uC=>s | rl,kb=>s.map (Wt rl kb)).bx k=(get s.bx k).map (ML r):=by
  unfold ML;split
  . rename_i b c;rw[b,c,ZW];cases get s.bx k<;>simp
  simp only[St.map,I9 (xW _)]
 unfold QY FU;simp only[St.step];cases r.bx with
 | none=>simp only[];rw[uI (by simp)];exact h
 | some p=>
   obtain⟨x,y⟩:=p;simp only[Tr,yT];split
   . rfl
   exact h
section
variable {tt:H (Y×TI)} {N:Y} {orc:Orc} {ops:H Oper}
structure SameLooks (ops:H Oper) (o:Oper) (s t:St):Prop where
 tm:∀x,x∈FS ops o->get s.tm x=get t.tm x
 bx:∀vs,Gr s o.op.operands.toList=E vs->∀k,k∈P2 (Ze vs)->get s.bx k=get t.bx k
theorem DN{s t:St}:∀{xs:H Operand},(∀x,x∈M9 xs->get s.tm x=get t.tm x)->Gr s xs=Gr t xs
 | [],_=>rfl
 | x ::r,h=>by
   have a:Gr s r=Gr t r:=DN λy b=>h y (by cases x<;>simp[M9,b])
   have c:BZ s x=BZ t x:=by
    cases x with
    | tmp y=>exact h y (by simp[M9])
    | _=>rfl
   simp only[Gr,c,a]
theorem P7{s t:St}:∀{ks:H Y},(∀k,k∈ks->get s.bx k=get t.bx k)->Ad s ks=Ad t ks
 | [],_=>rfl
 | k::r,h=>by simp only[Ad,h k (by simp),P7 (ks:=r) λx a=>h x (by simp[a])]
theorem DO{o:Oper}{s t:St}(h:SameLooks ops o s t):Fv tt N orc ops s o=Fv tt N orc ops t o:=by
 have a:Gr s o.op.operands.toList=Gr t o.op.operands.toList:=DN λx c=>h.tm x (zZ _ c)
 have d:D1 ops s o=D1 ops t o:=by
  unfold D1;cases e:o.guard with
  | none=>rfl
  | some g=>
    obtain⟨j,b⟩:=g;simp only[];cases f:ops[j]? with
    | none=>rfl
    | some i=>
      simp only[];cases hd:i.dst with
      | none=>rfl
      | some x=>simp only[h.tm x (zW _ (by simp[e,f,hd]))]
 unfold Fv;rw[d,a];cases k:Gr t o.op.operands.toList with
 | none=>rfl
 | some vs=>simp only[P7 (h.bx vs (a.trans k))]
theorem Ty{s:St}{k:Y}{cs:H C}:∀{ks:H Y},k∈ks->get s.bx k=E cs->∀c,c∈cs->c∈Mn (Ad s ks)
 | x::r,hk,hg,c,hc=>by
   simp only[Ad];rcases zM.1 hk with rfl | hk
   . rw[hg];simp[Mn,hc]
   have:=Ty hk hg c hc;split
   . simp[Mn,this]
   exact this
theorem Qbh{o:Oper}{s t:St}{ρ:Rec}(b:D1 ops t o=D1 ops s o)(h:Fv tt N orc ops s o=E ρ)
 (c:∀vs,ρ.avs=vs->Gr s o.op.operands.toList=E vs->ρ.bn=Ad s (P2 (Ze vs))->Gr t o.op.operands.toList=E vs/\Ad t (P2 (Ze vs))=Ad s (P2 (Ze vs))):Fv tt N orc ops t o=E ρ:=by
 unfold Fv at h⊢;rw[b];cases hd:SI N o.dst with
 | false=>rw[hd] at h;cases h
 | true =>
   rw[hd] at h;simp only[uR] at h⊢;split at h
   . split at h
     . rename_i vs a;split at h
       . rename_i r obs d;obtain rfl:=zD h;obtain⟨e,f⟩:=c vs rfl a rfl;simp only[e,f,d]
       cases h
     cases h
   . exact h
   cases h
theorem Qgd{t a:Tok}{n:Y}{l:H (H PV)}{b:uE}(h:WQ t n l a= .bool b):False:=by
 cases a with
 | put d m i o cs=>
   cases t with
   | own c k=>
     simp only[WQ] at h;cases hb:Qe8 c d&&zQ n m<;>rw[hb] at h<;>cases h
   | _=>cases h
 | _=>cases h
theorem Qkm{t a:Tok}{cs:H PV}{b:uE}(h:RS t cs a= .bool b):False:=by
 cases a with
 | put=>cases t<;>cases h
 | _=>cases h
theorem Qge{e:H (Y×uH Tok)}{g:uH Y}{c:C}{b:uE}:Wt e g c= .bool b↔c= .bool b:=by
 constructor
 . intro h;cases c with
   | slc t n l=>
     simp only[Wt] at h;split at h
     . exact(Qgd h).elim
     cases h
   | rptr t cs=>
     simp only[Wt] at h;split at h
     . exact(Qkm h).elim
     cases h
   | ept d k n i o cs=>
     simp only[Wt] at h;split at h
     . cases h
     . split at h<;>cases h
     cases h
   | ptr k off=>
     simp only[Wt] at h;split at h
     . cases h
     rename_i x y;cases a:zQ k y<;>rw[a] at h<;>cases h
   | fn f caps=>
     simp only[Wt] at h;split at h
     . cases h
     rename_i x y;cases a:M6 y caps<;>rw[a] at h<;>cases h
   | _=>exact h
 intro h;subst h;rfl
theorem DP{o :Oper}{s:St}{a:uH Y}{r:Res}(hd:∀x,x∈FS ops o->a≠E x):D1 ops (s.step a r) o=D1 ops s o:=by
 unfold D1;cases f:o.guard with
 | none=>rfl
 | some g =>
   obtain⟨j,e⟩:=g;simp only[];cases h:ops[j]? with
   | none=>rfl
   | some oj =>
     simp only[];cases d:oj.dst with
     | none=>rfl
     | some x =>
       have i:a≠E x:=hd x (zW _ (by simp[f,h,d]));simp only[Mo,uI i];cases m:get s.tm x with
       | none=>rfl
       | some v=>
         simp only[zK];cases v with
         | one c=>
           simp only[M,AV.map];cases c with
           | bool b=>rfl
           | _=>
             generalize k:Wt r.rl r.kb _=c';cases c' with
             | bool b=>exact absurd (Qge.1 k) (by simp)
             | _=>rfl
         | agg cs=>rfl
         | tup l=>cases l<;>rfl
theorem Qsq{r:Res}{v:AV}(h:∀c,c∈v.cells->Qdi r c=uA):M r v=v:=AV.map_id' λc a=>Qga (h c a)
theorem Qsr{r:Res}{l:H C}(h:∀c,c∈l->Qdi r c=uA):ML r l=l:=(yI λc a=>Qga (h c a)).trans (xL l)
theorem Qtk{r:Res}{v u:AV}(h:M r v=u)(a:∀c,c∈u.cells->Qjr r c=uA):v=u:=AV.map_inj' h λ_ c b d=>Qgb b (a c d)
theorem Qs8{r:Res}:∀{l m:H C},ML r l=m->(∀c,c∈m->Qjr r c=uA)->l=m
 | [],m,h,_=>h
 | c ::l,m,h,hn=>by
   cases m with
   | nil=>cases h
   | cons d m=>
     simp only[ML,yE,List.cons.injEq] at h;rw[Qgb h.1 (hn d (by simp)),Qs8 (l:=l) h.2 λc a=>hn c (by simp[a])]
theorem N0{a:uH Y}{l:H Y}(h:Ge a l=uA):∀x,x∈l->a≠E x:=λx b e=>by
 subst e;simp only[Ge,zP] at h;exact En h b
theorem MP{o:Oper}{x:Y}(h:x∈M9 o.op.operands.toList):x∈FS ops o:=zZ _ h
theorem Qkn{o:Oper}{s:St}{a:uH Y}{r:Res}{ρ:Rec}(h:Fv tt N orc ops (s.step a r) o=E ρ)(hd:Ge a (FS ops o)=uA)(h1:Ai (Qjr r) (Ze ρ.avs)=uA)(h2:Ai (Qjr r) (Mn ρ.bn)=uA)(h3:Ge (QY r) (P2 (Ze ρ.avs))=uA):Fv tt N orc ops s o=E ρ:=by
 have i:=N0 hd;refine Qbh (DP i).symm h λvs n p q=>?_
 subst n;rw[q] at h2
 have hop':∀(xs:H Operand) (vs:H AV),(∀x,x∈M9 xs->a≠E x)->(∀c,c∈Ze vs->Qjr r c=uA)->Gr (s.step a r) xs=E vs->Gr s xs=E vs:=by
  intro xs
  induction xs with
  | nil=>intro vs _ _ h;exact h
  | cons x xs m=>
    intro vs d g h;simp only[Gr] at h⊢;split at h
    . rename_i v t j e2;obtain rfl:=zD h;have w:=m t (λy hy=>d y (by cases x<;>simp[M9,hy])) (λc b=>g c (by simp only[Ze];exact zW _ b)) e2
      have h0:BZ s x=E v:=by
       cases x with
       | tmp y=>
         have j:get (s.step a r).tm y=E v:=j;rw[Mo,uI (d y (by simp[M9]))] at j;obtain⟨u,hu,hm⟩:=zL.1 j;show get s.tm y=E v;rw[hu,Qtk hm λc b=>g c (by simp only[Ze];exact zZ _ b)]
       | _=>exact j
      simp only[h0,w]
    cases h
 have hv:=hop' _ _ (λx d=>i x (MP d)) (Hw h1) p;refine⟨hv, ?_⟩
 have : ∀ks:H Y,(∀k,k∈ks->QY r≠E k)->(∀c,c∈Mn (Ad (s.step a r) ks)->Qjr r c=uA)->Ad s ks=Ad (s.step a r) ks:=by
  intro ks
  induction ks with
  | nil=>intro _ _;rfl
  | cons k ks m=>
    intro z g;have e:get (s.step a r).bx k=(get s.bx k).map (ML r):=by rw[Tx,uI (z k (by simp))]
    have hg:get s.bx k=get (s.step a r).bx k:=by
     rw[e];cases b:get s.bx k with
     | none=>rfl
     | some cs=>
       rw[b] at e;simp only[zK] at e⊢;exact uS E (Qs8 (l:=cs) rfl λc V=>g c (Ty (by simp) e c V))
    simp only[Ad,hg];split
    . rename_i cs f;rw[m (λx d=>z x (by simp[d])) λc b=>g c (by simp[Ad,f,Mn,b])]
    rename_i f;exact m (λx d=>z x (by simp[d])) λc b=>g c (by simp[Ad,f,b])
 exact this _ (N0 h3) (Hw h2)
theorem Qoa{o:Oper}{s:St}{a:uH Y}{r:Res}{ρ:Rec}(h:Fv tt N orc ops s o=E ρ)(hd:Ge a (FS ops o)=uA)(u:Ai (Qdi r) (Ze ρ.avs)=uA)(p:Ai (Qdi r) (Mn ρ.bn)=uA)(w:Ge (QY r) (P2 (Ze ρ.avs))=uA):Fv tt N orc ops (s.step a r) o=E ρ:=by
 have b:=N0 hd;refine Qbh (DP b) h λvs g i j=>?_
 subst g;rw[j] at p
 have hop':∀(xs:H Operand) (vs:H AV),(∀x,x∈M9 xs->a≠E x)->(∀c,c∈Ze vs->Qdi r c=uA)->Gr s xs=E vs->Gr (s.step a r) xs=E vs:=by
  intro xs
  induction xs with
  | nil=>intro vs _ _ h;exact h
  | cons x xs z=>
    intro vs e q h;simp only[Gr] at h⊢;split at h
    . rename_i v l f V;obtain rfl:=zD h;have m:=z l (λy hy=>e y (by cases x<;>simp[M9,hy])) (λc d=>q c (by simp only[Ze];exact zW _ d)) V
      have h0:BZ (s.step a r) x=E v:=by
       cases x with
       | tmp y=>
         have f:get s.tm y=E v:=f;show get (s.step a r).tm y=E v;rw[Mo,uI (e y (by simp[M9])),f,zK,Qsq λc d=>q c (by simp only[Ze];exact zZ _ d)]
       | _=>exact f
      simp only[h0,m]
    cases h
 refine⟨hop' _ _ (λx e=>b x (MP e)) (Hw u) i,P7 λk t=>?_⟩;rw[Tx,uI (N0 w k t)];cases d:get s.bx k with
 | none=>rfl
 | some cs=>rw[zK,Qsr λc n=>Hw p c (Ty t d c n)]
theorem QZ{a b:uH Y}(h:Qdj a b=uA):∀x,a=E x->b≠E x:=λx e e'=>by
 subst e;subst e';simp[Qdj] at h
theorem Qob{h i:Oper}{j m:Rec}{s:St}(n:Qf8 ops h j i m=uA){f g:Orc}(o:Fv tt N f ops s h=E j)(p:Fv tt N g ops (s.step h.dst j.res) i=E m):
 Fv tt N g ops s i=E m/\Fv tt N f ops (s.step i.dst m.res) h=E j/\((s.step h.dst j.res).step i.dst m.res).eqv ((s.step i.dst m.res).step h.dst j.res):=by
 simp only[Qf8,zH] at n;obtain⟨⟨⟨⟨⟨⟨⟨⟨⟨⟨⟨⟨⟨⟨⟨⟨⟨q,r⟩,u⟩,w⟩,x⟩,y⟩,z⟩,V⟩,g2⟩,g3⟩,g4⟩,k1⟩,k2⟩,b1⟩,b2⟩,b3⟩,q1⟩,q2⟩:=n;have b:=Qgc k1 k2 q1 q2;refine⟨Qkn p r w x b2,Qoa o u y z b3,λt=>?_,λk=>?_⟩
 . simp only[Mo];by_cases d:i.dst=E t
   . rw[uN d,uI (λe=>QZ q t e d),uN d,zK,Qsq (Hw V)]
   rw[uI d,uI d];by_cases a:h.dst=E t
   . rw[uN a,uN a,zK,Qsq (Hw g3)]
   rw[uI a,uI a];cases get s.tm t with
   | none=>rfl
   | some v=>
     simp only[zK,M,AV.map_map]
     congr 2
     funext c
     exact b c
 simp only[Tx];by_cases d:QY m.res=E k
 . rw[uN d,uI (λe=>QZ b1 k e d),uN d,zK,Qsr (Hw g2)]
 rw[uI d,uI d];by_cases a:QY j.res=E k
 . rw[uN a,uN a,zK,Qsr (Hw g4)]
 rw[uI a,uI a];cases get s.bx k with
 | none=>rfl
 | some l=>
   simp only[zK,ML,List.map_map]
   congr 2
   funext c
   exact b c
end
end
end
section
open Go.RowKit
abbrev Gu:=Y×Oper×Rec
def D2(o:Oper):H Y:=(o.after.toList.filter λe=>Region.binds .any e).map (·.on)
def Qdl:H Y->H Y
 | []=> []
 | x::r=>bif Nr x r then Qdl r else x::Qdl r
def Qjs(l:H (H Y))(i:Y):H Y:=match l[i]? with
 | some x=>x
 | none=> []
def Qbi:H Oper->H (H Y)->H (H Y)
 | [],acc=>acc
 | o::r,acc=>Qbi r (acc++ [Qdl (D2 o++(D2 o).flatMap λe=>Qjs acc e)])
def Qko(i:Y):H Y->uE
 | []=>uA
 | x::r=>Nat.blt x i&&Qko i r
def UU:H Oper->Y->uE
 | [],_=>uA
 | o::r,i=>Qko i (D2 o)&&UU r (i+1)
def Qjt(a:H (Y×Orc))(i:Y)(o:Oper):uH (Y×Y):=match o.op,o.guard,o.dst,get a i with
 | .move (.tmp u),uC,E v,uC=>E (u,v)
 | _,_,_,_=>uC
def DQ(a:H Oper)(m:Y×Y)(z:Oper):uE:= !(Nr m.2 (FS a z))&&Qdj z.dst (E m.1)&&Qdj z.dst (E m.2)
def DR(a:H (Y×Orc))(b:H Oper)(y x:Gu):uE:=match Qjt a y.1 y.2.1,Qjt a x.1 x.2.1 with
 | none,uC=>Qf8 b y.2.1 y.2.2 x.2.1 x.2.2
 | some m,_=>DQ b m x.2.1
 | none,E m=>DQ b m y.2.1
def Ma(a:H (Y×Orc))(b:H Oper)(c:H (H Y))(x:Gu):H Gu->uE
 | []=>uA
 | y::r=>(Nr x.1 (Qjs c y.1)|| DR a b x y)&&Ma a b c x r
def Mp(a:H (Y×Orc))(b:H Oper)(c:H (H Y)):H Gu->uE
 | []=>uA
 | x::r=>Ma a b c x r&&Mp a b c r
def MQ(tt:H (Y×TI))(N:Y)(a:H (Y×Orc))(b:H Oper):H Oper->Y->St->uH (St×H Gu)
 | [],_,s=>E (s, [])
 | o ::r,i,s=>match Fv tt N (FP a i) b s o with
   | some ρ=>(match MQ tt N a b r (i+1) (s.step o.dst ρ.res) with
     | some (s',l)=>E (s',(i,o,ρ)::l)
     | none=>uC)
   | none=>uC
def Qkp:H Gu->H Ob
 | []=> []
 | x::r=>x.2.2.obs++Qkp r
def Ey(tt:H (Y×TI))(N:Y)(b:H (Y×Orc))(a:H Oper)(c d:H Y)(s:St):uH (St×H Ob):=
 bif UU a 0 then
  match MQ tt N b a a 0 s with
  | some (s',l)=>bif Mp b a (Qbi a []) l then E (s'.keep c d,Qkp l) else uC
  | none=>uC
 else uC
section
variable {P:uK} {tt:H (Y×TI)} {N:Y} {orcs:H (Y×Orc)} {ops:uO Oper} {w0:Base} {F0:Y->Prop}
def Qoc(tt:H (Y×TI))(N:Y)(a:H (Y×Orc))(b:H Oper):H Gu->St->St->Prop
 | [],s,s'=>s.eqv s'
 | x::r,s,s'=>∃ρ:Rec,Fv tt N (FP a x.1) b s x.2.1=E ρ/\(Qjt a x.1 x.2.1=uC->ρ=x.2.2)/\Qoc tt N a b r (s.step x.2.1.dst ρ.res) s'
theorem Qkq(s:St):s.eqv s:=⟨λ_=>rfl,λ_=>rfl⟩
theorem Qbj{s t:St}(h:s.eqv t):t.eqv s:=⟨λx=>(h.1 x).symm,λx=>(h.2 x).symm⟩
theorem Qgf{s t u:St}(h:s.eqv t)(a:t.eqv u):s.eqv u:=⟨λx=>(h.1 x).trans (a.1 x),λx=>(h.2 x).trans (a.2 x)⟩
theorem Qkr{s t:St}(h:s.eqv t)(a:uH Y)(r:Res):(s.step a r).eqv (t.step a r):=⟨λx=>by rw[Mo,Mo,h.1 x],λx=>by rw[Tx,Tx,h.2 x]⟩
theorem Qgg{s t:St}(h:s.eqv t){orc:Orc}{l:H Oper}(o:Oper):Fv tt N orc l s o=Fv tt N orc l t o:=DO ⟨λx _=>h.1 x,λ_ _ k _=>h.2 k⟩
theorem VW:∀{l:H Gu} {s t s':St},s.eqv t->Qoc tt N orcs ops.toList l s s'->Qoc tt N orcs ops.toList l t s'
 | [],s,t,s',h,hr=>Qgf (Qbj h) hr
 | x::r,s,t,s',h,⟨ρ,h1,h2,hr⟩=>⟨ρ,(Qgg h _).symm.trans h1,h2,VW (Qkr h _ _) hr⟩
theorem XA{i:Y}{o:Oper}{m:Y×Y}(h:Qjt orcs i o=E m):o.op= .move (.tmp m.1)/\o.guard=uC/\o.dst=E m.2/\FP orcs i= .no:=by
 unfold Qjt at h;split at h
 . rename_i u v a b c d;obtain rfl:=zD h;exact⟨a,b,c,by unfold FP;rw[d]⟩
 cases h
theorem Qgh{l:H Oper}{i:Y}{o:Oper}{m:Y×Y}{s:St}{ρ:Rec}(h:Qjt orcs i o=E m)(a:Fv tt N (FP orcs i) l s o=E ρ):SI N o.dst=uA/\∃x,get s.tm m.1=E x/\ρ.res=⟨x, [],uC,uC⟩/\ρ.obs= []:=by
 obtain⟨c,d,g,e⟩:=XA h;unfold Fv at a;cases hd:SI N o.dst with
 | false=>rw[hd] at a;cases a
 | true=>
   rw[hd] at a;refine⟨rfl, ?_⟩;have f:D1 l s o=E uA:=by unfold D1;rw[d]
   simp only[f,c,e,Op.operands,Gr,BZ,uR] at a;cases b:get s.tm m.1 with
   | none=>simp[b,Gr,BZ] at a
   | some x=>
     simp[b,Gr,BZ,MJ,UI,UH,Qfb] at a;obtain rfl:=a;exact⟨x,rfl,rfl,rfl⟩
theorem Qmw{l:H Oper}{i:Y}{o:Oper}{m:Y×Y}{s:St}{x:AV}(h:Qjt orcs i o=E m)(hd:SI N o.dst=uA)(a:get s.tm m.1=E x):∃ρ,Fv tt N (FP orcs i) l s o=E ρ/\ρ.res=⟨x, [],uC,uC⟩:=by
 obtain⟨b,c,f,d⟩:=XA h;have e:D1 l s o=E uA:=by unfold D1;rw[c]
 unfold Fv;simp[hd,e,b,d,Op.operands,Gr,BZ,a,MJ,UI,UH,Qfb]
theorem Qgi(x v:AV):M ⟨x, [],uC,uC⟩ v=v:=AV.map_id' λc _=>by rw[ZW];rfl
theorem Qgj(x:AV)(l:H C):ML ⟨x, [],uC,uC⟩ l=l:=by
 show l.map (Wt [] uC)=l;rw[ZW,List.map_id]
theorem Qgk{l:H Oper}{orc:Orc}{m:Y×Y}{z:Oper}{s:St}{x:AV}(f:DQ l m z=uA)(g:get s.tm m.1=E x)(ρ:Rec):
 Fv tt N orc l (s.step (E m.2) ⟨x, [],uC,uC⟩) z=Fv tt N orc l s z/\get (s.step z.dst ρ.res).tm m.1=E (M ρ.res x)/\((s.step (E m.2) ⟨x, [],uC,uC⟩).step z.dst ρ.res).eqv ((s.step z.dst ρ.res).step (E m.2) ⟨M ρ.res x, [],uC,uC⟩):=by
 simp only[DQ,zH,zP] at f;obtain⟨⟨c,h⟩,i⟩:=f;have c:=En c;refine⟨DO ⟨λy j=>?_,λ_ _ k _=>?_⟩, ?_,λy=>?_,λk=>?_⟩
 . rw[Mo,uI (λe=>c (by cases e;exact j))];cases get s.tm y with
   | none=>rfl
   | some v=>rw[zK,Qgi]
 . rw[Tx,uI (by simp[QY])];cases get s.bx k with
   | none=>rfl
   | some v=>simp[ML,ZW]
 . rw[Mo,uI (λe=>QZ h _ e rfl),g];rfl
 . simp only[Mo];by_cases a:z.dst=E y
   . rw[uN a,uI (λe=>QZ i _ a e),uN a,zK,Qgi]
   rw[uI a,uI a];by_cases b:E m.2=E y
   . rw[uN b,uN b,zK]
   rw[uI b,uI b];cases get s.tm y with
   | none=>rfl
   | some v=>simp only[zK,Qgi]
 have d:∀y:AV,¬QY ⟨y, [],uC,uC⟩=E k:=λ_ e=>by cases e
 simp only[Tx];by_cases a:QY ρ.res=E k
 . rw[uN a,uI (d _),uN a,zK,Qgj]
 rw[uI a,uI (d _),uI (d _),uI a];cases get s.bx k with
 | none=>rfl
 | some v=>simp only[zK,Qgj]
theorem DS{x:Gu}{i:H Gu}:∀{g:H Gu} {s s':St},(∀y,y∈g->DR orcs ops.toList y x=uA)->Qoc tt N orcs ops.toList (g++x::i) s s'->Qoc tt N orcs ops.toList (x::(g++i)) s s'
 | [],_,_,_,h=>h
 | y :: g,s,s',ha,h=>by
   obtain⟨ρy,t,k,hr⟩:=h;obtain⟨ρx,q,n,f⟩:=DS (λz hz=>ha z (zR _ hz)) hr;have b:=ha y yF;unfold DR at b;cases c:Qjt orcs y.1 y.2.1 with
   | some m=>
     rw[c] at b;obtain⟨hd,x0,j,o,_⟩:=Qgh c t;have a:=(XA c).2.2.1;obtain⟨u,e2,v⟩:=Qgk (tt:=tt) (N:=N) (orc:=FP orcs x.1) b j ρx;rw[o,a] at q f;obtain⟨ρm,p,r⟩:=Qmw (tt:=tt) (l:=ops.toList) c hd e2;refine⟨ρx,u.symm.trans q,n,ρm,p,λe=>(by rw[c] at e;cases e), ?_⟩;rw[r,a];exact VW v f
   | none=>
     rw[c] at b;cases d:Qjt orcs x.1 x.2.1 with
     | some m=>
       rw[d] at b;obtain⟨hd,x1,j,o,_⟩:=Qgh d q;have a:=(XA d).2.2.1;have w:DQ ops.toList m y.2.1=uA:=b
       have a1:y.2.1.dst≠E m.1:=λe=>by
        simp only[DQ,zH] at w;exact QZ w.1.2 _ e rfl
       rw[Mo,uI a1] at j;obtain⟨x0,V,hM⟩:=zL.1 j;obtain⟨u,e2,v⟩:=Qgk (tt:=tt) (N:=N) (orc:=FP orcs y.1) w V ρy;obtain⟨ρm,p,r⟩:=Qmw (tt:=tt) (l:=ops.toList) d hd V;refine⟨ρm,p,λe=>(by rw[d] at e;cases e),ρy, ?_,λ_=>k c, ?_⟩
       . rw[r,a];exact u.trans t
       rw[r,a];rw[o,a,←hM] at f;exact VW (Qbj v) f
     | none=>
       rw[d] at b;obtain rfl:=k c;obtain rfl:=n d;obtain⟨j,o,p⟩:=Qob b t q;exact⟨_,j,λ_=>rfl,_,o,λ_=>rfl,VW p f⟩
theorem UV:∀{l:H Oper} {i:Y} {s s':St} {R:H Gu},MQ tt N orcs ops.toList l i s=E (s',R)->Qoc tt N orcs ops.toList R s s'/\R.map (·.1)=List.range' i l.length/\R.map (·.2.1)=l
 | [],i,s,s',R,h=>by
   obtain⟨rfl,rfl⟩:s=s'/\ []=R:=by simpa [MQ] using h
   exact⟨Qkq s,rfl,rfl⟩
 | o :: r,i,s,s',R,h=>by
   simp only[MQ] at h;split at h
   . rename_i ρ hρ;split at h
     . rename_i a l' b;obtain⟨rfl,rfl⟩:a=s'/\(i,o,ρ)::l'=R:=by simpa using h
       obtain⟨c,d,e⟩:=UV b;exact⟨⟨ρ,hρ,λ_=>rfl,c⟩,by simp[d,List.range'_succ],by simp[e]⟩
     cases h
   cases h
inductive Anc (ops:uO Oper):Y->Y->Prop
 | one {x q:Y} {o:Oper}:ops[q]? =E o->x∈D2 o->Anc ops x q
 | more {x e q:Y} {o:Oper}:ops[q]? =E o->e∈D2 o->Anc ops x e->Anc ops x q
theorem UW{x:Y}:∀{l:H Y},x∈Qdl l->x∈l
 | [],h=>h
 | y ::r,h=>by
   simp only[Qdl] at h;cases a:Nr y r with
   | true=>rw[a] at h;exact zR _ (UW h)
   | false=>
     rw[a] at h;rcases zM.1 h with rfl | h
     . exact yF
     exact zR _ (UW h)
theorem Qgl:∀{l:H Oper} {acc:H (H Y)},ops.toList.drop acc.length=l->(∀q x,x∈Qjs acc q->Anc ops x q)->∀q x,x∈Qjs (Qbi l acc) q->Anc ops x q
 | [],_,_,h,q,x,hx=>h q x hx
 | o ::r,acc,hl,h,q,x,hx=>by
   refine Qgl (l:=r) (acc:=acc++ [Qdl (D2 o++(D2 o).flatMap λe=>Qjs acc e)]) ?_ ?_ q x hx
   . rw[yR,List.length_singleton,←xC,hl];rfl
   intro q x hx
   have b:ops[acc.length]? =E o:=by
    have:=uS (·[0]?) hl;simpa using this
   unfold Qjs at hx;rcases xH q acc.length with a | he | hgt
   . rw[zV a] at hx;exact h q x hx
   . subst he;rw[zT (zY _),Nat.sub_self] at hx;simp only[List.getElem?_cons_zero] at hx;rcases yA.1 (UW hx) with hx | hx
     . exact .one b hx
     obtain⟨e,he,hx⟩:=xJ.1 hx;exact .more b he (h e x hx)
   rw[xP (by simp;omega)] at hx;simp at hx
theorem Qdm{a:uO uE}(g:∀(j:Y) (o:Oper),ops[j]? =E o->a.getD j uB=uA->∀e,e∈D2 o->a.getD e uB=uA){x q:Y}(h:Anc ops x q):(∀o,ops[q]? =E o->∀e,e∈D2 o->a.getD e uB=uA)->a.getD x uB=uA:=by
 induction h with
 | one b i=>intro c;exact c _ b _ i
 | more b k _ l=>intro c;exact l λm d e' f=>g _ m d (c _ b _ k) e' f
theorem MR{o:Oper}{e:Y}:e∈D2 o↔∃x,x∈o.after/\Region.binds .any x=uA/\x.on=e:=by
 unfold D2;simp only[xB,List.mem_filter,Array.mem_toList_iff];exact⟨λ⟨x,⟨h1,h2⟩,h3⟩=>⟨x,h1,h2,h3⟩,λ⟨x,h1,h2,h3⟩=>⟨x,⟨h1,h2⟩,h3⟩⟩
theorem Qbk{i:Y}:∀{l:H Y},Qko i l=uA->∀x,x∈l->x<i
 | [],_,x,hx=>by simp at hx
 | y::r,h,x,hx=>by
   simp only[Qko,zH,Nat.blt_eq] at h;rcases zM.1 hx with rfl | hx
   . exact h.1
   exact Qbk h.2 x hx
theorem DT:∀{l:H Oper} {i:Y},UU l i=uA->∀(j:Y) (o:Oper),l[j]? =E o->∀e,e∈D2 o->e<i+j
 | [],_,_,j,o,h,_,_=>by simp at h
 | x::r,i,h,j,o,hj,e,he=>by
   simp only[UU,zH] at h;cases j with
   | zero=>simp at hj;subst hj;exact Qbk h.1 e he
   | succ j=>have:=DT h.2 j o (by simpa using hj) e he;omega
theorem Qbl{a:H (H Y)}{x y:Gu}:∀{l:H Gu},Ma orcs ops.toList a x l=uA->y∈l->Nr x.1 (Qjs a y.1)=uA\/DR orcs ops.toList x y=uA
 | z::r,h,hy=>by
   simp only[Ma,zH,Bool.or_eq_true] at h;rcases zM.1 hy with rfl | hy
   . exact h.1
   exact Qbl h.2 hy
theorem MS{b:H (H Y)}{x:Gu}{c:H Gu}:∀{a:H Gu},Mp orcs ops.toList b (a++x::c)=uA->∀y,y∈a->Nr y.1 (Qjs b x.1)=uA\/DR orcs ops.toList y x=uA
 | [],_,y,hy=>by simp at hy
 | z::a,h,y,hy=>by
   rw[xK] at h;simp only[Mp,zH] at h;rcases zM.1 hy with rfl | hy
   . exact Qbl h.1 (by simp)
   exact MS h.2 y hy
theorem XB{c:H (H Y)}{z x:Gu}{a:H Gu}:∀{b:H Gu},Ma orcs ops.toList c z (b++x::a)=uA->Ma orcs ops.toList c z (b++a)=uA
 | [],h=>by simp only[xO,Ma,zH] at h;exact h.2
 | y::b,h=>by
   simp only[xK,Ma,zH] at h⊢;exact⟨h.1,XB h.2⟩
theorem DU{c:H (H Y)}{x:Gu}{a:H Gu}:∀{b:H Gu},Mp orcs ops.toList c (b++x::a)=uA->Mp orcs ops.toList c (b++a)=uA
 | [],h=>by simp only[xO,Mp,zH] at h;exact h.2
 | y::b,h=>by
   simp only[xK,Mp,zH] at h⊢;exact⟨XB h.1,DU h.2⟩
theorem Qod{l:H Gu}(h:AllOb (Zp P w0) (V0 P w0) (Qkp l)):∀x,x∈l->AllOb (Zp P w0) (V0 P w0) x.2.2.obs:=by
 induction l with
 | nil=>intro x hx;simp at hx
 | cons y r a=>
   intro x hx;obtain⟨b,c⟩:=AllOb.append h;rcases zM.1 hx with rfl | hx
   . exact b
   exact a c x hx
theorem Qoe(ak:Nq P tt=uA){Q:Exit->Act->uD->Prop}{sf:St}{a8:H (H Y)}(a9:∀q x,x∈Qjs a8 q->Anc ops x q)(a4:∀(j:Y) (o:Oper),ops[j]? =E o->∀e,e∈D2 o->e<j)(hQ:∀J a w,Rel N w0 F0 J a w sf->Q .normal a w):
 ∀(n:Y) (R:H Gu) (listed:uO uE) (s:St) (J:Inj) (a:Act) (w:uD),R.length=n->listed.size=ops.size->(R.map (·.1)).Pairwise (· < ·)->(∀x,x∈R->ops[x.1]? =E x.2.1)->(∀j,j<ops.size->(listed.getD j uA=uB↔j∈R.map (·.1)))->
   (∀(j:Y) (o:Oper),ops[j]? =E o->listed.getD j uB=uA->∀e,e∈D2 o->listed.getD e uB=uA)->Mp orcs ops.toList a8 R=uA->(∀x,x∈R->AllOb (Zp P w0) (V0 P w0) x.2.2.obs)->Qoc tt N orcs ops.toList R s sf->Rel N w0 F0 J a w s->wpAny P .any ops Q n listed a w:=by
 intro n
 have V:∀(listed:uO uE) (j:Y),j<listed.size->(listed.getD j uA=uB↔¬listed.getD j uB=uA):=by
  intro listed j hj;simp[zN,Array.getElem?_eq_getElem hj]
 have f:∀(R:H Gu) (listed:uO uE),listed.size=ops.size->(∀j,j<ops.size->(listed.getD j uA=uB↔j∈R.map (·.1)))->∀i,i∈Region.ready .any ops listed->i∈R.map (·.1)/\∀o,ops[i]? =E o->∀e,e∈D2 o->listed.getD e uB=uA:=by
  intro R listed p v i hi;obtain⟨h0,o,ho,aa⟩:=mem_ready.1 hi;have a4:i<ops.size:=(yG.1 ho).1;refine⟨(v i a4).1 h0,λo' ab e he=>?_⟩;rw[ho] at ab;obtain rfl:=zD ab;obtain⟨x,h1,h2,rfl⟩:=MR.1 he;exact aa x h1 h2
 induction n with
 | zero=>
   intro R listed s J a w hn p _ _ v _ _ _ hr u;obtain rfl:R= []:=zO hn;refine⟨?_,hQ J a w (u.eqv hr)⟩;cases al:Region.ready .any ops listed with
   | nil=>rfl
   | cons i r=>
     have:=(f [] listed p v i (by rw[al];simp)).1;simp at this
 | succ n ih=>
   intro R listed s J a w hn p c g v d k a1 hr u;refine⟨λad=>?_,λi hi=>?_⟩
   . exfalso;cases R with
     | nil=>simp at hn
     | cons x r=>
       have hx:=g x (by simp);have ae:x.1<ops.size:=(yG.1 hx).1
       have:x.1∈Region.ready .any ops listed:=by
        refine mem_ready.2 ⟨(v x.1 ae).2 (by simp),x.2.1,hx,λe he hb=>?_⟩;have ar:=a4 x.1 x.2.1 hx e.on (MR.2 ⟨e,he,hb,rfl⟩);refine yP λam=>?_
        have:=(v e.on (by omega)).1 ((V listed e.on (by omega)).2 am);simp only[yE,zM] at this;rcases this with h | h
        . omega
        have:x.1<e.on:=(xD.1 c).1 e.on h;omega
       rw[ad] at this;simp at this
   obtain⟨an,l⟩:=f R listed p v i hi;obtain⟨x,hx,rfl⟩:=xB.1 an;obtain⟨a5,a2,rfl⟩:=List.append_of_mem hx
   have ao:∀y,y∈a5->DR orcs ops.toList y x=uA:=λy z=>by
    rcases MS k y z with h | h
    . exfalso;have hl:=Qdm d (a9 _ _ (Cy.1 h)) l;have ap:=g y (by simp[z]);have aq:y.1<ops.size:=(yG.1 ap).1;exact(V listed y.1 (by omega)).1 ((v y.1 aq).2 (by simp only[yQ,yA];exact .inl (xB.2 ⟨y,z,rfl⟩))) hl
    exact h
   obtain⟨ρ,a3,hρ,a6⟩:=DS ao hr
   have af:AllOb (Zp P w0) (V0 P w0) ρ.obs:=by
    cases ah:Qjt orcs x.1 x.2.1 with
    | none=>rw[hρ ah];exact a1 x (by simp)
    | some m=>obtain⟨_,_,_,_,e⟩:=Qgh ah a3;rw[e];trivial
   have ai:=g x (by simp);have ae:x.1<ops.size:=(yG.1 ai).1
   have aj:x.1∉(a5++a2).map (·.1):=λhm=>by
    simp only[yQ,yE,xT,xD] at c;simp only[yQ,yA] at hm;rcases hm with hm | hm
    . have:=c.2.2 _ hm x.1 (by simp);omega
    have:=c.2.1.1 _ hm;omega
   refine Qfv (P:=P) ak ai a3 af u λJ' a' w' a7=>ih (a5++a2) _ _ J' a' w' (by simp at hn⊢;omega) (by simpa using p) ?_ ?_ ?_ ?_ (DU k) ?_ a6 a7
   . simp only[yQ,yE,xT,xD] at c⊢;exact⟨c.1,c.2.1.2,λa ha b hb=>c.2.2 a ha b (by simp[hb])⟩
   . intro y z;exact g y (by simp only[yA,zM] at z⊢;exact z.elim .inl λh=> .inr (.inr h))
   . intro j hj;by_cases t:x.1=j
     . subst t;constructor
       . intro h;simp[p,hj] at h
       intro h;exact absurd h aj
     rw[getD_set_ne uA t,v j hj];simp only[yQ,yE,yA,zM];exact⟨λh=>h.elim .inl λh=>h.elim (λe=>absurd e.symm t) .inr,λh=>h.elim .inl λh=> .inr (.inr h)⟩
   . intro j o ho hl e he;by_cases t:x.1=j
     . subst t;exact getD_set_true (l o ho e he)
     rw[getD_set_ne uB t] at hl;exact getD_set_true (d j o ho hl e he)
   intro y z;exact a1 y (by simp only[yA,zM] at z⊢;exact z.elim .inl λh=> .inr (.inr h))
theorem VX(y:Nq P tt=uA)(hm:P.follows .mixedOrders=uA){Q:Exit->St->Prop}{s s':St}(g:H (Y×Orc))(ts bs:H Y){id:Y}{d:uO Oper}{obs:H Ob}(h:Ey tt N g d.toList ts bs s=E (s',obs))
 (z:AllOb (Zp P w0) (V0 P w0) obs) (hQ:Q .normal s'):AWP P N w0 F0 (.region id d uA) Q s:=λJ a w n=>by
 unfold Ey at h;cases V:UU d.toList 0 with
 | false=>rw[V] at h;cases h
 | true =>
   rw[V] at h;simp only[uR] at h;split at h
   . rename_i s1 R h1;cases hp:Mp g d.toList (Qbi d.toList []) R with
     | false=>rw[hp] at h;cases h
     | true=>
       rw[hp] at h;obtain⟨rfl,rfl⟩:s1.keep ts bs=s'/\Qkp R=obs:=by simpa using h
       obtain⟨m,f,p⟩:=UV h1;have i:R.length=d.size:=by have:=uS List.length p;simpa using this
       refine wp_region_any hm (Qoe (P:=P) y (Qgl (acc:= []) (l:=d.toList) rfl (λq x r=>by simp[Qjs] at r)) (λj o ho e r=>by have:=DT V j o (by simpa using ho) e r;omega)
        (λJ' a' w' hR=>⟨J',_,hR.less (λt v hv=>Gc hv) (λk c hc=>Gc hc),hQ⟩) d.size R _ s J a _ i (by simp) ?_ ?_ ?_ ?_ hp (Qod z) m ?_)
       . rw[f];exact List.pairwise_lt_range'
       . intro x r;obtain⟨k,u,rfl⟩:=xU r
         have e1:R[k].1=k:=by
          have:=uS (·[k]?) f;simp only[List.getElem?_map,zJ u,zK] at this;rw[List.getElem?_range' (by simpa [←i] using u)] at this;simpa using this
         have e2:=uS (·[k]?) p;simp only[List.getElem?_map,zJ u,zK] at e2;rw[e1];simpa using e2.symm
       . intro j hj;rw[f];simp[hj,List.mem_range'_1]
       . intro j o _ hl;simp only[zN,Array.getElem?_replicate] at hl;split at hl<;>simp at hl
       refine {n with below:= ?_,fl:=n.fl,bo:= ?_,tm:= ?_}
       . exact n.below.trans ⟨rfl,rfl,rfl,zY _,λ_ _=>rfl⟩
       . intro k c u;obtain⟨h1,h2,h3,a1,e,h4,h5⟩:=n.bo k c u;exact⟨h1,h2,h3,a1,e,h4,h5.imp λv c _ hc=>hc.keep ⟨λb hb=>⟨hb,rfl⟩,λk _=>⟨rfl,λ_ _=>rfl⟩,λ_ _=>rfl⟩⟩
       intro t v hv;exact(n.tm t v hv).keep λc _=>⟨λb hb=>⟨hb,rfl⟩,λk _=>⟨rfl,λ_ _=>rfl⟩,λ_ _=>rfl⟩
   cases h
end
open GoE (enc wide)
def nth{α:Type}[uQ α](l:H α)(i:Y):α:=l.getD i default
theorem Dc{α:Type}[uQ α]{l:H α}{i:Y}(h:i<l.length):l[i]? =E (nth l i):=by
 simp[nth,List.getD,zJ h]
theorem UX{α:Type}[uQ α]{l:H α}{i:Y}{a:α}(h:l[i]? =E a):nth l i=a:=by simp[nth,List.getD,h]
def dn(s:G):Y->G
 | 0=>s
 | k+1=>dn s k-1
theorem SN(s:G):∀k,dn s k=s-(k:G)
 | 0=>by simp[dn]
 | k+1=>by rw[dn,SN s k];omega
section
variable {α:Type} [GoE α]
theorem MT{J:Inj}{w:uD}{v:uG}{tok:Tok}{l:H α}(h:CR J w v (.slc tok (GoD.n α) (eL l))):wide l:=by
 cases tok with
 | sh=>exact Tw h
 | emp=>
   obtain⟨h,_⟩:=h;cases l with
   | nil=>exact⟨yN _,by simp⟩
   | cons a l=>simp[eL] at h
 | vw k=>exact Tw h
 | put=>exact h.elim
 | own d k=>
   cases d with
   | true=>exact Tw (OwnDeep.vv (X:=λ_=>True) h λ_ _=>⟨trivial,rfl⟩)
   | false=>exact Tw (OwnTop.vv (X:=λ_=>True) h (λ_ _=>⟨trivial,rfl⟩) λ_ _=>⟨trivial,rfl⟩)
theorem Sa{l:H α}{i:Y}{a:α}(h:l[i]? =E a)(b:wide l):wide a:=b.2 a (yM h)
theorem Du{l:H α}(a:wide l):l.length<=1073741824:=a.1
theorem Qks{β:Type}[GoE β]{p:α×β}(a:wide p):wide p.1:=a.1
theorem Is{β:Type}[GoE β]{p:α×β}(a:wide p):wide p.2:=a.2
theorem MU{l:H α}(k:Y)(b:wide l):wide (List.take k l):=⟨yC (by simp[Nat.min_le_right]) b.1,λa h=>b.2 a (xQ h)⟩
theorem MV{l:H α}(k:Y)(b:wide l):wide (List.drop k l):=⟨yC (by simp) b.1,λa h=>b.2 a (List.mem_of_mem_drop h)⟩
end
section
variable {P:uK} {N:Y} {w0:Base} {F0:Y->Prop} {Q:Exit->St->Prop} {s s':St} {c:uJ} {α:Type} [GoE α]
end
abbrev PV.i(n:G):PV:= .int .i64 n
abbrev PV.b(b:uE):PV:= .bool b
abbrev PV.s(x:uF):PV:= .str x
abbrev PV.h{α:Type}[GoE α](l:H α):PV:= .slc (GoD.n α) (eL l)
abbrev C.i(n:G):C:= .int .i64 n
abbrev C.b(b:uE):C:= .bool b
abbrev C.s(x:uF):C:= .str x
abbrev C.e(n:Y):C:= .slc .emp n []
abbrev C.h{α:Type}[GoE α](l:H α):C:= .slc .sh (GoD.n α) (eL l)
abbrev C.o{α:Type}[GoE α](k:Y)(l:H α):C:= .slc (.own uA k) (GoD.n α) (eL l)
abbrev C.q{α:Type}[GoE α](k:Y)(l:H α):C:= .slc (.own uB k) (GoD.n α) (eL l)
abbrev C.v{α:Type}[GoE α](k:Y)(l:H α):C:= .slc (.vw k) (GoD.n α) (eL l)
abbrev AV.i(n:G):AV:= .one (.int .i64 n)
abbrev AV.b(b:uE):AV:= .one (.bool b)
abbrev AV.s(x:uF):AV:= .one (.str x)
abbrev AV.e(n:Y):AV:= .one (.slc .emp n [])
abbrev AV.h{α:Type}[GoE α](l:H α):AV:= .one (.slc .sh (GoD.n α) (eL l))
abbrev AV.o{α:Type}[GoE α](k:Y)(l:H α):AV:= .one (.slc (.own uA k) (GoD.n α) (eL l))
abbrev AV.q{α:Type}[GoE α](k:Y)(l:H α):AV:= .one (.slc (.own uB k) (GoD.n α) (eL l))
abbrev AV.v{α:Type}[GoE α](k:Y)(l:H α):AV:= .one (.slc (.vw k) (GoD.n α) (eL l))
abbrev AV.p(k o:Y):AV:= .one (.ptr k o)
abbrev AV.a(cs:H C):AV:= .agg cs
section
variable {A:Y->H AV->AV->Prop} {T:TakeT}
theorem o0:AllOb A T []:=trivial
theorem o1{x:Ob}(h:x.holds A T):AllOb A T [x]:=h
theorem o2{x y:Ob}{r:H Ob}(h:x.holds A T)(a:AllOb A T (y::r)):AllOb A T (x::y::r):=⟨h,a⟩
end
section
variable {α:Type} [GoE α]
theorem Qqp(l:H α):AV.one (.int .i64 ((eL l).length:G))=AV.one (.int .i64 (l.length:G)):=by rw[Yu]
theorem Qn{a b:uE}(h:a=b):AV.one (.bool a)=AV.one (.bool b):=h▸rfl
theorem zB(p:Prop)[Decidable p](h:p:=by omega):AV.one (.bool (decide p))=AV.one (.bool uA):=Qn (decide_eq_true h)
theorem zC(p:Prop)[Decidable p](h:¬p:=by omega):AV.one (.bool (decide p))=AV.one (.bool uB):=Qn (uY h)
theorem Tz(t:Tok)(n k:Y)(lo:G)(l:H α)(a:lo.toNat=k):AV.one (.slc t n (((eL l).take (zG ((eL l).length:G))).drop (zG lo)))=AV.one (.slc t n (eL (List.drop k l))):=by
 subst a;rw[Int.toNat_natCast,List.take_length,Qf2]
theorem SO(t:Tok)(n k:Y)(hi:G)(l:H α)(a:hi.toNat=k):AV.one (.slc t n (((eL l).take (zG hi)).drop (zG 0)))=AV.one (.slc t n (eL (List.take k l))):=by
 subst a;rw[Qf1];rfl
theorem Qqq(t:Tok)(n j k:Y)(lo hi:G)(l:H α)(a:lo.toNat=j)(b:hi.toNat=k):AV.one (.slc t n (((eL l).take (zG hi)).drop (zG lo)))=AV.one (.slc t n (eL (List.drop j (List.take k l)))):=by
 subst a;subst b;rw[Qf1,Qf2]
theorem Qdn{l:H α}{i:G}{k:Y}{a:α}(b:0<=i)(c:i.toNat=k)(h:l[k]? =E a):0<=i/\(eL l)[i.toNat]? =E (enc a):=⟨b,by rw[c];exact Qf3 h⟩
theorem Eo{a b m n:Y}(c:a=m)(d:b=n)(h:m+n<=1073741824):a+b<=1073741824:=by omega
theorem Qgm{l:H α}{lo hi:G}(a:0<=lo)(b:lo<=hi)(c:hi<=(l.length:G)):0<=lo/\lo<=hi/\hi<=((eL l).length:G):=by rw[Yu];exact⟨a,b,c⟩
theorem T0{l:H α}{lo:G}(a:0<=lo)(b:lo<=(l.length:G)):0<=lo/\lo<=((eL l).length:G)/\((eL l).length:G)<=((eL l).length:G):=by rw[Yu];exact⟨a,b,Int.le_refl _⟩
end
theorem Jg{α:Type}[GoE α]{A B:H (H PV)}{a b:H α}(c:A=eL a)(d:B=eL b):A++B=eL (a++b):=by rw[c,d,Qf0]
theorem Qkt{α:Type}[GoE α](n:Y)(a:α):xE n (enc a)=eL (xE n a):=by simp[eL]
theorem Yi{α:Type}[BEq α][uX α]{a b:α}(h:(a==b)=uB):a≠b:=by simpa using h
theorem P8{α:Type}[BEq α][uX α]{a b:α}(h:(a !=b)=uA):a≠b:=by simpa using h
theorem Ap{α:Type}[BEq α][uX α]{a b:α}(h:(a !=b)=uB):a=b:=by simpa using h
theorem Xg{α:Sort _}{c:uE}{a b r:α}(h:c=uA)(e:a=r):(bif c then a else b)=r:=by subst h;exact e
theorem Qi{α:Sort _}{c:uE}{a b r:α}(h:c=uB)(e:b=r):(bif c then a else b)=r:=by subst h;exact e
def lt{α R:Type}(t:α)(f:α->R):R:=f t
theorem Mq{α R:Type}{t v:α}{f:α->R}{r:R}(h:t=v)(e:f v=r):lt t f=r:=by subst h;exact e
inductive Rd (R S T:Type) where
 | next (s:S)
 | brk (t:T)
 | ret (r:R)
inductive Out (R T:Type) where
 | brk (t:T)
 | ret (r:R)
def Out.on{R T:Type}(o:Out R T)(f:T->R):R:=match o with
 | .brk t=>f t
 | .ret r=>r
theorem Vx{R T:Type}{o:Out R T}{f:T->R}{t:T}{r:R}(h:o= .brk t)(e:f t=r):o.on f=r:=by subst h;exact e
theorem Pq{R T:Type}{o:Out R T}{f:T->R}{r:R}(h:o= .ret r):o.on f=r:=by subst h;rfl
def X8{α R S T:Type}(f:Y->α->S->Rd R S T)(e:Y->S->T):H α->Y->S->Out R T
 | [],k,s=> .brk (e k s)
 | a::l,k,s=>match f k a s with
   | .next s'=>X8 f e l (k+1) s'
   | .brk t=> .brk t
   | .ret r=> .ret r
def K0{R S T:Type}(f:Y->S->Rd R S T)(e:Y->S->T):Y->Y->S->Out R T
 | 0,k,s=> .brk (e k s)
 | n+1,k,s=>match f k s with
   | .next s'=>K0 f e n (k+1) s'
   | .brk t=> .brk t
   | .ret r=> .ret r
section
variable {α R S T:Type} {f:Y->α->S->Rd R S T} {e:Y->S->T} {l:H α} {k:Y} {s:S} {a:α} {o:Out R T}
theorem FV(h:l[k]? =E a):l.drop k=a::l.drop (k+1):=by
 obtain⟨b,rfl⟩:=zE.1 h;exact List.drop_eq_getElem_cons b
theorem Qr{s':S}(b:l[k]? =E a)(h:f k a s= .next s')(c:o=X8 f e (l.drop k) k s):o=X8 f e (l.drop (k+1)) (k+1) s':=by
 rw[c,FV b];simp only[X8,h]
theorem Qbm{t:T}(b:l[k]? =E a)(h:f k a s= .brk t)(c:o=X8 f e (l.drop k) k s):o= .brk t:=by
 rw[c,FV b];simp only[X8,h]
theorem Kj{r:R}(b:l[k]? =E a)(h:f k a s= .ret r)(c:o=X8 f e (l.drop k) k s):o= .ret r:=by
 rw[c,FV b];simp only[X8,h]
theorem Xq{t:T}(a:k=l.length)(h:e k s=t)(b:o=X8 f e (l.drop k) k s):o= .brk t:=by
 rw[b,a,List.drop_length,←a];simp only[X8,h]
end
section
variable {R S T:Type} {f:Y->S->Rd R S T} {e:Y->S->T} {n k:Y} {s:S} {o:Out R T}
theorem Jd{s':S}(b:k<n)(h:f k s= .next s')(a:o=K0 f e (n-k) k s):o=K0 f e (n-(k+1)) (k+1) s':=by
 rw[a,show n-k=n-(k+1)+1 by omega];simp only[K0,h]
theorem XC{r:R}(b:k<n)(h:f k s= .ret r)(a:o=K0 f e (n-k) k s):o= .ret r:=by
 rw[a,show n-k=n-(k+1)+1 by omega];simp only[K0,h]
theorem Hn{t:T}(a:k=n)(h:e k s=t)(b:o=K0 f e (n-k) k s):o= .brk t:=by
 rw[b,a,Nat.sub_self,←a];simp only[K0,h]
end
def whl{R S T:Type}(f:S->Rd R S T):Y->S->uH (Out R T)
 | 0,_=>uC
 | n+1,s=>match f s with
   | .next s'=>whl f n s'
   | .brk t=>E (.brk t)
   | .ret r=>E (.ret r)
section
variable {R S T:Type} {f:S->Rd R S T} {n:Y} {s:S} {o:Out R T}
theorem Qku{s':S}(h:f s= .next s')(a:whl f (n+1) s=E o):whl f n s'=E o:=by simpa only[whl,h] using a
theorem Qof{t:T}(h:f s= .brk t)(a:whl f (n+1) s=E o):o= .brk t:=by simp only[whl,h] at a;exact(zD a).symm
theorem Qog{r:R}(h:f s= .ret r)(a:whl f (n+1) s=E o):o= .ret r:=by simp only[whl,h] at a;exact(zD a).symm
end
instance {R T:Type} [uQ T]:uQ (Out R T):=⟨.brk default⟩
def Ps{R S T:Type}[uQ T](f:S->Rd R S T)(n:Y)(s:S):Out R T:=(whl f n s).getD default
theorem N1{R S T:Type}[uQ T]{f:S->Rd R S T}{n:Y}{s:S}(h:(whl f n s).isSome=uA):whl f n s=E (Ps f n s):=by
 unfold Ps;cases hw:whl f n s with
 | none=>rw[hw] at h;cases h
 | some o=>rfl
theorem Sb{R S T:Type}{f:S->Rd R S T}{s:S}{o:Out R T}:¬whl f 0 s=E o:=by simp[whl]
def QL(a:Y)(A B:St->Prop)(Q:Exit->St->Prop):Exit->St->Prop
 | .normal,s=>A s
 | .exit i,s=>bif zQ i a then B s else Q (.exit i) s
 | e,s=>Q e s
section
variable {P:uK} {N:Y} {w0:Base} {F0:Y->Prop} {Q:Exit->St->Prop} {s s':St} {c:uJ} {σ τ:Type} {id:Y}
theorem Ub(mk:Y->σ->St)(after:τ->St)(I:Y->σ->Prop)(D:τ->Prop)(len:Y)(l:σ)(q:Weak s (mk 0 l))(r:I 0 l)
 (t:∀k x,k<len->I k x->AWP P N w0 F0 c (QL id (λs'=>∃j,Weak s' (mk (k+1) j)/\I (k+1) j) (λs'=>∃y,Weak s' (after y)/\D y) Q) (mk k x))
 (u:∀k x,k=len->I k x->AWP P N w0 F0 c (QL id (λ_=>False) (λs'=>∃y,Weak s' (after y)/\D y) Q) (mk k x))
 (v:∀y,D y->Q .normal (after y)):AWP P N w0 F0 (.block id (.loop c)) Q s:=by
 refine Qp (Ex q (Qkh (λn s=>∃k x,k<=len/\n=len-k/\s=mk k x/\I k x) (n:=len) ⟨0,l,yN _,by omega,rfl,r⟩ ?_))
 rintro n _ ⟨k,x,z,rfl,rfl,hi⟩
 have g:∀(A:St->Prop) (i:Y) (s':St),QL id A (λs'=>∃y,Weak s' (after y)/\D y) Q (.exit i) s'->∀(J:Inj) (a:Act) (w:uD),Rel N w0 F0 J a w s'->∃J s,Rel N w0 F0 J a w s/\Exit.inBlockS id Q (.exit i) s:=by
  intro A i s' b J a w d;simp only[QL] at b;cases hb:zQ i id with
  | true=>
    rw[hb] at b;obtain⟨y,hw,hd⟩:=b;obtain⟨J',m⟩:=hw N w0 F0 J a w d;exact⟨J',_,m,by simp only[Exit.inBlockS,hb,uR];exact v y hd⟩
  | false=>
    rw[hb] at b;exact⟨J,s',d,by simp only[Exit.inBlockS,hb,uT];exact b⟩
 intro J a w f;by_cases h:k<len
 . refine wp_mono (t k x h hi J a w f) ?_
   rintro e o w' ⟨J',s',d,b⟩
   cases e with
   | normal=>
     obtain⟨j,hw,p⟩:=b;exact⟨J',s',d,len-(k+1),_,by omega,hw,k+1,j,by omega,rfl,rfl,p⟩
   | exit i=>exact g _ i s' b J' o w' d
   | _=>exact⟨J',s',d,b⟩
 obtain rfl:k=len:=by omega
 refine wp_mono (u _ x rfl hi J a w f) ?_
 rintro e o w' ⟨J',s',d,b⟩
 cases e with
 | normal=>exact b.elim
 | exit i=>exact g _ i s' b J' o w' d
 | _=>exact⟨J',s',d,b⟩
theorem Qdo(mk:σ->St)(after:τ->St)(I:Y->σ->Prop)(D:τ->Prop)(n:Y)(b:σ)(g:Weak s (mk b))(h:I n b)(i:∀x,¬I 0 x)
 (l:∀n x,I (n+1) x->AWP P N w0 F0 c (QL id (λs'=>∃a,Weak s' (mk a)/\I n a) (λs'=>∃y,Weak s' (after y)/\D y) Q) (mk x))
 (o:∀y,D y->Q .normal (after y)):AWP P N w0 F0 (.block id (.loop c)) Q s:=by
 refine Ub (λ_=>mk) after (λk x=>∃m,m+k=n/\I m x) D n b g ⟨n,rfl,h⟩ (λk x p ⟨m,hm,hi⟩=>?_) (λk x p ⟨m,hm,hi⟩=>?_) o
 . obtain⟨m,rfl⟩:∃j,m=j+1:=⟨m-1,by omega⟩;refine Qkg (l m x hi) λe s' f=>?_
   cases e with
   | normal=>obtain⟨a,hw,d⟩:=f;exact⟨a,hw,m,by omega,d⟩
   | _=>exact f
 obtain rfl:m=0:=by omega
 exact(i x hi).elim
def QJ(a:St)(e:Exit)(s':St):Prop:=e= .normal/\Weak s' a
theorem Qkv(d:St)(b:uE)(g:b=uA->AWP P N w0 F0 c (QJ d) s)(h:b=uB->AWP P N w0 F0 c (QJ d) s)(i:Q .normal d):AWP P N w0 F0 c Q s:=by
 have key:AWP P N w0 F0 c (QJ d) s:=by cases hb:b with
  | true=>exact g hb
  | false=>exact h hb
 intro J a w j;refine wp_mono (key J a w j) ?_
 rintro e k w' ⟨J',s',l,rfl,hw⟩
 obtain⟨m,f⟩:=hw N w0 F0 J' k w' l;exact⟨m,d,f,i⟩
theorem Qgn(e:s=s'):Weak s s':=e▸Weak.refl s
theorem X4(b:uE)(a:b=uA->AWP P N w0 F0 c Q s)(d:b=uB->AWP P N w0 F0 c Q s):AWP P N w0 F0 c Q s:=by cases hb:b with
 | true=>exact a hb
 | false=>exact d hb
theorem Qgo{t:Y}{x y:uJ}(a:get s.tm t=E (.one (.bool uA)))(b:AWP P N w0 F0 x Q s):AWP P N w0 F0 (.cond (.tmp t) x y) Q s:=QS a (λ_=>b) (λh=>by cases h)
theorem XD{t:Y}{x y:uJ}(a:get s.tm t=E (.one (.bool uB)))(b:AWP P N w0 F0 y Q s):AWP P N w0 F0 (.cond (.tmp t) x y) Q s:=QS a (λh=>by cases h) (λ_=>b)
theorem Qdp{t:Y}{x y:uJ}{b:uE}(a:get s.tm t=E (.one (.bool b)))(c:b=uA)(d:AWP P N w0 F0 x Q s):AWP P N w0 F0 (.cond (.tmp t) x y) Q s:=QS a (λ_=>d) (λh=>absurd (c.symm.trans h) (by decide))
theorem Qdq{t:Y}{x y:uJ}{b:uE}(a:get s.tm t=E (.one (.bool b)))(c:b=uB)(d:AWP P N w0 F0 y Q s):AWP P N w0 F0 (.cond (.tmp t) x y) Q s:=QS a (λh=>absurd (c.symm.trans h) (by decide)) (λ_=>d)
end
theorem MW{a b:uE}(h:(a&&b)=uA):a=uA:=by cases a<;>simp_all
theorem CF{a b:uE}(h:(a&&b)=uA):b=uA:=by cases a<;>simp_all
theorem CG{a b:uE}(h:(a|| b)=uB):a=uB:=by cases a<;>simp_all
theorem FW{a b:uE}(h:(a|| b)=uB):b=uB:=by cases a<;>simp_all
theorem V1{b:uE}(h:(!b)=uA):b=uB:=by cases b<;>simp_all
theorem Z5{b:uE}(h:(!b)=uB):b=uA:=by cases b<;>simp_all
def Qoh{α:Type}(d:H Y):H (Y×α)->H (Y×α)
 | []=> []
 | p::r=>bif Nr p.1 d then Qoh d r else p::Qoh d r
def Qs9{α:Type}(u:H (Y×α))(d:H Y)(l:H (Y×α)):H (Y×α):=u++Qoh d l
def N2{α:Type}:H (Y×α)->H Y
 | []=> []
 | p::r=>p.1::N2 r
def St.up(s:St)(u:H (Y×AV))(d:H Y)(a:H (Y×H C))(b:H Y):St:=⟨Qs9 u d s.tm,Qs9 a b s.bx⟩
def St.fit(s s':St):St:=s.keep (N2 s'.tm) (N2 s'.bx)
theorem Qe{s s':St}(h:s.fit s'=s'):Weak s s':=UK _ _ h
theorem zA{α:Type}{e:α}{s s':St}(h:s.fit s'=s'):e=e/\Weak s s':=⟨rfl,Qe h⟩
def St.cellT(s:St)(t i:Y):uH C:=match get s.tm t with
 | some (.one c)=>(match i with | 0=>E c | _=>uC)
 | some (.agg cs)=>cs[i]?
 | _=>uC
def St.cellB(s:St)(b i:Y):uH C:=match get s.bx b with
 | some cs=>cs[i]?
 | _=>uC
section
variable {P:uK} {N:Y} {w0:Base} {F0:Y->Prop} {Q:Exit->St->Prop} {s:St} {c:uJ}
theorem ck{t:Y}{x y:uJ}(b:uE)(a:b=uA->AWP P N w0 F0 x Q s)(c:b=uB->AWP P N w0 F0 y Q s)(d:get s.tm t=E (.one (.bool b)):=by kernel_rfl):AWP P N w0 F0 (.cond (.tmp t) x y) Q s:=QS d a c
theorem ckT{t:Y}{x y:uJ}(a:AWP P N w0 F0 x Q s)(b:get s.tm t=E (.one (.bool uA)):=by kernel_rfl):AWP P N w0 F0 (.cond (.tmp t) x y) Q s:=Qgo b a
theorem ckF{t:Y}{x y:uJ}(a:AWP P N w0 F0 y Q s)(b:get s.tm t=E (.one (.bool uB)):=by kernel_rfl):AWP P N w0 F0 (.cond (.tmp t) x y) Q s:=XD b a
theorem ckt{t:Y}{x y:uJ}{b:uE}(a:b=uA)(c:AWP P N w0 F0 x Q s)(d:get s.tm t=E (.one (.bool b)):=by kernel_rfl):AWP P N w0 F0 (.cond (.tmp t) x y) Q s:=Qdp d a c
theorem ckf{t:Y}{x y:uJ}{b:uE}(a:b=uB)(c:AWP P N w0 F0 y Q s)(d:get s.tm t=E (.one (.bool b)):=by kernel_rfl):AWP P N w0 F0 (.cond (.tmp t) x y) Q s:=Qdq d a c
theorem jn(u:H (Y×AV))(d:H Y)(a:H (Y×H C))(e:H Y)(b:uE)(f:b=uA->AWP P N w0 F0 c (QJ (s.up u d a e)) s)(g:b=uB->AWP P N w0 F0 c (QJ (s.up u d a e)) s)(h:Q .normal (s.up u d a e)):AWP P N w0 F0 c Q s:=Qkv _ b f g h
theorem eqn(u:H (Y×AV))(d:H Y)(a:H (Y×H C))(b:H Y)(h:s.fit (s.up u d a b)=s.up u d a b)(k:AWP P N w0 F0 c Q (s.up u d a b)):AWP P N w0 F0 c Q s:=Ex (Qe h) k
theorem Qgp{J:Inj}{a:Act}{w:uD}(h:Rel N w0 F0 J a w s){t i:Y}{x:C}(b:s.cellT t i=E x):∃u,CR J w u x:=by
 unfold St.cellT at b;split at b
 . rename_i y c;split at b
   . obtain rfl:=zD b;exact⟨_,h.tm t _ c⟩
   cases b
 . rename_i cs c;obtain⟨vs,_,ha⟩:=h.tm t _ c;obtain⟨u,_,d⟩:=ha.get' b;exact⟨u,d⟩
 cases b
theorem Qoi{J:Inj}{a:Act}{w:uD}(h:Rel N w0 F0 J a w s){b i:Y}{x:C}(c:s.cellB b i=E x):∃u,CR J w u x:=by
 unfold St.cellB at c;split at c
 . rename_i cs d;obtain⟨_,_,_,f,e,_,ha⟩:=h.bo b _ d;obtain⟨u,_,g⟩:=ha.get' c;exact⟨u,g⟩
 cases c
theorem wdT{α:Type}[GoE α](t i:Y)(tok:Tok)(l:H α)(k:wide l->AWP P N w0 F0 c Q s)(h:s.cellT t i=E (.slc tok (GoD.n α) (eL l)):=by kernel_rfl):AWP P N w0 F0 c Q s:=λJ a w b=>k (by obtain⟨u,d⟩:=Qgp b h;exact MT d) J a w b
theorem wdB{α:Type}[GoE α](b i:Y)(tok:Tok)(l:H α)(k:wide l->AWP P N w0 F0 c Q s)(h:s.cellB b i=E (.slc tok (GoD.n α) (eL l)):=by kernel_rfl):AWP P N w0 F0 c Q s:=λJ a w d=>k (by obtain⟨u,e⟩:=Qoi d h;exact MT e) J a w d
theorem stT(t i:Y)(x:uF)(k:x.size<=9223372036854775807->AWP P N w0 F0 c Q s)(h:s.cellT t i=E (.str x):=by kernel_rfl):AWP P N w0 F0 c Q s:=λJ a w b=>k (by obtain⟨u,d⟩:=Qgp b h;exact d.2) J a w b
theorem blk{σ τ:Type}{g:Y}(u:Y->σ->H (Y×AV))(d:H Y)(b:Y->σ->H (Y×H C))(e:H Y)(h:τ->H (Y×AV))(i:H Y)(j:τ->H (Y×H C))(a:H Y)(I:Y->σ->Prop)(D:τ->Prop)(len:Y)(f:σ)
 (m:Weak s (s.up (u 0 f) d (b 0 f) e)) (n:I 0 f)
 (o:∀k x,k<len->I k x->AWP P N w0 F0 c (QL g (λs'=>∃l,Weak s' (s.up (u (k+1) l) d (b (k+1) l) e)/\I (k+1) l) (λs'=>∃y,Weak s' (s.up (h y) i (j y) a)/\D y) Q) (s.up (u k x) d (b k x) e))
 (p:∀k x,k=len->I k x->AWP P N w0 F0 c (QL g (λ_=>False) (λs'=>∃y,Weak s' (s.up (h y) i (j y) a)/\D y) Q) (s.up (u k x) d (b k x) e))
 (q:∀y,D y->Q .normal (s.up (h y) i (j y) a)):AWP P N w0 F0 (.block g (.loop c)) Q s:=Ub _ _ I D len f m n o p q
theorem blw{σ τ:Type}{h:Y}(u:σ->H (Y×AV))(d:H Y)(e:σ->H (Y×H C))(f:H Y)(i:τ->H (Y×AV))(j:H Y)(k:τ->H (Y×H C))(a:H Y)(I:Y->σ->Prop)(D:τ->Prop)(n:Y)(b:σ)
 (l:Weak s (s.up (u b) d (e b) f)) (m:I n b) (o:∀x,¬I 0 x)
 (p:∀n x,I (n+1) x->AWP P N w0 F0 c (QL h (λs'=>∃g,Weak s' (s.up (u g) d (e g) f)/\I n g) (λs'=>∃y,Weak s' (s.up (i y) j (k y) a)/\D y) Q) (s.up (u x) d (e x) f))
 (q:∀y,D y->Q .normal (s.up (i y) j (k y) a)):AWP P N w0 F0 (.block h (.loop c)) Q s:=Qdo _ _ I D n b l m o p q
end
theorem G6{a b:G}(h:a=b):AV.i a=AV.i b:=h▸rfl
theorem cb{P:uK}{f:Y}{args:H AV}{a b:uE}(h:a=b)(c:ACalls P f args (.b a)):ACalls P f args (.b b):=h▸c
theorem Qoj{p:Prop}[Decidable p](h:¬p):AV.b (decide p)=AV.b uB:=by rw[uY h]
theorem Qgq{s s':St}(a:H (Y×Y))(h:(s.swaps a).fit s'=s'):Weak s s':=(DG a s).trans (Qe h)
theorem Qok{s s':St}(os:H (uE×Y×Y×uE×Y×Y))(a b:H Y)(c:H (Y×Y))(h:((((s.opens os).map (Wt (X7 a) uC)).demotes b).swaps c).fit s'=s'):Weak s s':=
 (ZP os s).trans ((B4 a rfl).trans ((P3 b _).trans (Qgq c h)))
theorem opn{P:uK}{N:Y}{a:Base}{b:Y->Prop}{Q:Exit->St->Prop}{s:St}{c:uJ}(l:H (uE×Y×Y×uE×Y×Y))(h:AWP P N a b c Q (s.opens l)):AWP P N a b c Q s:=Qfx l rfl h
open GoE (enc wide)
def PL(A:Y->H AV->AV->Prop)(T:TakeT)(_:H (Y×Orc))(a:H Ob):Prop:=AllOb A T a
section
variable {A:Y->H AV->AV->Prop} {T:TakeT} {orcs:H (Y×Orc)} {obs:H Ob}
theorem Na{x:Ob}{r:H Ob}(h:x.holds A T)(k:AllOb A T r):AllOb A T (x::r):=by
 cases r with
 | nil=>exact h
 | cons y r=>exact⟨h,k⟩
theorem p0:PL A T [] []:=trivial
theorem px{x:Ob}(h:x.holds A T)(k:PL A T orcs obs):PL A T orcs (x::obs):=Na h k
theorem po(i:Y)(o:Orc)(k:PL A T orcs obs):PL A T ((i,o)::orcs) obs:=k
theorem pe(i:Y){a b:AV}(h:a=b)(k:PL A T orcs obs):PL A T ((i,.val b)::orcs) (.eq a b::obs):=Na (x:= .eq a b) h k
theorem pr(i:Y){l:H (H PV)}{j:G}{r:H PV}(h:0<=j/\l[j.toNat]? =E r)(k:PL A T orcs obs):PL A T ((i,.row r)::orcs) (.elem l j r::obs):=Na (x:= .elem l j r) h k
theorem pR(i:Y){l:H (H PV)}{j:G}{r:H PV}(h:0<=j/\l[j.toNat]? =E r)(k:PL A T orcs obs):PL A T ((i,.rowE r)::orcs) (.elem l j r::obs):=Na (x:= .elem l j r) h k
end
section
variable {P:uK} {w0:Base} {T:TakeT} {orcs:H (Y×Orc)} {obs:H Ob}
theorem pc[GoodAt P w0](i:Y){f:Y}{args:H AV}{r:AV}(h:ACalls P f args r)(k:PL (Zp P w0) T orcs obs):PL (Zp P w0) T ((i,.val r)::orcs) (.call f args r::obs):=Na (Mm h) k
end
section
variable {A:Y->H AV->AV->Prop} {T:TakeT} {orcs:H (Y×Orc)} {obs:H Ob}
theorem pl(i:Y){α:Type}[GoE α](l:H α)(k:PL A T orcs obs):PL A T ((i,.val (.i (l.length:G)))::orcs) (.eq (.one (.int .i64 ((eL l).length:G))) (.i (l.length:G))::obs):=pe i (Qqp l) k
theorem pt(i:Y){b:uE}(h:b=uA)(k:PL A T orcs obs):PL A T ((i,.val (.b uA))::orcs) (.eq (.one (.bool b)) (.b uA)::obs):=pe i (Qn h) k
theorem pf(i:Y){b:uE}(h:b=uB)(k:PL A T orcs obs):PL A T ((i,.val (.b uB))::orcs) (.eq (.one (.bool b)) (.b uB)::obs):=pe i (Qn h) k
theorem pg(i:Y){α:Type}[GoE α]{l:H α}(j:G){k:Y}{a:α}(h:l[k]? =E a)(r:PL A T orcs obs)(b:0<=j:=by omega)(c:j.toNat=k:=by rfl):PL A T ((i,.row (enc a))::orcs) (.elem (eL l) j (enc a)::obs):=pr i (Qdn b c h) r
theorem pG(i:Y){α:Type}[GoE α]{l:H α}(j:G){k:Y}{a:α}(h:l[k]? =E a)(r:PL A T orcs obs)(b:0<=j:=by omega)(c:j.toNat=k:=by rfl):PL A T ((i,.rowE (enc a))::orcs) (.elem (eL l) j (enc a)::obs):=pR i (Qdn b c h) r
theorem pn(i:Y){α:Type}[GoE α]{l:H α}{k:Y}{a:α}(h:l[k]? =E a)(r:PL A T orcs obs):PL A T ((i,.row (enc a))::orcs) (.elem (eL l) (k:G) (enc a)::obs):=pr i (Qdn (Int.natCast_nonneg k) rfl h) r
theorem pN(i:Y){α:Type}[GoE α]{l:H α}{k:Y}{a:α}(h:l[k]? =E a)(r:PL A T orcs obs):PL A T ((i,.rowE (enc a))::orcs) (.elem (eL l) (k:G) (enc a)::obs):=pR i (Qdn (Int.natCast_nonneg k) rfl h) r
theorem pa{α:Type}[GoE α](a b:H α)(r:PL A T orcs obs)(h:a.length+b.length<=1073741824:=by first|omega|(simp only[List.length_cons,List.length_nil];omega) | (simp;omega) | simp):PL A T orcs (.len ((eL a).length+(eL b).length)::obs):=px (Db (Eo (Yu a) (Yu b) h)) r
end
def nx(tt:H (Y×TI))(N:Y)(a:H (Y×Orc))(b:H Oper)(c d:H Y)(s:St):St:=match Pb tt N a b b 0 s with
 | some (s',_)=>s'.keep c d
 | none=>s
def nd(tt:H (Y×TI))(N:Y)(a:H (Y×Orc))(b:H Oper)(c d:H Y)(s:St):St:=match Ey tt N a b c d s with
 | some (s',_)=>s'
 | none=>s
def hd(x _:St):St:=x
section
variable {P:uK} {N:Y} {w0:Base} {F0:Y->Prop} {Q:Exit->St->Prop} {s x:St} {c y:uJ} {tt:H (Y×TI)} {orcs:H (Y×Orc)} {obs:H Ob} {id:Y} {ops:uO Oper}
theorem rn0(b:Nq P tt=uA)(c d:H Y)(e:PL (Zp P w0) (V0 P w0) orcs obs)(g:Q .normal (nx tt N orcs ops.toList c d s))
 (h:(Pb tt N orcs ops.toList ops.toList 0 s).map yU=E obs):AWP P N w0 F0 (.region id ops uB) Q s:=by
 cases f:Pb tt N orcs ops.toList ops.toList 0 s with
 | none=>rw[f] at h;cases h
 | some x=>
   obtain⟨s',a⟩:=x;rw[f] at h;obtain rfl:a=obs:=zD h;refine Jr b orcs c d (s':=nx tt N orcs ops.toList c d s) ?_ e g;unfold Wr nx;rw[f]
theorem rN0(d:Nq P tt=uA)(g:P.follows .mixedOrders=uA)(a b:H Y)(e:PL (Zp P w0) (V0 P w0) orcs obs)(i:Q .normal (nd tt N orcs ops.toList a b s))
 (h:(Ey tt N orcs ops.toList a b s).map yU=E obs):AWP P N w0 F0 (.region id ops uA) Q s:=by
 cases f:Ey tt N orcs ops.toList a b s with
 | none=>rw[f] at h;cases h
 | some x=>
   obtain⟨s',c⟩:=x;rw[f] at h;obtain rfl:c=obs:=zD h;refine VX d g orcs a b (s':=nd tt N orcs ops.toList a b s) ?_ e i;unfold nd;rw[f]
theorem mz(u:H (Y×AV))(d:H Y)(a:H (Y×H C))(bd:H Y)(k:AWP P N w0 F0 c Q (s.up u d a bd))(h:x.fit (s.up u d a bd)=s.up u d a bd:=by kernel_rfl):AWP P N w0 F0 c Q (hd x s):=Ex (s:=x) (Qe h) k
theorem wT{α:Type}[GoE α](t i:Y)(tok:Tok)(l:H α)(k:wide l->l.length<=1073741824->AWP P N w0 F0 c Q s)(h:s.cellT t i=E (.slc tok (GoD.n α) (eL l)):=by kernel_rfl):AWP P N w0 F0 c Q s:=wdT t i tok l (λhw=>k hw (Du hw)) h
theorem wB{α:Type}[GoE α](b i:Y)(tok:Tok)(l:H α)(k:wide l->l.length<=1073741824->AWP P N w0 F0 c Q s)(h:s.cellB b i=E (.slc tok (GoD.n α) (eL l)):=by kernel_rfl):AWP P N w0 F0 c Q s:=wdB b i tok l (λhw=>k hw (Du hw)) h
end
section
variable {P:uK} {N:Y} {w0:Base} {F0:Y->Prop} {Q:Exit->St->Prop} {s:St} {c:uJ} {α R σ τ:Type} {id:Y}
theorem S7(f:Y->α->σ->Rd R σ τ)(e:Y->σ->τ)(l:H α)(a:σ)(u:Y->σ->H (Y×AV))(d:H Y)(b:τ->H (Y×AV))(g:H Y)
 (i:Weak s (s.up (u 0 a) d [] []))
 (j:∀k x,k<l.length->X8 f e l 0 a=X8 f e (l.drop k) k x->AWP P N w0 F0 c (QL id (λs'=>∃h,Weak s' (s.up (u (k+1) h) d [] [])/\(X8 f e l 0 a=X8 f e (l.drop (k+1)) (k+1) h)) (λs'=>∃y,Weak s' (s.up (b y) g [] [])/\X8 f e l 0 a= .brk y) Q) (s.up (u k x) d [] []))
 (m:∀k x,k=l.length->X8 f e l 0 a=X8 f e (l.drop k) k x->AWP P N w0 F0 c (QL id (λ_=>False) (λs'=>∃y,Weak s' (s.up (b y) g [] [])/\X8 f e l 0 a= .brk y) Q) (s.up (u k x) d [] []))
 (n:∀y,X8 f e l 0 a= .brk y->Q .normal (s.up (b y) g [] [])):AWP P N w0 F0 (.block id (.loop c)) Q s:=Ub (λk x=>s.up (u k x) d [] []) (λy=>s.up (b y) g [] []) (λk x=>X8 f e l 0 a=X8 f e (l.drop k) k x) (λy=>X8 f e l 0 a= .brk y) l.length a i rfl j m n
theorem CA(f:Y->α->σ->Rd R σ τ)(e:Y->σ->τ)(l:H α)(a:σ)(u:Y->σ->H (Y×AV))(d:H Y)(b:τ->H (Y×AV))(g:H Y)(A:Y->σ->Prop)
 (i:Weak s (s.up (u 0 a) d [] [])) (j:A 0 a)
 (m:∀k x,k<l.length->X8 f e l 0 a=X8 f e (l.drop k) k x/\A k x->AWP P N w0 F0 c (QL id (λs'=>∃h,Weak s' (s.up (u (k+1) h) d [] [])/\(X8 f e l 0 a=X8 f e (l.drop (k+1)) (k+1) h/\A (k+1) h)) (λs'=>∃y,Weak s' (s.up (b y) g [] [])/\X8 f e l 0 a= .brk y) Q) (s.up (u k x) d [] []))
 (n:∀k x,k=l.length->X8 f e l 0 a=X8 f e (l.drop k) k x/\A k x->AWP P N w0 F0 c (QL id (λ_=>False) (λs'=>∃y,Weak s' (s.up (b y) g [] [])/\X8 f e l 0 a= .brk y) Q) (s.up (u k x) d [] []))
 (o:∀y,X8 f e l 0 a= .brk y->Q .normal (s.up (b y) g [] [])):AWP P N w0 F0 (.block id (.loop c)) Q s:=Ub (λk x=>s.up (u k x) d [] []) (λy=>s.up (b y) g [] []) (λk x=>X8 f e l 0 a=X8 f e (l.drop k) k x/\A k x) (λy=>X8 f e l 0 a= .brk y) l.length a i ⟨rfl,j⟩ m n o
theorem Qta(f:Y->α->σ->Rd R σ τ)(e:Y->σ->τ)(l:H α)(a:σ)(u:Y->σ->H (Y×AV))(d:H Y)(b:τ->H (Y×AV))(g:H Y)(B:τ->Prop)
 (i:Weak s (s.up (u 0 a) d [] []))
 (j:∀k x,k<l.length->X8 f e l 0 a=X8 f e (l.drop k) k x->AWP P N w0 F0 c (QL id (λs'=>∃h,Weak s' (s.up (u (k+1) h) d [] [])/\(X8 f e l 0 a=X8 f e (l.drop (k+1)) (k+1) h)) (λs'=>∃y,Weak s' (s.up (b y) g [] [])/\(X8 f e l 0 a= .brk y/\B y)) Q) (s.up (u k x) d [] []))
 (m:∀k x,k=l.length->X8 f e l 0 a=X8 f e (l.drop k) k x->AWP P N w0 F0 c (QL id (λ_=>False) (λs'=>∃y,Weak s' (s.up (b y) g [] [])/\(X8 f e l 0 a= .brk y/\B y)) Q) (s.up (u k x) d [] []))
 (n:∀y,X8 f e l 0 a= .brk y/\B y->Q .normal (s.up (b y) g [] [])):AWP P N w0 F0 (.block id (.loop c)) Q s:=Ub (λk x=>s.up (u k x) d [] []) (λy=>s.up (b y) g [] []) (λk x=>X8 f e l 0 a=X8 f e (l.drop k) k x) (λy=>X8 f e l 0 a= .brk y/\B y) l.length a i rfl j m n
theorem Qbn(f:Y->α->σ->Rd R σ τ)(e:Y->σ->τ)(l:H α)(a:σ)(u:Y->σ->H (Y×AV))(d:H Y)(b:τ->H (Y×AV))(g:H Y)(A:Y->σ->Prop)(B:τ->Prop)
 (i:Weak s (s.up (u 0 a) d [] [])) (j:A 0 a)
 (m:∀k x,k<l.length->X8 f e l 0 a=X8 f e (l.drop k) k x/\A k x->AWP P N w0 F0 c (QL id (λs'=>∃h,Weak s' (s.up (u (k+1) h) d [] [])/\(X8 f e l 0 a=X8 f e (l.drop (k+1)) (k+1) h/\A (k+1) h)) (λs'=>∃y,Weak s' (s.up (b y) g [] [])/\(X8 f e l 0 a= .brk y/\B y)) Q) (s.up (u k x) d [] []))
 (n:∀k x,k=l.length->X8 f e l 0 a=X8 f e (l.drop k) k x/\A k x->AWP P N w0 F0 c (QL id (λ_=>False) (λs'=>∃y,Weak s' (s.up (b y) g [] [])/\(X8 f e l 0 a= .brk y/\B y)) Q) (s.up (u k x) d [] []))
 (o:∀y,X8 f e l 0 a= .brk y/\B y->Q .normal (s.up (b y) g [] [])):AWP P N w0 F0 (.block id (.loop c)) Q s:=Ub (λk x=>s.up (u k x) d [] []) (λy=>s.up (b y) g [] []) (λk x=>X8 f e l 0 a=X8 f e (l.drop k) k x/\A k x) (λy=>X8 f e l 0 a= .brk y/\B y) l.length a i ⟨rfl,j⟩ m n o
theorem Qqr(f:Y->α->σ->Rd R σ τ)(e:Y->σ->τ)(l:H α)(a:σ)(u:Y->σ->H (Y×AV))(d:H Y)(g:Y->σ->H (Y×H C))(h:H Y)(i:τ->H (Y×AV))(j:H Y)(m:τ->H (Y×H C))(b:H Y)
 (o:Weak s (s.up (u 0 a) d (g 0 a) h))
 (p:∀k x,k<l.length->X8 f e l 0 a=X8 f e (l.drop k) k x->AWP P N w0 F0 c (QL id (λs'=>∃n,Weak s' (s.up (u (k+1) n) d (g (k+1) n) h)/\(X8 f e l 0 a=X8 f e (l.drop (k+1)) (k+1) n)) (λs'=>∃y,Weak s' (s.up (i y) j (m y) b)/\X8 f e l 0 a= .brk y) Q) (s.up (u k x) d (g k x) h))
 (q:∀k x,k=l.length->X8 f e l 0 a=X8 f e (l.drop k) k x->AWP P N w0 F0 c (QL id (λ_=>False) (λs'=>∃y,Weak s' (s.up (i y) j (m y) b)/\X8 f e l 0 a= .brk y) Q) (s.up (u k x) d (g k x) h))
 (r:∀y,X8 f e l 0 a= .brk y->Q .normal (s.up (i y) j (m y) b)):AWP P N w0 F0 (.block id (.loop c)) Q s:=Ub (λk x=>s.up (u k x) d (g k x) h) (λy=>s.up (i y) j (m y) b) (λk x=>X8 f e l 0 a=X8 f e (l.drop k) k x) (λy=>X8 f e l 0 a= .brk y) l.length a o rfl p q r
theorem VB(f:Y->α->σ->Rd R σ τ)(e:Y->σ->τ)(l:H α)(a:σ)(u:Y->σ->H (Y×AV))(d:H Y)(g:Y->σ->H (Y×H C))(h:H Y)(i:τ->H (Y×AV))(j:H Y)(m:τ->H (Y×H C))(b:H Y)(A:Y->σ->Prop)
 (o:Weak s (s.up (u 0 a) d (g 0 a) h)) (p:A 0 a)
 (q:∀k x,k<l.length->X8 f e l 0 a=X8 f e (l.drop k) k x/\A k x->AWP P N w0 F0 c (QL id (λs'=>∃n,Weak s' (s.up (u (k+1) n) d (g (k+1) n) h)/\(X8 f e l 0 a=X8 f e (l.drop (k+1)) (k+1) n/\A (k+1) n)) (λs'=>∃y,Weak s' (s.up (i y) j (m y) b)/\X8 f e l 0 a= .brk y) Q) (s.up (u k x) d (g k x) h))
 (r:∀k x,k=l.length->X8 f e l 0 a=X8 f e (l.drop k) k x/\A k x->AWP P N w0 F0 c (QL id (λ_=>False) (λs'=>∃y,Weak s' (s.up (i y) j (m y) b)/\X8 f e l 0 a= .brk y) Q) (s.up (u k x) d (g k x) h))
 (t:∀y,X8 f e l 0 a= .brk y->Q .normal (s.up (i y) j (m y) b)):AWP P N w0 F0 (.block id (.loop c)) Q s:=Ub (λk x=>s.up (u k x) d (g k x) h) (λy=>s.up (i y) j (m y) b) (λk x=>X8 f e l 0 a=X8 f e (l.drop k) k x/\A k x) (λy=>X8 f e l 0 a= .brk y) l.length a o ⟨rfl,p⟩ q r t
theorem Qss(f:Y->σ->Rd R σ τ)(e:Y->σ->τ)(l:Y)(a:σ)(u:Y->σ->H (Y×AV))(d:H Y)(b:τ->H (Y×AV))(g:H Y)
 (i:Weak s (s.up (u 0 a) d [] []))
 (j:∀k x,k<l->K0 f e l 0 a=K0 f e (l-k) k x->AWP P N w0 F0 c (QL id (λs'=>∃h,Weak s' (s.up (u (k+1) h) d [] [])/\(K0 f e l 0 a=K0 f e (l-(k+1)) (k+1) h)) (λs'=>∃y,Weak s' (s.up (b y) g [] [])/\K0 f e l 0 a= .brk y) Q) (s.up (u k x) d [] []))
 (m:∀k x,k=l->K0 f e l 0 a=K0 f e (l-k) k x->AWP P N w0 F0 c (QL id (λ_=>False) (λs'=>∃y,Weak s' (s.up (b y) g [] [])/\K0 f e l 0 a= .brk y) Q) (s.up (u k x) d [] []))
 (n:∀y,K0 f e l 0 a= .brk y->Q .normal (s.up (b y) g [] [])):AWP P N w0 F0 (.block id (.loop c)) Q s:=Ub (λk x=>s.up (u k x) d [] []) (λy=>s.up (b y) g [] []) (λk x=>K0 f e l 0 a=K0 f e (l-k) k x) (λy=>K0 f e l 0 a= .brk y) l a i rfl j m n
theorem Qst(f:Y->σ->Rd R σ τ)(e:Y->σ->τ)(l:Y)(a:σ)(u:Y->σ->H (Y×AV))(d:H Y)(b:τ->H (Y×AV))(g:H Y)(A:Y->σ->Prop)
 (i:Weak s (s.up (u 0 a) d [] [])) (j:A 0 a)
 (m:∀k x,k<l->K0 f e l 0 a=K0 f e (l-k) k x/\A k x->AWP P N w0 F0 c (QL id (λs'=>∃h,Weak s' (s.up (u (k+1) h) d [] [])/\(K0 f e l 0 a=K0 f e (l-(k+1)) (k+1) h/\A (k+1) h)) (λs'=>∃y,Weak s' (s.up (b y) g [] [])/\K0 f e l 0 a= .brk y) Q) (s.up (u k x) d [] []))
 (n:∀k x,k=l->K0 f e l 0 a=K0 f e (l-k) k x/\A k x->AWP P N w0 F0 c (QL id (λ_=>False) (λs'=>∃y,Weak s' (s.up (b y) g [] [])/\K0 f e l 0 a= .brk y) Q) (s.up (u k x) d [] []))
 (o:∀y,K0 f e l 0 a= .brk y->Q .normal (s.up (b y) g [] [])):AWP P N w0 F0 (.block id (.loop c)) Q s:=Ub (λk x=>s.up (u k x) d [] []) (λy=>s.up (b y) g [] []) (λk x=>K0 f e l 0 a=K0 f e (l-k) k x/\A k x) (λy=>K0 f e l 0 a= .brk y) l a i ⟨rfl,j⟩ m n o
theorem Qol(f:Y->σ->Rd R σ τ)(e:Y->σ->τ)(l:Y)(a:σ)(u:Y->σ->H (Y×AV))(d:H Y)(b:τ->H (Y×AV))(g:H Y)(A:Y->σ->Prop)(B:τ->Prop)
 (i:Weak s (s.up (u 0 a) d [] [])) (j:A 0 a)
 (m:∀k x,k<l->K0 f e l 0 a=K0 f e (l-k) k x/\A k x->AWP P N w0 F0 c (QL id (λs'=>∃h,Weak s' (s.up (u (k+1) h) d [] [])/\(K0 f e l 0 a=K0 f e (l-(k+1)) (k+1) h/\A (k+1) h)) (λs'=>∃y,Weak s' (s.up (b y) g [] [])/\(K0 f e l 0 a= .brk y/\B y)) Q) (s.up (u k x) d [] []))
 (n:∀k x,k=l->K0 f e l 0 a=K0 f e (l-k) k x/\A k x->AWP P N w0 F0 c (QL id (λ_=>False) (λs'=>∃y,Weak s' (s.up (b y) g [] [])/\(K0 f e l 0 a= .brk y/\B y)) Q) (s.up (u k x) d [] []))
 (o:∀y,K0 f e l 0 a= .brk y/\B y->Q .normal (s.up (b y) g [] [])):AWP P N w0 F0 (.block id (.loop c)) Q s:=Ub (λk x=>s.up (u k x) d [] []) (λy=>s.up (b y) g [] []) (λk x=>K0 f e l 0 a=K0 f e (l-k) k x/\A k x) (λy=>K0 f e l 0 a= .brk y/\B y) l a i ⟨rfl,j⟩ m n o
theorem Qqs(f:Y->σ->Rd R σ τ)(e:Y->σ->τ)(l:Y)(a:σ)(u:Y->σ->H (Y×AV))(d:H Y)(g:Y->σ->H (Y×H C))(h:H Y)(i:τ->H (Y×AV))(j:H Y)(m:τ->H (Y×H C))(b:H Y)(A:Y->σ->Prop)
 (o:Weak s (s.up (u 0 a) d (g 0 a) h)) (p:A 0 a)
 (q:∀k x,k<l->K0 f e l 0 a=K0 f e (l-k) k x/\A k x->AWP P N w0 F0 c (QL id (λs'=>∃n,Weak s' (s.up (u (k+1) n) d (g (k+1) n) h)/\(K0 f e l 0 a=K0 f e (l-(k+1)) (k+1) n/\A (k+1) n)) (λs'=>∃y,Weak s' (s.up (i y) j (m y) b)/\K0 f e l 0 a= .brk y) Q) (s.up (u k x) d (g k x) h))
 (r:∀k x,k=l->K0 f e l 0 a=K0 f e (l-k) k x/\A k x->AWP P N w0 F0 c (QL id (λ_=>False) (λs'=>∃y,Weak s' (s.up (i y) j (m y) b)/\K0 f e l 0 a= .brk y) Q) (s.up (u k x) d (g k x) h))
 (t:∀y,K0 f e l 0 a= .brk y->Q .normal (s.up (i y) j (m y) b)):AWP P N w0 F0 (.block id (.loop c)) Q s:=Ub (λk x=>s.up (u k x) d (g k x) h) (λy=>s.up (i y) j (m y) b) (λk x=>K0 f e l 0 a=K0 f e (l-k) k x/\A k x) (λy=>K0 f e l 0 a= .brk y) l a o ⟨rfl,p⟩ q r t
theorem Qom(f:Y->σ->Rd R σ τ)(e:Y->σ->τ)(l:Y)(a:σ)(u:Y->σ->H (Y×AV))(d:H Y)(g:Y->σ->H (Y×H C))(h:H Y)(i:τ->H (Y×AV))(j:H Y)(m:τ->H (Y×H C))(b:H Y)(A:Y->σ->Prop)(B:τ->Prop)
 (o:Weak s (s.up (u 0 a) d (g 0 a) h)) (p:A 0 a)
 (q:∀k x,k<l->K0 f e l 0 a=K0 f e (l-k) k x/\A k x->AWP P N w0 F0 c (QL id (λs'=>∃n,Weak s' (s.up (u (k+1) n) d (g (k+1) n) h)/\(K0 f e l 0 a=K0 f e (l-(k+1)) (k+1) n/\A (k+1) n)) (λs'=>∃y,Weak s' (s.up (i y) j (m y) b)/\(K0 f e l 0 a= .brk y/\B y)) Q) (s.up (u k x) d (g k x) h))
 (r:∀k x,k=l->K0 f e l 0 a=K0 f e (l-k) k x/\A k x->AWP P N w0 F0 c (QL id (λ_=>False) (λs'=>∃y,Weak s' (s.up (i y) j (m y) b)/\(K0 f e l 0 a= .brk y/\B y)) Q) (s.up (u k x) d (g k x) h))
 (t:∀y,K0 f e l 0 a= .brk y/\B y->Q .normal (s.up (i y) j (m y) b)):AWP P N w0 F0 (.block id (.loop c)) Q s:=Ub (λk x=>s.up (u k x) d (g k x) h) (λy=>s.up (i y) j (m y) b) (λk x=>K0 f e l 0 a=K0 f e (l-k) k x/\A k x) (λy=>K0 f e l 0 a= .brk y/\B y) l a o ⟨rfl,p⟩ q r t
end
section
variable {tt:H (Y×TI)} {rs:H ResultVar} {s:St} {τ:Type}
theorem pz(frz:H Y){F v:τ}(e:F=v)(g:τ->AV)(h:Ml tt rs (s.map (Wt (X7 frz) uC))=E (g v):=by kernel_rfl):Qe5 tt rs (g F) .ret s:=Ir frz h (e▸rfl)
theorem pb{F v:uE}(frz:H Y)(e:F=v)(h:Ml tt rs (s.map (Wt (X7 frz) uC))=E (.b v):=by kernel_rfl):Qe5 tt rs (.b F) .ret s:=Ir frz h (e▸rfl)
theorem pi{F v:G}(frz:H Y)(e:F=v)(h:Ml tt rs (s.map (Wt (X7 frz) uC))=E (.i v):=by kernel_rfl):Qe5 tt rs (.i F) .ret s:=Ir frz h (e▸rfl)
theorem ps{F v:uF}(frz:H Y)(e:F=v)(h:Ml tt rs (s.map (Wt (X7 frz) uC))=E (.s v):=by kernel_rfl):Qe5 tt rs (.s F) .ret s:=Ir frz h (e▸rfl)
theorem po0{α:Type}[GoE α]{F v:H α}(frz:H Y)(e:F=v)(h:Ml tt rs (s.map (Wt (X7 frz) uC))=E (.o 0 v):=by kernel_rfl):Qe5 tt rs (.o 0 F) .ret s:=Ir frz h (e▸rfl)
theorem ph0{α:Type}[GoE α]{F v:H α}(frz:H Y)(e:F=v)(h:Ml tt rs (s.map (Wt (X7 frz) uC))=E (.h v):=by kernel_rfl):Qe5 tt rs (.h F) .ret s:=Ir frz h (e▸rfl)
end
theorem wn{R S T:Type}{f:S->Rd R S T}{n:Y}{s s':S}{o:Out R T}(a:whl f (n+1) s=E o)(h:f s= .next s'):whl f n s'=E o:=Qku h a
theorem wb{R S T:Type}{f:S->Rd R S T}{n:Y}{s:S}{t:T}{o:Out R T}(a:whl f (n+1) s=E o)(h:f s= .brk t):o= .brk t:=Qof h a
theorem ng{α:Type}[uQ α](l:H α)(i:Y)(h:i<l.length:=by omega):l[i]? =E (nth l i):=Dc h
theorem nm{α:Type}(t:α):∃z,t=z:=⟨_,rfl⟩
theorem wf0{s s':St}(h:s.fit s'=s':=by kernel_rfl):Weak s s':=Qe h
theorem wsf{s s':St}(a:H (Y×Y))(h:(s.swaps a).fit s'=s':=by kernel_rfl):Weak s s':=Qgq a h
theorem wgf{s s':St}(os:H (uE×Y×Y×uE×Y×Y))(a b:H Y)(c:H (Y×Y))(h:((((s.opens os).map (Wt (X7 a) uC)).demotes b).swaps c).fit s'=s':=by kernel_rfl):Weak s s':=Qok os a b c h
theorem pw{A:Y->H AV->AV->Prop}{T:TakeT}{a:H (Y×Orc)}{b:H Ob}(i k:Y)(r:PL A T a b)(h:k<9223372036854775807:=by omega):PL A T ((i,.val (.i ((k+1:Y):G)))::a) (.eq (.i (uZ vA ((k:G)+1))) (.i ((k+1:Y):G))::b):=pe i (G6 (UO k h)) r
theorem xw{α:Type}{s:St}{t:α->St}{b:α->Prop}(w:α)(a:b w)(h:s.fit (t w)=t w:=by kernel_rfl):∃x,Weak s (t x)/\b x:=⟨w,Qe h,a⟩
end
section
section
variable {α R S T:Type} {f g:Y->α->S->Rd R S T} {e e':Y->S->T}
theorem I4(b:∀k s,e k s=e' k s):∀(l:H α) (k:Y) (s:S),(∀i a s,l[i]? =E a->f (k+i) a s=g (k+i) a s)->X8 f e l k s=X8 g e' l k s
 | [],k,s,_=>by simp only[X8,b]
 | a ::l,k,s,h=>by
   have c:=h 0 a s rfl;simp only[X8];rw[Nat.add_zero] at c;rw[c];cases g k a s with
   | next s'=>
     refine I4 b l (k+1) s' λi a s hi=>?_
     have:=h (i+1) a s (by simpa using hi)
     rwa [show k+(i+1)=k+1+i by omega] at this
   | brk t=>rfl
   | ret r=>rfl
theorem N3(b:∀k a s,f k a s=g k a s)(c:∀k s,e k s=e' k s)(l:H α)(k:Y)(s:S):X8 f e l k s=X8 g e' l k s:=I4 c l k s λ_ _ _ _=>b _ _ _
end
section
variable {R S T:Type} {f g:Y->S->Rd R S T} {e e':Y->S->T}
theorem DV(a:∀k s,e k s=e' k s):∀(n k:Y) (s:S),(∀i s,k<=i->i<k+n->f i s=g i s)->K0 f e n k s=K0 g e' n k s
 | 0,k,s,_=>by simp only[K0,a]
 | n+1,k,s,h=>by
   simp only[K0];rw[h k s (zY _) (by omega)];cases g k s with
   | next s'=>exact DV a n (k+1) s' λi s b c=>h i s (by omega) (by omega)
   | brk t=>rfl
   | ret r=>rfl
end
section
variable {α R T:Type} {f:Y->α->uM->Rd R uM T} {e:Y->uM->T}
theorem XE(hb :∀k a t,f k a ()≠ .brk t):∀{l:H α} {k:Y} {t:T},X8 f e l k ()= .brk t->∀(i:Y) (a:α),l[i]? =E a->f (k+i) a ()= .next ()
 | [],_,_,_,i,a,hi=>by simp at hi
 | x :: l, k, t,h,i,a,hi=>by
   simp only[X8] at h;cases b:f k x () with
   | next s'=>
     rw[b] at h;cases i with
     | zero => obtain rfl:x=a:=by simpa using hi
               exact b
     | succ i=>
       have:=XE hb (k:=k+1) h i a (by simpa using hi)
       rwa [show k+1+i=k+(i+1) by omega] at this
   | brk c=>exact(hb k x c b).elim
   | ret r=>rw[b] at h;cases h
end
theorem N4{α β R T:Type}{f:Y->α->H β->Rd R (H β) T}{e:Y->H β->T}{p:α->uE}{g:α->β}(b:∀k a s,f k a s=(bif p a then .next (s++ [g a]) else .next s)):∀(l:H α) (k:Y) (s:H β),X8 f e l k s= .brk (e (k+l.length) (s++(l.filter p).map g))
 | [],k,s=>by simp[X8]
 | a::l,k,s=>by
   simp only[X8,b];cases c:p a with
   | true=>simp only[uR];rw[N4 b l (k+1),show k+1+l.length=k+(l.length+1) by omega];simp[c]
   | false=>simp only[uT];rw[N4 b l (k+1),show k+1+l.length=k+(l.length+1) by omega];simp[c]
theorem Wu{α β R T:Type}{f:Y->α->H β->Rd R (H β) T}{e:Y->H β->T}{g:α->β}(b:∀k a s,f k a s= .next (s++ [g a])):∀(l:H α) (k:Y) (s:H β),X8 f e l k s= .brk (e (k+l.length) (s++l.map g))
 | [],k,s=>by simp[X8]
 | a::l,k,s=>by
   simp only[X8,b];rw[Wu b l (k+1),show k+1+l.length=k+(l.length+1) by omega];simp
theorem Qgr{R S T:Type}{f:S->Rd R S T}(m:S->G)(N:G)(h:∀s s',0<=m s->f s= .next s'->m s<N/\m s'=m s+1):∀(n:Y) (s:S),0<=m s->N<=m s+n->(whl f (n+1) s).isSome=uA
 | n, s,h0,hn=>by
   simp only[whl];cases a:f s with
   | brk t=>rfl
   | ret r=>rfl
   | next s'=>
     obtain⟨b,c⟩:=h s s' h0 a;cases n with
     | zero=>omega
     | succ n=>exact Qgr m N h n s' (by omega) (by omega)
end
section
open Go.RowKit
def Qqt(cs:H C)(args:H AV):St:=⟨DI 0 (.one (.ptr bxK 0)::args), [(bxK,cs)]⟩
def Qqu(frz:H Y)(cs:H C)(s:St):Prop:=∃a,get (s.map (Wt (X7 frz) uC)).bx bxK=E a/\(Ai Qjp a&&Ao (Qu a))=uA/\SD 40 a=cs
def Qqv(tt:H (Y×TI))(rs:H ResultVar)(r:AV)(cs:H C)(e:Exit)(s:St):Prop:=
 (e= .ret\/e= .normal)/\∃frz,Ml tt rs (s.map (Wt (X7 frz) uC))=E r/\Qqu frz cs s
def Qgs(frz:H Y)(s:St):uH (H C):=match get (s.map (Wt (X7 frz) uC)).bx bxK with
 | some a=>bif Ai Qjp a&&Ao (Qu a) then E (SD 40 a) else uC
 | none=>uC
theorem Qgt{frz:H Y}{cs:H C}{s:St}(h:Qgs frz s=E cs):Qqu frz cs s:=by
 unfold Qgs at h;split at h
 . rename_i a c;cases b:(Ai Qjp a&&Ao (Qu a)) with
   | true=>rw[b] at h;exact⟨a,c,b,zD h⟩
   | false=>rw[b] at h;cases h
 cases h
theorem Qbo{tt:H (Y×TI)}{rs:H ResultVar}{r b:AV}{cs cs0:H C}{s:St}(frz:H Y)(e:b=r)(a:cs0=cs)(h:Ml tt rs (s.map (Wt (X7 frz) uC))=E b:=by kernel_rfl)(c:Qgs frz s=E cs0:=by kernel_rfl):Qqv tt rs r cs .ret s:=⟨.inl rfl,frz,e▸h,a▸Qgt c⟩
section
variable {P:uK} {N:Y} {w0:Base} {F0:Y->Prop} {J:Inj} {a:Act} {w:uD} {s:St}
theorem MX{w':uD}{tt:H (Y×TI)}(V:Nq P tt=uA){fn:Func}{r:AV}(e:Rel N w0 F0 J a w' s)(h:Ml tt fn.results.toList s=E r):∃v L',(results fn a.tmps).run P w'= .ok v w'/\(∀k,(L' k).Nodup)/\(∀k x,x∈L' k->∃k0,x∈J.L k0)/\(∀k y x,x∈L' k->x∈L' y->k=y)/\AR ⟨J.F,L',λ_=>0⟩ w' v r:=by
 unfold Ml at h;split at h
 . rename_i vs a1;split at h
   . rename_i x hx;cases z:(Ai Qn5 x.cells&&Ao (Qu x.cells)) with
     | false=>rw[z] at h;cases h
     | true =>
       rw[z] at h;obtain rfl:=zD h;simp only[zH] at z;obtain⟨a2,g⟩:=z;have g:=Bh.1 g;obtain⟨us,m,o⟩:=QU (P:=P) V e a1
       have p:∃v,(results fn a.tmps).run P w'= .ok v w'/\AR J w' v x:=by
        have q:(fn.results.mapM (UL a.tmps)).run P w'= .ok us.toArray w':=by
         rw[xG];simp[m]
        have f:(results fn a.tmps).run P w'= .ok (if h:us.toArray.size=1 then us.toArray[0] else .tuple us.toArray) w':=by
         rw[ZR];simp only[Sem.run_bind,q,Result.andThen_ok,Sem.run_pure]
        cases o with
        | nil=>
          obtain rfl:AV.tup []=x:=by simpa [DJ,Tv] using hx
          exact⟨.tuple #[],by rw[f];simp, [],rfl,.nil⟩
        | cons h1 h2=>
          cases h2 with
          | nil=>
            obtain rfl:=zD hx;exact⟨_,by rw[f];simp,h1⟩
          | cons h2 h3=>
            obtain⟨ps,a3,rfl⟩:=zL.1 hx;exact⟨_,by rw[f];simp,_,rfl,FR a3 (.cons h1 (.cons h2 h3))⟩
       obtain⟨v,hv,a4⟩:=p;refine⟨v,SM J (Qu x.cells),hv,λi=>?_,λi b hb=>?_,λi i' b hb a5=>?_, ?_⟩
       . unfold SM;split
         . exact e.nd _
         simp
       . obtain⟨k,_,q⟩:=Nz hb;exact⟨k,q⟩
       . obtain⟨k,hk,q⟩:=Nz hb;obtain⟨y,a6,a7⟩:=Nz a5;have:=e.dj k y b q a7;subst this;obtain⟨l1,e1⟩:=zE.1 hk;obtain⟨l2,e2⟩:=zE.1 a6;rcases xH i i' with hlt | he | hlt
         . exact absurd (e1.trans e2.symm) (yB.1 g i i' l1 l2 hlt)
         . exact he
         exact absurd (e2.trans e1.symm) (yB.1 g i' i l2 l1 hlt)
       refine AR.map _ a4 λu c j d=>?_
       have w:=Hw a2 c j;cases c with
       | int | bool | str | raw=>exact d
       | slc t n l=>
         cases t with
         | emp=>exact d
         | sh=>exact VV.keep (λb hb=>⟨hb,rfl⟩) d
         | vw k=>cases w
         | put=>exact d.elim
         | own b k=>
           cases b with
           | false=>
             show OwnTop J.F (SM J (Qu x.cells) (Qms k (Qu x.cells))) w' u _ _;unfold SM;rw[QV (Nw j rfl)];exact d
           | true=>
             show OwnDeep (SM J (Qu x.cells) (Qms k (Qu x.cells))) w' u _ _;unfold SM;rw[QV (Nw j rfl)];exact d
       | _=>cases w
   cases h
 cases h
theorem FX{tt:H (Y×TI)}(a5:Nq P tt=uA){f:Y}{fn:Func}{c:uJ}(hf:P.funcs[f]? =E fn)(hb:fn.body=E c)(a6:Fr P f){cs cs':H C}{args:H AV}{r:AV}(hn:args.length+1<=fn.ntmps)(hN:fn.ntmps<=bxK)(hr:Ai CE r.cells=uA)(a7:Ai CE (Ze args)=uA)
 (h:∀w0 F0,GoodAt P w0->AWP P fn.ntmps w0 F0 c (Qqv tt fn.results.toList r cs') (Qqt cs args)):AGive P f cs args r cs':=by
 refine⟨a6,λw F L b l hG n a2 p=>calls_of_wp hf hb ?_⟩;have af:=p.length;obtain⟨a8,e,q,y⟩:=a2;have ah:=Xb q;refine wp_mono (h ⟨w,λx=>x=b\/∃j,x∈L j,E b⟩ F hG (Qj6 F L b) _ w ?_) ?_
 . refine { below:=Base.Keeps.refl _,nodef:=rfl,size:= ?_,fl:=λx a=>⟨n.fl x a,.inl a⟩,f0:=λx a=>a,nd:=n.nd,lo:=λk x a=>⟨.inr (.inr ⟨k,a⟩),n.lt k x a⟩,dj:=n.dj,
            bo:=λk c o=>?_,nb:= .inr hN,cb:=λx a=>(zD a),bi:=λk k' c c' o s _=>?_,tm:=λt v' hv=>?_}
   . simp;omega
   . have o:get [(bxK,cs)] k=E c:=o;simp only[get] at o;split at o
     . obtain rfl:=zD o;exact⟨.inr (.inl rfl),n.bF,n.bL,a8,e,q,y⟩
     cases o
   . have o:get [(bxK,cs)] k=E c:=o;have s:get [(bxK,cs)] k'=E c':=s;simp only[get] at o s;split at o
     . split at s
       . rename_i e1 e2;exact e1.symm.trans e2
       cases s
     cases o
   obtain⟨_,ht⟩:=P4 hv;have a3:All2 (AR (Qj6 F L b) w) (.pointer (E ⟨b,0,uC⟩)::l) (.one (.ptr bxK 0)::args):= .cons rfl ?_
   . obtain ⟨u,hu,hr⟩:=a3.get' ht;have a9:t<(Value.pointer (E ⟨b,0,uC⟩)::l).length:=(zE.1 hu).1
     have:((Value.pointer (E ⟨b,0,uC⟩)::l).toArray++xM (fn.ntmps-(Value.pointer (E ⟨b,0,uC⟩)::l).toArray.size) undef).getD t undef=u:=by
      rw[zN,yL (by simpa using a9)];simp at hu⊢;rw[hu];rfl
     rw[this];exact hr
   exact SE p a7
 rintro e' a' w' ⟨J',s',i,he,frz,hg,V,aa,a1,rfl⟩
 simp only[zH] at a1;obtain⟨d,i⟩:=B4 frz rfl _ _ _ _ _ _ i;obtain⟨v,_,h1,_,_,_,h5⟩:=MX (P:=P) a5 (fn:=fn) i hg;have hB:d.B bxK=b:=i.cb b rfl;obtain⟨_,b2,b3,a4,e2,b4,b5⟩:=i.bo bxK V aa;rw[hB] at b2 b3 b4
 have m:∀k x,x∈KI d 40 V k->x<w'.heap.size/\(w.heap.size<=x\/∃j,x∈L j)/\x≠b/\¬d.F x:=λk x a=>by
  obtain⟨k0,_,hm⟩:=VT a;obtain⟨g1,g2,g3⟩:=i.lo k0 x hm;have z:x≠b:=λe=>b3 k0 (e▸hm)
  exact⟨g2,g1.imp id λg=>g.resolve_left z,z,g3⟩
 have ab:∀x,d.F x->(Qfi F L w w' (KI d 40 V)).F x:=λx a=>by
  obtain⟨g1,g2⟩:=i.fl x a;rcases g2 with g2 | g2 | g2
  . exact .inl g2
  . exact .inr ⟨.inl g2,g1,λk hm=>(m k x hm).2.2.2 a⟩
  have z:x≠b:=λe=>b2 (e▸a)
  exact .inr ⟨.inr (g2.resolve_left z),g1,λk hm=>(m k x hm).2.2.2 a⟩
 have hT:Qsl F L b w r (SD 40 V) (.returned v) w':=by
  refine⟨v,KI d 40 V,rfl,i.below.os,i.below.tape,i.below.output,i.below.size,λk hk ad ae=>i.below.block k hk λa=>a.elim ad λ⟨j,hj⟩=>ae j hj,SF i V 40,λk x a=>⟨(m k x a).1,(m k x a).2.1⟩,λk k' x h1 h2=>SG i (Bh.1 a1.2) h1 h2,Qfo h5 hr,a4,e2,b4, ?_⟩;have:=FN (b:=0) (F:=(Qfi F L w w' (KI d 40 V)).F) ab (L:=KI d 40 V) b5 a1.1 λ_ _=>rfl
  exact this
 rcases he with rfl | rfl
 . exact⟨i.nodef,v,h1,hT⟩
 exact⟨i.nodef,v,h1,hT⟩
theorem Qon{J J':Inj}{w:uD}{v:uG}{x:AV}(h:AR J w v x)(b:Ai Qqg x.cells=uA)(e:J'.L=J.L):AR J' w v x:=by
 have :=AR.map (J':=J') (w':=w) id h λu c f a=>by
  have hb:=Hw b c f;cases c with
  | int | bool | str=>exact a
  | slc t n l=>
    cases t with
    | own d k=>
      cases d with
      | true=>show OwnDeep (J'.L k) w u n l;rw[e];exact a
      | false=>cases hb
    | _=>cases hb
  | _=>cases hb
 rwa [show x.map id=x by cases x<;>simp[AV.map]] at this
theorem Qgu{tt:H (Y×TI)}(n:Nq P tt=uA){f:Y}{fn:Func}{c:uJ}(hf:P.funcs[f]? =E fn)(o:fn.body=E c)(p:Fr P f){args:H AV}{r:AV}(hn:args.length<=fn.ntmps)(q:Ai Qqg r.cells=uA)
 (h:∀w0 F0,GoodAt P w0->AWP P fn.ntmps w0 F0 c (Qe5 tt fn.results.toList r) (ZQ args)):AVal P f args r:=by
 refine⟨p,λw F L a hG m d=>calls_of_wp hf o ?_⟩;have a1:=d.length;refine wp_mono (h ⟨w,λx=>∃j,x∈L j,uC⟩ F hG (Qr9 F L) _ w ?_) ?_
 . refine { below:=Base.Keeps.refl _,nodef:=rfl,size:= ?_,fl:=λx g=>⟨m.fl x g,.inl g⟩,f0:=λx g=>g,nd:=m.nd,lo:=λk x g=>⟨.inr ⟨k,g⟩,m.lt k x g⟩,dj:=m.dj,
            bo:=λk c s=>by simp[ZQ,get] at s,nb:= .inl rfl,cb:=(λb o=>by cases o),bi:=λk k' c c' s=>by simp[ZQ,get] at s,tm:=λt v' hv=>?_}
   . simp;omega
   obtain⟨_,ht⟩:=P4 hv;obtain⟨u,y,q⟩:=d.get' ht;have z:t<a.length:=(zE.1 y).1
   have:(a.toArray++xM (fn.ntmps-a.toArray.size) undef).getD t undef=u:=by
    rw[zN,yL (by simpa using z)];simp at y⊢;rw[y];rfl
   rw[this];exact q
 rintro e' a' w' ⟨J',s',e,V⟩
 have key:(∃frz,Ml tt fn.results.toList (s'.map (Wt (X7 frz) uC))=E r)->∃v,(results fn a'.tmps).run P w'= .ok v w'/\Qsm L w r (.returned v) w':=by
  rintro⟨frz,hg⟩
  obtain⟨a2,e⟩:=B4 frz rfl _ _ _ _ _ _ e;obtain⟨v,L',i,l,h3,h4,h5⟩:=MX (P:=P) n (fn:=fn) e hg;refine⟨v,i,v,L',rfl,e.below.os,e.below.tape,e.below.output,e.below.size,λk hk hn=>e.below.block k hk λ⟨j,hj⟩=>hn j hj,l,λk x g=>?_,h4,Qon h5 q rfl⟩;obtain⟨k0,hm⟩:=h3 k x g;obtain⟨g1,g2,_⟩:=e.lo k0 x hm;exact⟨g2,g1⟩
 cases e' with
 | normal=>obtain⟨v,i,l⟩:=key V;exact⟨e.nodef,v,i,l⟩
 | ret=>obtain⟨v,i,l⟩:=key V;exact⟨e.nodef,v,i,l⟩
 | _=>exact V.elim
end
theorem gb{P:uK}{f:Y}{cs:H C}{args:H AV}{a b:uE}{cs2:H C}(h:a=b)(c:AGive P f cs args (.one (.bool a)) cs2):AGive P f cs args (.one (.bool b)) cs2:=h▸c
end
section
open Go.RowKit
open GoD (rd own)
structure Chg (L:H Y) (w w':uD):Prop where
 os:w'.os=w.os
 tape:w'.tape=w.tape
 output:w'.output=w.output
 size:w.heap.size<=w'.heap.size
 block:∀b,b<w.heap.size->b∉L->w'.heap[b]? =w.heap[b]?
theorem Chg.refl(L:H Y)(w:uD):Chg L w w:=⟨rfl,rfl,rfl,Nat.le_refl _,λ_ _ _=>rfl⟩
theorem Chg.trans{L:H Y}{a b c:uD}(h:Chg L a b)(k:Chg L b c):Chg L a c:=
 ⟨k.os.trans h.os,k.tape.trans h.tape,k.output.trans h.output,yC h.size k.size,λi hi d=>(k.block i (yS hi h.size) d).trans (h.block i hi d)⟩
theorem Chg.mono{L M:H Y}{w w':uD}(h:Chg L w w')(a:∀b,b∈L->b∈M):Chg M w w':=
 ⟨h.os,h.tape,h.output,h.size,λb hb c=>h.block b hb (λd=>c (a b d))⟩
theorem Chg.of_below{L:H Y}{w w':uD}(h:Below w.heap.size w w'):Chg L w w':=⟨h.os,h.tape,h.output,h.size,λb hb _=>h.block b hb⟩
theorem Chg.below{L:H Y}{B:Y}{w w':uD}(h:Chg L w w')(d:B<=w.heap.size)(a:∀b,b∈L->B<=b):Below B w w':=
 ⟨h.os,h.tape,h.output,h.size,λk e=>h.block k (by omega) (λc=>by have:=a k c;omega)⟩
theorem Chg.cell{L:H Y}{w w':uD}(h:Chg L w w'){b:Y}(a:b<w.heap.size)(c:b∉L)(o:Y):w'.cell? ⟨b,o,uC⟩=w.cell? ⟨b,o,uC⟩:=
 World.cell?_of_block (h.block b a c)
theorem Chg.frozen{L:H Y}{w w':uD}(h:Chg L w w'){b:Y}(a:b<w.heap.size)(c:b∉L)(o:Y):w'.frozen? ⟨b,o,uC⟩=w.frozen? ⟨b,o,uC⟩:=
 World.frozen?_of_block (h.block b a c)
section
variable {α β:Type} [GoD α] [GoD β]
theorem K7{L M:H Y}{w w':uD}{cs:H uG}{a:α}(h:own L w cs a)(c:Chg M w w')(hd:∀b,b∈L->b∉M):own L w' cs a:=
 GoD.own_same h λb hb=>c.block b (GoD.own_lt h b hb) (hd b hb)
def Pt(L:H Y)(w:uD)(cs:H uG)(r:α×Y)(e:Ending)(w':uD):Prop:=e= .returned (.int .i64 r.2)/\own L w' cs r.1/\Chg L w w'
theorem V5{P:uK}{f:FuncId}{args:uO uG}{W:uD}{L:H Y}{cs:H uG}{r:α×Y}{R:Ending->uD->Prop}(a:Calls P f args W (Pt L W cs r))
 (k:∀w',own L w' cs r.1->Chg L W w'->W.heap.size<=w'.heap.size->R (.returned (.int .i64 r.2)) w'):Calls P f args W R:=
 a.mono λe w' ⟨b,ho,hch⟩=>by subst b;exact k w' ho hch hch.size
structure Upd (g lo m:Y) (Li:H Y) (w w':uD):Prop where
 chg:Chg (g::Li) w w'
 row:∀cur e,w.heap[g]? =E (.cells cur e (0,0))->∃cur',w'.heap[g]? =E (.cells cur' e (0,0))/\cur'.size=cur.size/\∀j,(j<lo\/lo+m<=j)->cur'[j]? =cur[j]?
theorem Upd.refl(g lo m:Y)(a:H Y)(w:uD):Upd g lo m a w w:=⟨Chg.refl _ _,λcur _ h=>⟨cur,h,rfl,λ_ _=>rfl⟩⟩
theorem Upd.setCell{g lo m:Y}{a:H Y}{w w':uD}(h:Upd g lo m a w w')(o:Y)(p:lo<=o/\o<lo+m)(v:uG):Upd g lo m a w (w'.setCell ⟨g,o,uC⟩ v):=by
 refine⟨h.chg.trans ⟨rfl,rfl,rfl,by simp,λb _ d=>I8 w' g o v (λe=>d (by simp[e]))⟩,λcur e f=>?_⟩;obtain⟨c,i,k,l⟩:=h.row cur e f;refine⟨_,Pw w' g o v i,by simpa using k,λj n=>?_⟩;rw[Array.getElem?_setIfInBounds,uI (by omega)];exact l j n
theorem Upd.mark{g lo m:Y}{d M:H Y}{w w' w'':uD}(h:Upd g lo m d w w')(i:Chg M w' w'')(j:∀b,b∈M->b∈d)(k:g∉M)(f:g<w'.heap.size):Upd g lo m d w w'':=by
 refine⟨h.chg.trans (i.mono λb hb=>zR _ (j b hb)),λcur e a=>?_⟩;obtain⟨c,l,n,o⟩:=h.row cur e a;exact⟨c,(i.block g f k).trans l,n,o⟩
theorem Upd.below{g lo m:Y}{b:H Y}{w w' w'':uD}(h:Upd g lo m b w w')(c:Below w'.heap.size w' w'')(a:g<w'.heap.size):Upd g lo m b w w'':=
 h.mark (M:= []) (Chg.of_below c) (by simp) (by simp) a
theorem FY{a b:H uG}{o n:Y}(h:∀j,j<n->a[o+j]? =b[o+j]?):(a.drop o).take n=(b.drop o).take n:=by
 apply List.ext_getElem?;intro j;by_cases c:j<n
 . rw[Hv c,Hv c,h j c]
 rw[yJ,uI c,yJ,uI c]
theorem Gf{L:H Y}{w:uD}{v:uG}{xs ys:H α}{a:α}(h:own L w [v] (xs++a::ys)):
 ∃ g cap cur e Li,v= .slice (E ⟨g,0,uC⟩) (xs++a::ys).length cap/\w.heap[g]? =E (.cells cur e (0,0))/\xs.length*GoD.n α+GoD.n α<=cur.size/\g∉Li/\g∈L/\(∀b,b∈Li->b∈L)/\
   own Li w ((cur.toList.drop (xs.length*GoD.n α)).take (GoD.n α)) a/\
   ∀w' ce' a',Upd g (xs.length*GoD.n α) (GoD.n α) Li w w'->own Li w' ce' a'->(∀j u,ce'[j]? =E u->w'.cell? ⟨g,xs.length*GoD.n α+j,uC⟩=E u)->own L w' [v] (xs++a'::ys):=by
 obtain⟨l,h | ⟨g,cap,cur,e,m,hv,hg,hl,hm,hs,rfl,n,r⟩⟩:=h
 . simp at h
 have f:xs.length<m.length:=by rw[n];simp
 have a5:xs.length<cap:=by rw[n] at f;omega
 have ha:(xs++a::ys)[xs.length]? =E a:=by simp
 have o:xs.length*GoD.n α+GoD.n α<=cur.size:=by
  have:=zU (GoD.n α) (show xs.length+1<=cap by omega);rw[zS,yD] at this;omega
 have s:g∉m.flatten:=(yZ.1 l).1;have hi:=zJ f;have ho:=r _ _ _ hi ha;refine⟨g,cap,cur,e,m[xs.length],by simpa using hv,hg,o,λhm'=>s (Ua hi hm'),by simp,λb hb=>zR _ (Ua hi hb),ho,λw' ce' a' hu t a3=>?_⟩;obtain⟨k,h1,h2,h3⟩:=hu.row cur e hg;have a6:ce'.length=GoD.n α:=GoD.rd_len (GoD.own_rd t);refine⟨l,.inr ⟨g,cap,k,e,m, ?_,h1,by simpa using hl,hm,h2.trans hs,rfl,by rw[n];simp,λi Li x c hx=>?_⟩⟩
 . simpa using hv
 by_cases p:i=xs.length
 . subst p;rw[hi] at c;obtain rfl:m[xs.length]=Li:=by simpa using c
   obtain rfl:a'=x:=by simpa using hx
   have:(k.toList.drop (xs.length*GoD.n α)).take (GoD.n α)=ce':=by
    apply List.ext_getElem?;intro j;by_cases y:j<GoD.n α
    . rw[Hv y,yH];have:=a3 j _ (zJ (by omega));rw[zJ (by omega),←this];simp[World.cell?,h1]
    rw[yJ,uI y,xP (by omega)]
   rw[this];exact t
 have a4:(xs++a::ys)[i]? =E x:=by
  rw[←hx];by_cases d:i<xs.length
  . rw[zV d,zV d]
  rw[zT (by omega),zT (by omega)];obtain⟨j,y⟩:∃j,i-xs.length=j+1:=⟨i-xs.length-1,by omega⟩;rw[y];simp
 have z:=r i Li x c a4
 rw [FY (b:=cur.toList) (λj y=>by
  rw[yH,yH];refine h3 _ ?_;rcases Nat.lt_or_gt_of_ne p with d | hgt
  . left
    have:=zU (GoD.n α) (show i+1<=xs.length by omega);rw[zS,yD] at this;omega
  right
  have:=zU (GoD.n α) (show xs.length+1<=i by omega);rw[zS,yD] at this;omega)]
 refine GoD.own_same z λb hb=>hu.chg.block b (GoD.own_lt z b hb) (λhm'=>?_)
 rcases zM.1 hm' with rfl | hm'
 . exact s (Ua c hb)
 have V:=(yZ.1 l).2;rw[List.nodup_iff_pairwise_ne,List.pairwise_flatten] at V;have q:=V.2;rw[yB] at q;have a1:i<m.length:=(zE.1 c).1;have a2:m[i]=Li:=(zE.1 c).2;rcases Nat.lt_or_gt_of_ne p with d | hgt
 . exact q i xs.length a1 f d b (by rw[a2];exact hb) b hm' rfl
 exact q xs.length i f a1 hgt b hm' b (by rw[a2];exact hb) rfl
theorem Bi{L:H Y}{w:uD}{a:uH Addr}{l:H α}{n cap:Y}(h:own L w [.slice a n cap] l):l.length<=9223372036854775807:=by
 obtain⟨_,cap,_,c,b,_⟩:=GoD.own_rd h;unfold uU at b;omega
theorem Qdr{l:H α}(h:∀a:α,GoD.size a=0):GoD.size l=l.length:=by rw[An,Qa0 l h];rfl
theorem Jq{w:uD}{g o n:Y}{cur:uO uG}{e:uL}{c:Y×Y}{ce:H uG}(h:w.heap[g]? =E (.cells cur e c))(b:(cur.toList.drop o).take n=ce)(j:Y)(u:uG)(a:ce[j]? =E u):
 w.cell? ⟨g,o+j,uC⟩=E u:=by
 rw[←b] at a;rw[yJ] at a;split at a
 . rw[List.getElem?_drop] at a;simpa [World.cell?,h] using a
 cases a
theorem Qgv(k:Y)(z:G)(h:z=(k:G)):(z % 3==0)=(k % 3==0):=by
 subst h;rw[Bool.eq_iff_iff];simp;omega
theorem Gv(k:Y)(h:k<=4611686018427387904):I64 (k:G):=by unfold I64;omega
theorem N5(l:H α):∀k,(Ql l k).1.length=l.length:=by
 induction l with
 | nil=>intro k;rfl
 | cons x l a=>intro k;simp[Ql,a]
theorem Ki(l:H α)(k:Y):∀(i:Y) (a:α),l[i]? =E a->Ql (l.take (i+1)) k=((Ql (l.take i) k).1++ [(GoD.mark a (Ql (l.take i) k).2).1],(GoD.mark a (Ql (l.take i) k).2).2):=by
 induction l generalizing k with
 | nil=>intro i a h;simp at h
 | cons x l b=>
   intro i a h;cases i with
   | zero=>simp at h;subst h;simp[Ql]
   | succ i=>
     simp at h;simp only[List.take_succ_cons,Ql];rw[b _ i a h];simp
theorem Dg(l:H α)(k i:Y)(a:α)(h:l[i]? =E a):(Ql l k).1[i]? =E (GoD.mark a (Ql (l.take i) k).2).1:=by
 have d:=Ki l k i a h;have b:=Pv (l.take (i+1)) (l.drop (i+1)) k;have hi:=(zE.1 h).1;have c:(Ql (l.take i) k).1.length=i:=by rw[N5,List.length_take];omega
 rw[yW,d] at b;rw[b];rw[zV (by simp[c]),zT (by omega),c];simp
theorem Jo(l:H α)(k:Y)(i:Y)(a:α)(h:l[i]? =E a):(GoD.mark a (Ql (l.take i) k).2).2<=(Ql l k).2:=by
 have c:=Ki l k i a h;have b:=Pv (l.take (i+1)) (l.drop (i+1)) k;rw[yW,c] at b;rw[b];exact Yt _ _
theorem Kh(l:H α):∀k,(Ql l k).1.length=l.length:=by
 induction l with
 | nil=>intro k;rfl
 | cons x l a=>intro k;simp[Ql,a]
end
section
variable {α:Type} [GoD α]
theorem bdT{a:α}{k:Y}(b:GoD.lvm α<=64)(c:GoD.size a<=1073741824):(GoD.markT a k).2<=k+68719476736:=by
 have d:=GoD.mkT_bd a k;have e:=Nat.mul_le_mul b c;omega
end
end
section
open Go.RowKit
open GoD (rd own)
abbrev Va:=G×G×uF
abbrev Y4:=uF×G
abbrev Wv:=uF×Va
abbrev Yn:=G×G×uE×G×(H Wv)
abbrev Yl:=(H Y4)×(H Yn)×G
abbrev Q9:=G×G×G×uF×Va
abbrev Zo:=uF×(H Q9)
abbrev Qo:=uF×(H G)
abbrev Qds:=uF×(H G)×(H G)
abbrev Wq:=Yl×(H Zo)×(H Qo)
abbrev Qw:=Yl×(H Zo)
abbrev N6:=uF×uF
abbrev Ya:=G×Qw×G
abbrev Kn:=G×(H G)×(H G)
abbrev Zz:=G×uF×(H G)×(H Kn)
abbrev Jy:=Wq×N6×G×(H Ya)×(H Zz)×(H G)
theorem Bn{α:Type}{l:H α}(h:l.length=1):∃a,l= [a]:=by
 match l,h with
 | [a],_=>exact⟨a,rfl⟩
theorem CB{α:Type}{l:H α}(h:l.length=2):∃a b,l= [a,b]:=by
 match l,h with
 | [a,b],_=>exact⟨a,b,rfl⟩
theorem Qoo{α:Type}{l:H α}(h:l.length=3):∃a b c,l= [a,b,c]:=by
 match l,h with
 | [a,b,c],_=>exact⟨a,b,c,rfl⟩
theorem Qsu{α:Type}{l:H α}(h:l.length=4):∃a b c d,l= [a,b,c,d]:=by
 match l,h with
 | [a,b,c,d],_=>exact⟨a,b,c,d,rfl⟩
theorem Qsa{α:Type}{l:H α}(h:l.length=5):∃a b c d e,l= [a,b,c,d,e]:=by
 match l,h with
 | [a,b,c,d,e],_=>exact⟨a,b,c,d,e,rfl⟩
theorem Qtl{α:Type}{l:H α}(h:l.length=6):∃a b c d e f,l= [a,b,c,d,e,f]:=by
 match l,h with
 | [a,b,c,d,e,f],_=>exact⟨a,b,c,d,e,f,rfl⟩
theorem Qtm{α:Type}{l:H α}(h:l.length=7):∃a b c d e f g,l= [a,b,c,d,e,f,g]:=by
 match l,h with
 | [a,b,c,d,e,f,g],_=>exact⟨a,b,c,d,e,f,g,rfl⟩
theorem MY{w:uD}{cs:H uG}{a:Jy}(h:rd w cs a):∃(b:uH Addr) (c:Y) (d:uH Addr) (e:Y) (f:uH Addr) (g:Y) (i:uH Addr) (j:Y) (k:uH Addr) (l:Y) (m:uH Addr) (n:Y) (o:uH Addr) (p:Y),cs= [.slice b a.1.1.1.length c,.slice d a.1.1.2.1.length e,.int .i64 a.1.1.2.2,.slice f a.1.2.1.length g,.slice i a.1.2.2.length j,.string a.2.1.1,.string a.2.1.2,.int .i64 a.2.2.1,.slice k a.2.2.2.1.length l,.slice m a.2.2.2.2.1.length n,.slice o a.2.2.2.2.2.length p]:=by
 obtain⟨_,_,rfl,⟨_,_,rfl,⟨_,_,rfl,⟨b,c,rfl,_⟩,⟨_,_,rfl,⟨d,e,rfl,_⟩,⟨rfl,_⟩⟩⟩,⟨_,_,rfl,⟨f,g,rfl,_⟩,⟨i,j,rfl,_⟩⟩⟩,⟨_,_,rfl,⟨_,_,rfl,⟨rfl,_⟩,⟨rfl,_⟩⟩,⟨_,_,rfl,⟨rfl,_⟩,⟨_,_,rfl,⟨k,l,rfl,_⟩,⟨_,_,rfl,⟨m,n,rfl,_⟩,⟨o,p,rfl,_⟩⟩⟩⟩⟩⟩:=h;exact⟨b,c,d,e,f,g,i,j,k,l,m,n,o,p,rfl⟩
def eqb{α:Type}[GoD α](a b:α):uE:= @decide (a=b) (GoD.deq a b)
theorem Qop(a b:uF):(a.toList==b.toList)=eqb a b:=by
 unfold eqb;rw[ByteArray.toList_eq,ByteArray.toList_eq,Bool.eq_iff_iff];simp only[beq_iff_eq,decide_eq_true_eq];constructor
 . intro h;cases a;cases b;simp_all [Array.toList_inj]
 intro h;rw[h]
end
section
open Go.RowKit
open GoD (rd own)
theorem Qoq{P:uK}(w:uD)(base:Y)(t ty e:uL)(i:TypeInfo)(z:uG)(ht:P.underlying t=E (.slice e))(hi:P.info? e=E i)(hz:i.zero=E z)
 (a1:z.cells.size=i.size) (a3:0<i.size) (hb:i.bytes<=1000) {v:uG} {n:Y} {xs:H uG} (b:w.ownsRow base e i.size v n xs)
 (a:Addr) (m c:Y) (d:H uG) (q:d.length=m*i.size) (f:∀j u,d[j]? =E u->w.cell? (a.add j)=E u) (h1:∀u∈d,u.oneCell'=uA)
 (a5:n+m<=1073741824) (o:base<=w.heap.size):
 ∃ V w',(Builtin.append_ #[t,t] ty #[v,.slice (E a) m c]).run P w= .ok V w'/\w'.ownsRow base e i.size V (n+m) (xs++d)/\w.grownBy w' v.ownBlock/\
   (∀g,V.ownBlock=E g->v.ownBlock=E g\/w.heap.size<=g)/\(∀x k c,v= .slice (E x) k c->c<n+m->(∀g,V.ownBlock=E g->w.heap.size<=g)/\w.grownBy w' uC):=by
 have l:((n+m)+(n+m) / 4+192)*i.bytes<=281474976710656:=yC (Nat.mul_le_mul (show _<=1342177472 by omega) hb) (by decide);have r:n+m<=uU:=by unfold uU;omega
 rcases b.2 with⟨rfl,rfl⟩ | ⟨g,cap,cur,rfl,a6,hg,a7,a8,a9,a4⟩
 . have h0:w.ownsRow w.heap.size e i.size (.slice uC 0 0) 0 xs:=⟨b.1,.inl ⟨rfl,rfl⟩⟩;obtain⟨V,w',hr,hw,s,_⟩:=run_append_own_wide w w.heap.size t ty e i z i.size i.bytes ht hi hz rfl rfl a1 a3 _ 0 xs h0 a m c d q f h1 r l (zY _);refine⟨V,w',hr,⟨hw.1, ?_⟩,s,λg hg=> .inr (World.ownsRow.lt hw g hg).1,λx k c h=>(by cases h)⟩;rcases hw.2 with h | ⟨g,cap,cur,h1,h2,h3⟩
   . exact .inl h
   exact .inr ⟨g,cap,cur,h1,yC o h2,h3⟩
 by_cases y:n+m<=cap
 . obtain⟨w',hr,hw,s⟩:=run_append_own_spare w base t ty e i i.size ht hi rfl g n cap xs b a m c d q f h1 y;exact⟨_,w',hr,hw,s,λk p=> .inl p,λx k c h aa=>(by cases h;omega)⟩
 have a2:cap<n+m:=by omega
 have hr:=run_append_grow (P:=P) w t ty e i z ht hi hz ⟨g,0,uC⟩ n cap xs b.1 (b.cells (g:=g) rfl) a m c d q f a2 (by unfold uU at r;omega) (growslice_fits_wide a2 l)
 refine⟨_,_,hr,⟨by rw[yR,b.1,q,zS],.inr ⟨w.heap.size,_,_,rfl,o,heap_alloc_new w.drew _,grownCap_ge w (n+m) cap e,grownCap_le_maxLen w (n+m) cap e r, ?_, ?_⟩⟩,
  ⟨rfl,rfl,rfl,by simp,λk p _=>heap_alloc_old w.drew _ p⟩,λk p=> .inr ?_,λx k c _ _=>⟨λg' p=>?_,rfl,rfl,rfl,by simp,λk p _=>heap_alloc_old w.drew _ p⟩⟩
 . have ab:=grownCap_ge w (n+m) cap e;simp only[Array.size_append,List.size_toArray,size_zeroCells,a1,b.1,q,←zS]
   congr 1
   omega
 . simp only[Array.toList_append,List.append_assoc];rw[←List.append_assoc,yY (by simp[b.1,q,zS]),List.take_of_length_le (by simp[b.1,q,zS])]
 . simp only[Value.ownBlock,yT] at p;omega
 simp only[Value.ownBlock,yT] at p;omega
section
variable {α:Type} [GoD α]
def App(e:uL)(d w:uD)(L:H Y)(v:uG)(l:H α):Prop:=
 ∃(xs:H uG) (c:H (H Y)),w.ownsRow d.heap.size e (GoD.n α) v l.length xs/\L=v.ownBlock.toList++c.flatten/\L.Nodup/\(∀b,b∈L->d.heap.size<=b/\b<w.heap.size)/\c.length=l.length/\
   ∀i f a,c[i]? =E f->l[i]? =E a->own f w ((xs.drop (i*GoD.n α)).take (GoD.n α)) a
def AppR(e:uL)(b w:uD)(v:uG)(l:H α):Prop:=
 ∃(xs:H uG),w.ownsRow b.heap.size e (GoD.n α) v l.length xs/\∀i a,l[i]? =E a->rd b ((xs.drop (i*GoD.n α)).take (GoD.n α)) a
theorem KK{w w':uD}{base:Y}{e:uL}{sz n:Y}{v:uG}{xs:H uG}(h:w.ownsRow base e sz v n xs)(a:∀b,v.ownBlock=E b->w'.heap[b]? =w.heap[b]?):w'.ownsRow base e sz v n xs:=by
 refine⟨h.1, ?_⟩;rcases h.2 with h | ⟨g,cap,cur,rfl,c,d,f⟩
 . exact .inl h
 exact .inr ⟨g,cap,cur,rfl,c,(a g rfl).trans d,f⟩
theorem App.keep{e:uL}{f w w':uD}{L:H Y}{v:uG}{l:H α}(h:App e f w L v l)(d:Below w.heap.size w w'):App e f w' L v l:=by
 obtain⟨xs,k,g,m,n,j,o,p⟩:=h;exact⟨xs,k,KK g (λb c=>d.block b (World.ownsRow.lt g b c).2),m,n,λb c=>⟨(j b c).1,yS (j b c).2 d.size⟩,o,λi q a x y=>Pu (p i q a x y) d⟩
theorem AppR.keep{e:uL}{a w w':uD}{v:uG}{l:H α}(h:AppR e a w v l)(d:Below w.heap.size w w'):AppR e a w' v l:=by
 obtain⟨xs,c,f⟩:=h;exact⟨xs,KK c (λb g=>d.block b (World.ownsRow.lt c b g).2),f⟩
theorem App.start{e:uL}{a w:uD}{v:uG}{c:Y}{cur:uO uG}{g:Y}(h:v= .slice (E ⟨g,0,uC⟩) 0 c)(d:w.heap[g]? =E (.cells cur e (0,0)))(i:cur.size=c*GoD.n α)(j:c<=uU)(f:a.heap.size<=g):App e a w [g] v ([]:H α):=by
 subst h;exact⟨[], [],⟨by simp,.inr ⟨g,c,cur,rfl,f,d,yN _,j,i,by simp⟩⟩,rfl,by simp,λb hb=>by rw[zX.1 hb];exact⟨f,Xb d⟩,rfl,by simp⟩
theorem AppR.start{e:uL}{a w:uD}{v:uG}{c:Y}{cur:uO uG}{g:Y}(b:v= .slice (E ⟨g,0,uC⟩) 0 c)(d:w.heap[g]? =E (.cells cur e (0,0)))(f:cur.size=c*GoD.n α)(h:c<=uU)(i:a.heap.size<=g):AppR e a w v ([]:H α):=by
 subst b;exact⟨[],⟨by simp,.inr ⟨g,c,cur,rfl,i,d,yN _,h,f,by simp⟩⟩,by simp⟩
theorem App.fresh{e:uL}{b a:uD}{g:Y}(c:g=a.heap.size)(d:b.heap.size<=g):App e b (a.alloc (.cells #[] e)) [g] (.slice (E ⟨g,0,uC⟩) 0 0) ([]:H α):=by
 subst c;exact App.start rfl (heap_alloc_new a _) (by simp) (by decide) d
theorem AppR.fresh{e:uL}{b a:uD}{g:Y}(c:g=a.heap.size)(d:b.heap.size<=g):AppR e b (a.alloc (.cells #[] e)) (.slice (E ⟨g,0,uC⟩) 0 0) ([]:H α):=by
 subst c;exact AppR.start rfl (heap_alloc_new a _) (by simp) (by decide) d
theorem App.alloc{e:uL}{a w:uD}{L:H Y}{v:uG}{l:H α}(h:App e a w L v l)(o:Obj):App e a (w.alloc o) L v l:=h.keep ((Below.refl _ _).alloc (Nat.le_refl _) _)
theorem App.drew{e:uL}{a w:uD}{L:H Y}{v:uG}{l:H α}(h:App e a w L v l):App e a w.drew L v l:=h.keep ((Below.refl _ _).drew)
theorem AppR.alloc{e:uL}{a w:uD}{v:uG}{l:H α}(h:AppR e a w v l)(o:Obj):AppR e a (w.alloc o) v l:=h.keep ((Below.refl _ _).alloc (Nat.le_refl _) _)
theorem AppR.drew{e:uL}{a w:uD}{v:uG}{l:H α}(h:AppR e a w v l):AppR e a w.drew v l:=h.keep ((Below.refl _ _).drew)
theorem App.nil{e:uL}(a w:uD):App e a w [] (.slice uC 0 0) ([]:H α):=⟨[], [],⟨by simp,.inl ⟨rfl,rfl⟩⟩,rfl,by simp,by simp,rfl,by simp⟩
theorem AppR.nil{e:uL}(a w:uD):AppR e a w (.slice uC 0 0) ([]:H α):=⟨[],⟨by simp,.inl ⟨rfl,rfl⟩⟩,by simp⟩
theorem App.done{e:uL}{k w:uD}{L:H Y}{v:uG}{l:H α}(h:App e k w L v l):own L w [v] l:=by
 obtain⟨xs,f,⟨t,m⟩,rfl,n,u,j,o⟩:=h;refine⟨n, ?_⟩;rcases m with⟨rfl,p⟩ | ⟨g,cap,cur,rfl,_,q,b,c,d,rfl⟩
 . have:l= []:=zO p;subst this;have:f= []:=zO j;subst this;exact .inl ⟨rfl,rfl,uC,rfl⟩
 refine .inr ⟨g,cap,cur,e,f,rfl,q,b,c,d,rfl,j,λi r a hi ha=>?_⟩;have h:=o i r a hi ha;have s:i<l.length:=(zE.1 ha).1
 rw[xR,xS,xN (by
  have:=zU (GoD.n α) (show i+1<=l.length by omega);rw[zS,yD] at this;omega)] at h
 exact h
theorem App.ge{e:uL}{a w:uD}{L:H Y}{v:uG}{l:H α}(h:App e a w L v l):∀b,b∈L->a.heap.size<=b:=by
 obtain⟨_,_,_,_,_,c,_⟩:=h;exact λb hb=>(c b hb).1
theorem App.lt{e:uL}{a w:uD}{L:H Y}{v:uG}{l:H α}(h:App e a w L v l):∀b,b∈L->b<w.heap.size:=by
 obtain⟨_,_,_,_,_,c,_⟩:=h;exact λb hb=>(c b hb).2
theorem AppR.done{e:uL}{c w:uD}{v:uG}{l:H α}(h:AppR e c w v l)(n:Below c.heap.size c w):rd w [v] l:=by
 obtain⟨xs,⟨s,o⟩,m⟩:=h;rcases o with⟨rfl,p⟩ | ⟨g,cap,cur,rfl,_,q,d,f,r,rfl⟩
 . have:l= []:=zO p;subst this;exact⟨uC,0,rfl,zY _,yN _,by simp⟩
 refine⟨E ⟨g,0,uC⟩,cap,rfl,d,f,λi a ha=>⟨g,0,_,rfl,GoD.rd_len (m i a ha),λj u b=>?_,Yv (m i a ha) n⟩⟩;have k:=(zE.1 b).1;simp only[List.length_take] at k;rw[Hv (by omega),yJ] at b;split at b
 . rw[xY];rw[yH] at b;simp[World.cell?,q,b]
 cases b
theorem AppR.slice{e:uL}{a w:uD}{v:uG}{l:H α}(h:AppR e a w v l):∃oa cap,v= .slice oa l.length cap:=by
 obtain⟨xs,⟨_,b⟩,_⟩:=h;rcases b with⟨rfl,c⟩ | ⟨g,cap,cur,rfl,_⟩
 . exact⟨uC,0,by rw[c]⟩
 exact⟨_,_,rfl⟩
theorem App.slice{e:uL}{a w:uD}{L:H Y}{v:uG}{l:H α}(h:App e a w L v l):∃oa cap,v= .slice oa l.length cap:=Je h.done
end
end
section
open Go.RowKit
open GoD (rd own)
theorem SQ{P:uK}(w:uD)(t ty e:uL)(i:TypeInfo)(a:P.underlying t=E (.slice e))(hi:P.info? e=E i)(g n cap:Y)(b:n<=cap):
 (Builtin.append_ #[t,t] ty #[.slice (E ⟨g,0,uC⟩) n cap,.slice uC 0 0]).run P w= .ok (.slice (E ⟨g,0,uC⟩) n cap) w:=by
 simp[Builtin.append_,run_underlying a,sizeOf,typeInfo,hi,Builtin.lenOf,Builtin.firstCells,loadCells,loadCellsFrom,b,storeCells]
section
variable {α:Type} [GoD α]
def Plain(α:Type)[GoD α]:Prop:=0<GoD.n α/\∀(w w':uD) (cs:H uG) (a:α),rd w cs a->own [] w' cs a/\∀u∈cs,u.oneCell'=uA
theorem Ez:Plain G:=⟨yK,λw w' cs a h=>⟨⟨rfl,h.1,h.2⟩,by rw[h.1];simp[Value.oneCell']⟩⟩
theorem Nb:Plain uF:=⟨yK,λw w' cs a h=>⟨⟨rfl,h.1,h.2⟩,by rw[h.1];simp[Value.oneCell']⟩⟩
theorem Bj{β:Type}[GoD β](b:Plain α)(c:Plain β):Plain (α×β):=by
 refine⟨yS b.1 (yX _ _),λw w' cs a h=>?_⟩;obtain⟨g,i,rfl,k1,d⟩:=h;obtain⟨o1,e⟩:=b.2 w w' _ _ k1;obtain⟨o2,f⟩:=c.2 w w' _ _ d;refine⟨Jp o1 o2 (by simp),λu hu=>?_⟩;rcases yA.1 hu with hu | hu
 . exact e u hu
 exact f u hu
theorem Qkw{w:uD}{p:uH Addr}{cap:Y}{l:H α}(V:0<GoD.n α)(h:rd w [.slice p l.length cap] l):l= []\/∃(b off:Y) (c:H uG),p=E ⟨b,off,uC⟩/\c.length=l.length*GoD.n α/\(∀j u,c[j]? =E u->w.cell? ⟨b,off+j,uC⟩=E u)/\
 ∀i a,l[i]? =E a->rd w ((c.drop (i*GoD.n α)).take (GoD.n α)) a:=by
 obtain⟨q,cap',e,hl,hm,f⟩:=h;obtain⟨rfl,rfl⟩:p=q/\cap=cap':=by simpa using e
 cases d:l with
 | nil=>exact .inl rfl
 | cons v l0=>
   right
   obtain⟨b,off,_,rfl,_⟩:=f 0 v (by simp[d]);rw[←d]
   have key:∀k,k<=l.length->∃c:H uG,c.length=k*GoD.n α/\(∀j u,c[j]? =E u->w.cell? ⟨b,off+j,uC⟩=E u)/\∀i a,i<k->l[i]? =E a->rd w ((c.drop (i*GoD.n α)).take (GoD.n α)) a:=by
    intro k
    induction k with
    | zero=>intro _;exact⟨[],by simp,by simp,λi a hi=>absurd hi (Nat.not_lt_zero _)⟩
    | succ k x=>
      intro hk;obtain⟨c,g,r,s⟩:=x (by omega);obtain⟨y,off',ce,e',m,t,z⟩:=f k _ (zJ (by omega:k<l.length));obtain⟨rfl,rfl⟩:b=y/\off=off':=by simpa using e'
      refine⟨c++ce,by rw[yR,g,m,zS,yD],λj u o=>?_,λi a hi ha=>?_⟩
      . rcases xX j c.length with h | h
        . rw[zV h] at o;exact r j u o
        rw[zT h] at o;have:=t _ u o;rw[show off+k*GoD.n α+(j-c.length)=off+j by rw[←g];omega] at this;exact this
      rcases xX i k with h | h
      . have n:=zU (GoD.n α) (show i+1<=k by omega);rw[zS,yD] at n;rw[List.drop_append_of_le_length (by omega),yY (by rw[List.length_drop];omega)];exact s i a h ha
      obtain rfl:i=k:=by omega
      rw[zJ (by omega)] at ha;obtain rfl:=zD ha;rw[←g,List.drop_left,←m,List.take_length];exact z
   obtain⟨c,g,r,s⟩:=key l.length (zY _);exact⟨b,off,c,rfl,g,r,λi a ha=>s i a (zE.1 ha).1 ha⟩
theorem Qdt{P:uK}(w:uD)(t ty e:uL)(d:Plain α)(q:P.underlying t=E (.slice e))
 (r:(P.info? e).map (λi=>(i.zero.map (·.cells.size),i.size,decide (i.bytes<=1000)))=E (E (GoD.n α),GoD.n α,uA)) {g:Y} (hg:w.heap[g]? =E (.cells #[] e (0,0)))
 {y:uG} {l:H α} (hr:rd w [y] l) (hl:l.length<=1073741824):
 ∃n w' L,(Builtin.append_ #[t,t] ty #[.slice (E ⟨g,0,uC⟩) 0 0,y]).run P w= .ok n w'/\own L w' [n] l/\Ext w w'/\∀b∈L,w.heap.size<=b/\b<w'.heap.size:=by
 obtain⟨i,z,hi,hz,c,a6,hb⟩:=Qnh r;obtain⟨oa,cap,rfl⟩:=Uj hr;have s:w.ownsRow g e i.size (.slice (E ⟨g,0,uC⟩) 0 0) 0 []:=⟨by simp,.inr ⟨g,0, #[],rfl,zY _,hg,zY _,yN _,by simp,by simp⟩⟩;have h0:own [] w [.slice (E ⟨g,0,uC⟩) 0 0] ([]:H α):=⟨by simp,.inl ⟨rfl,rfl,_,rfl⟩⟩;rcases Qkw d.1 hr with rfl | ⟨b,off,f,rfl,a7,o,v⟩
 . cases oa with
   | none=>
     obtain⟨_,_,ee,_,_,_⟩:=hr;by_cases hc:cap=0
     . subst hc;exact⟨_,w, [],SQ w t ty e i q hi g 0 0 (zY _),h0,Ext.refl w,by simp⟩
     refine⟨_,w, [], ?_,h0,Ext.refl w,by simp⟩;simp[Builtin.append_,run_underlying q,sizeOf,typeInfo,hi,Builtin.lenOf,Builtin.firstCells,loadCells,loadCellsFrom,storeCells]
   | some ad=>
     refine⟨_,w, [], ?_,h0,Ext.refl w,by simp⟩;simp[Builtin.append_,run_underlying q,sizeOf,typeInfo,hi,Builtin.lenOf,Builtin.firstCells,loadCells,loadCellsFrom,storeCells]
 cases p:l with
 | nil=>
   subst p;refine⟨_,w, [], ?_,h0,Ext.refl w,by simp⟩;simp[Builtin.append_,run_underlying q,sizeOf,typeInfo,hi,Builtin.lenOf,Builtin.firstCells,loadCells,loadCellsFrom,storeCells]
 | cons a0 l0=>
   rw[←p];have ae:0<l.length:=by rw[p];simp
   have h1:∀u∈f,Value.oneCell' u=uA:=λu hu=>by
    obtain⟨j,hj,rfl⟩:=xU hu;have x:=d.1;have a8:j / GoD.n α<l.length:=by rw[Nat.div_lt_iff_lt_mul x];omega
    have hx:=(d.2 w w _ _ (v _ _ (zJ a8))).2;refine hx _ (yM (i:=j % GoD.n α) ?_);rw[Hv (Nat.mod_lt _ x),Nat.mul_comm,Nat.div_add_mod,zJ hj]
   obtain⟨n,w',a9,hw,af,_,m⟩:=Qoq (P:=P) w g t ty e i z q hi hz (by rw[c];exact a6) (by rw[c];exact d.1) hb s ⟨b,off,uC⟩ l.length cap f (by rw[c];exact a7) (λj u hj=>by
    have:=o j u hj;unfold Addr.add;by_cases V:j=0
    . subst V;simpa using this
    simpa [V] using this) h1 (by omega) (Nat.le_of_lt (Xb hg))
   obtain⟨a1,aa⟩:=m _ _ _ rfl (by omega);have a2:Ext w w':=(Below.refl _ _).grown aa (zY _) (λk hk=>by cases hk);rw[xY,xO,c] at hw
   have hA:App e w w' (n.ownBlock.toList++(xE l.length ([]:H Y)).flatten) n l:=by
    refine⟨f,xE l.length [],⟨hw.1, ?_⟩,rfl, ?_, ?_,by simp,λi Li a ab ha=>?_⟩
    . rcases hw.2 with h | ⟨g',a3,cur,h1,h2,h3⟩
      . exact .inl h
      exact .inr ⟨g',a3,cur,h1,a1 g' (by rw[h1];rfl),h3⟩
    . simp only[xF,xA];cases n.ownBlock<;>simp
    . intro b' a4;simp only[xF,xA] at a4;have a5:n.ownBlock=E b':=by simpa using a4
      exact⟨a1 b' a5,(World.ownsRow.lt hw b' a5).2⟩
    have:Li= []:=by
     have:=yM ab;exact(List.mem_replicate.1 this).2
    subst this;exact(d.2 w w' _ _ (v i a ha)).1
   exact⟨n,w',_,a9,hA.done,a2,λb hb=>⟨hA.ge b hb,hA.lt b hb⟩⟩
theorem E0{P:uK}{w:uD}{d:uO Oper}{c:H Oper}{o:Oper}{a:Act}{Q:Exit->Act->uD->Prop}(s x:Operand)(t e:uL)(j:Plain α)(g:Y){y:uG}{l:H α}(p:rd w [y] l)(q:l.length<=1073741824)
 (r:w.heap[g]? =E (.cells #[] e (0,0))) (m:o.guard=uC) (u:o.op= .call {callee:= .builtin .append,args:= #[s,x],argTypes:= #[t,t]}) (v:P.underlying t=E (.slice e))
 (f:(P.info? e).map (λi=>(i.zero.map (·.cells.size),i.size,decide (i.bytes<=1000)))=E (E (GoD.n α),GoD.n α,uA)) (z:a.eval s= .slice (E ⟨g,0,uC⟩) 0 0) (V:a.eval x=y)
 (k:∀h w' L,own L w' [h] l->Ext w w'->(∀b∈L,w.heap.size<=b/\b<w'.heap.size)->wpList P d Q c (a.put o.dst h) w'):wpList P d Q (o::c) a w:=by
 refine wpList_plain m λ_ hK=>?_
 obtain⟨h,w',L,n,h1,h2,h3⟩:=Qdt (P:=P) w t o.type e j v f r p q;unfold Oper.wp execOp;simp only[u,resolve,invoke,builtin,Sem.run_bind,Sem.run_pure,Result.andThen_ok,List.map_toArray,yE,List.map_nil,z,V,n];exact hK _ _ (k h w' L h1 h2 h3)
end
section
variable {P:uK} {o:Oper} {a:Act} {w:uD} {K:Act->uD->Prop} {Q:Exit->Act->uD->Prop}
def New0(e:uL)(v:uG)(L:H Y)(w:uD):Prop:=L= []/\∃g,v= .slice (E ⟨g,0,uC⟩) 0 0/\w.heap[g]? =E (.cells #[] e (0,0))
theorem New0.keep{e:uL}{v:uG}{L:H Y}{w w':uD}(h:New0 e v L w)(b:Ext w w'):New0 e v L w':=by
 obtain⟨c,g,d,a⟩:=h;exact⟨c,g,d,(b.block g (Xb a)).trans a⟩
end
end
section
open Go.RowKit
open GoD (rd own)
theorem Qdu(w:uD)(v:uG)(l:H G)(o:rd w [v] l)(p:l.length<=1073741824):Calls vB 70 #[v] w (RetS w l):=by
 have q:=Lib.hid o;obtain⟨oa,cap,e,r,u,d⟩:=o;obtain rfl:v=_:=by simpa using e
 clear e;have s:∀(w:uD) (a:uH Addr) (n c g c':Y),(binOp .eql 34 (.slice a n c) (.slice uC g c')).run vB w= .ok (.bool a.isNone) w:=λw a n c g c'=>Lib.run_eql_slice_nil w _ _ a n c g c' underlying34
 cases oa with
 | none=>
   have f:l= []:=by
    cases l with
    | nil=>rfl
    | cons a l=>obtain⟨b,off,ce,h,_⟩:=d 0 a rfl;cases h
   clear d;subst f;go_enter func70,ntmps70
   go_wp2
   go_ret
   all_goals exact⟨_, [],rfl,Below.refl _ _,⟨by simp,.inl ⟨rfl,rfl,_,rfl⟩⟩,by simp⟩
 | some x=>
   clear d;go_enter func70,ntmps70
   go_wp2_with (at_builtin;refine E0 (α:=G) _ _ 34 3 Ez w.heap.size (Yv q.out (by go_grown)) p (heap_alloc_new w _) rfl rfl underlying34 (by kernel_rfl) rfl rfl ?_;intro t w2 L2 i j k)
   go_ret
   have hb:Below w.heap.size w w2:=Us (show Below w.heap.size w _ by go_grown) j;exact⟨t,L2,rfl,hb,i,λb m=>by have:=(k b m).1;simp only[World.size_alloc] at this;omega⟩
theorem Ep(l:H G):ACalls vB 70 [Qp8 l] (LM l):=Ld (by unfold Fr;kernel_rfl) (λw v h hw=>Qdu w v l h (by have:=hw.1;omega)) id
theorem FZ(w:uD)(v:uG)(l:H uF)(o:rd w [v] l)(p:l.length<=1073741824):Calls vB 347 #[v] w (RetS w l):=by
 have q:=Lib.hid o;obtain⟨oa,cap,e,r,u,d⟩:=o;obtain rfl:v=_:=by simpa using e
 clear e;have s:∀(w:uD) (a:uH Addr) (n c g c':Y),(binOp .eql 175 (.slice a n c) (.slice uC g c')).run vB w= .ok (.bool a.isNone) w:=λw a n c g c'=>Lib.run_eql_slice_nil w _ _ a n c g c' underlying175
 cases oa with
 | none=>
   have f:l= []:=by
    cases l with
    | nil=>rfl
    | cons a l=>obtain⟨b,off,ce,h,_⟩:=d 0 a rfl;cases h
   clear d;subst f;go_enter func347,ntmps347
   go_wp2
   go_ret
   all_goals exact⟨_, [],rfl,Below.refl _ _,⟨by simp,.inl ⟨rfl,rfl,_,rfl⟩⟩,by simp⟩
 | some x=>
   clear d;go_enter func347,ntmps347
   go_wp2_with (at_builtin;refine E0 (α:=uF) _ _ 175 9 Nb w.heap.size (Yv q.out (by go_grown)) p (heap_alloc_new w _) rfl rfl underlying175 (by kernel_rfl) rfl rfl ?_;intro t w2 L2 i j k)
   go_ret
   have hb:Below w.heap.size w w2:=Us (show Below w.heap.size w _ by go_grown) j;exact⟨t,L2,rfl,hb,i,λb m=>by have:=(k b m).1;simp only[World.size_alloc] at this;omega⟩
theorem GA(l:H uF):ACalls vB 347 [Qp8 l] (LM l):=Ld (by unfold Fr;kernel_rfl) (λw v h hw=>FZ w v l h (by have:=hw.1;omega)) id
theorem SR(w:uD)(v:uG)(l:H Wv)(o:rd w [v] l)(p:l.length<=1073741824):Calls vB 218 #[v] w (RetS w l):=by
 have q:=Lib.hid o;obtain⟨oa,cap,e,r,u,d⟩:=o;obtain rfl:v=_:=by simpa using e
 clear e;have s:∀(w:uD) (a:uH Addr) (n c g c':Y),(binOp .eql 153 (.slice a n c) (.slice uC g c')).run vB w= .ok (.bool a.isNone) w:=λw a n c g c'=>Lib.run_eql_slice_nil w _ _ a n c g c' underlying153
 cases oa with
 | none=>
   have f:l= []:=by
    cases l with
    | nil=>rfl
    | cons a l=>obtain⟨b,off,ce,h,_⟩:=d 0 a rfl;cases h
   clear d;subst f;go_enter func218,ntmps218
   go_wp2
   go_ret
   all_goals exact⟨_, [],rfl,Below.refl _ _,⟨by simp,.inl ⟨rfl,rfl,_,rfl⟩⟩,by simp⟩
 | some x=>
   clear d;go_enter func218,ntmps218
   go_wp2_with (at_builtin;refine E0 (α:=Wv) _ _ 153 236 (Bj Nb (Bj Ez (Bj Ez Nb))) w.heap.size (Yv q.out (by go_grown)) p (heap_alloc_new w _) rfl rfl underlying153 (by kernel_rfl) rfl rfl ?_;intro t w2 L2 i j k)
   go_ret
   have hb:Below w.heap.size w w2:=Us (show Below w.heap.size w _ by go_grown) j;exact⟨t,L2,rfl,hb,i,λb m=>by have:=(k b m).1;simp only[World.size_alloc] at this;omega⟩
theorem SS(l:H Wv):ACalls vB 218 [Qp8 l] (LM l):=Ld (by unfold Fr;kernel_rfl) (λw v h hw=>SR w v l h (by have:=hw.1;omega)) id
theorem MZ(w:uD)(v:uG)(l:H Y4)(o:rd w [v] l)(p:l.length<=1073741824):Calls vB 124 #[v] w (RetS w l):=by
 have q:=Lib.hid o;obtain⟨oa,cap,e,r,u,d⟩:=o;obtain rfl:v=_:=by simpa using e
 clear e;have s:∀(w:uD) (a:uH Addr) (n c g c':Y),(binOp .eql 38 (.slice a n c) (.slice uC g c')).run vB w= .ok (.bool a.isNone) w:=λw a n c g c'=>Lib.run_eql_slice_nil w _ _ a n c g c' underlying38
 cases oa with
 | none=>
   have f:l= []:=by
    cases l with
    | nil=>rfl
    | cons a l=>obtain⟨b,off,ce,h,_⟩:=d 0 a rfl;cases h
   clear d;subst f;go_enter func124,ntmps124
   go_wp2
   go_ret
   all_goals exact⟨_, [],rfl,Below.refl _ _,⟨by simp,.inl ⟨rfl,rfl,_,rfl⟩⟩,by simp⟩
 | some x=>
   clear d;go_enter func124,ntmps124
   go_wp2_with (at_builtin;refine E0 (α:=Y4) _ _ 38 179 (Bj Nb Ez) w.heap.size (Yv q.out (by go_grown)) p (heap_alloc_new w _) rfl rfl underlying38 (by kernel_rfl) rfl rfl ?_;intro t w2 L2 i j k)
   go_ret
   have hb:Below w.heap.size w w2:=Us (show Below w.heap.size w _ by go_grown) j;exact⟨t,L2,rfl,hb,i,λb m=>by have:=(k b m).1;simp only[World.size_alloc] at this;omega⟩
theorem KL(l:H Y4):ACalls vB 124 [Qp8 l] (LM l):=Ld (by unfold Fr;kernel_rfl) (λw v h hw=>MZ w v l h (by have:=hw.1;omega)) id
theorem ST(w:uD)(v:uG)(l:H Q9)(o:rd w [v] l)(p:l.length<=1073741824):Calls vB 172 #[v] w (RetS w l):=by
 have q:=Lib.hid o;obtain⟨oa,cap,e,r,u,d⟩:=o;obtain rfl:v=_:=by simpa using e
 clear e;have s:∀(w:uD) (a:uH Addr) (n c g c':Y),(binOp .eql 157 (.slice a n c) (.slice uC g c')).run vB w= .ok (.bool a.isNone) w:=λw a n c g c'=>Lib.run_eql_slice_nil w _ _ a n c g c' underlying157
 cases oa with
 | none=>
   have f:l= []:=by
    cases l with
    | nil=>rfl
    | cons a l=>obtain⟨b,off,ce,h,_⟩:=d 0 a rfl;cases h
   clear d;subst f;go_enter func172,ntmps172
   go_wp2
   go_ret
   all_goals exact⟨_, [],rfl,Below.refl _ _,⟨by simp,.inl ⟨rfl,rfl,_,rfl⟩⟩,by simp⟩
 | some x=>
   clear d;go_enter func172,ntmps172
   go_wp2_with (at_builtin;refine E0 (α:=Q9) _ _ 157 227 (Bj Ez (Bj Ez (Bj Ez (Bj Nb (Bj Ez (Bj Ez Nb)))))) w.heap.size (Yv q.out (by go_grown)) p (heap_alloc_new w _) rfl rfl underlying157 (by kernel_rfl) rfl rfl ?_;intro t w2 L2 i j k)
   go_ret
   have hb:Below w.heap.size w w2:=Us (show Below w.heap.size w _ by go_grown) j;exact⟨t,L2,rfl,hb,i,λb m=>by have:=(k b m).1;simp only[World.size_alloc] at this;omega⟩
theorem SU(l:H Q9):ACalls vB 172 [Qp8 l] (LM l):=Ld (by unfold Fr;kernel_rfl) (λw v h hw=>ST w v l h (by have:=hw.1;omega)) id
open GoE (enc wide)
abbrev Z:=H uF
def tt:H (Y×TI):= [(3,⟨.int .i64,1, [.i 0], []⟩),
 (4,⟨.bool,1, [.b uB], []⟩),
 (5,⟨.int .u8,1, [.int .u8 0], []⟩),
 (9,⟨.str,1, [.s ⟨#[]⟩], []⟩),
 (22,⟨.sli 193,1, [.e 2], []⟩),
 (23,⟨.sli 197,1, [.e 5], []⟩),
 (25,⟨.struct [(0,1,uB),(1,1,uB),(2,1,uB)],3, [.e 2,.e 5,.i 0], []⟩),
 (26,⟨.sli 142,1, [.e 2], []⟩),
 (27,⟨.sli 145,1, [.e 2], []⟩),
 (29,⟨.struct [(0,3,uA),(3,1,uB),(4,1,uB)],5, [.e 2,.e 5,.i 0,.e 2,.e 2], []⟩),
 (31,⟨.struct [(0,1,uB),(1,1,uB)],2, [.s ⟨#[]⟩,.s ⟨#[]⟩], []⟩),
 (32,⟨.sli 100,1, [.e 6], []⟩),
 (33,⟨.sli 104,1, [.e 4], []⟩),
 (34,⟨.sli 3,1, [.e 1], []⟩),
 (36,⟨.struct [(0,5,uA),(5,2,uA),(7,1,uB),(8,1,uB),(9,1,uB),(10,1,uB)],11, [.e 2,.e 5,.i 0,.e 2,.e 2,.s ⟨#[]⟩,.s ⟨#[]⟩,.i 0,.e 6,.e 4,.e 1], []⟩),
 (38,⟨.sli 179,1, [.e 2], []⟩),
 (39,⟨.sli 155,1, [.e 5], []⟩),
 (41,⟨.struct [(0,1,uB),(1,1,uB),(2,1,uB)],3, [.e 2,.e 5,.i 0], []⟩),
 (42,⟨.sli 159,1, [.e 2], []⟩),
 (43,⟨.sli 169,1, [.e 2], []⟩),
 (45,⟨.struct [(0,3,uA),(3,1,uB),(4,1,uB)],5, [.e 2,.e 5,.i 0,.e 2,.e 2], []⟩),
 (46,⟨.struct [(0,1,uB),(1,1,uB)],2, [.s ⟨#[]⟩,.s ⟨#[]⟩], []⟩),
 (47,⟨.sli 83,1, [.e 6], []⟩),
 (48,⟨.sli 73,1, [.e 4], []⟩),
 (50,⟨.struct [(0,5,uA),(5,2,uA),(7,1,uB),(8,1,uB),(9,1,uB),(10,1,uB)],11, [.e 2,.e 5,.i 0,.e 2,.e 2,.s ⟨#[]⟩,.s ⟨#[]⟩,.i 0,.e 6,.e 4,.e 1], []⟩),
 (64,⟨.struct [(0,3,uA),(3,1,uB)],4, [.e 2,.e 5,.i 0,.e 2], []⟩),
 (71,⟨.sli 75,1, [.e 3], []⟩),
 (73,⟨.struct [(0,1,uB),(1,1,uB),(2,1,uB),(3,1,uB)],4, [.i 0,.s ⟨#[]⟩,.e 1,.e 3], []⟩),
 (75,⟨.struct [(0,1,uB),(1,1,uB),(2,1,uB)],3, [.i 0,.e 1,.e 1], []⟩),
 (83,⟨.struct [(0,1,uB),(1,4,uA),(5,1,uB)],6, [.i 0,.e 2,.e 5,.i 0,.e 2,.i 0], []⟩),
 (98,⟨.struct [(0,3,uA),(3,1,uB)],4, [.e 2,.e 5,.i 0,.e 2], []⟩),
 (100,⟨.struct [(0,1,uB),(1,4,uA),(5,1,uB)],6, [.i 0,.e 2,.e 5,.i 0,.e 2,.i 0], []⟩),
 (102,⟨.sli 200,1, [.e 3], []⟩),
 (104,⟨.struct [(0,1,uB),(1,1,uB),(2,1,uB),(3,1,uB)],4, [.i 0,.s ⟨#[]⟩,.e 1,.e 3], []⟩),
 (140,⟨.sli 241,1, [.e 7], []⟩),
 (142,⟨.struct [(0,1,uB),(1,1,uB)],2, [.s ⟨#[]⟩,.e 7], []⟩),
 (145,⟨.struct [(0,1,uB),(1,1,uB)],2, [.s ⟨#[]⟩,.e 1], []⟩),
 (153,⟨.sli 236,1, [.e 4], []⟩),
 (155,⟨.struct [(0,1,uB),(1,1,uB),(2,1,uB),(3,1,uB),(4,1,uB)],5, [.i 0,.i 0,.b uB,.i 0,.e 4], []⟩),
 (157,⟨.sli 227,1, [.e 7], []⟩),
 (159,⟨.struct [(0,1,uB),(1,1,uB)],2, [.s ⟨#[]⟩,.e 7], []⟩),
 (169,⟨.struct [(0,1,uB),(1,1,uB)],2, [.s ⟨#[]⟩,.e 1], []⟩),
 (175,⟨.sli 9,1, [.e 1], []⟩),
 (179,⟨.struct [(0,1,uB),(1,1,uB)],2, [.s ⟨#[]⟩,.i 0], []⟩),
 (193,⟨.struct [(0,1,uB),(1,1,uB)],2, [.s ⟨#[]⟩,.i 0], []⟩),
 (195,⟨.sli 271,1, [.e 4], []⟩),
 (197,⟨.struct [(0,1,uB),(1,1,uB),(2,1,uB),(3,1,uB),(4,1,uB)],5, [.i 0,.i 0,.b uB,.i 0,.e 4], []⟩),
 (200,⟨.struct [(0,1,uB),(1,1,uB),(2,1,uB)],3, [.i 0,.e 1,.e 1], []⟩),
 (215,⟨.struct [(0,1,uB),(1,1,uB),(2,1,uB)],3, [.s ⟨#[]⟩,.e 1,.e 1], []⟩),
 (225,⟨.struct [(0,1,uB),(1,1,uB),(2,1,uB)],3, [.i 0,.i 0,.s ⟨#[]⟩], [.int,.int,.str]⟩),
 (227,⟨.struct [(0,1,uB),(1,1,uB),(2,1,uB),(3,1,uB),(4,3,uA)],7, [.i 0,.i 0,.i 0,.s ⟨#[]⟩,.i 0,.i 0,.s ⟨#[]⟩], [.int,.int,.int,.str,.int,.int,.str]⟩),
 (236,⟨.struct [(0,1,uB),(1,3,uA)],4, [.s ⟨#[]⟩,.i 0,.i 0,.s ⟨#[]⟩], []⟩),
 (239,⟨.struct [(0,1,uB),(1,1,uB),(2,1,uB)],3, [.i 0,.i 0,.s ⟨#[]⟩], []⟩),
 (241,⟨.struct [(0,1,uB),(1,1,uB),(2,1,uB),(3,1,uB),(4,3,uA)],7, [.i 0,.i 0,.i 0,.s ⟨#[]⟩,.i 0,.i 0,.s ⟨#[]⟩], []⟩),
 (271,⟨.struct [(0,1,uB),(1,3,uA)],4, [.s ⟨#[]⟩,.i 0,.i 0,.s ⟨#[]⟩], []⟩),
 (329,⟨.struct [(0,1,uB),(1,1,uB)],2, [.e 1,.e 7], []⟩),
 (338,⟨.sli 4,1, [.e 1], []⟩)]
theorem Zx:Nq vB tt=uA:=by kernel_rfl
theorem XF:Tryz.prog.follows .mixedOrders=uA:=by kernel_rfl
section
variable {N:Y} {w0:Base} {F0:Y->Prop} {Q:Exit->St->Prop} {s x:St} {c y:uJ} {orcs:H (Y×Orc)} {obs:H Ob} {id:Y} {ops:uO Oper}
theorem rn(b c:H Y)(a:PL (Zp vB w0) (V0 vB w0) orcs obs)(d:Q .normal (hd (nx tt N orcs ops.toList b c s) s))
 (h:(Pb tt N orcs ops.toList ops.toList 0 s).map yU=E obs:=by kernel_rfl):AWP vB N w0 F0 (.region id ops uB) Q s:=rn0 Zx b c (s:=s) a d h
theorem sn(b c:H Y)(a:PL (Zp vB w0) (V0 vB w0) orcs obs)(d:AWP vB N w0 F0 y Q (hd (nx tt N orcs ops.toList b c s) s))
 (h:(Pb tt N orcs ops.toList ops.toList 0 s).map yU=E obs:=by kernel_rfl):AWP vB N w0 F0 (.seq (.region id ops uB) y) Q s:=Qa (rn b c a d h)
theorem ru(u:H (Y×AV))(d:H Y)(a:H (Y×H C))(b:H Y)(c:PL (Zp vB w0) (V0 vB w0) orcs obs)(e:Q .normal (s.up u d a b))
 (h:Wr tt N orcs ops.toList (N2 (s.up u d a b).tm) (N2 (s.up u d a b).bx) s=E (s.up u d a b,obs):=by kernel_rfl):AWP vB N w0 F0 (.region id ops uB) Q s:=Jr Zx orcs _ _ (s:=s) h c e
theorem su(u:H (Y×AV))(d:H Y)(a:H (Y×H C))(b:H Y)(c:PL (Zp vB w0) (V0 vB w0) orcs obs)(e:AWP vB N w0 F0 y Q (s.up u d a b))
 (h:Wr tt N orcs ops.toList (N2 (s.up u d a b).tm) (N2 (s.up u d a b).bx) s=E (s.up u d a b,obs):=by kernel_rfl):AWP vB N w0 F0 (.seq (.region id ops uB) y) Q s:=Qa (ru u d a b c e h)
theorem rN(a b:H Y)(c:PL (Zp vB w0) (V0 vB w0) orcs obs)(d:Q .normal (hd (nd tt N orcs ops.toList a b s) s))
 (h:(Ey tt N orcs ops.toList a b s).map yU=E obs:=by kernel_rfl):AWP vB N w0 F0 (.region id ops uA) Q s:=rN0 Zx XF a b (s:=s) c d h
theorem sN(a b:H Y)(c:PL (Zp vB w0) (V0 vB w0) orcs obs)(d:AWP vB N w0 F0 y Q (hd (nd tt N orcs ops.toList a b s) s))
 (h:(Ey tt N orcs ops.toList a b s).map yU=E obs:=by kernel_rfl):AWP vB N w0 F0 (.seq (.region id ops uA) y) Q s:=Qa (rN a b c d h)
theorem rU(u:H (Y×AV))(d:H Y)(a:H (Y×H C))(b:H Y)(c:PL (Zp vB w0) (V0 vB w0) orcs obs)(e:Q .normal (s.up u d a b))
 (h:Ey tt N orcs ops.toList (N2 (s.up u d a b).tm) (N2 (s.up u d a b).bx) s=E (s.up u d a b,obs):=by kernel_rfl):AWP vB N w0 F0 (.region id ops uA) Q s:=VX Zx XF orcs _ _ (s:=s) h c e
theorem sU(u:H (Y×AV))(d:H Y)(a:H (Y×H C))(b:H Y)(c:PL (Zp vB w0) (V0 vB w0) orcs obs)(e:AWP vB N w0 F0 y Q (s.up u d a b))
 (h:Ey tt N orcs ops.toList (N2 (s.up u d a b).tm) (N2 (s.up u d a b).bx) s=E (s.up u d a b,obs):=by kernel_rfl):AWP vB N w0 F0 (.seq (.region id ops uA) y) Q s:=Qa (rU u d a b c e h)
theorem qn(b c:H Y)(a:PL (Zp vB w0) (V0 vB w0) orcs obs)(d:Q .normal (hd (nx tt N orcs ops.toList b c x) s))
 (h:(Pb tt N orcs ops.toList ops.toList 0 x).map yU=E obs:=by kernel_rfl):AWP vB N w0 F0 (.region id ops uB) Q (hd x s):=rn0 Zx b c (s:=x) a d h
theorem tn(b c:H Y)(a:PL (Zp vB w0) (V0 vB w0) orcs obs)(d:AWP vB N w0 F0 y Q (hd (nx tt N orcs ops.toList b c x) s))
 (h:(Pb tt N orcs ops.toList ops.toList 0 x).map yU=E obs:=by kernel_rfl):AWP vB N w0 F0 (.seq (.region id ops uB) y) Q (hd x s):=Qa (qn b c a d h)
theorem qu(u:H (Y×AV))(d:H Y)(a:H (Y×H C))(b:H Y)(c:PL (Zp vB w0) (V0 vB w0) orcs obs)(e:Q .normal (s.up u d a b))
 (h:Wr tt N orcs ops.toList (N2 (s.up u d a b).tm) (N2 (s.up u d a b).bx) x=E (s.up u d a b,obs):=by kernel_rfl):AWP vB N w0 F0 (.region id ops uB) Q (hd x s):=Jr Zx orcs _ _ (s:=x) h c e
theorem tu(u:H (Y×AV))(d:H Y)(a:H (Y×H C))(b:H Y)(c:PL (Zp vB w0) (V0 vB w0) orcs obs)(e:AWP vB N w0 F0 y Q (s.up u d a b))
 (h:Wr tt N orcs ops.toList (N2 (s.up u d a b).tm) (N2 (s.up u d a b).bx) x=E (s.up u d a b,obs):=by kernel_rfl):AWP vB N w0 F0 (.seq (.region id ops uB) y) Q (hd x s):=Qa (qu u d a b c e h)
theorem qN(a b:H Y)(c:PL (Zp vB w0) (V0 vB w0) orcs obs)(d:Q .normal (hd (nd tt N orcs ops.toList a b x) s))
 (h:(Ey tt N orcs ops.toList a b x).map yU=E obs:=by kernel_rfl):AWP vB N w0 F0 (.region id ops uA) Q (hd x s):=rN0 Zx XF a b (s:=x) c d h
theorem tN(a b:H Y)(c:PL (Zp vB w0) (V0 vB w0) orcs obs)(d:AWP vB N w0 F0 y Q (hd (nd tt N orcs ops.toList a b x) s))
 (h:(Ey tt N orcs ops.toList a b x).map yU=E obs:=by kernel_rfl):AWP vB N w0 F0 (.seq (.region id ops uA) y) Q (hd x s):=Qa (qN a b c d h)
theorem qU(u:H (Y×AV))(d:H Y)(a:H (Y×H C))(b:H Y)(c:PL (Zp vB w0) (V0 vB w0) orcs obs)(e:Q .normal (s.up u d a b))
 (h:Ey tt N orcs ops.toList (N2 (s.up u d a b).tm) (N2 (s.up u d a b).bx) x=E (s.up u d a b,obs):=by kernel_rfl):AWP vB N w0 F0 (.region id ops uA) Q (hd x s):=VX Zx XF orcs _ _ (s:=x) h c e
theorem tU(u:H (Y×AV))(d:H Y)(a:H (Y×H C))(b:H Y)(c:PL (Zp vB w0) (V0 vB w0) orcs obs)(e:AWP vB N w0 F0 y Q (s.up u d a b))
 (h:Ey tt N orcs ops.toList (N2 (s.up u d a b).tm) (N2 (s.up u d a b).bx) x=E (s.up u d a b,obs):=by kernel_rfl):AWP vB N w0 F0 (.seq (.region id ops uA) y) Q (hd x s):=Qa (qU u d a b c e h)
end
theorem en{f:Y}{fn:Func}{c:uJ}(b:Tryz.prog.funcs[f]? =E fn){args:H AV}{r:AV}
 (h:∀w0 F0,GoodAt vB w0->AWP vB fn.ntmps w0 F0 c (Qe5 tt fn.results.toList r) (ZQ args)) (d:fn.body=E c:=by exact rfl) (a:Fr vB f:=by unfold Fr;kernel_rfl) (e:args.length<=fn.ntmps:=by exact Nat.le_of_ble_eq_true rfl):ACalls vB f args r:=QW Zx b d a e h
def Xv(n:G)(b:G)(a:G):uE:=(decide (b<=n)&&decide (n<=a))
theorem Jz(n:G)(b:G)(a:G):ACalls vB 202 [.i n,.i b,.i a] (.b (Xv n b a)):=by
 refine en func202 λ_ _ _=>sn [0,1,2,6] [] p0 ?_
 refine Qa<|mz [(6,.b uB)] [] [] []<|jn [(6,.b (decide (b<=n)&&decide (n<=a)))] [0,1,2,6] [] [] (decide (b<=n)) (λc=>?_) (λc=>?_) ?_
 ·refine rn [6] [] (pt 2 c p0) ?_;exact zA (by rw[c]<;>kernel_rfl)
 ·refine rn [6] [] (pf 2 c p0) ?_;exact zA (by rw[c]<;>kernel_rfl)
 exact Qc<|pb [] (show Xv n b a=(decide (b<=n)&&decide (n<=a)) from rfl)
def Yb(a:uF)(b:Y)(_:uM):Rd (uE) (uM) (uM):=(bif (decide (Jl a (b:G)<(97:G))|| decide (Jl a (b:G)>(122:G))) then(.ret uB) else(.next ()))
def Ku(_:Y)(_:uM):uM:=()
def Xl(a:uF):uE:=(Out.on (K0 (Yb a) Ku (zF a:G).toNat 0 ()) (λ_=>(Xv (zF a:G) 1 6)))
theorem K2(a:uF):ACalls vB 262 [.s a] (.b (Xl a)):=by
 refine en func262 λ_ _ _=>sn [0,2] [] p0 ?_
 refine Qa<|tn [0,2,5,6] [] p0<|mz [(2,.b uB),(5,.i (zF a:G)),(6,.i 0)] [] [] []<|stT 0 0 a (λh=>?_)
 refine Qss (Yb a) Ku (zF a:G).toNat () (λb _=> [(6,.i (b:G))]) [6] (λ_=> []) [5,6] wf0 (λb j O U=>?_) (λb j O U=>?_) (λk d=>?_)
 ·refine sn [0,2,5,6,7] [] (pe 0 (zB ((b:G)<(zF a:G))) p0)<|Qa<|ckT<|Qd<|Qa<|Qp<|tn [0,2,3,5,6] [] p0<|Qa<|mz [(3,.i (b:G))] [] [] []<|jn [(18,.b (decide (Jl a (b:G)<(97:G))|| decide (Jl a (b:G)>(122:G))))] [3] [] [] (decide (Jl a (b:G)<(97:G))) (λc=>?_) (λc=>?_) ?_
  ·have e:=uW c;refine rn [0,2,5,6,18] [] (px (Df (i:=(b:G)) (n:=(zF a)) (by omega)) (pt 3 c p0)) ?_;exact zA (by rw[c]<;>kernel_rfl)
  ·have e:=uV c;refine rn [0,2,5,6,18] [] (px (Df (i:=(b:G)) (n:=(zF a)) (by omega)) (pf 3 c (px (Df (i:=(b:G)) (n:=(zF a)) (by omega)) p0))) ?_;exact zA (by rw[c]<;>kernel_rfl)
  refine ck (decide (Jl a (b:G)<(97:G))|| decide (Jl a (b:G)>(122:G))) (λf=>?_) (λf=>?_)
  ·refine su [] [18] [] [] p0<|Qc ?_
   have g:(K0 (Yb a) Ku (zF a:G).toNat 0 ())= .ret uB:=XC O (Xg f rfl) U;exact pb [] (Pq g)
  refine Qd<|rn [0,2,5,6] [] (pw 0 b p0) ?_
  exact xw _ (Jd O (Qi f rfl) U)
 ·exact sn [0,2,5,6,7] [] (pe 0 (zC ((b:G)<(zF a:G))) p0)<|Qa<|ckF<|Xa<|xw _ (Hn O rfl U)
 exact sn [2] [] (pc 2 (Jz (zF a:G) 1 6) p0)<|Qc<|pb [] (Vx d rfl)
def Xd(v:Va):uE:=(bif (v.1==(0:G)) then((v.1==0)&&((v.2.1==0)&&((v.2.2.toList==(⟨#[]⟩:uF).toList)&&uA))) else(bif (v.1==(1:G)) then((Xv v.2.1 0 999)&&(v.2.2.toList==(⟨#[]⟩:uF).toList)) else(bif (v.1==(2:G)) then((Xl v.2.2)&&(v.2.1==(0:G))) else uB)))
theorem J0(v:Va):ACalls vB 312 [.a [.i v.1,.i v.2.1,.s v.2.2]] (.b (Xd v)):=by
 refine en func312 λ_ _ _=>sn [1,2] [1] p0 ?_
 refine Qa<|tn [1,2,4] [1] p0<|Qp<|tu [(1,.p 1 0),(2,.b uB),(4,.i v.1),(5,.b (v.1==(0:G)))] [0] [(1, [.i v.1,.i v.2.1,.s v.2.2])] [] p0<|ck (v.1==(0:G)) (λa=>?_) (λa=>?_)
 ·exact sn [2] [] p0<|Qc<|pb [] (Xg a rfl)
 refine sn [1,2,4,10] [1] p0<|ck (v.1==(1:G)) (λd=>?_) (λd=>?_)
 ·refine Qa<|mz [(10,.b (v.1==(1:G)))] [5] [] []<|jn [(2,.b ((Xv v.2.1 0 999)&&(v.2.2.toList==(⟨#[]⟩:uF).toList)))] [1,2,4,10] [] [1] (Xv v.2.1 0 999) (λb=>?_) (λb=>?_) ?_
  ·refine rn [2] [] (pc 2 (cb b (Jz v.2.1 0 999)) p0) ?_;exact zA (by rw[b]<;>kernel_rfl)
  ·refine rn [2] [] (pc 2 (cb b (Jz v.2.1 0 999)) p0) ?_;exact zA (by rw[b]<;>kernel_rfl)
  exact Qc<|pb [] (Qi a (Xg d rfl))
 refine tn [1,2,20] [1] p0<|ck (v.1==(2:G)) (λe=>?_) (λe=>?_)
 ·refine Qa<|mz [(20,.b (v.1==(2:G)))] [4,5] [] []<|jn [(2,.b ((Xl v.2.2)&&(v.2.1==(0:G))))] [1,2,20] [] [1] (Xl v.2.2) (λc=>?_) (λc=>?_) ?_
  ·refine rn [2] [] (pc 2 (cb c (K2 v.2.2)) p0) ?_;exact zA (by rw[c]<;>kernel_rfl)
  ·refine rn [2] [] (pc 2 (cb c (K2 v.2.2)) p0) ?_;exact zA (by rw[c]<;>kernel_rfl)
  exact Qc<|pb [] (Qi a (Qi d (Xg e rfl)))
 exact Qd<|tu [] [1,4,5] [] [1] p0<|Qc<|pb [] (Qi a (Qi d (Qi e rfl)))
def Q8(x:G)(a:G)(b:G):uE:=(decide (x>=a)&&decide (x<=b))
theorem Yw(x:G)(a:G)(b:G):ACalls vB 106 [.i x,.i a,.i b] (.b (Q8 x a b)):=by
 refine en func106 λ_ _ _=>sn [0,1,2,6] [] p0 ?_
 refine Qa<|mz [(6,.b uB)] [] [] []<|jn [(6,.b (decide (x>=a)&&decide (x<=b)))] [0,1,2,6] [] [] (decide (x>=a)) (λc=>?_) (λc=>?_) ?_
 ·refine rn [6] [] (pt 2 c p0) ?_;exact zA (by rw[c]<;>kernel_rfl)
 ·refine rn [6] [] (pf 2 c p0) ?_;exact zA (by rw[c]<;>kernel_rfl)
 exact Qc<|pb [] (show Q8 x a b=(decide (x>=a)&&decide (x<=b)) from rfl)
def Af(a:uF)(b:Y)(_:uM):Rd (uE) (uM) (uM):=(bif (decide (Jl a (b:G)<(97:G))|| decide (Jl a (b:G)>(122:G))) then(.ret uB) else(.next ()))
def Bk(_:Y)(_:uM):uM:=()
def Fw(b:uF)(a:G):uE:=(Out.on (K0 (Af b) Bk (zF b:G).toNat 0 ()) (λ_=>(Q8 (zF b:G) 1 a)))
theorem XG(a:uF)(c:G):ACalls vB 281 [.s a,.i c] (.b (Fw a c)):=by
 refine en func281 λ_ _ _=>sn [0,1,4] [] p0 ?_
 refine Qa<|tn [0,1,4,5] [] p0<|mz [(4,.b uB),(5,.i 0)] [] [] []<|stT 0 0 a (λj=>?_)
 refine Qss (Af a) Bk (zF a:G).toNat () (λb _=> [(5,.i (b:G))]) [5] (λ_=> []) [5] wf0 (λb k O U=>?_) (λb k O U=>?_) (λl e=>?_)
 ·refine Qa<|sn [0,1,4,5,9] [] (pe 3 (zB ((b:G)<(zF a:G))) p0)<|ckT<|Qd<|Qa<|Qp<|Qa<|mz [(9,.b uA)] [] [] []<|jn [(21,.b (decide (Jl a (b:G)<(97:G))|| decide (Jl a (b:G)>(122:G))))] [9] [] [] (decide (Jl a (b:G)<(97:G))) (λd=>?_) (λd=>?_) ?_
  ·have f:=uW d;refine rn [0,1,4,5,21] [] (px (Df (i:=(b:G)) (n:=(zF a)) (by omega)) (pt 3 d p0)) ?_;exact zA (by rw[d]<;>kernel_rfl)
  ·have f:=uV d;refine rn [0,1,4,5,21] [] (px (Df (i:=(b:G)) (n:=(zF a)) (by omega)) (pf 3 d (px (Df (i:=(b:G)) (n:=(zF a)) (by omega)) p0))) ?_;exact zA (by rw[d]<;>kernel_rfl)
  refine ck (decide (Jl a (b:G)<(97:G))|| decide (Jl a (b:G)>(122:G))) (λg=>?_) (λg=>?_)
  ·refine su [] [21] [] [] p0<|Qc ?_
   have h:(K0 (Af a) Bk (zF a:G).toNat 0 ())= .ret uB:=XC O (Xg g rfl) U;exact pb [] (Pq h)
  refine Qd<|rn [0,1,4,5] [] (pw 1 b p0) ?_
  exact xw _ (Jd O (Qi g rfl) U)
 ·exact Qa<|sn [0,1,4,5,9] [] (pe 3 (zC ((b:G)<(zF a:G))) p0)<|ckF<|Xa<|xw _ (Hn O rfl U)
 exact sn [4] [] (pc 3 (Yw (zF a:G) 1 c) p0)<|Qc<|pb [] (Vx e rfl)
def Y2(a:uF):uE:=(Fw a 6)
theorem J6(a:uF):ACalls vB 239 [.s a] (.b (Y2 a)):=by
 refine en func239 λ_ _ _=>sn [0,2] [] p0 ?_
 exact tn [2] [] (pc 1 (XG a 6) p0)<|Qc<|pb [] (show Y2 a=(Fw a 6) from rfl)
def X2(v:Va):uE:=(bif (v.1==(0:G)) then((v.1==0)&&((v.2.1==0)&&((v.2.2.toList==(⟨#[]⟩:uF).toList)&&uA))) else(bif (v.1==(1:G)) then((Q8 v.2.1 0 999)&&(v.2.2.toList==(⟨#[]⟩:uF).toList)) else(bif (v.1==(2:G)) then((Y2 v.2.2)&&(v.2.1==(0:G))) else uB)))
theorem Zg(v:Va):ACalls vB 277 [.a [.i v.1,.i v.2.1,.s v.2.2]] (.b (X2 v)):=by
 refine en func277 λ_ _ _=>sn [1,2] [1] p0 ?_
 refine Qa<|tn [1,2,4] [1] p0<|Qp<|tu [(1,.p 1 0),(2,.b uB),(4,.i v.1),(5,.b (v.1==(0:G)))] [0] [(1, [.i v.1,.i v.2.1,.s v.2.2])] [] p0<|ck (v.1==(0:G)) (λa=>?_) (λa=>?_)
 ·exact sn [2] [] p0<|Qc<|pb [] (Xg a rfl)
 refine sn [1,2,4,10] [1] p0<|ck (v.1==(1:G)) (λd=>?_) (λd=>?_)
 ·refine Qa<|mz [(10,.b (v.1==(1:G)))] [5] [] []<|jn [(2,.b ((Q8 v.2.1 0 999)&&(v.2.2.toList==(⟨#[]⟩:uF).toList)))] [1,2,4,10] [] [1] (Q8 v.2.1 0 999) (λb=>?_) (λb=>?_) ?_
  ·refine rn [2] [] (pc 2 (cb b (Yw v.2.1 0 999)) p0) ?_;exact zA (by rw[b]<;>kernel_rfl)
  ·refine rn [2] [] (pc 2 (cb b (Yw v.2.1 0 999)) p0) ?_;exact zA (by rw[b]<;>kernel_rfl)
  exact Qc<|pb [] (Qi a (Xg d rfl))
 refine tn [1,2,20] [1] p0<|ck (v.1==(2:G)) (λe=>?_) (λe=>?_)
 ·refine Qa<|mz [(20,.b (v.1==(2:G)))] [4,5] [] []<|jn [(2,.b ((Y2 v.2.2)&&(v.2.1==(0:G))))] [1,2,20] [] [1] (Y2 v.2.2) (λc=>?_) (λc=>?_) ?_
  ·refine rn [2] [] (pc 2 (cb c (J6 v.2.2)) p0) ?_;exact zA (by rw[c]<;>kernel_rfl)
  ·refine rn [2] [] (pc 2 (cb c (J6 v.2.2)) p0) ?_;exact zA (by rw[c]<;>kernel_rfl)
  exact Qc<|pb [] (Qi a (Qi d (Xg e rfl)))
 exact Qd<|tu [] [1,4,5] [] [1] p0<|Qc<|pb [] (Qi a (Qi d (Qi e rfl)))
def Qz(a:uF):uE:=(((zF a:G)==(1:G))&&(decide (Jl a 0>=(97:G))&&decide (Jl a 0<=(122:G))))
theorem Zi(a:uF):ACalls vB 267 [.s a] (.b (Qz a)):=by
 refine en func267 λ_ _ _=>sn [0,2] [] p0 ?_
 refine Qa<|mz [(2,.b uB)] [] [] []<|jn [(2,.b (((zF a:G)==(1:G))&&(decide (Jl a 0>=(97:G))&&decide (Jl a 0<=(122:G)))))] [0,2] [] [] ((zF a:G)==(1:G)) (λb=>?_) (λb=>?_) ?_
 ·have e:=eq_of_beq b;refine X4 (decide (Jl a 0>=(97:G))) (λc=>?_) (λc=>?_)
  ·have d:=uW c;refine rn [2] [] (pt 2 b (px (Df (i:=0) (n:=(zF a)) (by omega)) (pt 6 c (px (Df (i:=0) (n:=(zF a)) (by omega)) p0)))) ?_;exact zA (by rw[b,c]<;>kernel_rfl)
  have d:=uV c;refine rn [2] [] (pt 2 b (px (Df (i:=0) (n:=(zF a)) (by omega)) (pf 6 c p0))) ?_;exact zA (by rw[b,c]<;>kernel_rfl)
 ·refine rn [2] [] (pf 2 b p0) ?_;exact zA (by rw[b]<;>kernel_rfl)
 exact Qc<|pb [] (show Qz a=(((zF a:G)==(1:G))&&(decide (Jl a 0>=(97:G))&&decide (Jl a 0<=(122:G)))) from rfl)
def Xy(a:uF):uE:=(Fw a 1)
theorem Ym(a:uF):ACalls vB 245 [.s a] (.b (Xy a)):=by
 refine en func245 λ_ _ _=>sn [0,2] [] p0 ?_
 exact tn [2] [] (pc 1 (XG a 1) p0)<|Qc<|pb [] (show Xy a=(Fw a 1) from rfl)
def Y5(n:Q9)(at_:G):uE:=(bif (n.1==(1:G)) then((n.1==n.1)&&((n.2.1==0)&&((n.2.2.1==0)&&((n.2.2.2.1.toList==(⟨#[]⟩:uF).toList)&&((n.2.2.2.2.1==0)&&((n.2.2.2.2.2.1==0)&&((n.2.2.2.2.2.2.toList==(⟨#[]⟩:uF).toList)&&uA))))))) else(bif (n.1==(2:G)) then(((n.1==n.1)&&((n.2.1==0)&&((n.2.2.1==0)&&((n.2.2.2.1.toList==n.2.2.2.1.toList)&&((n.2.2.2.2.1==0)&&((n.2.2.2.2.2.1==0)&&((n.2.2.2.2.2.2.toList==(⟨#[]⟩:uF).toList)&&uA)))))))&&(Qz n.2.2.2.1)) else(bif (bif (n.1==(3:G)) then(n.1==(3:G)) else(n.1==(4:G))) then(((n.1==n.1)&&((n.2.1==0)&&((n.2.2.1==0)&&((n.2.2.2.1.toList==n.2.2.2.1.toList)&&((n.2.2.2.2.1==n.2.2.2.2.1)&&((n.2.2.2.2.2.1==n.2.2.2.2.2.1)&&((n.2.2.2.2.2.2.toList==n.2.2.2.2.2.2.toList)&&uA)))))))&&((Qz n.2.2.2.1)&&((Xd n.2.2.2.2)&&((n.2.2.2.2.1 !=(0:G))&&((n.1==(3:G))|| (n.2.2.2.2.1==(1:G))))))) else(bif (n.1==(5:G)) then(((n.1==n.1)&&((n.2.1==n.2.1)&&((n.2.2.1==0)&&((n.2.2.2.1.toList==(⟨#[]⟩:uF).toList)&&((n.2.2.2.2.1==0)&&((n.2.2.2.2.2.1==0)&&((n.2.2.2.2.2.2.toList==(⟨#[]⟩:uF).toList)&&uA)))))))&&(decide (at_>(0:G))&&(Xv n.2.1 0 (uZ vA (at_-1))))) else(bif (bif (n.1==(6:G)) then(n.1==(6:G)) else(n.1==(7:G))) then(((n.1==n.1)&&((n.2.1==n.2.1)&&((n.2.2.1==n.2.2.1)&&((n.2.2.2.1.toList==(⟨#[]⟩:uF).toList)&&((n.2.2.2.2.1==0)&&((n.2.2.2.2.2.1==0)&&((n.2.2.2.2.2.2.toList==(⟨#[]⟩:uF).toList)&&uA)))))))&&(decide (at_>(0:G))&&((Xv n.2.1 0 (uZ vA (at_-1)))&&(Xv n.2.2.1 0 (uZ vA (at_-1)))))) else(bif (n.1==(8:G)) then(((n.1==n.1)&&((n.2.1==0)&&((n.2.2.1==0)&&((n.2.2.2.1.toList==n.2.2.2.1.toList)&&((n.2.2.2.2.1==0)&&((n.2.2.2.2.2.1==0)&&((n.2.2.2.2.2.2.toList==(⟨#[]⟩:uF).toList)&&uA)))))))&&(Xl n.2.2.2.1)) else(bif (n.1==(9:G)) then(((n.1==n.1)&&((n.2.1==0)&&((n.2.2.1==0)&&((n.2.2.2.1.toList==n.2.2.2.1.toList)&&((n.2.2.2.2.1==0)&&((n.2.2.2.2.2.1==0)&&((n.2.2.2.2.2.2.toList==(⟨#[]⟩:uF).toList)&&uA)))))))&&(Xl n.2.2.2.1)) else uB)))))))
theorem Fx(n:Q9)(at_:G):ACalls vB 305 [.a [.i n.1,.i n.2.1,.i n.2.2.1,.s n.2.2.2.1,.i n.2.2.2.2.1,.i n.2.2.2.2.2.1,.s n.2.2.2.2.2.2],.i at_] (.b (Y5 n at_)):=by
 refine en func305 λ_ _ _=>sn [1,2,4] [2] p0 ?_
 refine tn [1,2,4,5] [2,5] p0<|Qa<|tu [(2,.p 2 0),(4,.b uB),(5,.p 5 0),(10,.i n.1)] [0] [(2, [.i n.1,.i n.2.1,.i n.2.2.1,.s n.2.2.2.1,.i n.2.2.2.2.1,.i n.2.2.2.2.2.1,.s n.2.2.2.2.2.2]),(5, [.i n.1,.i 0,.i 0,.s ⟨#[]⟩,.i 0,.i 0,.s ⟨#[]⟩])] [] p0<|Qp<|sn [1,2,4,5,10,11] [2,5] p0<|ck (n.1==(1:G)) (λp=>?_) (λp=>?_)
 ·exact Qd<|tn [4] [] p0<|Qc<|pb [] (Xg p rfl)
 refine tn [1,2,4,5,10,13] [2,5] p0<|ck (n.1==(2:G)) (λr=>?_) (λr=>?_)
 ·refine tu [] [1,10] [(5, [.i n.1,.i 0,.i 0,.s n.2.2.2.1,.i 0,.i 0,.s ⟨#[]⟩])] [5] p0<|Qa<|jn [(4,.b (((n.1==n.1)&&((n.2.1==0)&&((n.2.2.1==0)&&((n.2.2.2.1.toList==n.2.2.2.1.toList)&&((n.2.2.2.2.1==0)&&((n.2.2.2.2.2.1==0)&&((n.2.2.2.2.2.2.toList==(⟨#[]⟩:uF).toList)&&uA)))))))&&(Qz n.2.2.2.1)))] [4] [] [] ((n.1==n.1)&&((n.2.1==0)&&((n.2.2.1==0)&&((n.2.2.2.1.toList==n.2.2.2.1.toList)&&((n.2.2.2.2.1==0)&&((n.2.2.2.2.2.1==0)&&((n.2.2.2.2.2.2.toList==(⟨#[]⟩:uF).toList)&&uA))))))) (λv=>?_) (λv=>?_) ?_
  ·refine rn [2,4,5] [2,5] (pt 2 v (pc 6 (Zi n.2.2.2.1) p0)) ?_;exact zA (by rw[v]<;>kernel_rfl)
  ·refine ru [] [] [] [] (pf 2 v p0) ?_;exact zA (by rw[v]<;>kernel_rfl)
  exact Qc<|pb [] (Qi p (Xg r rfl))
 refine Qa<|tu [(26,.b (n.1==(3:G)))] [] [] [] p0<|jn [(26,.b (bif (n.1==(3:G)) then(n.1==(3:G)) else(n.1==(4:G))))] [26] [] [] (n.1==(3:G)) (λw=>?_) (λw=>?_) ?_
 ·refine ckt w ?_;exact Qd<|⟨rfl,Qe (by rw[w]<;>kernel_rfl)⟩
 ·refine ckf w ?_;refine rn [1,2,4,5,10,26] [2,5] p0 ?_;exact zA (by rw[w]<;>kernel_rfl)
 refine ck (bif (n.1==(3:G)) then(n.1==(3:G)) else(n.1==(4:G))) (λs=>?_) (λs=>?_)
 ·refine sN [2,4,5] [2,5] p0<|Qa<|mz [] [1,10,26] [(5, [.i n.1,.i 0,.i 0,.s n.2.2.2.1,.i n.2.2.2.2.1,.i n.2.2.2.2.2.1,.s n.2.2.2.2.2.2])] [5]<|jn [(4,.b (((n.1==n.1)&&((n.2.1==0)&&((n.2.2.1==0)&&((n.2.2.2.1.toList==n.2.2.2.1.toList)&&((n.2.2.2.2.1==n.2.2.2.2.1)&&((n.2.2.2.2.2.1==n.2.2.2.2.2.1)&&((n.2.2.2.2.2.2.toList==n.2.2.2.2.2.2.toList)&&uA)))))))&&((Qz n.2.2.2.1)&&((Xd n.2.2.2.2)&&((n.2.2.2.2.1 !=(0:G))&&((n.1==(3:G))|| (n.2.2.2.2.1==(1:G))))))))] [4] [] [] ((n.1==n.1)&&((n.2.1==0)&&((n.2.2.1==0)&&((n.2.2.2.1.toList==n.2.2.2.1.toList)&&((n.2.2.2.2.1==n.2.2.2.2.1)&&((n.2.2.2.2.2.1==n.2.2.2.2.2.1)&&((n.2.2.2.2.2.2.toList==n.2.2.2.2.2.2.toList)&&uA))))))) (λd=>?_) (λd=>?_) ?_
  ·refine X4 (Qz n.2.2.2.1) (λf=>?_) (λf=>?_)
   ·refine X4 (Xd n.2.2.2.2) (λq=>?_) (λq=>?_)
    ·refine X4 (n.2.2.2.2.1 !=(0:G)) (λt=>?_) (λt=>?_)
     ·refine X4 (n.1==(3:G)) (λg=>?_) (λg=>?_)
      ·refine rn [2,4,5] [2,5] (pt 2 d (pc 6 (cb f (Zi n.2.2.2.1)) (pc 11 (cb q (J0 n.2.2.2.2)) (pt 17 t (pt 22 g p0))))) ?_;exact zA (by rw[d,f,q,t,g]<;>kernel_rfl)
      refine rn [2,4,5] [2,5] (pt 2 d (pc 6 (cb f (Zi n.2.2.2.1)) (pc 11 (cb q (J0 n.2.2.2.2)) (pt 17 t (pf 22 g p0))))) ?_;exact zA (by rw[d,f,q,t,g]<;>kernel_rfl)
     refine ru [] [] [] [] (pt 2 d (pc 6 (cb f (Zi n.2.2.2.1)) (pc 11 (cb q (J0 n.2.2.2.2)) (pf 17 t p0)))) ?_;exact zA (by rw[d,f,q,t]<;>kernel_rfl)
    refine ru [] [] [] [] (pt 2 d (pc 6 (cb f (Zi n.2.2.2.1)) (pc 11 (cb q (J0 n.2.2.2.2)) p0))) ?_;exact zA (by rw[d,f,q]<;>kernel_rfl)
   refine ru [] [] [] [] (pt 2 d (pc 6 (cb f (Zi n.2.2.2.1)) p0)) ?_;exact zA (by rw[d,f]<;>kernel_rfl)
  ·refine ru [] [] [] [] (pf 2 d p0) ?_;exact zA (by rw[d]<;>kernel_rfl)
  exact Qc<|pb [] (Qi p (Qi r (Xg s rfl)))
 refine sn [1,2,4,5,10,65] [2,5] p0<|ck (n.1==(5:G)) (λe=>?_) (λe=>?_)
 ·refine tn [1,2,4,5] [2,5] p0<|Qa<|mz [] [10,26] [(5, [.i n.1,.i n.2.1,.i 0,.s ⟨#[]⟩,.i 0,.i 0,.s ⟨#[]⟩])] [5]<|jn [(4,.b (((n.1==n.1)&&((n.2.1==n.2.1)&&((n.2.2.1==0)&&((n.2.2.2.1.toList==(⟨#[]⟩:uF).toList)&&((n.2.2.2.2.1==0)&&((n.2.2.2.2.2.1==0)&&((n.2.2.2.2.2.2.toList==(⟨#[]⟩:uF).toList)&&uA)))))))&&(decide (at_>(0:G))&&(Xv n.2.1 0 (uZ vA (at_-1))))))] [1,4] [] [] ((n.1==n.1)&&((n.2.1==n.2.1)&&((n.2.2.1==0)&&((n.2.2.2.1.toList==(⟨#[]⟩:uF).toList)&&((n.2.2.2.2.1==0)&&((n.2.2.2.2.2.1==0)&&((n.2.2.2.2.2.2.toList==(⟨#[]⟩:uF).toList)&&uA))))))) (λb=>?_) (λb=>?_) ?_
  ·refine X4 (decide (at_>(0:G))) (λh=>?_) (λh=>?_)
   ·refine rn [2,4,5] [2,5] (pt 2 b (pt 5 h (pc 12 (Jz n.2.1 0 (uZ vA (at_-1))) p0))) ?_;exact zA (by rw[b,h]<;>kernel_rfl)
   refine ru [] [1] [] [] (pt 2 b (pf 5 h p0)) ?_;exact zA (by rw[b,h]<;>kernel_rfl)
  ·refine ru [] [1] [] [] (pf 2 b p0) ?_;exact zA (by rw[b]<;>kernel_rfl)
  exact Qc<|pb [] (Qi p (Qi r (Qi s (Xg e rfl))))
 refine Qa<|tn [1,2,4,5,10,84] [2,5] p0<|mz [(84,.b (n.1==(6:G)))] [26] [] []<|jn [(84,.b (bif (n.1==(6:G)) then(n.1==(6:G)) else(n.1==(7:G))))] [84] [] [] (n.1==(6:G)) (λi=>?_) (λi=>?_) ?_
 ·refine ckt i ?_;exact Qd<|⟨rfl,Qe (by rw[i]<;>kernel_rfl)⟩
 ·refine ckf i ?_;refine rn [1,2,4,5,10,84] [2,5] p0 ?_;exact zA (by rw[i]<;>kernel_rfl)
 refine ck (bif (n.1==(6:G)) then(n.1==(6:G)) else(n.1==(7:G))) (λj=>?_) (λj=>?_)
 ·refine sN [1,2,4,5] [2,5] p0<|Qa<|mz [] [10,84] [(5, [.i n.1,.i n.2.1,.i n.2.2.1,.s ⟨#[]⟩,.i 0,.i 0,.s ⟨#[]⟩])] [5]<|jn [(4,.b (((n.1==n.1)&&((n.2.1==n.2.1)&&((n.2.2.1==n.2.2.1)&&((n.2.2.2.1.toList==(⟨#[]⟩:uF).toList)&&((n.2.2.2.2.1==0)&&((n.2.2.2.2.2.1==0)&&((n.2.2.2.2.2.2.toList==(⟨#[]⟩:uF).toList)&&uA)))))))&&(decide (at_>(0:G))&&((Xv n.2.1 0 (uZ vA (at_-1)))&&(Xv n.2.2.1 0 (uZ vA (at_-1)))))))] [1,4] [] [] ((n.1==n.1)&&((n.2.1==n.2.1)&&((n.2.2.1==n.2.2.1)&&((n.2.2.2.1.toList==(⟨#[]⟩:uF).toList)&&((n.2.2.2.2.1==0)&&((n.2.2.2.2.2.1==0)&&((n.2.2.2.2.2.2.toList==(⟨#[]⟩:uF).toList)&&uA))))))) (λa=>?_) (λa=>?_) ?_
  ·refine X4 (decide (at_>(0:G))) (λc=>?_) (λc=>?_)
   ·refine X4 (Xv n.2.1 0 (uZ vA (at_-1))) (λk=>?_) (λk=>?_)
    ·refine rn [2,4,5] [2,5] (pt 2 a (pt 5 c (pc 12 (cb k (Jz n.2.1 0 (uZ vA (at_-1)))) (pc 19 (Jz n.2.2.1 0 (uZ vA (at_-1))) p0)))) ?_;exact zA (by rw[a,c,k]<;>kernel_rfl)
    refine ru [] [1] [] [] (pt 2 a (pt 5 c (pc 12 (cb k (Jz n.2.1 0 (uZ vA (at_-1)))) p0))) ?_;exact zA (by rw[a,c,k]<;>kernel_rfl)
   refine ru [] [1] [] [] (pt 2 a (pf 5 c p0)) ?_;exact zA (by rw[a,c]<;>kernel_rfl)
  ·refine ru [] [1] [] [] (pf 2 a p0) ?_;exact zA (by rw[a]<;>kernel_rfl)
  exact Qc<|pb [] (Qi p (Qi r (Qi s (Qi e (Xg j rfl)))))
 refine Qa<|sn [2,4,5,10,114] [2,5] p0<|ck (n.1==(8:G)) (λl=>?_) (λl=>?_)
 ·refine Qd<|ckt l ?_
  refine tn [2,4,5] [2,5] p0<|Qa<|mz [] [1,10,84] [(5, [.i n.1,.i 0,.i 0,.s n.2.2.2.1,.i 0,.i 0,.s ⟨#[]⟩])] [5]<|jn [(4,.b (((n.1==n.1)&&((n.2.1==0)&&((n.2.2.1==0)&&((n.2.2.2.1.toList==n.2.2.2.1.toList)&&((n.2.2.2.2.1==0)&&((n.2.2.2.2.2.1==0)&&((n.2.2.2.2.2.2.toList==(⟨#[]⟩:uF).toList)&&uA)))))))&&(Xl n.2.2.2.1)))] [4] [] [] ((n.1==n.1)&&((n.2.1==0)&&((n.2.2.1==0)&&((n.2.2.2.1.toList==n.2.2.2.1.toList)&&((n.2.2.2.2.1==0)&&((n.2.2.2.2.2.1==0)&&((n.2.2.2.2.2.2.toList==(⟨#[]⟩:uF).toList)&&uA))))))) (λm=>?_) (λm=>?_) ?_
  ·refine rn [2,4,5] [2,5] (pt 2 m (pc 6 (K2 n.2.2.2.1) p0)) ?_;exact zA (by rw[m]<;>kernel_rfl)
  ·refine ru [] [] [] [] (pf 2 m p0) ?_;exact zA (by rw[m]<;>kernel_rfl)
  exact Qc<|pb [] (Qi p (Qi r (Qi s (Qi e (Qi j (Xg l rfl))))))
 refine qn [2,4,5,114] [2,5] p0 ?_;refine ck (n.1==(9:G)) (λu=>?_) (λu=>?_)
 ·refine tu [] [1,10,84] [(5, [.i n.1,.i 0,.i 0,.s n.2.2.2.1,.i 0,.i 0,.s ⟨#[]⟩])] [5] p0<|Qa<|jn [(4,.b (((n.1==n.1)&&((n.2.1==0)&&((n.2.2.1==0)&&((n.2.2.2.1.toList==n.2.2.2.1.toList)&&((n.2.2.2.2.1==0)&&((n.2.2.2.2.2.1==0)&&((n.2.2.2.2.2.2.toList==(⟨#[]⟩:uF).toList)&&uA)))))))&&(Xl n.2.2.2.1)))] [4] [] [] ((n.1==n.1)&&((n.2.1==0)&&((n.2.2.1==0)&&((n.2.2.2.1.toList==n.2.2.2.1.toList)&&((n.2.2.2.2.1==0)&&((n.2.2.2.2.2.1==0)&&((n.2.2.2.2.2.2.toList==(⟨#[]⟩:uF).toList)&&uA))))))) (λo=>?_) (λo=>?_) ?_
  ·refine rn [2,4,5] [2,5] (pt 2 o (pc 6 (K2 n.2.2.2.1) p0)) ?_;exact zA (by rw[o]<;>kernel_rfl)
  ·refine ru [] [] [] [] (pf 2 o p0) ?_;exact zA (by rw[o]<;>kernel_rfl)
  exact Qc<|pb [] (Qi p (Qi r (Qi s (Qi e (Qi j (Qi l (Xg u rfl)))))))
 exact tu [] [1,10,84] [] [] p0<|Qc<|pb [] (Qi p (Qi r (Qi s (Qi e (Qi j (Qi l (Qi u rfl)))))))
def Kw(at_:G)(_:Y)(a:Q9)(b:G):Rd (G) (G) (G):=(bif ((a.2.1==at_)&&(((a.1==(6:G))|| (a.1==(7:G)))|| (a.1==(5:G)))) then(bif ((a.2.2.1==at_)&&((a.1==(6:G))|| (a.1==(7:G)))) then(.next (uZ vA (uZ vA (b+1)+1))) else(.next (uZ vA (b+1)))) else(bif ((a.2.2.1==at_)&&((a.1==(6:G))|| (a.1==(7:G)))) then(.next (uZ vA (b+1))) else(.next b)))
def Ho(_:Y)(a:G):G:=a
def Kk(q:H Q9)(at_:G):G:=(Out.on (X8 (Kw at_) Ho q 0 0) (λa=>a))
theorem P9(q:H Q9)(at_:G):ACalls vB 306 [.h q,.i at_] (.i (Kk q at_)):=by
 refine en func306 λ_ _ _=>sn [0,1,4] [] p0 ?_
 refine tn [0,1,4,5] [] p0<|Qa<|tu [(4,.i 0),(5,.i 0),(9,.h q),(10,.i (q.length:G)),(11,.i 0)] [0] [] [] (pl 1 q p0)<|wT 9 0 .sh q (λp r=>?_)
 refine S7 (Kw at_) Ho q 0 (λb k=> [(5,.i k),(11,.i (b:G))]) [5,11] (λo=> [(5,.i o)]) [1,5,9,10,11] wf0 (λb k O U=>?_) (λb k O U=>?_) (λo m=>?_)
 ·obtain⟨a,V⟩:=Xo (l:=q) (i:=b) O;refine su [(12,.b uA)] [] [] [] (pe 0 (zB ((b:G)<(q.length:G))) p0)<|Qa<|ckT<|Qd<|Qa<|Qp<|sn [1,4,5,7,9,10,11] [7] (pn 0 V p0)<|Qa<|mz [(7,.p 7 0)] [12] [(7, [.i a.1,.i a.2.1,.i a.2.2.1,.s a.2.2.2.1,.i a.2.2.2.2.1,.i a.2.2.2.2.2.1,.s a.2.2.2.2.2.2])] []<|jn [(8,.b ((a.1==(6:G))|| (a.1==(7:G))))] [] [] [] (a.1==(6:G)) (λe=>?_) (λe=>?_) ?_
  ·refine ru [(8,.b uA)] [] [] [] (pt 2 e p0) ?_;exact zA (by rw[e]<;>kernel_rfl)
  ·refine rn [1,4,5,7,8,9,10,11] [7] (pf 2 e p0) ?_;exact zA (by rw[e]<;>kernel_rfl)
  refine Qa<|Qa<|jn [(34,.b ((a.2.1==at_)&&(((a.1==(6:G))|| (a.1==(7:G)))|| (a.1==(5:G)))))] [] [] [] (a.2.1==at_) (λc=>?_) (λc=>?_) ?_
  ·refine X4 ((a.1==(6:G))|| (a.1==(7:G))) (λf=>?_) (λf=>?_)
   ·refine ru [(34,.b uA)] [] [] [] (pt 3 c (pt 5 f p0)) ?_;exact zA (by rw[c,f]<;>kernel_rfl)
   refine rn [1,4,5,7,8,9,10,11,34] [7] (pt 3 c (pf 5 f p0)) ?_;exact zA (by rw[c,f]<;>kernel_rfl)
  ·refine ru [(34,.b uB)] [] [] [] (pf 3 c p0) ?_;exact zA (by rw[c]<;>kernel_rfl)
  refine ck ((a.2.1==at_)&&(((a.1==(6:G))|| (a.1==(7:G)))|| (a.1==(5:G)))) (λg=>?_) (λg=>?_)
  ·refine rn [1,4,5,7,8,9,10,11] [7] p0 ?_;refine Qa<|mz [(5,.i (uZ vA (k+1)))] [5,34] [] []<|jn [(43,.b ((a.2.2.1==at_)&&((a.1==(6:G))|| (a.1==(7:G)))))] [7,8] [] [7] (a.2.2.1==at_) (λh=>?_) (λh=>?_) ?_
   ·refine rn [1,4,5,9,10,11,43] [] (pt 3 h p0) ?_;exact zA (by rw[h]<;>kernel_rfl)
   ·refine rn [1,4,5,9,10,11,43] [] (pf 3 h p0) ?_;exact zA (by rw[h]<;>kernel_rfl)
   refine ck ((a.2.2.1==at_)&&((a.1==(6:G))|| (a.1==(7:G)))) (λn=>?_) (λn=>?_)
   ·refine rn [1,4,5,9,10,11] [] p0 ?_;refine qn [1,4,5,9,10,11] [] (pw 0 b p0) ?_;exact xw _ (Qr V (Xg g (Xg n rfl)) U)
   refine Qd<|rn [1,4,5,9,10,11] [] (pw 0 b p0) ?_
   exact xw _ (Qr V (Xg g (Qi n rfl)) U)
  refine Qd<|Qa<|jn [(43,.b ((a.2.2.1==at_)&&((a.1==(6:G))|| (a.1==(7:G)))))] [7,8,34] [] [7] (a.2.2.1==at_) (λj=>?_) (λj=>?_) ?_
  ·refine rn [1,4,5,9,10,11,43] [] (pt 3 j p0) ?_;exact zA (by rw[j]<;>kernel_rfl)
  ·refine rn [1,4,5,9,10,11,43] [] (pf 3 j p0) ?_;exact zA (by rw[j]<;>kernel_rfl)
  refine ck ((a.2.2.1==at_)&&((a.1==(6:G))|| (a.1==(7:G)))) (λd=>?_) (λd=>?_)
  ·refine rn [1,4,5,9,10,11] [] p0 ?_;refine qn [1,4,5,9,10,11] [] (pw 0 b p0) ?_;exact xw _ (Qr V (Qi g (Xg d rfl)) U)
  refine Qd<|rn [1,4,5,9,10,11] [] (pw 0 b p0) ?_
  exact xw _ (Qr V (Qi g (Qi d rfl)) U)
 ·exact su [(12,.b uB)] [] [] [] (pe 0 (zC ((b:G)<(q.length:G))) p0)<|Qa<|ckF<|Xa<|xw _ (Xq O rfl U)
 exact sn [4] [] p0<|Qc<|pi [] (Vx m rfl)
def Z1(q:H Q9)(a:Y)(b:Q9)(_:uM):Rd (uE) (uM) (uM):=(bif ((!(Y5 b (a:G)))|| (decide ((a:G)<((q.length:G)-1))&&((Kk q (a:G)) !=(1:G)))) then(.ret uB) else(.next ()))
def Vy(_:Y)(_:uM):uM:=()
def Qj(q:H Q9):uE:=(Out.on (X8 (Z1 q) Vy q 0 ()) (λ_=>(Xv (q.length:G) 1 9)))
theorem V6(q:H Q9):ACalls vB 263 [.h q] (.b (Qj q)):=by
 refine en func263 λ_ _ _=>sn [0,2] [] p0 ?_
 refine Qa<|tn [0,2,5,6,7] [] (pl 1 q p0)<|mz [(2,.b uB),(5,.h q),(6,.i (q.length:G)),(7,.i 0)] [] [] []<|wT 0 0 .sh q (λk m=>?_)
 refine S7 (Z1 q) Vy q () (λa _=> [(7,.i (a:G))]) [7] (λ_=> []) [5,6,7] wf0 (λa n O U=>?_) (λa n O U=>?_) (λo f=>?_)
 ·obtain⟨b,V⟩:=Xo (l:=q) (i:=a) O;refine sn [0,2,5,6,7,8] [] (pe 0 (zB ((a:G)<(q.length:G))) p0)<|Qa<|ckT<|Qd<|Qa<|Qp<|tn [0,2,3,4,5,6,7] [4] (pn 1 V p0)<|Qa<|mz [(3,.i (a:G)),(4,.p 4 0)] [] [(4, [.i b.1,.i b.2.1,.i b.2.2.1,.s b.2.2.2.1,.i b.2.2.2.2.1,.i b.2.2.2.2.2.1,.s b.2.2.2.2.2.2])] []<|jn [(28,.b ((!(Y5 b (a:G)))|| (decide ((a:G)<((q.length:G)-1))&&((Kk q (a:G)) !=(1:G)))))] [3,4] [] [4] (!(Y5 b (a:G))) (λe=>?_) (λe=>?_) ?_
  ·have c:(Y5 b (a:G))=uB:=V1 e;refine rn [0,2,5,6,7,28] [] (pc 2 (cb c (Fx b (a:G))) (pe 3 (show .b (!uB)= .b uA from rfl) p0)) ?_;exact zA (by rw[e]<;>kernel_rfl)
  ·have c:(Y5 b (a:G))=uA:=Z5 e;refine X4 (decide ((a:G)<((q.length:G)-1))) (λd=>?_) (λd=>?_)
   ·have g:=uW d;refine rn [0,2,5,6,7,28] [] (pc 2 (cb c (Fx b (a:G))) (pe 3 (show .b (!uA)= .b uB from rfl) (pl 7 q (pe 8 (G6 (IntWalk.i64_in ((q.length:G)-1) (by omega))) (pt 9 d (pc 13 (P9 q (a:G)) p0)))))) ?_;exact zA (by rw[e,d]<;>kernel_rfl)
   have g:=uV d;refine rn [0,2,5,6,7,28] [] (pc 2 (cb c (Fx b (a:G))) (pe 3 (show .b (!uA)= .b uB from rfl) (pl 7 q (pe 8 (G6 (IntWalk.i64_in ((q.length:G)-1) (by omega))) (pf 9 d p0))))) ?_;exact zA (by rw[e,d]<;>kernel_rfl)
  refine ck ((!(Y5 b (a:G)))|| (decide ((a:G)<((q.length:G)-1))&&((Kk q (a:G)) !=(1:G)))) (λh=>?_) (λh=>?_)
  ·refine su [] [28] [] [] p0<|Qc ?_
   have j:(X8 (Z1 q) Vy q 0 ())= .ret uB:=Kj V (Xg h rfl) U;exact pb [] (Pq j)
  refine Qd<|rn [0,2,5,6,7] [] (pw 0 a p0) ?_
  exact xw _ (Qr V (Qi h rfl) U)
 ·exact sn [0,2,5,6,7,8] [] (pe 0 (zC ((a:G)<(q.length:G))) p0)<|Qa<|ckF<|Xa<|xw _ (Xq O rfl U)
 exact sn [2] [] (pl 1 q (pc 2 (Jz (q.length:G) 1 9) p0))<|Qc<|pb [] (Vx f rfl)
def V7(n:Q9)(at_:G):uE:=(bif (n.1==(1:G)) then((n.1==1)&&((n.2.1==0)&&((n.2.2.1==0)&&((n.2.2.2.1.toList==(⟨#[]⟩:uF).toList)&&((n.2.2.2.2.1==0)&&((n.2.2.2.2.2.1==0)&&((n.2.2.2.2.2.2.toList==(⟨#[]⟩:uF).toList)&&uA))))))) else(bif (n.1==(2:G)) then((Xy n.2.2.2.1)&&((n.1==n.1)&&((n.2.1==0)&&((n.2.2.1==0)&&((n.2.2.2.1.toList==n.2.2.2.1.toList)&&((n.2.2.2.2.1==0)&&((n.2.2.2.2.2.1==0)&&((n.2.2.2.2.2.2.toList==(⟨#[]⟩:uF).toList)&&uA)))))))) else(bif (n.1==(3:G)) then((Xy n.2.2.2.1)&&((X2 n.2.2.2.2)&&((n.2.2.2.2.1 !=(0:G))&&((n.2.1==(0:G))&&(n.2.2.1==(0:G)))))) else(bif (n.1==(4:G)) then((Xy n.2.2.2.1)&&((X2 n.2.2.2.2)&&((n.2.2.2.2.1==(1:G))&&((n.2.1==(0:G))&&(n.2.2.1==(0:G)))))) else(bif (n.1==(5:G)) then(((Q8 n.2.1 0 (uZ vA (at_-1)))&&decide (at_>(0:G)))&&((n.2.2.1==(0:G))&&((n.2.2.2.1.toList==(⟨#[]⟩:uF).toList)&&((n.2.2.2.2.1==0)&&((n.2.2.2.2.2.1==0)&&((n.2.2.2.2.2.2.toList==(⟨#[]⟩:uF).toList)&&uA)))))) else(bif (bif (n.1==(6:G)) then(n.1==(6:G)) else(n.1==(7:G))) then((((Q8 n.2.1 0 (uZ vA (at_-1)))&&decide (at_>(0:G)))&&(Q8 n.2.2.1 0 (uZ vA (at_-1))))&&((n.2.2.2.1.toList==(⟨#[]⟩:uF).toList)&&((n.2.2.2.2.1==0)&&((n.2.2.2.2.2.1==0)&&((n.2.2.2.2.2.2.toList==(⟨#[]⟩:uF).toList)&&uA))))) else(bif (n.1==(8:G)) then((Y2 n.2.2.2.1)&&((n.1==n.1)&&((n.2.1==0)&&((n.2.2.1==0)&&((n.2.2.2.1.toList==n.2.2.2.1.toList)&&((n.2.2.2.2.1==0)&&((n.2.2.2.2.2.1==0)&&((n.2.2.2.2.2.2.toList==(⟨#[]⟩:uF).toList)&&uA)))))))) else(bif (n.1==(9:G)) then((Y2 n.2.2.2.1)&&((n.1==n.1)&&((n.2.1==0)&&((n.2.2.1==0)&&((n.2.2.2.1.toList==n.2.2.2.1.toList)&&((n.2.2.2.2.1==0)&&((n.2.2.2.2.2.1==0)&&((n.2.2.2.2.2.2.toList==(⟨#[]⟩:uF).toList)&&uA)))))))) else uB))))))))
theorem Fy(n:Q9)(at_:G):ACalls vB 282 [.a [.i n.1,.i n.2.1,.i n.2.2.1,.s n.2.2.2.1,.i n.2.2.2.2.1,.i n.2.2.2.2.2.1,.s n.2.2.2.2.2.2],.i at_] (.b (V7 n at_)):=by
 refine en func282 λ_ _ _=>sn [1,2,4] [2] p0 ?_
 refine Qa<|mz [(2,.p 2 0),(4,.b uB)] [0] [(2, [.i n.1,.i n.2.1,.i n.2.2.1,.s n.2.2.2.1,.i n.2.2.2.2.1,.i n.2.2.2.2.2.1,.s n.2.2.2.2.2.2])] []<|jn [(5,.b ((Q8 n.2.1 0 (uZ vA (at_-1)))&&decide (at_>(0:G))))] [] [] [] (Q8 n.2.1 0 (uZ vA (at_-1))) (λz=>?_) (λz=>?_) ?_
 ·refine rn [1,2,4,5] [2] (pc 4 (cb z (Yw n.2.1 0 (uZ vA (at_-1)))) p0) ?_;exact zA (by rw[z]<;>kernel_rfl)
 ·refine rn [1,2,4,5] [2] (pc 4 (cb z (Yw n.2.1 0 (uZ vA (at_-1)))) p0) ?_;exact zA (by rw[z]<;>kernel_rfl)
 refine Qa<|jn [(6,.b (((Q8 n.2.1 0 (uZ vA (at_-1)))&&decide (at_>(0:G)))&&(Q8 n.2.2.1 0 (uZ vA (at_-1)))))] [1] [] [] ((Q8 n.2.1 0 (uZ vA (at_-1)))&&decide (at_>(0:G))) (λV=>?_) (λV=>?_) ?_
 ·refine rn [2,4,5,6] [2] (pt 0 V (pc 6 (Yw n.2.2.1 0 (uZ vA (at_-1))) p0)) ?_;exact zA (by rw[V]<;>kernel_rfl)
 ·refine rn [2,4,5,6] [2] (pf 0 V p0) ?_;exact zA (by rw[V]<;>kernel_rfl)
 refine Qa<|sn [2,4,5,6,25] [2] p0<|Qp<|tn [2,4,5,6,25,26] [2] p0<|ck (n.1==(1:G)) (λt=>?_) (λt=>?_)
 ·exact tu [(4,.b ((n.1==1)&&((n.2.1==0)&&((n.2.2.1==0)&&((n.2.2.2.1.toList==(⟨#[]⟩:uF).toList)&&((n.2.2.2.2.1==0)&&((n.2.2.2.2.2.1==0)&&((n.2.2.2.2.2.2.toList==(⟨#[]⟩:uF).toList)&&uA))))))))] [2,4,5,6] [] [2] p0<|Qc<|pb [] (Xg t rfl)
 refine tu [(25,.i n.1),(31,.b (n.1==(2:G)))] [] [] [] p0<|ck (n.1==(2:G)) (λu=>?_) (λu=>?_)
 ·refine Qa<|jn [(4,.b ((Xy n.2.2.2.1)&&((n.1==n.1)&&((n.2.1==0)&&((n.2.2.1==0)&&((n.2.2.2.1.toList==n.2.2.2.1.toList)&&((n.2.2.2.2.1==0)&&((n.2.2.2.2.2.1==0)&&((n.2.2.2.2.2.2.toList==(⟨#[]⟩:uF).toList)&&uA)))))))))] [2,4,5,6,25,31] [] [2] (Xy n.2.2.2.1) (λh5=>?_) (λh5=>?_) ?_
  ·refine rn [4] [] (pc 2 (cb h5 (Ym n.2.2.2.1)) p0) ?_;exact zA (by rw[h5]<;>kernel_rfl)
  ·refine rn [4] [] (pc 2 (cb h5 (Ym n.2.2.2.1)) p0) ?_;exact zA (by rw[h5]<;>kernel_rfl)
  exact Qc<|pb [] (Qi t (Xg u rfl))
 refine sn [2,4,5,6,25,45] [2] p0<|ck (n.1==(3:G)) (λw=>?_) (λw=>?_)
 ·refine Qa<|mz [(45,.b (n.1==(3:G)))] [31] [] []<|jn [(4,.b ((Xy n.2.2.2.1)&&((X2 n.2.2.2.2)&&((n.2.2.2.2.1 !=(0:G))&&((n.2.1==(0:G))&&(n.2.2.1==(0:G)))))))] [2,4,5,6,25,45] [] [2] (Xy n.2.2.2.1) (λi=>?_) (λi=>?_) ?_
  ·refine X4 (X2 n.2.2.2.2) (λv=>?_) (λv=>?_)
   ·refine X4 (n.2.2.2.2.1 !=(0:G)) (λx=>?_) (λx=>?_)
    ·refine X4 (n.2.1==(0:G)) (λj=>?_) (λj=>?_)
     ·refine rn [4] [] (pc 2 (cb i (Ym n.2.2.2.1)) (pc 6 (cb v (Zg n.2.2.2.2)) (pt 12 x (pt 17 j p0)))) ?_;exact zA (by rw[i,v,x,j]<;>kernel_rfl)
     refine rn [4] [] (pc 2 (cb i (Ym n.2.2.2.1)) (pc 6 (cb v (Zg n.2.2.2.2)) (pt 12 x (pf 17 j p0)))) ?_;exact zA (by rw[i,v,x,j]<;>kernel_rfl)
    refine rn [4] [] (pc 2 (cb i (Ym n.2.2.2.1)) (pc 6 (cb v (Zg n.2.2.2.2)) (pf 12 x p0))) ?_;exact zA (by rw[i,v,x]<;>kernel_rfl)
   refine rn [4] [] (pc 2 (cb i (Ym n.2.2.2.1)) (pc 6 (cb v (Zg n.2.2.2.2)) p0)) ?_;exact zA (by rw[i,v]<;>kernel_rfl)
  ·refine rn [4] [] (pc 2 (cb i (Ym n.2.2.2.1)) p0) ?_;exact zA (by rw[i]<;>kernel_rfl)
  exact Qc<|pb [] (Qi t (Qi u (Xg w rfl)))
 refine tn [2,4,5,6,25,71] [2] p0<|ck (n.1==(4:G)) (λd=>?_) (λd=>?_)
 ·refine Qa<|mz [(71,.b (n.1==(4:G)))] [31] [] []<|jn [(4,.b ((Xy n.2.2.2.1)&&((X2 n.2.2.2.2)&&((n.2.2.2.2.1==(1:G))&&((n.2.1==(0:G))&&(n.2.2.1==(0:G)))))))] [2,4,5,6,25,71] [] [2] (Xy n.2.2.2.1) (λa=>?_) (λa=>?_) ?_
  ·refine X4 (X2 n.2.2.2.2) (λb=>?_) (λb=>?_)
   ·refine X4 (n.2.2.2.2.1==(1:G)) (λe=>?_) (λe=>?_)
    ·refine X4 (n.2.1==(0:G)) (λk=>?_) (λk=>?_)
     ·refine rn [4] [] (pc 2 (cb a (Ym n.2.2.2.1)) (pc 6 (cb b (Zg n.2.2.2.2)) (pt 12 e (pt 17 k p0)))) ?_;exact zA (by rw[a,b,e,k]<;>kernel_rfl)
     refine rn [4] [] (pc 2 (cb a (Ym n.2.2.2.1)) (pc 6 (cb b (Zg n.2.2.2.2)) (pt 12 e (pf 17 k p0)))) ?_;exact zA (by rw[a,b,e,k]<;>kernel_rfl)
    refine rn [4] [] (pc 2 (cb a (Ym n.2.2.2.1)) (pc 6 (cb b (Zg n.2.2.2.2)) (pf 12 e p0))) ?_;exact zA (by rw[a,b,e]<;>kernel_rfl)
   refine rn [4] [] (pc 2 (cb a (Ym n.2.2.2.1)) (pc 6 (cb b (Zg n.2.2.2.2)) p0)) ?_;exact zA (by rw[a,b]<;>kernel_rfl)
  ·refine rn [4] [] (pc 2 (cb a (Ym n.2.2.2.1)) p0) ?_;exact zA (by rw[a]<;>kernel_rfl)
  exact Qc<|pb [] (Qi t (Qi u (Qi w (Xg d rfl))))
 refine tu [(97,.b (n.1==(5:G)))] [31] [] [] p0<|ck (n.1==(5:G)) (λh=>?_) (λh=>?_)
 ·refine Qa<|jn [(4,.b (((Q8 n.2.1 0 (uZ vA (at_-1)))&&decide (at_>(0:G)))&&((n.2.2.1==(0:G))&&((n.2.2.2.1.toList==(⟨#[]⟩:uF).toList)&&((n.2.2.2.2.1==0)&&((n.2.2.2.2.2.1==0)&&((n.2.2.2.2.2.2.toList==(⟨#[]⟩:uF).toList)&&uA)))))))] [2,4,5,6,25,97] [] [2] ((Q8 n.2.1 0 (uZ vA (at_-1)))&&decide (at_>(0:G))) (λc=>?_) (λc=>?_) ?_
  ·refine X4 (n.2.2.1==(0:G)) (λf=>?_) (λf=>?_)
   ·refine X4 (n.2.2.2.1.toList==(⟨#[]⟩:uF).toList) (λl=>?_) (λl=>?_)
    ·refine rn [4] [] (pt 0 c (pt 4 f (pt 9 l p0))) ?_;exact zA (by rw[c,f,l]<;>kernel_rfl)
    refine rn [4] [] (pt 0 c (pt 4 f (pf 9 l p0))) ?_;exact zA (by rw[c,f,l]<;>kernel_rfl)
   refine rn [4] [] (pt 0 c (pf 4 f p0)) ?_;exact zA (by rw[c,f]<;>kernel_rfl)
  ·refine rn [4] [] (pf 0 c p0) ?_;exact zA (by rw[c]<;>kernel_rfl)
  exact Qc<|pb [] (Qi t (Qi u (Qi w (Qi d (Xg h rfl)))))
 refine Qa<|sn [2,4,6,25,116] [2] p0<|mz [(116,.b (n.1==(6:G)))] [5,97] [] []<|jn [(116,.b (bif (n.1==(6:G)) then(n.1==(6:G)) else(n.1==(7:G))))] [116] [] [] (n.1==(6:G)) (λm=>?_) (λm=>?_) ?_
 ·refine ckt m ?_;exact Qd<|⟨rfl,Qe (by rw[m]<;>kernel_rfl)⟩
 ·refine ckf m ?_;refine rn [2,4,6,25,116] [2] p0 ?_;exact zA (by rw[m]<;>kernel_rfl)
 refine ck (bif (n.1==(6:G)) then(n.1==(6:G)) else(n.1==(7:G))) (λo=>?_) (λo=>?_)
 ·refine Qa<|jn [(4,.b ((((Q8 n.2.1 0 (uZ vA (at_-1)))&&decide (at_>(0:G)))&&(Q8 n.2.2.1 0 (uZ vA (at_-1))))&&((n.2.2.2.1.toList==(⟨#[]⟩:uF).toList)&&((n.2.2.2.2.1==0)&&((n.2.2.2.2.2.1==0)&&((n.2.2.2.2.2.2.toList==(⟨#[]⟩:uF).toList)&&uA))))))] [2,4,6,25,116] [] [2] (((Q8 n.2.1 0 (uZ vA (at_-1)))&&decide (at_>(0:G)))&&(Q8 n.2.2.1 0 (uZ vA (at_-1)))) (λg=>?_) (λg=>?_) ?_
  ·refine X4 (n.2.2.2.1.toList==(⟨#[]⟩:uF).toList) (λp=>?_) (λp=>?_)
   ·refine rn [4] [] (pt 0 g (pt 4 p p0)) ?_;exact zA (by rw[g,p]<;>kernel_rfl)
   refine rn [4] [] (pt 0 g (pf 4 p p0)) ?_;exact zA (by rw[g,p]<;>kernel_rfl)
  ·refine rn [4] [] (pf 0 g p0) ?_;exact zA (by rw[g]<;>kernel_rfl)
  exact Qc<|pb [] (Qi t (Qi u (Qi w (Qi d (Qi h (Xg o rfl))))))
 refine Qa<|sn [2,4,25,131] [2] p0<|ck (n.1==(8:G)) (λq=>?_) (λq=>?_)
 ·refine Qd<|ckt q ?_
  refine Qa<|mz [(131,.b (n.1==(8:G)))] [6,116] [] []<|jn [(4,.b ((Y2 n.2.2.2.1)&&((n.1==n.1)&&((n.2.1==0)&&((n.2.2.1==0)&&((n.2.2.2.1.toList==n.2.2.2.1.toList)&&((n.2.2.2.2.1==0)&&((n.2.2.2.2.2.1==0)&&((n.2.2.2.2.2.2.toList==(⟨#[]⟩:uF).toList)&&uA)))))))))] [2,4,25,131] [] [2] (Y2 n.2.2.2.1) (λr=>?_) (λr=>?_) ?_
  ·refine rn [4] [] (pc 2 (cb r (J6 n.2.2.2.1)) p0) ?_;exact zA (by rw[r]<;>kernel_rfl)
  ·refine rn [4] [] (pc 2 (cb r (J6 n.2.2.2.1)) p0) ?_;exact zA (by rw[r]<;>kernel_rfl)
  exact Qc<|pb [] (Qi t (Qi u (Qi w (Qi d (Qi h (Qi o (Xg q rfl)))))))
 refine qn [2,4,131] [2] p0 ?_;refine ck (n.1==(9:G)) (λy=>?_) (λy=>?_)
 ·refine Qa<|mz [(131,.b (n.1==(9:G)))] [6,25,116] [] []<|jn [(4,.b ((Y2 n.2.2.2.1)&&((n.1==n.1)&&((n.2.1==0)&&((n.2.2.1==0)&&((n.2.2.2.1.toList==n.2.2.2.1.toList)&&((n.2.2.2.2.1==0)&&((n.2.2.2.2.2.1==0)&&((n.2.2.2.2.2.2.toList==(⟨#[]⟩:uF).toList)&&uA)))))))))] [2,4,131] [] [2] (Y2 n.2.2.2.1) (λs=>?_) (λs=>?_) ?_
  ·refine rn [4] [] (pc 2 (cb s (J6 n.2.2.2.1)) p0) ?_;exact zA (by rw[s]<;>kernel_rfl)
  ·refine rn [4] [] (pc 2 (cb s (J6 n.2.2.2.1)) p0) ?_;exact zA (by rw[s]<;>kernel_rfl)
  exact Qc<|pb [] (Qi t (Qi u (Qi w (Qi d (Qi h (Qi o (Qi q (Xg y rfl))))))))
 exact Qd<|tu [] [2,6,25,116] [] [2] p0<|Qc<|pb [] (Qi t (Qi u (Qi w (Qi d (Qi h (Qi o (Qi q (Qi y rfl))))))))
def Hp(at_:G)(_:Y)(a:Q9)(b:G):Rd (G) (G) (G):=(bif (bif ((a.1==(6:G))|| (a.1==(7:G))) then(a.2.1==at_) else((a.1==(5:G))&&(a.2.1==at_))) then(bif (((a.1==(6:G))|| (a.1==(7:G)))&&(a.2.2.1==at_)) then(.next (uZ vA (uZ vA (b+1)+1))) else(.next (uZ vA (b+1)))) else(bif (((a.1==(6:G))|| (a.1==(7:G)))&&(a.2.2.1==at_)) then(.next (uZ vA (b+1))) else(.next b)))
def Bo(_:Y)(a:G):G:=a
def Ws(q:H Q9)(at_:G):G:=(Out.on (X8 (Hp at_) Bo q 0 0) (λa=>a))
theorem Ra(q:H Q9)(at_:G):ACalls vB 283 [.h q,.i at_] (.i (Ws q at_)):=by
 refine en func283 λ_ _ _=>sn [0,1,4] [] p0 ?_
 refine tn [0,1,4,5] [] p0<|Qa<|tu [(4,.i 0),(5,.i 0),(6,.i 0)] [] [] [] p0<|wT 0 0 .sh q (λp r=>?_)
 refine S7 (Hp at_) Bo q 0 (λb k=> [(5,.i k),(6,.i (b:G))]) [5,6] (λo=> [(5,.i o)]) [0,1,5,6] wf0 (λb k O U=>?_) (λb k O U=>?_) (λo m=>?_)
 ·obtain⟨a,V⟩:=Xo (l:=q) (i:=b) O;refine Qa<|sn [0,1,4,5,6,11] [] (pl 2 q (pe 3 (zB ((b:G)<(q.length:G))) p0))<|ckT<|Qd<|Qa<|Qp<|Qa<|mz [(11,.b uA)] [] [] []<|jn [(7,.b ((a.1==(6:G))|| (a.1==(7:G))))] [11] [] [] (a.1==(6:G)) (λe=>?_) (λe=>?_) ?_
  ·refine rn [0,1,4,5,6,7] [] (pn 2 V (pt 5 e p0)) ?_;exact zA (by rw[e]<;>kernel_rfl)
  ·refine rn [0,1,4,5,6,7] [] (pn 2 V (pf 5 e (pn 9 V p0))) ?_;exact zA (by rw[e]<;>kernel_rfl)
  refine Qa<|Qa<|jn [(45,.b (bif ((a.1==(6:G))|| (a.1==(7:G))) then(a.2.1==at_) else((a.1==(5:G))&&(a.2.1==at_))))] [] [] [] ((a.1==(6:G))|| (a.1==(7:G))) (λc=>?_) (λc=>?_) ?_
  ·refine rn [0,1,4,5,6,7,45] [] (pt 0 c (pn 12 V p0)) ?_;exact zA (by rw[c]<;>kernel_rfl)
  ·refine X4 (a.1==(5:G)) (λf=>?_) (λf=>?_)
   ·refine rn [0,1,4,5,6,7,45] [] (pf 0 c (pn 4 V (pt 7 f (pn 12 V p0)))) ?_;exact zA (by rw[c,f]<;>kernel_rfl)
   refine ru [(45,.b uB)] [] [] [] (pf 0 c (pn 4 V (pf 7 f p0))) ?_;exact zA (by rw[c,f]<;>kernel_rfl)
  refine ck (bif ((a.1==(6:G))|| (a.1==(7:G))) then(a.2.1==at_) else((a.1==(5:G))&&(a.2.1==at_))) (λg=>?_) (λg=>?_)
  ·refine rn [0,1,4,5,6,7] [] p0 ?_;refine Qa<|mz [(5,.i (uZ vA (k+1)))] [5,45] [] []<|jn [(57,.b (((a.1==(6:G))|| (a.1==(7:G)))&&(a.2.2.1==at_)))] [7] [] [] ((a.1==(6:G))|| (a.1==(7:G))) (λh=>?_) (λh=>?_) ?_
   ·refine rn [0,1,4,5,6,57] [] (pt 0 h (pn 4 V p0)) ?_;exact zA (by rw[h]<;>kernel_rfl)
   ·refine rn [0,1,4,5,6,57] [] (pf 0 h p0) ?_;exact zA (by rw[h]<;>kernel_rfl)
   refine ck (((a.1==(6:G))|| (a.1==(7:G)))&&(a.2.2.1==at_)) (λn=>?_) (λn=>?_)
   ·refine rn [0,1,4,5,6] [] p0 ?_;refine qn [0,1,4,5,6] [] (pw 1 b p0) ?_;exact xw _ (Qr V (Xg g (Xg n rfl)) U)
   refine Qd<|rn [0,1,4,5,6] [] (pw 1 b p0) ?_
   exact xw _ (Qr V (Xg g (Qi n rfl)) U)
  refine Qd<|Qa<|jn [(57,.b (((a.1==(6:G))|| (a.1==(7:G)))&&(a.2.2.1==at_)))] [7,45] [] [] ((a.1==(6:G))|| (a.1==(7:G))) (λj=>?_) (λj=>?_) ?_
  ·refine rn [0,1,4,5,6,57] [] (pt 0 j (pn 4 V p0)) ?_;exact zA (by rw[j]<;>kernel_rfl)
  ·refine rn [0,1,4,5,6,57] [] (pf 0 j p0) ?_;exact zA (by rw[j]<;>kernel_rfl)
  refine ck (((a.1==(6:G))|| (a.1==(7:G)))&&(a.2.2.1==at_)) (λd=>?_) (λd=>?_)
  ·refine rn [0,1,4,5,6] [] p0 ?_;refine qn [0,1,4,5,6] [] (pw 1 b p0) ?_;exact xw _ (Qr V (Qi g (Xg d rfl)) U)
  refine Qd<|rn [0,1,4,5,6] [] (pw 1 b p0) ?_
  exact xw _ (Qr V (Qi g (Qi d rfl)) U)
 ·exact Qa<|sn [0,1,4,5,6,11] [] (pl 2 q (pe 3 (zC ((b:G)<(q.length:G))) p0))<|ckF<|Xa<|xw _ (Xq O rfl U)
 exact sn [4] [] p0<|Qc<|pi [] (Vx m rfl)
def Hd(q:H Q9)(a:Y)(b:Q9)(_:uM):Rd (uE) (uM) (uM):=(bif ((!(V7 b (a:G)))|| (decide ((a:G)<((q.length:G)-1))&&((Ws q (a:G)) !=(1:G)))) then(.ret uB) else(.next ()))
def A4(_:Y)(_:uM):uM:=()
def Yy(q:H Q9):uE:=(Out.on (X8 (Hd q) A4 q 0 ()) (λ_=>(Q8 (q.length:G) 1 9)))
theorem V8(q:H Q9):ACalls vB 240 [.h q] (.b (Yy q)):=by
 refine en func240 λ_ _ _=>sn [0,2] [] p0 ?_
 refine Qa<|tn [0,2,3] [] p0<|mz [(2,.b uB),(3,.i 0)] [] [] []<|wT 0 0 .sh q (λk m=>?_)
 refine S7 (Hd q) A4 q () (λa _=> [(3,.i (a:G))]) [3] (λ_=> []) [3] wf0 (λa n O U=>?_) (λa n O U=>?_) (λo f=>?_)
 ·obtain⟨c,V⟩:=Xo (l:=q) (i:=a) O;refine Qa<|sn [0,2,3,7] [] (pl 2 q (pe 3 (zB ((a:G)<(q.length:G))) p0))<|ckT<|Qd<|Qa<|Qp<|Qa<|mz [(7,.b uA)] [] [] []<|jn [(29,.b ((!(V7 c (a:G)))|| (decide ((a:G)<((q.length:G)-1))&&((Ws q (a:G)) !=(1:G)))))] [7] [] [] (!(V7 c (a:G))) (λe=>?_) (λe=>?_) ?_
  ·have b:(V7 c (a:G))=uB:=V1 e;refine rn [0,2,3,29] [] (pn 2 V (pc 5 (cb b (Fy c (a:G))) (pe 6 (show .b (!uB)= .b uA from rfl) p0))) ?_;exact zA (by rw[e]<;>kernel_rfl)
  ·have b:(V7 c (a:G))=uA:=Z5 e;refine X4 (decide ((a:G)<((q.length:G)-1))) (λd=>?_) (λd=>?_)
   ·have g:=uW d;refine rn [0,2,3,29] [] (pn 2 V (pc 5 (cb b (Fy c (a:G))) (pe 6 (show .b (!uA)= .b uB from rfl) (pl 10 q (pe 11 (G6 (IntWalk.i64_in ((q.length:G)-1) (by omega))) (pt 12 d (pc 16 (Ra q (a:G)) p0))))))) ?_;exact zA (by rw[e,d]<;>kernel_rfl)
   have g:=uV d;refine rn [0,2,3,29] [] (pn 2 V (pc 5 (cb b (Fy c (a:G))) (pe 6 (show .b (!uA)= .b uB from rfl) (pl 10 q (pe 11 (G6 (IntWalk.i64_in ((q.length:G)-1) (by omega))) (pf 12 d p0)))))) ?_;exact zA (by rw[e,d]<;>kernel_rfl)
  refine ck ((!(V7 c (a:G)))|| (decide ((a:G)<((q.length:G)-1))&&((Ws q (a:G)) !=(1:G)))) (λh=>?_) (λh=>?_)
  ·refine sn [0,2,3] [] p0<|Qc ?_
   have j:(X8 (Hd q) A4 q 0 ())= .ret uB:=Kj V (Xg h rfl) U;exact pb [] (Pq j)
  refine Qd<|rn [0,2,3] [] (pw 1 a p0) ?_
  exact xw _ (Qr V (Qi h rfl) U)
 ·exact Qa<|sn [0,2,3,7] [] (pl 2 q (pe 3 (zC ((a:G)<(q.length:G))) p0))<|ckF<|Xa<|xw _ (Xq O rfl U)
 exact sn [2] [] (pl 1 q (pc 2 (Yw (q.length:G) 1 9) p0))<|Qc<|pb [] (Vx f rfl)
end
section
open Go.RowKit
theorem UY(a b c:G):Xv a b c=Q8 a b c:=rfl
theorem Kr{a b c:G}:Xv a b c=uA↔b<=a/\a<=c:=by simp[Xv]
theorem Vb{a b c:G}:Q8 a b c=uA↔b<=a/\a<=c:=by simp[Q8]
theorem Qgw(s:uF):Xl s=Y2 s:=rfl
theorem VY(s:uF):Qz s=Xy s:=by
 unfold Qz Xy Fw;by_cases h:s.size=1
 . simp only[h,Int.toNat_natCast,K0,Af];by_cases a:Jl s 0<97<;>by_cases b:Jl s 0>122<;>simp[a,b,Out.on,Q8,Bk]<;>omega
 have a:((s.size:G)==1)=uB:=by simpa using λe:(s.size:G)=1=>h (by omega)
 have b:Q8 (s.size:G) 1 1=uB:=by simp[Q8];omega
 rw[a,b,Bool.false_and];cases d:K0 (Af s) Bk (zG (s.size:G)) 0 () with
 | brk t=>rfl
 | ret r=>
   have key:∀n k,∀r,K0 (Af s) Bk n k ()= .ret r->r=uB:=by
    intro n
    induction n with
    | zero=>intro k r h;simp[K0] at h
    | succ n f=>
      intro k r h;simp only[K0,Af] at h;cases c:(decide (Jl s ((k:Y):G)<(97:G))|| decide (Jl s ((k:Y):G)>(122:G))) with
      | true=>rw[c] at h;simp only[uR] at h;cases h;rfl
      | false=>rw[c] at h;exact f _ _ h
   exact(key _ _ _ d).symm
theorem Qgx(v:Va):Xd v=X2 v:=rfl
theorem Qkx(n:Q9)(k:G):Y5 n k=V7 n k:=by
 unfold Y5 V7;rw[VY,Qgx,Qgw];simp only[UY];by_cases a:n.1=1
 . simp[a]
 by_cases b:n.1=2
 . simp[a,b,xV]
 by_cases c:n.1=3
 . simp[a,b,c];ac_rfl
 by_cases d:n.1=4
 . simp[a,b,c,d];cases h:(n.2.2.2.2.1==1)<;>simp_all<;>ac_rfl
 by_cases e:n.1=5
 . simp[a,b,c,d,e];ac_rfl
 by_cases f:n.1=6
 . simp[a,b,c,d,e,f];ac_rfl
 by_cases g:n.1=7
 . simp[a,b,c,d,e,f,g];ac_rfl
 by_cases i:n.1=8
 . simp[a,b,c,d,e,f,g,i,xV]
 by_cases j:n.1=9
 . simp[a,b,c,d,e,f,g,i,j,xV]
 simp only[uP.2 a,uP.2 b,uP.2 c,uP.2 d,uP.2 e,uP.2 f,uP.2 g,uP.2 i,uP.2 j,uT]
theorem Qor(q:H Q9)(k:G):Kk q k=Ws q k:=by
 unfold Kk Ws
 rw[N3 (f:=Kw k) (g:=Hp k) (e:=Ho) (e':=Bo) (λi a s=>by
  unfold Kw Hp;cases(a.2.1==k)<;>cases(a.2.2.1==k)<;>cases(a.1==6)<;>cases(a.1==7)<;>cases(a.1==5)<;>rfl) (λ_ _=>rfl)]
theorem Qgy(q:H Q9):Qj q=Yy q:=by
 unfold Qj Yy
 rw[N3 (f:=Z1 q) (g:=Hd q) (e:=Vy) (e':=A4) (λi a s=>by
  unfold Z1 Hd;rw[Qkx,Qor]) (λ_ _=>rfl)]
 rfl
theorem N7{q:H Q9}(h:Yy q=uA):Qj q=uA:=(Qgy q).trans h
theorem Qgz{q:H Q9}(h:Qj q=uA):(∃t,X8 (Z1 q) Vy q 0 ()= .brk t)/\Xv (q.length:G) 1 9=uA:=by
 unfold Qj at h;cases b:X8 (Z1 q) Vy q 0 () with
 | brk t=>rw[b] at h;exact⟨⟨t,rfl⟩,h⟩
 | ret r=>
   rw[b] at h;obtain rfl:r=uA:=h;exfalso
   have key:∀(l:H Q9) k,X8 (Z1 q) Vy l k ()≠ .ret uA:=by
    intro l
    induction l with
    | nil=>intro k h;simp[X8] at h
    | cons a l d=>
      intro k h;simp only[X8] at h;unfold Z1 at h;split at h
      . rename_i b;exact d _ h
      . cases h
      rename_i r b;cases h;revert b;generalize(_|| _:uE)=c;cases c<;>simp
   exact key _ _ b
theorem Fs{q:H Q9}(h:Qj q=uA):1<=q.length/\q.length<=9:=by
 have:=Kr.1 (Qgz h).2;omega
theorem T1{q:H Q9}(h:Qj q=uA){i:Y}{n:Q9}(hi:q[i]? =E n):Y5 n (i:G)=uA:=by
 obtain⟨⟨t,b⟩,_⟩:=Qgz h;have:=XE (λk a t=>by unfold Z1;generalize(_|| _:uE)=c;cases c<;>simp) b i n hi;unfold Z1 at this;rw[xY] at this;cases d:Y5 n (i:G) with
 | true=>rfl
 | false=>rw[d] at this;simp at this
theorem Qos{n:Q9}{k:G}(h:Y5 n k=uA)(a:0<=k/\k<4611686018427387904):(n.1=5\/n.1=6\/n.1=7->0<=n.2.1/\n.2.1<k)/\(n.1=6\/n.1=7->0<=n.2.2.1/\n.2.2.1<k):=by
 have hw:uZ vA (k-1)=k-1:=IntWalk.i64_in _ (by omega);unfold Y5 at h;rw[hw] at h;refine⟨λh5=>?_,λh5=>?_⟩
 . rcases h5 with h5 | h5 | h5<;>(simp[h5,Xv] at h;omega)
 rcases h5 with h5 | h5<;>(simp[h5,Xv] at h;omega)
theorem G7{q:H Q9}(h:Qj q=uA){k:G}(a:0<=k)(b:k<(q.length:G)):
 ((nth q (zG k)).1=5\/(nth q (zG k)).1=6\/(nth q (zG k)).1=7->0<=(nth q (zG k)).2.1/\(nth q (zG k)).2.1<k)/\((nth q (zG k)).1=6\/(nth q (zG k)).1=7->0<=(nth q (zG k)).2.2.1/\(nth q (zG k)).2.2.1<k):=by
 have hi:q[zG k]? =E (nth q (zG k)):=Dc (by omega);have:=T1 h hi;rw[Int.toNat_of_nonneg a] at this;exact Qos this ⟨a,by have:=(Fs h).2;omega⟩
section
variable {q:H Q9} {k:G} (h:Qj q=uA) (ha:0<=k) (hb:k<(q.length:G))
include h ha hb
theorem LN(a:((nth q (zG k)).1==(5:G))=uA):0<=(nth q (zG k)).2.1/\(nth q (zG k)).2.1<k:=(G7 h ha hb).1 (.inl (eq_of_beq a))
theorem VZ(a:((nth q (zG k)).1==(6:G))=uA):0<=(nth q (zG k)).2.1/\(nth q (zG k)).2.1<k:=(G7 h ha hb).1 (.inr (.inl (eq_of_beq a)))
theorem UZ(a:((nth q (zG k)).1==(7:G))=uA):0<=(nth q (zG k)).2.1/\(nth q (zG k)).2.1<k:=(G7 h ha hb).1 (.inr (.inr (eq_of_beq a)))
theorem LO(a:((nth q (zG k)).1==(6:G))=uA):0<=(nth q (zG k)).2.2.1/\(nth q (zG k)).2.2.1<k:=(G7 h ha hb).2 (.inl (eq_of_beq a))
theorem NA(a:((nth q (zG k)).1==(7:G))=uA):0<=(nth q (zG k)).2.2.1/\(nth q (zG k)).2.2.1<k:=(G7 h ha hb).2 (.inr (eq_of_beq a))
theorem Qmx(b:(((nth q (zG k)).1==(6:G))|| ((nth q (zG k)).1==(7:G)))=uA):(0<=(nth q (zG k)).2.1/\(nth q (zG k)).2.1<k)/\(0<=(nth q (zG k)).2.2.1/\(nth q (zG k)).2.2.1<k):=by
 have a:(nth q (zG k)).1=6\/(nth q (zG k)).1=7:=by simpa using b
 exact⟨(G7 h ha hb).1 (.inr a),(G7 h ha hb).2 a⟩
end
end
end Go.Proofs.YtkdnkiggkgakmaaGreatDoor
