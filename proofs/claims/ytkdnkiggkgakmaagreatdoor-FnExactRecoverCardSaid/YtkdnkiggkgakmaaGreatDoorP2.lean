/- Texts of this proof, put together by a program: Zb, Gs. -/
import Derived.Test.YtkdnkiggkgakmaaGreatDoorP1
import Derived.Great.BuildSlice
import Derived.Deep.AppendSrc
import Derived.Deep.DeepAppendWide
import Derived.Lib.SmallJoins
import Derived.Lib.LaidTab
import Derived.Lib.Space
import Derived.Lib.ItoaNum
import Derived.KernelRfl
import Derived.Laws.MakeOwn
set_option linter.unusedVariables false
set_option linter.unusedSimpArgs false
namespace Go.Proofs.YtkdnkiggkgakmaaGreatDoor
open _root_ renaming List → Y, Nat → W, if_neg → D, Option → uA, if_pos → uB, Bool → uD, Array → uE, cond_true → uF, cond_false → uI, congrArg → uJ, of_decide_eq_true → uK
open _root_.Bool renaming true → O, false → E
open _root_.Go renaming World → I, Value → H, Program → uC, TypeId → uG, maxLen → uH
open _root_.Option renaming some → U, none → S
open _root_.Array renaming getElem?_toList → yJ, ext' → yS, length_toList → yX
open _root_.Bool renaming and_eq_true → zE, not_eq_true' → zT, or_eq_true → yT
open _root_.Classical renaming byContradiction → zY
open _root_.Int renaming toNat → xC
open _root_.List renaming mem_append_right → zF, mem_append_left → zG, nodup_append → zH, mem_cons_of_mem → zJ, mem_append → zK, mem_cons_self → zL, mem_cons → zM, nodup_nil → zO, nodup_cons → zQ, eq_nil_of_length_eq_zero → zU, replicate → yB, take_append_of_le_length → yC, take_of_length_le → yD, mem_singleton → yE, flatten_cons → yF, append_assoc → yG, length_append → yI, map_cons → yL, replicate_succ → yN, take_append_drop → yV, take_left → yW
open _root_.Nat renaming le_refl → zR, mul_le_mul_right → zS, beq → zV, zero_le → zX, add_mul → zZ, add_sub_cancel_left → yA, beq_eq → yH, ble → yK, one_mul → yM, blt → yO, le_trans → yP, add_lt_add_iff_right → yQ, zero_add → yR, min_eq_left → yU, add_assoc → yY, blt_eq → yZ, add_zero → xA, zero_mul → xB
open _root_.Option renaming map_eq_some_iff → zW
open _root_.Option.some renaming inj → zD, injEq → zN
open _root_.Prod.mk renaming injEq → zP
section
open Go.RowKit
theorem Cy{k:W}:∀{l:Y W},Nr k l=O↔k∈l
 | []=>by simp[Nr]
 | x::r=>by
   simp only[Nr,yT,yH,Cy (l:=r),zM];exact⟨λh=>h.elim (λe=> .inl e.symm) .inr,λh=>h.elim (λe=> .inl e.symm) .inr⟩
theorem Bh:∀{l:Y W},Ao l=O↔l.Nodup
 | []=>by simp[Ao]
 | x::r=>by
   simp only[Ao,zE,zT,zQ,Bh (l:=r)];exact⟨λh=>⟨λa=>by rw[Cy.2 a] at h;exact absurd h.1 (by simp),h.2⟩,λh=>⟨by cases a:Nr x r with | false=>rfl | true=>exact absurd (Cy.1 a) h.1,h.2⟩⟩
section
variable {N:W} {w0:Base} {F0:W->Prop} {J J':Inj} {a:Act} {w w':I} {s:St}
theorem Rel.grab3(h:Rel N w0 F0 J a w s)(x:uA W)(a4:∀d,x=U d->d<N)(r:Res)(v:H)(nk:W)(gone:Y W)(a5:r.kb=S)(a8:r.bx=S)
 (hb:w0.Keeps w') (ad:w.heap.size<=w'.heap.size) (hB:J'.B=J.B) (hL:∀k,k≠nk->J'.L k=if k∈gone then [] else J.L k)
 (a6:∀b,J.F b->J'.F b) (z:∀b,J'.F b->J.F b\/((∃k,k∈gone/\b∈J.L k)/\b∉J'.L nk)\/(w.heap.size<=b/\b<w'.heap.size/\b∉J'.L nk))
 (V:∀k,k∉gone->k≠nk->get r.rl k=S) (y:nk∉gone->get r.rl nk=U S)
 (hT:∀k,k∈gone->get r.rl k=U S\/(get r.rl k=U (U .sh)/\∀b,b∈J.L k->J'.F b/\w'.heap[b]? =w.heap[b]?)\/(get r.rl k=U (U (.vw nk))/\∀b,b∈J.L k->(b∈J'.L nk\/J'.F b)/\w'.heap[b]? =w.heap[b]?))
 (hS:∀b,b<w.heap.size->(∀k,k∈gone->b∉J.L k)->w'.heap[b]? =w.heap[b]?)
 (a9:(J'.L nk).Nodup) (a1:∀b,b∈J'.L nk->b<w'.heap.size/\(w.heap.size<=b\/∃k,k∈gone/\b∈J.L k))
 (hv:x≠S->AR J' w' v r.av):Rel N w0 F0 J' (a.put x v) w' (s.step x r):=by
 have a2:∀b,J.F b->∀k,b∉J.L k:=λb n k g=>(h.lo k b g).2.2 n
 have aa:∀b,J'.F b->b∉J'.L nk:=λb n g=>by
  rcases z b n with n | ⟨_,q⟩ | ⟨_,_,q⟩
  . rcases(a1 b g).2 with a7 | ⟨k,_,f⟩
    . have:=(h.fl b n).1;omega
    exact a2 b n k f
  . exact q g
  exact q g
 have h0:w0.w.heap.size<=w.heap.size:=h.below.size
 refine h.upd x a4 r v hb ⟨λb n=>⟨a6 b n,hS b (h.fl b n).1 λk _=>a2 b n k⟩,λk f=>?_,λk f b g=>?_,λk k' f b g=>?_,λk t f=>?_,λk _=>by rw[hB],λk d m i o cs f=>by
  have l:k∈gone:=zY λl=>by
   by_cases q:k=nk
   . subst q;rw[y l] at f;cases f
   rw[V k l q] at f;cases f
  rcases hT k l with e | ⟨e,_⟩ | ⟨e,_⟩<;>rw[e] at f<;>cases f⟩
  ⟨λb n=>?_,λb n=>a6 b (h.f0 b n),λk=>?_,λk b g=>?_,λk k' b g j=>?_⟩ hv (λk c f _=>?_) (λk c f=>by rw[a8] at f;cases f) (λk e=>by rw[a5] at e;cases e)
 . have l:k∉gone:=λl=>by
    rcases hT k l with e | ⟨e,_⟩ | ⟨e,_⟩<;>rw[e] at f<;>cases f
   have q:k≠nk:=λe=>by subst e;rw[y l] at f;cases f
   refine⟨by rw[hL k q,D l],λb g=>hS b (h.lo k b g).2.1 λk' p j=>?_⟩;exact l (h.dj k k' b g j▸p)
 . have l:k∈gone:=zY λl=>by
    by_cases q:k=nk
    . subst q;rw[y l] at f;cases f
    rw[V k l q] at f;cases f
   rcases hT k l with e | ⟨_,e⟩ | ⟨e,_⟩
   . rw[e] at f;cases f
   . exact e b g
   rw[e] at f;cases f
 . have l:k∈gone:=zY λl=>by
    by_cases q:k=nk
    . subst q;rw[y l] at f;cases f
    rw[V k l q] at f;cases f
   rcases hT k l with e | ⟨e,_⟩ | ⟨e',e⟩
   . rw[e] at f;cases f
   . rw[e] at f;cases f
   rw[e'] at f;obtain rfl:nk=k':=by simpa using f
   exact e b g
 . have l:k∈gone:=zY λl=>by
    by_cases q:k=nk
    . subst q;rw[y l] at f;cases f
    rw[V k l q] at f;cases f
   rcases hT k l with e | ⟨e,_⟩ | ⟨e,_⟩<;>rw[e] at f
   . cases f
   . exact .inl (by simpa using f.symm)
   exact .inr (.inl ⟨nk,by simpa using f.symm⟩)
 . rcases z b n with n | ⟨⟨k,_,g⟩,_⟩ | ⟨h1,u,_⟩
   . have:=h.fl b n;exact⟨by omega,this.2⟩
   . have:=h.lo k b g;exact⟨by omega,.inr this.1⟩
   exact⟨u,.inr (.inl (by omega))⟩
 . by_cases f:k=nk
   . rw[f];exact a9
   rw[hL k f];split
   . simp
   exact h.nd k
 . by_cases f:k=nk
   . subst f;obtain⟨h1,u⟩:=a1 b g;refine⟨?_,h1,λn=>aa b n g⟩;rcases u with u | ⟨k',_,j⟩
     . exact .inl (by omega)
     exact(h.lo k' b j).1
   rw[hL k f] at g;split at g
   . simp at g
   rename_i l;obtain⟨h1,u,h3⟩:=h.lo k b g;refine⟨h1,by omega,λn=>?_⟩;rcases z b n with n | ⟨⟨k',a3,j⟩,_⟩ | ⟨h4,_,_⟩
   . exact h3 n
   . exact l (h.dj k k' b g j▸a3)
   omega
 . have key:∀k,k≠nk->b∈J'.L nk->b∈J'.L k->False:=λk f h1 u=>by
    rw[hL k f] at u;split at u
    . simp at u
    rename_i l;rcases(a1 b h1).2 with a7 | ⟨k',a3,j⟩
    . have:=(h.lo k b u).2.1;omega
    exact l (h.dj k k' b u j▸a3)
   by_cases f:k=nk
   . by_cases p:k'=nk
     . rw[f,p]
     subst f;exact(key k' p g j).elim
   by_cases p:k'=nk
   . subst p;exact(key k f j g).elim
   rw[hL k f] at g;rw[hL k' p] at j;split at g
   . simp at g
   split at j
   . simp at j
   exact h.dj k k' b g j
 obtain⟨h1,u,h3,ae,e,h4,_⟩:=h.bo k c f;refine⟨by rw[a5];simp,λn=>?_,λk' g=>?_,hS _ (Xb h4) λk' _=>h3 k'⟩
 . rcases z _ n with n | ⟨⟨k',_,g⟩,_⟩ | ⟨h9,_,_⟩
   . exact u n
   . exact h3 k' g
   have:=Xb h4;omega
 by_cases p:k'=nk
 . subst p;rcases(a1 _ g).2 with a7 | ⟨ab,_,j⟩
   . have:=Xb h4;omega
   exact h3 ab j
 rw[hL k' p] at g;split at g
 . simp at g
 exact h3 k' g
theorem Rel.grab(h:Rel N w0 F0 J a w s)(e:uA W)(g:∀d,e=U d->d<N)(r:Res)(v:H)(f:W)(c:Y W)(i:r.kb=S)(j:r.bx=S)
 (l:w0.Keeps w') (m:w.heap.size<=w'.heap.size) (x:J'.B=J.B) (y:∀k,k≠f->J'.L k=if k∈c then [] else J.L k)
 (n:∀b,J.F b->J'.F b) (o:∀b,J'.F b->J.F b\/(∃k,k∈c/\b∈J.L k)/\b∉J'.L f)
 (p:∀k,k∉c->k≠f->get r.rl k=S) (q:f∉c->get r.rl f=U S)
 (z:∀k,k∈c->get r.rl k=U S\/(get r.rl k=U (U .sh)/\∀b,b∈J.L k->J'.F b/\w'.heap[b]? =w.heap[b]?)\/(get r.rl k=U (U (.vw f))/\∀b,b∈J.L k->(b∈J'.L f\/J'.F b)/\w'.heap[b]? =w.heap[b]?))
 (V:∀b,b<w.heap.size->(∀k,k∈c->b∉J.L k)->w'.heap[b]? =w.heap[b]?)
 (t:(J'.L f).Nodup) (u:∀b,b∈J'.L f->b<w'.heap.size/\(w.heap.size<=b\/∃k,k∈c/\b∈J.L k))
 (hv:e≠S->AR J' w' v r.av):Rel N w0 F0 J' (a.put e v) w' (s.step e r):=
 h.grab3 e g r v f c i j l m x y n (λb l=>(o b l).imp id .inl) p q z V t u hv
def Inj.box(J:Inj)(d b:W):Inj:=⟨J.F,J.L,λk=>if k=d then b else J.B k⟩
theorem Keeps.box{c:C}(g:Px c=O)(f:∀b,b<w.heap.size->w'.heap[b]? =w.heap[b]?)(h:Rel N w0 F0 J a w s)(d b:W):Keeps J (J.box d b) w w' c:=by
 refine⟨λx e=>⟨e,f x (h.fl x e).1⟩,λk _=>⟨rfl,λx e=>f x (h.lo k x e).2.1⟩,λk i=>?_⟩;cases c<;>simp_all [C.bkeys,Px]
theorem All2.box{vs:Y H}{cs:Y C}(e:All2 (CR J w) vs cs)(c:Ai Px cs=O)(f:∀b,b<w.heap.size->w'.heap[b]? =w.heap[b]?)(h:Rel N w0 F0 J a w s)(d b:W):All2 (CR (J.box d b) w') vs cs:=by
 induction e with
 | nil=>exact .nil
 | cons g _ i=>
   simp only[Ai,zE] at c;exact .cons (g.keep (Keeps.box c.1 f h d b)) (i c.2)
theorem Rel.alloc(h:Rel N w0 F0 J a w s)(d:W)(hd:d<N)(g:uE H)(e:uG)(cs:Y C)(r:Ai Px cs=O)(t:All2 (CR J w) g.toList cs):
 Rel N w0 F0 (J.box d w.heap.size) (a.put (U d) (.pointer (U ⟨w.heap.size,0,S⟩))) (w.alloc (.cells g e (0,0))) (s.step (U d) ⟨.one (.ptr d 0), [],U d,U (d,cs)⟩):=by
 have hw:∀b,b<w.heap.size->(w.alloc (.cells g e (0,0))).heap[b]? =w.heap[b]? :=λb hb=>Below.heap_alloc w _ b hb
 have q:=h.below.size;have z:(w.alloc (.cells g e (0,0))).heap.size=w.heap.size+1:=by simp
 refine h.upd (U d) (λV e=>by cases e;exact hd) _ _ (h.below.alloc q _) ⟨λb hb=>⟨hb,hw b (h.fl b hb).1⟩,λk _=>⟨rfl,λb hb=>hw b (h.lo k b hb).2.1⟩,(λ_ f=>by cases f),(λ_ _ f=>by cases f),(λ_ _ f=>by cases f),(λk f=>?_),(λ_ _ _ _ _ _ f=>by cases f)⟩
  ⟨λb hb=>⟨by have:=(h.fl b hb).1;omega,(h.fl b hb).2⟩,h.f0,h.nd,λk b hb=>⟨(h.lo k b hb).1,by have:=(h.lo k b hb).2.1;omega,(h.lo k b hb).2.2⟩,h.dj⟩ (λ_=>?_) (λk c f j=>?_) (λk c f=>?_) (λk e=>by cases e;exact hd)
 . show(if k=d then _ else J.B k)=J.B k;rw[D (λe=>f (by simp[e]))]
 . show Value.pointer _=_;simp[Inj.box]
 . have l:k≠d:=λe=>j (d,cs) rfl e.symm
   obtain⟨h1,u,v,i,e',m,_⟩:=h.bo k c f;exact⟨by simpa using λe=>l e.symm,u,v,hw _ (Xb m)⟩
 simp only[zN,zP] at f;obtain⟨rfl,rfl⟩:=f;have n:(J.box d w.heap.size).B d=w.heap.size:=by simp[Inj.box]
 rw[n];refine⟨.inl q,λx=>by have:=(h.fl _ x).1;omega,λo y=>by have:=(h.lo o _ y).2.1;omega,⟨g,e,heap_alloc_new w _,t.box r hw h d _⟩,λo c' p _ hB=>?_⟩;obtain⟨_,_,_,i,e',m,_⟩:=h.bo o c' p;have:=Xb m;omega
theorem Rel.store(h:Rel N w0 F0 J a w s)(j:uA W)(o:∀d,j=U d->d<N)(k:W)(cells cs:Y C)(g:get s.bx k=U cells)(t i:uE H)(e:uG)(hg:w.heap[J.B k]? =U (.cells t e (0,0)))
 (V:w'.heap[J.B k]? =U (.cells i e (0,0))) (l:∀b,b≠J.B k->w'.heap[b]? =w.heap[b]?) (ho:w'.os=w.os) (ht:w'.tape=w.tape) (hu:w'.output=w.output) (hz:w'.heap.size=w.heap.size) (hv:All2 (CR J w) i.toList cs) (v:H):
 Rel N w0 F0 J (a.put j v) w' (s.step j ⟨.one .dead, [],S,U (k,cs)⟩):=by
 obtain⟨p,q,r,_⟩:=h.bo k cells g;have y:∀b,J.F b->w'.heap[b]? =w.heap[b]? :=λb hb=>l b λe=>q (e▸hb)
 have z:∀k' b,b∈J.L k'->w'.heap[b]? =w.heap[b]? :=λk' b hb=>l b λe=>r k' (e▸hb)
 have m:∀c,Keeps J J w w' c:=λc=>⟨λb hb=>⟨hb,y b hb⟩,λk' _=>⟨rfl,z k'⟩,λ_ _=>rfl⟩
 refine h.upd j o _ v (h.below.step ho ht hu (by omega) λb _ hb=>l b λe=>hb (e▸p)) ⟨λb hb=>⟨hb,y b hb⟩,λk' _=>⟨rfl,z k'⟩,(λ_ g=>by cases g),(λ_ _ g=>by cases g),(λ_ _ g=>by cases g),(λ_ _=>rfl),(λ_ _ _ _ _ _ g=>by cases g)⟩
  ⟨λb hb=>⟨by have:=(h.fl b hb).1;omega,(h.fl b hb).2⟩,h.f0,h.nd,λk b hb=>⟨(h.lo k b hb).1,by have:=(h.lo k b hb).2.1;omega,(h.lo k b hb).2.2⟩,h.dj⟩ (λ_=>trivial) (λk' c' f n=>?_) (λk' c' f=>?_)
 . have u:k≠k':=n (k,cs) rfl;obtain⟨_,h2,h3,_⟩:=h.bo k' c' f;exact⟨by simp,h2,h3,l _ λe=>u (h.bi k' k c' cells f g e).symm⟩
 simp only[zN,zP] at f;obtain⟨rfl,rfl⟩:=f;refine⟨p,q,r,⟨i,e,V,hv.imp λx c _ hc=>hc.keep (m c)⟩,λk' c' f n hB=>?_⟩;exact n (h.bi k' k c' cells f g hB)
end
end
section
open Go.RowKit
def Qno(tt:Y (W×TI))(bn:Y (W×Y C))(a:uA W):Op->Y AV->uA (Res×Y Ob)
 | .alloc t, []=>
   (match a,get tt t with
   | some d,U ti=>bif Ai Px ti.zero then U (⟨.one (.ptr d 0), [],U d,U (d,ti.zero)⟩, []) else S
   | _,_=>S)
 | .box _ _, [v]=>
   (match a,v.flatCells with
   | some d,U cs=>bif Bq cs&&Ai Px cs then U (⟨.one (.ptr d 0), [],U d,U (d,cs)⟩, []) else S
   | _,_=>S)
 | .store t _ _, [.one (.ptr k off),v]=>
   (match get tt t,get bn k,v.flatCells with
   | some ti,U cells,U cs=>bif zV cs.length ti.size&&Bq cs&&yK (off+ti.size) cells.length then U (⟨.one .dead, [],S,U (k,cells.take off++cs++cells.drop (off+ti.size))⟩, []) else S
   | _,_,_=>S)
 | .buildSlice t len ps,avs=>
   (match a,get tt t,Ts 0 ps.toList avs with
   | some d,U ⟨.sli e,_,_,_⟩,U css=>(match get tt e,LT css with
     | some ei,U rows=>bif zV css.length len&&WU ei.size css&&yK (len*ei.size) 1000&&yO 0 ei.size&& !(Nr (64*d) (Qu css.flatten))&&Ao (Qu css.flatten) then
      U (bif Mk css.flatten then⟨.one (.slc (.own O (64*d)) ei.size rows),(64*d,S)::ZI (64*d) (Qu css.flatten),S,S⟩
       else⟨.one (.slc (.own E (64*d)) ei.size rows),(64*d,S)::X7 (Qu css.flatten),S,S⟩, [])
       else S
     | _,_=>S)
   | _,_,_=>S)
 | _,_=>S
section
variable {P:uC} {N:W} {w0:Base} {F0:W->Prop} {J:Inj} {a:Act} {w:I} {s:St}
theorem V4{o:Oper}{K:Act->I->Prop}{Q:Exit->Act->I->Prop}{v:H}{w':I}(h:(execOp a.eval o).run P w= .ok (.value v) w')(k:K (a.put o.dst v) w'):o.wp P a w K Q:=by
 unfold Oper.wp;rw[h];exact k
theorem ZJ{o:Oper}{K:Act->I->Prop}{Q:Exit->Act->I->Prop}{w':I}(h:(execOp a.eval o).run P w= .ok .skip w')(k:K (a.put o.dst undef) w'):o.wp P a w K Q:=by
 unfold Oper.wp;rw[h];exact k
theorem Qda{v:H}{x:AV}(h:RT v=U x):AR J w v x:=by
 unfold RT at h;split at h
 . rename_i k n;cases hb:(decide (k.min<=n)&&decide (n<=k.max)) with
   | false=>rw[hb] at h;cases h
   | true=>
     rw[hb] at h;obtain rfl:=zD h;simp at hb;exact⟨rfl,hb⟩
 . obtain rfl:=zD h;rfl
 . rename_i t;cases hb:yK t.size 1000000 with
   | false=>rw[hb] at h;cases h
   | true=>
     rw[hb] at h;obtain rfl:=zD h;exact⟨rfl,yP (by simpa using hb) (by decide)⟩
 . obtain rfl:=zD h;exact⟨rfl,S,rfl⟩
 . obtain rfl:=zD h;exact trivial
 cases h
theorem Qnp(h:Rel N w0 F0 J a w s){x:Operand}{v:AV}(b:BZ s x=U v):AR J w (a.eval x) v:=by
 cases x with
 | tmp t=>exact h.tm t v b
 | const c=>exact Qda b
 | func f=>obtain rfl:=zD b;rfl
 | global g=>cases b
theorem Dt(h:Rel N w0 F0 J a w s){xs:Y Operand}{vs:Y AV}(b:All2 (λx v=>BZ s x=U v) xs vs):All2 (λx v=>AR J w (a.eval x) v) xs vs:=b.imp λ_ _ _ c=>Qnp h c
theorem Qa2{n:W}:∀(vs:Y H) (i:W) (cells:uE H),(∀v,v∈vs->v.cells.size=n)->cells.size=(i+vs.length)*n->
 ∃out,Instr.fill (λi=>U (i*n,n)) cells ((List.range' i vs.length).zip vs)=U out/\out.toList=cells.toList.take (i*n)++vs.flatMap (·.cells.toList)
 | [],i,cells,_,hs=>⟨cells,rfl,by simp;rw[yD (by simp[hs])]⟩
 | v ::vs,i,cells,hn,hs=>by
   have b:=hn v zL
   have a:i*n+v.cells.toList.length<=cells.size:=by
    simp only[yX,b,hs,List.length_cons];have:(i+1)*n<=(i+(vs.length+1))*n:=zS _ (by omega);rw[zZ,yM] at this;exact this
   have c:=WZ v.cells.toList (i*n) 0 cells a;rw[xA] at c
   have d:v.cells.zipIdx.foldl (λcs x=>cs.setIfInBounds (i*n+x.2) x.1) cells=putCells cells (i*n) v.cells.toList:=by
    rw[←c,←Array.foldl_toList];simp
   obtain⟨out,e,f⟩:=Qa2 (n:=n) vs (i+1) (putCells cells (i*n) v.cells.toList) (λu g=>hn u (zJ _ g)) (by rw[Io,hs,List.length_cons];congr 1;omega);refine⟨out, ?_, ?_⟩
   . simp only[List.length_cons,List.range'_succ,List.zip_cons_cons,Instr.fill];rw[D (by simp[b];simpa [b] using a)];exact(uJ (λz=>Instr.fill _ z _) d).trans e
   rw[f,Nu a]
   have h:(cells.toList.take (i*n)++v.cells.toList).length=(i+1)*n:=by
    simp only[yI,List.length_take,yX,b,zZ,yM];rw[yU (by simp[b] at a;omega)]
   rw[←h,yW];simp
theorem Qa3 :∀{ps:Y (W×Operand)} {avs:Y AV} {css:Y (Y C)} {i n:W} {ρ:Operand->H},Ts i ps avs=U css->WU n css=O->All2 (λx v=>AR J w (ρ x) v) (ps.map (·.2)) avs->
 (ps.map λp=>(p.1,ρ p.2))=(List.range' i css.length).zip (ps.map λp=>ρ p.2)/\ps.length=css.length/\(∀v,v∈ps.map (λp=>ρ p.2)->v.cells.size=n)/\All2 (CR J w) ((ps.map λp=>ρ p.2).flatMap (·.cells.toList)) css.flatten
 | [], [],css,i,n,ρ,h,_,_=>by
   obtain rfl: []=css:=by simpa [Ts] using h
   exact⟨rfl,rfl,by simp,.nil⟩
 | [],_::_,_,_,_,_,h,_,_=>by simp[Ts] at h
 | _::_, [],_,_,_,_,h,_,_=>by simp[Ts] at h
 | (j, x) ::ps,v::avs,css,i,n,ρ,h,hl,hv=>by
   simp only[Ts] at h;cases a:zV i j with
   | false=>rw[a] at h;cases h
   | true =>
     rw[a] at h;obtain rfl:i=j:=by simpa using a
     simp only[uF] at h;split at h
     . rename_i cs r d e;obtain rfl:=zD h;simp only[WU,zE,yH] at hl;cases hv with
       | cons f g=>
         obtain⟨k,l,m,o⟩:=Qa3 e hl.2 g;have b:=M7 f d hl.1.2;have c:(ρ x).cells.size=n:=by have:=b.length;simp at this;omega
         refine⟨?_,by simp[l],λu hu=>?_, ?_⟩
         . simp only[yL,List.length_cons,List.range'_succ,List.zip_cons_cons,k]
         . simp only[yL,zM] at hu;rcases hu with rfl | hu
           . exact c
           exact m u hu
         simp only[yL,List.flatMap_cons,yF];exact b.append o
     cases h
def Inj.of(J:Inj):Y C->Y W
 | []=> []
 | .slc (.own O k) _ _::r=>J.L k++J.of r
 | _::r=>J.of r
theorem Qfh{X : Nat -> Prop}{w' : World}{v:H}{c:C}{p:PV}(h:CR J w v c)(a:Qp6 c=U p)(e:∀b,J.F b->X b/\w'.heap[b]? =w.heap[b]?)(f:∀k,c.key=U k->∀b,b∈J.L k->X b/\w'.heap[b]? =w.heap[b]?):VV X w' v p:=by
 cases c with
 | int=>obtain rfl:=zD a;obtain⟨rfl,h⟩:=h;exact .int h
 | bool=>obtain rfl:=zD a;obtain rfl:=h;exact .bool _
 | str=>obtain rfl:=zD a;obtain⟨rfl,h⟩:=h;exact .str h
 | slc t n l=>
   obtain rfl:=zD a;cases t with
   | sh=>exact VV.keep e h
   | emp=>obtain⟨rfl,oa,rfl⟩:=h;exact .emp oa n (zX _)
   | vw k => exact VV.keep (fun b hb => by rcases hb with hb | hb
                                           . exact f k rfl b hb
                                           exact e b hb) h
   | own d k=>
     cases d with
     | true=>exact OwnDeep.vv h (f k rfl)
     | false=>exact OwnTop.vv h e (f k rfl)
   | put=>exact h.elim
 | raw u=>obtain rfl:=zD a;obtain⟨rfl,g,i⟩:=h;exact .raw g i
 | _=>cases a
theorem QP{X : Nat -> Prop}{w' : I}:∀{vs:Y H} {cs:Y C} {ps:Y PV},All2 (CR J w) vs cs->G5 cs=U ps->(∀b,J.F b->X b/\w'.heap[b]? =w.heap[b]?)->(∀k,k∈Qu cs->∀b,b∈J.L k->X b/\w'.heap[b]? =w.heap[b]?)->VC X w' vs ps
 | _, _, ps, .nil, h, _, _ => by obtain rfl: []=ps:=by simpa [G5] using h
                                 exact .nil
 | _,_,ps,.cons (b:=c) h1 h2,h,hF,hL=>by
   simp only[G5] at h;split at h
   . rename_i p d e f;obtain rfl:=zD h;exact .cons (Qfh h1 e hF λk a=>hL k (by simp[Qu,a])) (QP h2 f hF λk a=>hL k (by simp only[Qu];exact zF _ a))
   cases h
theorem Qnq{w':I}{v:H}{c:C}{p:PV}(h:CR J w v c)(a:Qp6 c=U p)(hd:Qnj c=O)(i:∀k,c.key=U k->∀b,b∈J.L k->w'.heap[b]? =w.heap[b]?):∃L,OV w' L v p/\L.Nodup/\∀b,b∈L->b∈J.of [c]:=by
 cases c with
 | int=>obtain rfl:=zD a;obtain⟨rfl,h⟩:=h;exact⟨[],.int h,zO,λb hb=>by simp at hb⟩
 | bool=>obtain rfl:=zD a;obtain rfl:=h;exact⟨[],.bool _,zO,λb hb=>by simp at hb⟩
 | str=>obtain rfl:=zD a;obtain⟨rfl,h⟩:=h;exact⟨[],.str h,zO,λb hb=>by simp at hb⟩
 | slc t n l=>
   obtain rfl:=zD a;cases t with
   | emp=>obtain⟨rfl,oa,rfl⟩:=h;exact⟨[],.emp oa n,zO,λb hb=>by simp at hb⟩
   | own d k=>
     cases d with
     | true=>
       simp only[Inj.of,List.append_nil];obtain⟨L,e,f,g,_⟩:=h;exact⟨L,OV.keep e λb hb=>i k rfl b (g b hb),f,g⟩
     | false=>cases hd
   | _=>cases hd
 | raw u=>obtain rfl:=zD a;obtain⟨rfl,e,f⟩:=h;exact⟨[],.raw e f,zO,λb hb=>by simp at hb⟩
 | _=>cases a
theorem Inj.of_cons(J:Inj)(c:C)(r:Y C):J.of (c::r)=J.of [c]++J.of r:=by
 cases c with
 | slc t n l=>cases t with
   | own d k=>cases d<;>simp[Inj.of]
   | _=>simp[Inj.of]
 | _=>simp[Inj.of]
theorem FJ{w' : World} : ∀ {vs : List H} {cs:Y C} {ps:Y PV},All2 (CR J w) vs cs->G5 cs=U ps->Mk cs=O->(J.of cs).Nodup->(∀k,k∈Qu cs->∀b,b∈J.L k->w'.heap[b]? =w.heap[b]?)->∃L,OC w' L vs ps/\L.Nodup/\∀b,b∈L->b∈J.of cs
 | _, _, ps, .nil, h, _, _, _ => by obtain rfl: []=ps:=by simpa [G5] using h
                                    exact⟨[],.nil,zO,λb hb=>by simp at hb⟩
 | _, _,ps,.cons (b:=c) h1 h2,h,hd,hn,hL=>by
   simp only[G5] at h;simp only[Mk,zE] at hd;split at h
   . rename_i p i j l;obtain rfl:=zD h;rw[Inj.of_cons] at hn⊢;obtain⟨m,a,d⟩:=zH.1 hn;obtain⟨L1,n,o,f⟩:=Qnq h1 j hd.1 λk e=>hL k (by simp[Qu,e])
     obtain⟨L2,q,r,g⟩:=FJ h2 l hd.2 a λk e=>hL k (by simp only[Qu];exact zF _ e)
     refine⟨L1++L2,.cons n q,zH.2 ⟨o,r,λx s y t=>d x (f x s) y (g y t)⟩,λb hb=>?_⟩;rcases zK.1 hb with hb | hb
     . exact zG _ (f b hb)
     exact zF _ (g b hb)
   cases h
theorem S4{J:Inj}:∀{cs:Y C} {b:W},b∈J.of cs->∃k,k∈Qu cs/\b∈J.L k
 | [],b,h=>by simp[Inj.of] at h
 | c :: r,b,h=>by
   rw[Inj.of_cons] at h;rcases zK.1 h with h | h
   . cases c with
     | slc t n l=>cases t with
       | own d k=>cases d with
         | true=>exact⟨k,by simp[Qu,C.key,Tok.key],by simpa [Inj.of] using h⟩
         | false=>simp[Inj.of] at h
       | _=>simp[Inj.of] at h
     | _=>simp[Inj.of] at h
   obtain⟨k,a,e⟩:=S4 h;exact⟨k,by simp only[Qu];exact zF _ a,e⟩
theorem Qmn{J:Inj}:∀{cs:Y C},Mk cs=O->(∀c,c∈cs->∃p,Qp6 c=U p)->∀{k:W},k∈Qu cs->∀{b:W},b∈J.L k->b∈J.of cs
 | [],_,_,k,h,_,_=>by simp[Qu] at h
 | c :: r, hd,hp,k,h,b,hb=>by
   simp only[Mk,zE] at hd;simp only[Qu] at h;rw[Inj.of_cons];rcases zK.1 h with h | h
   . refine zG _ ?_;cases c with
     | slc t n l=>cases t with
       | own d f=>cases d with
         | true=>
           simp[C.key,Tok.key] at h;subst h;simpa [Inj.of] using hb
         | false=>cases hd.1
       | _=>simp_all [Qnj,C.key,Tok.key]
     | rptr t cs=>obtain⟨p,e⟩:=hp _ zL;cases e
     | ept d k n i o cs=>obtain⟨p,e⟩:=hp _ zL;cases e
     | _=>simp[C.key] at h
   exact zF _ (Qmn hd.2 (λc a=>hp c (zJ _ a)) h hb)
theorem QQ(h:Rel N w0 F0 J a w s):∀{cs:Y C},(Qu cs).Nodup->(J.of cs).Nodup
 | [],_=>by simp[Inj.of]
 | c :: r,hn=>by
   simp only[Qu] at hn;obtain⟨u,m,o⟩:=zH.1 hn;rw[Inj.of_cons];refine zH.2 ⟨?_,QQ h m,λb hb v f e=>?_⟩
   . cases c with
     | slc t n l=>cases t with
       | own d k=>cases d with
         | true=>simpa [Inj.of] using h.nd k
         | false=>simp[Inj.of]
       | _=>simp[Inj.of]
     | _=>simp[Inj.of]
   subst e;obtain⟨k,j,p⟩:=S4 hb;obtain⟨q,g,i⟩:=S4 f;have:=h.dj k q b p i;subst this;simp[Qu] at j;exact o k (by simp[j]) k g rfl
theorem LW:∀{cs:Y C} {ps:Y PV},G5 cs=U ps->∀c,c∈cs->∃p,Qp6 c=U p
 | [],_,_,c,hc=>by simp at hc
 | x ::r,ps,h,c,hc=>by
   simp only[G5] at h;split at h
   . rename_i p a b d;rcases zM.1 hc with rfl | hc
     . exact⟨p,b⟩
     exact LW d c hc
   cases h
theorem LX : ∀ {css : List (List C)} {rows : Y (Y PV)} {n:W},LT css=U rows->WU n css=O->G5 css.flatten=U rows.flatten/\rows.length=css.length/\∀r,r∈rows->r.length=n
 | [], rows, n, h, _ => by obtain rfl: []=rows:=by simpa [LT] using h
                           exact⟨rfl,rfl,by simp⟩
 | cs :: css, rows,n,h,hl=>by
   simp only[LT] at h;simp only[WU,zE,yH] at hl;split at h
   . rename_i p ps e1 e2;obtain rfl := Option.some.inj h;obtain⟨b,h2,f⟩:=LX e2 hl.2
     have happ :∀(cs a:Y C) (p d:Y PV),G5 cs=U p->G5 a=U d->G5 (cs++a)=U (p++d)/\p.length=cs.length:=by
      intro cs
      induction cs with
      | nil => intro a p d b h2;obtain rfl: []=p:=by simpa [G5] using b
               exact⟨h2,rfl⟩
      | cons c cs g=>
        intro a p d b h2;simp only[G5] at b;split at b
        . rename_i q i j k;obtain rfl:=zD b;obtain⟨g1,e⟩:=g a i d k h2;exact⟨by simp[G5,j,g1],by simp[e]⟩
        cases b
     obtain⟨g1,e⟩:=happ cs css.flatten p ps.flatten e1 b
     exact ⟨g1, by simp [h2], fun r hr => by rcases zM.1 hr with rfl | hr
                                             . omega
                                             exact f r hr⟩
   cases h
theorem VC.rows{X:W->Prop}{w:I}{n:W}:∀{rows:Y (Y PV)} {vs:Y H},VC X w vs rows.flatten->(∀r,r∈rows->r.length=n)->VR X w n vs rows
 | [],vs,h,_=>by cases h;exact .nil n
 | r::rows,vs,h,hn=>by
   have c:=h.length;simp only[yF,yI] at c;have a:=h.take r.length;have b:=h.drop r.length;simp only[yF,yW,List.drop_left] at a b;rw[←yV r.length vs];exact .cons a (hn r zL) (VC.rows b λr d=>hn r (zJ _ d))
theorem OC.split{w:I}:∀{ps a:Y PV} {L:Y W} {vs:Y H},OC w L vs (ps++a)->∃L1 L2 c b,L=L1++L2/\vs=c++b/\OC w L1 c ps/\OC w L2 b a
 | [],a,L,vs,h=>⟨[],L, [],vs,rfl,rfl,.nil,h⟩
 | p ::ps,a,L,vs,h=>by
   generalize d:p::ps++a=q at h;cases h with
   | nil=>cases d
   | cons e f=>
     cases d
     obtain⟨L1,L2,c,b,rfl,rfl,g,i⟩:=OC.split f;exact⟨_,L2,_,b,(yG ..).symm,rfl,.cons e g,i⟩
theorem OC.rows{w:I}{n:W}:∀{rows:Y (Y PV)} {L:Y W} {vs:Y H},OC w L vs rows.flatten->(∀r,r∈rows->r.length=n)->OR w n L vs rows
 | [],L,vs,h,_=>by cases h;exact .nil n
 | r::rows,L,vs,h,hn=>by
   obtain⟨L1,L2,a,b,rfl,rfl,c,d⟩:=OC.split h;exact .cons c (hn r zL) (OC.rows d λr e=>hn r (zJ _ e))
theorem FK{b k:W}:∀{keys:Y W},get (ZI b keys) k=if k∈keys then U (U (.vw b)) else S
 | []=>by simp[ZI,get]
 | x::r=>by
   simp only[ZI,get,FK (keys:=r),zM];by_cases a:x=k
   . simp[a]
   simp[a,λe=>a (Eq.symm e)];by_cases c:k=x
   . exact absurd c.symm a
   simp[c]
theorem U9{k:W}:∀{keys:Y W},get (X7 keys) k=if k∈keys then U (U .sh) else S
 | []=>by simp[X7,get]
 | x::r=>by
   simp only[X7,get,U9 (keys:=r),zM];by_cases a:x=k
   . simp[a]
   by_cases b:k=x
   . exact absurd b.symm a
   simp[a,b]
theorem A3{k:W}:∀{keys:Y W},get (Vc keys) k=if k∈keys then U S else S
 | []=>by simp[Vc,get]
 | x::r=>by
   simp only[Vc,get,A3 (keys:=r),zM];by_cases a:x=k
   . simp[a]
   by_cases b:k=x
   . exact absurd b.symm a
   simp[a,b]
end
end
section
open Go.RowKit
section
variable {P:uC} {N:W} {w0:Base} {F0:W->Prop} {J:Inj} {a:Act} {w:I} {s:St}
theorem Uk{α:Type}{k a:W}{x:α}{l:Y (W×α)}(h:k≠a):get ((a,x)::l) k=get l k:=by
 simp only[get];rw[D λe=>h e.symm]
set_option maxHeartbeats 1000000 in
theorem Qj3{tt:Y (W×TI)}(ab:Nq P tt=O){bn:Y (W×Y C)}{o:Oper}{ap:Y AV}{r:Res}{obs:Y Ob}(h:Qno tt bn o.dst o.op ap=U (r,obs))(y:∀d,o.dst=U d->d<N)
 (f:Rel N w0 F0 J a w s) (aq:All2 (λx v=>BZ s x=U v) o.op.operands.toList ap) (ar:∀k c,get bn k=U c->get s.bx k=U c) {K:Act->I->Prop} {Q:Exit->Act->I->Prop}
 (hK:∀J' a' w',Rel N w0 F0 J' a' w' (s.step o.dst r)->K a' w'):o.wp P a w K Q:=by
 have hv:=Dt f aq;generalize ho:o.op=op at h hv;generalize hd:o.dst=b2 at h;unfold Qno at h;split at h
 ·rename_i t;split at h
  . rename_i d ti hg;cases m:Ai Px ti.zero with
    | false=>rw[m] at h;cases h
    | true=>
      rw[m] at h;obtain⟨rfl,rfl⟩:(⟨.one (.ptr d 0), [],U d,U (d,ti.zero)⟩:Res)=r/\ []=obs:=by simpa using h
      obtain⟨ah,z,hi,_,_,hz,_,au⟩:=(Jc ab hg).info;refine V4 (v:= .pointer (U ⟨w.heap.size,0,S⟩)) (w':=w.alloc (.cells z.cells t (0,0))) (by simp[execOp,ho,Instr.alloc,zeroValue,U4 hi,hz,newVar,newRow]) ?_;rw[hd] at hK⊢;exact hK _ _ _ (f.alloc d (y d hd) z.cells t ti.zero m (FH au))
  cases h
 ·rename_i t px v;split at h
  . rename_i d cs ai;cases m:(Bq cs&&Ai Px cs) with
    | false=>rw[m] at h;cases h
    | true=>
      rw[m] at h;obtain⟨rfl,rfl⟩:(⟨.one (.ptr d 0), [],U d,U (d,cs)⟩:Res)=r/\ []=obs:=by simpa using h
      simp only[zE] at m;cases hv with
      | cons h1 _=>
        have a7:=M7 h1 ai m.1;refine V4 (v:= .pointer (U ⟨w.heap.size,0,S⟩)) (w':=w.alloc (.cells (a.eval px).cells t (0,0))) (by simp[execOp,ho,Instr.box,newVar,newRow]) ?_;rw[hd] at hK⊢;exact hK _ _ _ (f.alloc d (y d hd) _ t cs m.2 a7)
  cases h
 ·rename_i t px py k off v;split at h
  . rename_i ti cells cs hg j ai;cases m:(zV cs.length ti.size&&Bq cs&&yK (off+ti.size) cells.length) with
    | false=>rw[m] at h;cases h
    | true =>
      rw[m] at h;obtain⟨rfl,rfl⟩:(⟨.one .dead, [],S,U (k,cells.take off++cs++cells.drop (off+ti.size))⟩:Res)=r/\ []=obs:=by simpa using h
      simp only[zE,yH,Nat.ble_eq] at m;obtain⟨⟨c1,c2⟩,c3⟩:=m;cases hv with
      | cons h1 h2=>
        cases h2 with
        | cons h2 _=>
          have e1:a.eval px= .pointer (U ⟨J.B k,off,S⟩):=h1;have a7:=M7 h2 ai c2;obtain⟨_,_,_,a6,e,a4,a8⟩:=f.bo k cells (ar k cells j);have hn:(a.eval py).cells.toList.length=ti.size:=by rw[a7.length,c1]
          have av:off+(a.eval py).cells.toList.length<=a6.size:=by have:=a8.length;simp at this hn⊢;omega
          have aw:=run_storeCells_at P (J.B k) off e (a.eval py).cells.toList 0 a6 w a4 (by simpa using av) (Py a7 c2);simp only[xA] at aw;have a5:=Cw (P:=P) (Jc ab hg) w
          have V:(execOp a.eval o).run P w= .ok .skip (w.setRow (J.B k) (a6.toList.take off++(a.eval py).cells.toList++a6.toList.drop (off+(a.eval py).cells.toList.length)).toArray):=by
           have b3:(a.eval py).cells.size=ti.size:=by simpa using hn
           simp only[execOp,ho,Instr.storeAt,e1,Instr.sureAddr,storeVar,Sem.run_bind,Sem.run_pure,Result.andThen_ok,a5,b3];simp[aw]
          refine ZJ V (hK J _ _ ?_);rw[hd];refine f.store b2 (λd e=>y d (hd.trans e)) k cells _ (ar k cells j) a6 _ e a4 (setRow_heap w (J.B k) a6 _ e (0,0) a4) (λb hb=>setRow_other w (J.B k) b _ hb) rfl rfl rfl (by simp[World.setRow]) ?_ undef;rw[hn];exact((a8.take off).append a7).append (a8.drop _)
  cases h
 ·rename_i t len ps;split at h
  . rename_i d e n0 z0 q0 g hg b4;split at h
    . rename_i ei rows b5 aj;cases m:(zV g.length len&&WU ei.size g&&yK (len*ei.size) 1000&&yO 0 ei.size&& !(Nr (64*d) (Qu g.flatten))&&Ao (Qu g.flatten)) with
      | false=>rw[m] at h;cases h
      | true =>
        rw[m] at h;simp only[uF] at h;simp only[zE,yH,Nat.ble_eq,yZ,zT] at m;obtain⟨⟨⟨⟨⟨c1,c2⟩,c3⟩,c4⟩,c5⟩,c6⟩:=m;have ax:64*d∉Qu g.flatten:=λhm=>by rw[Cy.2 hm] at c5;cases c5
        have ay:=Bh.1 c6;obtain⟨ad,ak,al⟩:=LX aj c2;obtain⟨p1,p2,p3,p4⟩:=Qa3 b4 c2 (by simpa [Op.operands] using hv);have hu:=(Jc ab hg).sli;obtain⟨ah,z,hi,a5,bc,hz,bd,au⟩:=(Jc ab b5).info
        have am:∃zc:uE H,zc.size=len*ei.size/\∀(l:uE (W×H)) (cells:uE H),Instr.fill (λi=>U (i*ei.size,ei.size)) zc l.toList=U cells->
         (Instr.buildSlice t len l).run P w= .ok (.slice (U ⟨w.heap.size,0,S⟩) len len) (w.alloc (.cells cells e (0,0))):=by
         have az:¬(len*ei.size>2^24):=by omega
         by_cases h0:len*ei.size=0
         . refine⟨#[],by simp[h0],λl cells hf=>?_⟩;have b6:len*ah.size=0:=by rw[a5];exact h0
           rw[←a5] at hf;have b7:Array.map (λ_=>(default:H)) (Array.range 0)= #[]:=by apply Array.eq_empty_of_size_eq_zero;simp
           simp[Instr.buildSlice,run_underlying hu,sizeOf,U4 hi,b6,b7,hf,newRow]
         refine⟨(Array.range (len*ei.size)).map (z.cells[· % z.cells.size]!),by simp,λl cells hf=>run_buildSlice w t e len l cells ah z hu hi hz (by rw[a5];exact az) (by rw[a5];exact h0) ?_⟩;rw[a5];exact hf
        obtain⟨zc,b8,V⟩:=am;have ae:(ps.toList.map λp=>a.eval p.2).length=len:=by simp;rw[←c1,←p2];simp
        obtain⟨out,b9,b1⟩:=Qa2 (n:=ei.size) (ps.toList.map λp=>a.eval p.2) 0 zc p3 (by rw[b8,ae,yR])
        have an:Instr.fill (λi=>U (i*ei.size,ei.size)) zc ((ps.map λ(i,x)=>(i,a.eval x)).toList)=U out:=by
         have e9:(ps.map λ(i,x)=>(i,a.eval x)).toList=(ps.toList.map λp=>(p.1,a.eval p.2)):=by simp
         rw[e9,p1,show g.length=(ps.toList.map λp=>a.eval p.2).length by rw[ae,c1]];exact b9
        have V:=V _ _ an;simp only[xB,List.take_zero,List.nil_append] at b1
        have ao:(execOp a.eval o).run P w= .ok (.value (.slice (U ⟨w.heap.size,0,S⟩) len len)) (w.alloc (.cells out e (0,0))):=by
         simp only[execOp,ho,Sem.run_bind,V,Result.andThen_ok,Sem.run_pure]
        refine V4 ao ?_;rw[hd] at hK⊢;have hw:∀b,b<w.heap.size->(w.alloc (.cells out e (0,0))).heap[b]? =w.heap[b]? :=λb hb=>Below.heap_alloc w _ b hb
        have af:(w.alloc (.cells out e (0,0))).heap[w.heap.size]? =U (.cells out e (0,0)):=heap_alloc_new w _;have be:(w.alloc (.cells out e (0,0))).heap.size=w.heap.size+1:=by simp
        rw[←b1] at p4
        have a9:out.size=len*ei.size:=by
         have:=p4.length;have h3:=QP (X:=λ_=>True) (w':=w) p4 ad (λb _=>⟨trivial,rfl⟩) (λk _ b _=>⟨trivial,rfl⟩);have h4:=(VC.rows h3 al).length;simp at h4;rw[h4,ak,c1]
        have aa:out.toList.take (rows.length*ei.size)=out.toList:=yD (by rw[ak,c1,←a9];simp)
        have ba:len<=1073741824:=by
         have:len<=len*ei.size:=Nat.le_mul_of_pos_right _ c4;exact yP (yP this c3) (by decide)
        have bb:len<=uH:=yP ba (by decide);have q:rows.length=len:=ak.trans c1;cases u:Mk g.flatten with
        | true=>
          rw[u] at h;obtain⟨rfl,rfl⟩:(⟨.one (.slc (.own O (64*d)) ei.size rows),(64*d,S)::ZI (64*d) (Qu g.flatten),S,S⟩:Res)=r/\ []=obs:=by simpa using h
          refine hK ⟨J.F,λk=>if k=64*d then w.heap.size::J.of g.flatten else if k∈Qu g.flatten then [] else J.L k,J.B⟩ _ _ (f.grab (U d) (λd' e=>by cases e;exact y d hd) _ _ (64*d) (Qu g.flatten) rfl rfl (f.below.alloc f.below.size _) (by omega) rfl (λk j=>D j)
           (λb hb=>hb) (λb hb=> .inl hb) (λk j hn=>by rw[Uk hn,FK,D j]) (λ_=>by simp[get]) (λk j=> .inr (.inr ⟨?_,λb hb=>⟨.inl ?_,hw b (f.lo k b hb).2.1⟩⟩)) (λb hb _=>hw b hb) ?_ (λb hb=>?_) (λ_=>?_))
          . rw[Uk (λe:k=64*d=>ax (e▸j)),FK,uB j]
          . simp only[if_true];exact zJ _ (Qmn u (λc m=>LW ad c m) j hb)
          . simp only[if_true];refine zQ.2 ⟨λhm=>?_,QQ f ay⟩;obtain⟨k,_,hm⟩:=S4 hm;have:=(f.lo k _ hm).2.1;omega
          . simp only[if_true,zM] at hb;rcases hb with rfl | hb
            . exact⟨by omega,.inl (zR _)⟩
            obtain⟨k,j,hm⟩:=S4 hb;exact⟨by have:=(f.lo k b hm).2.1;omega,.inr ⟨k,j,hm⟩⟩
          show OwnDeep _ _ _ _ _;simp only[if_true];rw[←q];obtain⟨L,a1,a2,a3⟩:=FJ p4 ad u (QQ f ay) λk _ b hb=>hw b (f.lo k b hb).2.1
          refine⟨w.heap.size::L,.slc af (by rw[a9,q]) ?_ (zR _) ⟨by omega,by omega⟩,zQ.2 ⟨λhm=>?_,a2⟩,λb hb=>?_,.inr ⟨_,_,_,rfl,rfl⟩⟩
          . rw[aa];exact OC.rows a1 al
          . obtain⟨k,_,hm⟩:=S4 (a3 _ hm);have:=(f.lo k _ hm).2.1;omega
          rcases zM.1 hb with rfl | hb
          . exact zL
          exact zJ _ (a3 b hb)
        | false=>
          rw[u] at h;obtain⟨rfl,rfl⟩:(⟨.one (.slc (.own E (64*d)) ei.size rows),(64*d,S)::X7 (Qu g.flatten),S,S⟩:Res)=r/\ []=obs:=by simpa using h
          refine hK ⟨λb=>J.F b\/∃k,k∈Qu g.flatten/\b∈J.L k,λk=>if k=64*d then [w.heap.size] else if k∈Qu g.flatten then [] else J.L k,J.B⟩ _ _ (f.grab (U d) (λd' e=>by cases e;exact y d hd) _ _ (64*d) (Qu g.flatten) rfl rfl (f.below.alloc f.below.size _) (by omega) rfl (λk j=>D j)
           (λb hb=> .inl hb) (λb hb=>hb.imp id λj=>⟨j, ?_⟩) (λk j hn=>by rw[Uk hn,U9,D j]) (λ_=>by simp[get]) (λk j=> .inr (.inl ⟨?_,λb hb=>⟨.inr ⟨k,j,hb⟩,hw b (f.lo k b hb).2.1⟩⟩)) (λb hb _=>hw b hb) (by simp) (λb hb=>?_) (λ_=>?_))
          . obtain⟨k,_,hm⟩:=j;have:=(f.lo k b hm).2.1;simp only[if_true,yE];omega
          . rw[Uk (λe:k=64*d=>ax (e▸j)),U9,uB j]
          . simp only[if_true,yE] at hb;exact⟨by omega,.inl (by omega)⟩
          show OwnTop _ _ _ _ _ _;refine .inr ⟨w.heap.size,len,out,e,by simp,by rw[q],af,a9, ?_,by omega,bb,by omega⟩;rw[aa];exact VC.rows (QP p4 ad (λb hb=>⟨.inl hb,hw b (f.fl b hb).1⟩) λk j b hb=>⟨.inr ⟨k,j,hb⟩,hw b (f.lo k b hb).2.1⟩) al
    cases h
  cases h
 cases h
end
end
section
open Go.RowKit
def nOk(t:Tok)(n a:W):uD:=match t with
 | .emp=>O
 | _=>zV n a
def Qa4:Tok->uA (Y W×uD)
 | .emp=>U ([],O)
 | .own d k=>U ([k],d)
 | _=>S
def Pz(flat:uD):Tok->Y W×uD
 | .emp=>([],O)
 | .sh=>([],flat)
 | .own d k=>bif flat then([],O) else([k],d)
 | .vw k=>bif flat then([],O) else([k],E)
 | .put _ _ _ _ _=>([],E)
def S5:Orc->uD
 | .flat=>O
 | _=>E
def Qnr(tt:Y (W×TI))(orc:Orc)(a:uA W):Op->Y AV->uA (Res×Y Ob)
 | .call ⟨.builtin .append,_,tys⟩, [.one (.slc t1 n1 l1),.one (.slc t2 n2 l2)]=>
   (match tys.toList with
   | [t,t']=>(match a,get tt t,Qa4 t1 with
   | some d,U ⟨.sli e,_,_,_⟩,U (g1,d1)=>(match get tt e with
     | some ei=>bif zV t t'&&yO 0 ei.size&&nOk t1 n1 ei.size&&nOk t2 n2 ei.size&& !(Nr (64*d) (g1++(Pz (S5 orc) t2).1))&&Ao (g1++(Pz (S5 orc) t2).1) then
      U (⟨.one (.slc (.own (d1&&(Pz (S5 orc) t2).2) (64*d)) ei.size (l1++l2)),(64*d,S)::(Vc g1++(bif d1&&(Pz (S5 orc) t2).2 then Vc (Pz (S5 orc) t2).1 else X7 (Pz (S5 orc) t2).1)),S,S⟩,
       .len (l1.length+l2.length)::(bif S5 orc then [.flat l2] else []))
       else S
     | none=>S)
   | _,_,_=>S)
   | _=>S)
 | _,_=>S
section
variable {P:uC} {N:W} {w0:Base} {F0:W->Prop} {J:Inj} {a:Act} {w:I} {s:St}
theorem Qdb{t e ty:uG}{f:TI}(hu:P.underlying t=U (.slice e))(a4:TiOk P e f)(hn:0<f.size){p:uA Addr}{cap Bn:W}{c:Y H}(r:c.length=Bn*f.size)
 (V:∀ad,p=U ad->∀(j:W) (u:H),c[j]? =U u->w.cell? (ad.add j)=U u) (s:p=S->Bn=0)
 (a1:cap=0\/∃g cur e0,p=U ⟨g,0,S⟩/\w.heap[g]? =U (.cells cur e0 (0,0))/\cur.size=cap*f.size/\cur.toList.take (Bn*f.size)=c) (ae:Bn<=cap)
 {v2:H} {CB:W} {a:Y H} (hs:Src P f.size t v2 CB a w) (ab:Bn+CB<=1073741824) (q:cap=0->0<CB) (a5:cap<=uH):
 ∃ v h k e' w',(Builtin.append_ #[t,t] ty #[.slice p Bn cap,v2]).run P w= .ok (.slice (U ⟨v,0,S⟩) (Bn+CB) h) w'/\w'.heap[v]? =U (.cells k e' (0,0))/\k.size=h*f.size/\
   k.toList.take ((Bn+CB)*f.size)=c++a/\Bn+CB<=h/\h<=uH/\w'.os=w.os/\w'.tape=w.tape/\w'.output=w.output/\w.heap.size<=w'.heap.size/\
   ((∃cur e0,p=U ⟨v,0,S⟩/\w.heap[v]? =U (.cells cur e0 (0,0))/\cap≠0/\∀b,b≠v->w'.heap[b]? =w.heap[b]?)\/(v=w.heap.size/\v<w'.heap.size/\∀b,b<w.heap.size->w'.heap[b]? =w.heap[b]?)):=by
 obtain⟨i,z,hi,l,a6,hz,a7,_⟩:=a4.info;have m:(c++a).length=(Bn+CB)*f.size:=by rw[yI,r,hs.newsLen,zZ]
 by_cases d:Bn+CB<=cap
 . rcases a1 with h0 | ⟨g,cur,e0,rfl,hg,a8,a9⟩
   . have:=q h0;omega
   have a2:∀j,j<a.length->Bn*f.size+j<cur.size:=λj hj=>by
    have:=zS f.size d;rw[zZ,←hs.newsLen] at this;omega
   have hr:=run_append_room_src (P:=P) w t t ty e i hu hi g 0 Bn cap v2 CB a (by rw[l];exact hs) d (λj hj=>by
    rw[l];simp[World.cell?,hg,a2 j hj]) (λj hj=>by simp[World.frozen?,hg])
   rw[l,yR] at hr;refine⟨g,cap,putCells cur (Bn*f.size) a,e0,_,hr,G3 g a _ w hg,by rw[Io];exact a8, ?_,d,a5, ?_, ?_, ?_,by rw[QH];exact zR _,.inl ⟨cur,e0,rfl,hg, ?_,λb hb=>G4 g hb a _ w⟩⟩
   . have x:Bn*f.size+a.length<=cur.size:=by
      have:=zS f.size d;rw[zZ,←hs.newsLen] at this;omega
     rw[Nu x,a9,←m,yW]
   . exact(below_setCells' g a _ w).1
   . exact(below_setCells' g a _ w).2.1
   . exact(below_setCells' g a _ w).2.2
   intro e;have:=q e;omega
 have a3:cap<Bn+CB:=by omega
 have n:(Builtin.firstCells i.size Bn (.slice p Bn cap)).run P w.drew= .ok c.toArray w.drew:=by
  cases p with
  | none=>
    have h0:=s rfl;subst h0;have:c= []:=zU (by rw[r];simp);subst this;exact run_firstCells_none w.drew i.size 0 0 cap
  | some ad=>exact run_firstCells_some w.drew i.size Bn ad Bn cap c (by rw[l];exact r) (by simpa using V ad rfl)
 have o:((Bn+CB)+(Bn+CB) / 4+192)*i.bytes<=281474976710656:=yP (Nat.mul_le_mul (show _<=1342177472 by omega) a6) (by decide);have hr:=run_append_grow_src (P:=P) w t t ty e i z hu hi hz p Bn cap c n v2 CB a (by rw[l];exact hs) a3 (by omega) (growslice_fits_wide a3 o);have aa:=grownCap_ge w (Bn+CB) cap e;have y:=grownCap_le_maxLen w (Bn+CB) cap e (by unfold uH;omega);refine⟨w.heap.size,_,_,e,_,hr,heap_alloc_new w.drew _, ?_, ?_,aa,y,rfl,rfl,rfl,by simp,.inr ⟨rfl,by simp,λb hb=>heap_alloc_old w.drew _ hb⟩⟩
 . simp only[Array.size_append,List.size_toArray,size_zeroCells,a7,m,←zZ]
   congr 1
   omega
 simp only[Array.toList_append];rw[←m,yC (by simp),yD (by simp)]
where
 below_setCells' (g:W):∀(vs:Y H) (o:W) (w:I),(w.setCells g o vs).os=w.os/\(w.setCells g o vs).tape=w.tape/\(w.setCells g o vs).output=w.output
  | [],_,_=>⟨rfl,rfl,rfl⟩
  | v::vs,o,w=>by
    have:=below_setCells' g vs (o+1) (w.setCell ⟨g,o,S⟩ v);exact this
end
end
section
open Go.RowKit
section
variable {P:uC} {A:W->Y AV->AV->Prop} {T:TakeT} {N:W} {w0:Base} {F0:W->Prop} {J:Inj} {a:Act} {w:I} {s:St}
theorem UC{w:I}{g:W}{cur:uE H}{e:uG}(b:w.heap[g]? =U (.cells cur e (0,0)))(m:W):∀(j:W) (u:H),(cur.toList.take m)[j]? =U u->w.cell? (Addr.add ⟨g,0,S⟩ j)=U u:=by
 intro j u a;rw[List.getElem?_take] at a;split at a
 . rw[yJ] at a;simp[World.cell?,b,a,Addr.add_lit]
 cases a
theorem Qns(h:Rel N w0 F0 J a w s){t:Tok}{f n:W}{l1:Y (Y PV)}{x:H}{q:Y W}{d1:uD}(i:CR J w x (.slc t f l1))(hd:Qa4 t=U (q,d1))(hn:nOk t f n=O):
 ∃(oa:uA Addr) (cap:W) (olds:Y H) (L:Y W),x= .slice oa l1.length cap/\olds.length=l1.length*n/\(∀v,oa=U v->∀(j:W) (u:H),olds[j]? =U u->w.cell? (v.add j)=U u)/\(oa=S->l1.length=0)/\
   (cap=0\/∃g cur e0,oa=U ⟨g,0,S⟩/\w.heap[g]? =U (.cells cur e0 (0,0))/\cur.size=cap*n/\cur.toList.take (l1.length*n)=olds)/\l1.length<=cap/\cap<=uH/\
   (∀g,oa=U ⟨g,0,S⟩->cap≠0->(∃k,k∈q/\g∈J.L k)/\g∉L)/\
   VR (λb=>J.F b\/b∈L) w n olds l1/\(d1=O->OR w n L olds l1)/\L.Nodup/\∀b,b∈L->∃k,k∈q/\b∈J.L k:=by
 cases t with
 | sh=>cases hd
 | vw k=>cases hd
 | put=>cases hd
 | emp=>
   obtain⟨rfl,rfl⟩: []=q/\O=d1:=by simpa [Qa4] using hd
   obtain⟨rfl,oa,rfl⟩:=i;exact⟨oa,0, [], [],rfl,by simp,by simp,λ_=>rfl,.inl rfl,zR _,zX _,λ_ _ h=>absurd rfl h,.nil n,λ_=> .nil n,by simp,by simp⟩
 | own d k=>
   obtain⟨rfl,rfl⟩: [k]=q/\d=d1:=by simpa [Qa4] using hd
   obtain rfl:f=n:=by simpa [nOk] using hn
   have c:=h.nd k;cases d with
   | true=>
     obtain⟨L0,i,c,m,_⟩:=i;generalize y:PV.slc f l1=p at i;cases i with
     | int | bool | str | any | raw=>cases y
     | emp oa n'=>
       cases y
       exact⟨oa,0, [], [],rfl,by simp,by simp,λ_=>rfl,.inl rfl,zR _,zX _,λ_ _ h=>absurd rfl h,.nil f,λ_=> .nil f,by simp,by simp⟩
     | @slc g cap n' cur e L l r z o V h2=>
       cases y
       have c:=zQ.1 c;refine⟨U ⟨g,0,S⟩,cap,_,L,rfl,o.length,λv e=>(by cases e;exact UC r _),(λe=>by cases e),.inr ⟨g,cur,_,rfl,r,z,rfl⟩,V,h2.1,λg' e _=>?_,o.vr λb hb=> .inr hb,λ_=>o,c.2,λb hb=>⟨k,by simp,m b (zJ _ hb)⟩⟩;cases e
       exact⟨⟨k,by simp,m _ zL⟩,c.1⟩
   | false=>
     have i:OwnTop J.F (J.L k) w x f l1:=i;rcases i with⟨rfl,oa,rfl⟩ | ⟨g,cap,cur,e,hL,rfl,r,z,o,V,h2⟩
     . exact⟨oa,0, [], [],rfl,by simp,by simp,λ_=>rfl,.inl rfl,zR _,zX _,λ_ _ h=>absurd rfl h,.nil f,(λh=>by cases h),by simp,by simp⟩
     refine⟨U ⟨g,0,S⟩,cap,_, [],rfl,o.length,λv e=>(by cases e;exact UC r _),(λe=>by cases e),.inr ⟨g,cur,e,rfl,r,z,rfl⟩,V,h2.1,λg' e _=>?_,o.keep λb hb=>⟨.inl hb,rfl⟩,(λe=>by cases e),by simp,by simp⟩;cases e
     exact⟨⟨k,by simp,by rw[hL];simp⟩,by simp⟩
theorem VC.ones{X:W->Prop}{w:I}:∀{vs:Y H} {ps:Y PV},VC X w vs ps->∀u,u∈vs->u.oneCell'=O
 | _,_,.nil,u,hu=>by simp at hu
 | _, _,.cons h1 a,u,hu=>by
   rcases zM.1 hu with rfl | hu
   . cases h1 with
     | any _ a=>exact a
     | raw _ a=>exact a
     | _=>rfl
   exact VC.ones a u hu
theorem VR.ones{X:W->Prop}{w:I}:∀{n:W} {cs:Y H} {l:Y (Y PV)},VR X w n cs l->∀u,u∈cs->u.oneCell'=O
 | _,_,_,.nil _,u,hu=>by simp at hu
 | _,_,_,.cons h1 h2 h3,u,hu=>(zK.1 hu).elim (VC.ones h1 u) (VR.ones h3 u)
theorem Qa5{X:W->Prop}{n:W}{l:Y (Y PV)}{v:H}{t e:uG}(b:P.underlying t=U (.slice e))(h:VV X w v (.slc n l)):∃a,Src P n t v l.length a w/\VR X w n a l:=by
 generalize c:PV.slc n l=p at h;cases h with
 | int | bool | str | any | raw=>cases c
 | @emp oa cap n' hcap=>
   cases c
   cases oa with
   | none=>exact⟨[],Src.ofNil w b cap,.nil n⟩
   | some f=>exact⟨[],Src.ofSlice w b f 0 cap [] (by simp) (by simp) (by simp),.nil n⟩
 | slc hb g d k m=>
   cases c
   exact⟨_,Src.ofSlice w b _ _ _ _ d.length (λj u i=>by rw[Addr.add_lit];exact g j u i) d.ones,d⟩
theorem Qqe(h:Rel N w0 F0 J a w s){t e:uG}(q:P.underlying t=U (.slice e)){fl:uD}{v:Tok}{o n:W}{l2:Y (Y PV)}{x:H}(m:CR J w x (.slc v o l2))(V:nOk v o n=O)(a1:fl=O->Ds l2):
 ∃(c:Y H) (L:Y W),Src P n t x l2.length c w/\((Pz fl v).2=O->OR w n L c l2)/\L.Nodup/\(∀b,b∈L->∃k,k∈(Pz fl v).1/\b∈J.L k)/\
   ((fl=O->∀w',OR w' n [] c l2)/\(fl=O->L= []))/\(fl=E->VR (λb=>J.F b\/∃k,k∈(Pz fl v).1/\b∈J.L k) w n c l2):=by
 have i:∀X,fl=O->VV X w x (.slc n l2)->∃c,Src P n t x l2.length c w/\∀w',OR w' n [] c l2:=λX hf hv=>by
  obtain⟨c,j,f⟩:=Qa5 q hv;exact⟨c,j,λw'=>f.orr (a1 hf)⟩
 cases v with
 | emp=>
   obtain⟨rfl,oa,rfl⟩:=m
   have z:Src P n t (.slice oa 0 0) 0 [] w:=by
    cases oa with
    | none=>exact Src.ofNil w q 0
    | some ad=>exact Src.ofSlice w q ad 0 0 [] (by simp) (by simp) (by simp)
   exact⟨[], [],z,λ_=> .nil n,by simp,by simp,⟨λ_ _=> .nil n,λ_=>rfl⟩,λ_=> .nil n⟩
 | sh =>
   obtain rfl:o=n:=by simpa [nOk] using V
   cases fl with
   | true=>
     obtain⟨c,j,f⟩:=i _ rfl m;exact⟨c, [],j,λ_=>f w,by simp,by simp,⟨λ_=>f,λ_=>rfl⟩,λh=>by cases h⟩
   | false=>
     obtain⟨c,j,f⟩:=Qa5 (P:=P) q (X:=J.F) m;exact⟨c, [],j,(λh=>by simp[Pz] at h),by simp,by simp,⟨(λh=>by cases h),λ_=>rfl⟩,λ_=>f.keep λb hb=>⟨.inl hb,rfl⟩⟩
 | put=>exact m.elim
 | vw k=>
   obtain rfl:o=n:=by simpa [nOk] using V
   cases fl with
   | true=>
     obtain⟨c,j,f⟩:=i _ rfl m;exact⟨c, [],j,λ_=>f w,by simp,by simp,⟨λ_=>f,λ_=>rfl⟩,λh=>by cases h⟩
   | false=>
     obtain⟨c,j,f⟩:=Qa5 (P:=P) q (X:=J.X (.vw k)) m;exact⟨c, [],j,(λh=>by simp[Pz] at h),by simp,by simp,⟨(λh=>by cases h),λ_=>rfl⟩,λ_=>f.keep λb hb=>⟨hb.elim (λh=> .inr ⟨k,by simp[Pz],h⟩) .inl,rfl⟩⟩
 | own d k =>
   obtain rfl:o=n:=by simpa [nOk] using V
   cases fl with
   | true=>
     have:∃X,VV X w x (.slc o l2):=by
      cases d with
      | true=>exact⟨_,OwnDeep.vv (X:=λ_=>True) m λ_ _=>⟨trivial,rfl⟩⟩
      | false=>exact⟨_,OwnTop.vv (X:=λ_=>True) m (λ_ _=>⟨trivial,rfl⟩) λ_ _=>⟨trivial,rfl⟩⟩
     obtain⟨X,hX⟩:=this;obtain⟨c,j,f⟩:=i _ rfl hX;exact⟨c, [],j,λ_=>f w,by simp,by simp,⟨λ_=>f,λ_=>rfl⟩,λh=>by cases h⟩
   | false =>
     cases d with
     | false=>
       obtain⟨c,j,f⟩:=Qa5 (P:=P) q (X:=λb=>J.F b\/b∈J.L k) (OwnTop.vv m (λ_ hb=>⟨.inl hb,rfl⟩) λ_ hb=>⟨.inr hb,rfl⟩);exact⟨c, [],j,(λh=>by simp[Pz] at h),by simp,by simp,⟨(λh=>by cases h),λ_=>rfl⟩,λ_=>f.keep λb hb=>⟨hb.imp id λh=>⟨k,by simp[Pz],h⟩,rfl⟩⟩
     | true=>
       have r:=h.nd k;obtain⟨L0,m,r,u,_⟩:=m;generalize hp:PV.slc o l2=p at m;cases m with
       | int | bool | str | any | raw=>cases hp
       | emp oa n'=>
         cases hp
         have z:Src P o t (.slice oa 0 0) 0 [] w:=by
          cases oa with
          | none=>exact Src.ofNil w q 0
          | some ad=>exact Src.ofSlice w q ad 0 0 [] (by simp) (by simp) (by simp)
         exact⟨[], [],z,λ_=> .nil o,by simp,by simp,⟨(λh=>by cases h),λ_=>rfl⟩,λ_=> .nil o⟩
       | @slc g cap n' cur e L l hg z hr j f=>
         cases hp
         have r:=zQ.1 r;have y:VR (λb=>J.F b\/∃k',k'∈ [k]/\b∈J.L k') w o (cur.toList.take (l2.length*o)) l2:=hr.vr λb hb=> .inr ⟨k,by simp,u b (zJ _ hb)⟩
         refine⟨_,L,Src.ofSlice w q ⟨g,0,S⟩ l2.length cap _ hr.length (UC hg _) y.ones,λ_=>hr,r.2,λb hb=>⟨k,by simp[Pz],u b (zJ _ hb)⟩,⟨(λh=>by cases h),(λh=>by cases h)⟩,λ_=>?_⟩;simpa [Pz] using y
theorem RZ{t e ty:uG}{d:TI}(i:P.underlying t=U (.slice e))(a:TiOk P e d){b:uA Addr}{f:H}(g:Src P d.size t f 0 [] w):
 (Builtin.append_ #[t,t] ty #[.slice b 0 0,f]).run P w= .ok (.slice b 0 0) w:=by
 obtain⟨j,z,hi,c,k,n,l,_⟩:=a.info;have m:=g.len w;have h:=g.cells;rw[←c] at h;cases b<;>simp[Builtin.append_,run_underlying i,sizeOf,U4 hi,m,h,storeCells]
theorem ZK{α:Type}{k:W}:∀{l r:Y (W×α)},get (l++r) k=(match get l k with | some x=>U x | none=>get r k)
 | [],r=>rfl
 | (x,y)::l,r=>by
   simp only[List.cons_append,get];split
   . rfl
   exact ZK
set_option maxHeartbeats 2000000 in
theorem Qj4{tt : List (W×TI)}(b4:Nq P tt=O){orc:Orc}{o:Oper}{b5:Y AV}{r:Res}{b6:Y Ob}(h:Qnr tt orc o.dst o.op b5=U (r,b6))(bs:AllOb A T b6)(a4:∀d,o.dst=U d->d<N)
 (c:Rel N w0 F0 J a w s) (b7:All2 (λx v=>BZ s x=U v) o.op.operands.toList b5) {K:Act->I->Prop} {Q:Exit->Act->I->Prop}
 (hK:∀J' a' w',Rel N w0 F0 J' a' w' (s.step o.dst r)->K a' w'):o.wp P a w K Q:=by
 have hv:=Dt c b7;generalize ho:o.op=op at h hv;generalize hd:o.dst=ci at h;unfold Qnr at h;split at h
 . rename_i args tys t1 n1 l1 t2 n2 l2;split at h
   rotate_left
   . cases h
   rename_i t t' b8;obtain rfl:tys= #[t,t']:=yS (by simpa using b8);split at h
   . rename_i d e n0 z0 q0 g1 d1 hg ar;split at h
     . rename_i ei hge;generalize hS:Pz (S5 orc) t2=i at h;cases hc:(zV t t'&&yO 0 ei.size&&nOk t1 n1 ei.size&&nOk t2 n2 ei.size&& !(Nr (64*d) (g1++i.1))&&Ao (g1++i.1)) with
       | false=>rw[hc] at h;cases h
       | true =>
         rw[hc] at h;simp only[uF,zN,zP] at h;obtain⟨rfl,rfl⟩:=h;simp only[zE,yH,yZ,zT] at hc;obtain⟨⟨⟨⟨⟨rfl,c2⟩,c3⟩,c4⟩,c5⟩,c6⟩:=hc;have bt:64*d∉g1++i.1:=λg=>by rw[Cy.2 g] at c5;cases c5
         have a5:=Bh.1 c6;obtain⟨a6,ah⟩:=AllOb.cons bs;have a6:l1.length+l2.length<=1073741824:=a6;have bu:S5 orc=O->Ds l2:=λhf=>by rw[hf] at ah;exact ah
         have hu:=(Jc b4 hg).sli;have b9:=Jc b4 hge;have ba:All2 (λx v=>AR J w (a.eval x) v) args.toList [.one (.slc t1 n1 l1),.one (.slc t2 n2 l2)]:=by simpa [Op.operands,Call.operands] using hv
         obtain⟨px,py,hargs⟩:∃px py,args= #[px,py]:=by
          have hl:=ba.length;obtain⟨l⟩:=args
          match l,hl with
          | [px,py],_=>exact⟨px,py,rfl⟩
         subst hargs;have bv:All2 (λx v=>AR J w (a.eval x) v) [px,py] [.one (.slc t1 n1 l1),.one (.slc t2 n2 l2)]:=ba;cases bv with
         | cons h1 h2=>
           cases h2 with
           | cons h2 _=>
             obtain⟨oa,cap,olds,L,e1,bw,au,av,bb,bx,bz,bc,bd,be,bf,a7⟩:=Qns c h1 ar c3;obtain⟨bg,L2,a8,ai,bh,a9,⟨ae,br⟩,aj⟩:=Qqe (P:=P) c hu h2 c4 bu;rw[hS] at ai a9 aj
             have aa:∀u w',(Builtin.append_ #[t,t] o.type #[.slice oa l1.length cap,a.eval py]).run P w= .ok u w'->(execOp a.eval o).run P w= .ok (.value u) w':=λu w' hr=>by
              simp only[execOp,ho,resolve,invoke,builtin,Sem.run_bind,Sem.run_pure,Result.andThen_ok,List.map_toArray,yL,List.map_nil,e1,hr]
             have hG:∀k,k∈g1++i.1->k≠64*d:=λk f e=>bt (e▸f)
             have p:∀k,k∉g1++i.1->k≠64*d->get ((64*d,S)::(Vc g1++(bif d1&&i.2 then Vc i.1 else X7 i.1))) k=S:=λk f hn=>by
              rw[Uk hn,ZK,A3,D λg=>f (zG _ g)];cases d1&&i.2
              . simp only[uI];rw[U9,D λg=>f (zF _ g)]
              simp only[uF];rw[A3,D λg=>f (zF _ g)]
             have q:∀k,k∈g1->get ((64*d,S)::(Vc g1++(bif d1&&i.2 then Vc i.1 else X7 i.1))) k=U S:=λk f=>by
              rw[Uk (hG k (zG _ f)),ZK,A3,uB f]
             have y:∀k,k∈i.1->get ((64*d,S)::(Vc g1++(bif d1&&i.2 then Vc i.1 else X7 i.1))) k=U (if(d1&&i.2)=O then S else U .sh):=λk f=>by
              have ab:k∉g1:=λg=>(zH.1 a5).2.2 k g k f rfl
              rw[Uk (hG k (zF _ f)),ZK,A3,D ab];cases d1&&i.2
              . simp only[uI];rw[U9,uB f];simp
              simp only[uF];rw[A3,uB f];simp
             by_cases af:cap=0/\l2.length=0
             ·obtain ⟨aw,c1⟩:=af;have c7:l1= []:=zU (by omega);have c8:l2= []:=zU c1;subst c7 c8 aw;have ax:bg= []:=zU (by rw[a8.newsLen];simp);subst ax;refine V4 (aa _ _ (RZ hu b9 a8)) ?_;rw[hd] at hK⊢
              refine hK ⟨λb=>J.F b\/∃k,k∈g1++i.1/\b∈J.L k,λk=>if k=64*d then [] else if k∈g1++i.1 then [] else J.L k,J.B⟩ _ _ (c.grab (U d) (λd' e=>by cases e;exact a4 d hd) _ _ (64*d) (g1++i.1) rfl rfl c.below (zR _) rfl (λk f=>D f)
               (λb hb=> .inl hb) (λb hb=>hb.imp id λf=>⟨f,by simp⟩) p (λ_=>by simp[get]) (λk f=>?_) (λb hb _=>rfl) (by simp) (λb hb=>by simp at hb) (λ_=>?_))
              . rcases zK.1 f with hk' | hk'
                . exact .inl (q k hk')
                rw[y k hk'];by_cases hD:(d1&&i.2)=O
                . exact .inl (by simp[hD])
                exact .inr (.inl ⟨by simp[hD],λb hb=>⟨.inr ⟨k,f,hb⟩,rfl⟩⟩)
              show CR _ w (.slice oa 0 0) (.slc (.own (d1&&i.2) (64*d)) ei.size []);cases d1&&i.2
              . exact .inl ⟨rfl,oa,rfl⟩
              show OwnDeep (if 64*d=64*d then [] else _) w _ _ _;rw[uB rfl];exact⟨[],.emp oa _,zO,λb hb=>hb,.inl rfl⟩
             obtain⟨g',bj,bk,e',w',bm,ay,ak,al,cg,am,c9,az,bp,z,a2⟩:=Qdb (ty:=o.type) hu b9 c2 bw au av bb bx a8 a6 (λe=>by omega) bz;refine V4 (aa _ _ bm) ?_;rw[hd] at hK⊢
             have n:(∃k,k∈g1/\g'∈J.L k)/\g'∉L\/w.heap.size<=g':=by
              rcases a2 with⟨cur,e0,ca,_,aw,_⟩ | ⟨cj,_⟩
              . exact .inl (bc g' ca aw)
              exact .inr (by omega)
             have j:∀b,b<w.heap.size->b≠g'->w'.heap[b]? =w.heap[b]? :=by
              intro b hb m;rcases a2 with⟨cur,e0,_,_,_,V⟩ | ⟨_,_,V⟩
              . exact V b m
              exact V b hb
             have an:g'<w'.heap.size:=Xb ay
             have bq:¬J.F g':=λhF=>by
              rcases n with⟨⟨k,_,g⟩,_⟩ | hge
              . exact(c.lo k g' g).2.2 hF
              have:=(c.fl g' hF).1;omega
             have b1:∀k,k∉g1->g'∉J.L k:=λk f g=>by
              rcases n with⟨⟨k',hk',a1⟩,_⟩ | hge
              . exact f (c.dj k k' g' g a1▸hk')
              have:=(c.lo k g' g).2.1;omega
             have b2:g'∉L:=by
              rcases n with⟨_,h⟩ | hge
              . exact h
              intro g;obtain⟨k,_,a1⟩:=a7 g' g;have:=(c.lo k g' a1).2.1;omega
             have ao:g'∉L2:=λg=>by
              obtain⟨k,f,a1⟩:=a9 g' g;exact b1 k (λhk'=>(zH.1 a5).2.2 k hk' k f rfl) a1
             have hbelow:w0.Keeps w':=by
              refine c.below.step c9 az bp z λb hb cc=>?_
              refine j b hb λe=>?_
              rcases n with⟨⟨k,_,g⟩,_⟩ | hge
              . exact cc (e▸(c.lo k g' g).1)
              omega
             have ad:∀b,b∈L->b<w.heap.size:=λb hb=>by obtain⟨k,_,g⟩:=a7 b hb;exact(c.lo k b g).2.1
             have ap:∀b,b∈L2->b<w.heap.size:=λb hb=>by obtain⟨k,_,g⟩:=a9 b hb;exact(c.lo k b g).2.1
             have a3:(l1++l2).length=l1.length+l2.length:=yI;by_cases hD:(d1&&i.2)=O
             . have b3:=hD;simp only[zE] at b3
               have aq:(g'::(L++L2)).Nodup:=by
                refine zQ.2 ⟨λg=>(zK.1 g).elim b2 ao,zH.2 ⟨bf,bh,λb hb b' cd e=>?_⟩⟩;subst e;obtain⟨k,f,g⟩:=a7 b hb;obtain⟨k',hk',a1⟩:=a9 b cd;have:=c.dj k k' b g a1;subst this;exact(zH.1 a5).2.2 k f k hk' rfl
               refine hK ⟨J.F,λk=>if k=64*d then g'::(L++L2) else if k∈g1++i.1 then [] else J.L k,J.B⟩ _ _ (c.grab (U d) (λd' e=>by cases e;exact a4 d hd) _ _ (64*d) (g1++i.1) rfl rfl hbelow z rfl (λk f=>D f)
                (λb hb=>hb) (λb hb=> .inl hb) p (λ_=>by simp[get]) (λk f=>?_) (λb hb hn=>j b hb λe=>?_) ?_ (λb hb=>?_) (λ_=>?_))
               . rcases zK.1 f with hk' | hk'
                 . exact .inl (q k hk')
                 exact .inl (by rw[y k hk',uB hD])
               . rcases n with⟨⟨k,f,g⟩,_⟩ | hge
                 . exact hn k (zG _ f) (e▸g)
                 omega
               . simp only[if_true];exact aq
               . simp only[if_true,zM,zK] at hb;rcases hb with rfl | hb | hb
                 . refine⟨an, ?_⟩;rcases n with⟨⟨k,f,g⟩,_⟩ | hge
                   . exact .inr ⟨k,zG _ f,g⟩
                   exact .inl hge
                 . obtain⟨k,f,g⟩:=a7 b hb;exact⟨by have:=ad b hb;omega,.inr ⟨k,zG _ f,g⟩⟩
                 obtain⟨k,f,g⟩:=a9 b hb;exact⟨by have:=ap b hb;omega,.inr ⟨k,zF _ f,g⟩⟩
               show CR _ w' _ (.slc (.own (d1&&i.2) (64*d)) ei.size (l1++l2));rw[hD];show OwnDeep (if 64*d=64*d then _ else _) w' _ _ _;rw[uB rfl,←a3];refine .of (.slc ay ak ?_ (by omega) ⟨am,by omega⟩) aq;rw[a3,al];exact OR.append ((ai b3.2).keep λb hb=>j b (ap b hb) λe=>ao (e▸hb)) ((be b3.1).keep λb hb=>j b (ad b hb) λe=>b2 (e▸hb))
             refine hK ⟨λb=>J.F b\/((∃k,k∈g1++i.1/\b∈J.L k)/\b≠g'),λk=>if k=64*d then [g'] else if k∈g1++i.1 then [] else J.L k,J.B⟩ _ _ (c.grab (U d) (λd' e=>by cases e;exact a4 d hd) _ _ (64*d) (g1++i.1) rfl rfl hbelow z rfl (λk f=>D f)
              (λb hb=> .inl hb) (λb hb=>hb.imp id λf=>⟨f.1,by simpa using f.2⟩) p (λ_=>by simp[get]) (λk f=>?_) (λb hb hn=>j b hb λe=>?_) (by simp) (λb hb=>?_) (λ_=>?_))
             . rcases zK.1 f with hk' | hk'
               . exact .inl (q k hk')
               have ab:k∉g1:=λg=>(zH.1 a5).2.2 k g k hk' rfl
               refine .inr (.inl ⟨by rw[y k hk',D hD],λb hb=>?_⟩);have m:b≠g':=λe=>b1 k ab (e▸hb)
               exact⟨.inr ⟨⟨k,f,hb⟩,m⟩,j b (c.lo k b hb).2.1 m⟩
             . rcases n with⟨⟨k,f,g⟩,_⟩ | hge
               . exact hn k (zG _ f) (e▸g)
               omega
             . simp only[if_true,yE] at hb;subst hb;refine⟨an, ?_⟩;rcases n with⟨⟨k,f,g⟩,_⟩ | hge
               . exact .inr ⟨k,zG _ f,g⟩
               exact .inl hge
             show CR _ w' _ (.slc (.own (d1&&i.2) (64*d)) ei.size (l1++l2));rw[show(d1&&i.2)=E by simpa using hD];refine .inr ⟨g',bj,bk,e',by simp,by rw[a3],ay,ak, ?_,by omega,am,by omega⟩;rw[a3,al]
             have cf:VR (λb=>J.F b\/((∃k,k∈g1++i.1/\b∈J.L k)/\b≠g')) w' ei.size olds l1:=bd.keep λb hb=>by
              rcases hb with hb | hb
              . exact⟨.inl hb,j b (c.fl b hb).1 λe=>bq (e▸hb)⟩
              obtain⟨k,f,g⟩:=a7 b hb;have m:b≠g':=λe=>b2 (e▸hb)
              exact⟨.inr ⟨⟨k,zG _ f,g⟩,m⟩,j b (ad b hb) m⟩
             refine VR.append ?_ cf;cases hf:S5 orc with
             | true=>exact(ae hf w').vr λb hb=>by simp at hb
             | false=>
               refine(aj hf).keep λb hb=>?_
               rcases hb with hb | ⟨k,f,g⟩
               . exact⟨.inl hb,j b (c.fl b hb).1 λe=>bq (e▸hb)⟩
               have ab:k∉g1:=λg=>(zH.1 a5).2.2 k g k f rfl
               have m:b≠g':=λe=>b1 k ab (e▸g)
               exact⟨.inr ⟨⟨k,zF _ f,g⟩,m⟩,j b (c.lo k b g).2.1 m⟩
     cases h
   cases h
 cases h
end
end
section
open Go.RowKit
def LL(F:W->Prop):Inj:=⟨F,λ_=> [],λ_=>0⟩
def Qnt(F:W->Prop)(w w':I)(L:W->Y W):Inj:=⟨λb=>F b\/(w.heap.size<=b/\b<w'.heap.size/\∀k,b∉L k),L,λ_=>0⟩
def Qj5(F:W->Prop)(w:I)(r:AV)(e:Ending)(w':I):Prop:=
 ∃v L,e= .returned v/\Below w.heap.size w w'/\(∀k,(L k).Nodup)/\(∀k b,b∈L k->w.heap.size<=b/\b<w'.heap.size)/\(∀k a b,b∈L k->b∈L a->k=a)/\AR (Qnt F w w' L) w' v r
def Fr (P : Program) (f : Nat) : Prop := (P.funcs[f]?).map (fun fn => (fn.name == "runtime.NumGoroutine", fn.body.isNone)) = some (false, false)
class Good (P:uC) (w:I):Prop where
 tab : ∀ g, P.globalNamed "internal/strconv.uint64pow10" = some g → Lib.TabIs P w "internal/strconv.uint64pow10" .u64 Lib.pow10Tab
 err : ∀ g, P.globalNamed "strconv.ErrSyntax" = some g → ∃ tp p, w.var? P "strconv.ErrSyntax" = some #[.iface tp p]
 mx : ∀ g, P.globalNamed "internal/bytealg.MaxLen" = some g → ∃ m, w.cell? ⟨g, 0, none⟩ = some (.int .i64 m)
 sp : ∀ g, P.globalNamed "strings.asciiSpace" = some g → Lib.TabIs P w "strings.asciiSpace" .u8 Lib.asciiSpaceTab
theorem Good.none {P : Program} (h : P.globalNamed "internal/strconv.uint64pow10" = none) (w : World) (h2 : P.globalNamed "strconv.ErrSyntax" = Option.none := by kernel_rfl) (h3 : P.globalNamed "internal/bytealg.MaxLen" = Option.none := by kernel_rfl) (h4 : P.globalNamed "strings.asciiSpace" = Option.none := by kernel_rfl) : Good P w :=
 ⟨λg hg=>(by rw[h] at hg;cases hg),λg hg=>(by rw[h2] at hg;cases hg),λg hg=>(by rw[h3] at hg;cases hg),λg hg=>(by rw[h4] at hg;cases hg)⟩
theorem Qdc{w w':I}{g:W}{v:H}(h:w.cell? ⟨g,0,S⟩=U v)(b:Below w.heap.size w w'):w'.cell? ⟨g,0,S⟩=U v:=by
 have a:g<w.heap.size:=by
  unfold World.cell? at h;split at h
  . rename_i c;exact Xb c
  cases h
 rw[World.cell?_of_block (b.block g a)];exact h
theorem Good.keep{P:uC}{w w':I}(h:Good P w)(b:Below w.heap.size w w'):Good P w':=⟨λg a=>Go.Joins.tab_stays a (h.tab g a) b (Nat.le_refl _),λg a=>by
 obtain⟨c,p,d⟩:=h.err g a;exact⟨c,p,Go.Joins.var_stays a d b (zR _)⟩,λg a=>by
 obtain⟨m,e⟩:=h.mx g a;exact⟨m,Qdc e b⟩,λg a=>Go.Joins.tab_stays a (h.sp g a) b (zR _)⟩
def ACalls(P:uC)(f:W)(args:Y AV)(r:AV):Prop:=
 Fr P f/\∀(w:I),Good P w->∀(F:W->Prop) (a:Y H),(∀b,F b->b<w.heap.size)->All2 (AR (LL F) w) a args->Calls P f a.toArray w (Qj5 F w r)
class GoodAt (P:uC) (b:Base):Prop where
 at_:∀w,b.Keeps w->Good P w
theorem Base.Keeps.below{b:Base}{w:I}(h:b.Keeps w)(a:∀k,¬b.X k):Below b.w.heap.size b.w w:=⟨h.os,h.tape,h.output,h.size,λk c=>h.block k c (a k)⟩
theorem GoodAt.of{P:uC}{w:I}(h:Good P w):GoodAt P ⟨w,λ_=>False,S⟩:=⟨λ_ a=>h.keep (a.below λ_ h=>h)⟩
def Zp(P:uC)(c:Base)(f:W)(args:Y AV)(r:AV):Prop:=
 Fr P f/\∀(w:I),c.Keeps w->∀(F:W->Prop) (a:Y H),(∀b,F b->b<w.heap.size)->All2 (AR (LL F) w) a args->Calls P f a.toArray w (Qj5 F w r)
theorem ACalls.at{P:uC}{a:Base}[b:GoodAt P a]{f:W}{args:Y AV}{r:AV}(h:ACalls P f args r):Zp P a f args r:=⟨h.1,λw hb=>h.2 w (b.at_ w hb)⟩
def Qr8(F:W->Prop)(L:Y W)(w:I)(n:W)(a:uD)(l':Y (Y PV))(e:Ending)(w':I):Prop:=
 ∃ u,e= .returned u/\(∀m,m<=w.heap.size->(∀b,b∈L->m<=b)->Below m w w')/\(∀b,b<w.heap.size->b∉L->w'.heap[b]? =w.heap[b]?)/\
   match a with
   | true=>u= .tuple #[]/\∀c d,OwnTop F L w c n d->OwnTop F L w' c n (WP d l'.flatten)
   | false=>∃L':Y W,L'.Nodup/\(∀b,b∈L'->b<w'.heap.size/\(w.heap.size<=b\/b∈L))/\OwnTop (λb=>F b\/((w.heap.size<=b\/b∈L)/\b<w'.heap.size/\b∉L')) L' w' u n l'
def Qmo(P:uC)(w:I)(e:Y W->Prop)(f n:W)(l:Y (Y PV))(args:Y AV)(d c:uD)(l':Y (Y PV)):Prop:=
 ∀(F G:W->Prop) (L:Y W) (v:H) (a:Y H),e L->(∀b,F b->G b)->(d=O->∀b,G b->F b)->(∀b,G b->b<w.heap.size)->L.Nodup->(∀b,b∈L->b<w.heap.size/\¬G b)->
   OwnTop F L w v n l->All2 (AR (LL G) w) a args->Calls P f (v::a).toArray w (Qr8 F L w n c l')
def ATake(P:uC)(f n:W)(l:Y (Y PV))(args:Y AV)(b a:uD)(l':Y (Y PV)):Prop:=Fr P f/\∀w,Qmo P w (λL=>GoodAt P ⟨w,λx=>x∈L,S⟩) f n l args b a l'
def FL(P:uC)(c:Base)(f n:W)(l:Y (Y PV))(args:Y AV)(b a:uD)(l':Y (Y PV)):Prop:=Fr P f/\∀w,c.Keeps w->Qmo P w (λL=>∀x,x∈L->c.lo x) f n l args b a l'
theorem ATake.at{P:uC}{i:Base}[j:GoodAt P i]{f n:W}{l:Y (Y PV)}{args:Y AV}{b a:uD}{l':Y (Y PV)}(h:ATake P f n l args b a l'):FL P i f n l args b a l':=
 ⟨h.1,λw hb F G L v c e=>h.2 w F G L v c ⟨λw' d=>j.at_ w' (hb.step d.os d.tape d.output d.size λk g m=>d.block k g λo=>m (e k o))⟩⟩
def Qjp:C->uD
 | .int _ _=>O
 | .bool _=>O
 | .str _=>O
 | .slc .sh _ _=>O
 | .slc (.own O _) _ _=>O
 | _=>E
def CE:C->uD
 | .int _ _=>O
 | .bool _=>O
 | .str _=>O
 | _=>E
def Qj6(F:W->Prop)(L:W->Y W)(b:W):Inj:=⟨F,L,λ_=>b⟩
def Qfi(F:W->Prop)(L:W->Y W)(w w':I)(L':W->Y W):Inj:=⟨λx=>F x\/((w.heap.size<=x\/∃j,x∈L j)/\x<w'.heap.size/\∀k,x∉L' k),L',λ_=>0⟩
def Qqf(J:Inj)(w:I)(b:W)(cs:Y C):Prop:=∃a e,w.heap[b]? =U (.cells a e (0,0))/\All2 (CR J w) a.toList cs
def Qsl(F:W->Prop)(L:W->Y W)(b:W)(w:I)(r:AV)(cs:Y C)(e:Ending)(w':I):Prop:=
 ∃ v L',e= .returned v/\w'.os=w.os/\w'.tape=w.tape/\w'.output=w.output/\w.heap.size<=w'.heap.size/\(∀k,k<w.heap.size->k≠b->(∀j,k∉L j)->w'.heap[k]? =w.heap[k]?)/\
   (∀k,(L' k).Nodup)/\(∀k x,x∈L' k->x<w'.heap.size/\(w.heap.size<=x\/∃j,x∈L j))/\(∀k a x,x∈L' k->x∈L' a->k=a)/\AR (Qfi F L w w' L') w' v r/\Qqf (Qfi F L w w' L') w' b cs
structure Given (F:W->Prop) (L:W->Y W) (b:W) (w:I):Prop where
 fl:∀x,F x->x<w.heap.size
 nd:∀k,(L k).Nodup
 lt:∀k x,x∈L k->x<w.heap.size/\¬F x
 dj:∀k k' x,x∈L k->x∈L k'->k=k'
 bF:¬F b
 bL:∀k,b∉L k
def Qmp(P:uC)(w:I)(d:W->(W->Y W)->Prop)(f:W)(cs:Y C)(args:Y AV)(r:AV)(c:Y C):Prop:=
 ∀(F:W->Prop) (L:W->Y W) (b:W) (a:Y H),d b L->Given F L b w->Qqf (Qj6 F L b) w b cs->All2 (AR (LL F) w) a args->
   Calls P f (.pointer (U ⟨b,0,S⟩)::a).toArray w (Qsl F L b w r c)
def AGive(P:uC)(f:W)(cs:Y C)(args:Y AV)(r:AV)(a:Y C):Prop:=Fr P f/\∀w,Qmp P w (λb L=>GoodAt P ⟨w,λx=>x=b\/∃j,x∈L j,U b⟩) f cs args r a
def SA(P:uC)(c:Base)(f:W)(cs:Y C)(args:Y AV)(r:AV)(a:Y C):Prop:=Fr P f/\∀w,c.Keeps w->Qmp P w (λb L=>∀x,(x=b\/∃j,x∈L j)->c.lo x) f cs args r a
theorem AGive.at{P:uC}{g:Base}[i:GoodAt P g]{f:W}{cs:Y C}{args:Y AV}{r:AV}{cs':Y C}(h:AGive P f cs args r cs'):SA P g f cs args r cs':=
 ⟨h.1,λw hb F L b a d=>h.2 w F L b a ⟨λw' c=>i.at_ w' (hb.step c.os c.tape c.output c.size λk e j=>c.block k e λl=>j (d k l))⟩⟩
def Qr9(F:W->Prop)(L:W->Y W):Inj:=⟨F,L,λ_=>0⟩
def Qqg:C->uD
 | .int _ _=>O
 | .bool _=>O
 | .str _=>O
 | .slc (.own O _) _ _=>O
 | _=>E
structure Owns (F:W->Prop) (L:W->Y W) (w:I):Prop where
 fl:∀x,F x->x<w.heap.size
 nd:∀k,(L k).Nodup
 lt:∀k x,x∈L k->x<w.heap.size/\¬F x
 dj:∀k k' x,x∈L k->x∈L k'->k=k'
def Qsm(L:W->Y W)(w:I)(r:AV)(e:Ending)(w':I):Prop:=
 ∃ v L',e= .returned v/\w'.os=w.os/\w'.tape=w.tape/\w'.output=w.output/\w.heap.size<=w'.heap.size/\(∀k,k<w.heap.size->(∀j,k∉L j)->w'.heap[k]? =w.heap[k]?)/\
   (∀k,(L' k).Nodup)/\(∀k x,x∈L' k->x<w'.heap.size/\(w.heap.size<=x\/∃j,x∈L j))/\(∀k a x,x∈L' k->x∈L' a->k=a)/\AR ⟨λ_=>False,L',λ_=>0⟩ w' v r
def Qmq(P:uC)(w:I)(b:(W->Y W)->Prop)(f:W)(args:Y AV)(r:AV):Prop:=
 ∀(F:W->Prop) (L:W->Y W) (a:Y H),b L->Owns F L w->All2 (AR (Qr9 F L) w) a args->Calls P f a.toArray w (Qsm L w r)
def AVal(P:uC)(f:W)(args:Y AV)(r:AV):Prop:=Fr P f/\∀w,Qmq P w (λL=>GoodAt P ⟨w,λx=>∃j,x∈L j,S⟩) f args r
def Qfj(P:uC)(a:Base)(f:W)(args:Y AV)(r:AV):Prop:=Fr P f/\∀w,a.Keeps w->Qmq P w (λL=>∀x,(∃j,x∈L j)->a.lo x) f args r
theorem AVal.at{P:uC}{e:Base}[g:GoodAt P e]{f:W}{args:Y AV}{r:AV}(h:AVal P f args r):Qfj P e f args r:=
 ⟨h.1,λw hb F L a c=>h.2 w F L a ⟨λw' b=>g.at_ w' (hb.step b.os b.tape b.output b.size λk d i=>b.block k d λj=>i (c k j))⟩⟩
structure RowAt (w:I) (n:W) (oa:uA Addr) (m cap:W) (olds:Y H):Prop where
 len:olds.length=m*n
 row:(oa=oa/\m=0/\cap=0)\/∃g cur e,oa=U ⟨g,0,S⟩/\w.heap[g]? =U (.cells cur e (0,0))/\cur.size=cap*n/\cur.toList.take (m*n)=olds
 le:m<=cap
 cap:cap<=uH
 lim:m<1073741824
 ones:∀u,u∈olds->u.oneCell'=O
structure Turned (w w':I) (n:W) (oa:uA Addr) (cap:W) (u:H) (m':W) (news:Y H):Prop where
 os:w'.os=w.os
 tape:w'.tape=w.tape
 output:w'.output=w.output
 size:w.heap.size<=w'.heap.size
 row:∃g' cap' cur' e',u= .slice (U ⟨g',0,S⟩) m' cap'/\w'.heap[g']? =U (.cells cur' e' (0,0))/\cur'.size=cap'*n/\cur'.toList.take (m'*n)=news/\m'<=cap'/\cap'<=uH/\
  ((oa=U ⟨g',0,S⟩/\0<cap/\∀b,b≠g'->w'.heap[b]? =w.heap[b]?)\/(w.heap.size<=g'/\g'<w'.heap.size/\∀b,b<w.heap.size->w'.heap[b]? =w.heap[b]?))
def Qsn(w:I)(n i:W)(b:uA Addr)(m cap:W)(a vs:Y H)(e:Ending)(w':I):Prop:=
 ∃u,e= .returned u/\Turned w w' n b cap u (m+1) (a.take (i*n)++vs++a.drop (i*n))
structure OneAt (w:I) (n:W) (oa:uA Addr) (cap:W) (vb voff:W) (vs:Y H):Prop where
 len:vs.length=n
 cells:∀j u,vs[j]? =U u->w.cell? ⟨vb,voff+j,S⟩=U u
 ones:∀u,u∈vs->u.oneCell'=O
 ne:∀g,oa=U ⟨g,0,S⟩->0<cap->vb≠g
def Qti(P:uC)(f n:W):Prop:=Fr P f/\0<n/\∀(w:I) (oa:uA Addr) (m cap:W) (olds:Y H) (i vb voff vc:W) (vs:Y H),RowAt w n oa m cap olds->OneAt w n oa cap vb voff vs->i<=m->
 Calls P f #[.slice oa m cap,.int .i64 (i:Int),.slice (U ⟨vb,voff,S⟩) 1 vc] w (Qsn w n i oa m cap olds vs)
def V0(P:uC)(a:Base):TakeT:=⟨FL P a,SA P a,Qfj P a,Qti P⟩
def Zn(d:W):Y W->Y W
 | []=> []
 | k::r=>(64*d+k)::Zn d r
def P0:Y W->Y W->uD
 | [],_=>O
 | x::r,l=> !(Nr x l)&&P0 r l
def Qnu(f:C->uD):Y C->uD
 | []=>E
 | c::r=>f c|| Qnu f r
def VQ(bn:Y (W×Y C))(d f:W)(caps:uA (Y (Y PV)))(a:Y AV)(r:AV)(b:uD):uA (Res×Y Ob):=
 match R6 bn a,caps with
 | some args,U cps=>
   bif Ai WX r.cells&&Ao (Qu r.cells) then
    bif Qnu ZH r.cells then
     bif !b&&Ai Px (Ze a)&&P0 (Zn d (Qu r.cells)) (Qu (Ze a)) then
      U (⟨r.map (WW d),Vc (Zn d (Qu r.cells))++X7 (Qu (Ze a)),S,S⟩, [.call f (args++cps.map λc=> .one (.rptr .sh c)) r])
     else S
    else U (⟨r.map (WW d),Vc (Zn d (Qu r.cells)),S,S⟩, [.call f (args++cps.map λc=> .one (.rptr .sh c)) r])
   else S
 | _,_=>S
def Qnv(orc:Orc)(bn:Y (W×Y C))(a:uA W):Op->Y AV->uA (Res×Y Ob)
 | .call ⟨.value _,_,_⟩,.one (.fn f caps)::avs=>
   (match a,orc with
   | some d,.val r=>VQ bn d f (S3 bn caps) avs r (match caps with
     | []=>E
     | _=>O)
   | _,_=>S)
 | .call ⟨.value _,_,_⟩,.one (.fnr f caps)::avs=>
   (match a,orc with
   | some d,.val r=>VQ bn d f (U caps) avs r O
   | _,_=>S)
 | _,_=>S
section
variable {P:uC} {N:W} {w0:Base} {F0:W->Prop} {J:Inj} {a:Act} {w:I} {s:St}
theorem L9{o:Oper}{K:Act->I->Prop}{Q:Exit->Act->I->Prop}{x:Operand}{args:uE Operand}{tys:uE uG}{n:W}{caps:uE H}(ho:o.op= .call {callee:= .value x,args:=args,argTypes:=tys})
 (hx:a.eval x= .func (.func n) #[] caps) (hf:Fr P n)
 (h:Calls P n (args.map a.eval++caps) w (λe w''=>match e,w'' with
  | .returned v,w''=>K (a.put o.dst v) w''
  | .panicked c,w''=>Q (.panic c) a w''
  | .outgrown,_=>LetsOut Q)):o.wp P a w K Q:=by
 obtain⟨fn,hfn,hq⟩:=zW.1 hf;simp only[zP] at hq;unfold Oper.wp execOp;simp only[ho,resolve,Sem.run_bind,hx,Deferred.ofValue,Sem.run_pure,Result.andThen_ok,invoke,Array.empty_append]
 have hcf:(callFunc n (args.map a.eval++caps)).run P w= .ok (.enter n (args.map a.eval++caps)) w:=by
  have h1 : ¬ fn.name = "runtime.NumGoroutine" := by simpa using hq.1
  have h2:¬fn.body=S:=λe=>by rw[e] at hq;simp at hq
  unfold callFunc;simp[hfn,h1,h2]
 rw[hcf];rw[Oper.upon_enter];exact h.mono λe w' hh=>by cases e<;>exact hh
def BoxF(J:Inj)(w:I)(F:W->Prop)(bn:Y (W×Y C)):Prop:=
 ∀k x,get bn k=U x->F (J.B k)/\(∀c,c∈Qu x->∀b,b∈J.L c->F b)/\∃a e,w.heap[J.B k]? =U (.cells a e (0,0))/\All2 (CR J w) a.toList x
theorem BoxF.of{bn:Y (W×Y C)}(h:∀k b,b∈J.L k->b<w.heap.size)(d:∀k x,get bn k=U x->∃a e,w.heap[J.B k]? =U (.cells a e (0,0))/\All2 (CR J w) a.toList x):BoxF J w (λb=>b<w.heap.size) bn:=λk x f=>by
 obtain⟨a,e,c,g⟩:=d k x f;exact⟨Xb c,λi _ b j=>h i b j,a,e,c,g⟩
theorem LY:∀(n:W) {cs:Y C} {k:W},k∈Qu (cs.drop n)->k∈Qu cs
 | 0,_,_,h=>by simpa using h
 | _+1, [],_,h=>by simp at h;exact h
 | n+1,_::r,_,h=>by
   rw[List.drop_succ_cons] at h;simp only[Qu];exact zF _ (LY n h)
theorem DC:∀{l:Y C},Ai Px l=O->Ai WY l=O
 | [],_=>rfl
 | c::l,h=>by
   simp only[Ai,zE] at h⊢;refine⟨?_,DC h.2⟩;have a:=h.1;cases c<;>first | rfl | cases a
theorem FM{F:W->Prop}{bn:Y (W×Y C)}(y:∀b,J.F b->F b){v:H}{c c':C}(m:CR J w v c)(q:Qa1 bn c=U c')(V:∀k,c.key=U k->∀b,b∈J.L k->F b)
 (z:WY c=O\/BoxF J w F bn):CR (LL F) w v c':=by
 have s:BoxF J w F bn->∀k off cs,Qjx bn k off=U cs->Reads F w (.pointer (U ⟨J.B k,off,S⟩)) cs:=by
  intro h3 k off cs hb;unfold Qjx at hb;split at hb
  . rename_i x hx;obtain⟨h1,h2,a1,e,hg,a2⟩:=h3 k x hx;refine⟨J.B k,off,a1.toList.drop off,rfl,h1,QP (a2.drop off) hb (λb hb=>⟨y b hb,rfl⟩) (λk' a3 b hb=>⟨h2 k' (LY off a3) b hb,rfl⟩), ?_⟩
    have:=Cx (w:=w) (vs:=a1.toList) (b:=J.B k) (off:=0) (k:=off) (λj u hj=>by
     rw[yJ] at hj;simp[World.cell?,hg,hj])
    simpa using this
  cases hb
 cases c with
 | int=>obtain rfl:=zD q;exact m
 | bool=>obtain rfl:=zD q;exact m
 | str=>obtain rfl:=zD q;exact m
 | slc t n l=>
   obtain rfl:=zD q;exact Qfh (X:=F) m rfl (λb hb=>⟨y b hb,rfl⟩) λk hk b hb=>⟨V k hk b hb,rfl⟩
 | ptr k off=>
   obtain⟨cs,a,rfl⟩:=zW.1 q;rcases z with z | h3
   . cases z
   show Reads F w v cs;rw[show v=_ from m];exact s h3 k off cs a
 | rptr t cs=>
   obtain rfl:=zD q;refine Reads.keep m λb hb=>⟨?_,rfl⟩
   cases t with
   | sh=>exact y b hb
   | emp=>exact hb.elim
   | own=>exact hb.elim
   | put=>exact hb.elim
   | vw k=>exact hb.elim (V k rfl b) (y b)
 | ept d k n i o cs=>
   obtain rfl:=zD q;obtain⟨g,r,vs,h1,h2,h3,h4,_⟩:=m;refine⟨g,i*n+o,vs,h2,V k rfl g (by rw[h1];exact zL),h3.keep λb hb=>⟨?_,rfl⟩,h4⟩;cases d with
   | true=>exact hb.elim (V k rfl b) (y b)
   | false=>exact y b hb
 | fn f caps =>
   obtain⟨cs,a,rfl⟩:=zW.1 q;rcases z with z | h3
   . cases caps with
     | nil=>
       obtain rfl: []=cs:=by simpa [S3] using a
       exact⟨[],m,.nil⟩
     | cons=>cases z
   refine⟨_,m, ?_⟩;clear m q V
   induction caps generalizing cs with
   | nil => obtain rfl: []=cs:=by simpa [S3] using a
            exact .nil
   | cons c caps ih=>
     simp only[S3] at a;split at a
     . rename_i p ps e1 e2;obtain rfl:=zD a;exact .cons (s h3 c.1 c.2 p e1) (ih ps e2)
     cases a
 | fnr f caps=>
   obtain rfl:=zD q;obtain⟨vs,rfl,ha⟩:=m;exact⟨vs,rfl,ha.imp λ_ _ _ h=>h.keep λb hb=>⟨y b hb,rfl⟩⟩
 | raw u=>obtain rfl:=zD q;exact m
 | dead=>cases q
theorem P1{F : Nat -> Prop}{bn : List (W×Y C)}(n:∀b,J.F b->F b):∀{vs:Y H} {avs args:Y AV},All2 (AR J w) vs avs->R6 bn avs=U args->(∀k,k∈Qu (Ze avs)->∀b,b∈J.L k->F b)->
 (Ai WY (Ze avs)=O\/BoxF J w F bn)->All2 (AR (LL F) w) vs args
 | _, _, args, .nil, he, _, _ => by obtain rfl: []=args:=by simpa [R6] using he
                                    exact .nil
 | _, _, args, .cons (b:=x) h1 h2,he,g,d=>by
   have o:∀(cs cs':Y C),Qu (cs++cs')=Qu cs++Qu cs':=by
    intro cs cs'
    induction cs with
    | nil=>rfl
    | cons c cs i=>simp[Qu,i]
   have r:∀(f:C->uD) (cs cs':Y C),Ai f (cs++cs')=(Ai f cs&&Ai f cs'):=by
    intro f cs cs'
    induction cs with
    | nil=>rfl
    | cons c cs i=>simp[Ai,i,Bool.and_assoc]
   simp only[R6] at he;split at he
   . rename_i p ps s t;obtain rfl:=zD he;simp only[Ze,o] at g;simp only[Ze,r,zE] at d;refine .cons ?_ (P1 n h2 t (λk a=>g k (zF _ a)) (d.imp (λh=>h.2) id));have j:∀k,k∈Qu x.cells->∀b,b∈J.L k->F b:=λk a=>g k (zG _ a)
     have m:=d.imp (λh=>h.1) id
     have hlist :∀(cs:Y C) (us:Y H) (qs:Y C),All2 (CR J w) us cs->WV bn cs=U qs->(∀k,k∈Qu cs->∀b,b∈J.L k->F b)->(Ai WY cs=O\/BoxF J w F bn)->All2 (CR (LL F) w) us qs:=by
      intro cs
      induction cs with
      | nil => intro us qs h he _ _;cases h;obtain rfl: []=qs:=by simpa [WV] using he
               exact .nil
      | cons c cs i=>
        intro us qs h he g d;cases h with
        | cons u v=>
          simp only[WV] at he;split at he
          . rename_i q y z V;obtain rfl:=zD he;simp only[Ai,zE] at d;exact .cons (FM n u z (λk a=>g k (by simp[Qu,a])) (d.imp (λh=>h.1) id)) (i _ _ v V (λk a=>g k (by simp only[Qu];exact zF _ a)) (d.imp (λh=>h.2) id))
          cases he
     cases x with
     | one c=>
       obtain⟨c',e,rfl⟩:=zW.1 s;exact FM n h1 e (λk a=>j k (by simp[AV.cells,Qu,a])) (m.imp (λh=>by simpa [AV.cells,Ai] using h) id)
     | agg cs=>
       obtain⟨c',e,rfl⟩:=zW.1 s;obtain⟨us,rfl,hu⟩:=h1;exact⟨us,rfl,hlist cs us c' hu e j m⟩
     | tup l=>cases s
   cases he
end
end
section
open Go.RowKit
section
variable {P:uC} {N:W} {w0:Base} {F0:W->Prop} {J:Inj} {a:Act} {w:I} {s:St}
theorem B2{d x:W}:∀{ks:Y W},x∈Zn d ks↔∃k,k∈ks/\x=64*d+k
 | []=>by simp[Zn]
 | k::r=>by
   simp only[Zn,zM,B2 (ks:=r)];exact⟨λh=>h.elim (λe=>⟨k,.inl rfl,e⟩) λ⟨a,h1,h2⟩=>⟨a,.inr h1,h2⟩,λ⟨a,h1,h2⟩=>h1.elim (λe=> .inl (e▸h2)) λh=> .inr ⟨a,h,h2⟩⟩
theorem Gq:∀{l m:Y W},P0 l m=O->∀x,x∈l->x∉m
 | [],_,_,x,hx,_=>by simp at hx
 | y::l,m,h,x,hx,hm=>by
   simp only[P0,zE,zT] at h;rcases zM.1 hx with rfl | hx
   . rw[Cy.2 hm] at h;exact absurd h.1 (by simp)
   exact Gq h.2 x hx hm
theorem Hw{f:C->uD}:∀{cs:Y C},Ai f cs=O->∀c,c∈cs->f c=O
 | [],_,c,hc=>by simp at hc
 | x::r,h,c,hc=>by
   simp only[Ai,zE] at h;rcases zM.1 hc with rfl | hc
   . exact h.1
   exact Hw h.2 c hc
theorem ZL{f:C->uD}:∀{cs:Y C},Qnu f cs=E->∀c,c∈cs->f c=E
 | [],_,c,hc=>by simp at hc
 | x::r,h,c,hc=>by
   simp only[Qnu,Bool.or_eq_false_iff] at h;rcases zM.1 hc with rfl | hc
   . exact h.1
   exact ZL h.2 c hc
theorem Nw:∀{cs:Y C} {c:C} {k:W},c∈cs->c.key=U k->k∈Qu cs
 | x::r,c,k,hc,hk=>by
   simp only[Qu];rcases zM.1 hc with rfl | hc
   . exact zG _ (by rw[hk];simp)
   exact zF _ (Nw hc hk)
theorem LZ:∀{cs:Y C},Ai WX cs=O->∀{k:W},k∈Qu cs->k<64
 | [],_,k,hk=>by simp[Qu] at hk
 | c :: r,h,k,hk=>by
   simp only[Ai,zE] at h;simp only[Qu] at hk;rcases zK.1 hk with hk | hk
   . have a:=h.1;cases c with
     | slc t n l=>
       cases t with
       | own b d=>
         simp[C.key,Tok.key] at hk;subst hk;simp only[WX,yZ] at a;exact a
       | _=>simp[C.key,Tok.key] at hk;try cases a
     | _=>simp[C.key] at hk;try cases a
   exact LZ h.2 hk
theorem MA(f:Rel N w0 F0 J a w s)(d:W)(hd:d<N){r:AV}{frz:Y W}(a3:Ai WX r.cells=O)(Fc:W->Prop)(ai:∀b,Fc b->b<w.heap.size)
 (y:(frz= []/\Qnu ZH r.cells=E)\/((∀b,Fc b↔J.F b\/∃k,k∈frz/\b∈J.L k)/\∀x,x∈Zn d (Qu r.cells)->x∉frz)) {e:Ending} {w':I} (a7:Qj5 Fc w r e w'):
 ∃v J',e= .returned v/\Rel N w0 F0 J' (a.put (U d) v) w' (s.step (U d) ⟨r.map (WW d),Vc (Zn d (Qu r.cells))++X7 frz,S,S⟩):=by
 obtain⟨v,L,rfl,hb,aa,a4,ab,hr⟩:=a7;have ah:∀k,k∈Qu r.cells->k<64:=λk g=>LZ a3 g
 have h0:=f.below.size;have aj:=hb.size;have z:∀b,b<w.heap.size->w'.heap[b]? =w.heap[b]? :=hb.block
 have ad:∀x,x∈Zn d (Qu r.cells)->x∉frz:=λx hx=>by
  rcases y with⟨e,_⟩ | ⟨_,h⟩
  . rw[e];simp
  exact h x hx
 have a1:∀x,get (Vc (Zn d (Qu r.cells))++X7 frz) x=if x∈Zn d (Qu r.cells) then U S else if x∈frz then U (U .sh) else S:=by
  intro x;rw[ZK,A3];by_cases h:x∈Zn d (Qu r.cells)
  . rw[uB h,uB h]
  rw[D h,D h];exact U9
 let shares:=Qnu ZH r.cells
 let J':Inj:=⟨λb=>if frz= []/\shares=E then J.F b else(Fc b\/(w.heap.size<=b/\b<w'.heap.size/\∀k,b∉L k)),λx=>if x∈Zn d (Qu r.cells) then L (x-64*d) else if x∈frz then [] else J.L x,J.B⟩
 have a8:∀b,J.F b->J'.F b:=λb hb'=>by
  show if _ then _ else _
  split
  . exact hb'
  rename_i hn;rcases y with h | ⟨h,_⟩
  . exact absurd h hn
  exact .inl ((h b).2 (.inl hb'))
 have a5:∀b,J'.F b->J.F b\/(∃k,k∈frz/\b∈J.L k)\/(w.heap.size<=b/\b<w'.heap.size/\∀k,b∉L k):=λb hb'=>by
  have hb':if frz= []/\shares=E then J.F b else(Fc b\/(w.heap.size<=b/\b<w'.heap.size/\∀k,b∉L k)):=hb'
  split at hb'
  . exact .inl hb'
  rename_i hn;rcases y with h | ⟨h,_⟩
  . exact absurd h hn
  rcases hb' with hb' | hb'
  . exact((h b).1 hb').imp id .inl
  exact .inr (.inr hb')
 refine⟨v,J',rfl,f.upd (U d) (λd' e=>by cases e;exact hd) _ v (f.below.trans (hb.mono h0)) ⟨λb hb'=>⟨a8 b hb',z b (f.fl b hb').1⟩,λk g=>?_,λk g b p=>?_,λk V g=>?_,λk t g=>?_,(λ_ _=>rfl),λk d m i o cs g=>by
  rw[a1] at g;split at g
  . cases g
  split at g<;>cases g⟩
  ⟨λb hb'=>?_,λb hb'=>a8 b (f.f0 b hb'),λk=>?_,λk b p=>?_,λk V b p q=>?_⟩ (λ_=>?_) (λk c g _=>?_) (λk c g=>by cases g)⟩
 . rw[a1] at g;split at g
   . cases g
   split at g
   . cases g
   rename_i h1 h2;exact⟨by show(if _ then _ else _)=_;rw[D h1,D h2],λb p=>z b (f.lo k b p).2.1⟩
 . rw [a1] at g;split at g
   . cases g
   split at g
   . rename_i h1 h2;refine⟨?_,z b (f.lo k b p).2.1⟩;show if _ then _ else _
     rcases y with⟨e,_⟩ | ⟨h,_⟩
     . rw[e] at h2;simp at h2
     rw[D λhn=>by rw[hn.1] at h2;simp at h2];exact .inl ((h b).2 (.inr ⟨k,h2,p⟩))
   cases g
 . rw[a1] at g;split at g
   . cases g
   split at g<;>cases g
 . rw[a1] at g;split at g
   . cases g
   split at g
   . simp at g;exact .inl g.symm
   cases g
 . rcases a5 b hb' with h | ⟨k,_,h⟩ | ⟨h1,h2,_⟩
   . have:=f.fl b h;exact⟨by omega,this.2⟩
   . have:=f.lo k b h;exact⟨by omega,.inr this.1⟩
   exact⟨h2,.inr (.inl (by omega))⟩
 . show(if _ then _ else _:Y W).Nodup;split
   . exact aa _
   split
   . simp
   exact f.nd k
 . have p:b∈(if k∈Zn d (Qu r.cells) then L (k-64*d) else if k∈frz then [] else J.L k):=p;split at p
   . obtain⟨h1,h2⟩:=a4 _ b p;refine⟨.inl (by omega),h2,λhF=>?_⟩;rcases a5 b hF with h | ⟨V,_,h⟩ | ⟨_,_,h⟩
     . have:=(f.fl b h).1;omega
     . have:=(f.lo V b h).2.1;omega
     exact h _ p
   split at p
   . simp at p
   rename_i h1 h2;obtain⟨g1,g2,g3⟩:=f.lo k b p;refine⟨g1,by omega,λhF=>?_⟩;rcases a5 b hF with h | ⟨V,ae,h⟩ | ⟨h,_,_⟩
   . exact g3 h
   . exact h2 (f.dj k V b p h▸ae)
   omega
 . have p:b∈(if k∈Zn d (Qu r.cells) then L (k-64*d) else if k∈frz then [] else J.L k):=p;have q:b∈(if V∈Zn d (Qu r.cells) then L (V-64*d) else if V∈frz then [] else J.L V):=q;split at p<;>split at q
   . rename_i h1 h2;have:=ab _ _ b p q;obtain⟨j,_,rfl⟩:=B2.1 h1;obtain⟨j',_,rfl⟩:=B2.1 h2;omega
   . split at q
     . simp at q
     have:=(a4 _ b p).1;have:=(f.lo V b q).2.1;omega
   . split at p
     . simp at p
     have:=(a4 _ b q).1;have:=(f.lo k b p).2.1;omega
   split at p
   . simp at p
   split at q
   . simp at q
   exact f.dj k V b p q
 . refine AR.map (WW d) hr λu c hc a2=>?_
   have a9:=Hw a3 c hc;cases c with
   | int | bool | str | raw=>exact a2
   | slc t n l=>
     cases t with
     | emp=>exact a2
     | vw k=>cases a9
     | put=>exact a2.elim
     | own b k=>
       cases b with
       | false=>
         have a6:shares=O:=by
          cases hs:shares with
          | true=>rfl
          | false=>have:=ZL hs _ hc;simp[ZH] at this
         show OwnTop J'.F (if 64*d+k∈Zn d (Qu r.cells) then L (64*d+k-64*d) else _) w' u _ _;rw[uB (B2.2 ⟨k,Nw hc rfl,rfl⟩),yA];refine OwnTop.keep (F:=(Qnt Fc w w' L).F) a2 (λb hb'=>⟨?_,rfl⟩) λ_ _=>rfl
         show if _ then _ else _
         rw[D (by rw[a6];simp)];exact hb'
       | true=>
         show OwnDeep (if 64*d+k∈Zn d (Qu r.cells) then L (64*d+k-64*d) else _) w' u _ _;rw[uB (B2.2 ⟨k,Nw hc rfl,rfl⟩),yA];exact a2
     | sh=>
       have a6:shares=O:=by
        cases hs:shares with
        | true=>rfl
        | false=>have:=ZL hs _ hc;simp[ZH] at this
       refine VV.keep (X:=(Qnt Fc w w' L).F) (λb hb'=>⟨?_,rfl⟩) a2;show if _ then _ else _
       rw[D (by rw[a6];simp)];exact hb'
   | _=>cases a9
 obtain⟨_,h2,h3,ak,e,h4,_⟩:=f.bo k c g;have af:=Xb h4;refine⟨by simp,λhF=>?_,λV p=>?_,z _ af⟩
 . rcases a5 _ hF with h | ⟨V,_,h⟩ | ⟨h,_,_⟩
   . exact h2 h
   . exact h3 V h
   omega
 have p:J.B k∈(if V∈Zn d (Qu r.cells) then L (V-64*d) else if V∈frz then [] else J.L V):=p;split at p
 . have:=(a4 _ _ p).1;omega
 split at p
 . simp at p
 exact h3 V p
theorem All2.of_map{α β γ:Type}{R:α->β->Prop}(f:γ->α):∀{l:Y γ} {m:Y β},All2 (λx b=>R (f x) b) l m->All2 R (l.map f) m
 | _,_,.nil=> .nil
 | _,_,.cons h1 h2=> .cons h1 (All2.of_map f h2)
theorem UD{o:Oper}{x:Operand}{args:uE Operand}{ae:uE uG}{f:W}{caps:uE H}{a6:uA (Y (Y PV))}{l:Y AV}{r:AV}{m:uD}{bn:Y (W×Y C)}{rs:Res}{a7:Y Ob}{d:W}
 (ho:o.op= .call ⟨.value x,args,ae⟩) (a1:o.dst=U d) (z:d<N) (hx:a.eval x= .func (.func f) #[] caps) (h:VQ bn d f a6 l r m=U (rs,a7)) (a8:AllOb (Zp P w0) (V0 P w0) a7)
 (g:Rel N w0 F0 J a w s) (hv:All2 (AR J w) (args.toList.map a.eval) l) (af:∀k c,get bn k=U c->get s.bx k=U c)
 (n:∀cs,a6=U cs->(m=E->cs= []/\caps= #[])/\All2 (Reads (λb=>b<w.heap.size) w) caps.toList cs)
 {K:Act->I->Prop} {Q:Exit->Act->I->Prop} (hK:∀J' a' w',Rel N w0 F0 J' a' w' (s.step o.dst rs)->K a' w'):o.wp P a w K Q:=by
 unfold VQ at h;split at h
 rotate_left
 . cases h
 rename_i a9 cs aa;have ab:U cs=U cs:=rfl;cases hc:(Ai WX r.cells&&Ao (Qu r.cells)) with
 | false=>rw[hc] at h;cases h
 | true =>
   rw[hc] at h;simp only[uF] at h;simp only[zE] at hc;rw[a1] at hK
   have ah:∀k x,get bn k=U x->∃ad e,w.heap[J.B k]? =U (.cells ad e (0,0))/\All2 (CR J w) ad.toList x:=λk x hk=>by
    obtain⟨_,_,_,h⟩:=g.bo k x (af k x hk);exact h
   have p:∀b,J.F b->b<w.heap.size:=λb hb=>(g.fl b hb).1
   have y:∀(F:W->Prop) (us:Y H) (cs:Y (Y PV)),All2 (Reads F w) us cs->All2 (AR (LL F) w) us (cs.map λc=> .one (.rptr .sh c)):=by
    intro F us cs h
    induction h with
    | nil=>exact .nil
    | cons h1 _ ih=>exact .cons h1 ih
   have q:(args.map a.eval++caps)=(args.toList.map a.eval++caps.toList).toArray:=by
    apply yS;simp
   cases a2:Qnu ZH r.cells with
   | true=>
     rw[a2] at h;simp only[uF] at h;cases hm:(!m&&Ai Px (Ze l)&&P0 (Zn d (Qu r.cells)) (Qu (Ze l))) with
     | false=>rw[hm] at h;cases h
     | true=>
       rw[hm] at h;simp only[uF,zN,zP] at h;obtain⟨rfl,rfl⟩:=h;simp only[zE,zT] at hm;obtain⟨⟨hp,ai⟩,aj⟩:=hm;have t:Zp P w0 f (a9++cs.map λc=> .one (.rptr .sh c)) r:=a8;obtain⟨a3,i⟩:=t
       let F:W->Prop:=λb=>J.F b\/∃k,k∈Qu (Ze l)/\b∈J.L k
       have V:∀b,F b->b<w.heap.size:=λb hb=>hb.elim (p b) λ⟨k,_,h⟩=>(g.lo k b h).2.1
       have j:=P1 (F:=F) (bn:=bn) (λb hb=> .inl hb) hv aa (λk hk b hb=> .inr ⟨k,hk,hb⟩) (.inl (DC ai));have a4:cs= []/\caps= #[]:=(n cs ab).1 hp;obtain⟨rfl,rfl⟩:=a4;have hC:=i w g.below F _ V (j.append .nil);refine L9 ho hx a3 ?_;rw[q];refine hC.mono λe w' u=>?_
       obtain⟨v,J',rfl,hR⟩:=MA g d z (frz:=Qu (Ze l)) hc.1 F V (.inr ⟨λb=>Iff.rfl,Gq aj⟩) u;rw[a1];exact hK J' _ _ hR
   | false=>
     rw[a2] at h;simp only[uI,zN,zP] at h;obtain⟨rfl,rfl⟩:=h;have t:Zp P w0 f (a9++cs.map λc=> .one (.rptr .sh c)) r:=a8;obtain⟨a3,i⟩:=t;have j:=P1 (F:=λb=>b<w.heap.size) (bn:=bn) p hv aa (λk _ b hb=>(g.lo k b hb).2.1) (.inr (BoxF.of (λk b hb=>(g.lo k b hb).2.1) ah));have a5:All2 (Reads (λb=>b<w.heap.size) w) caps.toList cs:=(n cs ab).2;have hC:=i w g.below (λb=>b<w.heap.size) _ (λ_ h=>h) (j.append (y _ _ _ a5));refine L9 ho hx a3 ?_;rw[q];refine hC.mono λe w' u=>?_
     obtain⟨v,J',rfl,hR⟩:=MA g d z (frz:= []) hc.1 (λb=>b<w.heap.size) (λ_ h=>h) (.inl ⟨rfl,a2⟩) u;rw[a1];rw[show X7 []= [] from rfl,List.append_nil] at hR;exact hK J' _ _ hR
theorem Qj7{orc : Orc}{bn:Y (W×Y C)}{o:Oper}{q:Y AV}{r:Res}{t:Y Ob}(h:Qnv orc bn o.dst o.op q=U (r,t))(u:AllOb (Zp P w0) (V0 P w0) t)(l:∀d,o.dst=U d->d<N)
 (g:Rel N w0 F0 J a w s) (y:All2 (λx v=>BZ s x=U v) o.op.operands.toList q) (m:∀k c,get bn k=U c->get s.bx k=U c) {K:Act->I->Prop} {Q:Exit->Act->I->Prop}
 (hK:∀J' a' w',Rel N w0 F0 J' a' w' (s.step o.dst r)->K a' w'):o.wp P a w K Q:=by
 have z:=Dt g y;generalize ho:o.op=op at h z;generalize hd:o.dst=a2 at h;unfold Qnv at h
 have hreads:∀(caps:Y (W×W)) (cs:Y (Y PV)),S3 bn caps=U cs->All2 (Reads (λb=>b<w.heap.size) w) (caps.map λc=> .pointer (U ⟨J.B c.1,c.2,S⟩)) cs:=by
  intro caps
  induction caps with
  | nil => intro cs h;obtain rfl: []=cs:=by simpa [S3] using h
           exact .nil
  | cons c caps ih=>
    intro cs h;simp only[S3] at h;split at h
    . rename_i p ps V e2;obtain rfl:=zD h;refine .cons ?_ (ih ps e2)
      have:=FM (J:=J) (w:=w) (F:=λb=>b<w.heap.size) (bn:=bn) (c:= .ptr c.1 c.2) (c':= .rptr .sh p) (λb hb=>(g.fl b hb).1) (v:= .pointer (U ⟨J.B c.1,c.2,S⟩)) rfl (by simp[Qa1,V]) (λk hk=>by simp[C.key] at hk)
       (.inr (BoxF.of (λk b hb=>(g.lo k b hb).2.1) λk x hk=>by
        obtain⟨_,_,_,h⟩:=g.bo k x (m k x hk);exact h))
      exact this
    cases h
 split at h
 . rename_i x args a1 f caps i;split at h
   . rename_i d r';have n:All2 (λx v=>AR J w (a.eval x) v) (x::args.toList) (.one (.fn f caps)::i):=by simpa [Op.operands,Call.operands] using z
     cases n with
     | cons h1 h2 =>
       refine UD (P:=P) ho hd (l d hd) h1 h u g (All2.of_map _ h2) m (λcs j=>?_) hK;constructor
       . intro hp;cases caps with
         | nil => obtain rfl: []=cs:=by simpa [S3] using j
                  exact⟨rfl,rfl⟩
         | cons c caps=>cases hp
       simpa using hreads caps cs j
   cases h
 . rename_i x args a1 f caps i;split at h
   . rename_i d r';have n:All2 (λx v=>AR J w (a.eval x) v) (x::args.toList) (.one (.fnr f caps)::i):=by simpa [Op.operands,Call.operands] using z
     cases n with
     | cons h1 h2=>
       obtain⟨vs,V,hr⟩:=h1;refine UD (P:=P) ho hd (l d hd) V h u g (All2.of_map _ h2) m (λcs j=>?_) hK;obtain rfl:=zD j;exact⟨λe=>(by cases e),by simpa using hr.imp λ_ _ _ h=>h.keep λb hb=>⟨(g.fl b hb).1,rfl⟩⟩
   cases h
 cases h
end
end
section
open Go.RowKit
def Qfk(tt:Y (W×TI))(orc:Orc):Op->Y AV->uA (AV×Y Ob)
 | .indexAddr t _ _, [.one (.slc (.own d k) n l),.one (.int _ i)]=>
   (match get tt t,orc with
   | some ⟨.sli e,_,_,_⟩,.rowE r=>(match get tt e with
     | some ei=>bif zV ei.size n then U (.one (.ept d k n i.toNat 0 r), [.elem l i r]) else S
     | none=>S)
   | _,_=>S)
 | .fieldAddr t _ f, [.one (.ept d k n i o cs)]=>
   (match Iq tt t f with
   | some (o',sz,_)=>bif zV sz 0 then S else U (.one (.ept d k n i (o+o') (cs.drop o')), [])
   | none=>S)
 | .nilCheck _, [.one (.ept d k n i o cs)]=>U (.one (.ept d k n i o cs), [])
 | .load t _, [.one (.ept d k n i o cs)]=>
   (match get tt t with
   | some a=>bif yK a.size cs.length then(match Qc6 a ((cs.take a.size).map (CC (S1 d k))) with
     | some v=>U (v, [])
     | none=>S) else S
   | none=>S)
 | _,_=>S
section
variable {P:uC} {A:W->Y AV->AV->Prop} {T:TakeT} {J:Inj} {w:I}
theorem Qj8{d:uD}{k n:W}{l:Y (Y PV)}{v:H}(h:CR J w v (.slc (.own d k) n l)){i:W}{r:Y PV}(hi:l[i]? =U r):
 ∃g f cap vs,v= .slice (U ⟨g,0,S⟩) l.length cap/\J.L k=g::f/\VC (J.X (S1 d k)) w vs r/\(∀(j:W) (u:H),vs[j]? =U u->w.cell? ⟨g,i*n+j,S⟩=U u)/\∃q e,w.heap[g]? =U (.cells q e (0,0)):=by
 have m:l≠ []:=λe=>by subst e;simp at hi
 have a:∀(g:W) (cur:uE H) (e:uG),w.heap[g]? =U (.cells cur e (0,0))->∀(j:W) (u:H),(((cur.toList.take (l.length*n)).drop (i*n)).take n)[j]? =U u->w.cell? ⟨g,i*n+j,S⟩=U u:=by
  intro g cur e c
  have:=El (k:=n) (Cx (w:=w) (vs:=cur.toList.take (l.length*n)) (b:=g) (off:=0) (k:=i*n) (λj u o=>by
   rw[List.getElem?_take] at o;split at o
   . rw[yJ] at o;simp[World.cell?,c,o]
   cases o))
  simpa using this
 cases d with
 | true=>
   obtain⟨L',s,_,z,t⟩:=h;generalize x:PV.slc n l=p at s;cases s with
   | int | bool | str | any | raw=>cases x
   | emp=>cases x;exact absurd rfl m
   | @slc g cap n' cur e L l' c V y h5 h6=>
     cases x
     rcases t with t | ⟨g',r1,r2,e1,e2⟩
     . cases t
     cases e1
     have hv:=y.vr (X:=J.X (.vw k)) λb hb=> .inl (z b (zJ _ hb))
     exact⟨g,r2,cap,_,rfl,e2,(hv.get hi).1,a g cur e c,cur,e,c⟩
 | false=>
   rcases h with⟨e,_⟩ | ⟨g,cap,cur,e,hL,rfl,c,V,y,s,h2⟩
   . exact absurd e m
   exact⟨g, [],cap,_,rfl,hL,(y.get hi).1,a g cur e c,cur,e,c⟩
theorem MB{tt:Y (W×TI)}(y:Nq P tt=O){orc:Orc}{op:Op}{a3:Y AV}{v:AV}{obs:Y Ob}(h:Qfk tt orc op a3=U (v,obs))(a8:AllOb A T obs)
 {o:Oper} (ho:o.op=op) {ρ:Operand->H} (hv:All2 (λx v=>AR J w (ρ x) v) op.operands.toList a3):
 ∃u,(execOp ρ o).run P w= .ok (.value u) w/\AR J w u v:=by
 unfold Qfk at h;split at h
 ·rename_i t px pi d k n l kk i;split at h
  . rename_i e n' z q r hg;split at h
    . rename_i ei a9;cases m:zV ei.size n with
      | false=>rw[m] at h;cases h
      | true =>
        rw[m] at h;obtain⟨rfl,rfl⟩:AV.one (.ept d k n i.toNat 0 r)=v/\ [Ob.elem l i r]=obs:=by simpa using h
        obtain⟨h0,hl⟩:0<=i/\l[i.toNat]? =U r:=a8;have hu:=(Jc y hg).sli;have hs:=Cw (P:=P) (Jc y a9) w;have hn:ei.size=n:=by simpa using m
        cases hv with
        | cons h1 h2=>
          cases h2 with
          | cons h2 _=>
            obtain⟨e2,_⟩:=h2;obtain⟨g,b,cap,vs,e1,hL,a1,hc,s⟩:=Qj8 h1 hl;have af:i.toNat<l.length:=(List.getElem?_eq_some_iff.1 hl).1;have a4:i<(l.length:Int):=by omega
            refine⟨.pointer (U ⟨g,0+i.toNat*n,S⟩), ?_,g,b,vs,hL,by simp,a1,(λj u hj=>by simpa using hc j u hj),s⟩;simp[execOp,ho,e1,e2,Instr.indexAt,asIntOf,run_underlying hu,h0,a4,hs,hn,Addr.add_lit]
    cases h
  cases h
 ·rename_i t px f d k n i o' cs;cases hv with
  | cons h1 _=>
    obtain⟨g,b,vs,hL,e1,aa,hc,s⟩:=h1;split at h
    . rename_i of sz ag V;cases hz:zV sz 0 with
      | true=>rw[hz] at h;cases h
      | false=>
        rw[hz] at h;obtain⟨rfl,rfl⟩:AV.one (.ept d k n i (o'+of) (cs.drop of))=v/\ []=obs:=by simpa using h
        unfold Iq at V;split at V
        . rename_i fs n1 z hg;obtain⟨gs,hu,ab⟩:=(Jc y hg).struct;obtain⟨fg,ad,dd,k1,rfl,hi,rfl,hd,ah⟩:=R7 ab V;have ae:gs[f]? =U fg:=by simpa using k1
          refine⟨.pointer (U ⟨g,i*n+o'+fg.offset,S⟩), ?_,g,b,vs.drop fg.offset,hL,by rw[yY],aa.drop _, ?_,s⟩
          . have m:ad.size≠0:=λe=>by rw[e] at hz;cases hz
            simp[execOp,ho,e1,Instr.fieldAt,run_underlying hu,ae,Instr.sureAddr,fieldPlace,sizeOf,U4 hi,m,Addr.add_lit]
          have:=Cx (k:=fg.offset) hc;simpa [yY] using this
        cases V
    cases h
 ·rename_i px d k n i o' cs;obtain⟨rfl,rfl⟩:AV.one (.ept d k n i o' cs)=v/\ []=obs:=by simpa using h
  cases hv with
  | cons h1 _=>
    obtain⟨g,b,vs,hL,e1,hr⟩:=h1;exact⟨_,by simp[execOp,ho,e1],g,b,vs,hL,rfl,hr⟩
 ·rename_i t px d k n i o' cs;split at h
  . rename_i ti hg;cases a5:yK ti.size cs.length with
    | false=>rw[a5] at h;cases h
    | true =>
      rw[a5] at h;simp only[uF] at h;split at h
      . rename_i v' a6;obtain⟨rfl,rfl⟩:v'=v/\ []=obs:=by simpa using h
        cases hv with
        | cons h1 _=>
          obtain⟨g,b,vs,hL,e1,a1,hc,_⟩:=h1
          have a2:∀v p,VV (J.X (S1 d k)) w v p->CR J w v (CC (S1 d k) p):=by
           intro v p hp;refine FG (X:=J.X (S1 d k)) (λc n l hc=>?_) hp;cases d with
           | true=>exact hc
           | false=>exact hc
          have a7:All2 (CR J w) (vs.take ti.size) ((cs.take ti.size).map (CC (S1 d k))):=(VC.all2 (a1.take ti.size)).map (CC (S1 d k)) λa p _ hp=>a2 a p hp
          obtain⟨u,hu,hr⟩:=VP (P:=P) (Jc y hg) a7 a6 (El hc);exact⟨u,by simp[execOp,ho,e1,Instr.loadAt,Instr.sureAddr,hu],hr⟩
      cases h
  cases h
 cases h
end
end
section
open Go.RowKit
section
variable {X:W->Prop} {w w':I}
theorem OC.cut:∀(k:W) {L:Y W} {vs:Y H} {ps:Y PV},OC w L vs ps->∃L1 L2,L=L1++L2/\OC w L1 (vs.take k) (ps.take k)/\OC w L2 (vs.drop k) (ps.drop k)
 | 0,L,_,_,h=>⟨[],L,rfl,.nil,h⟩
 | _+1,_,_,_,.nil=>⟨[], [],rfl,.nil,.nil⟩
 | k+1,_,_,_,.cons h1 h2=>by
   obtain⟨L1,L2,rfl,a,b⟩:=OC.cut k h2;exact⟨_++L1,L2,(yG _ _ _).symm,.cons h1 a,b⟩
def Ul(cs:Y H)(p:W)(vs:Y H):Y H:=cs.take p++vs++cs.drop (p+vs.length)
theorem UE{ce cs vs:Y H}{p:W}:Ul (ce++cs) (ce.length+p) vs=ce++Ul cs p vs:=by
 unfold Ul;rw[List.take_length_add_append,yY,List.drop_length_add_append];simp
theorem ZM{ce cs vs:Y H}{p:W}(h:p+vs.length<=ce.length):Ul (ce++cs) p vs=Ul ce p vs++cs:=by
 unfold Ul;rw[yC (by omega),List.drop_append_of_le_length (by omega)];simp
theorem VR.put{vs:Y H}{ps:Y PV}(b:VC X w vs ps){o:W}:∀{n:W} {cs:Y H} {l:Y (Y PV)},o+ps.length<=n->VR X w n cs l->∀i,VR X w n (if i<l.length then Ul cs (i*n+o) vs else cs) (setRow l i o ps)
 | _,_,_,_,.nil n,i=>by simp only[List.length_nil,Nat.not_lt_zero,if_false,setRow];exact .nil n
 | n,_,_,ho,.cons (ce:=ce) (cs:=cs) (r:=r) (l:=l) h1 h2 h3,0=>by
   have d:=VC.length b;have c:=VC.length h1;simp only[List.length_cons,Nat.zero_lt_succ,if_true,setRow,xB,yR];rw[ZM (by omega)];refine .cons ?_ (by simp;omega) h3;unfold Ul;rw[d];exact VC.append (VC.drop _ h1) (VC.append b (VC.take _ h1))
 | n, _,_,ho,.cons (ce:=ce) (cs:=cs) (r:=r) (l:=l) h1 h2 h3,i+1=>by
   have c:=VC.length h1;have a:=VR.put b ho h3 i;simp only[List.length_cons,yQ,setRow];by_cases hi:i<l.length
   . rw[uB hi] at a⊢;have:(i+1)*n+o=ce.length+(i*n+o):=by rw[c,h2,zZ,yM];omega
     rw[this,UE];exact .cons h1 h2 a
   rw[D hi] at a⊢;exact .cons h1 h2 a
theorem OR.put{Lv:Y W}{vs:Y H}{ps:Y PV}(q:OC w Lv vs ps)(k:Lv.Nodup){o:W}:∀{n:W} {L:Y W} {cs:Y H} {l:Y (Y PV)},o+ps.length<=n->OR w n L cs l->L.Nodup->(∀b,b∈L->b∉Lv)->∀i,
 ∃L',OR w n L' (if i<l.length then Ul cs (i*n+o) vs else cs) (setRow l i o ps)/\L'.Nodup/\∀b,b∈L'->b∈L\/b∈Lv
 | _,_,_,_,_,.nil n,_,_,i=>by simp only[List.length_nil,Nat.not_lt_zero,if_false,setRow];exact⟨[],.nil n,zO,λb hb=>by simp at hb⟩
 | n, _,_,_,ho,.cons (ce:=ce) (cs:=cs) (r:=r) (l:=l) (L1:=L1) (L2:=L2) h1 h2 h3,hnd,hdj,0=>by
   have V:=OC.length q;have v:=OC.length h1;obtain⟨g,j,a⟩:=zH.1 hnd;simp only[List.length_cons,Nat.zero_lt_succ,if_true,setRow,xB,yR];rw[ZM (by omega)];obtain⟨s,A2,rfl,a1,a2⟩:=OC.cut o h1;obtain⟨M,B,rfl,_,z⟩:=OC.cut vs.length a2;rw[List.drop_drop,List.drop_drop] at z;obtain⟨m1,m2,m3⟩:=zH.1 g;obtain⟨q1,q2,q3⟩:=zH.1 m2
   have m:OC w (s++(Lv++B)) (Ul ce o vs) (r.take o++ps++r.drop (o+ps.length)):=by
    unfold Ul;rw[yG,yG,←V];exact OC.append (OC.append z q) a1
   refine⟨(s++(Lv++B))++L2,.cons m (by simp;omega) h3, ?_,λb hb=>?_⟩
   . have d1:∀b,b∈s->b∉Lv:=λb hb=>hdj b (by simp[hb])
     have d2:∀b,b∈B->b∉Lv:=λb hb=>hdj b (by simp[hb])
     have d3:∀b,b∈L2->b∉Lv:=λb hb=>hdj b (by simp[hb])
     refine zH.2 ⟨zH.2 ⟨m1,zH.2 ⟨k,q2,λx hx y hy e=>d2 y hy (e▸hx)⟩,λx hx y hy e=>?_⟩,j,λx hx y hy e=>?_⟩
     . subst e;rcases zK.1 hy with hy | hy
       . exact d1 x hx hy
       exact m3 x hx x (zF _ hy) rfl
     subst e;rcases zK.1 hx with hx | hx
     . exact a x (zG _ hx) x hy rfl
     rcases zK.1 hx with hx | hx
     . exact d3 x hy hx
     exact a x (zF _ (zF _ hx)) x hy rfl
   simp only[zK] at hb⊢;rcases hb with(hb | hb | hb) | hb
   . exact .inl (.inl (.inl hb))
   . exact .inr hb
   . exact .inl (.inl (.inr (.inr hb)))
   exact .inl (.inr hb)
 | n, _,_,_,ho,.cons (ce:=ce) (cs:=cs) (r:=r) (l:=l) (L1:=L1) (L2:=L2) h1 h2 h3,hnd,hdj,i+1=>by
   have v:=OC.length h1;obtain⟨g,j,a⟩:=zH.1 hnd;obtain⟨L',c,t,p⟩:=OR.put q k ho h3 j (λb hb=>hdj b (zF _ hb)) i
   have d:(L1++L').Nodup:=zH.2 ⟨g,t,λb hb b' u e=>by
    subst e;rcases p b u with h | h
    . exact a b hb b h rfl
    exact hdj b (zG _ hb) h⟩
   have f:∀b,b∈L1++L'->b∈L1++L2\/b∈Lv:=λb hb=>by
    rcases zK.1 hb with hb | hb
    . exact .inl (zG _ hb)
    exact(p b hb).imp (zF _) id
   simp only[List.length_cons,yQ,setRow];by_cases hi:i<l.length
   . rw[uB hi] at c⊢;have:(i+1)*n+o=ce.length+(i*n+o):=by rw[v,h2,zZ,yM];omega
     rw[this,UE];exact⟨_,.cons h1 h2 c,d,f⟩
   rw[D hi] at c⊢;exact⟨_,.cons h1 h2 c,d,f⟩
end
end
section
open Go.RowKit
def Qfl(tt:Y (W×TI)):Op->Y AV->uA (Res×Y Ob)
 | .store t _ _, [.one (.ept d k n i o pcs),v]=>
   (match get tt t,v.flatCells with
   | some ti,U cs=>(match G5 cs with
     | some ps=>bif zV cs.length ti.size&&Bq cs&&yK (o+ti.size) n&&yO n 4294967296&&yK ti.size pcs.length&&yO 0 ti.size&&Ao (k::Qu cs)&&(Mk cs|| !d) then
      U (⟨.one .dead,(k,U (.put d n i o ps))::(bif d then Vc (Qu cs) else X7 (Qu cs)),S,S⟩, []) else S
     | none=>S)
   | _,_=>S)
 | _,_=>S
section
variable {P:uC} {N:W} {w0:Base} {F0:W->Prop} {J:Inj} {a:Act} {w:I} {s:St}
theorem Nx{cur vs:Y H}{p:W}(h:p+vs.length<=cur.length):(Ul cur p vs).length=cur.length:=by
 unfold Ul;simp;omega
theorem SB{cur vs:Y H}{p m:W}(h:p+vs.length<=m)(b:m<=cur.length):(Ul cur p vs).take m=Ul (cur.take m) p vs:=by
 have a:(cur.take m).length=m:=by simp;omega
 have e:Ul cur p vs=Ul (cur.take m) p vs++cur.drop m:=by
  rw[←ZM (by omega),yV]
 rw[e,List.take_left' (by rw[Nx (by omega),a])]
theorem Qdd{cur vs:Y H}{p m:W}(h:m<=p)(a:p<=cur.length):(Ul cur p vs).take m=cur.take m:=by
 unfold Ul;rw[yG,yC (by simp;omega),List.take_take,yU h]
theorem DD{cur vs:Y H}{i n o len cap:W}(b:cur.length=cap*n)(c:len<=cap)(d:o+vs.length<=n)(e:i*n+o+vs.length<=cur.length):
 (Ul cur (i*n+o) vs).take (len*n)=if i<len then Ul (cur.take (len*n)) (i*n+o) vs else cur.take (len*n):=by
 have a:len*n<=cur.length:=by rw[b];exact zS _ c
 by_cases hi:i<len
 . rw[uB hi];refine SB ?_ a;have:(i+1)*n<=len*n:=zS _ hi;rw[zZ,yM] at this;omega
 rw[D hi];refine Qdd ?_ (by omega);have:len*n<=i*n:=zS _ (by omega);omega
theorem ZN(o:W)(ps:Y PV):∀(l:Y (Y PV)) (i:W),(setRow l i o ps).length=l.length
 | [],_=>rfl
 | _::_,0=>rfl
 | _::l,i+1=>uJ (· +1) (ZN o ps l i)
theorem MC : ∀ {cs :Y C} {ps:Y PV},G5 cs=U ps->ps.length=cs.length
 | [], ps, h => by obtain rfl: []=ps:=by simpa [G5] using h
                   rfl
 | c::r,ps,h=>by
   simp only[G5] at h;split at h
   . rename_i p a d b;obtain rfl:=zD h;exact uJ (· +1) (MC b)
   cases h
theorem Qfm{cs:Y C}{ps:Y PV}(h:G5 cs=U ps)(e:ps= [.any]):False:=by
 subst e;cases cs with
 | nil=>simp[G5] at h
 | cons c r=>
   simp only[G5] at h;split at h
   . rename_i p a b d;have h:=zD h;cases h
     cases c<;>simp[Qp6] at b
   cases h
theorem Qfn{tt : List (W×TI)}(b2:Nq P tt=O){o:Oper}{ao:Y AV}{r:Res}{obs:Y Ob}(h:Qfl tt o.op ao=U (r,obs))(ae:∀d,o.dst=U d->d<N)
 (f:Rel N w0 F0 J a w s) (ap:All2 (λx v=>BZ s x=U v) o.op.operands.toList ao) {K:Act->I->Prop} {Q:Exit->Act->I->Prop}
 (hK:∀J' a' w',Rel N w0 F0 J' a' w' (s.step o.dst r)->K a' w'):o.wp P a w K Q:=by
 have hv:=Dt f ap;generalize ho:o.op=op at h hv;unfold Qfl at h;split at h
 . rename_i t px py d k n i o' aq v;split at h
   . rename_i ti cs hg b3;split at h
     . rename_i ps hps;cases hc:(zV cs.length ti.size&&Bq cs&&yK (o'+ti.size) n&&yO n 4294967296&&yK ti.size aq.length&&yO 0 ti.size&&Ao (k::Qu cs)&&(Mk cs|| !d)) with
       | false=>rw[hc] at h;cases h
       | true =>
         rw[hc] at h;obtain⟨rfl,rfl⟩:(⟨.one .dead,(k,U (.put d n i o' ps))::(bif d then Vc (Qu cs) else X7 (Qu cs)),S,S⟩:Res)=r/\ []=obs:=by simpa using h
         simp only[zE,yH,Nat.ble_eq,yZ,yT,zT] at hc;obtain⟨⟨⟨⟨⟨⟨⟨c1,c2⟩,c3⟩,bg⟩,c4⟩,c5⟩,c6⟩,c7⟩:=hc
         have af:∀l,Qmj l i o' ps=setRow l i o' ps:=λl=>by
          unfold Qmj;cases hb:zV o' 4294967296 with
          | false=>rfl
          | true=>have:=Nat.eq_of_beq_eq_true hb;omega
         obtain⟨ar,au⟩:=zQ.1 (Bh.1 c6);cases hv with
         | cons h1 h2 =>
           cases h2 with
           | cons h2 _ =>
             obtain⟨g,rest,vs,hL,e1,b4,ah,V,e,a1⟩:=h1;have a6:=M7 h2 b3 c2;generalize av:(a.eval py).cells.toList=us at a6;have hn:us.length=ti.size:=by rw[a6.length,c1]
             have a3:g∈J.L k:=by rw[hL];exact zL
             have bh:vs.length=aq.length:=b4.length
             have a2:i*n+o'+us.length<=V.size:=by
              have hj:ti.size-1<vs.length:=by omega
              have:=ah (ti.size-1) vs[ti.size-1] (List.getElem?_eq_getElem hj);simp only[World.cell?,a1] at this;have h3:V[i*n+o'+(ti.size-1)]? =U vs[ti.size-1]:=by simpa using this
              have:=(Array.getElem?_eq_some_iff.1 h3).1;omega
             have aw:=run_storeCells_at P g (i*n+o') e us 0 V w a1 (by simpa using a2) (Py a6 c2);simp only[xA] at aw;have b5:=Cw (P:=P) (Jc b2 hg) w
             have a7:(execOp a.eval o).run P w= .ok .skip (w.setRow g (Ul V.toList (i*n+o') us).toArray):=by
              have b6:(a.eval py).cells.size=ti.size:=by rw[←hn,←av];simp
              unfold Ul;simp only[execOp,ho,Instr.storeAt,e1,Instr.sureAddr,storeVar,Sem.run_bind,Sem.run_pure,Result.andThen_ok,b5,b6,av];simp[aw]
             generalize a5:w.setRow g (Ul V.toList (i*n+o') us).toArray=w' at a7;have ax:w'.heap[g]? =U (.cells (Ul V.toList (i*n+o') us).toArray e (0,0)):=by rw[←a5];exact setRow_heap w g V _ e (0,0) a1
             have u:∀b,b≠g->w'.heap[b]? =w.heap[b]? :=λb hb=>by rw[←a5];exact setRow_other w g b _ hb
             have b7:w'.heap.size=w.heap.size:=by rw[←a5];simp[World.setRow]
             have b8:¬J.F g:=(f.lo k g a3).2.2;have hF:∀b,J.F b->w'.heap[b]? =w.heap[b]? :=λb hb=>u b λe=>b8 (e▸hb)
             have a8:∀x,x≠k->∀b,b∈J.L x->w'.heap[b]? =w.heap[b]? :=λx j b hb=>u b λe=>j (f.dj x k g (e▸hb) a3)
             have hbelow:w0.Keeps w':=by
              refine f.below.step (by rw[←a5];rfl) (by rw[←a5];rfl) (by rw[←a5];rfl) (by omega) λb _ b9=>u b λe=>?_
              exact b9 (e▸(f.lo k g a3).1)
             have be:ps.length=us.length:=by rw[MC hps,c1,hn]
             have ad:∀x,x∈Qu cs->x≠k:=λx j e=>ar (e▸j)
             have bf:∀(m:W),V.size=m->V.toList.length=m:=λm h=>by simpa using h
             cases d with
             | true =>
               have ai:Mk cs=O:=by simpa using c7
               have hget:∀x,get ((k,U (.put O n i o' ps))::(bif O then Vc (Qu cs) else X7 (Qu cs))) x=if x=k then U (U (.put O n i o' ps)) else if x∈Qu cs then U S else S:=λx=>by
                by_cases j:x=k
                . rw[uB j];simp[get,j]
                rw[D j,Uk j];exact A3
               obtain⟨Lv,v1,v2,v3⟩:=FJ (J:=J) (w':=w') a6 hps ai (QQ f au) λx j b hb=>a8 x (ad x j) b hb
               have aj:∀b,b∈J.of cs->b∉J.L k:=λb hb q=>by
                obtain⟨x,j,hm⟩:=S4 hb;exact ad x j (f.dj x k b hm q)
               refine ZJ a7 (hK ⟨J.F,λx=>if x=k then J.L k++J.of cs else if x∈Qu cs then [] else J.L x,J.B⟩ _ _ (f.upd o.dst ae _ undef hbelow ⟨λb hb=>⟨hb,hF b hb⟩,λx j=>?_,λx j=>?_,λx x' j=>?_,λx t j=>?_,λ_ _=>rfl,λx d1 m i1 o1 ba j=>?_⟩ ⟨λb hb=>?_,f.f0,λx=>?_,λx b hb=>?_,λx x' b hb q=>?_⟩ (λ_=>trivial) (λx c j _=>?_) (λx c j=>by cases j)))
               . rw[hget] at j;split at j
                 . cases j
                 rename_i h3;split at j
                 . cases j
                 rename_i h4;exact⟨by show(if _ then _ else _)=_;rw[D h3,D h4],a8 x h3⟩
               . rw[hget] at j;split at j
                 . cases j
                 split at j<;>cases j
               . rw[hget] at j;split at j
                 . cases j
                 split at j<;>cases j
               . rw[hget] at j;split at j
                 . exact .inr (.inr ⟨_,_,_,_,_,(zD (zD j)).symm⟩)
                 split at j<;>cases j
               . rw [hget] at j;split at j
                 . rename_i a9;subst a9;cases j
                   refine⟨λv l ak=>?_,λ_ e=>(Qfm hps e).elim⟩;rw[af];obtain⟨L',w1,w2,w3,w4⟩:=ak;show OwnDeep (if x=x then _ else _) w' v n _;rw[uB rfl];generalize hp:PV.slc n l=p at w1;cases w1 with
                   | int | bool | str | any | raw=>cases hp
                   | emp oa n'=>
                     cases hp
                     exact⟨[],.emp oa n,zO,(λb hb=>by simp at hb),.inl rfl⟩
                   | @slc g1 cap n' cur e2 L1 l' aa ab al h5 h6=>
                     cases hp
                     rcases w4 with w4 | ⟨g2,q1,q2,e3,e4⟩
                     . cases w4
                     cases e3
                     obtain⟨rfl,rfl⟩:g1=g/\q2=rest:=by rw[hL] at e4;cases e4;exact⟨rfl,rfl⟩
                     rw[a1] at aa;cases aa
                     obtain⟨n1,n2⟩:=zQ.1 w2;have am:OR w' n L1 (V.toList.take (l.length*n)) l:=al.keep λb hb=>u b λe=>n1 (e▸hb)
                     obtain⟨L2,z1,z2,z3⟩:=OR.put v1 v2 (o:=o') (by omega) am n2 (λb hb q=>aj b (v3 b q) (w3 b (zJ _ hb))) i;rw[←DD (cap:=cap) (by simpa using ab) h5 (by omega) (by simpa using a2)] at z1;have a4:=ZN o' ps l i
                     have ay:g1∉L2:=λhm=>by
                      rcases z3 g1 hm with hm | hm
                      . exact n1 hm
                      exact aj g1 (v3 g1 hm) a3
                     refine⟨g1::L2, ?_,zQ.2 ⟨ay,z2⟩,λb hb=>?_,.inr ⟨g1,L2,q2++J.of cs,rfl,by rw[hL];rfl⟩⟩
                     . rw[←a4];refine .slc ax ?_ ?_ (by omega) (by rw[a4];exact h6)
                       . have:=Nx (cur:=V.toList) (vs:=us) (p:=i*n+o') (by simpa using a2);simpa [ab] using this
                       rw[a4];simpa using z1
                     rcases zM.1 hb with rfl | hb
                     . exact zG _ a3
                     rcases z3 b hb with hb | hb
                     . exact zG _ (w3 b (zJ _ hb))
                     exact zF _ (v3 b hb)
                 split at j<;>cases j
               . exact⟨by have:=(f.fl b hb).1;omega,(f.fl b hb).2⟩
               . show(if x=k then _ else _:Y W).Nodup;split
                 . exact zH.2 ⟨f.nd k,QQ f au,λb hb b' q e=>aj b' q (e▸hb)⟩
                 split
                 . simp
                 exact f.nd x
               . have hb:b∈(if x=k then J.L k++J.of cs else if x∈Qu cs then [] else J.L x):=hb
                 have key:∀y,b∈J.L y->w0.lo (b)/\b<w'.heap.size/\¬J.F b:=λy hy=>by
                  obtain⟨h3,h4,h5⟩:=f.lo y b hy;exact⟨h3,by omega,h5⟩
                 split at hb
                 . rcases zK.1 hb with hb | hb
                   . exact key k hb
                   obtain⟨y,_,hm⟩:=S4 hb;exact key y hm
                 split at hb
                 . simp at hb
                 exact key x hb
               . have hb:b∈(if x=k then J.L k++J.of cs else if x∈Qu cs then [] else J.L x):=hb;have q:b∈(if x'=k then J.L k++J.of cs else if x'∈Qu cs then [] else J.L x'):=q
                 have key:∀y,y≠k->y∉Qu cs->b∈J.L y->b∈J.L k++J.of cs->False:=λy bb bc hy hm=>by
                  rcases zK.1 hm with hm | hm
                  . exact bb (f.dj y k b hy hm)
                  obtain⟨z,hz,hm⟩:=S4 hm;exact bc (f.dj y z b hy hm▸hz)
                 split at hb
                 . rename_i a9;split at q
                   . rename_i az;rw[a9,az]
                   rename_i h3;split at q
                   . simp at q
                   rename_i h4;exact(key x' h3 h4 q hb).elim
                 rename_i h3;split at hb
                 . simp at hb
                 rename_i h4;split at q
                 . exact(key x h3 h4 hb q).elim
                 split at q
                 . simp at q
                 exact f.dj x x' b hb q
               obtain⟨_,h3,h4,b1,e',h5,_⟩:=f.bo x c j;refine⟨by simp,h3,λy hm=>?_,u _ λe=>h4 k (e▸a3)⟩;have hm:J.B x∈(if y=k then J.L k++J.of cs else if y∈Qu cs then [] else J.L y):=hm;split at hm
               . rcases zK.1 hm with hm | hm
                 . exact h4 k hm
                 obtain⟨z,_,hm⟩:=S4 hm;exact h4 z hm
               split at hm
               . simp at hm
               exact h4 y hm
             | false=>
               have hget:∀x,get ((k,U (.put E n i o' ps))::(bif E then Vc (Qu cs) else X7 (Qu cs))) x=if x=k then U (U (.put E n i o' ps)) else if x∈Qu cs then U (U .sh) else S:=λx=>by
                by_cases j:x=k
                . rw[uB j];simp[get,j]
                rw[D j,Uk j];exact U9
               have bd:=QP (J:=J) (w':=w') (X:=λb=>J.F b\/∃x,x∈Qu cs/\b∈J.L x) a6 hps (λb hb=>⟨.inl hb,hF b hb⟩) λx j b hb=>⟨.inr ⟨x,j,hb⟩,a8 x (ad x j) b hb⟩
               refine ZJ a7 (hK ⟨λb=>J.F b\/∃x,x∈Qu cs/\b∈J.L x,λx=>if x∈Qu cs then [] else J.L x,J.B⟩ _ _ (f.upd o.dst ae _ undef hbelow ⟨λb hb=>⟨.inl hb,hF b hb⟩,λx j=>?_,λx j b hb=>?_,λx x' j=>?_,λx t j=>?_,λ_ _=>rfl,λx d1 m i1 o1 ba j=>?_⟩ ⟨λb hb=>?_,λb hb=> .inl (f.f0 b hb),λx=>?_,λx b hb=>?_,λx x' b hb q=>?_⟩ (λ_=>trivial) (λx c j _=>?_) (λx c j=>by cases j)))
               . rw[hget] at j;split at j
                 . cases j
                 rename_i h3;split at j
                 . cases j
                 rename_i h4;exact⟨by show(if _ then _ else _)=_;rw[D h4],a8 x h3⟩
               . rw[hget] at j;split at j
                 . cases j
                 split at j
                 . rename_i h3;exact⟨.inr ⟨x,h3,hb⟩,a8 x (ad x h3) b hb⟩
                 cases j
               . rw[hget] at j;split at j
                 . cases j
                 split at j<;>cases j
               . rw[hget] at j;split at j
                 . exact .inr (.inr ⟨_,_,_,_,_,(zD (zD j)).symm⟩)
                 split at j
                 . exact .inl (zD (zD j)).symm
                 cases j
               . rw [hget] at j;split at j
                 . rename_i a9;subst a9;cases j
                   refine⟨λv l ak=>?_,λe=>by cases e⟩;rw[af];show OwnTop _ (if x∈Qu cs then [] else J.L x) w' v n _;rw[D ar];rcases ak with⟨rfl,oa,rfl⟩ | ⟨g1,cap,cur,e2,an,rfl,aa,ab,al,h5,h6⟩
                   . exact .inl ⟨rfl,oa,rfl⟩
                   obtain rfl:g1=g:=by rw[hL] at an;cases an;rfl
                   rw[a1] at aa;cases aa
                   have am:VR (λb=>J.F b\/∃x,x∈Qu cs/\b∈J.L x) w' n (V.toList.take (l.length*n)) l:=al.keep λb hb=>⟨.inl hb,hF b hb⟩
                   have z1:=VR.put bd (o:=o') (by omega) am i;rw[←DD (cap:=cap) (by simpa using ab) h5 (by omega) (by simpa using a2)] at z1;have a4:=ZN o' ps l i;refine .inr ⟨g1,cap,_,e,an,by rw[a4],ax, ?_,by rw[a4];simpa using z1,by omega,by rw[a4];exact h6⟩;have:=Nx (cur:=V.toList) (vs:=us) (p:=i*n+o') (by simpa using a2);simpa [ab] using this
                 split at j<;>cases j
               . rcases hb with hb | ⟨x,_,hb⟩
                 . exact⟨by have:=(f.fl b hb).1;omega,(f.fl b hb).2⟩
                 have:=f.lo x b hb;exact⟨by omega,.inr this.1⟩
               . show(if _ then _ else _:Y W).Nodup;split
                 . simp
                 exact f.nd x
               . have hb:b∈(if x∈Qu cs then [] else J.L x):=hb;split at hb
                 . simp at hb
                 rename_i h3;obtain⟨h4,h5,h6⟩:=f.lo x b hb;refine⟨h4,by omega,λhF=>?_⟩;rcases hF with hF | ⟨y,hy,hm⟩
                 . exact h6 hF
                 exact h3 (f.dj x y b hb hm▸hy)
               . have hb:b∈(if x∈Qu cs then [] else J.L x):=hb;have q:b∈(if x'∈Qu cs then [] else J.L x'):=q;split at hb
                 . simp at hb
                 split at q
                 . simp at q
                 exact f.dj x x' b hb q
               obtain⟨_,h3,h4,b1,e',h5,_⟩:=f.bo x c j;refine⟨by simp,λhF=>?_,λy hm=>?_,u _ λe=>h4 k (e▸a3)⟩
               . rcases hF with hF | ⟨y,_,hm⟩
                 . exact h3 hF
                 exact h4 y hm
               have hm:J.B x∈(if y∈Qu cs then [] else J.L y):=hm;split at hm
               . simp at hm
               exact h4 y hm
     cases h
   cases h
 cases h
end
end
section
open Go.RowKit
def SC:C->uA PV
 | .int k _=>U (.int k 0)
 | .bool _=>U (.bool E)
 | .str _=>U (.str ⟨#[]⟩)
 | .slc .emp n []=>U (.slc n [])
 | _=>S
def Qa6:Y C->uA (Y PV)
 | []=>U []
 | c::cs=>match SC c,Qa6 cs with
   | some p,U ps=>U (p::ps)
   | _,_=>S
def Qnw(tt:Y (W×TI))(c:uA W):Op->Y AV->uA (Res×Y Ob)
 | .call ⟨.builtin .max,_,_⟩, [.one (.int k a),.one (.int k' b)]=>bif decide (k=k') then U (⟨.one (.int k (max a b)), [],S,S⟩, []) else S
 | .call ⟨.builtin .min,_,_⟩, [.one (.int k a),.one (.int k' b)]=>bif decide (k=k') then U (⟨.one (.int k (min a b)), [],S,S⟩, []) else S
 | .makeSlice t (.tmp i) (.tmp j), [.one (.int _ a),_]=>(match c,get tt t with
   | some d,U ⟨.sli e,_,_,_⟩=>(match get tt e with
     | some ei=>(match Qa6 ei.zero with
       | some ps=>bif zV i j&&(zV ei.size ei.zero.length&&yO 0 ei.size) then U (⟨.one (.slc (.own O (64*d)) ei.size (yB a.toNat ps)), [(64*d,S)],S,S⟩, [.rng 0 a 1073741824]) else S
       | none=>S)
     | none=>S)
   | _,_=>S)
 | _,_=>S
section
variable {P:uC} {A:W->Y AV->AV->Prop} {T:TakeT} {N:W} {w0:Base} {F0:W->Prop} {J:Inj} {a:Act} {w:I} {s:St}
theorem Qqh{args:uE Operand}{x y:AV}(h:All2 (λo v=>AR J w (a.eval o) v) args.toList [x,y]):∃p q,args= #[p,q]/\AR J w (a.eval p) x/\AR J w (a.eval q) y:=by
 obtain⟨l⟩:=args;have h:All2 (λo v=>AR J w (a.eval o) v) l [x,y]:=h;cases h with
 | cons c b=>cases b with
   | cons b d=>cases d;exact⟨_,_,rfl,c,b⟩
theorem Qnx{k:IntKind}{x y:Int}(a:InR k x)(b:InR k y):InR k (max x y):=by
 rw[Int.max_def];split<;>assumption
theorem Qny{k:IntKind}{x y:Int}(a:InR k x)(b:InR k y):InR k (min x y):=by
 rw[Int.min_def];split<;>assumption
theorem Qnz{v:H}{c:C}{p:PV}(a:QK v c=O)(h:SC c=U p)(w:I):OV w [] v p:=by
 unfold SC at h;split at h
 . obtain rfl:=zD h;cases v<;>simp[QK] at a
   rename_i f i;obtain⟨⟨rfl,rfl⟩,_⟩:=a;exact .int (by cases f<;>simp[InR,IntKind.min,IntKind.max,IntKind.bits,IntKind.signed])
 . obtain rfl:=zD h;cases v<;>simp[QK] at a
   obtain⟨rfl,_⟩:=a;exact .bool _
 . obtain rfl:=zD h;cases v<;>simp[QK] at a
   obtain⟨d,_⟩:=a;subst d;exact .str (by decide)
 . obtain rfl:=zD h;unfold QK at a;split at a<;>first | cases a | skip
   all_goals first | exact .emp _ _ | (rename_i b;cases b;exact .emp _ _) | (rename_i g e;cases e;exact .emp _ _) | (rename_i g e;cases e;done) | (rename_i b;cases b;done)
 cases h
theorem MD:∀{b:Y H} {a:Y C} {ps:Y PV},Bm b a=O->Qa6 a=U ps->(∀w,OC w [] b ps)/\ps.length=a.length/\b.length=a.length
 | [], [],ps,_,h=>by
   obtain rfl:=zD h;exact⟨λw=> .nil,rfl,rfl⟩
 | [],_::_,_,hz,_=>by simp[Bm] at hz
 | _::_, [],_,hz,_=>by simp[Bm] at hz
 | v::vs,c::cs,ps,hz,h=>by
   simp only[Bm,zE] at hz;simp only[Qa6] at h;split at h
   . rename_i p d e f;obtain rfl:=zD h;obtain⟨g,i,j⟩:=MD hz.2 f;exact⟨λw=>OC.cons (L1:= []) (L2:= []) (Qnz hz.1 e w) (g w),by simp[i],by simp[j]⟩
   cases h
theorem KH{w:I}{n:W}{vs:Y H}{ps:Y PV}(h:OC w [] vs ps)(a:ps.length=n):∀k:W,OR w n [] (yB k vs).flatten (yB k ps)
 | 0=> .nil n
 | k+1=>by
   rw[yN,yF,yN];exact OR.cons (L1:= []) (L2:= []) h a (KH h a k)
theorem ME(z:uE H)(b:0<z.size):∀k:W,(madeCells z (k*z.size)).toList=(yB k z.toList).flatten
 | 0=>by simp[madeCells]
 | k +1=>by
   have a:=ME z b k;have e:∀m,(madeCells z m).toList=(List.range m).map (z[· % z.size]!):=λm=>by simp[madeCells]
   rw[e] at a⊢;rw[yN,yF,←a,zZ,yM,Nat.add_comm,List.range_add,List.map_append,List.map_map]
   congr 1
   . refine List.ext_getElem (by simp) λi d c=>?_
     have hi:i<z.size:=by simpa using c
     simp[Nat.mod_eq_of_lt hi,hi]
   refine List.map_congr_left λi _=>?_
   simp
theorem Qj9{tt:Y (W×TI)}(a3:Nq P tt=O){o:Oper}{a4:Y AV}{r:Res}{a5:Y Ob}(h:Qnw tt o.dst o.op a4=U (r,a5))(ah:AllOb A T a5)(m:∀d,o.dst=U d->d<N)
 (c:Rel N w0 F0 J a w s) (a6:All2 (λx v=>BZ s x=U v) o.op.operands.toList a4) {K:Act->I->Prop} {Q:Exit->Act->I->Prop}
 (hK:∀J' a' w',Rel N w0 F0 J' a' w' (s.step o.dst r)->K a' w'):o.wp P a w K Q:=by
 have hv:=Dt c a6;generalize ho:o.op=op at h hv;generalize hd:o.dst=ap at h;unfold Qnw at h;split at h
 . rename_i args ai k x k' y;cases l:decide (k=k') with
   | false=>rw[l] at h;cases h
   | true=>
     rw[l] at h;obtain rfl:=uK l;simp only[uF,zN,zP] at h;obtain⟨rfl,rfl⟩:=h;have n:All2 (λx v=>AR J w (a.eval x) v) args.toList [.one (.int k x),.one (.int k y)]:=by simpa [Op.operands,Call.operands] using hv
     obtain⟨p,q,rfl,⟨e1,r1⟩,⟨e2,r2⟩⟩:=Qqh n;have a7:(if y>x then y else x)=max x y:=by rw[Int.max_def];by_cases h:y>x<;>simp[h]<;>omega
     have f:(execOp a.eval o).run P w= .ok (.value (.int k (max x y))) w:=by
      simp[execOp,ho,resolve,invoke,builtin,Builtin.max_,Builtin.max2,e1,e2,a7]
     exact V4 f (hK J _ _ (c.pure o.dst m _ _ λ_=>⟨rfl,Qnx r1 r2⟩))
 . rename_i args ai k x k' y;cases l:decide (k=k') with
   | false=>rw[l] at h;cases h
   | true=>
     rw[l] at h;obtain rfl:=uK l;simp only[uF,zN,zP] at h;obtain⟨rfl,rfl⟩:=h;have n:All2 (λx v=>AR J w (a.eval x) v) args.toList [.one (.int k x),.one (.int k y)]:=by simpa [Op.operands,Call.operands] using hv
     obtain⟨p,q,rfl,⟨e1,r1⟩,⟨e2,r2⟩⟩:=Qqh n;have a8:(if y<x then y else x)=min x y:=by rw[Int.min_def];by_cases h:y<x<;>simp[h]<;>omega
     have f:(execOp a.eval o).run P w= .ok (.value (.int k (min x y))) w:=by
      simp[execOp,ho,resolve,invoke,builtin,Builtin.min_,Builtin.min2,e1,e2,a8]
     exact V4 f (hK J _ _ (c.pure o.dst m _ _ λ_=>⟨rfl,Qny r1 r2⟩))
 . rename_i t i j ik x y;split at h
   rotate_left
   . cases h
   rename_i d e n0 z0 q0 hg;split at h
   rotate_left
   . cases h
   rename_i ei aj;split at h
   rotate_left
   . cases h
   rename_i ps hp;cases hc:(zV i j&&(zV ei.size ei.zero.length&&yO 0 ei.size)) with
   | false=>rw[hc] at h;cases h
   | true=>
     rw[hc] at h;simp only[uF,zN,zP] at h;obtain⟨rfl,rfl⟩:=h;simp only[zE,yH] at hc;obtain⟨rfl,a9,a1⟩:=hc;have a1:0<ei.size:=Nat.le_of_ble_eq_true a1;obtain⟨h0,_,h2⟩:0<=(0:Int)/\0<=x/\x<=((1073741824:W):Int):=ah;rename_i V;have hu:=(Jc a3 hg).sli;obtain⟨a2,z,hi,hs,aq,hz,ar,ak⟩:=(Jc a3 aj).info;have n:All2 (λo v=>AR J w (a.eval o) v) [.tmp i,.tmp i] [.one (.int ik x),y]:=by simpa [Op.operands] using hv
     obtain⟨e1,_⟩:a.eval (.tmp i)= .int ik x/\InR ik x:=by cases n with | cons h1 _=>exact h1
     obtain⟨al,am,an⟩:=MD ak hp;have ao:z.cells.size=ei.size:=by rw[a9,←an];simp
     have u:(a2.bytes:Int)*x<=281474976710656:=by
      have h1:(a2.bytes:Int)*x<=1000*x:=Int.mul_le_mul_of_nonneg_right (by omega) V;omega
     have aa:=run_make (P:=P) (w:=w) t e a2 z hu hi hz ik ik x x V (Int.le_refl _) u (by omega);rw[hs] at aa
     have f:(execOp a.eval o).run P w= .ok (.value (.slice (U ⟨w.heap.size,0,S⟩) x.toNat x.toNat)) (w.alloc (.cells (madeCells z.cells (x.toNat*ei.size)) e)):=by
      simp[execOp,ho,e1,aa]
     refine V4 f ?_;rw[hd] at hK⊢;have hw:∀b,b<w.heap.size->(w.alloc (.cells (madeCells z.cells (x.toNat*ei.size)) e)).heap[b]? =w.heap[b]? :=λb hb=>Below.heap_alloc w _ b hb
     have ab:(w.alloc (.cells (madeCells z.cells (x.toNat*ei.size)) e)).heap[w.heap.size]? =U (.cells (madeCells z.cells (x.toNat*ei.size)) e (0,0)):=heap_alloc_new w _;have au:(w.alloc (.cells (madeCells z.cells (x.toNat*ei.size)) e)).heap.size=w.heap.size+1:=by simp
     refine hK ⟨J.F,λk=>if k=64*d then [w.heap.size] else J.L k,J.B⟩ _ _ (c.grab (U d) (λd' e=>by cases e;exact m d hd) _ _ (64*d) [] rfl rfl (c.below.alloc c.below.size _) (by omega) rfl (λk l=>by simp[l])
      (λb hb=>hb) (λb hb=> .inl hb) (λk _ l=>by simp[get,Ne.symm l]) (λ_=>by simp[get]) (λk l=>by simp at l) (λb hb _=>hw b hb) (by simp) (λb hb=>?_) (λ_=>?_))
     . simp only[if_true,yE] at hb;subst hb;exact⟨by omega,.inl (zR _)⟩
     show OwnDeep (if 64*d=64*d then _ else _) _ _ _ _;rw[uB rfl];have g:(yB x.toNat ps).length=x.toNat:=by simp
     have ad:=KH (al (w.alloc (.cells (madeCells z.cells (x.toNat*ei.size)) e))) (am.trans a9.symm) x.toNat;have ae:=ME z.cells (by omega) x.toNat;rw[ao] at ae;rw[←ae] at ad;have af:(madeCells z.cells (x.toNat*ei.size)).size=x.toNat*ei.size:=size_madeCells _ _
     have key:OV (w.alloc (.cells (madeCells z.cells (x.toNat*ei.size)) e)) [w.heap.size] (.slice (U ⟨w.heap.size,0,S⟩) (yB x.toNat ps).length x.toNat) (.slc ei.size (yB x.toNat ps)):=by
      refine OV.slc (L:= []) (cur:=madeCells z.cells (x.toNat*ei.size)) ab af ?_ (by rw[g];exact zR _) ⟨?_, ?_⟩
      . rw[g,yD (by simp[af])];exact ad
      . unfold uH;omega
      rw[g];omega
     rw[g] at key;exact .of key (by simp)
 cases h
end
end
section
open Go.RowKit
def UF:Y (W×Y C)->Y W
 | []=> []
 | p::r=>Qu p.2++UF r
def Qn0(orc:Orc)(bn:Y (W×Y C))(a:uA W):Op->Y AV->uA (Res×Y Ob)
 | .call ⟨.value _,_,_⟩,.one (.fn f []):: .one (.slc (.own d k) n l)::avs=>
   (match orc,R6 bn avs with
   | .take mix turn l',U args=>
     bif !(Nr k (Qu (Ze avs)))&& !(Nr k (UF bn))&&(!mix|| Ai WY (Ze avs)) then
      (match turn,a with
      | true,_=>bif !d&& !mix then U (⟨.tup [], [(k,U (.put E n 0 4294967296 l'.flatten))],S,S⟩, [.take f n l args E O l']) else S
      | false,U t=>bif !(Nr (64*t) (Qu (Ze avs))) then
       U (⟨.one (.slc (.own d (64*t)) n l'),(64*t,S)::(k,S)::(bif mix&& !d then X7 (Qu (Ze avs)) else []),S,S⟩,.take f n l args mix E l'::(bif d then [.flat l,.flat l'] else []))
        else S
      | _,_=>S)
     else S
   | _,_=>S)
 | _,_=>S
section
variable {P:uC} {N:W} {w0:Base} {F0:W->Prop} {J:Inj} {a:Act} {w:I} {s:St}
theorem ZO{k:W}{l:Y W}(h:Nr k l=E):k∉l:=λa=>by rw[Cy.2 a] at h;cases h
theorem Qa7:∀{bn:Y (W×Y C)} {k:W} {x:Y C},get bn k=U x->∀y,y∈Qu x->y∈UF bn
 | [],_,_,h,_,_=>by simp[get] at h
 | (k',c)::r,k,x,h,y,hy=>by
   simp only[get] at h;simp only[UF];split at h
   . obtain rfl:=zD h;exact zG _ hy
   exact zF _ (Qa7 h y hy)
theorem Qka{L:Y W}{v:H}{n:W}{l:Y (Y PV)}(h:OwnDeep L w v n l)(d:Ds l)(F:W->Prop):∃L',OwnTop F L' w v n l/\(∀b,b∈L'->b∈L)/\L'.Nodup:=by
 obtain⟨L',c,j,f,k⟩:=h;generalize a:PV.slc n l=p at c;cases c with
 | int | bool | str | any | raw=>cases a
 | emp oa i=>
   cases a
   exact⟨[],.inl ⟨rfl,oa,rfl⟩,λb hb=>(by simp at hb),zO⟩
 | @slc g cap i cur e L1 l' hg hs hr h5 h6=>
   cases a
   refine⟨[g],.inr ⟨g,cap,cur,e,rfl,rfl,hg,hs, ?_,h5,h6⟩,λb hb=>?_,by simp⟩
   . have:=OR.vr (X:=λ_=>True) hr λ_ _=>trivial
     have:=VR.orr (w':=w) this d;exact OR.vr this λb hb=>(by simp at hb)
   obtain rfl:=yE.1 hb;exact f _ zL
theorem MF{F:W->Prop}{L:Y W}{v:H}{n:W}{l:Y (Y PV)}(h:OwnTop F L w v n l)(a:Ds l):OwnDeep L w v n l:=by
 rcases h with⟨rfl,oa,rfl⟩ | ⟨g,cap,cur,e,rfl,rfl,c,d,f,i,j⟩
 . exact⟨[],.emp oa n,zO,(λb hb=>by simp at hb),.inl rfl⟩
 exact⟨[g],.slc c d (VR.orr f a) i j,by simp,λb hb=>hb,.inr ⟨g, [], [],rfl,rfl⟩⟩
def QR(J:Inj)(w w':I)(a k:W)(frz L':Y W):Inj:=⟨λb=>J.F b\/(∃y,y∈frz/\b∈J.L y)\/((w.heap.size<=b\/b∈J.L k)/\b<w'.heap.size/\b∉L'),λx=>if x=a then L' else if x∈k::frz then [] else J.L x,J.B⟩
theorem UG(f:Rel N w0 F0 J a w s){t k n:W}(ht:t<N){frz L':Y W}(hk:k∉frz){w':I}{u:H}{l':Y (Y PV)}{d:uD}(hB:w0.Keeps w')(p:w.heap.size<=w'.heap.size)
 (v:∀b,b<w.heap.size->b∉J.L k->w'.heap[b]? =w.heap[b]?) (q:L'.Nodup) (l:∀b,b∈L'->b<w'.heap.size/\(w.heap.size<=b\/b∈J.L k)) (hv:CR (QR J w w' (64*t) k frz L') w' u (.slc (.own d (64*t)) n l')):
 Rel N w0 F0 (QR J w w' (64*t) k frz L') (a.put (U t) u) w' (s.step (U t) ⟨.one (.slc (.own d (64*t)) n l'),(64*t,S)::(k,S)::X7 frz,S,S⟩):=by
 have g:∀x,get ((64*t,S)::(k,S)::X7 frz) x=if x=64*t\/x=k then U S else if x∈frz then U (U .sh) else S:=λx=>by
  by_cases h1:x=64*t
  . rw[uB (.inl h1)];simp[get,h1]
  rw[Uk h1];by_cases i:x=k
  . rw[uB (.inr i)];simp[get,i]
  rw[Uk i,D (by simp[h1,i])];exact U9
 have c:(QR J w w' (64*t) k frz L').L (64*t)=L':=uB rfl;refine f.grab3 (U t) (λd e=>by cases e;exact ht) _ u (64*t) (k::frz) rfl rfl hB p rfl (λx j=>D j) (λb hb=> .inl hb) (λb hb=>?_) (λx j r=>?_) (λ_=>?_) (λx j=>?_) (λb hb q=>v b hb (q k zL)) (by rw[c];exact q) (λb hb=>?_) (λ_=>hv)
 . rcases hb with hb | ⟨y,z,hb⟩ | ⟨h1,i,V⟩
   . exact .inl hb
   rotate_left
   . rcases h1 with h1 | h1
     . exact .inr (.inr ⟨h1,i,by rw[c];exact V⟩)
     exact .inr (.inl ⟨⟨k,zL ..,h1⟩,by rw[c];exact V⟩)
   refine .inr (.inl ⟨⟨y,zJ _ z,hb⟩,λo=>?_⟩);rw[c] at o;have:=(f.lo y b hb).2.1;rcases(l b o).2 with h | h
   . omega
   exact hk (f.dj y k b hb h▸z)
 . show get ((64*t,S)::(k,S)::X7 frz) x=S;rw[g,D,D]
   . exact λh=>j (zJ _ h)
   rintro(h | h)
   . exact r h
   exact j (h▸zL)
 . show get ((64*t,S)::(k,S)::X7 frz) (64*t)=U S;rw[g,uB (.inl rfl)]
 . show get ((64*t,S)::(k,S)::X7 frz) x=_\/(get ((64*t,S)::(k,S)::X7 frz) x=_/\_)\/(get ((64*t,S)::(k,S)::X7 frz) x=_/\_);rw[g];by_cases h1:x=64*t\/x=k
   . rw[uB h1];exact .inl rfl
   have m:x∈frz:=(zM.1 j).resolve_left λe=>h1 (.inr e)
   rw[D h1,uB m];refine .inr (.inl ⟨rfl,λb hb=>⟨.inr (.inl ⟨x,m,hb⟩),v b (f.lo x b hb).2.1 λo=>?_⟩⟩);exact h1 (.inr (f.dj x k b hb o))
 rw[c] at hb;obtain⟨h1,i⟩:=l b hb;exact⟨h1,i.imp id λh=>⟨k,zL,h⟩⟩
theorem Qkb{orc:Orc}{bn:Y (W×Y C)}{o:Oper}{am:Y AV}{r:Res}{an:Y Ob}(h:Qn0 orc bn o.dst o.op am=U (r,an))(ao:AllOb (Zp P w0) (V0 P w0) an)(ae:∀d,o.dst=U d->d<N)
 (g:Rel N w0 F0 J a w s) (ap:All2 (λx v=>BZ s x=U v) o.op.operands.toList am) (ay:∀k c,get bn k=U c->get s.bx k=U c) {K:Act->I->Prop} {Q:Exit->Act->I->Prop}
 (hK:∀J' a' w',Rel N w0 F0 J' a' w' (s.step o.dst r)->K a' w'):o.wp P a w K Q:=by
 have hv:=Dt g ap;generalize ho:o.op=op at h hv;generalize hd:o.dst=az at h;unfold Qn0 at h;split at h
 rotate_left
 . cases h
 rename_i x args ba f dp k n l j;split at h
 rotate_left
 . cases h
 rename_i p aq l' eas af;cases hc:(!(Nr k (Qu (Ze j)))&& !(Nr k (UF bn))&&(!p|| Ai WY (Ze j))) with
 | false=>rw[hc] at h;cases h
 | true =>
   rw[hc] at h;simp only[uF] at h;simp only[zE,zT,yT] at hc;obtain⟨⟨c1,c2⟩,c3⟩:=hc;have c1:=ZO c1;have c2:=ZO c2;have ah:All2 (λx v=>AR J w (a.eval x) v) (x::args.toList) (.one (.fn f []):: .one (.slc (.own dp k) n l)::j):=by simpa [Op.operands,Call.operands] using hv
   obtain⟨args⟩:=args;have ah:All2 (λx v=>AR J w (a.eval x) v) (x::args) (.one (.fn f []):: .one (.slc (.own dp k) n l)::j):=ah;cases ah with
   | cons q b1=>
   cases b1 with
   | @cons px _ rest _ hrow hrest=>
   have q:a.eval x= .func (.func f) #[] #[]:=by simpa [AR,CR] using q
   have V:=g.lo k;have h0:=g.below.size
   let frz:=Qu (Ze j)
   have hG:∃G:W->Prop,(∀b,J.F b->G b)/\(p=O->∀b,G b->J.F b\/∃y,y∈frz/\b∈J.L y)/\(∀b,G b->b<w.heap.size)/\(∀b,b∈J.L k->¬G b)/\(∀y,y∈frz->∀b,b∈J.L y->G b)/\All2 (AR (LL G) w) (rest.map a.eval) eas:=by
    by_cases hm:p=O
    . have c3:Ai WY (Ze j)=O:=c3.resolve_left (by rw[hm];simp);refine⟨λb=>J.F b\/∃y,y∈frz/\b∈J.L y,λb hb=> .inl hb,λ_ b hb=>hb,λb hb=>hb.elim (λhb=>(g.fl b hb).1) λ⟨y,_,hb⟩=>(g.lo y b hb).2.1,λb hb hg=>?_,λy hy b hb=> .inr ⟨y,hy,hb⟩, ?_⟩
      . rcases hg with hg | ⟨y,hy,hg⟩
        . exact(V b hb).2.2 hg
        exact c1 (g.dj y k b hg hb▸hy)
      exact P1 (λb hb=> .inl hb) (All2.of_map _ hrest) af (λy hy b hb=> .inr ⟨y,hy,hb⟩) (.inl c3)
    refine⟨λb=>b<w.heap.size/\b∉J.L k,λb hb=>⟨(g.fl b hb).1,λhk=>(V b hk).2.2 hb⟩,λe=>absurd e hm,λb hb=>hb.1,λb hb hg=>hg.2 hb,λy hy b hb=>⟨(g.lo y b hb).2.1,λhk=>c1 (g.dj y k b hb hk▸hy)⟩, ?_⟩;refine P1 (λb hb=>⟨(g.fl b hb).1,λhk=>(V b hk).2.2 hb⟩) (All2.of_map _ hrest) af (λy hy b hb=>⟨(g.lo y b hb).2.1,λhk=>c1 (g.dj y k b hb hk▸hy)⟩) (.inr λy c hy=>?_);obtain⟨_,_,b2,b3,e,a7,ar⟩:=g.bo y c (ay y c hy);refine⟨⟨Xb a7,b2 k⟩,λz hz b hb=>⟨(g.lo z b hb).2.1,λhk=>?_⟩,b3,e,a7,ar⟩;exact c2 (g.dj z k b hb hk▸Qa7 hy z hz)
   obtain⟨G,g1,g2,g3,g4,g5,a5⟩:=hG
   have a6:(({toList:=px::rest}:uE Operand).map a.eval++ #[])=(a.eval px::rest.map a.eval).toArray:=by
    apply yS;simp
   cases aq with
   | true =>
     cases aa:(!dp&& !p) with
     | false=>rw[aa] at h;cases h
     | true =>
       rw[aa] at h;simp only[uF,zN,zP] at h;obtain⟨rfl,rfl⟩:=h;simp only[zE,zT] at aa;obtain⟨rfl,rfl⟩:=aa;obtain⟨ab,a2⟩:FL P w0 f n l eas E O l':=ao;have hC:=a2 w g.below J.F G (J.L k) (a.eval px) _ (λx q=>(V x q).1) g1 (λe=>by cases e) g3 (g.nd k) (λb hb=>⟨(V b hb).2.1,g4 b hb⟩) hrow a5;refine L9 ho q ab ?_;rw[a6];refine hC.mono λe w' a3=>?_
       obtain⟨u,rfl,hB,hS,rfl,hT⟩:=a3;have i:=hB 0 (zX _) λ_ _=>zX _
       have hbelow:w0.Keeps w':=g.below.step i.os i.tape i.output i.size λb hb a8=>hS b hb λhm=>a8 (V b hm).1
       have bb:=i.size
       have a4:∀x y,get [(k,U (Tok.put E n 0 4294967296 l'.flatten))] x=y->(x=k/\y=U (U (.put E n 0 4294967296 l'.flatten)))\/(x≠k/\y=S):=λx y hy=>by
        by_cases ai:x=k
        . subst ai;exact .inl ⟨rfl,by rw[←hy];simp[get]⟩
        rw[Uk ai] at hy;exact .inr ⟨ai,hy.symm⟩
       have b4:∀x,x≠k->∀b,b∈J.L x->w'.heap[b]? =w.heap[b]? :=λx q b hb=>hS b (g.lo x b hb).2.1 λhm=>q (g.dj x k b hb hm)
       show K (a.put o.dst _) w'
       refine hK J _ w' (g.upd (J':=J) (w':=w') o.dst ae ⟨.tup [], [(k,U (.put E n 0 4294967296 l'.flatten))],S,S⟩ _ hbelow ⟨λb hb=>⟨hb,hS b (g.fl b hb).1 λhm=>(V b hm).2.2 hb⟩,λx q=>?_,λx q=>?_,λx x' q=>?_,λx t q=>?_,λ_ _=>rfl,λx d1 m i1 o1 bc q=>?_⟩
        ⟨λb hb=>⟨by have:=(g.fl b hb).1;omega,(g.fl b hb).2⟩,g.f0,g.nd,λx b hb=>?_,g.dj⟩ (λ_=>⟨[],rfl,.nil⟩) (λx c q _=>?_) (λx c q=>by cases q))
       . rcases a4 x _ q with⟨_,e⟩ | ⟨h1,_⟩
         . cases e
         exact⟨rfl,b4 x h1⟩
       . rcases a4 x _ q with⟨_,e⟩ | ⟨_,e⟩<;>cases e
       . rcases a4 x _ q with⟨_,e⟩ | ⟨_,e⟩<;>cases e
       . rcases a4 x _ q with⟨_,e⟩ | ⟨_,e⟩
         . cases e;exact .inr (.inr ⟨_,_,_,_,_,rfl⟩)
         cases e
       . rcases a4 x _ q with⟨rfl,e⟩ | ⟨_,e⟩
         . cases e
           exact⟨λv2 l2 b5=>hT v2 l2 b5,λe=>by cases e⟩
         cases e
       . obtain⟨h1,h2,h3⟩:=g.lo x b hb;exact⟨h1,by omega,h3⟩
       obtain⟨_,h3,h4,b9,e',h5,_⟩:=g.bo x c q;exact⟨by simp,h3,h4,hS _ (Xb h5) (h4 k)⟩
   | false =>
     cases az with
     | none=>cases h
     | some t=>
       simp only at h;cases hm:Nr (64*t) (Qu (Ze j)) with
       | true=>rw[hm] at h;cases h
       | false=>
         rw[hm] at h;simp only[Bool.not_false,uF,zN,zP] at h;obtain⟨rfl,rfl⟩:=h;have hm:=ZO hm;have ht:=ae t hd;obtain⟨au,av⟩:=AllOb.cons ao;obtain⟨ab,a2⟩:FL P w0 f n l eas p E l':=au;cases dp with
         | true=>
           obtain⟨b6,b7⟩:Ds l/\Ds l':=av;obtain⟨L0,b8,a1,aw⟩:=Qka hrow b6 G;have hC:=a2 w g.below G G L0 (a.eval px) _ (λx q=>(V x (a1 x q)).1) (λ_ h=>h) (λ_ _ h=>h) g3 aw (λb hb=>⟨(V b (a1 b hb)).2.1,g4 b (a1 b hb)⟩) b8 a5;refine L9 ho q ab ?_;rw[a6];refine hC.mono λe w' a3=>?_
           obtain⟨u,rfl,hB,hS,L',aj,ad,hT⟩:=a3;have i:=hB 0 (zX _) λ_ _=>zX _
           show K (a.put o.dst _) w';rw[hd] at hK⊢
           have a9:CR (QR J w w' (64*t) k [] L') w' u (.slc (.own O (64*t)) n l'):=by
            show OwnDeep ((QR J w w' (64*t) k [] L').L (64*t)) w' u n l';rw[show(QR J w w' (64*t) k [] L').L (64*t)=L' from uB rfl];exact MF hT b7
           have:=UG g (t:=t) (k:=k) (frz:= []) ht (by simp) (g.below.step i.os i.tape i.output i.size λb hb a8=>hS b hb λhm=>a8 (V b (a1 b hm)).1) i.size (λb hb hm=>hS b hb λh=>hm (a1 b h)) aj (λb hb=>⟨(ad b hb).1,(ad b hb).2.imp id (a1 b)⟩) a9;refine hK (QR J w w' (64*t) k [] L') _ w' ?_;rw[show(bif p&& !O then X7 (Qu (Ze j)) else [])=X7 [] by cases p<;>rfl];exact this
         | false=>
           have key:∀frz',(frz'= []/\p=E\/frz'=frz/\p=O)->∀J1:Inj,J1.F=(λb=>J.F b\/∃y,y∈frz'/\b∈J.L y)->∃F:W->Prop,(∀b,J.F b->F b)/\(∀b,F b->J1.F b)/\(∀b,F b->G b)/\(p=O->∀b,G b->F b):=λfrz' hz J1 ax=>by
            rcases hz with⟨rfl,ak⟩ | ⟨rfl,ak⟩
            . exact⟨J.F,λ_ h=>h,λb hb=>by rw[ax];exact .inl hb,g1,λe=>by rw[ak] at e;cases e⟩
            exact⟨G,g1,λb hb=>by rw[ax];exact g2 ak b hb,λ_ h=>h,λ_ _ h=>h⟩
           obtain⟨frz',hz,hfz⟩:∃frz',(frz'= []/\p=E\/frz'=frz/\p=O)/\(bif p&& !E then X7 (Qu (Ze j)) else [])=X7 frz':=by
            cases p with
            | true=>exact⟨frz,.inr ⟨rfl,rfl⟩,rfl⟩
            | false=>exact⟨[],.inl ⟨rfl,rfl⟩,rfl⟩
           have al:∀y,y∈frz'->y∈frz:=λy hy=>by
            rcases hz with⟨rfl,_⟩ | ⟨rfl,_⟩
            . simp at hy
            exact hy
           obtain⟨F,f1,f2,f3,f4⟩:=key frz' hz ⟨λb=>J.F b\/∃y,y∈frz'/\b∈J.L y,λ_=> [],λ_=>0⟩ rfl;have hC:=a2 w g.below F G (J.L k) (a.eval px) _ (λx q=>(V x q).1) f3 f4 g3 (g.nd k) (λb hb=>⟨(V b hb).2.1,g4 b hb⟩) (OwnTop.keep hrow (λb hb=>⟨f1 b hb,rfl⟩) λ_ _=>rfl) a5;refine L9 ho q ab ?_;rw[a6];refine hC.mono λe w' a3=>?_
           obtain⟨u,rfl,hB,hS,L',aj,ad,hT⟩:=a3;have i:=hB 0 (zX _) λ_ _=>zX _
           show K (a.put o.dst _) w';rw[hd] at hK⊢
           have a9:CR (QR J w w' (64*t) k frz' L') w' u (.slc (.own E (64*t)) n l'):=by
            show OwnTop _ ((QR J w w' (64*t) k frz' L').L (64*t)) w' u n l';rw[show(QR J w w' (64*t) k frz' L').L (64*t)=L' from uB rfl];exact OwnTop.keep hT (λb hb=>⟨hb.elim (λh=>(f2 b h).imp id .inl) λh=> .inr (.inr h),rfl⟩) λ_ _=>rfl
           have:=UG g (t:=t) (k:=k) (frz:=frz') ht (λh=>c1 (al _ h)) (g.below.step i.os i.tape i.output i.size λb hb a8=>hS b hb λhm=>a8 (V b hm).1) i.size hS aj ad a9;refine hK (QR J w w' (64*t) k frz' L') _ w' ?_;rw[hfz];exact this
end
end
section
open Go.RowKit
def Qqi(i:W):C->C
 | .slc (.own O _) n l=> .slc (.own O i) n l
 | c=>c
def SD:W->Y C->Y C
 | _, []=> []
 | i,c::r=>Qqi i c::SD (i+1) r
def MG:C->uA W
 | .slc (.own O k) _ _=>U k
 | _=>S
def KI(J:Inj):W->Y C->W->Y W
 | _, [],_=> []
 | i,c::r,j=>if j=i then(match MG c with
   | some k=>J.L k
   | none=> []) else KI J (i+1) r j
def Qn1(orc:Orc)(bn:Y (W×Y C))(a:uA W):Op->Y AV->uA (Res×Y Ob)
 | .call ⟨.value _,_,_⟩,.one (.fn f []):: .one (.ptr b 0)::avs=>
   (match orc,a,get bn b with
   | .give _ r cs',U d,U cs=>
     bif Ai Qjp cs&&Ao (Qu cs)&&Ai Qjp cs'&&Ai WX cs'&&Ao (Qu cs')&&Ai CE r.cells&&Ai CE (Ze avs) then
      U (⟨r,Vc (Zn d (Qu cs'))++Vc (Qu cs),S,U (b,cs'.map (WW d))⟩, [.give f (SD 40 cs) avs r cs'])
     else S
   | _,_,_=>S)
 | _,_=>S
def Qjq:Y W->W->W->W
 | [],_,i=>i
 | x::r,k,i=>if x=k then i else Qjq r k (i+1)
def Qqj(ks:Y W):C->C
 | .slc (.own O k) n l=>bif Nr k ks then .slc (.own O (Qjq ks k 40)) n l else .slc .sh n l
 | .slc _ n l=> .slc .sh n l
 | c=>c
def Qde(ks:Y W):C->uD
 | .int _ _=>O
 | .bool _=>O
 | .str _=>O
 | .slc .sh _ _=>O
 | .slc .emp _ _=>O
 | .slc (.own O _) _ _=>O
 | .slc (.own E k) _ _=> !(Nr k ks)
 | .slc (.vw k) _ _=> !(Nr k ks)
 | _=>E
def MH(J:Inj):Y W->W->W->Y W
 | [],_,_=> []
 | x::r,i,j=>if j=i then J.L x else MH J r (i+1) j
def Qn2(orc:Orc)(a:uA W):Op->Y AV->uA (Res×Y Ob)
 | .call ⟨.value _,_,_⟩,.one (.fn f [])::avs=>
   (match orc,a with
   | .giv ks r,U d=>
    bif Ao ks&&Ai (Qde ks) (Ze avs)&&Ai Qqg r.cells&&Ai WX r.cells&&Ao (Qu r.cells) then
     U (⟨r.map (WW d),Vc (Zn d (Qu r.cells))++Vc ks,S,S⟩, [.val f (avs.map (AV.map (Qqj ks))) r])
    else S
   | _,_=>S)
 | _,_=>S
section
variable {P:uC} {N:W} {w0:Base} {F0:W->Prop} {J:Inj} {a:Act} {w:I} {s:St}
theorem Qkc{J J':Inj}{w w':I}{v:H}{c:C}(h:CR J w v c)(a:CE c=O):CR J' w' v c:=by
 cases c with
 | int | bool | str=>exact h
 | _=>cases a
theorem Qfo{J J':Inj}{w w':I}{v:H}{x:AV}(h:AR J w v x)(b:Ai CE x.cells=O):AR J' w' v x:=by
 have:=AR.map (J':=J') (w':=w') id h λu c d a=>Qkc a (Hw b c d)
 rwa [show x.map id=x by cases x<;>simp[AV.map]] at this
theorem Qa8(f:C->uD)(cs a:Y C):Ai f (cs++a)=(Ai f cs&&Ai f a):=by
 induction cs with
 | nil=>rfl
 | cons c cs b=>simp[Ai,b,Bool.and_assoc]
theorem SE{J J':Inj}{w w':I}:∀{vs:Y H} {xs:Y AV},All2 (AR J w) vs xs->Ai CE (Ze xs)=O->All2 (AR J' w') vs xs
 | _,_,.nil,_=> .nil
 | _,_,.cons h1 h2,hp=>by
   simp only[Ze,Qa8,zE] at hp;exact .cons (Qfo h1 hp.1) (SE h2 hp.2)
theorem VT{J:Inj}:∀{cs:Y C} {i j x:W},x∈KI J i cs j->∃k,k∈Qu cs/\x∈J.L k
 | [],i,j,x,h=>by simp[KI] at h
 | c :: r, i,j,x,h=>by
   simp only[KI] at h;simp only[Qu,zK];split at h
   . split at h
     . rename_i k a
       have:c.key=U k:=by
        cases c with
        | slc t n l=>cases t with
          | own d f=>cases d<;>simp_all [MG,C.key,Tok.key]
          | _=>cases a
        | _=>cases a
       exact⟨k,.inl (by rw[this];simp),h⟩
     simp at h
   obtain⟨k,b,e⟩:=VT h;exact⟨k,.inr b,e⟩
theorem Qfp{J:Inj}:∀{cs:Y C} {i j:W},j<i->KI J i cs j= []
 | [],i,j,_=>rfl
 | c::r,i,j,h=>by
   simp only[KI];rw[D (by omega)];exact Qfp (by omega)
theorem Qa9{J:Inj}:∀{cs:Y C} {i k x:W},Ai Qjp cs=O->k∈Qu cs->x∈J.L k->∃j,x∈KI J i cs j
 | [],i,k,x,_,h,_=>by simp[Qu] at h
 | c :: r, i,k,x,hb,h,hx=>by
   simp only[Ai,zE] at hb;simp only[Qu,zK] at h;rcases h with h | h
   . refine ⟨i, ?_⟩;simp only[KI,if_true];cases c with
     | slc t n l=>cases t with
       | own d k'=>cases d with
         | true=>
           obtain rfl:k=k':=by simpa [C.key,Tok.key] using h
           exact hx
         | false=>cases hb.1
       | sh=>simp[C.key,Tok.key] at h
       | _=>cases hb.1
     | int | bool | str=>simp[C.key] at h
     | _=>cases hb.1
   obtain⟨j,a⟩:=Qa9 (i:=i+1) hb.2 h hx;refine⟨j, ?_⟩;simp only[KI];split
   . rename_i e;rw[e,Qfp (by omega)] at a;simp at a
   exact a
theorem SF(b:Rel N w0 F0 J a w s):∀(cs:Y C) (i j:W),(KI J i cs j).Nodup
 | [],i,j=>zO
 | c ::r,i,j=>by
   simp only[KI];split
   . split
     . exact b.nd _
     exact zO
   exact SF b r (i+1) j
theorem SG(b:Rel N w0 F0 J a w s):∀{cs:Y C} {i j m x:W},(Qu cs).Nodup->x∈KI J i cs j->x∈KI J i cs m->j=m
 | [],i,j,m,x,_,h,_=>by simp[KI] at h
 | c :: r,i,j,m,x,hn,h,h'=>by
   have f:∀k,MG c=U k->x∈J.L k->∀q,x∉KI J (i+1) r q:=λk g u q v=>by
    have o:c.key=U k:=by
     cases c with
     | slc t n l=>cases t with
       | own d k'=>cases d<;>simp_all [MG,C.key,Tok.key]
       | _=>cases g
     | _=>cases g
    obtain⟨y,z,V⟩:=VT v;have e:=b.dj k y x u V;subst e;simp only[Qu,o] at hn;exact(zQ.1 hn).1 z
   have p:(Qu r).Nodup:=by
    simp only[Qu] at hn;exact(zH.1 hn).2.1
   simp only[KI] at h h';split at h
   . rename_i e;split at h'
     . rename_i e';exact e.trans e'.symm
     split at h
     . rename_i k g;exact(f k g h _ h').elim
     simp at h
   split at h'
   . split at h'
     . rename_i k g;exact(f k g h' _ h).elim
     simp at h'
   exact SG b p h h'
theorem FN{F:W->Prop}{b:W}(a:∀x,J.F x->F x){L:W->Y W}:∀{vs:Y H} {cs:Y C} {i:W},All2 (CR J w) vs cs->Ai Qjp cs=O->(∀j,i<=j->L j=KI J i cs j)->All2 (CR (Qj6 F L b) w) vs (SD i cs)
 | _,_,_,.nil,_,_=> .nil
 | _, _, i,.cons (b:=c) (m:=r) h1 h2,hb,hL=>by
   simp only[Ai,zE] at hb;refine .cons ?_ (FN a h2 hb.2 λj f=>by rw[hL j (by omega)];simp only[KI];rw[D (by omega)]);cases c with
   | int | bool | str=>exact h1
   | slc t n l=>
     cases t with
     | sh=>exact VV.keep (X:=J.F) (λx e=>⟨a x e,rfl⟩) h1
     | own d k=>
       cases d with
       | true=>
         show OwnDeep (L i) w _ n l;rw[hL i (zR _)];simp only[KI,if_true,MG];exact h1
       | false=>cases hb.1
     | _=>cases hb.1
   | _=>cases hb.1
theorem Qfq:∀(ks:Y W) (k i:W),i<=Qjq ks k i
 | [],_,_=>zR _
 | x::r,k,i=>by
   simp only[Qjq];split
   . exact zR _
   have:=Qfq r k (i+1);omega
theorem SH{J:Inj}:∀{ks:Y W} {k i:W},k∈ks->MH J ks i (Qjq ks k i)=J.L k
 | x::r,k,i,h=>by
   by_cases e:x=k
   . subst e;have a:Qjq (x::r) x i=i:=uB rfl;rw[a];exact uB rfl
   have a:Qjq (x::r) k i=Qjq r k (i+1):=D e;have:=Qfq r k (i+1);rw[a];exact(D (by omega)).trans (SH ((zM.1 h).resolve_left λe'=>e e'.symm))
theorem FO{J:Inj}:∀{ks:Y W} {i j x:W},x∈MH J ks i j->∃k,k∈ks/\x∈J.L k
 | [],i,j,x,h=>by simp[MH] at h
 | y::r,i,j,x,h=>by
   simp only[MH] at h;split at h
   . exact⟨y,zL ..,h⟩
   obtain⟨k,a,b⟩:=FO h;exact⟨k,zJ _ a,b⟩
theorem Qfr(b:Rel N w0 F0 J a w s):∀(ks:Y W) (i j:W),(MH J ks i j).Nodup
 | [],_,_=>zO
 | y::r,i,j=>by
   simp only[MH];split
   . exact b.nd y
   exact Qfr b r (i+1) j
theorem Qfs(b:Rel N w0 F0 J a w s):∀{ks:Y W} {i j d x:W},ks.Nodup->x∈MH J ks i j->x∈MH J ks i d->j=d
 | [],i,j,d,x,_,h,_=>by simp[MH] at h
 | y ::r,i,j,d,x,hn,h,h'=>by
   obtain⟨f,g⟩:=zQ.1 hn
   have c:x∈J.L y->∀q,x∉MH J r (i+1) q:=λk q l=>by
    obtain⟨m,n,o⟩:=FO l;exact f (by rw[b.dj y m x k o];exact n)
   simp only[MH] at h h';split at h
   . rename_i e;split at h'
     . rename_i e';exact e.trans e'.symm
     exact(c h _ h').elim
   split at h'
   . exact(c h' _ h).elim
   exact Qfs b g h h'
theorem Qn3(j:Rel N w0 F0 J a w s){ks:Y W}{F:W->Prop}(f:∀b,J.F b->F b)(g:∀k b,k∉ks->b∈J.L k->F b){v:H}{c:C}(h:CR J w v c)(i:Qde ks c=O):CR (Qr9 F (MH J ks 40)) w v (Qqj ks c):=by
 cases c with
 | int | bool | str=>exact h
 | slc t n l =>
   cases t with
   | sh=>exact VV.keep (X:=J.F) (λb hb=>⟨f b hb,rfl⟩) h
   | emp => obtain⟨rfl,oa,rfl⟩:=h
            exact .emp oa n (zX _)
   | own d k=>
     cases d with
     | true=>
       show CR _ w v (bif Nr k ks then .slc (.own O (Qjq ks k 40)) n l else .slc .sh n l);cases e:Nr k ks with
       | true=>
         show OwnDeep (MH J ks 40 (Qjq ks k 40)) w v n l;rw[SH (Cy.1 e)];exact h
       | false=>exact OwnDeep.vv h λb hb=>⟨g k b (ZO e) hb,rfl⟩
     | false=>
       have e:Nr k ks=E:=by simpa [Qde] using i
       exact OwnTop.vv h (λb hb=>⟨f b hb,rfl⟩) λb hb=>⟨g k b (ZO e) hb,rfl⟩
   | vw k=>
     have e:Nr k ks=E:=by simpa [Qde] using i
     exact VV.keep (X:=J.X (.vw k)) (λb hb=>⟨hb.elim (g k b (ZO e)) (f b),rfl⟩) h
   | put=>exact h.elim
 | _=>cases i
theorem MI(d:Rel N w0 F0 J a w s){ks:Y W}{F:W->Prop}(f:∀b,J.F b->F b)(g:∀k b,k∉ks->b∈J.L k->F b):∀{vs:Y H} {xs:Y AV},All2 (AR J w) vs xs->Ai (Qde ks) (Ze xs)=O->All2 (AR (Qr9 F (MH J ks 40)) w) vs (xs.map (AV.map (Qqj ks)))
 | _,_,.nil,_=> .nil
 | _,_,.cons h1 h2,hp=>by
   simp only[Ze,Qa8,zE] at hp;exact .cons (AR.map (Qqj ks) h1 λu c h e=>Qn3 d f g e (Hw hp.1 c h)) (MI d f g h2 hp.2)
theorem Gb{d:W}{ks gs:Y W}(x:W):get (Vc (Zn d ks)++Vc gs) x=if x∈Zn d ks\/x∈gs then U S else S:=by
 rw[ZK,A3];by_cases a:x∈Zn d ks
 . rw[uB a,uB (Or.inl a)]
 rw[D a];show get (Vc gs) x=_;rw[A3];by_cases b:x∈gs
 . rw[uB b,uB (Or.inr b)]
 rw[D b,D (by simp[a,b])]
theorem Qft(f:Rel N w0 F0 J a w s)(d:W)(hd:d<N){r:AV}{gs:Y W}{L:W->Y W}{kb:W}{cs q:Y C}(a8:get s.bx kb=U cs)(ap:Ai CE r.cells=O)(a9:Ai Qjp q=O)(aq:Ai WX q=O)
 (hL:∀b,(∃j,b∈L j)↔∃k,k∈gs/\b∈J.L k) {e:Ending} {w':I} (ai:Qsl J.F L (J.B kb) w r q e w'):
 ∃v J',e= .returned v/\Rel N w0 F0 J' (a.put (U d) v) w' (s.step (U d) ⟨r,Vc (Zn d (Qu q))++Vc gs,S,U (kb,q.map (WW d))⟩):=by
 obtain⟨v,L',rfl,ar,au,av,aw,hS,ax,aj,ay,hr,ak⟩:=ai;obtain⟨al,az,aa,b6,e0,b1,_⟩:=f.bo kb cs a8;have b7:=Xb b1;have h0:=f.below.size
 let IL:W->Prop:=λb=>∃j,b∈L j
 let J':Inj:=⟨λb=>J.F b\/((w.heap.size<=b\/IL b)/\b<w'.heap.size/\∀k,b∉L' k),λx=>if x∈Zn d (Qu q) then L' (x-64*d) else if x∈gs then [] else J.L x,J.B⟩
 have V:∀b,IL b->b<w.heap.size/\w0.lo b/\¬J.F b/\b≠J.B kb:=λb hb=>by
  obtain⟨k,p,g⟩:=(hL b).1 hb;obtain⟨g1,g2,g3⟩:=f.lo k b g;exact⟨g2,g1,g3,λe=>aa k (e▸g)⟩
 have y:∀b,J.F b->b<w.heap.size/\b≠J.B kb/\¬IL b:=λb hb=>
  ⟨(f.fl b hb).1,λe=>az (e▸hb),λg=>(V b g).2.2.1 hb⟩
 have a7:∀b,b<w.heap.size->b≠J.B kb->¬IL b->w'.heap[b]? =w.heap[b]? :=λb h1 h2 h3=>hS b h1 h2 λj hj=>h3 ⟨j,hj⟩
 have ab:∀b,J.F b->w'.heap[b]? =w.heap[b]? :=λb hb=>a7 b (y b hb).1 (y b hb).2.1 (y b hb).2.2
 have ad:∀k,k∉gs->∀b,b∈J.L k->w'.heap[b]? =w.heap[b]? :=λk p b g=>a7 b (f.lo k b g).2.1 (λe=>aa k (e▸g)) λhl=>by
  obtain⟨k',a1,z⟩:=(hL b).1 hl;exact p (f.dj k k' b g z▸a1)
 have a3:∀k b,b∈J'.L k->(k∈Zn d (Qu q)/\b∈L' (k-64*d))\/(k∉Zn d (Qu q)/\k∉gs/\b∈J.L k):=λk b g=>by
  have g:b∈(if k∈Zn d (Qu q) then L' (k-64*d) else if k∈gs then [] else J.L k):=g;split at g
  . rename_i h1;exact .inl ⟨h1,g⟩
  split at g
  . simp at g
  rename_i h1 h2;exact .inr ⟨h1,h2,g⟩
 have a2:∀k b,b∈L' k->b<w'.heap.size/\w0.lo b/\b≠J.B kb/\¬J'.F b/\∀k',k'∉gs->b∉J.L k':=λk b g=>by
  obtain⟨g1,g2⟩:=aj k b g;have ae:¬J.F b:=λhF=>g2.elim (λh=>by have:=(y b hF).1;omega) λh=>(y b hF).2.2 h
  refine⟨g1,g2.elim (λh=> .inl (by omega)) λh=>(V b h).2.1, ?_,λhF=>?_,λk' a1 z=>?_⟩
  . rintro rfl
    rcases g2 with h | h
    . omega
    exact(V _ h).2.2.2 rfl
  . rcases hF with hF | ⟨_,_,hn⟩
    . exact ae hF
    exact hn k g
  rcases g2 with h | h
  . have:=(f.lo k' b z).2.1;omega
  obtain⟨k2,b2,b3⟩:=(hL b).1 h;exact a1 (f.dj k2 k' b b3 z▸b2)
 refine⟨v,J',rfl,f.upd (U d) (λd' e=>by cases e;exact hd) _ v (f.below.step ar au av aw λb hb hn=>a7 b hb (λe=>hn (e▸al)) λg=>hn (V b g).2.1)
  ⟨λb hb=>⟨.inl hb,ab b hb⟩,λk p=>?_,λk p b g=>?_,λk k' p=>?_,λk t p=>?_,(λ_ _=>rfl),λk d1 m i o b8 p=>by
   rw[Gb] at p;split at p<;>cases p⟩
  ⟨λb hb=>?_,λb hb=> .inl (f.f0 b hb),λk=>?_,λk b g=>?_,λk k' b g z=>?_⟩ (λ_=>Qfo hr ap) (λk c p ae=>?_) (λk c p=>?_)⟩
 . rw[Gb] at p;split at p
   . cases p
   rename_i h1;have h3:k∉Zn d (Qu q):=λh=>h1 (.inl h)
   have h4:k∉gs:=λh=>h1 (.inr h)
   exact⟨by show(if _ then _ else _)=_;rw[D h3,D h4],ad k h4⟩
 . rw[Gb] at p;split at p<;>cases p
 . rw[Gb] at p;split at p<;>cases p
 . rw[Gb] at p;split at p<;>cases p
 . rcases hb with hb | ⟨h1,h2,_⟩
   . exact⟨by have:=(y b hb).1;omega,(f.fl b hb).2⟩
   exact⟨h2,.inr (h1.elim (λh=> .inl (by omega)) λh=>(V b h).2.1)⟩
 . show(if _ then _ else _:Y W).Nodup;split
   . exact ax _
   split
   . simp
   exact f.nd k
 . rcases a3 k b g with⟨_,g⟩ | ⟨_,h2,g⟩
   . obtain⟨g1,g2,_,g4,_⟩:=a2 _ b g;exact⟨g2,g1,g4⟩
   obtain⟨g1,g2,g3⟩:=f.lo k b g;refine⟨g1,by omega,λhF=>?_⟩;rcases hF with hF | ⟨hF,_,_⟩
   . exact g3 hF
   rcases hF with hF | hF
   . omega
   obtain⟨k',a1,z⟩:=(hL b).1 hF;exact h2 (f.dj k k' b g z▸a1)
 . rcases a3 k b g with⟨h1,a4⟩ | ⟨h1,h2,a4⟩<;>rcases a3 k' b z with⟨h3,a5⟩ | ⟨h3,h4,a5⟩
   . have:=ay _ _ b a4 a5;obtain⟨j,_,rfl⟩:=B2.1 h1;obtain⟨j',_,rfl⟩:=B2.1 h3;omega
   . exact((a2 _ b a4).2.2.2.2 k' h4 a5).elim
   . exact((a2 _ b a5).2.2.2.2 k h2 a4).elim
   exact f.dj k k' b a4 a5
 . have b4:kb≠k:=ae (kb,q.map (WW d)) rfl;obtain⟨_,g2,g3,am,e,g4,_⟩:=f.bo k c p;have b5:=Xb g4;have an:J.B k≠J.B kb:=λe=>b4 (f.bi k kb c cs p a8 e).symm
   have af:¬IL (J.B k):=λg=>by obtain⟨k',_,z⟩:=(hL _).1 g;exact g3 k' z
   refine⟨by simp,λhF=>?_,λk' g=>?_,a7 _ b5 an af⟩
   . rcases hF with hF | ⟨hF,_,_⟩
     . exact g2 hF
     rcases hF with hF | hF
     . omega
     exact af hF
   rcases a3 k' _ g with⟨_,g⟩ | ⟨_,_,g⟩
   . rcases(aj _ _ g).2 with h | h
     . omega
     exact af h
   exact g3 k' g
 simp only[zN,zP] at p;obtain⟨rfl,rfl⟩:=p;refine⟨al,λhF=>?_,λk' g=>?_, ?_,λk' c' a1 ao hB=>ao (f.bi k' kb c' cs a1 a8 hB)⟩
 . rcases hF with hF | ⟨hF,_,_⟩
   . exact(y _ hF).2.1 rfl
   rcases hF with hF | hF
   . have hF:w.heap.size<=J.B kb:=hF;omega
   exact(V _ hF).2.2.2 rfl
 . rcases a3 k' _ g with⟨_,g⟩ | ⟨_,_,g⟩
   . exact(a2 _ _ g).2.2.1 rfl
   exact aa k' g
 obtain⟨am,e,g1,g2⟩:=ak;refine⟨am,e,g1,g2.map (WW d) λu c hc ah=>?_⟩;have a6:=Hw a9 c hc;cases c with
 | int | bool | str=>exact ah
 | slc t n l=>
   cases t with
   | sh=>exact VV.keep (X:=(Qfi J.F L w w' L').F) (λb hb=>⟨hb,rfl⟩) ah
   | own b k=>
     cases b with
     | false=>cases a6
     | true=>
       show OwnDeep (if 64*d+k∈Zn d (Qu q) then L' (64*d+k-64*d) else _) w' u _ _;rw[uB (B2.2 ⟨k,Nw hc rfl,rfl⟩),yA];exact ah
   | _=>cases a6
 | _=>cases a6
theorem Qkd{orc:Orc}{bn:Y (W×Y C)}{o:Oper}{l:Y AV}{r:Res}{V:Y Ob}(h:Qn1 orc bn o.dst o.op l=U (r,V))(a6:AllOb (Zp P w0) (V0 P w0) V)(a1:∀d,o.dst=U d->d<N)
 (i:Rel N w0 F0 J a w s) (a2:All2 (λx v=>BZ s x=U v) o.op.operands.toList l) (a7:∀k c,get bn k=U c->get s.bx k=U c) {K:Act->I->Prop} {Q:Exit->Act->I->Prop}
 (hK:∀J' a' w',Rel N w0 F0 J' a' w' (s.step o.dst r)->K a' w'):o.wp P a w K Q:=by
 have hv:=Dt i a2;generalize ho:o.op=op at h hv;generalize hd:o.dst=ah at h;unfold Qn1 at h;split at h
 rotate_left
 . cases h
 rename_i x args ai f b l;have t:All2 (λx v=>AR J w (a.eval x) v) (x::args.toList) (.one (.fn f []):: .one (.ptr b 0)::l):=by simpa [Op.operands,Call.operands] using hv
 obtain⟨args⟩:=args;have t:All2 (λx v=>AR J w (a.eval x) v) (x::args) (.one (.fn f []):: .one (.ptr b 0)::l):=t;cases t with
 | cons hx m=>
 have hx:a.eval x= .func (.func f) #[] #[]:=by simpa [AR,CR] using hx
 have u:(({toList:=args}:uE Operand).map a.eval++ #[])=(args.map a.eval).toArray:=by
  apply yS;simp
 split at h
 rotate_left
 . cases h
 rename_i g r' cs' d cs a8;cases hc:(Ai Qjp cs&&Ao (Qu cs)&&Ai Qjp cs'&&Ai WX cs'&&Ao (Qu cs')&&Ai CE r'.cells&&Ai CE (Ze l)) with
 | false=>rw[hc] at h;cases h
 | true=>
   rw[hc] at h;simp only[uF,zN,zP] at h;obtain⟨rfl,rfl⟩:=h;simp only[zE] at hc;obtain⟨⟨⟨⟨⟨⟨c1,c2⟩,c3⟩,c4⟩,_⟩,c6⟩,c7⟩:=hc;have c2:=Bh.1 c2;obtain⟨a9,y⟩:SA P w0 f (SD 40 cs) l r' cs':=a6;cases m with
   | @cons px _ rest _ n m=>
   have n:a.eval px= .pointer (U ⟨J.B b,0,S⟩):=n;have a3:=a7 b cs a8;obtain⟨aa,ab,ad,a4,e0,ae,af⟩:=i.bo b cs a3;have q:∀j x,x∈KI J 40 cs j->∃k,k∈Qu cs/\x∈J.L k:=λj x hx=>VT hx
   have hC:=y w i.below J.F (KI J 40 cs) (J.B b) (rest.map a.eval) (λz hz=>hz.elim (λe=>e▸aa) λ⟨j,p⟩=>by obtain⟨k,_,p⟩:=q j z p;exact(i.lo k z p).1)
    ⟨λz hz=>(i.fl z hz).1,λk=>SF i cs 40 k,λj z hz=>by obtain⟨k,_,p⟩:=q j z hz;exact(i.lo k z p).2,λj j' z h1 h2=>SG i c2 h1 h2,ab,λj p=>by obtain⟨k,_,p⟩:=q j _ p;exact ad k p⟩
    ⟨a4,e0,ae,FN (λ_ h=>h) af c1 λ_ _=>rfl⟩ (SE (All2.of_map _ m) c7)
   refine L9 ho hx a9 ?_;rw[u,yL,n];refine hC.mono λe w' a5=>?_
   obtain⟨v,J',rfl,hR⟩:=Qft i d (a1 d hd) (gs:=Qu cs) a3 c6 c3 c4 (λz=>⟨λ⟨j,p⟩=>q j z p,λ⟨k,h1,h2⟩=>Qa9 c1 h1 h2⟩) a5;rw[hd] at hK⊢;exact hK J' _ _ hR
theorem Qke(f:Rel N w0 F0 J a w s)(d:W)(hd:d<N){r:AV}{ks:Y W}{L:W->Y W}(hL:∀b,(∃j,b∈L j)↔∃k,k∈ks/\b∈J.L k)(a8:Ai Qqg r.cells=O)(ab:Ai WX r.cells=O){e:Ending}{w':I}(a9:Qsm L w r e w'):
 ∃v J',e= .returned v/\Rel N w0 F0 J' (a.put (U d) v) w' (s.step (U d) ⟨r.map (WW d),Vc (Zn d (Qu r.cells))++Vc ks,S,S⟩):=by
 obtain⟨v,L',rfl,ad,ae,af,ah,hS,ai,aj,ak,hr⟩:=a9;have h0:=f.below.size
 let J':Inj:=⟨λb=>J.F b,λx=>if x∈Zn d (Qu r.cells) then L' (x-64*d) else if x∈ks then [] else J.L x,J.B⟩
 have a3:∀b j,b∈L j->∃k,k∈ks/\b∈J.L k:=λb j h=>(hL b).1 ⟨j,h⟩
 have a6:∀b,J.F b->w'.heap[b]? =w.heap[b]? :=λb hb=>hS b (f.fl b hb).1 λj g=>by
  obtain⟨k,_,g⟩:=a3 b j g;exact(f.lo k b g).2.2 hb
 have a7:∀k,k∉ks->∀b,b∈J.L k->w'.heap[b]? =w.heap[b]? :=λk p b g=>hS b (f.lo k b g).2.1 λj hl=>by
  obtain⟨k2,h2,hl⟩:=a3 b j hl;exact p (by rw[f.dj k k2 b g hl];exact h2)
 have a4:∀k b,b∈J'.L k->(k∈Zn d (Qu r.cells)/\b∈L' (k-64*d))\/(k∉Zn d (Qu r.cells)/\k∉ks/\b∈J.L k):=λk b g=>by
  have g:b∈(if k∈Zn d (Qu r.cells) then L' (k-64*d) else if k∈ks then [] else J.L k):=g;split at g
  . rename_i h1;exact .inl ⟨h1,g⟩
  split at g
  . simp at g
  rename_i h1 h2;exact .inr ⟨h1,h2,g⟩
 have y:∀k b,b∈L' k->b<w'.heap.size/\w0.lo b/\¬J.F b/\(∀q,q∉ks->b∉J.L q)/\∀kb c,get s.bx kb=U c->b≠J.B kb:=λk b g=>by
  obtain⟨g1,z⟩:=aj k b g;have z:w.heap.size<=b\/∃k,k∈ks/\b∈J.L k:=z.imp id λh=>(hL b).1 h
  refine⟨g1,z.elim (λh=> .inl (by omega)) λ⟨k,_,h⟩=>(f.lo k b h).1,λhF=>?_,λq al a5=>?_,λkb c am e=>?_⟩
  . rcases z with h | ⟨k,_,h⟩
    . have:=(f.fl b hF).1;omega
    exact(f.lo k b h).2.2 hF
  . rcases z with h | ⟨k,p,h⟩
    . have:=(f.lo q b a5).2.1;omega
    exact al (by rw[f.dj q k b a5 h];exact p)
  obtain⟨_,_,h3,an,ty,h4,_⟩:=f.bo kb c am;subst e;rcases z with h | ⟨k,_,h⟩
  . have:=Xb h4;omega
  exact h3 k h
 refine⟨v,J',rfl,f.upd (U d) (λd' e=>by cases e;exact hd) _ v (f.below.step ad ae af ah λb hb hn=>hS b hb λj g=>by
  obtain⟨k,_,g⟩:=a3 b j g;exact hn (f.lo k b g).1)
  ⟨λb hb=>⟨hb,a6 b hb⟩,λk p=>?_,λk p b g=>?_,λk q p=>?_,λk t p=>?_,(λ_ _=>rfl),λk d1 m i o ao p=>by
   rw[Gb] at p;split at p<;>cases p⟩
  ⟨λb hb=>⟨by have:=(f.fl b hb).1;omega,(f.fl b hb).2⟩,λb hb=>f.f0 b hb,λk=>?_,λk b g=>?_,λk q b g a5=>?_⟩ (λ_=>?_) (λk c p ap=>?_) (λk c p=>by cases p)⟩
 . rw[Gb] at p;split at p
   . cases p
   rename_i h1;have h3:k∉Zn d (Qu r.cells):=λh=>h1 (.inl h)
   have h4:k∉ks:=λh=>h1 (.inr h)
   exact⟨by show(if _ then _ else _)=_;rw[D h3,D h4],a7 k h4⟩
 . rw[Gb] at p;split at p<;>cases p
 . rw[Gb] at p;split at p<;>cases p
 . rw[Gb] at p;split at p<;>cases p
 . show(if _ then _ else _:Y W).Nodup;split
   . exact ai _
   split
   . simp
   exact f.nd k
 . rcases a4 k b g with⟨_,g⟩ | ⟨_,h2,g⟩
   . obtain⟨g1,z,g4,_⟩:=y _ b g;exact⟨z,g1,g4⟩
   obtain⟨g1,z,g3⟩:=f.lo k b g;exact⟨g1,by omega,g3⟩
 . rcases a4 k b g with⟨h1,V⟩ | ⟨h1,h2,V⟩<;>rcases a4 q b a5 with⟨h3,a1⟩ | ⟨h3,h4,a1⟩
   . have:=ak _ _ b V a1;obtain⟨j,_,rfl⟩:=B2.1 h1;obtain⟨j',_,rfl⟩:=B2.1 h3;omega
   . exact((y _ b V).2.2.2.1 q h4 a1).elim
   . exact((y _ b a1).2.2.2.1 k h2 V).elim
   exact f.dj k q b V a1
 . refine AR.map (WW d) hr λu c hc aa=>?_
   have a2:=Hw a8 c hc;cases c with
   | int | bool | str=>exact aa
   | slc t n l=>
     cases t with
     | own b k=>
       cases b with
       | false=>cases a2
       | true=>
         show OwnDeep (if 64*d+k∈Zn d (Qu r.cells) then L' (64*d+k-64*d) else _) w' u _ _;rw[uB (B2.2 ⟨k,Nw hc rfl,rfl⟩),yA];exact aa
     | _=>cases a2
   | _=>cases a2
 obtain⟨_,z,g3,an,e,g4,_⟩:=f.bo k c p
 refine⟨by simp,z,λq g=>?_,hS _ (Xb g4) λj g=>by
  obtain⟨q,_,g⟩:=a3 _ j g;exact g3 q g⟩
 rcases a4 q _ g with⟨_,g⟩ | ⟨_,_,g⟩
 . exact(y _ _ g).2.2.2.2 k c p rfl
 exact g3 q g
theorem Qkf{orc:Orc}{o:Oper}{c:Y AV}{r:Res}{t:Y Ob}(h:Qn2 orc o.dst o.op c=U (r,t))(a2:AllOb (Zp P w0) (V0 P w0) t)(u:∀d,o.dst=U d->d<N)
 (b:Rel N w0 F0 J a w s) (y:All2 (λx v=>BZ s x=U v) o.op.operands.toList c) {K:Act->I->Prop} {Q:Exit->Act->I->Prop}
 (hK:∀J' a' w',Rel N w0 F0 J' a' w' (s.step o.dst r)->K a' w'):o.wp P a w K Q:=by
 have hv:=Dt b y;generalize ho:o.op=op at h hv;generalize hd:o.dst=a4 at h;unfold Qn2 at h;split at h
 rotate_left
 . cases h
 rename_i x args a5 f c;have i:All2 (λx v=>AR J w (a.eval x) v) (x::args.toList) (.one (.fn f [])::c):=by simpa [Op.operands,Call.operands] using hv
 obtain⟨args⟩:=args;have i:All2 (λx v=>AR J w (a.eval x) v) (x::args) (.one (.fn f [])::c):=i;cases i with
 | cons V l=>
 have V:a.eval x= .func (.func f) #[] #[]:=by simpa [AR,CR] using V
 have m:(({toList:=args}:uE Operand).map a.eval++ #[])=(args.map a.eval).toArray:=by
  apply yS;simp
 split at h
 rotate_left
 . cases h
 rename_i ks r' d;cases hc:(Ao ks&&Ai (Qde ks) (Ze c)&&Ai Qqg r'.cells&&Ai WX r'.cells&&Ao (Qu r'.cells)) with
 | false=>rw[hc] at h;cases h
 | true=>
   rw[hc] at h;simp only[uF,zN,zP] at h;obtain⟨rfl,rfl⟩:=h;simp only[zE] at hc;obtain⟨⟨⟨⟨c0,c5⟩,c1⟩,c2⟩,_⟩:=hc;have c0:=Bh.1 c0;obtain⟨a3,n⟩:Qfj P w0 f (c.map (AV.map (Qqj ks))) r':=a2
   let F:W->Prop:=λz=>J.F z\/∃k,k∉ks/\z∈J.L k
   have p:∀j x,x∈MH J ks 40 j->∃k,k∈ks/\x∈J.L k:=λj x V=>FO V
   have hC:=n w b.below F (MH J ks 40) (args.map a.eval) (λz ⟨j,q⟩=>by obtain⟨k,_,g⟩:=p j z q;exact(b.lo k z g).1)
    ⟨λz (q:J.F z\/_)=>q.elim (λh=>(b.fl z h).1) λ⟨k,_,g⟩=>(b.lo k z g).2.1,λk=>Qfr b ks 40 k,λj z q=>by
     obtain⟨k,hk,g⟩:=p j z q;exact⟨(b.lo k z g).2.1,λ(hF:J.F z\/_)=>hF.elim (b.lo k z g).2.2 λ⟨k',hn,hm'⟩=>hn (by rw[b.dj k' k z hm' g];exact hk)⟩,λj j' z h1 h2=>Qfs b c0 h1 h2⟩
    (MI b (F:=F) (λz q=>Or.inl q) (λk z hn g=>Or.inr ⟨k,hn,g⟩) (All2.of_map _ l) c5)
   refine L9 ho V a3 ?_;rw[m];refine hC.mono λe w' a1=>?_
   obtain⟨v,J',rfl,hR⟩:=Qke b d (u d hd) (λz=>⟨λ⟨j,g⟩=>p j z g,λ⟨k,h1,h2⟩=>⟨_,by rw[SH h1];exact h2⟩⟩) c1 c2 a1;rw[hd] at hK⊢;exact hK J' _ _ hR
end
end
section
open Go.RowKit
def UH(tt:Y (W×TI))(orc:Orc):Op->Y AV->uA (AV×Y Ob)
 | .slice t _ S hi S,.one (.slc (.own E k) n l)::r=>
   (match orc,get tt t with
   | .cut l',U ⟨.sli e,_,_,_⟩=>(match get tt e,Nt l.length hi r with
     | some ei,U (b, [])=>bif zV ei.size n then U (.one (.slc (.own E k) n l'), [.eq (.one (.slc (.own E k) n ((l.take b.toNat).drop (xC 0)))) (.one (.slc (.own E k) n l')),.rng 0 b l.length]) else S
     | _,_=>S)
   | _,_=>S)
 | _,_=>S
section
variable {P:uC} {A:W->Y AV->AV->Prop} {T:TakeT} {J:Inj} {w:I}
theorem OwnTop.cut{F:W->Prop}{L:Y W}{f:uA Addr}{m cap n b:W}{l:Y (Y PV)}(h:OwnTop F L w (.slice f m cap) n l)(k:b<=l.length)(v:m=l.length):
 OwnTop F L w (.slice f b cap) n (l.take b):=by
 rcases h with⟨rfl,p,e⟩ | ⟨g,c,cur,e,q,d,r,s,t,x,o⟩
 . have i:b=0:=by simpa using k
   have:=(Value.slice.inj e);obtain⟨d,u,j⟩:=this;subst i;exact .inl ⟨by simp,f,by rw[j]⟩
 obtain⟨d,u,j⟩:=Value.slice.inj d;subst d j;have a:(l.take b).length=b:=by simp;omega
 refine .inr ⟨g,cap,cur,e,q,by rw[a],r,s, ?_,by omega,⟨o.1,by have:=o.2;omega⟩⟩;have:=t.take b;rw[a]
 rwa [List.take_take,yU (zS n k)] at this
theorem Qdf{tt:Y (W×TI)}(i:Nq P tt=O){orc:Orc}{y:Op}{j:Y AV}{v:AV}{obs:Y Ob}(h:UH tt orc y j=U (v,obs))(a:AllOb A T obs)
 {o:Oper} (ho:o.op=y) {ρ:Operand->H} (hv:All2 (λx v=>AR J w (ρ x) v) y.operands.toList j):
 ∃u,(execOp ρ o).run P w= .ok (.value u) w/\AR J w u v:=by
 unfold UH at h;split at h
 . rename_i t px hi k n l r;split at h
   . rename_i l' e n' z q hg;split at h
     . rename_i ei b V a1;cases d:zV ei.size n with
       | false=>rw[d] at h;cases h
       | true =>
         rw[d] at h;obtain⟨rfl,rfl⟩:AV.one (.slc (.own E k) n l')=v/\ [Ob.eq (.one (.slc (.own E k) n ((l.take b.toNat).drop (xC 0)))) (.one (.slc (.own E k) n l')),Ob.rng 0 b l.length]=obs:=by simpa using h
         obtain⟨f,a⟩:=AllOb.cons a;have f:AV.one (.slc (.own E k) n ((l.take b.toNat).drop (xC 0)))= .one (.slc (.own E k) n l'):=f;obtain⟨_,hab,hbl⟩:(0:Int)<=0/\0<=b/\b<=l.length:=a;have hu:=(Jc i hg).sli;have hs:=Cw (P:=P) (Jc i V) w;have hn:ei.size=n:=by simpa using d
         have a2:All2 (λx v=>AR J w (ρ x) v) (px::(hi.toArray.toList++ [])) (.one (.slc (.own E k) n l)::r):=by simpa [Op.operands] using hv
         cases a2 with
         | cons g h2=>
           obtain⟨_,m⟩:=La a1 h2;have g:CR J w (ρ px) (.slc (.own E k) n l):=g;obtain⟨oa,cap,e1,a5,a6,a4⟩:=QO g
           have a3:(Instr.sliceBounds O l.length cap S (hi.map ρ) S).run P w= .ok (0,b.toNat,cap) w:=by
            have e3:∀c,(match (hi.map ρ) with | some v=>Instr.sliceBound v cap c | none=>(pure l.length:Sem W)).run P w= .ok b.toNat w:=by
             intro c;rcases m with⟨rfl,rfl⟩ | ⟨x,k,rfl,hx⟩
             . simp
             simp only[Option.map_some,hx];exact R8 (by omega) (by omega)
            unfold Instr.sliceBounds;simp only[Sem.run_bind,Sem.run_pure,Result.andThen_ok];have p:=e3 .sliceAcap;revert p;cases hi.map ρ<;>simp<;>intro p<;>simp_all
           have s:(execOp ρ o).run P w= .ok (.value (.slice oa b.toNat cap)) w:=by
            have e4:(if cap=0 then oa else oa.map (·.add (0*n)))=oa:=by
             split
             . rfl
             cases oa<;>simp[Addr.add]
            simp[execOp,ho,e1,Instr.sliceAt,run_underlying hu,Instr.slice,a3,hs,hn];simpa using e4
           refine⟨_,s, ?_⟩;rw[←f];have g:OwnTop J.F (J.L k) w (ρ px) n l:=g;rw[e1] at g;have h3:=g.cut (b:=b.toNat) (by omega) rfl;show OwnTop J.F (J.L k) w _ n ((l.take b.toNat).drop (xC 0));simpa using h3
     cases h
   cases h
 cases h
end
end
end Go.Proofs.YtkdnkiggkgakmaaGreatDoor
