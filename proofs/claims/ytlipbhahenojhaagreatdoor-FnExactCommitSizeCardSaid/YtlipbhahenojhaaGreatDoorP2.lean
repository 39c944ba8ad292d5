/- A part. -/
import Derived.Test.YtlipbhahenojhaaGreatDoorP1
import Derived.Great.BuildSlice
import Derived.Deep.AppendSrc
import Derived.Deep.DeepAppendWide
import Derived.Lib.SmallJoins
import Derived.Lib.LaidTab
import Derived.Lib.Space
import Derived.Lib.ItoaNum
import Derived.Laws.MakeOwn
set_option linter.unusedVariables false
set_option linter.unusedSimpArgs false
namespace Go.Proofs.YtlipbhahenojhaaGreatDoor
open _root_ renaming List → Y, Nat → W, if_neg → D, Option → uA, if_pos → uB, Bool → uD, Array → uE, cond_true → uF, cond_false → uI, congrArg → uJ, of_decide_eq_true → uK
open _root_.Bool renaming true → O, false → E
open _root_.Go renaming World → I, Value → H, Program → uC, TypeId → uG, maxLen → uH
open _root_.Option renaming some → U, none → S
open _root_.Array renaming getElem?_toList → yJ, ext' → yS, length_toList → yX
open _root_.Bool renaming and_eq_true → zE, not_eq_true' → zT, or_eq_true → yT
open _root_.Classical renaming byContradiction → zY
open _root_.Int renaming toNat → xC
open _root_.List renaming mem_append_right → zF, mem_append_left → zG, nodup_append → zH, mem_cons_of_mem → zJ, mem_append → zK, mem_cons_self → zL, mem_cons → zM, nodup_nil → zO, nodup_cons → zQ, eq_nil_of_length_eq_zero → zU, replicate → yB, take_append_of_le_length → yC, take_of_length_le → yD, mem_singleton → yE, flatten_cons → yF, append_assoc → yG, length_append → yI, map_cons → yL, replicate_succ → yN, take_append_drop → yV, take_left → yW
open _root_.Nat renaming le_refl → zR, mul_le_mul_right → zS, beq → zV, zero_le → zX, add_mul → zZ, add_sub_cancel_left → yA, beq_eq → yH, ble → yK, one_mul → yM, blt → yO, le_trans → yP, add_lt_add_iff_right → yQ, zero_add → yR, min_eq_left → yU, add_assoc → yY, blt_eq → yZ, add_zero → xA, zero_mul → xB
open _root_.Option renaming map_eq_some_iff → zW
open _root_.Option.some renaming inj → zD, injEq → zN
open _root_.Prod.mk renaming injEq → zP
section
open Go.RowKit
theorem Fg{k:W}:∀{l:Y W},S7 k l=O↔k∈l
 | []=>by simp[S7]
 | x::r=>by
   simp only[S7,yT,yH,Fg (l:=r),zM];exact⟨λh=>h.elim (λe=> .inl e.symm) .inr,λh=>h.elim (λe=> .inl e.symm) .inr⟩
theorem Fh:∀{l:Y W},C3 l=O↔l.Nodup
 | []=>by simp[C3]
 | x::r=>by
   simp only[C3,zE,zT,zQ,Fh (l:=r)];exact⟨λh=>⟨λa=>by rw[Fg.2 a] at h;exact absurd h.1 (by simp),h.2⟩,λh=>⟨by cases a:S7 x r with | false=>rfl | true=>exact absurd (Fg.1 a) h.1,h.2⟩⟩
section
variable {N:W} {w0:Base} {F0:W->Prop} {J J':Inj} {a:Act} {w w':I} {s:St}
theorem Rel.grab3(h:Rel N w0 F0 J a w s)(x:uA W)(a5:∀d,x=U d->d<N)(r:Res)(v:H)(nk:W)(gone:Y W)(a6:r.kb=S)(a9:r.bx=S)
 (hb:w0.Keeps w') (ae:w.heap.size<=w'.heap.size) (hB:J'.B=J.B) (hL:∀k,k≠nk->J'.L k=if k∈gone then [] else J.L k)
 (a7:∀b,J.F b->J'.F b) (z:∀b,J'.F b->J.F b\/((∃k,k∈gone/\b∈J.L k)/\b∉J'.L nk)\/(w.heap.size<=b/\b<w'.heap.size/\b∉J'.L nk))
 (a1:∀k,k∉gone->k≠nk->get r.rl k=S) (y:nk∉gone->get r.rl nk=U S)
 (hT:∀k,k∈gone->get r.rl k=U S\/(get r.rl k=U (U .sh)/\∀b,b∈J.L k->J'.F b/\w'.heap[b]? =w.heap[b]?)\/(get r.rl k=U (U (.vw nk))/\∀b,b∈J.L k->(b∈J'.L nk\/J'.F b)/\w'.heap[b]? =w.heap[b]?))
 (hS:∀b,b<w.heap.size->(∀k,k∈gone->b∉J.L k)->w'.heap[b]? =w.heap[b]?)
 (aa:(J'.L nk).Nodup) (a2:∀b,b∈J'.L nk->b<w'.heap.size/\(w.heap.size<=b\/∃k,k∈gone/\b∈J.L k))
 (hv:x≠S->AR J' w' v r.av):Rel N w0 F0 J' (a.put x v) w' (s.step x r):=by
 have a3:∀b,J.F b->∀k,b∉J.L k:=λb n k g=>(h.lo k b g).2.2 n
 have ab:∀b,J'.F b->b∉J'.L nk:=λb n g=>by
  rcases z b n with n | ⟨_,q⟩ | ⟨_,_,q⟩
  . rcases(a2 b g).2 with a8 | ⟨k,_,f⟩
    . have:=(h.fl b n).1;omega
    exact a3 b n k f
  . exact q g
  exact q g
 have h0:w0.w.heap.size<=w.heap.size:=h.below.size
 refine h.upd x a5 r v hb ⟨λb n=>⟨a7 b n,hS b (h.fl b n).1 λk _=>a3 b n k⟩,λk f=>?_,λk f b g=>?_,λk k' f b g=>?_,λk t f=>?_,λk _=>by rw[hB],λk d m i o cs f=>by
  have l:k∈gone:=zY λl=>by
   by_cases q:k=nk
   . subst q;rw[y l] at f;cases f
   rw[a1 k l q] at f;cases f
  rcases hT k l with e | ⟨e,_⟩ | ⟨e,_⟩<;>rw[e] at f<;>cases f⟩
  ⟨λb n=>?_,λb n=>a7 b (h.f0 b n),λk=>?_,λk b g=>?_,λk k' b g j=>?_⟩ hv (λk c f _=>?_) (λk c f=>by rw[a9] at f;cases f) (λk e=>by rw[a6] at e;cases e)
 . have l:k∉gone:=λl=>by
    rcases hT k l with e | ⟨e,_⟩ | ⟨e,_⟩<;>rw[e] at f<;>cases f
   have q:k≠nk:=λe=>by subst e;rw[y l] at f;cases f
   refine⟨by rw[hL k q,D l],λb g=>hS b (h.lo k b g).2.1 λk' p j=>?_⟩;exact l (h.dj k k' b g j▸p)
 . have l:k∈gone:=zY λl=>by
    by_cases q:k=nk
    . subst q;rw[y l] at f;cases f
    rw[a1 k l q] at f;cases f
   rcases hT k l with e | ⟨_,e⟩ | ⟨e,_⟩
   . rw[e] at f;cases f
   . exact e b g
   rw[e] at f;cases f
 . have l:k∈gone:=zY λl=>by
    by_cases q:k=nk
    . subst q;rw[y l] at f;cases f
    rw[a1 k l q] at f;cases f
   rcases hT k l with e | ⟨e,_⟩ | ⟨e',e⟩
   . rw[e] at f;cases f
   . rw[e] at f;cases f
   rw[e'] at f;obtain rfl:nk=k':=by simpa using f
   exact e b g
 . have l:k∈gone:=zY λl=>by
    by_cases q:k=nk
    . subst q;rw[y l] at f;cases f
    rw[a1 k l q] at f;cases f
   rcases hT k l with e | ⟨e,_⟩ | ⟨e,_⟩<;>rw[e] at f
   . cases f
   . exact .inl (by simpa using f.symm)
   exact .inr (.inl ⟨nk,by simpa using f.symm⟩)
 . rcases z b n with n | ⟨⟨k,_,g⟩,_⟩ | ⟨h1,u,_⟩
   . have:=h.fl b n;exact⟨by omega,this.2⟩
   . have:=h.lo k b g;exact⟨by omega,.inr this.1⟩
   exact⟨u,.inr (.inl (by omega))⟩
 . by_cases f:k=nk
   . rw[f];exact aa
   rw[hL k f];split
   . simp
   exact h.nd k
 . by_cases f:k=nk
   . subst f;obtain⟨h1,u⟩:=a2 b g;refine⟨?_,h1,λn=>ab b n g⟩;rcases u with u | ⟨k',_,j⟩
     . exact .inl (by omega)
     exact(h.lo k' b j).1
   rw[hL k f] at g;split at g
   . simp at g
   rename_i l;obtain⟨h1,u,h3⟩:=h.lo k b g;refine⟨h1,by omega,λn=>?_⟩;rcases z b n with n | ⟨⟨k',a4,j⟩,_⟩ | ⟨h4,_,_⟩
   . exact h3 n
   . exact l (h.dj k k' b g j▸a4)
   omega
 . have key:∀k,k≠nk->b∈J'.L nk->b∈J'.L k->False:=λk f h1 u=>by
    rw[hL k f] at u;split at u
    . simp at u
    rename_i l;rcases(a2 b h1).2 with a8 | ⟨k',a4,j⟩
    . have:=(h.lo k b u).2.1;omega
    exact l (h.dj k k' b u j▸a4)
   by_cases f:k=nk
   . by_cases p:k'=nk
     . rw[f,p]
     subst f;exact(key k' p g j).elim
   by_cases p:k'=nk
   . subst p;exact(key k f j g).elim
   rw[hL k f] at g;rw[hL k' p] at j;split at g
   . simp at g
   split at j
   . simp at j
   exact h.dj k k' b g j
 obtain⟨h1,u,h3,af,e,h4,_⟩:=h.bo k c f;refine⟨by rw[a6];simp,λn=>?_,λk' g=>?_,hS _ (Xy h4) λk' _=>h3 k'⟩
 . rcases z _ n with n | ⟨⟨k',_,g⟩,_⟩ | ⟨h9,_,_⟩
   . exact u n
   . exact h3 k' g
   have:=Xy h4;omega
 by_cases p:k'=nk
 . subst p;rcases(a2 _ g).2 with a8 | ⟨ad,_,j⟩
   . have:=Xy h4;omega
   exact h3 ad j
 rw[hL k' p] at g;split at g
 . simp at g
 exact h3 k' g
theorem Rel.grab(h:Rel N w0 F0 J a w s)(e:uA W)(g:∀d,e=U d->d<N)(r:Res)(v:H)(f:W)(c:Y W)(i:r.kb=S)(j:r.bx=S)
 (l:w0.Keeps w') (m:w.heap.size<=w'.heap.size) (x:J'.B=J.B) (y:∀k,k≠f->J'.L k=if k∈c then [] else J.L k)
 (n:∀b,J.F b->J'.F b) (o:∀b,J'.F b->J.F b\/(∃k,k∈c/\b∈J.L k)/\b∉J'.L f)
 (p:∀k,k∉c->k≠f->get r.rl k=S) (q:f∉c->get r.rl f=U S)
 (z:∀k,k∈c->get r.rl k=U S\/(get r.rl k=U (U .sh)/\∀b,b∈J.L k->J'.F b/\w'.heap[b]? =w.heap[b]?)\/(get r.rl k=U (U (.vw f))/\∀b,b∈J.L k->(b∈J'.L f\/J'.F b)/\w'.heap[b]? =w.heap[b]?))
 (hS:∀b,b<w.heap.size->(∀k,k∈c->b∉J.L k)->w'.heap[b]? =w.heap[b]?)
 (t:(J'.L f).Nodup) (u:∀b,b∈J'.L f->b<w'.heap.size/\(w.heap.size<=b\/∃k,k∈c/\b∈J.L k))
 (hv:e≠S->AR J' w' v r.av):Rel N w0 F0 J' (a.put e v) w' (s.step e r):=
 h.grab3 e g r v f c i j l m x y n (λb l=>(o b l).imp id .inl) p q z hS t u hv
def Inj.box(J:Inj)(d b:W):Inj:=⟨J.F,J.L,λk=>if k=d then b else J.B k⟩
theorem Keeps.box{c:C}(g:XC c=O)(f:∀b,b<w.heap.size->w'.heap[b]? =w.heap[b]?)(h:Rel N w0 F0 J a w s)(d b:W):Keeps J (J.box d b) w w' c:=by
 refine⟨λx e=>⟨e,f x (h.fl x e).1⟩,λk _=>⟨rfl,λx e=>f x (h.lo k x e).2.1⟩,λk i=>?_⟩;cases c<;>simp_all [C.bkeys,XC]
theorem All2.box{e:Y H}{cs:Y C}(f:All2 (CR J w) e cs)(c:Cp XC cs=O)(g:∀b,b<w.heap.size->w'.heap[b]? =w.heap[b]?)(h:Rel N w0 F0 J a w s)(d b:W):All2 (CR (J.box d b) w') e cs:=by
 induction f with
 | nil=>exact .nil
 | cons i _ j=>
   simp only[Cp,zE] at c;exact .cons (i.keep (Keeps.box c.1 g h d b)) (j c.2)
theorem Rel.alloc(h:Rel N w0 F0 J a w s)(d:W)(hd:d<N)(g:uE H)(e:uG)(cs:Y C)(r:Cp XC cs=O)(t:All2 (CR J w) g.toList cs):
 Rel N w0 F0 (J.box d w.heap.size) (a.put (U d) (.pointer (U ⟨w.heap.size,0,S⟩))) (w.alloc (.cells g e (0,0))) (s.step (U d) ⟨.one (.ptr d 0), [],U d,U (d,cs)⟩):=by
 have hw:∀b,b<w.heap.size->(w.alloc (.cells g e (0,0))).heap[b]? =w.heap[b]? :=λb hb=>Below.heap_alloc w _ b hb
 have q:=h.below.size;have hz:(w.alloc (.cells g e (0,0))).heap.size=w.heap.size+1:=by simp
 refine h.upd (U d) (λd' e=>by cases e;exact hd) _ _ (h.below.alloc q _) ⟨λb hb=>⟨hb,hw b (h.fl b hb).1⟩,λk _=>⟨rfl,λb hb=>hw b (h.lo k b hb).2.1⟩,(λ_ f=>by cases f),(λ_ _ f=>by cases f),(λ_ _ f=>by cases f),(λk f=>?_),(λ_ _ _ _ _ _ f=>by cases f)⟩
  ⟨λb hb=>⟨by have:=(h.fl b hb).1;omega,(h.fl b hb).2⟩,h.f0,h.nd,λk b hb=>⟨(h.lo k b hb).1,by have:=(h.lo k b hb).2.1;omega,(h.lo k b hb).2.2⟩,h.dj⟩ (λ_=>?_) (λk c f j=>?_) (λk c f=>?_) (λk e=>by cases e;exact hd)
 . show(if k=d then _ else J.B k)=J.B k;rw[D (λe=>f (by simp[e]))]
 . show Value.pointer _=_;simp[Inj.box]
 . have l:k≠d:=λe=>j (d,cs) rfl e.symm
   obtain⟨h1,u,v,i,e',m,_⟩:=h.bo k c f;exact⟨by simpa using λe=>l e.symm,u,v,hw _ (Xy m)⟩
 simp only[zN,zP] at f;obtain⟨rfl,rfl⟩:=f;have n:(J.box d w.heap.size).B d=w.heap.size:=by simp[Inj.box]
 rw[n];refine⟨.inl q,λx=>by have:=(h.fl _ x).1;omega,λo y=>by have:=(h.lo o _ y).2.1;omega,⟨g,e,heap_alloc_new w _,t.box r hw h d _⟩,λo z p _ hB=>?_⟩;obtain⟨_,_,_,i,e',m,_⟩:=h.bo o z p;have:=Xy m;omega
theorem Rel.store(h:Rel N w0 F0 J a w s)(j:uA W)(o:∀d,j=U d->d<N)(k:W)(cells cs:Y C)(g:get s.bx k=U cells)(u i:uE H)(e:uG)(hg:w.heap[J.B k]? =U (.cells u e (0,0)))
 (hw:w'.heap[J.B k]? =U (.cells i e (0,0))) (l:∀b,b≠J.B k->w'.heap[b]? =w.heap[b]?) (ho:w'.os=w.os) (ht:w'.tape=w.tape) (hu:w'.output=w.output) (hz:w'.heap.size=w.heap.size) (hv:All2 (CR J w) i.toList cs) (v:H):
 Rel N w0 F0 J (a.put j v) w' (s.step j ⟨.one .dead, [],S,U (k,cs)⟩):=by
 obtain⟨p,q,r,_⟩:=h.bo k cells g;have z:∀b,J.F b->w'.heap[b]? =w.heap[b]? :=λb hb=>l b λe=>q (e▸hb)
 have hL:∀k' b,b∈J.L k'->w'.heap[b]? =w.heap[b]? :=λk' b hb=>l b λe=>r k' (e▸hb)
 have m:∀c,Keeps J J w w' c:=λc=>⟨λb hb=>⟨hb,z b hb⟩,λk' _=>⟨rfl,hL k'⟩,λ_ _=>rfl⟩
 refine h.upd j o _ v (h.below.step ho ht hu (by omega) λb _ hb=>l b λe=>hb (e▸p)) ⟨λb hb=>⟨hb,z b hb⟩,λk' _=>⟨rfl,hL k'⟩,(λ_ g=>by cases g),(λ_ _ g=>by cases g),(λ_ _ g=>by cases g),(λ_ _=>rfl),(λ_ _ _ _ _ _ g=>by cases g)⟩
  ⟨λb hb=>⟨by have:=(h.fl b hb).1;omega,(h.fl b hb).2⟩,h.f0,h.nd,λk b hb=>⟨(h.lo k b hb).1,by have:=(h.lo k b hb).2.1;omega,(h.lo k b hb).2.2⟩,h.dj⟩ (λ_=>trivial) (λk' t f n=>?_) (λk' t f=>?_)
 . have y:k≠k':=n (k,cs) rfl;obtain⟨_,h2,h3,_⟩:=h.bo k' t f;exact⟨by simp,h2,h3,l _ λe=>y (h.bi k' k t cells f g e).symm⟩
 simp only[zN,zP] at f;obtain⟨rfl,rfl⟩:=f;refine⟨p,q,r,⟨i,e,hw,hv.imp λx c _ hc=>hc.keep (m c)⟩,λk' t f n hB=>?_⟩;exact n (h.bi k' k t cells f g hB)
end
end
section
open Go.RowKit
def Qtc(tt:Y (W×TI))(bn:Y (W×Y C))(a:uA W):Op->Y AV->uA (Res×Y Ob)
 | .alloc t, []=>
   (match a,get tt t with
   | some d,U ti=>bif Cp XC ti.zero then U (⟨.one (.ptr d 0), [],U d,U (d,ti.zero)⟩, []) else S
   | _,_=>S)
 | .box _ _, [v]=>
   (match a,v.flatCells with
   | some d,U cs=>bif Dx cs&&Cp XC cs then U (⟨.one (.ptr d 0), [],U d,U (d,cs)⟩, []) else S
   | _,_=>S)
 | .store t _ _, [.one (.ptr k off),v]=>
   (match get tt t,get bn k,v.flatCells with
   | some ti,U cells,U cs=>bif zV cs.length ti.size&&Dx cs&&yK (off+ti.size) cells.length then U (⟨.one .dead, [],S,U (k,cells.take off++cs++cells.drop (off+ti.size))⟩, []) else S
   | _,_,_=>S)
 | .buildSlice t len ps,avs=>
   (match a,get tt t,JK 0 ps.toList avs with
   | some d,U ⟨.sli e,_,_,_⟩,U css=>(match get tt e,TD css with
     | some ei,U rows=>bif zV css.length len&&DZ ei.size css&&yK (len*ei.size) 1000&&yO 0 ei.size&& !(S7 (64*d) (Qy css.flatten))&&C3 (Qy css.flatten) then
      U (bif Ru css.flatten then⟨.one (.slc (.own O (64*d)) ei.size rows),(64*d,S)::UU (64*d) (Qy css.flatten),S,S⟩
       else⟨.one (.slc (.own E (64*d)) ei.size rows),(64*d,S)::Yz (Qy css.flatten),S,S⟩, [])
       else S
     | _,_=>S)
   | _,_,_=>S)
 | _,_=>S
section
variable {P:uC} {N:W} {w0:Base} {F0:W->Prop} {J:Inj} {a:Act} {w:I} {s:St}
theorem An{o:Oper}{K:Act->I->Prop}{Q:Exit->Act->I->Prop}{v:H}{w':I}(h:(execOp a.eval o).run P w= .ok (.value v) w')(k:K (a.put o.dst v) w'):o.wp P a w K Q:=by
 unfold Oper.wp;rw[h];exact k
theorem UV{o:Oper}{K:Act->I->Prop}{Q:Exit->Act->I->Prop}{w':I}(h:(execOp a.eval o).run P w= .ok .skip w')(k:K (a.put o.dst undef) w'):o.wp P a w K Q:=by
 unfold Oper.wp;rw[h];exact k
theorem Qhn{v:H}{x:AV}(h:Qc5 v=U x):AR J w v x:=by
 unfold Qc5 at h;split at h
 . rename_i k n;cases hb:(decide (k.min<=n)&&decide (n<=k.max)) with
   | false=>rw[hb] at h;cases h
   | true=>
     rw[hb] at h;obtain rfl:=zD h;simp at hb;exact⟨rfl,hb⟩
 . obtain rfl:=zD h;rfl
 . rename_i t;cases hb:yK t.size 1000000 with
   | false=>rw[hb] at h;cases h
   | true=>
     rw[hb] at h;obtain rfl:=zD h;exact⟨rfl,yP (by simpa using hb) (by decide)⟩
 . obtain rfl:=zD h;exact⟨rfl,S,rfl⟩
 . obtain rfl:=zD h;exact trivial
 cases h
theorem Qtd(h:Rel N w0 F0 J a w s){x:Operand}{v:AV}(b:IY s x=U v):AR J w (a.eval x) v:=by
 cases x with
 | tmp t=>exact h.tm t v b
 | const c=>exact Qhn b
 | func f=>obtain rfl:=zD b;rfl
 | global g=>cases b
theorem Gl(h:Rel N w0 F0 J a w s){b:Y Operand}{vs:Y AV}(c:All2 (λx v=>IY s x=U v) b vs):All2 (λx v=>AR J w (a.eval x) v) b vs:=c.imp λ_ _ _ d=>Qtd h d
theorem Qfl{n:W}:∀(vs:Y H) (i:W) (cells:uE H),(∀v,v∈vs->v.cells.size=n)->cells.size=(i+vs.length)*n->
 ∃c,Instr.fill (λi=>U (i*n,n)) cells ((List.range' i vs.length).zip vs)=U c/\c.toList=cells.toList.take (i*n)++vs.flatMap (·.cells.toList)
 | [],i,cells,_,hs=>⟨cells,rfl,by simp;rw[yD (by simp[hs])]⟩
 | v ::vs,i,cells,hn,hs=>by
   have b:=hn v zL
   have a:i*n+v.cells.toList.length<=cells.size:=by
    simp only[yX,b,hs,List.length_cons];have:(i+1)*n<=(i+(vs.length+1))*n:=zS _ (by omega);rw[zZ,yM] at this;exact this
   have d:=EE v.cells.toList (i*n) 0 cells a;rw[xA] at d
   have e:v.cells.zipIdx.foldl (λcs x=>cs.setIfInBounds (i*n+x.2) x.1) cells=putCells cells (i*n) v.cells.toList:=by
    rw[←d,←Array.foldl_toList];simp
   obtain⟨c,f,g⟩:=Qfl (n:=n) vs (i+1) (putCells cells (i*n) v.cells.toList) (λu h=>hn u (zJ _ h)) (by rw[Us,hs,List.length_cons];congr 1;omega);refine⟨c, ?_, ?_⟩
   . simp only[List.length_cons,List.range'_succ,List.zip_cons_cons,Instr.fill];rw[D (by simp[b];simpa [b] using a)];exact(uJ (λz=>Instr.fill _ z _) e).trans f
   rw[g,B7 a]
   have j:(cells.toList.take (i*n)++v.cells.toList).length=(i+1)*n:=by
    simp only[yI,List.length_take,yX,b,zZ,yM];rw[yU (by simp[b] at a;omega)]
   rw[←j,yW];simp
theorem Qfm :∀{ps:Y (W×Operand)} {avs:Y AV} {css:Y (Y C)} {i n:W} {ρ:Operand->H},JK i ps avs=U css->DZ n css=O->All2 (λx v=>AR J w (ρ x) v) (ps.map (·.2)) avs->
 (ps.map λp=>(p.1,ρ p.2))=(List.range' i css.length).zip (ps.map λp=>ρ p.2)/\ps.length=css.length/\(∀v,v∈ps.map (λp=>ρ p.2)->v.cells.size=n)/\All2 (CR J w) ((ps.map λp=>ρ p.2).flatMap (·.cells.toList)) css.flatten
 | [], [],css,i,n,ρ,h,_,_=>by
   obtain rfl: []=css:=by simpa [JK] using h
   exact⟨rfl,rfl,by simp,.nil⟩
 | [],_::_,_,_,_,_,h,_,_=>by simp[JK] at h
 | _::_, [],_,_,_,_,h,_,_=>by simp[JK] at h
 | (j, x) ::ps,v::avs,css,i,n,ρ,h,hl,hv=>by
   simp only[JK] at h;cases a:zV i j with
   | false=>rw[a] at h;cases h
   | true =>
     rw[a] at h;obtain rfl:i=j:=by simpa using a
     simp only[uF] at h;split at h
     . rename_i cs r d e;obtain rfl:=zD h;simp only[DZ,zE,yH] at hl;cases hv with
       | cons f g=>
         obtain⟨k,l,m,o⟩:=Qfm e hl.2 g;have b:=Sg f d hl.1.2;have c:(ρ x).cells.size=n:=by have:=b.length;simp at this;omega
         refine⟨?_,by simp[l],λu hu=>?_, ?_⟩
         . simp only[yL,List.length_cons,List.range'_succ,List.zip_cons_cons,k]
         . simp only[yL,zM] at hu;rcases hu with rfl | hu
           . exact c
           exact m u hu
         simp only[yL,List.flatMap_cons,yF];exact b.append o
     cases h
def Inj.of(J:Inj):Y C->Y W
 | []=> []
 | .slc (.own O k) _ _::r=>J.L k++J.of r
 | _::r=>J.of r
theorem Qj2{X : Nat -> Prop}{w' : World}{v:H}{c:C}{p:PV}(h:CR J w v c)(a:Qvx c=U p)(e:∀b,J.F b->X b/\w'.heap[b]? =w.heap[b]?)(f:∀k,c.key=U k->∀b,b∈J.L k->X b/\w'.heap[b]? =w.heap[b]?):VV X w' v p:=by
 cases c with
 | int=>obtain rfl:=zD a;obtain⟨rfl,h⟩:=h;exact .int h
 | bool=>obtain rfl:=zD a;obtain rfl:=h;exact .bool _
 | str=>obtain rfl:=zD a;obtain⟨rfl,h⟩:=h;exact .str h
 | slc t n l=>
   obtain rfl:=zD a;cases t with
   | sh=>exact VV.keep e h
   | emp=>obtain⟨rfl,oa,rfl⟩:=h;exact .emp oa n (zX _)
   | vw k => exact VV.keep (fun b hb => by rcases hb with hb | hb
                                           . exact f k rfl b hb
                                           exact e b hb) h
   | own d k=>
     cases d with
     | true=>exact OwnDeep.vv h (f k rfl)
     | false=>exact OwnTop.vv h e (f k rfl)
   | put=>exact h.elim
 | raw u=>obtain rfl:=zD a;obtain⟨rfl,g,i⟩:=h;exact .raw g i
 | _=>cases a
theorem KX{X : Nat -> Prop}{w' : I}:∀{vs:Y H} {cs:Y C} {ps:Y PV},All2 (CR J w) vs cs->Np cs=U ps->(∀b,J.F b->X b/\w'.heap[b]? =w.heap[b]?)->(∀k,k∈Qy cs->∀b,b∈J.L k->X b/\w'.heap[b]? =w.heap[b]?)->VC X w' vs ps
 | _, _, ps, .nil, h, _, _ => by obtain rfl: []=ps:=by simpa [Np] using h
                                 exact .nil
 | _,_,ps,.cons (b:=c) h1 h2,h,hF,hL=>by
   simp only[Np] at h;split at h
   . rename_i p d e f;obtain rfl:=zD h;exact .cons (Qj2 h1 e hF λk a=>hL k (by simp[Qy,a])) (KX h2 f hF λk a=>hL k (by simp only[Qy];exact zF _ a))
   cases h
theorem Qte{w':I}{v:H}{c:C}{p:PV}(h:CR J w v c)(a:Qvx c=U p)(hd:Qs7 c=O)(i:∀k,c.key=U k->∀b,b∈J.L k->w'.heap[b]? =w.heap[b]?):∃L,OV w' L v p/\L.Nodup/\∀b,b∈L->b∈J.of [c]:=by
 cases c with
 | int=>obtain rfl:=zD a;obtain⟨rfl,h⟩:=h;exact⟨[],.int h,zO,λb hb=>by simp at hb⟩
 | bool=>obtain rfl:=zD a;obtain rfl:=h;exact⟨[],.bool _,zO,λb hb=>by simp at hb⟩
 | str=>obtain rfl:=zD a;obtain⟨rfl,h⟩:=h;exact⟨[],.str h,zO,λb hb=>by simp at hb⟩
 | slc t n l=>
   obtain rfl:=zD a;cases t with
   | emp=>obtain⟨rfl,oa,rfl⟩:=h;exact⟨[],.emp oa n,zO,λb hb=>by simp at hb⟩
   | own d k=>
     cases d with
     | true=>
       simp only[Inj.of,List.append_nil];obtain⟨L,e,f,g,_⟩:=h;exact⟨L,OV.keep e λb hb=>i k rfl b (g b hb),f,g⟩
     | false=>cases hd
   | _=>cases hd
 | raw u=>obtain rfl:=zD a;obtain⟨rfl,e,f⟩:=h;exact⟨[],.raw e f,zO,λb hb=>by simp at hb⟩
 | _=>cases a
theorem Inj.of_cons(J:Inj)(c:C)(r:Y C):J.of (c::r)=J.of [c]++J.of r:=by
 cases c with
 | slc t n l=>cases t with
   | own d k=>cases d<;>simp[Inj.of]
   | _=>simp[Inj.of]
 | _=>simp[Inj.of]
theorem PA{w' : World} : ∀ {vs : List H} {cs:Y C} {ps:Y PV},All2 (CR J w) vs cs->Np cs=U ps->Ru cs=O->(J.of cs).Nodup->(∀k,k∈Qy cs->∀b,b∈J.L k->w'.heap[b]? =w.heap[b]?)->∃L,OC w' L vs ps/\L.Nodup/\∀b,b∈L->b∈J.of cs
 | _, _, ps, .nil, h, _, _, _ => by obtain rfl: []=ps:=by simpa [Np] using h
                                    exact⟨[],.nil,zO,λb hb=>by simp at hb⟩
 | _, _,ps,.cons (b:=c) h1 h2,h,hd,hn,hL=>by
   simp only[Np] at h;simp only[Ru,zE] at hd;split at h
   . rename_i p i j l;obtain rfl:=zD h;rw[Inj.of_cons] at hn⊢;obtain⟨m,a,d⟩:=zH.1 hn;obtain⟨L1,n,o,f⟩:=Qte h1 j hd.1 λk e=>hL k (by simp[Qy,e])
     obtain⟨L2,q,r,g⟩:=PA h2 l hd.2 a λk e=>hL k (by simp only[Qy];exact zF _ e)
     refine⟨L1++L2,.cons n q,zH.2 ⟨o,r,λx s y t=>d x (f x s) y (g y t)⟩,λb hb=>?_⟩;rcases zK.1 hb with hb | hb
     . exact zG _ (f b hb)
     exact zF _ (g b hb)
   cases h
theorem ZN{J:Inj}:∀{cs:Y C} {b:W},b∈J.of cs->∃k,k∈Qy cs/\b∈J.L k
 | [],b,h=>by simp[Inj.of] at h
 | c :: r,b,h=>by
   rw[Inj.of_cons] at h;rcases zK.1 h with h | h
   . cases c with
     | slc t n l=>cases t with
       | own d k=>cases d with
         | true=>exact⟨k,by simp[Qy,C.key,Tok.key],by simpa [Inj.of] using h⟩
         | false=>simp[Inj.of] at h
       | _=>simp[Inj.of] at h
     | _=>simp[Inj.of] at h
   obtain⟨k,a,e⟩:=ZN h;exact⟨k,by simp only[Qy];exact zF _ a,e⟩
theorem Qr0{J:Inj}:∀{cs:Y C},Ru cs=O->(∀c,c∈cs->∃p,Qvx c=U p)->∀{k:W},k∈Qy cs->∀{b:W},b∈J.L k->b∈J.of cs
 | [],_,_,k,h,_,_=>by simp[Qy] at h
 | c :: r, hd,hp,k,h,b,hb=>by
   simp only[Ru,zE] at hd;simp only[Qy] at h;rw[Inj.of_cons];rcases zK.1 h with h | h
   . refine zG _ ?_;cases c with
     | slc t n l=>cases t with
       | own d f=>cases d with
         | true=>
           simp[C.key,Tok.key] at h;subst h;simpa [Inj.of] using hb
         | false=>cases hd.1
       | _=>simp_all [Qs7,C.key,Tok.key]
     | rptr t cs=>obtain⟨p,e⟩:=hp _ zL;cases e
     | ept d k n i o cs=>obtain⟨p,e⟩:=hp _ zL;cases e
     | _=>simp[C.key] at h
   exact zF _ (Qr0 hd.2 (λc a=>hp c (zJ _ a)) h hb)
theorem KY(h:Rel N w0 F0 J a w s):∀{cs:Y C},(Qy cs).Nodup->(J.of cs).Nodup
 | [],_=>by simp[Inj.of]
 | c :: r,hn=>by
   simp only[Qy] at hn;obtain⟨u,m,o⟩:=zH.1 hn;rw[Inj.of_cons];refine zH.2 ⟨?_,KY h m,λb hb v f e=>?_⟩
   . cases c with
     | slc t n l=>cases t with
       | own d k=>cases d with
         | true=>simpa [Inj.of] using h.nd k
         | false=>simp[Inj.of]
       | _=>simp[Inj.of]
     | _=>simp[Inj.of]
   subst e;obtain⟨k,j,p⟩:=ZN hb;obtain⟨q,g,i⟩:=ZN f;have:=h.dj k q b p i;subst this;simp[Qy] at j;exact o k (by simp[j]) k g rfl
theorem TG:∀{cs:Y C} {ps:Y PV},Np cs=U ps->∀c,c∈cs->∃p,Qvx c=U p
 | [],_,_,c,hc=>by simp at hc
 | x ::r,ps,h,c,hc=>by
   simp only[Np] at h;split at h
   . rename_i p a b d;rcases zM.1 hc with rfl | hc
     . exact⟨p,b⟩
     exact TG d c hc
   cases h
theorem TH : ∀ {css : List (List C)} {rows : Y (Y PV)} {n:W},TD css=U rows->DZ n css=O->Np css.flatten=U rows.flatten/\rows.length=css.length/\∀r,r∈rows->r.length=n
 | [], rows, n, h, _ => by obtain rfl: []=rows:=by simpa [TD] using h
                           exact⟨rfl,rfl,by simp⟩
 | cs :: css, rows,n,h,hl=>by
   simp only[TD] at h;simp only[DZ,zE,yH] at hl;split at h
   . rename_i p ps e1 e2;obtain rfl := Option.some.inj h;obtain⟨b,h2,f⟩:=TH e2 hl.2
     have happ :∀(cs a:Y C) (p d:Y PV),Np cs=U p->Np a=U d->Np (cs++a)=U (p++d)/\p.length=cs.length:=by
      intro cs
      induction cs with
      | nil => intro a p d b h2;obtain rfl: []=p:=by simpa [Np] using b
               exact⟨h2,rfl⟩
      | cons c cs g=>
        intro a p d b h2;simp only[Np] at b;split at b
        . rename_i q i j k;obtain rfl:=zD b;obtain⟨g1,e⟩:=g a i d k h2;exact⟨by simp[Np,j,g1],by simp[e]⟩
        cases b
     obtain⟨g1,e⟩:=happ cs css.flatten p ps.flatten e1 b
     exact ⟨g1, by simp [h2], fun r hr => by rcases zM.1 hr with rfl | hr
                                             . omega
                                             exact f r hr⟩
   cases h
theorem VC.rows{X:W->Prop}{w:I}{n:W}:∀{rows:Y (Y PV)} {vs:Y H},VC X w vs rows.flatten->(∀r,r∈rows->r.length=n)->VR X w n vs rows
 | [],vs,h,_=>by cases h;exact .nil n
 | r::rows,vs,h,hn=>by
   have c:=h.length;simp only[yF,yI] at c;have a:=h.take r.length;have b:=h.drop r.length;simp only[yF,yW,List.drop_left] at a b;rw[←yV r.length vs];exact .cons a (hn r zL) (VC.rows b λr d=>hn r (zJ _ d))
theorem OC.split{w:I}:∀{ps a:Y PV} {L:Y W} {vs:Y H},OC w L vs (ps++a)->∃L1 L2 c b,L=L1++L2/\vs=c++b/\OC w L1 c ps/\OC w L2 b a
 | [],a,L,vs,h=>⟨[],L, [],vs,rfl,rfl,.nil,h⟩
 | p ::ps,a,L,vs,h=>by
   generalize d:p::ps++a=q at h;cases h with
   | nil=>cases d
   | cons e f=>
     cases d
     obtain⟨L1,L2,c,b,rfl,rfl,g,i⟩:=OC.split f;exact⟨_,L2,_,b,(yG ..).symm,rfl,.cons e g,i⟩
theorem OC.rows{w:I}{n:W}:∀{rows:Y (Y PV)} {L:Y W} {vs:Y H},OC w L vs rows.flatten->(∀r,r∈rows->r.length=n)->OR w n L vs rows
 | [],L,vs,h,_=>by cases h;exact .nil n
 | r::rows,L,vs,h,hn=>by
   obtain⟨L1,L2,a,b,rfl,rfl,c,d⟩:=OC.split h;exact .cons c (hn r zL) (OC.rows d λr e=>hn r (zJ _ e))
theorem PB{b k:W}:∀{keys:Y W},get (UU b keys) k=if k∈keys then U (U (.vw b)) else S
 | []=>by simp[UU,get]
 | x::r=>by
   simp only[UU,get,PB (keys:=r),zM];by_cases a:x=k
   . simp[a]
   simp[a,λe=>a (Eq.symm e)];by_cases c:k=x
   . exact absurd c.symm a
   simp[c]
theorem A9{k:W}:∀{keys:Y W},get (Yz keys) k=if k∈keys then U (U .sh) else S
 | []=>by simp[Yz,get]
 | x::r=>by
   simp only[Yz,get,A9 (keys:=r),zM];by_cases a:x=k
   . simp[a]
   by_cases b:k=x
   . exact absurd b.symm a
   simp[a,b]
theorem Dc{k:W}:∀{keys:Y W},get (W5 keys) k=if k∈keys then U S else S
 | []=>by simp[W5,get]
 | x::r=>by
   simp only[W5,get,Dc (keys:=r),zM];by_cases a:x=k
   . simp[a]
   by_cases b:k=x
   . exact absurd b.symm a
   simp[a,b]
end
end
section
open Go.RowKit
section
variable {P:uC} {N:W} {w0:Base} {F0:W->Prop} {J:Inj} {a:Act} {w:I} {s:St}
theorem Ae{α:Type}{k a:W}{x:α}{l:Y (W×α)}(h:k≠a):get ((a,x)::l) k=get l k:=by
 simp only[get];rw[D λe=>h e.symm]
set_option maxHeartbeats 1000000 in
theorem Qo5{tt:Y (W×TI)}(ad:S6 P tt=O){bn:Y (W×Y C)}{o:Oper}{ap:Y AV}{r:Res}{obs:Y Ob}(h:Qtc tt bn o.dst o.op ap=U (r,obs))(y:∀d,o.dst=U d->d<N)
 (f:Rel N w0 F0 J a w s) (aq:All2 (λx v=>IY s x=U v) o.op.operands.toList ap) (ar:∀k c,get bn k=U c->get s.bx k=U c) {K:Act->I->Prop} {Q:Exit->Act->I->Prop}
 (hK:∀J' a' w',Rel N w0 F0 J' a' w' (s.step o.dst r)->K a' w'):o.wp P a w K Q:=by
 have hv:=Gl f aq;generalize ho:o.op=op at h hv;generalize hd:o.dst=b2 at h;unfold Qtc at h;split at h
 ·rename_i t;split at h
  . rename_i d ti hg;cases m:Cp XC ti.zero with
    | false=>rw[m] at h;cases h
    | true=>
      rw[m] at h;obtain⟨rfl,rfl⟩:(⟨.one (.ptr d 0), [],U d,U (d,ti.zero)⟩:Res)=r/\ []=obs:=by simpa using h
      obtain⟨ah,z,hi,_,_,hz,_,au⟩:=(Ji ad hg).info;refine An (v:= .pointer (U ⟨w.heap.size,0,S⟩)) (w':=w.alloc (.cells z.cells t (0,0))) (by simp[execOp,ho,Instr.alloc,zeroValue,A4 hi,hz,newVar,newRow]) ?_;rw[hd] at hK⊢;exact hK _ _ _ (f.alloc d (y d hd) z.cells t ti.zero m (OX au))
  cases h
 ·rename_i t px v;split at h
  . rename_i d cs ai;cases m:(Dx cs&&Cp XC cs) with
    | false=>rw[m] at h;cases h
    | true=>
      rw[m] at h;obtain⟨rfl,rfl⟩:(⟨.one (.ptr d 0), [],U d,U (d,cs)⟩:Res)=r/\ []=obs:=by simpa using h
      simp only[zE] at m;cases hv with
      | cons h1 _=>
        have a8:=Sg h1 ai m.1;refine An (v:= .pointer (U ⟨w.heap.size,0,S⟩)) (w':=w.alloc (.cells (a.eval px).cells t (0,0))) (by simp[execOp,ho,Instr.box,newVar,newRow]) ?_;rw[hd] at hK⊢;exact hK _ _ _ (f.alloc d (y d hd) _ t cs m.2 a8)
  cases h
 ·rename_i t px py k off v;split at h
  . rename_i ti cells cs hg j ai;cases m:(zV cs.length ti.size&&Dx cs&&yK (off+ti.size) cells.length) with
    | false=>rw[m] at h;cases h
    | true =>
      rw[m] at h;obtain⟨rfl,rfl⟩:(⟨.one .dead, [],S,U (k,cells.take off++cs++cells.drop (off+ti.size))⟩:Res)=r/\ []=obs:=by simpa using h
      simp only[zE,yH,Nat.ble_eq] at m;obtain⟨⟨c1,c2⟩,c3⟩:=m;cases hv with
      | cons h1 h2=>
        cases h2 with
        | cons h2 _=>
          have e1:a.eval px= .pointer (U ⟨J.B k,off,S⟩):=h1;have a8:=Sg h2 ai c2;obtain⟨_,_,_,a7,e,a5,a9⟩:=f.bo k cells (ar k cells j);have hn:(a.eval py).cells.toList.length=ti.size:=by rw[a8.length,c1]
          have av:off+(a.eval py).cells.toList.length<=a7.size:=by have:=a9.length;simp at this hn⊢;omega
          have aw:=run_storeCells_at P (J.B k) off e (a.eval py).cells.toList 0 a7 w a5 (by simpa using av) (XD a8 c2);simp only[xA] at aw;have a6:=Cu (P:=P) (Ji ad hg) w
          have a4:(execOp a.eval o).run P w= .ok .skip (w.setRow (J.B k) (a7.toList.take off++(a.eval py).cells.toList++a7.toList.drop (off+(a.eval py).cells.toList.length)).toArray):=by
           have b3:(a.eval py).cells.size=ti.size:=by simpa using hn
           simp only[execOp,ho,Instr.storeAt,e1,Instr.sureAddr,storeVar,Sem.run_bind,Sem.run_pure,Result.andThen_ok,a6,b3];simp[aw]
          refine UV a4 (hK J _ _ ?_);rw[hd];refine f.store b2 (λd e=>y d (hd.trans e)) k cells _ (ar k cells j) a7 _ e a5 (setRow_heap w (J.B k) a7 _ e (0,0) a5) (λb hb=>setRow_other w (J.B k) b _ hb) rfl rfl rfl (by simp[World.setRow]) ?_ undef;rw[hn];exact((a9.take off).append a8).append (a9.drop _)
  cases h
 ·rename_i t len ps;split at h
  . rename_i d e n0 z0 q0 g hg b4;split at h
    . rename_i ei rows b5 aj;cases m:(zV g.length len&&DZ ei.size g&&yK (len*ei.size) 1000&&yO 0 ei.size&& !(S7 (64*d) (Qy g.flatten))&&C3 (Qy g.flatten)) with
      | false=>rw[m] at h;cases h
      | true =>
        rw[m] at h;simp only[uF] at h;simp only[zE,yH,Nat.ble_eq,yZ,zT] at m;obtain⟨⟨⟨⟨⟨c1,c2⟩,c3⟩,c4⟩,c5⟩,c6⟩:=m;have ax:64*d∉Qy g.flatten:=λhm=>by rw[Fg.2 hm] at c5;cases c5
        have ay:=Fh.1 c6;obtain⟨ae,ak,al⟩:=TH aj c2;obtain⟨p1,p2,p3,p4⟩:=Qfm b4 c2 (by simpa [Op.operands] using hv);have hu:=(Ji ad hg).sli;obtain⟨ah,z,hi,a6,bc,hz,bd,au⟩:=(Ji ad b5).info
        have am:∃zc:uE H,zc.size=len*ei.size/\∀(l:uE (W×H)) (cells:uE H),Instr.fill (λi=>U (i*ei.size,ei.size)) zc l.toList=U cells->
         (Instr.buildSlice t len l).run P w= .ok (.slice (U ⟨w.heap.size,0,S⟩) len len) (w.alloc (.cells cells e (0,0))):=by
         have az:¬(len*ei.size>2^24):=by omega
         by_cases h0:len*ei.size=0
         . refine⟨#[],by simp[h0],λl cells hf=>?_⟩;have b6:len*ah.size=0:=by rw[a6];exact h0
           rw[←a6] at hf;have b7:Array.map (λ_=>(default:H)) (Array.range 0)= #[]:=by apply Array.eq_empty_of_size_eq_zero;simp
           simp[Instr.buildSlice,run_underlying hu,sizeOf,A4 hi,b6,b7,hf,newRow]
         refine⟨(Array.range (len*ei.size)).map (z.cells[· % z.cells.size]!),by simp,λl cells hf=>run_buildSlice w t e len l cells ah z hu hi hz (by rw[a6];exact az) (by rw[a6];exact h0) ?_⟩;rw[a6];exact hf
        obtain⟨zc,b8,a4⟩:=am;have af:(ps.toList.map λp=>a.eval p.2).length=len:=by simp;rw[←c1,←p2];simp
        obtain⟨out,b9,b1⟩:=Qfl (n:=ei.size) (ps.toList.map λp=>a.eval p.2) 0 zc p3 (by rw[b8,af,yR])
        have an:Instr.fill (λi=>U (i*ei.size,ei.size)) zc ((ps.map λ(i,x)=>(i,a.eval x)).toList)=U out:=by
         have e9:(ps.map λ(i,x)=>(i,a.eval x)).toList=(ps.toList.map λp=>(p.1,a.eval p.2)):=by simp
         rw[e9,p1,show g.length=(ps.toList.map λp=>a.eval p.2).length by rw[af,c1]];exact b9
        have a4:=a4 _ _ an;simp only[xB,List.take_zero,List.nil_append] at b1
        have ao:(execOp a.eval o).run P w= .ok (.value (.slice (U ⟨w.heap.size,0,S⟩) len len)) (w.alloc (.cells out e (0,0))):=by
         simp only[execOp,ho,Sem.run_bind,a4,Result.andThen_ok,Sem.run_pure]
        refine An ao ?_;rw[hd] at hK⊢;have hw:∀b,b<w.heap.size->(w.alloc (.cells out e (0,0))).heap[b]? =w.heap[b]? :=λb hb=>Below.heap_alloc w _ b hb
        have ag:(w.alloc (.cells out e (0,0))).heap[w.heap.size]? =U (.cells out e (0,0)):=heap_alloc_new w _;have be:(w.alloc (.cells out e (0,0))).heap.size=w.heap.size+1:=by simp
        rw[←b1] at p4
        have aa:out.size=len*ei.size:=by
         have:=p4.length;have h3:=KX (X:=λ_=>True) (w':=w) p4 ae (λb _=>⟨trivial,rfl⟩) (λk _ b _=>⟨trivial,rfl⟩);have h4:=(VC.rows h3 al).length;simp at h4;rw[h4,ak,c1]
        have ab:out.toList.take (rows.length*ei.size)=out.toList:=yD (by rw[ak,c1,←aa];simp)
        have ba:len<=1073741824:=by
         have:len<=len*ei.size:=Nat.le_mul_of_pos_right _ c4;exact yP (yP this c3) (by decide)
        have bb:len<=uH:=yP ba (by decide);have q:rows.length=len:=ak.trans c1;cases u:Ru g.flatten with
        | true=>
          rw[u] at h;obtain⟨rfl,rfl⟩:(⟨.one (.slc (.own O (64*d)) ei.size rows),(64*d,S)::UU (64*d) (Qy g.flatten),S,S⟩:Res)=r/\ []=obs:=by simpa using h
          refine hK ⟨J.F,λk=>if k=64*d then w.heap.size::J.of g.flatten else if k∈Qy g.flatten then [] else J.L k,J.B⟩ _ _ (f.grab (U d) (λd' e=>by cases e;exact y d hd) _ _ (64*d) (Qy g.flatten) rfl rfl (f.below.alloc f.below.size _) (by omega) rfl (λk j=>D j)
           (λb hb=>hb) (λb hb=> .inl hb) (λk j hn=>by rw[Ae hn,PB,D j]) (λ_=>by simp[get]) (λk j=> .inr (.inr ⟨?_,λb hb=>⟨.inl ?_,hw b (f.lo k b hb).2.1⟩⟩)) (λb hb _=>hw b hb) ?_ (λb hb=>?_) (λ_=>?_))
          . rw[Ae (λe:k=64*d=>ax (e▸j)),PB,uB j]
          . simp only[if_true];exact zJ _ (Qr0 u (λc m=>TG ae c m) j hb)
          . simp only[if_true];refine zQ.2 ⟨λhm=>?_,KY f ay⟩;obtain⟨k,_,hm⟩:=ZN hm;have:=(f.lo k _ hm).2.1;omega
          . simp only[if_true,zM] at hb;rcases hb with rfl | hb
            . exact⟨by omega,.inl (zR _)⟩
            obtain⟨k,j,hm⟩:=ZN hb;exact⟨by have:=(f.lo k b hm).2.1;omega,.inr ⟨k,j,hm⟩⟩
          show OwnDeep _ _ _ _ _;simp only[if_true];rw[←q];obtain⟨L,a1,a2,a3⟩:=PA p4 ae u (KY f ay) λk _ b hb=>hw b (f.lo k b hb).2.1
          refine⟨w.heap.size::L,.slc ag (by rw[aa,q]) ?_ (zR _) ⟨by omega,by omega⟩,zQ.2 ⟨λhm=>?_,a2⟩,λb hb=>?_,.inr ⟨_,_,_,rfl,rfl⟩⟩
          . rw[ab];exact OC.rows a1 al
          . obtain⟨k,_,hm⟩:=ZN (a3 _ hm);have:=(f.lo k _ hm).2.1;omega
          rcases zM.1 hb with rfl | hb
          . exact zL
          exact zJ _ (a3 b hb)
        | false=>
          rw[u] at h;obtain⟨rfl,rfl⟩:(⟨.one (.slc (.own E (64*d)) ei.size rows),(64*d,S)::Yz (Qy g.flatten),S,S⟩:Res)=r/\ []=obs:=by simpa using h
          refine hK ⟨λb=>J.F b\/∃k,k∈Qy g.flatten/\b∈J.L k,λk=>if k=64*d then [w.heap.size] else if k∈Qy g.flatten then [] else J.L k,J.B⟩ _ _ (f.grab (U d) (λd' e=>by cases e;exact y d hd) _ _ (64*d) (Qy g.flatten) rfl rfl (f.below.alloc f.below.size _) (by omega) rfl (λk j=>D j)
           (λb hb=> .inl hb) (λb hb=>hb.imp id λj=>⟨j, ?_⟩) (λk j hn=>by rw[Ae hn,A9,D j]) (λ_=>by simp[get]) (λk j=> .inr (.inl ⟨?_,λb hb=>⟨.inr ⟨k,j,hb⟩,hw b (f.lo k b hb).2.1⟩⟩)) (λb hb _=>hw b hb) (by simp) (λb hb=>?_) (λ_=>?_))
          . obtain⟨k,_,hm⟩:=j;have:=(f.lo k b hm).2.1;simp only[if_true,yE];omega
          . rw[Ae (λe:k=64*d=>ax (e▸j)),A9,uB j]
          . simp only[if_true,yE] at hb;exact⟨by omega,.inl (by omega)⟩
          show OwnTop _ _ _ _ _ _;refine .inr ⟨w.heap.size,len,out,e,by simp,by rw[q],ag,aa, ?_,by omega,bb,by omega⟩;rw[ab];exact VC.rows (KX p4 ae (λb hb=>⟨.inl hb,hw b (f.fl b hb).1⟩) λk j b hb=>⟨.inr ⟨k,j,hb⟩,hw b (f.lo k b hb).2.1⟩) al
    cases h
  cases h
 cases h
end
end
section
open Go.RowKit
def nOk(t:Tok)(n a:W):uD:=match t with
 | .emp=>O
 | _=>zV n a
def Qfn:Tok->uA (Y W×uD)
 | .emp=>U ([],O)
 | .own d k=>U ([k],d)
 | _=>S
def XE(flat:uD):Tok->Y W×uD
 | .emp=>([],O)
 | .sh=>([],flat)
 | .own d k=>bif flat then([],O) else([k],d)
 | .vw k=>bif flat then([],O) else([k],E)
 | .put _ _ _ _ _=>([],E)
def ZO:Orc->uD
 | .flat=>O
 | _=>E
def Qtf(tt:Y (W×TI))(a:Orc)(b:uA W):Op->Y AV->uA (Res×Y Ob)
 | .call ⟨.builtin .append,_,tys⟩, [.one (.slc t1 n1 l1),.one (.slc t2 n2 l2)]=>
   (match tys.toList with
   | [t,t']=>(match b,get tt t,Qfn t1 with
   | some d,U ⟨.sli e,_,_,_⟩,U (g1,d1)=>(match get tt e with
     | some ei=>bif zV t t'&&yO 0 ei.size&&nOk t1 n1 ei.size&&nOk t2 n2 ei.size&& !(S7 (64*d) (g1++(XE (ZO a) t2).1))&&C3 (g1++(XE (ZO a) t2).1) then
      U (⟨.one (.slc (.own (d1&&(XE (ZO a) t2).2) (64*d)) ei.size (l1++l2)),(64*d,S)::(W5 g1++(bif d1&&(XE (ZO a) t2).2 then W5 (XE (ZO a) t2).1 else Yz (XE (ZO a) t2).1)),S,S⟩,
       .len (l1.length+l2.length)::(bif ZO a then [.flat l2] else []))
       else S
     | none=>S)
   | _,_,_=>S)
   | _=>S)
 | _,_=>S
section
variable {P:uC} {N:W} {w0:Base} {F0:W->Prop} {J:Inj} {a:Act} {w:I} {s:St}
theorem MI{t e ty:uG}{h:TI}(hu:P.underlying t=U (.slice e))(a6:TiOk P e h)(hn:0<h.size){q:uA Addr}{c Sn:W}{d:Y H}(s:d.length=Sn*h.size)
 (a2:∀ad,q=U ad->∀(j:W) (u:H),d[j]? =U u->w.cell? (ad.add j)=U u) (v:q=S->Sn=0)
 (a3:c=0\/∃g cur e0,q=U ⟨g,0,S⟩/\w.heap[g]? =U (.cells cur e0 (0,0))/\cur.size=c*h.size/\cur.toList.take (Sn*h.size)=d) (ag:Sn<=c)
 {v2:H} {LD:W} {a:Y H} (hs:Src P h.size t v2 LD a w) (af:Sn+LD<=1073741824) (r:c=0->0<LD) (a7:c<=uH):
 ∃ x i l e' w',(Builtin.append_ #[t,t] ty #[.slice q Sn c,v2]).run P w= .ok (.slice (U ⟨x,0,S⟩) (Sn+LD) i) w'/\w'.heap[x]? =U (.cells l e' (0,0))/\l.size=i*h.size/\
   l.toList.take ((Sn+LD)*h.size)=d++a/\Sn+LD<=i/\i<=uH/\w'.os=w.os/\w'.tape=w.tape/\w'.output=w.output/\w.heap.size<=w'.heap.size/\
   ((∃cur e0,q=U ⟨x,0,S⟩/\w.heap[x]? =U (.cells cur e0 (0,0))/\c≠0/\∀b,b≠x->w'.heap[b]? =w.heap[b]?)\/(x=w.heap.size/\x<w'.heap.size/\∀b,b<w.heap.size->w'.heap[b]? =w.heap[b]?)):=by
 obtain⟨k,z,hi,m,a8,hz,a9,_⟩:=a6.info;have n:(d++a).length=(Sn+LD)*h.size:=by rw[yI,s,hs.newsLen,zZ]
 by_cases f:Sn+LD<=c
 . rcases a3 with h0 | ⟨g,cur,e0,rfl,hg,aa,ab⟩
   . have:=r h0;omega
   have a4:∀j,j<a.length->Sn*h.size+j<cur.size:=λj hj=>by
    have:=zS h.size f;rw[zZ,←hs.newsLen] at this;omega
   have hr:=run_append_room_src (P:=P) w t t ty e k hu hi g 0 Sn c v2 LD a (by rw[m];exact hs) f (λj hj=>by
    rw[m];simp[World.cell?,hg,a4 j hj]) (λj hj=>by simp[World.frozen?,hg])
   rw[m,yR] at hr;refine⟨g,c,putCells cur (Sn*h.size) a,e0,_,hr,Hb g a _ w hg,by rw[Us];exact aa, ?_,f,a7, ?_, ?_, ?_,by rw[Db];exact zR _,.inl ⟨cur,e0,rfl,hg, ?_,λb hb=>Wp g hb a _ w⟩⟩
   . have y:Sn*h.size+a.length<=cur.size:=by
      have:=zS h.size f;rw[zZ,←hs.newsLen] at this;omega
     rw[B7 y,ab,←n,yW]
   . exact(below_setCells' g a _ w).1
   . exact(below_setCells' g a _ w).2.1
   . exact(below_setCells' g a _ w).2.2
   intro e;have:=r e;omega
 have a5:c<Sn+LD:=by omega
 have o:(Builtin.firstCells k.size Sn (.slice q Sn c)).run P w.drew= .ok d.toArray w.drew:=by
  cases q with
  | none=>
    have h0:=v rfl;subst h0;have:d= []:=zU (by rw[s];simp);subst this;exact run_firstCells_none w.drew k.size 0 0 c
  | some ad=>exact run_firstCells_some w.drew k.size Sn ad Sn c d (by rw[m];exact s) (by simpa using a2 ad rfl)
 have p:((Sn+LD)+(Sn+LD) / 4+192)*k.bytes<=281474976710656:=yP (Nat.mul_le_mul (show _<=1342177472 by omega) a8) (by decide);have hr:=run_append_grow_src (P:=P) w t t ty e k z hu hi hz q Sn c d o v2 LD a (by rw[m];exact hs) a5 (by omega) (growslice_fits_wide a5 p);have ae:=grownCap_ge w (Sn+LD) c e;have a1:=grownCap_le_maxLen w (Sn+LD) c e (by unfold uH;omega);refine⟨w.heap.size,_,_,e,_,hr,heap_alloc_new w.drew _, ?_, ?_,ae,a1,rfl,rfl,rfl,by simp,.inr ⟨rfl,by simp,λb hb=>heap_alloc_old w.drew _ hb⟩⟩
 . simp only[Array.size_append,List.size_toArray,size_zeroCells,a9,n,←zZ]
   congr 1
   omega
 simp only[Array.toList_append];rw[←n,yC (by simp),yD (by simp)]
where
 below_setCells' (g:W):∀(vs:Y H) (o:W) (w:I),(w.setCells g o vs).os=w.os/\(w.setCells g o vs).tape=w.tape/\(w.setCells g o vs).output=w.output
  | [],_,_=>⟨rfl,rfl,rfl⟩
  | v::vs,o,w=>by
    have:=below_setCells' g vs (o+1) (w.setCell ⟨g,o,S⟩ v);exact this
end
end
section
open Go.RowKit
section
variable {P:uC} {A:W->Y AV->AV->Prop} {T:TakeT} {N:W} {w0:Base} {F0:W->Prop} {J:Inj} {a:Act} {w:I} {s:St}
theorem Si{w:I}{g:W}{a:uE H}{e:uG}(c:w.heap[g]? =U (.cells a e (0,0)))(m:W):∀(j:W) (u:H),(a.toList.take m)[j]? =U u->w.cell? (Addr.add ⟨g,0,S⟩ j)=U u:=by
 intro j u b;rw[List.getElem?_take] at b;split at b
 . rw[yJ] at b;simp[World.cell?,c,b,Addr.add_lit]
 cases b
theorem Qtg(h:Rel N w0 F0 J a w s){t:Tok}{f n:W}{l1:Y (Y PV)}{x:H}{q:Y W}{d1:uD}(i:CR J w x (.slc t f l1))(hd:Qfn t=U (q,d1))(hn:nOk t f n=O):
 ∃(oa:uA Addr) (cap:W) (olds:Y H) (L:Y W),x= .slice oa l1.length cap/\olds.length=l1.length*n/\(∀v,oa=U v->∀(j:W) (u:H),olds[j]? =U u->w.cell? (v.add j)=U u)/\(oa=S->l1.length=0)/\
   (cap=0\/∃g cur e0,oa=U ⟨g,0,S⟩/\w.heap[g]? =U (.cells cur e0 (0,0))/\cur.size=cap*n/\cur.toList.take (l1.length*n)=olds)/\l1.length<=cap/\cap<=uH/\
   (∀g,oa=U ⟨g,0,S⟩->cap≠0->(∃k,k∈q/\g∈J.L k)/\g∉L)/\
   VR (λb=>J.F b\/b∈L) w n olds l1/\(d1=O->OR w n L olds l1)/\L.Nodup/\∀b,b∈L->∃k,k∈q/\b∈J.L k:=by
 cases t with
 | sh=>cases hd
 | vw k=>cases hd
 | put=>cases hd
 | emp=>
   obtain⟨rfl,rfl⟩: []=q/\O=d1:=by simpa [Qfn] using hd
   obtain⟨rfl,oa,rfl⟩:=i;exact⟨oa,0, [], [],rfl,by simp,by simp,λ_=>rfl,.inl rfl,zR _,zX _,λ_ _ h=>absurd rfl h,.nil n,λ_=> .nil n,by simp,by simp⟩
 | own d k=>
   obtain⟨rfl,rfl⟩: [k]=q/\d=d1:=by simpa [Qfn] using hd
   obtain rfl:f=n:=by simpa [nOk] using hn
   have c:=h.nd k;cases d with
   | true=>
     obtain⟨L0,i,c,m,_⟩:=i;generalize y:PV.slc f l1=p at i;cases i with
     | int | bool | str | any | raw=>cases y
     | emp oa n'=>
       cases y
       exact⟨oa,0, [], [],rfl,by simp,by simp,λ_=>rfl,.inl rfl,zR _,zX _,λ_ _ h=>absurd rfl h,.nil f,λ_=> .nil f,by simp,by simp⟩
     | @slc g cap n' cur e L l r z o h1 h2=>
       cases y
       have c:=zQ.1 c;refine⟨U ⟨g,0,S⟩,cap,_,L,rfl,o.length,λv e=>(by cases e;exact Si r _),(λe=>by cases e),.inr ⟨g,cur,_,rfl,r,z,rfl⟩,h1,h2.1,λg' e _=>?_,o.vr λb hb=> .inr hb,λ_=>o,c.2,λb hb=>⟨k,by simp,m b (zJ _ hb)⟩⟩;cases e
       exact⟨⟨k,by simp,m _ zL⟩,c.1⟩
   | false=>
     have i:OwnTop J.F (J.L k) w x f l1:=i;rcases i with⟨rfl,oa,rfl⟩ | ⟨g,cap,cur,e,hL,rfl,r,z,o,h1,h2⟩
     . exact⟨oa,0, [], [],rfl,by simp,by simp,λ_=>rfl,.inl rfl,zR _,zX _,λ_ _ h=>absurd rfl h,.nil f,(λh=>by cases h),by simp,by simp⟩
     refine⟨U ⟨g,0,S⟩,cap,_, [],rfl,o.length,λv e=>(by cases e;exact Si r _),(λe=>by cases e),.inr ⟨g,cur,e,rfl,r,z,rfl⟩,h1,h2.1,λg' e _=>?_,o.keep λb hb=>⟨.inl hb,rfl⟩,(λe=>by cases e),by simp,by simp⟩;cases e
     exact⟨⟨k,by simp,by rw[hL];simp⟩,by simp⟩
theorem VC.ones{X:W->Prop}{w:I}:∀{vs:Y H} {ps:Y PV},VC X w vs ps->∀u,u∈vs->u.oneCell'=O
 | _,_,.nil,u,hu=>by simp at hu
 | _, _,.cons h1 a,u,hu=>by
   rcases zM.1 hu with rfl | hu
   . cases h1 with
     | any _ a=>exact a
     | raw _ a=>exact a
     | _=>rfl
   exact VC.ones a u hu
theorem VR.ones{X:W->Prop}{w:I}:∀{n:W} {cs:Y H} {l:Y (Y PV)},VR X w n cs l->∀u,u∈cs->u.oneCell'=O
 | _,_,_,.nil _,u,hu=>by simp at hu
 | _,_,_,.cons h1 h2 h3,u,hu=>(zK.1 hu).elim (VC.ones h1 u) (VR.ones h3 u)
theorem Qfo{X:W->Prop}{n:W}{l:Y (Y PV)}{v:H}{t e:uG}(b:P.underlying t=U (.slice e))(h:VV X w v (.slc n l)):∃a,Src P n t v l.length a w/\VR X w n a l:=by
 generalize c:PV.slc n l=p at h;cases h with
 | int | bool | str | any | raw=>cases c
 | @emp oa cap n' hcap=>
   cases c
   cases oa with
   | none=>exact⟨[],Src.ofNil w b cap,.nil n⟩
   | some f=>exact⟨[],Src.ofSlice w b f 0 cap [] (by simp) (by simp) (by simp),.nil n⟩
 | slc hb g d k m=>
   cases c
   exact⟨_,Src.ofSlice w b _ _ _ _ d.length (λj u i=>by rw[Addr.add_lit];exact g j u i) d.ones,d⟩
theorem Qv5(h:Rel N w0 F0 J a w s){t e:uG}(q:P.underlying t=U (.slice e)){fl:uD}{v:Tok}{o n:W}{l2:Y (Y PV)}{x:H}(m:CR J w x (.slc v o l2))(hn:nOk v o n=O)(a1:fl=O->Ms l2):
 ∃(c:Y H) (L:Y W),Src P n t x l2.length c w/\((XE fl v).2=O->OR w n L c l2)/\L.Nodup/\(∀b,b∈L->∃k,k∈(XE fl v).1/\b∈J.L k)/\
   ((fl=O->∀w',OR w' n [] c l2)/\(fl=O->L= []))/\(fl=E->VR (λb=>J.F b\/∃k,k∈(XE fl v).1/\b∈J.L k) w n c l2):=by
 have i:∀X,fl=O->VV X w x (.slc n l2)->∃c,Src P n t x l2.length c w/\∀w',OR w' n [] c l2:=λX hf hv=>by
  obtain⟨c,j,f⟩:=Qfo q hv;exact⟨c,j,λw'=>f.orr (a1 hf)⟩
 cases v with
 | emp=>
   obtain⟨rfl,oa,rfl⟩:=m
   have z:Src P n t (.slice oa 0 0) 0 [] w:=by
    cases oa with
    | none=>exact Src.ofNil w q 0
    | some ad=>exact Src.ofSlice w q ad 0 0 [] (by simp) (by simp) (by simp)
   exact⟨[], [],z,λ_=> .nil n,by simp,by simp,⟨λ_ _=> .nil n,λ_=>rfl⟩,λ_=> .nil n⟩
 | sh =>
   obtain rfl:o=n:=by simpa [nOk] using hn
   cases fl with
   | true=>
     obtain⟨c,j,f⟩:=i _ rfl m;exact⟨c, [],j,λ_=>f w,by simp,by simp,⟨λ_=>f,λ_=>rfl⟩,λh=>by cases h⟩
   | false=>
     obtain⟨c,j,f⟩:=Qfo (P:=P) q (X:=J.F) m;exact⟨c, [],j,(λh=>by simp[XE] at h),by simp,by simp,⟨(λh=>by cases h),λ_=>rfl⟩,λ_=>f.keep λb hb=>⟨.inl hb,rfl⟩⟩
 | put=>exact m.elim
 | vw k=>
   obtain rfl:o=n:=by simpa [nOk] using hn
   cases fl with
   | true=>
     obtain⟨c,j,f⟩:=i _ rfl m;exact⟨c, [],j,λ_=>f w,by simp,by simp,⟨λ_=>f,λ_=>rfl⟩,λh=>by cases h⟩
   | false=>
     obtain⟨c,j,f⟩:=Qfo (P:=P) q (X:=J.X (.vw k)) m;exact⟨c, [],j,(λh=>by simp[XE] at h),by simp,by simp,⟨(λh=>by cases h),λ_=>rfl⟩,λ_=>f.keep λb hb=>⟨hb.elim (λh=> .inr ⟨k,by simp[XE],h⟩) .inl,rfl⟩⟩
 | own d k =>
   obtain rfl:o=n:=by simpa [nOk] using hn
   cases fl with
   | true=>
     have:∃X,VV X w x (.slc o l2):=by
      cases d with
      | true=>exact⟨_,OwnDeep.vv (X:=λ_=>True) m λ_ _=>⟨trivial,rfl⟩⟩
      | false=>exact⟨_,OwnTop.vv (X:=λ_=>True) m (λ_ _=>⟨trivial,rfl⟩) λ_ _=>⟨trivial,rfl⟩⟩
     obtain⟨X,hX⟩:=this;obtain⟨c,j,f⟩:=i _ rfl hX;exact⟨c, [],j,λ_=>f w,by simp,by simp,⟨λ_=>f,λ_=>rfl⟩,λh=>by cases h⟩
   | false =>
     cases d with
     | false=>
       obtain⟨c,j,f⟩:=Qfo (P:=P) q (X:=λb=>J.F b\/b∈J.L k) (OwnTop.vv m (λ_ hb=>⟨.inl hb,rfl⟩) λ_ hb=>⟨.inr hb,rfl⟩);exact⟨c, [],j,(λh=>by simp[XE] at h),by simp,by simp,⟨(λh=>by cases h),λ_=>rfl⟩,λ_=>f.keep λb hb=>⟨hb.imp id λh=>⟨k,by simp[XE],h⟩,rfl⟩⟩
     | true=>
       have r:=h.nd k;obtain⟨L0,m,r,u,_⟩:=m;generalize hp:PV.slc o l2=p at m;cases m with
       | int | bool | str | any | raw=>cases hp
       | emp oa n'=>
         cases hp
         have z:Src P o t (.slice oa 0 0) 0 [] w:=by
          cases oa with
          | none=>exact Src.ofNil w q 0
          | some ad=>exact Src.ofSlice w q ad 0 0 [] (by simp) (by simp) (by simp)
         exact⟨[], [],z,λ_=> .nil o,by simp,by simp,⟨(λh=>by cases h),λ_=>rfl⟩,λ_=> .nil o⟩
       | @slc g cap n' cur e L l hg z hr j f=>
         cases hp
         have r:=zQ.1 r;have y:VR (λb=>J.F b\/∃k',k'∈ [k]/\b∈J.L k') w o (cur.toList.take (l2.length*o)) l2:=hr.vr λb hb=> .inr ⟨k,by simp,u b (zJ _ hb)⟩
         refine⟨_,L,Src.ofSlice w q ⟨g,0,S⟩ l2.length cap _ hr.length (Si hg _) y.ones,λ_=>hr,r.2,λb hb=>⟨k,by simp[XE],u b (zJ _ hb)⟩,⟨(λh=>by cases h),(λh=>by cases h)⟩,λ_=>?_⟩;simpa [XE] using y
theorem Qdb{t e i:uG}{d:TI}(j:P.underlying t=U (.slice e))(a:TiOk P e d){b:uA Addr}{f:H}(g:Src P d.size t f 0 [] w):
 (Builtin.append_ #[t,t] i #[.slice b 0 0,f]).run P w= .ok (.slice b 0 0) w:=by
 obtain⟨k,z,l,c,m,p,n,_⟩:=a.info;have o:=g.len w;have h:=g.cells;rw[←c] at h;cases b<;>simp[Builtin.append_,run_underlying j,sizeOf,A4 l,o,h,storeCells]
theorem UW{α:Type}{k:W}:∀{l r:Y (W×α)},get (l++r) k=(match get l k with | some x=>U x | none=>get r k)
 | [],r=>rfl
 | (x,y)::l,r=>by
   simp only[List.cons_append,get];split
   . rfl
   exact UW
set_option maxHeartbeats 2000000 in
theorem Qo6{tt : List (W×TI)}(b5:S6 P tt=O){af:Orc}{o:Oper}{b6:Y AV}{r:Res}{b7:Y Ob}(h:Qtf tt af o.dst o.op b6=U (r,b7))(bt:AllOb A T b7)(a5:∀d,o.dst=U d->d<N)
 (c:Rel N w0 F0 J a w s) (b8:All2 (λx v=>IY s x=U v) o.op.operands.toList b6) {K:Act->I->Prop} {Q:Exit->Act->I->Prop}
 (hK:∀J' a' w',Rel N w0 F0 J' a' w' (s.step o.dst r)->K a' w'):o.wp P a w K Q:=by
 have hv:=Gl c b8;generalize ho:o.op=op at h hv;generalize hd:o.dst=ci at h;unfold Qtf at h;split at h
 . rename_i args tys t1 n1 l1 t2 n2 l2;split at h
   rotate_left
   . cases h
   rename_i t t' b9;obtain rfl:tys= #[t,t']:=yS (by simpa using b9);split at h
   . rename_i d e n0 z0 q0 g1 d1 hg au;split at h
     . rename_i ei hge;generalize hS:XE (ZO af) t2=i at h;cases hc:(zV t t'&&yO 0 ei.size&&nOk t1 n1 ei.size&&nOk t2 n2 ei.size&& !(S7 (64*d) (g1++i.1))&&C3 (g1++i.1)) with
       | false=>rw[hc] at h;cases h
       | true =>
         rw[hc] at h;simp only[uF,zN,zP] at h;obtain⟨rfl,rfl⟩:=h;simp only[zE,yH,yZ,zT] at hc;obtain⟨⟨⟨⟨⟨rfl,c2⟩,c3⟩,c4⟩,c5⟩,c6⟩:=hc;have bu:64*d∉g1++i.1:=λg=>by rw[Fg.2 g] at c5;cases c5
         have a6:=Fh.1 c6;obtain⟨a7,ai⟩:=AllOb.cons bt;have a7:l1.length+l2.length<=1073741824:=a7;have bv:ZO af=O->Ms l2:=λhf=>by rw[hf] at ai;exact ai
         have hu:=(Ji b5 hg).sli;have ba:=Ji b5 hge;have bb:All2 (λx v=>AR J w (a.eval x) v) args.toList [.one (.slc t1 n1 l1),.one (.slc t2 n2 l2)]:=by simpa [Op.operands,Call.operands] using hv
         obtain⟨px,py,hargs⟩:∃px py,args= #[px,py]:=by
          have hl:=bb.length;obtain⟨l⟩:=args
          match l,hl with
          | [px,py],_=>exact⟨px,py,rfl⟩
         subst hargs;have bw:All2 (λx v=>AR J w (a.eval x) v) [px,py] [.one (.slc t1 n1 l1),.one (.slc t2 n2 l2)]:=bb;cases bw with
         | cons h1 h2=>
           cases h2 with
           | cons h2 _=>
             obtain⟨oa,cap,olds,L,e1,bx,av,aw,bc,bz,c1,bd,be,bf,bg,a8⟩:=Qtg c h1 au c3;obtain⟨bh,L2,a9,aj,bj,aa,⟨ag,bs⟩,ak⟩:=Qv5 (P:=P) c hu h2 c4 bv;rw[hS] at aj aa ak
             have ab:∀u w',(Builtin.append_ #[t,t] o.type #[.slice oa l1.length cap,a.eval py]).run P w= .ok u w'->(execOp a.eval o).run P w= .ok (.value u) w':=λu w' hr=>by
              simp only[execOp,ho,resolve,invoke,builtin,Sem.run_bind,Sem.run_pure,Result.andThen_ok,List.map_toArray,yL,List.map_nil,e1,hr]
             have hG:∀k,k∈g1++i.1->k≠64*d:=λk f e=>bu (e▸f)
             have p:∀k,k∉g1++i.1->k≠64*d->get ((64*d,S)::(W5 g1++(bif d1&&i.2 then W5 i.1 else Yz i.1))) k=S:=λk f hn=>by
              rw[Ae hn,UW,Dc,D λg=>f (zG _ g)];cases d1&&i.2
              . simp only[uI];rw[A9,D λg=>f (zF _ g)]
              simp only[uF];rw[Dc,D λg=>f (zF _ g)]
             have q:∀k,k∈g1->get ((64*d,S)::(W5 g1++(bif d1&&i.2 then W5 i.1 else Yz i.1))) k=U S:=λk f=>by
              rw[Ae (hG k (zG _ f)),UW,Dc,uB f]
             have y:∀k,k∈i.1->get ((64*d,S)::(W5 g1++(bif d1&&i.2 then W5 i.1 else Yz i.1))) k=U (if(d1&&i.2)=O then S else U .sh):=λk f=>by
              have ad:k∉g1:=λg=>(zH.1 a6).2.2 k g k f rfl
              rw[Ae (hG k (zF _ f)),UW,Dc,D ad];cases d1&&i.2
              . simp only[uI];rw[A9,uB f];simp
              simp only[uF];rw[Dc,uB f];simp
             by_cases ah:cap=0/\l2.length=0
             ·obtain ⟨ax,c7⟩:=ah;have c8:l1= []:=zU (by omega);have c9:l2= []:=zU c7;subst c8 c9 ax;have ay:bh= []:=zU (by rw[a9.newsLen];simp);subst ay;refine An (ab _ _ (Qdb hu ba a9)) ?_;rw[hd] at hK⊢
              refine hK ⟨λb=>J.F b\/∃k,k∈g1++i.1/\b∈J.L k,λk=>if k=64*d then [] else if k∈g1++i.1 then [] else J.L k,J.B⟩ _ _ (c.grab (U d) (λd' e=>by cases e;exact a5 d hd) _ _ (64*d) (g1++i.1) rfl rfl c.below (zR _) rfl (λk f=>D f)
               (λb hb=> .inl hb) (λb hb=>hb.imp id λf=>⟨f,by simp⟩) p (λ_=>by simp[get]) (λk f=>?_) (λb hb _=>rfl) (by simp) (λb hb=>by simp at hb) (λ_=>?_))
              . rcases zK.1 f with hk' | hk'
                . exact .inl (q k hk')
                rw[y k hk'];by_cases hD:(d1&&i.2)=O
                . exact .inl (by simp[hD])
                exact .inr (.inl ⟨by simp[hD],λb hb=>⟨.inr ⟨k,f,hb⟩,rfl⟩⟩)
              show CR _ w (.slice oa 0 0) (.slc (.own (d1&&i.2) (64*d)) ei.size []);cases d1&&i.2
              . exact .inl ⟨rfl,oa,rfl⟩
              show OwnDeep (if 64*d=64*d then [] else _) w _ _ _;rw[uB rfl];exact⟨[],.emp oa _,zO,λb hb=>hb,.inl rfl⟩
             obtain⟨g',bk,bm,e',w',bp,az,al,am,ch,an,ca,b1,bq,z,a3⟩:=MI (ty:=o.type) hu ba c2 bx av aw bc bz a9 a7 (λe=>by omega) c1;refine An (ab _ _ bp) ?_;rw[hd] at hK⊢
             have n:(∃k,k∈g1/\g'∈J.L k)/\g'∉L\/w.heap.size<=g':=by
              rcases a3 with⟨cur,e0,cc,_,ax,_⟩ | ⟨cj,_⟩
              . exact .inl (bd g' cc ax)
              exact .inr (by omega)
             have j:∀b,b<w.heap.size->b≠g'->w'.heap[b]? =w.heap[b]? :=by
              intro b hb m;rcases a3 with⟨cur,e0,_,_,_,a1⟩ | ⟨_,_,a1⟩
              . exact a1 b m
              exact a1 b hb
             have ao:g'<w'.heap.size:=Xy az
             have br:¬J.F g':=λhF=>by
              rcases n with⟨⟨k,_,g⟩,_⟩ | hge
              . exact(c.lo k g' g).2.2 hF
              have:=(c.fl g' hF).1;omega
             have b2:∀k,k∉g1->g'∉J.L k:=λk f g=>by
              rcases n with⟨⟨k',hk',a2⟩,_⟩ | hge
              . exact f (c.dj k k' g' g a2▸hk')
              have:=(c.lo k g' g).2.1;omega
             have b3:g'∉L:=by
              rcases n with⟨_,h⟩ | hge
              . exact h
              intro g;obtain⟨k,_,a2⟩:=a8 g' g;have:=(c.lo k g' a2).2.1;omega
             have ap:g'∉L2:=λg=>by
              obtain⟨k,f,a2⟩:=aa g' g;exact b2 k (λhk'=>(zH.1 a6).2.2 k hk' k f rfl) a2
             have hbelow:w0.Keeps w':=by
              refine c.below.step ca b1 bq z λb hb cd=>?_
              refine j b hb λe=>?_
              rcases n with⟨⟨k,_,g⟩,_⟩ | hge
              . exact cd (e▸(c.lo k g' g).1)
              omega
             have ae:∀b,b∈L->b<w.heap.size:=λb hb=>by obtain⟨k,_,g⟩:=a8 b hb;exact(c.lo k b g).2.1
             have aq:∀b,b∈L2->b<w.heap.size:=λb hb=>by obtain⟨k,_,g⟩:=aa b hb;exact(c.lo k b g).2.1
             have a4:(l1++l2).length=l1.length+l2.length:=yI;by_cases hD:(d1&&i.2)=O
             . have b4:=hD;simp only[zE] at b4
               have ar:(g'::(L++L2)).Nodup:=by
                refine zQ.2 ⟨λg=>(zK.1 g).elim b3 ap,zH.2 ⟨bg,bj,λb hb b' cf e=>?_⟩⟩;subst e;obtain⟨k,f,g⟩:=a8 b hb;obtain⟨k',hk',a2⟩:=aa b cf;have:=c.dj k k' b g a2;subst this;exact(zH.1 a6).2.2 k f k hk' rfl
               refine hK ⟨J.F,λk=>if k=64*d then g'::(L++L2) else if k∈g1++i.1 then [] else J.L k,J.B⟩ _ _ (c.grab (U d) (λd' e=>by cases e;exact a5 d hd) _ _ (64*d) (g1++i.1) rfl rfl hbelow z rfl (λk f=>D f)
                (λb hb=>hb) (λb hb=> .inl hb) p (λ_=>by simp[get]) (λk f=>?_) (λb hb hn=>j b hb λe=>?_) ?_ (λb hb=>?_) (λ_=>?_))
               . rcases zK.1 f with hk' | hk'
                 . exact .inl (q k hk')
                 exact .inl (by rw[y k hk',uB hD])
               . rcases n with⟨⟨k,f,g⟩,_⟩ | hge
                 . exact hn k (zG _ f) (e▸g)
                 omega
               . simp only[if_true];exact ar
               . simp only[if_true,zM,zK] at hb;rcases hb with rfl | hb | hb
                 . refine⟨ao, ?_⟩;rcases n with⟨⟨k,f,g⟩,_⟩ | hge
                   . exact .inr ⟨k,zG _ f,g⟩
                   exact .inl hge
                 . obtain⟨k,f,g⟩:=a8 b hb;exact⟨by have:=ae b hb;omega,.inr ⟨k,zG _ f,g⟩⟩
                 obtain⟨k,f,g⟩:=aa b hb;exact⟨by have:=aq b hb;omega,.inr ⟨k,zF _ f,g⟩⟩
               show CR _ w' _ (.slc (.own (d1&&i.2) (64*d)) ei.size (l1++l2));rw[hD];show OwnDeep (if 64*d=64*d then _ else _) w' _ _ _;rw[uB rfl,←a4];refine .of (.slc az al ?_ (by omega) ⟨an,by omega⟩) ar;rw[a4,am];exact OR.append ((aj b4.2).keep λb hb=>j b (aq b hb) λe=>ap (e▸hb)) ((bf b4.1).keep λb hb=>j b (ae b hb) λe=>b3 (e▸hb))
             refine hK ⟨λb=>J.F b\/((∃k,k∈g1++i.1/\b∈J.L k)/\b≠g'),λk=>if k=64*d then [g'] else if k∈g1++i.1 then [] else J.L k,J.B⟩ _ _ (c.grab (U d) (λd' e=>by cases e;exact a5 d hd) _ _ (64*d) (g1++i.1) rfl rfl hbelow z rfl (λk f=>D f)
              (λb hb=> .inl hb) (λb hb=>hb.imp id λf=>⟨f.1,by simpa using f.2⟩) p (λ_=>by simp[get]) (λk f=>?_) (λb hb hn=>j b hb λe=>?_) (by simp) (λb hb=>?_) (λ_=>?_))
             . rcases zK.1 f with hk' | hk'
               . exact .inl (q k hk')
               have ad:k∉g1:=λg=>(zH.1 a6).2.2 k g k hk' rfl
               refine .inr (.inl ⟨by rw[y k hk',D hD],λb hb=>?_⟩);have m:b≠g':=λe=>b2 k ad (e▸hb)
               exact⟨.inr ⟨⟨k,f,hb⟩,m⟩,j b (c.lo k b hb).2.1 m⟩
             . rcases n with⟨⟨k,f,g⟩,_⟩ | hge
               . exact hn k (zG _ f) (e▸g)
               omega
             . simp only[if_true,yE] at hb;subst hb;refine⟨ao, ?_⟩;rcases n with⟨⟨k,f,g⟩,_⟩ | hge
               . exact .inr ⟨k,zG _ f,g⟩
               exact .inl hge
             show CR _ w' _ (.slc (.own (d1&&i.2) (64*d)) ei.size (l1++l2));rw[show(d1&&i.2)=E by simpa using hD];refine .inr ⟨g',bk,bm,e',by simp,by rw[a4],az,al, ?_,by omega,an,by omega⟩;rw[a4,am]
             have cg:VR (λb=>J.F b\/((∃k,k∈g1++i.1/\b∈J.L k)/\b≠g')) w' ei.size olds l1:=be.keep λb hb=>by
              rcases hb with hb | hb
              . exact⟨.inl hb,j b (c.fl b hb).1 λe=>br (e▸hb)⟩
              obtain⟨k,f,g⟩:=a8 b hb;have m:b≠g':=λe=>b3 (e▸hb)
              exact⟨.inr ⟨⟨k,zG _ f,g⟩,m⟩,j b (ae b hb) m⟩
             refine VR.append ?_ cg;cases hf:ZO af with
             | true=>exact(ag hf w').vr λb hb=>by simp at hb
             | false=>
               refine(ak hf).keep λb hb=>?_
               rcases hb with hb | ⟨k,f,g⟩
               . exact⟨.inl hb,j b (c.fl b hb).1 λe=>br (e▸hb)⟩
               have ad:k∉g1:=λg=>(zH.1 a6).2.2 k g k f rfl
               have m:b≠g':=λe=>b2 k ad (e▸g)
               exact⟨.inr ⟨⟨k,zF _ f,g⟩,m⟩,j b (c.lo k b g).2.1 m⟩
     cases h
   cases h
 cases h
end
end
section
open Go.RowKit
def LA(F:W->Prop):Inj:=⟨F,λ_=> [],λ_=>0⟩
def Qth(F:W->Prop)(w w':I)(L:W->Y W):Inj:=⟨λb=>F b\/(w.heap.size<=b/\b<w'.heap.size/\∀k,b∉L k),L,λ_=>0⟩
def Qo7(F:W->Prop)(w:I)(r:AV)(e:Ending)(w':I):Prop:=
 ∃v L,e= .returned v/\Below w.heap.size w w'/\(∀k,(L k).Nodup)/\(∀k b,b∈L k->w.heap.size<=b/\b<w'.heap.size)/\(∀k a b,b∈L k->b∈L a->k=a)/\AR (Qth F w w' L) w' v r
def Iy (P : Program) (f : Nat) : Prop := (P.funcs[f]?).map (fun fn => (fn.name == "runtime.NumGoroutine", fn.body.isNone)) = some (false, false)
class Good (P:uC) (w:I):Prop where
 tab : ∀ g, P.globalNamed "internal/strconv.uint64pow10" = some g → Lib.TabIs P w "internal/strconv.uint64pow10" .u64 Lib.pow10Tab
 err : ∀ g, P.globalNamed "strconv.ErrSyntax" = some g → ∃ tp p, w.var? P "strconv.ErrSyntax" = some #[.iface tp p]
 mx : ∀ g, P.globalNamed "internal/bytealg.MaxLen" = some g → ∃ m, w.cell? ⟨g, 0, none⟩ = some (.int .i64 m)
 sp : ∀ g, P.globalNamed "strings.asciiSpace" = some g → Lib.TabIs P w "strings.asciiSpace" .u8 Lib.asciiSpaceTab
theorem Good.none {P : Program} (h : P.globalNamed "internal/strconv.uint64pow10" = none) (w : World) (h2 : P.globalNamed "strconv.ErrSyntax" = Option.none := by kernel_rfl) (h3 : P.globalNamed "internal/bytealg.MaxLen" = Option.none := by kernel_rfl) (h4 : P.globalNamed "strings.asciiSpace" = Option.none := by kernel_rfl) : Good P w :=
 ⟨λg hg=>(by rw[h] at hg;cases hg),λg hg=>(by rw[h2] at hg;cases hg),λg hg=>(by rw[h3] at hg;cases hg),λg hg=>(by rw[h4] at hg;cases hg)⟩
theorem Qho{w w':I}{g:W}{v:H}(h:w.cell? ⟨g,0,S⟩=U v)(b:Below w.heap.size w w'):w'.cell? ⟨g,0,S⟩=U v:=by
 have a:g<w.heap.size:=by
  unfold World.cell? at h;split at h
  . rename_i c;exact Xy c
  cases h
 rw[World.cell?_of_block (b.block g a)];exact h
theorem Good.keep{P:uC}{w w':I}(h:Good P w)(b:Below w.heap.size w w'):Good P w':=⟨λg a=>Go.Joins.tab_stays a (h.tab g a) b (Nat.le_refl _),λg a=>by
 obtain⟨c,p,d⟩:=h.err g a;exact⟨c,p,Go.Joins.var_stays a d b (zR _)⟩,λg a=>by
 obtain⟨m,e⟩:=h.mx g a;exact⟨m,Qho e b⟩,λg a=>Go.Joins.tab_stays a (h.sp g a) b (zR _)⟩
def ACalls(P:uC)(f:W)(args:Y AV)(r:AV):Prop:=
 Iy P f/\∀(w:I),Good P w->∀(F:W->Prop) (a:Y H),(∀b,F b->b<w.heap.size)->All2 (AR (LA F) w) a args->Calls P f a.toArray w (Qo7 F w r)
class GoodAt (P:uC) (b:Base):Prop where
 at_:∀w,b.Keeps w->Good P w
theorem Base.Keeps.below{b:Base}{w:I}(h:b.Keeps w)(a:∀k,¬b.X k):Below b.w.heap.size b.w w:=⟨h.os,h.tape,h.output,h.size,λk c=>h.block k c (a k)⟩
theorem GoodAt.of{P:uC}{w:I}(h:Good P w):GoodAt P ⟨w,λ_=>False,S⟩:=⟨λ_ a=>h.keep (a.below λ_ h=>h)⟩
def Jk(P:uC)(c:Base)(f:W)(args:Y AV)(r:AV):Prop:=
 Iy P f/\∀(w:I),c.Keeps w->∀(F:W->Prop) (a:Y H),(∀b,F b->b<w.heap.size)->All2 (AR (LA F) w) a args->Calls P f a.toArray w (Qo7 F w r)
theorem ACalls.at{P:uC}{a:Base}[b:GoodAt P a]{f:W}{args:Y AV}{r:AV}(h:ACalls P f args r):Jk P a f args r:=⟨h.1,λw hb=>h.2 w (b.at_ w hb)⟩
def Qxp(F:W->Prop)(L:Y W)(w:I)(n:W)(a:uD)(d:Y (Y PV))(e:Ending)(w':I):Prop:=
 ∃ u,e= .returned u/\(∀m,m<=w.heap.size->(∀b,b∈L->m<=b)->Below m w w')/\(∀b,b<w.heap.size->b∉L->w'.heap[b]? =w.heap[b]?)/\
   match a with
   | true=>u= .tuple #[]/\∀f g,OwnTop F L w f n g->OwnTop F L w' f n (DU g d.flatten)
   | false=>∃c:Y W,c.Nodup/\(∀b,b∈c->b<w'.heap.size/\(w.heap.size<=b\/b∈L))/\OwnTop (λb=>F b\/((w.heap.size<=b\/b∈L)/\b<w'.heap.size/\b∉c)) c w' u n d
def Qr1(P:uC)(w:I)(e:Y W->Prop)(f n:W)(l:Y (Y PV))(args:Y AV)(d c:uD)(g:Y (Y PV)):Prop:=
 ∀(F G:W->Prop) (L:Y W) (v:H) (a:Y H),e L->(∀b,F b->G b)->(d=O->∀b,G b->F b)->(∀b,G b->b<w.heap.size)->L.Nodup->(∀b,b∈L->b<w.heap.size/\¬G b)->
   OwnTop F L w v n l->All2 (AR (LA G) w) a args->Calls P f (v::a).toArray w (Qxp F L w n c g)
def ATake(P:uC)(f n:W)(l:Y (Y PV))(args:Y AV)(b a:uD)(c:Y (Y PV)):Prop:=Iy P f/\∀w,Qr1 P w (λL=>GoodAt P ⟨w,λx=>x∈L,S⟩) f n l args b a c
def PC(P:uC)(c:Base)(f n:W)(l:Y (Y PV))(args:Y AV)(b a:uD)(d:Y (Y PV)):Prop:=Iy P f/\∀w,c.Keeps w->Qr1 P w (λL=>∀x,x∈L->c.lo x) f n l args b a d
theorem ATake.at{P:uC}{i:Base}[j:GoodAt P i]{f n:W}{l:Y (Y PV)}{args:Y AV}{b a:uD}{l':Y (Y PV)}(h:ATake P f n l args b a l'):PC P i f n l args b a l':=
 ⟨h.1,λw hb F G L v c e=>h.2 w F G L v c ⟨λw' d=>j.at_ w' (hb.step d.os d.tape d.output d.size λk g m=>d.block k g λo=>m (e k o))⟩⟩
def Qoq:C->uD
 | .int _ _=>O
 | .bool _=>O
 | .str _=>O
 | .slc .sh _ _=>O
 | .slc (.own O _) _ _=>O
 | _=>E
def LB:C->uD
 | .int _ _=>O
 | .bool _=>O
 | .str _=>O
 | _=>E
def Qo8(F:W->Prop)(L:W->Y W)(b:W):Inj:=⟨F,L,λ_=>b⟩
def Qj3(F:W->Prop)(L:W->Y W)(w w':I)(a:W->Y W):Inj:=⟨λx=>F x\/((w.heap.size<=x\/∃j,x∈L j)/\x<w'.heap.size/\∀k,x∉a k),a,λ_=>0⟩
def Qv6(J:Inj)(w:I)(b:W)(cs:Y C):Prop:=∃a e,w.heap[b]? =U (.cells a e (0,0))/\All2 (CR J w) a.toList cs
def Qx1(F:W->Prop)(L:W->Y W)(b:W)(w:I)(r:AV)(cs:Y C)(e:Ending)(w':I):Prop:=
 ∃ v a,e= .returned v/\w'.os=w.os/\w'.tape=w.tape/\w'.output=w.output/\w.heap.size<=w'.heap.size/\(∀k,k<w.heap.size->k≠b->(∀j,k∉L j)->w'.heap[k]? =w.heap[k]?)/\
   (∀k,(a k).Nodup)/\(∀k x,x∈a k->x<w'.heap.size/\(w.heap.size<=x\/∃j,x∈L j))/\(∀k c x,x∈a k->x∈a c->k=c)/\AR (Qj3 F L w w' a) w' v r/\Qv6 (Qj3 F L w w' a) w' b cs
structure Given (F:W->Prop) (L:W->Y W) (b:W) (w:I):Prop where
 fl:∀x,F x->x<w.heap.size
 nd:∀k,(L k).Nodup
 lt:∀k x,x∈L k->x<w.heap.size/\¬F x
 dj:∀k k' x,x∈L k->x∈L k'->k=k'
 bF:¬F b
 bL:∀k,b∉L k
def Qr2(P:uC)(w:I)(d:W->(W->Y W)->Prop)(f:W)(cs:Y C)(args:Y AV)(r:AV)(c:Y C):Prop:=
 ∀(F:W->Prop) (L:W->Y W) (b:W) (a:Y H),d b L->Given F L b w->Qv6 (Qo8 F L b) w b cs->All2 (AR (LA F) w) a args->
   Calls P f (.pointer (U ⟨b,0,S⟩)::a).toArray w (Qx1 F L b w r c)
def AGive(P:uC)(f:W)(cs:Y C)(args:Y AV)(r:AV)(a:Y C):Prop:=Iy P f/\∀w,Qr2 P w (λb L=>GoodAt P ⟨w,λx=>x=b\/∃j,x∈L j,U b⟩) f cs args r a
def Qdc(P:uC)(c:Base)(f:W)(cs:Y C)(args:Y AV)(r:AV)(a:Y C):Prop:=Iy P f/\∀w,c.Keeps w->Qr2 P w (λb L=>∀x,(x=b\/∃j,x∈L j)->c.lo x) f cs args r a
theorem AGive.at{P:uC}{g:Base}[i:GoodAt P g]{f:W}{cs:Y C}{args:Y AV}{r:AV}{cs':Y C}(h:AGive P f cs args r cs'):Qdc P g f cs args r cs':=
 ⟨h.1,λw hb F L b a d=>h.2 w F L b a ⟨λw' c=>i.at_ w' (hb.step c.os c.tape c.output c.size λk e j=>c.block k e λl=>j (d k l))⟩⟩
def Qxq(F:W->Prop)(L:W->Y W):Inj:=⟨F,L,λ_=>0⟩
def Qv7:C->uD
 | .int _ _=>O
 | .bool _=>O
 | .str _=>O
 | .slc (.own O _) _ _=>O
 | _=>E
structure Owns (F:W->Prop) (L:W->Y W) (w:I):Prop where
 fl:∀x,F x->x<w.heap.size
 nd:∀k,(L k).Nodup
 lt:∀k x,x∈L k->x<w.heap.size/\¬F x
 dj:∀k k' x,x∈L k->x∈L k'->k=k'
def Qx2(L:W->Y W)(w:I)(r:AV)(e:Ending)(w':I):Prop:=
 ∃ v a,e= .returned v/\w'.os=w.os/\w'.tape=w.tape/\w'.output=w.output/\w.heap.size<=w'.heap.size/\(∀k,k<w.heap.size->(∀j,k∉L j)->w'.heap[k]? =w.heap[k]?)/\
   (∀k,(a k).Nodup)/\(∀k x,x∈a k->x<w'.heap.size/\(w.heap.size<=x\/∃j,x∈L j))/\(∀k b x,x∈a k->x∈a b->k=b)/\AR ⟨λ_=>False,a,λ_=>0⟩ w' v r
def Qr3(P:uC)(w:I)(b:(W->Y W)->Prop)(f:W)(args:Y AV)(r:AV):Prop:=
 ∀(F:W->Prop) (L:W->Y W) (a:Y H),b L->Owns F L w->All2 (AR (Qxq F L) w) a args->Calls P f a.toArray w (Qx2 L w r)
def AVal(P:uC)(f:W)(args:Y AV)(r:AV):Prop:=Iy P f/\∀w,Qr3 P w (λL=>GoodAt P ⟨w,λx=>∃j,x∈L j,S⟩) f args r
def Qj4(P:uC)(a:Base)(f:W)(args:Y AV)(r:AV):Prop:=Iy P f/\∀w,a.Keeps w->Qr3 P w (λL=>∀x,(∃j,x∈L j)->a.lo x) f args r
theorem AVal.at{P:uC}{e:Base}[g:GoodAt P e]{f:W}{args:Y AV}{r:AV}(h:AVal P f args r):Qj4 P e f args r:=
 ⟨h.1,λw hb F L a c=>h.2 w F L a ⟨λw' b=>g.at_ w' (hb.step b.os b.tape b.output b.size λk d i=>b.block k d λj=>i (c k j))⟩⟩
structure RowAt (w:I) (n:W) (oa:uA Addr) (m cap:W) (olds:Y H):Prop where
 len:olds.length=m*n
 row:(oa=oa/\m=0/\cap=0)\/∃g cur e,oa=U ⟨g,0,S⟩/\w.heap[g]? =U (.cells cur e (0,0))/\cur.size=cap*n/\cur.toList.take (m*n)=olds
 le:m<=cap
 cap:cap<=uH
 lim:m<1073741824
 ones:∀u,u∈olds->u.oneCell'=O
structure Turned (w w':I) (n:W) (oa:uA Addr) (cap:W) (u:H) (m':W) (news:Y H):Prop where
 os:w'.os=w.os
 tape:w'.tape=w.tape
 output:w'.output=w.output
 size:w.heap.size<=w'.heap.size
 row:∃g' cap' cur' e',u= .slice (U ⟨g',0,S⟩) m' cap'/\w'.heap[g']? =U (.cells cur' e' (0,0))/\cur'.size=cap'*n/\cur'.toList.take (m'*n)=news/\m'<=cap'/\cap'<=uH/\
  ((oa=U ⟨g',0,S⟩/\0<cap/\∀b,b≠g'->w'.heap[b]? =w.heap[b]?)\/(w.heap.size<=g'/\g'<w'.heap.size/\∀b,b<w.heap.size->w'.heap[b]? =w.heap[b]?))
def Qdd(w:I)(n i:W)(c:uA Addr)(m b:W)(a d:Y H)(e:Ending)(w':I):Prop:=
 ∃u,e= .returned u/\Turned w w' n c b u (m+1) (a.take (i*n)++d++a.drop (i*n))
structure OneAt (w:I) (n:W) (oa:uA Addr) (cap:W) (vb voff:W) (vs:Y H):Prop where
 len:vs.length=n
 cells:∀j u,vs[j]? =U u->w.cell? ⟨vb,voff+j,S⟩=U u
 ones:∀u,u∈vs->u.oneCell'=O
 ne:∀g,oa=U ⟨g,0,S⟩->0<cap->vb≠g
def Qyz(P:uC)(f n:W):Prop:=Iy P f/\0<n/\∀(w:I) (oa:uA Addr) (m cap:W) (olds:Y H) (i vb voff vc:W) (vs:Y H),RowAt w n oa m cap olds->OneAt w n oa cap vb voff vs->i<=m->
 Calls P f #[.slice oa m cap,.int .i64 (i:Int),.slice (U ⟨vb,voff,S⟩) 1 vc] w (Qdd w n i oa m cap olds vs)
def Uq(P:uC)(a:Base):TakeT:=⟨PC P a,Qdc P a,Qj4 P a,Qyz P⟩
def Jg(d:W):Y W->Y W
 | []=> []
 | k::r=>(64*d+k)::Jg d r
def XF:Y W->Y W->uD
 | [],_=>O
 | x::r,l=> !(S7 x l)&&XF r l
def Qti(f:C->uD):Y C->uD
 | []=>E
 | c::r=>f c|| Qti f r
def CW(bn:Y (W×Y C))(d f:W)(b:uA (Y (Y PV)))(a:Y AV)(r:AV)(e:uD):uA (Res×Y Ob):=
 match YR bn a,b with
 | some args,U cps=>
   bif Cp EC r.cells&&C3 (Qy r.cells) then
    bif Qti UT r.cells then
     bif !e&&Cp XC (Z4 a)&&XF (Jg d (Qy r.cells)) (Qy (Z4 a)) then
      U (⟨r.map (EB d),W5 (Jg d (Qy r.cells))++Yz (Qy (Z4 a)),S,S⟩, [.call f (args++cps.map λc=> .one (.rptr .sh c)) r])
     else S
    else U (⟨r.map (EB d),W5 (Jg d (Qy r.cells)),S,S⟩, [.call f (args++cps.map λc=> .one (.rptr .sh c)) r])
   else S
 | _,_=>S
def Qtj(a:Orc)(bn:Y (W×Y C))(b:uA W):Op->Y AV->uA (Res×Y Ob)
 | .call ⟨.value _,_,_⟩,.one (.fn f caps)::avs=>
   (match b,a with
   | some d,.val r=>CW bn d f (ZM bn caps) avs r (match caps with
     | []=>E
     | _=>O)
   | _,_=>S)
 | .call ⟨.value _,_,_⟩,.one (.fnr f caps)::avs=>
   (match b,a with
   | some d,.val r=>CW bn d f (U caps) avs r O
   | _,_=>S)
 | _,_=>S
section
variable {P:uC} {N:W} {w0:Base} {F0:W->Prop} {J:Inj} {a:Act} {w:I} {s:St}
theorem Tb{o:Oper}{K:Act->I->Prop}{Q:Exit->Act->I->Prop}{x:Operand}{args:uE Operand}{tys:uE uG}{n:W}{caps:uE H}(ho:o.op= .call {callee:= .value x,args:=args,argTypes:=tys})
 (hx:a.eval x= .func (.func n) #[] caps) (hf:Iy P n)
 (h:Calls P n (args.map a.eval++caps) w (λe w''=>match e,w'' with
  | .returned v,w''=>K (a.put o.dst v) w''
  | .panicked c,w''=>Q (.panic c) a w''
  | .outgrown,_=>LetsOut Q)):o.wp P a w K Q:=by
 obtain⟨fn,hfn,hq⟩:=zW.1 hf;simp only[zP] at hq;unfold Oper.wp execOp;simp only[ho,resolve,Sem.run_bind,hx,Deferred.ofValue,Sem.run_pure,Result.andThen_ok,invoke,Array.empty_append]
 have hcf:(callFunc n (args.map a.eval++caps)).run P w= .ok (.enter n (args.map a.eval++caps)) w:=by
  have h1 : ¬ fn.name = "runtime.NumGoroutine" := by simpa using hq.1
  have h2:¬fn.body=S:=λe=>by rw[e] at hq;simp at hq
  unfold callFunc;simp[hfn,h1,h2]
 rw[hcf];rw[Oper.upon_enter];exact h.mono λe w' hh=>by cases e<;>exact hh
def BoxF(J:Inj)(w:I)(F:W->Prop)(bn:Y (W×Y C)):Prop:=
 ∀k x,get bn k=U x->F (J.B k)/\(∀c,c∈Qy x->∀b,b∈J.L c->F b)/\∃a e,w.heap[J.B k]? =U (.cells a e (0,0))/\All2 (CR J w) a.toList x
theorem BoxF.of{bn:Y (W×Y C)}(h:∀k b,b∈J.L k->b<w.heap.size)(d:∀k x,get bn k=U x->∃a e,w.heap[J.B k]? =U (.cells a e (0,0))/\All2 (CR J w) a.toList x):BoxF J w (λb=>b<w.heap.size) bn:=λk x f=>by
 obtain⟨a,e,c,g⟩:=d k x f;exact⟨Xy c,λi _ b j=>h i b j,a,e,c,g⟩
theorem TJ:∀(n:W) {cs:Y C} {k:W},k∈Qy (cs.drop n)->k∈Qy cs
 | 0,_,_,h=>by simpa using h
 | _+1, [],_,h=>by simp at h;exact h
 | n+1,_::r,_,h=>by
   rw[List.drop_succ_cons] at h;simp only[Qy];exact zF _ (TJ n h)
theorem MJ:∀{l:Y C},Cp XC l=O->Cp ED l=O
 | [],_=>rfl
 | c::l,h=>by
   simp only[Cp,zE] at h⊢;refine⟨?_,MJ h.2⟩;have a:=h.1;cases c<;>first | rfl | cases a
theorem PD{F:W->Prop}{bn:Y (W×Y C)}(y:∀b,J.F b->F b){v:H}{c c':C}(m:CR J w v c)(q:Qfk bn c=U c')(hL:∀k,c.key=U k->∀b,b∈J.L k->F b)
 (z:ED c=O\/BoxF J w F bn):CR (LA F) w v c':=by
 have s:BoxF J w F bn->∀k off cs,Qoz bn k off=U cs->Reads F w (.pointer (U ⟨J.B k,off,S⟩)) cs:=by
  intro h3 k off cs hb;unfold Qoz at hb;split at hb
  . rename_i x hx;obtain⟨h1,h2,a1,e,hg,a2⟩:=h3 k x hx;refine⟨J.B k,off,a1.toList.drop off,rfl,h1,KX (a2.drop off) hb (λb hb=>⟨y b hb,rfl⟩) (λk' a3 b hb=>⟨h2 k' (TJ off a3) b hb,rfl⟩), ?_⟩
    have:=Ff (w:=w) (vs:=a1.toList) (b:=J.B k) (off:=0) (k:=off) (λj u hj=>by
     rw[yJ] at hj;simp[World.cell?,hg,hj])
    simpa using this
  cases hb
 cases c with
 | int=>obtain rfl:=zD q;exact m
 | bool=>obtain rfl:=zD q;exact m
 | str=>obtain rfl:=zD q;exact m
 | slc t n l=>
   obtain rfl:=zD q;exact Qj2 (X:=F) m rfl (λb hb=>⟨y b hb,rfl⟩) λk hk b hb=>⟨hL k hk b hb,rfl⟩
 | ptr k off=>
   obtain⟨cs,a,rfl⟩:=zW.1 q;rcases z with z | h3
   . cases z
   show Reads F w v cs;rw[show v=_ from m];exact s h3 k off cs a
 | rptr t cs=>
   obtain rfl:=zD q;refine Reads.keep m λb hb=>⟨?_,rfl⟩
   cases t with
   | sh=>exact y b hb
   | emp=>exact hb.elim
   | own=>exact hb.elim
   | put=>exact hb.elim
   | vw k=>exact hb.elim (hL k rfl b) (y b)
 | ept d k n i o cs=>
   obtain rfl:=zD q;obtain⟨g,r,vs,h1,h2,h3,h4,_⟩:=m;refine⟨g,i*n+o,vs,h2,hL k rfl g (by rw[h1];exact zL),h3.keep λb hb=>⟨?_,rfl⟩,h4⟩;cases d with
   | true=>exact hb.elim (hL k rfl b) (y b)
   | false=>exact y b hb
 | fn f caps =>
   obtain⟨cs,a,rfl⟩:=zW.1 q;rcases z with z | h3
   . cases caps with
     | nil=>
       obtain rfl: []=cs:=by simpa [ZM] using a
       exact⟨[],m,.nil⟩
     | cons=>cases z
   refine⟨_,m, ?_⟩;clear m q hL
   induction caps generalizing cs with
   | nil => obtain rfl: []=cs:=by simpa [ZM] using a
            exact .nil
   | cons c caps ih=>
     simp only[ZM] at a;split at a
     . rename_i p ps e1 e2;obtain rfl:=zD a;exact .cons (s h3 c.1 c.2 p e1) (ih ps e2)
     cases a
 | fnr f caps=>
   obtain rfl:=zD q;obtain⟨vs,rfl,ha⟩:=m;exact⟨vs,rfl,ha.imp λ_ _ _ h=>h.keep λb hb=>⟨y b hb,rfl⟩⟩
 | raw u=>obtain rfl:=zD q;exact m
 | dead=>cases q
theorem XG{F : Nat -> Prop}{bn : List (W×Y C)}(o:∀b,J.F b->F b):∀{vs:Y H} {avs args:Y AV},All2 (AR J w) vs avs->YR bn avs=U args->(∀k,k∈Qy (Z4 avs)->∀b,b∈J.L k->F b)->
 (Cp ED (Z4 avs)=O\/BoxF J w F bn)->All2 (AR (LA F) w) vs args
 | _, _, args, .nil, he, _, _ => by obtain rfl: []=args:=by simpa [YR] using he
                                    exact .nil
 | _, _, args, .cons (b:=x) h1 h2,he,i,d=>by
   have r:∀(cs cs':Y C),Qy (cs++cs')=Qy cs++Qy cs':=by
    intro cs cs'
    induction cs with
    | nil=>rfl
    | cons c cs j=>simp[Qy,j]
   have s:∀(f:C->uD) (cs cs':Y C),Cp f (cs++cs')=(Cp f cs&&Cp f cs'):=by
    intro f cs cs'
    induction cs with
    | nil=>rfl
    | cons c cs j=>simp[Cp,j,Bool.and_assoc]
   simp only[YR] at he;split at he
   . rename_i p ps t v;obtain rfl:=zD he;simp only[Z4,r] at i;simp only[Z4,s,zE] at d;refine .cons ?_ (XG o h2 v (λk a=>i k (zF _ a)) (d.imp (λh=>h.2) id));have m:∀k,k∈Qy x.cells->∀b,b∈J.L k->F b:=λk a=>i k (zG _ a)
     have n:=d.imp (λh=>h.1) id
     have hlist :∀(cs:Y C) (e:Y H) (qs:Y C),All2 (CR J w) e cs->EA bn cs=U qs->(∀k,k∈Qy cs->∀b,b∈J.L k->F b)->(Cp ED cs=O\/BoxF J w F bn)->All2 (CR (LA F) w) e qs:=by
      intro cs
      induction cs with
      | nil => intro e qs h he _ _;cases h;obtain rfl: []=qs:=by simpa [EA] using he
               exact .nil
      | cons c cs j=>
        intro e qs h he i d;cases h with
        | cons y z=>
          simp only[EA] at he;split at he
          . rename_i q a1 f1 f2;obtain rfl:=zD he;simp only[Cp,zE] at d;exact .cons (PD o y f1 (λk a=>i k (by simp[Qy,a])) (d.imp (λh=>h.1) id)) (j _ _ z f2 (λk a=>i k (by simp only[Qy];exact zF _ a)) (d.imp (λh=>h.2) id))
          cases he
     cases x with
     | one c=>
       obtain⟨u,g,rfl⟩:=zW.1 t;exact PD o h1 g (λk a=>m k (by simp[AV.cells,Qy,a])) (n.imp (λh=>by simpa [AV.cells,Cp] using h) id)
     | agg cs=>
       obtain⟨u,g,rfl⟩:=zW.1 t;obtain⟨e,rfl,hu⟩:=h1;exact⟨e,rfl,hlist cs e u hu g m n⟩
     | tup l=>cases t
   cases he
end
end
section
open Go.RowKit
section
variable {P:uC} {N:W} {w0:Base} {F0:W->Prop} {J:Inj} {a:Act} {w:I} {s:St}
theorem D8{d x:W}:∀{ks:Y W},x∈Jg d ks↔∃k,k∈ks/\x=64*d+k
 | []=>by simp[Jg]
 | k::r=>by
   simp only[Jg,zM,D8 (ks:=r)];exact⟨λh=>h.elim (λe=>⟨k,.inl rfl,e⟩) λ⟨a,h1,h2⟩=>⟨a,.inr h1,h2⟩,λ⟨a,h1,h2⟩=>h1.elim (λe=> .inl (e▸h2)) λh=> .inr ⟨a,h,h2⟩⟩
theorem Na:∀{l m:Y W},XF l m=O->∀x,x∈l->x∉m
 | [],_,_,x,hx,_=>by simp at hx
 | y::l,m,h,x,hx,hm=>by
   simp only[XF,zE,zT] at h;rcases zM.1 hx with rfl | hx
   . rw[Fg.2 hm] at h;exact absurd h.1 (by simp)
   exact Na h.2 x hx hm
theorem B8{f:C->uD}:∀{cs:Y C},Cp f cs=O->∀c,c∈cs->f c=O
 | [],_,c,hc=>by simp at hc
 | x::r,h,c,hc=>by
   simp only[Cp,zE] at h;rcases zM.1 hc with rfl | hc
   . exact h.1
   exact B8 h.2 c hc
theorem UX{f:C->uD}:∀{cs:Y C},Qti f cs=E->∀c,c∈cs->f c=E
 | [],_,c,hc=>by simp at hc
 | x::r,h,c,hc=>by
   simp only[Qti,Bool.or_eq_false_iff] at h;rcases zM.1 hc with rfl | hc
   . exact h.1
   exact UX h.2 c hc
theorem Tc:∀{cs:Y C} {c:C} {k:W},c∈cs->c.key=U k->k∈Qy cs
 | x::r,c,k,hc,hk=>by
   simp only[Qy];rcases zM.1 hc with rfl | hc
   . exact zG _ (by rw[hk];simp)
   exact zF _ (Tc hc hk)
theorem TL:∀{cs:Y C},Cp EC cs=O->∀{k:W},k∈Qy cs->k<64
 | [],_,k,hk=>by simp[Qy] at hk
 | c :: r,h,k,hk=>by
   simp only[Cp,zE] at h;simp only[Qy] at hk;rcases zK.1 hk with hk | hk
   . have a:=h.1;cases c with
     | slc t n l=>
       cases t with
       | own b d=>
         simp[C.key,Tok.key] at hk;subst hk;simp only[EC,yZ] at a;exact a
       | _=>simp[C.key,Tok.key] at hk;try cases a
     | _=>simp[C.key] at hk;try cases a
   exact TL h.2 hk
theorem TM(f:Rel N w0 F0 J a w s)(d:W)(hd:d<N){r:AV}{frz:Y W}(a3:Cp EC r.cells=O)(Fc:W->Prop)(ah:∀b,Fc b->b<w.heap.size)
 (y:(frz= []/\Qti UT r.cells=E)\/((∀b,Fc b↔J.F b\/∃k,k∈frz/\b∈J.L k)/\∀x,x∈Jg d (Qy r.cells)->x∉frz)) {e:Ending} {w':I} (a7:Qo7 Fc w r e w'):
 ∃v J',e= .returned v/\Rel N w0 F0 J' (a.put (U d) v) w' (s.step (U d) ⟨r.map (EB d),W5 (Jg d (Qy r.cells))++Yz frz,S,S⟩):=by
 obtain⟨v,L,rfl,hb,aa,a4,ab,hr⟩:=a7;have ag:∀k,k∈Qy r.cells->k<64:=λk g=>TL a3 g
 have h0:=f.below.size;have ai:=hb.size;have z:∀b,b<w.heap.size->w'.heap[b]? =w.heap[b]? :=hb.block
 have ad:∀x,x∈Jg d (Qy r.cells)->x∉frz:=λx hx=>by
  rcases y with⟨e,_⟩ | ⟨_,h⟩
  . rw[e];simp
  exact h x hx
 have a1:∀x,get (W5 (Jg d (Qy r.cells))++Yz frz) x=if x∈Jg d (Qy r.cells) then U S else if x∈frz then U (U .sh) else S:=by
  intro x;rw[UW,Dc];by_cases h:x∈Jg d (Qy r.cells)
  . rw[uB h,uB h]
  rw[D h,D h];exact A9
 let shares:=Qti UT r.cells
 let J':Inj:=⟨λb=>if frz= []/\shares=E then J.F b else(Fc b\/(w.heap.size<=b/\b<w'.heap.size/\∀k,b∉L k)),λx=>if x∈Jg d (Qy r.cells) then L (x-64*d) else if x∈frz then [] else J.L x,J.B⟩
 have a8:∀b,J.F b->J'.F b:=λb hb'=>by
  show if _ then _ else _
  split
  . exact hb'
  rename_i hn;rcases y with h | ⟨h,_⟩
  . exact absurd h hn
  exact .inl ((h b).2 (.inl hb'))
 have a5:∀b,J'.F b->J.F b\/(∃k,k∈frz/\b∈J.L k)\/(w.heap.size<=b/\b<w'.heap.size/\∀k,b∉L k):=λb hb'=>by
  have hb':if frz= []/\shares=E then J.F b else(Fc b\/(w.heap.size<=b/\b<w'.heap.size/\∀k,b∉L k)):=hb'
  split at hb'
  . exact .inl hb'
  rename_i hn;rcases y with h | ⟨h,_⟩
  . exact absurd h hn
  rcases hb' with hb' | hb'
  . exact((h b).1 hb').imp id .inl
  exact .inr (.inr hb')
 refine⟨v,J',rfl,f.upd (U d) (λd' e=>by cases e;exact hd) _ v (f.below.trans (hb.mono h0)) ⟨λb hb'=>⟨a8 b hb',z b (f.fl b hb').1⟩,λk g=>?_,λk g b p=>?_,λk k' g=>?_,λk t g=>?_,(λ_ _=>rfl),λk d m i o cs g=>by
  rw[a1] at g;split at g
  . cases g
  split at g<;>cases g⟩
  ⟨λb hb'=>?_,λb hb'=>a8 b (f.f0 b hb'),λk=>?_,λk b p=>?_,λk k' b p q=>?_⟩ (λ_=>?_) (λk c g _=>?_) (λk c g=>by cases g)⟩
 . rw[a1] at g;split at g
   . cases g
   split at g
   . cases g
   rename_i h1 h2;exact⟨by show(if _ then _ else _)=_;rw[D h1,D h2],λb p=>z b (f.lo k b p).2.1⟩
 . rw [a1] at g;split at g
   . cases g
   split at g
   . rename_i h1 h2;refine⟨?_,z b (f.lo k b p).2.1⟩;show if _ then _ else _
     rcases y with⟨e,_⟩ | ⟨h,_⟩
     . rw[e] at h2;simp at h2
     rw[D λhn=>by rw[hn.1] at h2;simp at h2];exact .inl ((h b).2 (.inr ⟨k,h2,p⟩))
   cases g
 . rw[a1] at g;split at g
   . cases g
   split at g<;>cases g
 . rw[a1] at g;split at g
   . cases g
   split at g
   . simp at g;exact .inl g.symm
   cases g
 . rcases a5 b hb' with h | ⟨k,_,h⟩ | ⟨h1,h2,_⟩
   . have:=f.fl b h;exact⟨by omega,this.2⟩
   . have:=f.lo k b h;exact⟨by omega,.inr this.1⟩
   exact⟨h2,.inr (.inl (by omega))⟩
 . show(if _ then _ else _:Y W).Nodup;split
   . exact aa _
   split
   . simp
   exact f.nd k
 . have p:b∈(if k∈Jg d (Qy r.cells) then L (k-64*d) else if k∈frz then [] else J.L k):=p;split at p
   . obtain⟨h1,h2⟩:=a4 _ b p;refine⟨.inl (by omega),h2,λhF=>?_⟩;rcases a5 b hF with h | ⟨k',_,h⟩ | ⟨_,_,h⟩
     . have:=(f.fl b h).1;omega
     . have:=(f.lo k' b h).2.1;omega
     exact h _ p
   split at p
   . simp at p
   rename_i h1 h2;obtain⟨g1,g2,g3⟩:=f.lo k b p;refine⟨g1,by omega,λhF=>?_⟩;rcases a5 b hF with h | ⟨k',ae,h⟩ | ⟨h,_,_⟩
   . exact g3 h
   . exact h2 (f.dj k k' b p h▸ae)
   omega
 . have p:b∈(if k∈Jg d (Qy r.cells) then L (k-64*d) else if k∈frz then [] else J.L k):=p;have q:b∈(if k'∈Jg d (Qy r.cells) then L (k'-64*d) else if k'∈frz then [] else J.L k'):=q;split at p<;>split at q
   . rename_i h1 h2;have:=ab _ _ b p q;obtain⟨j,_,rfl⟩:=D8.1 h1;obtain⟨j',_,rfl⟩:=D8.1 h2;omega
   . split at q
     . simp at q
     have:=(a4 _ b p).1;have:=(f.lo k' b q).2.1;omega
   . split at p
     . simp at p
     have:=(a4 _ b q).1;have:=(f.lo k b p).2.1;omega
   split at p
   . simp at p
   split at q
   . simp at q
   exact f.dj k k' b p q
 . refine AR.map (EB d) hr λu c hc a2=>?_
   have a9:=B8 a3 c hc;cases c with
   | int | bool | str | raw=>exact a2
   | slc t n l=>
     cases t with
     | emp=>exact a2
     | vw k=>cases a9
     | put=>exact a2.elim
     | own b k=>
       cases b with
       | false=>
         have a6:shares=O:=by
          cases hs:shares with
          | true=>rfl
          | false=>have:=UX hs _ hc;simp[UT] at this
         show OwnTop J'.F (if 64*d+k∈Jg d (Qy r.cells) then L (64*d+k-64*d) else _) w' u _ _;rw[uB (D8.2 ⟨k,Tc hc rfl,rfl⟩),yA];refine OwnTop.keep (F:=(Qth Fc w w' L).F) a2 (λb hb'=>⟨?_,rfl⟩) λ_ _=>rfl
         show if _ then _ else _
         rw[D (by rw[a6];simp)];exact hb'
       | true=>
         show OwnDeep (if 64*d+k∈Jg d (Qy r.cells) then L (64*d+k-64*d) else _) w' u _ _;rw[uB (D8.2 ⟨k,Tc hc rfl,rfl⟩),yA];exact a2
     | sh=>
       have a6:shares=O:=by
        cases hs:shares with
        | true=>rfl
        | false=>have:=UX hs _ hc;simp[UT] at this
       refine VV.keep (X:=(Qth Fc w w' L).F) (λb hb'=>⟨?_,rfl⟩) a2;show if _ then _ else _
       rw[D (by rw[a6];simp)];exact hb'
   | _=>cases a9
 obtain⟨_,h2,h3,aj,e,h4,_⟩:=f.bo k c g;have af:=Xy h4;refine⟨by simp,λhF=>?_,λk' p=>?_,z _ af⟩
 . rcases a5 _ hF with h | ⟨k',_,h⟩ | ⟨h,_,_⟩
   . exact h2 h
   . exact h3 k' h
   omega
 have p:J.B k∈(if k'∈Jg d (Qy r.cells) then L (k'-64*d) else if k'∈frz then [] else J.L k'):=p;split at p
 . have:=(a4 _ _ p).1;omega
 split at p
 . simp at p
 exact h3 k' p
theorem All2.of_map{α β γ:Type}{R:α->β->Prop}(f:γ->α):∀{l:Y γ} {m:Y β},All2 (λx b=>R (f x) b) l m->All2 R (l.map f) m
 | _,_,.nil=> .nil
 | _,_,.cons h1 h2=> .cons h1 (All2.of_map f h2)
theorem EH{o:Oper}{x:Operand}{args:uE Operand}{ag:uE uG}{f:W}{i:uE H}{a8:uA (Y (Y PV))}{m:Y AV}{r:AV}{n:uD}{bn:Y (W×Y C)}{rs:Res}{a9:Y Ob}{d:W}
 (ho:o.op= .call ⟨.value x,args,ag⟩) (a3:o.dst=U d) (a1:d<N) (hx:a.eval x= .func (.func f) #[] i) (h:CW bn d f a8 m r n=U (rs,a9)) (aa:AllOb (Jk P w0) (Uq P w0) a9)
 (g:Rel N w0 F0 J a w s) (hv:All2 (AR J w) (args.toList.map a.eval) m) (ah:∀k c,get bn k=U c->get s.bx k=U c)
 (p:∀cs,a8=U cs->(n=E->cs= []/\i= #[])/\All2 (Reads (λb=>b<w.heap.size) w) i.toList cs)
 {K:Act->I->Prop} {Q:Exit->Act->I->Prop} (hK:∀J' a' w',Rel N w0 F0 J' a' w' (s.step o.dst rs)->K a' w'):o.wp P a w K Q:=by
 unfold CW at h;split at h
 rotate_left
 . cases h
 rename_i ab cs ad;have ae:U cs=U cs:=rfl;cases hc:(Cp EC r.cells&&C3 (Qy r.cells)) with
 | false=>rw[hc] at h;cases h
 | true =>
   rw[hc] at h;simp only[uF] at h;simp only[zE] at hc;rw[a3] at hK
   have ai:∀k x,get bn k=U x->∃af e,w.heap[J.B k]? =U (.cells af e (0,0))/\All2 (CR J w) af.toList x:=λk x hk=>by
    obtain⟨_,_,_,h⟩:=g.bo k x (ah k x hk);exact h
   have q:∀b,J.F b->b<w.heap.size:=λb hb=>(g.fl b hb).1
   have z:∀(F:W->Prop) (us:Y H) (cs:Y (Y PV)),All2 (Reads F w) us cs->All2 (AR (LA F) w) us (cs.map λc=> .one (.rptr .sh c)):=by
    intro F us cs h
    induction h with
    | nil=>exact .nil
    | cons h1 _ ih=>exact .cons h1 ih
   have t:(args.map a.eval++i)=(args.toList.map a.eval++i.toList).toArray:=by
    apply yS;simp
   cases a4:Qti UT r.cells with
   | true=>
     rw[a4] at h;simp only[uF] at h;cases hm:(!n&&Cp XC (Z4 m)&&XF (Jg d (Qy r.cells)) (Qy (Z4 m))) with
     | false=>rw[hm] at h;cases h
     | true=>
       rw[hm] at h;simp only[uF,zN,zP] at h;obtain⟨rfl,rfl⟩:=h;simp only[zE,zT] at hm;obtain⟨⟨hp,aj⟩,ak⟩:=hm;have u:Jk P w0 f (ab++cs.map λc=> .one (.rptr .sh c)) r:=aa;obtain⟨a5,j⟩:=u
       let F:W->Prop:=λb=>J.F b\/∃k,k∈Qy (Z4 m)/\b∈J.L k
       have a2:∀b,F b->b<w.heap.size:=λb hb=>hb.elim (q b) λ⟨k,_,h⟩=>(g.lo k b h).2.1
       have l:=XG (F:=F) (bn:=bn) (λb hb=> .inl hb) hv ad (λk hk b hb=> .inr ⟨k,hk,hb⟩) (.inl (MJ aj));have a6:cs= []/\i= #[]:=(p cs ae).1 hp;obtain⟨rfl,rfl⟩:=a6;have hC:=j w g.below F _ a2 (l.append .nil);refine Tb ho hx a5 ?_;rw[t];refine hC.mono λe w' y=>?_
       obtain⟨v,J',rfl,hR⟩:=TM g d a1 (frz:=Qy (Z4 m)) hc.1 F a2 (.inr ⟨λb=>Iff.rfl,Na ak⟩) y;rw[a3];exact hK J' _ _ hR
   | false=>
     rw[a4] at h;simp only[uI,zN,zP] at h;obtain⟨rfl,rfl⟩:=h;have u:Jk P w0 f (ab++cs.map λc=> .one (.rptr .sh c)) r:=aa;obtain⟨a5,j⟩:=u;have l:=XG (F:=λb=>b<w.heap.size) (bn:=bn) q hv ad (λk _ b hb=>(g.lo k b hb).2.1) (.inr (BoxF.of (λk b hb=>(g.lo k b hb).2.1) ai));have a7:All2 (Reads (λb=>b<w.heap.size) w) i.toList cs:=(p cs ae).2;have hC:=j w g.below (λb=>b<w.heap.size) _ (λ_ h=>h) (l.append (z _ _ _ a7));refine Tb ho hx a5 ?_;rw[t];refine hC.mono λe w' y=>?_
     obtain⟨v,J',rfl,hR⟩:=TM g d a1 (frz:= []) hc.1 (λb=>b<w.heap.size) (λ_ h=>h) (.inl ⟨rfl,a4⟩) y;rw[a3];rw[show Yz []= [] from rfl,List.append_nil] at hR;exact hK J' _ _ hR
theorem Qo9{orc : Orc}{bn:Y (W×Y C)}{o:Oper}{t:Y AV}{r:Res}{u:Y Ob}(h:Qtj orc bn o.dst o.op t=U (r,u))(y:AllOb (Jk P w0) (Uq P w0) u)(m:∀d,o.dst=U d->d<N)
 (i:Rel N w0 F0 J a w s) (z:All2 (λx v=>IY s x=U v) o.op.operands.toList t) (n:∀k c,get bn k=U c->get s.bx k=U c) {K:Act->I->Prop} {Q:Exit->Act->I->Prop}
 (hK:∀J' a' w',Rel N w0 F0 J' a' w' (s.step o.dst r)->K a' w'):o.wp P a w K Q:=by
 have hv:=Gl i z;generalize ho:o.op=op at h hv;generalize hd:o.dst=a2 at h;unfold Qtj at h
 have hreads:∀(g:Y (W×W)) (cs:Y (Y PV)),ZM bn g=U cs->All2 (Reads (λb=>b<w.heap.size) w) (g.map λc=> .pointer (U ⟨J.B c.1,c.2,S⟩)) cs:=by
  intro g
  induction g with
  | nil => intro cs h;obtain rfl: []=cs:=by simpa [ZM] using h
           exact .nil
  | cons c g ih=>
    intro cs h;simp only[ZM] at h;split at h
    . rename_i p ps e1 e2;obtain rfl:=zD h;refine .cons ?_ (ih ps e2)
      have:=PD (J:=J) (w:=w) (F:=λb=>b<w.heap.size) (bn:=bn) (c:= .ptr c.1 c.2) (c':= .rptr .sh p) (λb hb=>(i.fl b hb).1) (v:= .pointer (U ⟨J.B c.1,c.2,S⟩)) rfl (by simp[Qfk,e1]) (λk hk=>by simp[C.key] at hk)
       (.inr (BoxF.of (λk b hb=>(i.lo k b hb).2.1) λk x hk=>by
        obtain⟨_,_,_,h⟩:=i.bo k x (n k x hk);exact h))
      exact this
    cases h
 split at h
 . rename_i x args a1 f g j;split at h
   . rename_i d r';have q:All2 (λx v=>AR J w (a.eval x) v) (x::args.toList) (.one (.fn f g)::j):=by simpa [Op.operands,Call.operands] using hv
     cases q with
     | cons h1 h2 =>
       refine EH (P:=P) ho hd (m d hd) h1 h y i (All2.of_map _ h2) n (λcs l=>?_) hK;constructor
       . intro hp;cases g with
         | nil => obtain rfl: []=cs:=by simpa [ZM] using l
                  exact⟨rfl,rfl⟩
         | cons c g=>cases hp
       simpa using hreads g cs l
   cases h
 . rename_i x args a1 f g j;split at h
   . rename_i d r';have q:All2 (λx v=>AR J w (a.eval x) v) (x::args.toList) (.one (.fnr f g)::j):=by simpa [Op.operands,Call.operands] using hv
     cases q with
     | cons h1 h2=>
       obtain⟨vs,e1,hr⟩:=h1;refine EH (P:=P) ho hd (m d hd) e1 h y i (All2.of_map _ h2) n (λcs l=>?_) hK;obtain rfl:=zD l;exact⟨λe=>(by cases e),by simpa using hr.imp λ_ _ _ h=>h.keep λb hb=>⟨(i.fl b hb).1,rfl⟩⟩
   cases h
 cases h
end
end
section
open Go.RowKit
def Qj5(tt:Y (W×TI))(a:Orc):Op->Y AV->uA (AV×Y Ob)
 | .indexAddr t _ _, [.one (.slc (.own d k) n l),.one (.int _ i)]=>
   (match get tt t,a with
   | some ⟨.sli e,_,_,_⟩,.rowE r=>(match get tt e with
     | some ei=>bif zV ei.size n then U (.one (.ept d k n i.toNat 0 r), [.elem l i r]) else S
     | none=>S)
   | _,_=>S)
 | .fieldAddr t _ f, [.one (.ept d k n i o cs)]=>
   (match N7 tt t f with
   | some (o',sz,_)=>bif zV sz 0 then S else U (.one (.ept d k n i (o+o') (cs.drop o')), [])
   | none=>S)
 | .nilCheck _, [.one (.ept d k n i o cs)]=>U (.one (.ept d k n i o cs), [])
 | .load t _, [.one (.ept d k n i o cs)]=>
   (match get tt t with
   | some b=>bif yK b.size cs.length then(match Qhj b ((cs.take b.size).map (IZ (ZL d k))) with
     | some v=>U (v, [])
     | none=>S) else S
   | none=>S)
 | _,_=>S
section
variable {P:uC} {A:W->Y AV->AV->Prop} {T:TakeT} {J:Inj} {w:I}
theorem Qpa{d:uD}{k n:W}{l:Y (Y PV)}{v:H}(h:CR J w v (.slc (.own d k) n l)){i:W}{r:Y PV}(q:l[i]? =U r):
 ∃g f cap vs,v= .slice (U ⟨g,0,S⟩) l.length cap/\J.L k=g::f/\VC (J.X (ZL d k)) w vs r/\(∀(j:W) (u:H),vs[j]? =U u->w.cell? ⟨g,i*n+j,S⟩=U u)/\∃s e,w.heap[g]? =U (.cells s e (0,0)):=by
 have m:l≠ []:=λe=>by subst e;simp at q
 have a:∀(g:W) (cur:uE H) (e:uG),w.heap[g]? =U (.cells cur e (0,0))->∀(j:W) (u:H),(((cur.toList.take (l.length*n)).drop (i*n)).take n)[j]? =U u->w.cell? ⟨g,i*n+j,S⟩=U u:=by
  intro g cur e c
  have:=Il (k:=n) (Ff (w:=w) (vs:=cur.toList.take (l.length*n)) (b:=g) (off:=0) (k:=i*n) (λj u o=>by
   rw[List.getElem?_take] at o;split at o
   . rw[yJ] at o;simp[World.cell?,c,o]
   cases o))
  simpa using this
 cases d with
 | true=>
   obtain⟨L',t,_,h3,x⟩:=h;generalize y:PV.slc n l=p at t;cases t with
   | int | bool | str | any | raw=>cases y
   | emp=>cases y;exact absurd rfl m
   | @slc g cap n' cur e L l' c hs z h5 h6=>
     cases y
     rcases x with x | ⟨g',r1,r2,e1,e2⟩
     . cases x
     cases e1
     have hv:=z.vr (X:=J.X (.vw k)) λb hb=> .inl (h3 b (zJ _ hb))
     exact⟨g,r2,cap,_,rfl,e2,(hv.get q).1,a g cur e c,cur,e,c⟩
 | false=>
   rcases h with⟨e,_⟩ | ⟨g,cap,cur,e,hL,rfl,c,hs,z,t,h2⟩
   . exact absurd e m
   exact⟨g, [],cap,_,rfl,hL,(z.get q).1,a g cur e c,cur,e,c⟩
theorem TN{tt:Y (W×TI)}(y:S6 P tt=O){a9:Orc}{op:Op}{a4:Y AV}{v:AV}{obs:Y Ob}(h:Qj5 tt a9 op a4=U (v,obs))(aa:AllOb A T obs)
 {o:Oper} (ho:o.op=op) {ρ:Operand->H} (hv:All2 (λx v=>AR J w (ρ x) v) op.operands.toList a4):
 ∃u,(execOp ρ o).run P w= .ok (.value u) w/\AR J w u v:=by
 unfold Qj5 at h;split at h
 ·rename_i t px pi d k n l kk i;split at h
  . rename_i e n' z q r hg;split at h
    . rename_i ei ab;cases m:zV ei.size n with
      | false=>rw[m] at h;cases h
      | true =>
        rw[m] at h;obtain⟨rfl,rfl⟩:AV.one (.ept d k n i.toNat 0 r)=v/\ [Ob.elem l i r]=obs:=by simpa using h
        obtain⟨h0,hl⟩:0<=i/\l[i.toNat]? =U r:=aa;have hu:=(Ji y hg).sli;have hs:=Cu (P:=P) (Ji y ab) w;have hn:ei.size=n:=by simpa using m
        cases hv with
        | cons h1 h2=>
          cases h2 with
          | cons h2 _=>
            obtain⟨e2,_⟩:=h2;obtain⟨g,b,cap,vs,e1,hL,a2,hc,s⟩:=Qpa h1 hl;have ai:i.toNat<l.length:=(List.getElem?_eq_some_iff.1 hl).1;have a5:i<(l.length:Int):=by omega
            refine⟨.pointer (U ⟨g,0+i.toNat*n,S⟩), ?_,g,b,vs,hL,by simp,a2,(λj u hj=>by simpa using hc j u hj),s⟩;simp[execOp,ho,e1,e2,Instr.indexAt,asIntOf,run_underlying hu,h0,a5,hs,hn,Addr.add_lit]
    cases h
  cases h
 ·rename_i t px f d k n i o' cs;cases hv with
  | cons h1 _=>
    obtain⟨g,b,vs,hL,e1,ad,hc,s⟩:=h1;split at h
    . rename_i of sz ag a1;cases hz:zV sz 0 with
      | true=>rw[hz] at h;cases h
      | false=>
        rw[hz] at h;obtain⟨rfl,rfl⟩:AV.one (.ept d k n i (o'+of) (cs.drop of))=v/\ []=obs:=by simpa using h
        unfold N7 at a1;split at a1
        . rename_i fs n1 z hg;obtain⟨gs,hu,ae⟩:=(Ji y hg).struct;obtain⟨fg,af,dd,k1,rfl,hi,rfl,hd,aj⟩:=YS ae a1;have ah:gs[f]? =U fg:=by simpa using k1
          refine⟨.pointer (U ⟨g,i*n+o'+fg.offset,S⟩), ?_,g,b,vs.drop fg.offset,hL,by rw[yY],ad.drop _, ?_,s⟩
          . have m:af.size≠0:=λe=>by rw[e] at hz;cases hz
            simp[execOp,ho,e1,Instr.fieldAt,run_underlying hu,ah,Instr.sureAddr,fieldPlace,sizeOf,A4 hi,m,Addr.add_lit]
          have:=Ff (k:=fg.offset) hc;simpa [yY] using this
        cases a1
    cases h
 ·rename_i px d k n i o' cs;obtain⟨rfl,rfl⟩:AV.one (.ept d k n i o' cs)=v/\ []=obs:=by simpa using h
  cases hv with
  | cons h1 _=>
    obtain⟨g,b,vs,hL,e1,hr⟩:=h1;exact⟨_,by simp[execOp,ho,e1],g,b,vs,hL,rfl,hr⟩
 ·rename_i t px d k n i o' cs;split at h
  . rename_i ti hg;cases a6:yK ti.size cs.length with
    | false=>rw[a6] at h;cases h
    | true =>
      rw[a6] at h;simp only[uF] at h;split at h
      . rename_i v' a7;obtain⟨rfl,rfl⟩:v'=v/\ []=obs:=by simpa using h
        cases hv with
        | cons h1 _=>
          obtain⟨g,b,vs,hL,e1,a2,hc,_⟩:=h1
          have a3:∀v p,VV (J.X (ZL d k)) w v p->CR J w v (IZ (ZL d k) p):=by
           intro v p hp;refine OW (X:=J.X (ZL d k)) (λc n l hc=>?_) hp;cases d with
           | true=>exact hc
           | false=>exact hc
          have a8:All2 (CR J w) (vs.take ti.size) ((cs.take ti.size).map (IZ (ZL d k))):=(VC.all2 (a2.take ti.size)).map (IZ (ZL d k)) λa p _ hp=>a3 a p hp
          obtain⟨u,hu,hr⟩:=CV (P:=P) (Ji y hg) a8 a7 (Il hc);exact⟨u,by simp[execOp,ho,e1,Instr.loadAt,Instr.sureAddr,hu],hr⟩
      cases h
  cases h
 cases h
end
end
section
open Go.RowKit
section
variable {X:W->Prop} {w w':I}
theorem OC.cut:∀(k:W) {L:Y W} {vs:Y H} {ps:Y PV},OC w L vs ps->∃L1 L2,L=L1++L2/\OC w L1 (vs.take k) (ps.take k)/\OC w L2 (vs.drop k) (ps.drop k)
 | 0,L,_,_,h=>⟨[],L,rfl,.nil,h⟩
 | _+1,_,_,_,.nil=>⟨[], [],rfl,.nil,.nil⟩
 | k+1,_,_,_,.cons h1 h2=>by
   obtain⟨L1,L2,rfl,a,b⟩:=OC.cut k h2;exact⟨_++L1,L2,(yG _ _ _).symm,.cons h1 a,b⟩
def Af(cs:Y H)(p:W)(a:Y H):Y H:=cs.take p++a++cs.drop (p+a.length)
theorem EI{ce cs vs:Y H}{p:W}:Af (ce++cs) (ce.length+p) vs=ce++Af cs p vs:=by
 unfold Af;rw[List.take_length_add_append,yY,List.drop_length_add_append];simp
theorem UY{ce cs a:Y H}{p:W}(h:p+a.length<=ce.length):Af (ce++cs) p a=Af ce p a++cs:=by
 unfold Af;rw[yC (by omega),List.drop_append_of_le_length (by omega)];simp
theorem VR.put{c:Y H}{ps:Y PV}(b:VC X w c ps){o:W}:∀{n:W} {cs:Y H} {l:Y (Y PV)},o+ps.length<=n->VR X w n cs l->∀i,VR X w n (if i<l.length then Af cs (i*n+o) c else cs) (setRow l i o ps)
 | _,_,_,_,.nil n,i=>by simp only[List.length_nil,Nat.not_lt_zero,if_false,setRow];exact .nil n
 | n,_,_,ho,.cons (ce:=ce) (cs:=cs) (r:=r) (l:=l) h1 h2 h3,0=>by
   have f:=VC.length b;have d:=VC.length h1;simp only[List.length_cons,Nat.zero_lt_succ,if_true,setRow,xB,yR];rw[UY (by omega)];refine .cons ?_ (by simp;omega) h3;unfold Af;rw[f];exact VC.append (VC.drop _ h1) (VC.append b (VC.take _ h1))
 | n, _,_,ho,.cons (ce:=ce) (cs:=cs) (r:=r) (l:=l) h1 h2 h3,i+1=>by
   have d:=VC.length h1;have a:=VR.put b ho h3 i;simp only[List.length_cons,yQ,setRow];by_cases e:i<l.length
   . rw[uB e] at a⊢;have:(i+1)*n+o=ce.length+(i*n+o):=by rw[d,h2,zZ,yM];omega
     rw[this,EI];exact .cons h1 h2 a
   rw[D e] at a⊢;exact .cons h1 h2 a
theorem OR.put{Lv:Y W}{s:Y H}{ps:Y PV}(t:OC w Lv s ps)(m:Lv.Nodup){o:W}:∀{n:W} {L:Y W} {cs:Y H} {l:Y (Y PV)},o+ps.length<=n->OR w n L cs l->L.Nodup->(∀b,b∈L->b∉Lv)->∀i,
 ∃k,OR w n k (if i<l.length then Af cs (i*n+o) s else cs) (setRow l i o ps)/\k.Nodup/\∀b,b∈k->b∈L\/b∈Lv
 | _,_,_,_,_,.nil n,_,_,i=>by simp only[List.length_nil,Nat.not_lt_zero,if_false,setRow];exact⟨[],.nil n,zO,λb hb=>by simp at hb⟩
 | n, _,_,_,ho,.cons (ce:=ce) (cs:=cs) (r:=r) (l:=l) (L1:=L1) (L2:=L2) h1 h2 h3,hnd,hdj,0=>by
   have e1:=OC.length t;have e2:=OC.length h1;obtain⟨g,j,a⟩:=zH.1 hnd;simp only[List.length_cons,Nat.zero_lt_succ,if_true,setRow,xB,yR];rw[UY (by omega)];obtain⟨u,A2,rfl,a1,a2⟩:=OC.cut o h1;obtain⟨M,B,rfl,_,b2⟩:=OC.cut s.length a2;rw[List.drop_drop,List.drop_drop] at b2;obtain⟨m1,m2,m3⟩:=zH.1 g;obtain⟨q1,q2,q3⟩:=zH.1 m2
   have p:OC w (u++(Lv++B)) (Af ce o s) (r.take o++ps++r.drop (o+ps.length)):=by
    unfold Af;rw[yG,yG,←e1];exact OC.append (OC.append b2 t) a1
   refine⟨(u++(Lv++B))++L2,.cons p (by simp;omega) h3, ?_,λb hb=>?_⟩
   . have d1:∀b,b∈u->b∉Lv:=λb hb=>hdj b (by simp[hb])
     have d2:∀b,b∈B->b∉Lv:=λb hb=>hdj b (by simp[hb])
     have d3:∀b,b∈L2->b∉Lv:=λb hb=>hdj b (by simp[hb])
     refine zH.2 ⟨zH.2 ⟨m1,zH.2 ⟨m,q2,λx hx y hy e=>d2 y hy (e▸hx)⟩,λx hx y hy e=>?_⟩,j,λx hx y hy e=>?_⟩
     . subst e;rcases zK.1 hy with hy | hy
       . exact d1 x hx hy
       exact m3 x hx x (zF _ hy) rfl
     subst e;rcases zK.1 hx with hx | hx
     . exact a x (zG _ hx) x hy rfl
     rcases zK.1 hx with hx | hx
     . exact d3 x hy hx
     exact a x (zF _ (zF _ hx)) x hy rfl
   simp only[zK] at hb⊢;rcases hb with(hb | hb | hb) | hb
   . exact .inl (.inl (.inl hb))
   . exact .inr hb
   . exact .inl (.inl (.inr (.inr hb)))
   exact .inl (.inr hb)
 | n, _,_,_,ho,.cons (ce:=ce) (cs:=cs) (r:=r) (l:=l) (L1:=L1) (L2:=L2) h1 h2 h3,hnd,hdj,i+1=>by
   have e2:=OC.length h1;obtain⟨g,j,a⟩:=zH.1 hnd;obtain⟨k,c,v,q⟩:=OR.put t m ho h3 j (λb hb=>hdj b (zF _ hb)) i
   have d:(L1++k).Nodup:=zH.2 ⟨g,v,λb hb b' z e=>by
    subst e;rcases q b z with h | h
    . exact a b hb b h rfl
    exact hdj b (zG _ hb) h⟩
   have f:∀b,b∈L1++k->b∈L1++L2\/b∈Lv:=λb hb=>by
    rcases zK.1 hb with hb | hb
    . exact .inl (zG _ hb)
    exact(q b hb).imp (zF _) id
   simp only[List.length_cons,yQ,setRow];by_cases hi:i<l.length
   . rw[uB hi] at c⊢;have:(i+1)*n+o=ce.length+(i*n+o):=by rw[e2,h2,zZ,yM];omega
     rw[this,EI];exact⟨_,.cons h1 h2 c,d,f⟩
   rw[D hi] at c⊢;exact⟨_,.cons h1 h2 c,d,f⟩
end
end
section
open Go.RowKit
def Qj6(tt:Y (W×TI)):Op->Y AV->uA (Res×Y Ob)
 | .store t _ _, [.one (.ept d k n i o pcs),v]=>
   (match get tt t,v.flatCells with
   | some ti,U cs=>(match Np cs with
     | some ps=>bif zV cs.length ti.size&&Dx cs&&yK (o+ti.size) n&&yO n 4294967296&&yK ti.size pcs.length&&yO 0 ti.size&&C3 (k::Qy cs)&&(Ru cs|| !d) then
      U (⟨.one .dead,(k,U (.put d n i o ps))::(bif d then W5 (Qy cs) else Yz (Qy cs)),S,S⟩, []) else S
     | none=>S)
   | _,_=>S)
 | _,_=>S
section
variable {P:uC} {N:W} {w0:Base} {F0:W->Prop} {J:Inj} {a:Act} {w:I} {s:St}
theorem Td{cur vs:Y H}{p:W}(h:p+vs.length<=cur.length):(Af cur p vs).length=cur.length:=by
 unfold Af;simp;omega
theorem Qde{a vs:Y H}{p m:W}(h:p+vs.length<=m)(c:m<=a.length):(Af a p vs).take m=Af (a.take m) p vs:=by
 have b:(a.take m).length=m:=by simp;omega
 have e:Af a p vs=Af (a.take m) p vs++a.drop m:=by
  rw[←UY (by omega),yV]
 rw[e,List.take_left' (by rw[Td (by omega),b])]
theorem Qhp{a b:Y H}{p m:W}(h:m<=p)(c:p<=a.length):(Af a p b).take m=a.take m:=by
 unfold Af;rw[yG,yC (by simp;omega),List.take_take,yU h]
theorem MK{a b:Y H}{i n o len cap:W}(e:a.length=cap*n)(f:len<=cap)(g:o+b.length<=n)(h:i*n+o+b.length<=a.length):
 (Af a (i*n+o) b).take (len*n)=if i<len then Af (a.take (len*n)) (i*n+o) b else a.take (len*n):=by
 have c:len*n<=a.length:=by rw[e];exact zS _ f
 by_cases d:i<len
 . rw[uB d];refine Qde ?_ c;have:(i+1)*n<=len*n:=zS _ d;rw[zZ,yM] at this;omega
 rw[D d];refine Qhp ?_ (by omega);have:len*n<=i*n:=zS _ (by omega);omega
theorem UZ(o:W)(ps:Y PV):∀(l:Y (Y PV)) (i:W),(setRow l i o ps).length=l.length
 | [],_=>rfl
 | _::_,0=>rfl
 | _::l,i+1=>uJ (· +1) (UZ o ps l i)
theorem TO : ∀ {cs :Y C} {ps:Y PV},Np cs=U ps->ps.length=cs.length
 | [], ps, h => by obtain rfl: []=ps:=by simpa [Np] using h
                   rfl
 | c::r,ps,h=>by
   simp only[Np] at h;split at h
   . rename_i p a d b;obtain rfl:=zD h;exact uJ (· +1) (TO b)
   cases h
theorem Qj7{cs:Y C}{ps:Y PV}(h:Np cs=U ps)(e:ps= [.any]):False:=by
 subst e;cases cs with
 | nil=>simp[Np] at h
 | cons c r=>
   simp only[Np] at h;split at h
   . rename_i p a b d;have h:=zD h;cases h
     cases c<;>simp[Qvx] at b
   cases h
theorem Qj8{tt : List (W×TI)}(b2:S6 P tt=O){o:Oper}{ao:Y AV}{r:Res}{obs:Y Ob}(h:Qj6 tt o.op ao=U (r,obs))(af:∀d,o.dst=U d->d<N)
 (f:Rel N w0 F0 J a w s) (ap:All2 (λx v=>IY s x=U v) o.op.operands.toList ao) {K:Act->I->Prop} {Q:Exit->Act->I->Prop}
 (hK:∀J' a' w',Rel N w0 F0 J' a' w' (s.step o.dst r)->K a' w'):o.wp P a w K Q:=by
 have hv:=Gl f ap;generalize ho:o.op=op at h hv;unfold Qj6 at h;split at h
 . rename_i t px py d k n i o' aq v;split at h
   . rename_i ti cs hg b3;split at h
     . rename_i ps hps;cases hc:(zV cs.length ti.size&&Dx cs&&yK (o'+ti.size) n&&yO n 4294967296&&yK ti.size aq.length&&yO 0 ti.size&&C3 (k::Qy cs)&&(Ru cs|| !d)) with
       | false=>rw[hc] at h;cases h
       | true =>
         rw[hc] at h;obtain⟨rfl,rfl⟩:(⟨.one .dead,(k,U (.put d n i o' ps))::(bif d then W5 (Qy cs) else Yz (Qy cs)),S,S⟩:Res)=r/\ []=obs:=by simpa using h
         simp only[zE,yH,Nat.ble_eq,yZ,yT,zT] at hc;obtain⟨⟨⟨⟨⟨⟨⟨c1,c2⟩,c3⟩,bg⟩,c4⟩,c5⟩,c6⟩,c7⟩:=hc
         have ag:∀l,Qs5 l i o' ps=setRow l i o' ps:=λl=>by
          unfold Qs5;cases hb:zV o' 4294967296 with
          | false=>rfl
          | true=>have:=Nat.eq_of_beq_eq_true hb;omega
         obtain⟨ar,au⟩:=zQ.1 (Fh.1 c6);cases hv with
         | cons h1 h2 =>
           cases h2 with
           | cons h2 _ =>
             obtain⟨g,rest,vs,hL,e1,b4,ah,a1,e,a2⟩:=h1;have a7:=Sg h2 b3 c2;generalize av:(a.eval py).cells.toList=us at a7;have hn:us.length=ti.size:=by rw[a7.length,c1]
             have a4:g∈J.L k:=by rw[hL];exact zL
             have bh:vs.length=aq.length:=b4.length
             have a3:i*n+o'+us.length<=a1.size:=by
              have hj:ti.size-1<vs.length:=by omega
              have:=ah (ti.size-1) vs[ti.size-1] (List.getElem?_eq_getElem hj);simp only[World.cell?,a2] at this;have h3:a1[i*n+o'+(ti.size-1)]? =U vs[ti.size-1]:=by simpa using this
              have:=(Array.getElem?_eq_some_iff.1 h3).1;omega
             have aw:=run_storeCells_at P g (i*n+o') e us 0 a1 w a2 (by simpa using a3) (XD a7 c2);simp only[xA] at aw;have b5:=Cu (P:=P) (Ji b2 hg) w
             have a8:(execOp a.eval o).run P w= .ok .skip (w.setRow g (Af a1.toList (i*n+o') us).toArray):=by
              have b6:(a.eval py).cells.size=ti.size:=by rw[←hn,←av];simp
              unfold Af;simp only[execOp,ho,Instr.storeAt,e1,Instr.sureAddr,storeVar,Sem.run_bind,Sem.run_pure,Result.andThen_ok,b5,b6,av];simp[aw]
             generalize a6:w.setRow g (Af a1.toList (i*n+o') us).toArray=w' at a8;have ax:w'.heap[g]? =U (.cells (Af a1.toList (i*n+o') us).toArray e (0,0)):=by rw[←a6];exact setRow_heap w g a1 _ e (0,0) a2
             have u:∀b,b≠g->w'.heap[b]? =w.heap[b]? :=λb hb=>by rw[←a6];exact setRow_other w g b _ hb
             have b7:w'.heap.size=w.heap.size:=by rw[←a6];simp[World.setRow]
             have b8:¬J.F g:=(f.lo k g a4).2.2;have hF:∀b,J.F b->w'.heap[b]? =w.heap[b]? :=λb hb=>u b λe=>b8 (e▸hb)
             have a9:∀x,x≠k->∀b,b∈J.L x->w'.heap[b]? =w.heap[b]? :=λx j b hb=>u b λe=>j (f.dj x k g (e▸hb) a4)
             have hbelow:w0.Keeps w':=by
              refine f.below.step (by rw[←a6];rfl) (by rw[←a6];rfl) (by rw[←a6];rfl) (by omega) λb _ b9=>u b λe=>?_
              exact b9 (e▸(f.lo k g a4).1)
             have be:ps.length=us.length:=by rw[TO hps,c1,hn]
             have ae:∀x,x∈Qy cs->x≠k:=λx j e=>ar (e▸j)
             have bf:∀(m:W),a1.size=m->a1.toList.length=m:=λm h=>by simpa using h
             cases d with
             | true =>
               have ai:Ru cs=O:=by simpa using c7
               have hget:∀x,get ((k,U (.put O n i o' ps))::(bif O then W5 (Qy cs) else Yz (Qy cs))) x=if x=k then U (U (.put O n i o' ps)) else if x∈Qy cs then U S else S:=λx=>by
                by_cases j:x=k
                . rw[uB j];simp[get,j]
                rw[D j,Ae j];exact Dc
               obtain⟨Lv,v1,v2,v3⟩:=PA (J:=J) (w':=w') a7 hps ai (KY f au) λx j b hb=>a9 x (ae x j) b hb
               have aj:∀b,b∈J.of cs->b∉J.L k:=λb hb q=>by
                obtain⟨x,j,hm⟩:=ZN hb;exact ae x j (f.dj x k b hm q)
               refine UV a8 (hK ⟨J.F,λx=>if x=k then J.L k++J.of cs else if x∈Qy cs then [] else J.L x,J.B⟩ _ _ (f.upd o.dst af _ undef hbelow ⟨λb hb=>⟨hb,hF b hb⟩,λx j=>?_,λx j=>?_,λx x' j=>?_,λx t j=>?_,λ_ _=>rfl,λx d1 m i1 o1 ba j=>?_⟩ ⟨λb hb=>?_,f.f0,λx=>?_,λx b hb=>?_,λx x' b hb q=>?_⟩ (λ_=>trivial) (λx c j _=>?_) (λx c j=>by cases j)))
               . rw[hget] at j;split at j
                 . cases j
                 rename_i h3;split at j
                 . cases j
                 rename_i h4;exact⟨by show(if _ then _ else _)=_;rw[D h3,D h4],a9 x h3⟩
               . rw[hget] at j;split at j
                 . cases j
                 split at j<;>cases j
               . rw[hget] at j;split at j
                 . cases j
                 split at j<;>cases j
               . rw[hget] at j;split at j
                 . exact .inr (.inr ⟨_,_,_,_,_,(zD (zD j)).symm⟩)
                 split at j<;>cases j
               . rw [hget] at j;split at j
                 . rename_i aa;subst aa;cases j
                   refine⟨λv l ak=>?_,λ_ e=>(Qj7 hps e).elim⟩;rw[ag];obtain⟨L',w1,w2,w3,w4⟩:=ak;show OwnDeep (if x=x then _ else _) w' v n _;rw[uB rfl];generalize hp:PV.slc n l=p at w1;cases w1 with
                   | int | bool | str | any | raw=>cases hp
                   | emp oa n'=>
                     cases hp
                     exact⟨[],.emp oa n,zO,(λb hb=>by simp at hb),.inl rfl⟩
                   | @slc g1 cap n' cur e2 L1 l' ab ad al h5 h6=>
                     cases hp
                     rcases w4 with w4 | ⟨g2,q1,q2,e3,e4⟩
                     . cases w4
                     cases e3
                     obtain⟨rfl,rfl⟩:g1=g/\q2=rest:=by rw[hL] at e4;cases e4;exact⟨rfl,rfl⟩
                     rw[a2] at ab;cases ab
                     obtain⟨n1,n2⟩:=zQ.1 w2;have am:OR w' n L1 (a1.toList.take (l.length*n)) l:=al.keep λb hb=>u b λe=>n1 (e▸hb)
                     obtain⟨L2,z1,z2,z3⟩:=OR.put v1 v2 (o:=o') (by omega) am n2 (λb hb q=>aj b (v3 b q) (w3 b (zJ _ hb))) i;rw[←MK (cap:=cap) (by simpa using ad) h5 (by omega) (by simpa using a3)] at z1;have a5:=UZ o' ps l i
                     have ay:g1∉L2:=λhm=>by
                      rcases z3 g1 hm with hm | hm
                      . exact n1 hm
                      exact aj g1 (v3 g1 hm) a4
                     refine⟨g1::L2, ?_,zQ.2 ⟨ay,z2⟩,λb hb=>?_,.inr ⟨g1,L2,q2++J.of cs,rfl,by rw[hL];rfl⟩⟩
                     . rw[←a5];refine .slc ax ?_ ?_ (by omega) (by rw[a5];exact h6)
                       . have:=Td (cur:=a1.toList) (vs:=us) (p:=i*n+o') (by simpa using a3);simpa [ad] using this
                       rw[a5];simpa using z1
                     rcases zM.1 hb with rfl | hb
                     . exact zG _ a4
                     rcases z3 b hb with hb | hb
                     . exact zG _ (w3 b (zJ _ hb))
                     exact zF _ (v3 b hb)
                 split at j<;>cases j
               . exact⟨by have:=(f.fl b hb).1;omega,(f.fl b hb).2⟩
               . show(if x=k then _ else _:Y W).Nodup;split
                 . exact zH.2 ⟨f.nd k,KY f au,λb hb b' q e=>aj b' q (e▸hb)⟩
                 split
                 . simp
                 exact f.nd x
               . have hb:b∈(if x=k then J.L k++J.of cs else if x∈Qy cs then [] else J.L x):=hb
                 have key:∀y,b∈J.L y->w0.lo (b)/\b<w'.heap.size/\¬J.F b:=λy hy=>by
                  obtain⟨h3,h4,h5⟩:=f.lo y b hy;exact⟨h3,by omega,h5⟩
                 split at hb
                 . rcases zK.1 hb with hb | hb
                   . exact key k hb
                   obtain⟨y,_,hm⟩:=ZN hb;exact key y hm
                 split at hb
                 . simp at hb
                 exact key x hb
               . have hb:b∈(if x=k then J.L k++J.of cs else if x∈Qy cs then [] else J.L x):=hb;have q:b∈(if x'=k then J.L k++J.of cs else if x'∈Qy cs then [] else J.L x'):=q
                 have key:∀y,y≠k->y∉Qy cs->b∈J.L y->b∈J.L k++J.of cs->False:=λy bb bc hy hm=>by
                  rcases zK.1 hm with hm | hm
                  . exact bb (f.dj y k b hy hm)
                  obtain⟨z,hz,hm⟩:=ZN hm;exact bc (f.dj y z b hy hm▸hz)
                 split at hb
                 . rename_i aa;split at q
                   . rename_i az;rw[aa,az]
                   rename_i h3;split at q
                   . simp at q
                   rename_i h4;exact(key x' h3 h4 q hb).elim
                 rename_i h3;split at hb
                 . simp at hb
                 rename_i h4;split at q
                 . exact(key x h3 h4 hb q).elim
                 split at q
                 . simp at q
                 exact f.dj x x' b hb q
               obtain⟨_,h3,h4,b1,e',h5,_⟩:=f.bo x c j;refine⟨by simp,h3,λy hm=>?_,u _ λe=>h4 k (e▸a4)⟩;have hm:J.B x∈(if y=k then J.L k++J.of cs else if y∈Qy cs then [] else J.L y):=hm;split at hm
               . rcases zK.1 hm with hm | hm
                 . exact h4 k hm
                 obtain⟨z,_,hm⟩:=ZN hm;exact h4 z hm
               split at hm
               . simp at hm
               exact h4 y hm
             | false=>
               have hget:∀x,get ((k,U (.put E n i o' ps))::(bif E then W5 (Qy cs) else Yz (Qy cs))) x=if x=k then U (U (.put E n i o' ps)) else if x∈Qy cs then U (U .sh) else S:=λx=>by
                by_cases j:x=k
                . rw[uB j];simp[get,j]
                rw[D j,Ae j];exact A9
               have bd:=KX (J:=J) (w':=w') (X:=λb=>J.F b\/∃x,x∈Qy cs/\b∈J.L x) a7 hps (λb hb=>⟨.inl hb,hF b hb⟩) λx j b hb=>⟨.inr ⟨x,j,hb⟩,a9 x (ae x j) b hb⟩
               refine UV a8 (hK ⟨λb=>J.F b\/∃x,x∈Qy cs/\b∈J.L x,λx=>if x∈Qy cs then [] else J.L x,J.B⟩ _ _ (f.upd o.dst af _ undef hbelow ⟨λb hb=>⟨.inl hb,hF b hb⟩,λx j=>?_,λx j b hb=>?_,λx x' j=>?_,λx t j=>?_,λ_ _=>rfl,λx d1 m i1 o1 ba j=>?_⟩ ⟨λb hb=>?_,λb hb=> .inl (f.f0 b hb),λx=>?_,λx b hb=>?_,λx x' b hb q=>?_⟩ (λ_=>trivial) (λx c j _=>?_) (λx c j=>by cases j)))
               . rw[hget] at j;split at j
                 . cases j
                 rename_i h3;split at j
                 . cases j
                 rename_i h4;exact⟨by show(if _ then _ else _)=_;rw[D h4],a9 x h3⟩
               . rw[hget] at j;split at j
                 . cases j
                 split at j
                 . rename_i h3;exact⟨.inr ⟨x,h3,hb⟩,a9 x (ae x h3) b hb⟩
                 cases j
               . rw[hget] at j;split at j
                 . cases j
                 split at j<;>cases j
               . rw[hget] at j;split at j
                 . exact .inr (.inr ⟨_,_,_,_,_,(zD (zD j)).symm⟩)
                 split at j
                 . exact .inl (zD (zD j)).symm
                 cases j
               . rw [hget] at j;split at j
                 . rename_i aa;subst aa;cases j
                   refine⟨λv l ak=>?_,λe=>by cases e⟩;rw[ag];show OwnTop _ (if x∈Qy cs then [] else J.L x) w' v n _;rw[D ar];rcases ak with⟨rfl,oa,rfl⟩ | ⟨g1,cap,cur,e2,an,rfl,ab,ad,al,h5,h6⟩
                   . exact .inl ⟨rfl,oa,rfl⟩
                   obtain rfl:g1=g:=by rw[hL] at an;cases an;rfl
                   rw[a2] at ab;cases ab
                   have am:VR (λb=>J.F b\/∃x,x∈Qy cs/\b∈J.L x) w' n (a1.toList.take (l.length*n)) l:=al.keep λb hb=>⟨.inl hb,hF b hb⟩
                   have z1:=VR.put bd (o:=o') (by omega) am i;rw[←MK (cap:=cap) (by simpa using ad) h5 (by omega) (by simpa using a3)] at z1;have a5:=UZ o' ps l i;refine .inr ⟨g1,cap,_,e,an,by rw[a5],ax, ?_,by rw[a5];simpa using z1,by omega,by rw[a5];exact h6⟩;have:=Td (cur:=a1.toList) (vs:=us) (p:=i*n+o') (by simpa using a3);simpa [ad] using this
                 split at j<;>cases j
               . rcases hb with hb | ⟨x,_,hb⟩
                 . exact⟨by have:=(f.fl b hb).1;omega,(f.fl b hb).2⟩
                 have:=f.lo x b hb;exact⟨by omega,.inr this.1⟩
               . show(if _ then _ else _:Y W).Nodup;split
                 . simp
                 exact f.nd x
               . have hb:b∈(if x∈Qy cs then [] else J.L x):=hb;split at hb
                 . simp at hb
                 rename_i h3;obtain⟨h4,h5,h6⟩:=f.lo x b hb;refine⟨h4,by omega,λhF=>?_⟩;rcases hF with hF | ⟨y,hy,hm⟩
                 . exact h6 hF
                 exact h3 (f.dj x y b hb hm▸hy)
               . have hb:b∈(if x∈Qy cs then [] else J.L x):=hb;have q:b∈(if x'∈Qy cs then [] else J.L x'):=q;split at hb
                 . simp at hb
                 split at q
                 . simp at q
                 exact f.dj x x' b hb q
               obtain⟨_,h3,h4,b1,e',h5,_⟩:=f.bo x c j;refine⟨by simp,λhF=>?_,λy hm=>?_,u _ λe=>h4 k (e▸a4)⟩
               . rcases hF with hF | ⟨y,_,hm⟩
                 . exact h3 hF
                 exact h4 y hm
               have hm:J.B x∈(if y∈Qy cs then [] else J.L y):=hm;split at hm
               . simp at hm
               exact h4 y hm
     cases h
   cases h
 cases h
end
end
section
open Go.RowKit
def Qdf:C->uA PV
 | .int k _=>U (.int k 0)
 | .bool _=>U (.bool E)
 | .str _=>U (.str ⟨#[]⟩)
 | .slc .emp n []=>U (.slc n [])
 | _=>S
def Qfp:Y C->uA (Y PV)
 | []=>U []
 | c::cs=>match Qdf c,Qfp cs with
   | some p,U ps=>U (p::ps)
   | _,_=>S
def Qtk(tt:Y (W×TI))(c:uA W):Op->Y AV->uA (Res×Y Ob)
 | .call ⟨.builtin .max,_,_⟩, [.one (.int k a),.one (.int k' b)]=>bif decide (k=k') then U (⟨.one (.int k (max a b)), [],S,S⟩, []) else S
 | .call ⟨.builtin .min,_,_⟩, [.one (.int k a),.one (.int k' b)]=>bif decide (k=k') then U (⟨.one (.int k (min a b)), [],S,S⟩, []) else S
 | .makeSlice t (.tmp i) (.tmp j), [.one (.int _ a),_]=>(match c,get tt t with
   | some d,U ⟨.sli e,_,_,_⟩=>(match get tt e with
     | some ei=>(match Qfp ei.zero with
       | some ps=>bif zV i j&&(zV ei.size ei.zero.length&&yO 0 ei.size) then U (⟨.one (.slc (.own O (64*d)) ei.size (yB a.toNat ps)), [(64*d,S)],S,S⟩, [.rng 0 a 1073741824]) else S
       | none=>S)
     | none=>S)
   | _,_=>S)
 | _,_=>S
section
variable {P:uC} {A:W->Y AV->AV->Prop} {T:TakeT} {N:W} {w0:Base} {F0:W->Prop} {J:Inj} {a:Act} {w:I} {s:St}
theorem Qv8{args:uE Operand}{x y:AV}(h:All2 (λo v=>AR J w (a.eval o) v) args.toList [x,y]):∃p q,args= #[p,q]/\AR J w (a.eval p) x/\AR J w (a.eval q) y:=by
 obtain⟨l⟩:=args;have h:All2 (λo v=>AR J w (a.eval o) v) l [x,y]:=h;cases h with
 | cons c b=>cases b with
   | cons b d=>cases d;exact⟨_,_,rfl,c,b⟩
theorem Qtl{k:IntKind}{x y:Int}(a:InR k x)(b:InR k y):InR k (max x y):=by
 rw[Int.max_def];split<;>assumption
theorem Qtm{k:IntKind}{x y:Int}(a:InR k x)(b:InR k y):InR k (min x y):=by
 rw[Int.min_def];split<;>assumption
theorem Qtn{v:H}{c:C}{p:PV}(a:KT v c=O)(h:Qdf c=U p)(w:I):OV w [] v p:=by
 unfold Qdf at h;split at h
 . obtain rfl:=zD h;cases v<;>simp[KT] at a
   rename_i f i;obtain⟨⟨rfl,rfl⟩,_⟩:=a;exact .int (by cases f<;>simp[InR,IntKind.min,IntKind.max,IntKind.bits,IntKind.signed])
 . obtain rfl:=zD h;cases v<;>simp[KT] at a
   obtain⟨rfl,_⟩:=a;exact .bool _
 . obtain rfl:=zD h;cases v<;>simp[KT] at a
   obtain⟨d,_⟩:=a;subst d;exact .str (by decide)
 . obtain rfl:=zD h;unfold KT at a;split at a<;>first | cases a | skip
   all_goals first | exact .emp _ _ | (rename_i b;cases b;exact .emp _ _) | (rename_i g e;cases e;exact .emp _ _) | (rename_i g e;cases e;done) | (rename_i b;cases b;done)
 cases h
theorem TP:∀{b:Y H} {a:Y C} {ps:Y PV},Du b a=O->Qfp a=U ps->(∀w,OC w [] b ps)/\ps.length=a.length/\b.length=a.length
 | [], [],ps,_,h=>by
   obtain rfl:=zD h;exact⟨λw=> .nil,rfl,rfl⟩
 | [],_::_,_,hz,_=>by simp[Du] at hz
 | _::_, [],_,hz,_=>by simp[Du] at hz
 | v::vs,c::cs,ps,hz,h=>by
   simp only[Du,zE] at hz;simp only[Qfp] at h;split at h
   . rename_i p d e f;obtain rfl:=zD h;obtain⟨g,i,j⟩:=TP hz.2 f;exact⟨λw=>OC.cons (L1:= []) (L2:= []) (Qtn hz.1 e w) (g w),by simp[i],by simp[j]⟩
   cases h
theorem BB{w:I}{n:W}{a:Y H}{ps:Y PV}(h:OC w [] a ps)(b:ps.length=n):∀k:W,OR w n [] (yB k a).flatten (yB k ps)
 | 0=> .nil n
 | k+1=>by
   rw[yN,yF,yN];exact OR.cons (L1:= []) (L2:= []) h b (BB h b k)
theorem TQ(z:uE H)(c:0<z.size):∀k:W,(madeCells z (k*z.size)).toList=(yB k z.toList).flatten
 | 0=>by simp[madeCells]
 | k +1=>by
   have a:=TQ z c k;have e:∀m,(madeCells z m).toList=(List.range m).map (z[· % z.size]!):=λm=>by simp[madeCells]
   rw[e] at a⊢;rw[yN,yF,←a,zZ,yM,Nat.add_comm,List.range_add,List.map_append,List.map_map]
   congr 1
   . refine List.ext_getElem (by simp) λi f d=>?_
     have b:i<z.size:=by simpa using d
     simp[Nat.mod_eq_of_lt b,b]
   refine List.map_congr_left λi _=>?_
   simp
theorem Qpb{tt:Y (W×TI)}(a3:S6 P tt=O){o:Oper}{a4:Y AV}{r:Res}{a5:Y Ob}(h:Qtk tt o.dst o.op a4=U (r,a5))(ag:AllOb A T a5)(m:∀d,o.dst=U d->d<N)
 (c:Rel N w0 F0 J a w s) (a6:All2 (λx v=>IY s x=U v) o.op.operands.toList a4) {K:Act->I->Prop} {Q:Exit->Act->I->Prop}
 (hK:∀J' a' w',Rel N w0 F0 J' a' w' (s.step o.dst r)->K a' w'):o.wp P a w K Q:=by
 have hv:=Gl c a6;generalize ho:o.op=op at h hv;generalize hd:o.dst=ao at h;unfold Qtk at h;split at h
 . rename_i args ah k x k' y;cases l:decide (k=k') with
   | false=>rw[l] at h;cases h
   | true=>
     rw[l] at h;obtain rfl:=uK l;simp only[uF,zN,zP] at h;obtain⟨rfl,rfl⟩:=h;have n:All2 (λx v=>AR J w (a.eval x) v) args.toList [.one (.int k x),.one (.int k y)]:=by simpa [Op.operands,Call.operands] using hv
     obtain⟨p,q,rfl,⟨e1,r1⟩,⟨e2,r2⟩⟩:=Qv8 n;have a7:(if y>x then y else x)=max x y:=by rw[Int.max_def];by_cases h:y>x<;>simp[h]<;>omega
     have f:(execOp a.eval o).run P w= .ok (.value (.int k (max x y))) w:=by
      simp[execOp,ho,resolve,invoke,builtin,Builtin.max_,Builtin.max2,e1,e2,a7]
     exact An f (hK J _ _ (c.pure o.dst m _ _ λ_=>⟨rfl,Qtl r1 r2⟩))
 . rename_i args ah k x k' y;cases l:decide (k=k') with
   | false=>rw[l] at h;cases h
   | true=>
     rw[l] at h;obtain rfl:=uK l;simp only[uF,zN,zP] at h;obtain⟨rfl,rfl⟩:=h;have n:All2 (λx v=>AR J w (a.eval x) v) args.toList [.one (.int k x),.one (.int k y)]:=by simpa [Op.operands,Call.operands] using hv
     obtain⟨p,q,rfl,⟨e1,r1⟩,⟨e2,r2⟩⟩:=Qv8 n;have a8:(if y<x then y else x)=min x y:=by rw[Int.min_def];by_cases h:y<x<;>simp[h]<;>omega
     have f:(execOp a.eval o).run P w= .ok (.value (.int k (min x y))) w:=by
      simp[execOp,ho,resolve,invoke,builtin,Builtin.min_,Builtin.min2,e1,e2,a8]
     exact An f (hK J _ _ (c.pure o.dst m _ _ λ_=>⟨rfl,Qtm r1 r2⟩))
 . rename_i t i j ik x y;split at h
   rotate_left
   . cases h
   rename_i d e n0 z0 q0 hg;split at h
   rotate_left
   . cases h
   rename_i ei ai;split at h
   rotate_left
   . cases h
   rename_i ps hp;cases hc:(zV i j&&(zV ei.size ei.zero.length&&yO 0 ei.size)) with
   | false=>rw[hc] at h;cases h
   | true=>
     rw[hc] at h;simp only[uF,zN,zP] at h;obtain⟨rfl,rfl⟩:=h;simp only[zE,yH] at hc;obtain⟨rfl,a9,a1⟩:=hc;have a1:0<ei.size:=Nat.le_of_ble_eq_true a1;obtain⟨h0,_,h2⟩:0<=(0:Int)/\0<=x/\x<=((1073741824:W):Int):=ag;rename_i V;have hu:=(Ji a3 hg).sli;obtain⟨a2,z,hi,hs,ap,hz,aq,aj⟩:=(Ji a3 ai).info;have n:All2 (λo v=>AR J w (a.eval o) v) [.tmp i,.tmp i] [.one (.int ik x),y]:=by simpa [Op.operands] using hv
     obtain⟨e1,_⟩:a.eval (.tmp i)= .int ik x/\InR ik x:=by cases n with | cons h1 _=>exact h1
     obtain⟨ak,al,am⟩:=TP aj hp;have an:z.cells.size=ei.size:=by rw[a9,←am];simp
     have u:(a2.bytes:Int)*x<=281474976710656:=by
      have h1:(a2.bytes:Int)*x<=1000*x:=Int.mul_le_mul_of_nonneg_right (by omega) V;omega
     have aa:=run_make (P:=P) (w:=w) t e a2 z hu hi hz ik ik x x V (Int.le_refl _) u (by omega);rw[hs] at aa
     have f:(execOp a.eval o).run P w= .ok (.value (.slice (U ⟨w.heap.size,0,S⟩) x.toNat x.toNat)) (w.alloc (.cells (madeCells z.cells (x.toNat*ei.size)) e)):=by
      simp[execOp,ho,e1,aa]
     refine An f ?_;rw[hd] at hK⊢;have hw:∀b,b<w.heap.size->(w.alloc (.cells (madeCells z.cells (x.toNat*ei.size)) e)).heap[b]? =w.heap[b]? :=λb hb=>Below.heap_alloc w _ b hb
     have ab:(w.alloc (.cells (madeCells z.cells (x.toNat*ei.size)) e)).heap[w.heap.size]? =U (.cells (madeCells z.cells (x.toNat*ei.size)) e (0,0)):=heap_alloc_new w _;have ar:(w.alloc (.cells (madeCells z.cells (x.toNat*ei.size)) e)).heap.size=w.heap.size+1:=by simp
     refine hK ⟨J.F,λk=>if k=64*d then [w.heap.size] else J.L k,J.B⟩ _ _ (c.grab (U d) (λd' e=>by cases e;exact m d hd) _ _ (64*d) [] rfl rfl (c.below.alloc c.below.size _) (by omega) rfl (λk l=>by simp[l])
      (λb hb=>hb) (λb hb=> .inl hb) (λk _ l=>by simp[get,Ne.symm l]) (λ_=>by simp[get]) (λk l=>by simp at l) (λb hb _=>hw b hb) (by simp) (λb hb=>?_) (λ_=>?_))
     . simp only[if_true,yE] at hb;subst hb;exact⟨by omega,.inl (zR _)⟩
     show OwnDeep (if 64*d=64*d then _ else _) _ _ _ _;rw[uB rfl];have g:(yB x.toNat ps).length=x.toNat:=by simp
     have ad:=BB (ak (w.alloc (.cells (madeCells z.cells (x.toNat*ei.size)) e))) (al.trans a9.symm) x.toNat;have ae:=TQ z.cells (by omega) x.toNat;rw[an] at ae;rw[←ae] at ad;have af:(madeCells z.cells (x.toNat*ei.size)).size=x.toNat*ei.size:=size_madeCells _ _
     have key:OV (w.alloc (.cells (madeCells z.cells (x.toNat*ei.size)) e)) [w.heap.size] (.slice (U ⟨w.heap.size,0,S⟩) (yB x.toNat ps).length x.toNat) (.slc ei.size (yB x.toNat ps)):=by
      refine OV.slc (L:= []) (cur:=madeCells z.cells (x.toNat*ei.size)) ab af ?_ (by rw[g];exact zR _) ⟨?_, ?_⟩
      . rw[g,yD (by simp[af])];exact ad
      . unfold uH;omega
      rw[g];omega
     rw[g] at key;exact .of key (by simp)
 cases h
end
end
section
open Go.RowKit
def EJ:Y (W×Y C)->Y W
 | []=> []
 | p::r=>Qy p.2++EJ r
def Qto(a:Orc)(bn:Y (W×Y C))(b:uA W):Op->Y AV->uA (Res×Y Ob)
 | .call ⟨.value _,_,_⟩,.one (.fn f []):: .one (.slc (.own d k) n l)::avs=>
   (match a,YR bn avs with
   | .take mix turn l',U args=>
     bif !(S7 k (Qy (Z4 avs)))&& !(S7 k (EJ bn))&&(!mix|| Cp ED (Z4 avs)) then
      (match turn,b with
      | true,_=>bif !d&& !mix then U (⟨.tup [], [(k,U (.put E n 0 4294967296 l'.flatten))],S,S⟩, [.take f n l args E O l']) else S
      | false,U t=>bif !(S7 (64*t) (Qy (Z4 avs))) then
       U (⟨.one (.slc (.own d (64*t)) n l'),(64*t,S)::(k,S)::(bif mix&& !d then Yz (Qy (Z4 avs)) else []),S,S⟩,.take f n l args mix E l'::(bif d then [.flat l,.flat l'] else []))
        else S
      | _,_=>S)
     else S
   | _,_=>S)
 | _,_=>S
section
variable {P:uC} {N:W} {w0:Base} {F0:W->Prop} {J:Inj} {a:Act} {w:I} {s:St}
theorem HC{k:W}{l:Y W}(h:S7 k l=E):k∉l:=λa=>by rw[Fg.2 a] at h;cases h
theorem Qfq:∀{bn:Y (W×Y C)} {k:W} {x:Y C},get bn k=U x->∀y,y∈Qy x->y∈EJ bn
 | [],_,_,h,_,_=>by simp[get] at h
 | (k',c)::r,k,x,h,y,hy=>by
   simp only[get] at h;simp only[EJ];split at h
   . obtain rfl:=zD h;exact zG _ hy
   exact zF _ (Qfq h y hy)
theorem Qpc{L:Y W}{v:H}{n:W}{l:Y (Y PV)}(h:OwnDeep L w v n l)(f:Ms l)(F:W->Prop):∃a,OwnTop F a w v n l/\(∀b,b∈a->b∈L)/\a.Nodup:=by
 obtain⟨a,d,k,i,m⟩:=h;generalize c:PV.slc n l=p at d;cases d with
 | int | bool | str | any | raw=>cases c
 | emp oa j=>
   cases c
   exact⟨[],.inl ⟨rfl,oa,rfl⟩,λb hb=>(by simp at hb),zO⟩
 | @slc g cap j cur e L1 l' hg hs hr h5 h6=>
   cases c
   refine⟨[g],.inr ⟨g,cap,cur,e,rfl,rfl,hg,hs, ?_,h5,h6⟩,λb hb=>?_,by simp⟩
   . have:=OR.vr (X:=λ_=>True) hr λ_ _=>trivial
     have:=VR.orr (w':=w) this f;exact OR.vr this λb hb=>(by simp at hb)
   obtain rfl:=yE.1 hb;exact i _ zL
theorem Qj9{F:W->Prop}{L:Y W}{v:H}{n:W}{l:Y (Y PV)}(h:OwnTop F L w v n l)(a:Ms l):OwnDeep L w v n l:=by
 rcases h with⟨rfl,oa,rfl⟩ | ⟨g,cap,cur,e,rfl,rfl,c,d,f,i,j⟩
 . exact⟨[],.emp oa n,zO,(λb hb=>by simp at hb),.inl rfl⟩
 exact⟨[g],.slc c d (VR.orr f a) i j,by simp,λb hb=>hb,.inr ⟨g, [], [],rfl,rfl⟩⟩
def KZ(J:Inj)(w w':I)(d k:W)(a c:Y W):Inj:=⟨λb=>J.F b\/(∃y,y∈a/\b∈J.L y)\/((w.heap.size<=b\/b∈J.L k)/\b<w'.heap.size/\b∉c),λx=>if x=d then c else if x∈k::a then [] else J.L x,J.B⟩
theorem EK(f:Rel N w0 F0 J a w s){t k n:W}(ht:t<N){frz L':Y W}(hk:k∉frz){w':I}{u:H}{l':Y (Y PV)}{d:uD}(hB:w0.Keeps w')(p:w.heap.size<=w'.heap.size)
 (v:∀b,b<w.heap.size->b∉J.L k->w'.heap[b]? =w.heap[b]?) (q:L'.Nodup) (l:∀b,b∈L'->b<w'.heap.size/\(w.heap.size<=b\/b∈J.L k)) (hv:CR (KZ J w w' (64*t) k frz L') w' u (.slc (.own d (64*t)) n l')):
 Rel N w0 F0 (KZ J w w' (64*t) k frz L') (a.put (U t) u) w' (s.step (U t) ⟨.one (.slc (.own d (64*t)) n l'),(64*t,S)::(k,S)::Yz frz,S,S⟩):=by
 have g:∀x,get ((64*t,S)::(k,S)::Yz frz) x=if x=64*t\/x=k then U S else if x∈frz then U (U .sh) else S:=λx=>by
  by_cases h1:x=64*t
  . rw[uB (.inl h1)];simp[get,h1]
  rw[Ae h1];by_cases i:x=k
  . rw[uB (.inr i)];simp[get,i]
  rw[Ae i,D (by simp[h1,i])];exact A9
 have c:(KZ J w w' (64*t) k frz L').L (64*t)=L':=uB rfl;refine f.grab3 (U t) (λd e=>by cases e;exact ht) _ u (64*t) (k::frz) rfl rfl hB p rfl (λx j=>D j) (λb hb=> .inl hb) (λb hb=>?_) (λx j r=>?_) (λ_=>?_) (λx j=>?_) (λb hb q=>v b hb (q k zL)) (by rw[c];exact q) (λb hb=>?_) (λ_=>hv)
 . rcases hb with hb | ⟨y,z,hb⟩ | ⟨h1,i,h3⟩
   . exact .inl hb
   rotate_left
   . rcases h1 with h1 | h1
     . exact .inr (.inr ⟨h1,i,by rw[c];exact h3⟩)
     exact .inr (.inl ⟨⟨k,zL ..,h1⟩,by rw[c];exact h3⟩)
   refine .inr (.inl ⟨⟨y,zJ _ z,hb⟩,λo=>?_⟩);rw[c] at o;have:=(f.lo y b hb).2.1;rcases(l b o).2 with h | h
   . omega
   exact hk (f.dj y k b hb h▸z)
 . show get ((64*t,S)::(k,S)::Yz frz) x=S;rw[g,D,D]
   . exact λh=>j (zJ _ h)
   rintro(h | h)
   . exact r h
   exact j (h▸zL)
 . show get ((64*t,S)::(k,S)::Yz frz) (64*t)=U S;rw[g,uB (.inl rfl)]
 . show get ((64*t,S)::(k,S)::Yz frz) x=_\/(get ((64*t,S)::(k,S)::Yz frz) x=_/\_)\/(get ((64*t,S)::(k,S)::Yz frz) x=_/\_);rw[g];by_cases h1:x=64*t\/x=k
   . rw[uB h1];exact .inl rfl
   have m:x∈frz:=(zM.1 j).resolve_left λe=>h1 (.inr e)
   rw[D h1,uB m];refine .inr (.inl ⟨rfl,λb hb=>⟨.inr (.inl ⟨x,m,hb⟩),v b (f.lo x b hb).2.1 λo=>?_⟩⟩);exact h1 (.inr (f.dj x k b hb o))
 rw[c] at hb;obtain⟨h1,i⟩:=l b hb;exact⟨h1,i.imp id λh=>⟨k,zL,h⟩⟩
theorem Qpd{ay:Orc}{bn:Y (W×Y C)}{o:Oper}{am:Y AV}{r:Res}{an:Y Ob}(h:Qto ay bn o.dst o.op am=U (r,an))(ao:AllOb (Jk P w0) (Uq P w0) an)(af:∀d,o.dst=U d->d<N)
 (g:Rel N w0 F0 J a w s) (ap:All2 (λx v=>IY s x=U v) o.op.operands.toList am) (az:∀k c,get bn k=U c->get s.bx k=U c) {K:Act->I->Prop} {Q:Exit->Act->I->Prop}
 (hK:∀J' a' w',Rel N w0 F0 J' a' w' (s.step o.dst r)->K a' w'):o.wp P a w K Q:=by
 have hv:=Gl g ap;generalize ho:o.op=op at h hv;generalize hd:o.dst=b1 at h;unfold Qto at h;split at h
 rotate_left
 . cases h
 rename_i x args bb f dp k n l j;split at h
 rotate_left
 . cases h
 rename_i p aq l' eas ag;cases hc:(!(S7 k (Qy (Z4 j)))&& !(S7 k (EJ bn))&&(!p|| Cp ED (Z4 j))) with
 | false=>rw[hc] at h;cases h
 | true =>
   rw[hc] at h;simp only[uF] at h;simp only[zE,zT,yT] at hc;obtain⟨⟨c1,c2⟩,c3⟩:=hc;have c1:=HC c1;have c2:=HC c2;have ah:All2 (λx v=>AR J w (a.eval x) v) (x::args.toList) (.one (.fn f []):: .one (.slc (.own dp k) n l)::j):=by simpa [Op.operands,Call.operands] using hv
   obtain⟨args⟩:=args;have ah:All2 (λx v=>AR J w (a.eval x) v) (x::args) (.one (.fn f []):: .one (.slc (.own dp k) n l)::j):=ah;cases ah with
   | cons q b2=>
   cases b2 with
   | @cons px _ rest _ hrow hrest=>
   have q:a.eval x= .func (.func f) #[] #[]:=by simpa [AR,CR] using q
   have a1:=g.lo k;have h0:=g.below.size
   let frz:=Qy (Z4 j)
   have hG:∃G:W->Prop,(∀b,J.F b->G b)/\(p=O->∀b,G b->J.F b\/∃y,y∈frz/\b∈J.L y)/\(∀b,G b->b<w.heap.size)/\(∀b,b∈J.L k->¬G b)/\(∀y,y∈frz->∀b,b∈J.L y->G b)/\All2 (AR (LA G) w) (rest.map a.eval) eas:=by
    by_cases hm:p=O
    . have c3:Cp ED (Z4 j)=O:=c3.resolve_left (by rw[hm];simp);refine⟨λb=>J.F b\/∃y,y∈frz/\b∈J.L y,λb hb=> .inl hb,λ_ b hb=>hb,λb hb=>hb.elim (λhb=>(g.fl b hb).1) λ⟨y,_,hb⟩=>(g.lo y b hb).2.1,λb hb hg=>?_,λy hy b hb=> .inr ⟨y,hy,hb⟩, ?_⟩
      . rcases hg with hg | ⟨y,hy,hg⟩
        . exact(a1 b hb).2.2 hg
        exact c1 (g.dj y k b hg hb▸hy)
      exact XG (λb hb=> .inl hb) (All2.of_map _ hrest) ag (λy hy b hb=> .inr ⟨y,hy,hb⟩) (.inl c3)
    refine⟨λb=>b<w.heap.size/\b∉J.L k,λb hb=>⟨(g.fl b hb).1,λhk=>(a1 b hk).2.2 hb⟩,λe=>absurd e hm,λb hb=>hb.1,λb hb hg=>hg.2 hb,λy hy b hb=>⟨(g.lo y b hb).2.1,λhk=>c1 (g.dj y k b hb hk▸hy)⟩, ?_⟩;refine XG (λb hb=>⟨(g.fl b hb).1,λhk=>(a1 b hk).2.2 hb⟩) (All2.of_map _ hrest) ag (λy hy b hb=>⟨(g.lo y b hb).2.1,λhk=>c1 (g.dj y k b hb hk▸hy)⟩) (.inr λy c hy=>?_);obtain⟨_,_,b3,b4,e,a8,ar⟩:=g.bo y c (az y c hy);refine⟨⟨Xy a8,b3 k⟩,λz hz b hb=>⟨(g.lo z b hb).2.1,λhk=>?_⟩,b4,e,a8,ar⟩;exact c2 (g.dj z k b hb hk▸Qfq hy z hz)
   obtain⟨G,g1,g2,g3,g4,g5,a6⟩:=hG
   have a7:(({toList:=px::rest}:uE Operand).map a.eval++ #[])=(a.eval px::rest.map a.eval).toArray:=by
    apply yS;simp
   cases aq with
   | true =>
     cases ab:(!dp&& !p) with
     | false=>rw[ab] at h;cases h
     | true =>
       rw[ab] at h;simp only[uF,zN,zP] at h;obtain⟨rfl,rfl⟩:=h;simp only[zE,zT] at ab;obtain⟨rfl,rfl⟩:=ab;obtain⟨ad,a3⟩:PC P w0 f n l eas E O l':=ao;have hC:=a3 w g.below J.F G (J.L k) (a.eval px) _ (λx q=>(a1 x q).1) g1 (λe=>by cases e) g3 (g.nd k) (λb hb=>⟨(a1 b hb).2.1,g4 b hb⟩) hrow a6;refine Tb ho q ad ?_;rw[a7];refine hC.mono λe w' a4=>?_
       obtain⟨u,rfl,hB,hS,rfl,hT⟩:=a4;have i:=hB 0 (zX _) λ_ _=>zX _
       have hbelow:w0.Keeps w':=g.below.step i.os i.tape i.output i.size λb hb a9=>hS b hb λhm=>a9 (a1 b hm).1
       have bc:=i.size
       have a5:∀x y,get [(k,U (Tok.put E n 0 4294967296 l'.flatten))] x=y->(x=k/\y=U (U (.put E n 0 4294967296 l'.flatten)))\/(x≠k/\y=S):=λx y hy=>by
        by_cases ai:x=k
        . subst ai;exact .inl ⟨rfl,by rw[←hy];simp[get]⟩
        rw[Ae ai] at hy;exact .inr ⟨ai,hy.symm⟩
       have b5:∀x,x≠k->∀b,b∈J.L x->w'.heap[b]? =w.heap[b]? :=λx q b hb=>hS b (g.lo x b hb).2.1 λhm=>q (g.dj x k b hb hm)
       show K (a.put o.dst _) w'
       refine hK J _ w' (g.upd (J':=J) (w':=w') o.dst af ⟨.tup [], [(k,U (.put E n 0 4294967296 l'.flatten))],S,S⟩ _ hbelow ⟨λb hb=>⟨hb,hS b (g.fl b hb).1 λhm=>(a1 b hm).2.2 hb⟩,λx q=>?_,λx q=>?_,λx x' q=>?_,λx t q=>?_,λ_ _=>rfl,λx d1 m i1 o1 bd q=>?_⟩
        ⟨λb hb=>⟨by have:=(g.fl b hb).1;omega,(g.fl b hb).2⟩,g.f0,g.nd,λx b hb=>?_,g.dj⟩ (λ_=>⟨[],rfl,.nil⟩) (λx c q _=>?_) (λx c q=>by cases q))
       . rcases a5 x _ q with⟨_,e⟩ | ⟨h1,_⟩
         . cases e
         exact⟨rfl,b5 x h1⟩
       . rcases a5 x _ q with⟨_,e⟩ | ⟨_,e⟩<;>cases e
       . rcases a5 x _ q with⟨_,e⟩ | ⟨_,e⟩<;>cases e
       . rcases a5 x _ q with⟨_,e⟩ | ⟨_,e⟩
         . cases e;exact .inr (.inr ⟨_,_,_,_,_,rfl⟩)
         cases e
       . rcases a5 x _ q with⟨rfl,e⟩ | ⟨_,e⟩
         . cases e
           exact⟨λv2 l2 b6=>hT v2 l2 b6,λe=>by cases e⟩
         cases e
       . obtain⟨h1,h2,h3⟩:=g.lo x b hb;exact⟨h1,by omega,h3⟩
       obtain⟨_,h3,h4,ba,e',h5,_⟩:=g.bo x c q;exact⟨by simp,h3,h4,hS _ (Xy h5) (h4 k)⟩
   | false =>
     cases b1 with
     | none=>cases h
     | some t=>
       simp only at h;cases hm:S7 (64*t) (Qy (Z4 j)) with
       | true=>rw[hm] at h;cases h
       | false=>
         rw[hm] at h;simp only[Bool.not_false,uF,zN,zP] at h;obtain⟨rfl,rfl⟩:=h;have hm:=HC hm;have ht:=af t hd;obtain⟨au,av⟩:=AllOb.cons ao;obtain⟨ad,a3⟩:PC P w0 f n l eas p E l':=au;cases dp with
         | true=>
           obtain⟨b7,b8⟩:Ms l/\Ms l':=av;obtain⟨L0,b9,a2,aw⟩:=Qpc hrow b7 G;have hC:=a3 w g.below G G L0 (a.eval px) _ (λx q=>(a1 x (a2 x q)).1) (λ_ h=>h) (λ_ _ h=>h) g3 aw (λb hb=>⟨(a1 b (a2 b hb)).2.1,g4 b (a2 b hb)⟩) b9 a6;refine Tb ho q ad ?_;rw[a7];refine hC.mono λe w' a4=>?_
           obtain⟨u,rfl,hB,hS,L',aj,ae,hT⟩:=a4;have i:=hB 0 (zX _) λ_ _=>zX _
           show K (a.put o.dst _) w';rw[hd] at hK⊢
           have aa:CR (KZ J w w' (64*t) k [] L') w' u (.slc (.own O (64*t)) n l'):=by
            show OwnDeep ((KZ J w w' (64*t) k [] L').L (64*t)) w' u n l';rw[show(KZ J w w' (64*t) k [] L').L (64*t)=L' from uB rfl];exact Qj9 hT b8
           have:=EK g (t:=t) (k:=k) (frz:= []) ht (by simp) (g.below.step i.os i.tape i.output i.size λb hb a9=>hS b hb λhm=>a9 (a1 b (a2 b hm)).1) i.size (λb hb hm=>hS b hb λh=>hm (a2 b h)) aj (λb hb=>⟨(ae b hb).1,(ae b hb).2.imp id (a2 b)⟩) aa;refine hK (KZ J w w' (64*t) k [] L') _ w' ?_;rw[show(bif p&& !O then Yz (Qy (Z4 j)) else [])=Yz [] by cases p<;>rfl];exact this
         | false=>
           have key:∀frz',(frz'= []/\p=E\/frz'=frz/\p=O)->∀J1:Inj,J1.F=(λb=>J.F b\/∃y,y∈frz'/\b∈J.L y)->∃F:W->Prop,(∀b,J.F b->F b)/\(∀b,F b->J1.F b)/\(∀b,F b->G b)/\(p=O->∀b,G b->F b):=λfrz' hz J1 ax=>by
            rcases hz with⟨rfl,ak⟩ | ⟨rfl,ak⟩
            . exact⟨J.F,λ_ h=>h,λb hb=>by rw[ax];exact .inl hb,g1,λe=>by rw[ak] at e;cases e⟩
            exact⟨G,g1,λb hb=>by rw[ax];exact g2 ak b hb,λ_ h=>h,λ_ _ h=>h⟩
           obtain⟨frz',hz,hfz⟩:∃frz',(frz'= []/\p=E\/frz'=frz/\p=O)/\(bif p&& !E then Yz (Qy (Z4 j)) else [])=Yz frz':=by
            cases p with
            | true=>exact⟨frz,.inr ⟨rfl,rfl⟩,rfl⟩
            | false=>exact⟨[],.inl ⟨rfl,rfl⟩,rfl⟩
           have al:∀y,y∈frz'->y∈frz:=λy hy=>by
            rcases hz with⟨rfl,_⟩ | ⟨rfl,_⟩
            . simp at hy
            exact hy
           obtain⟨F,f1,f2,f3,f4⟩:=key frz' hz ⟨λb=>J.F b\/∃y,y∈frz'/\b∈J.L y,λ_=> [],λ_=>0⟩ rfl;have hC:=a3 w g.below F G (J.L k) (a.eval px) _ (λx q=>(a1 x q).1) f3 f4 g3 (g.nd k) (λb hb=>⟨(a1 b hb).2.1,g4 b hb⟩) (OwnTop.keep hrow (λb hb=>⟨f1 b hb,rfl⟩) λ_ _=>rfl) a6;refine Tb ho q ad ?_;rw[a7];refine hC.mono λe w' a4=>?_
           obtain⟨u,rfl,hB,hS,L',aj,ae,hT⟩:=a4;have i:=hB 0 (zX _) λ_ _=>zX _
           show K (a.put o.dst _) w';rw[hd] at hK⊢
           have aa:CR (KZ J w w' (64*t) k frz' L') w' u (.slc (.own E (64*t)) n l'):=by
            show OwnTop _ ((KZ J w w' (64*t) k frz' L').L (64*t)) w' u n l';rw[show(KZ J w w' (64*t) k frz' L').L (64*t)=L' from uB rfl];exact OwnTop.keep hT (λb hb=>⟨hb.elim (λh=>(f2 b h).imp id .inl) λh=> .inr (.inr h),rfl⟩) λ_ _=>rfl
           have:=EK g (t:=t) (k:=k) (frz:=frz') ht (λh=>c1 (al _ h)) (g.below.step i.os i.tape i.output i.size λb hb a9=>hS b hb λhm=>a9 (a1 b hm).1) i.size hS aj ae aa;refine hK (KZ J w w' (64*t) k frz' L') _ w' ?_;rw[hfz];exact this
end
end
section
open Go.RowKit
def Qv9(i:W):C->C
 | .slc (.own O _) n l=> .slc (.own O i) n l
 | c=>c
def Qdg:W->Y C->Y C
 | _, []=> []
 | i,c::r=>Qv9 i c::Qdg (i+1) r
def TR:C->uA W
 | .slc (.own O k) _ _=>U k
 | _=>S
def BC(J:Inj):W->Y C->W->Y W
 | _, [],_=> []
 | i,c::r,j=>if j=i then(match TR c with
   | some k=>J.L k
   | none=> []) else BC J (i+1) r j
def Qtp(a:Orc)(bn:Y (W×Y C))(c:uA W):Op->Y AV->uA (Res×Y Ob)
 | .call ⟨.value _,_,_⟩,.one (.fn f []):: .one (.ptr b 0)::avs=>
   (match a,c,get bn b with
   | .give _ r cs',U d,U cs=>
     bif Cp Qoq cs&&C3 (Qy cs)&&Cp Qoq cs'&&Cp EC cs'&&C3 (Qy cs')&&Cp LB r.cells&&Cp LB (Z4 avs) then
      U (⟨r,W5 (Jg d (Qy cs'))++W5 (Qy cs),S,U (b,cs'.map (EB d))⟩, [.give f (Qdg 40 cs) avs r cs'])
     else S
   | _,_,_=>S)
 | _,_=>S
def Qor:Y W->W->W->W
 | [],_,i=>i
 | x::r,k,i=>if x=k then i else Qor r k (i+1)
def Qwa(a:Y W):C->C
 | .slc (.own O k) n l=>bif S7 k a then .slc (.own O (Qor a k 40)) n l else .slc .sh n l
 | .slc _ n l=> .slc .sh n l
 | c=>c
def Qhq(a:Y W):C->uD
 | .int _ _=>O
 | .bool _=>O
 | .str _=>O
 | .slc .sh _ _=>O
 | .slc .emp _ _=>O
 | .slc (.own O _) _ _=>O
 | .slc (.own E k) _ _=> !(S7 k a)
 | .slc (.vw k) _ _=> !(S7 k a)
 | _=>E
def TS(J:Inj):Y W->W->W->Y W
 | [],_,_=> []
 | x::r,i,j=>if j=i then J.L x else TS J r (i+1) j
def Qtq(a:Orc)(b:uA W):Op->Y AV->uA (Res×Y Ob)
 | .call ⟨.value _,_,_⟩,.one (.fn f [])::avs=>
   (match a,b with
   | .giv ks r,U d=>
    bif C3 ks&&Cp (Qhq ks) (Z4 avs)&&Cp Qv7 r.cells&&Cp EC r.cells&&C3 (Qy r.cells) then
     U (⟨r.map (EB d),W5 (Jg d (Qy r.cells))++W5 ks,S,S⟩, [.val f (avs.map (AV.map (Qwa ks))) r])
    else S
   | _,_=>S)
 | _,_=>S
section
variable {P:uC} {N:W} {w0:Base} {F0:W->Prop} {J:Inj} {a:Act} {w:I} {s:St}
theorem Qpe{J J':Inj}{w w':I}{v:H}{c:C}(h:CR J w v c)(a:LB c=O):CR J' w' v c:=by
 cases c with
 | int | bool | str=>exact h
 | _=>cases a
theorem Qka{J J':Inj}{w w':I}{v:H}{x:AV}(h:AR J w v x)(b:Cp LB x.cells=O):AR J' w' v x:=by
 have:=AR.map (J':=J') (w':=w') id h λu c d a=>Qpe a (B8 b c d)
 rwa [show x.map id=x by cases x<;>simp[AV.map]] at this
theorem Qfr(f:C->uD)(cs a:Y C):Cp f (cs++a)=(Cp f cs&&Cp f a):=by
 induction cs with
 | nil=>rfl
 | cons c cs b=>simp[Cp,b,Bool.and_assoc]
theorem Qdh{J J':Inj}{w w':I}:∀{vs:Y H} {xs:Y AV},All2 (AR J w) vs xs->Cp LB (Z4 xs)=O->All2 (AR J' w') vs xs
 | _,_,.nil,_=> .nil
 | _,_,.cons h1 h2,hp=>by
   simp only[Z4,Qfr,zE] at hp;exact .cons (Qka h1 hp.1) (Qdh h2 hp.2)
theorem CX{J:Inj}:∀{cs:Y C} {i j x:W},x∈BC J i cs j->∃k,k∈Qy cs/\x∈J.L k
 | [],i,j,x,h=>by simp[BC] at h
 | c :: r, i,j,x,h=>by
   simp only[BC] at h;simp only[Qy,zK];split at h
   . split at h
     . rename_i k a
       have:c.key=U k:=by
        cases c with
        | slc t n l=>cases t with
          | own d f=>cases d<;>simp_all [TR,C.key,Tok.key]
          | _=>cases a
        | _=>cases a
       exact⟨k,.inl (by rw[this];simp),h⟩
     simp at h
   obtain⟨k,b,e⟩:=CX h;exact⟨k,.inr b,e⟩
theorem Qkb{J:Inj}:∀{cs:Y C} {i j:W},j<i->BC J i cs j= []
 | [],i,j,_=>rfl
 | c::r,i,j,h=>by
   simp only[BC];rw[D (by omega)];exact Qkb (by omega)
theorem Qfs{J:Inj}:∀{cs:Y C} {i k x:W},Cp Qoq cs=O->k∈Qy cs->x∈J.L k->∃j,x∈BC J i cs j
 | [],i,k,x,_,h,_=>by simp[Qy] at h
 | c :: r, i,k,x,hb,h,hx=>by
   simp only[Cp,zE] at hb;simp only[Qy,zK] at h;rcases h with h | h
   . refine ⟨i, ?_⟩;simp only[BC,if_true];cases c with
     | slc t n l=>cases t with
       | own d k'=>cases d with
         | true=>
           obtain rfl:k=k':=by simpa [C.key,Tok.key] using h
           exact hx
         | false=>cases hb.1
       | sh=>simp[C.key,Tok.key] at h
       | _=>cases hb.1
     | int | bool | str=>simp[C.key] at h
     | _=>cases hb.1
   obtain⟨j,a⟩:=Qfs (i:=i+1) hb.2 h hx;refine⟨j, ?_⟩;simp only[BC];split
   . rename_i e;rw[e,Qkb (by omega)] at a;simp at a
   exact a
theorem Qdi(b:Rel N w0 F0 J a w s):∀(cs:Y C) (i j:W),(BC J i cs j).Nodup
 | [],i,j=>zO
 | c ::r,i,j=>by
   simp only[BC];split
   . split
     . exact b.nd _
     exact zO
   exact Qdi b r (i+1) j
theorem Qdj(b:Rel N w0 F0 J a w s):∀{cs:Y C} {i j m x:W},(Qy cs).Nodup->x∈BC J i cs j->x∈BC J i cs m->j=m
 | [],i,j,m,x,_,h,_=>by simp[BC] at h
 | c :: r,i,j,m,x,hn,h,h'=>by
   have f:∀k,TR c=U k->x∈J.L k->∀q,x∉BC J (i+1) r q:=λk g u q v=>by
    have o:c.key=U k:=by
     cases c with
     | slc t n l=>cases t with
       | own d k'=>cases d<;>simp_all [TR,C.key,Tok.key]
       | _=>cases g
     | _=>cases g
    obtain⟨y,z,h2⟩:=CX v;have e:=b.dj k y x u h2;subst e;simp only[Qy,o] at hn;exact(zQ.1 hn).1 z
   have p:(Qy r).Nodup:=by
    simp only[Qy] at hn;exact(zH.1 hn).2.1
   simp only[BC] at h h';split at h
   . rename_i e;split at h'
     . rename_i e';exact e.trans e'.symm
     split at h
     . rename_i k g;exact(f k g h _ h').elim
     simp at h
   split at h'
   . split at h'
     . rename_i k g;exact(f k g h' _ h).elim
     simp at h'
   exact Qdj b p h h'
theorem PE{F:W->Prop}{b:W}(a:∀x,J.F x->F x){L:W->Y W}:∀{vs:Y H} {cs:Y C} {i:W},All2 (CR J w) vs cs->Cp Qoq cs=O->(∀j,i<=j->L j=BC J i cs j)->All2 (CR (Qo8 F L b) w) vs (Qdg i cs)
 | _,_,_,.nil,_,_=> .nil
 | _, _, i,.cons (b:=c) (m:=r) h1 h2,hb,hL=>by
   simp only[Cp,zE] at hb;refine .cons ?_ (PE a h2 hb.2 λj f=>by rw[hL j (by omega)];simp only[BC];rw[D (by omega)]);cases c with
   | int | bool | str=>exact h1
   | slc t n l=>
     cases t with
     | sh=>exact VV.keep (X:=J.F) (λx e=>⟨a x e,rfl⟩) h1
     | own d k=>
       cases d with
       | true=>
         show OwnDeep (L i) w _ n l;rw[hL i (zR _)];simp only[BC,if_true,TR];exact h1
       | false=>cases hb.1
     | _=>cases hb.1
   | _=>cases hb.1
theorem Qkc:∀(a:Y W) (k i:W),i<=Qor a k i
 | [],_,_=>zR _
 | x::r,k,i=>by
   simp only[Qor];split
   . exact zR _
   have:=Qkc r k (i+1);omega
theorem Qdk{J:Inj}:∀{ks:Y W} {k i:W},k∈ks->TS J ks i (Qor ks k i)=J.L k
 | x::r,k,i,h=>by
   by_cases e:x=k
   . subst e;have a:Qor (x::r) x i=i:=uB rfl;rw[a];exact uB rfl
   have a:Qor (x::r) k i=Qor r k (i+1):=D e;have:=Qkc r k (i+1);rw[a];exact(D (by omega)).trans (Qdk ((zM.1 h).resolve_left λe'=>e e'.symm))
theorem PF{J:Inj}:∀{ks:Y W} {i j x:W},x∈TS J ks i j->∃k,k∈ks/\x∈J.L k
 | [],i,j,x,h=>by simp[TS] at h
 | y::r,i,j,x,h=>by
   simp only[TS] at h;split at h
   . exact⟨y,zL ..,h⟩
   obtain⟨k,a,b⟩:=PF h;exact⟨k,zJ _ a,b⟩
theorem Qkd(b:Rel N w0 F0 J a w s):∀(c:Y W) (i j:W),(TS J c i j).Nodup
 | [],_,_=>zO
 | y::r,i,j=>by
   simp only[TS];split
   . exact b.nd y
   exact Qkd b r (i+1) j
theorem Qke(b:Rel N w0 F0 J a w s):∀{ks:Y W} {i j d x:W},ks.Nodup->x∈TS J ks i j->x∈TS J ks i d->j=d
 | [],i,j,d,x,_,h,_=>by simp[TS] at h
 | y ::r,i,j,d,x,hn,h,h'=>by
   obtain⟨f,g⟩:=zQ.1 hn
   have c:x∈J.L y->∀q,x∉TS J r (i+1) q:=λk q l=>by
    obtain⟨m,n,o⟩:=PF l;exact f (by rw[b.dj y m x k o];exact n)
   simp only[TS] at h h';split at h
   . rename_i e;split at h'
     . rename_i e';exact e.trans e'.symm
     exact(c h _ h').elim
   split at h'
   . exact(c h' _ h).elim
   exact Qke b g h h'
theorem Qtr(m:Rel N w0 F0 J a w s){e:Y W}{F:W->Prop}(g:∀b,J.F b->F b)(i:∀k b,k∉e->b∈J.L k->F b){v:H}{c:C}(h:CR J w v c)(j:Qhq e c=O):CR (Qxq F (TS J e 40)) w v (Qwa e c):=by
 cases c with
 | int | bool | str=>exact h
 | slc t n l =>
   cases t with
   | sh=>exact VV.keep (X:=J.F) (λb hb=>⟨g b hb,rfl⟩) h
   | emp => obtain⟨rfl,oa,rfl⟩:=h
            exact .emp oa n (zX _)
   | own d k=>
     cases d with
     | true=>
       show CR _ w v (bif S7 k e then .slc (.own O (Qor e k 40)) n l else .slc .sh n l);cases f:S7 k e with
       | true=>
         show OwnDeep (TS J e 40 (Qor e k 40)) w v n l;rw[Qdk (Fg.1 f)];exact h
       | false=>exact OwnDeep.vv h λb hb=>⟨i k b (HC f) hb,rfl⟩
     | false=>
       have f:S7 k e=E:=by simpa [Qhq] using j
       exact OwnTop.vv h (λb hb=>⟨g b hb,rfl⟩) λb hb=>⟨i k b (HC f) hb,rfl⟩
   | vw k=>
     have f:S7 k e=E:=by simpa [Qhq] using j
     exact VV.keep (X:=J.X (.vw k)) (λb hb=>⟨hb.elim (i k b (HC f)) (g b),rfl⟩) h
   | put=>exact h.elim
 | _=>cases j
theorem TT(d:Rel N w0 F0 J a w s){e:Y W}{F:W->Prop}(g:∀b,J.F b->F b)(h:∀k b,k∉e->b∈J.L k->F b):∀{vs:Y H} {xs:Y AV},All2 (AR J w) vs xs->Cp (Qhq e) (Z4 xs)=O->All2 (AR (Qxq F (TS J e 40)) w) vs (xs.map (AV.map (Qwa e)))
 | _,_,.nil,_=> .nil
 | _,_,.cons h1 h2,hp=>by
   simp only[Z4,Qfr,zE] at hp;exact .cons (AR.map (Qwa e) h1 λu c i f=>Qtr d g h f (B8 hp.1 c i)) (TT d g h h2 hp.2)
theorem Mt{d:W}{e a:Y W}(x:W):get (W5 (Jg d e)++W5 a) x=if x∈Jg d e\/x∈a then U S else S:=by
 rw[UW,Dc];by_cases b:x∈Jg d e
 . rw[uB b,uB (Or.inl b)]
 rw[D b];show get (W5 a) x=_;rw[Dc];by_cases c:x∈a
 . rw[uB c,uB (Or.inr c)]
 rw[D c,D (by simp[b,c])]
theorem Qkf(f:Rel N w0 F0 J a w s)(d:W)(hd:d<N){r:AV}{gs:Y W}{L:W->Y W}{kb:W}{cs q:Y C}(a9:get s.bx kb=U cs)(ap:Cp LB r.cells=O)(aa:Cp Qoq q=O)(aq:Cp EC q=O)
 (hL:∀b,(∃j,b∈L j)↔∃k,k∈gs/\b∈J.L k) {e:Ending} {w':I} (ai:Qx1 J.F L (J.B kb) w r q e w'):
 ∃v J',e= .returned v/\Rel N w0 F0 J' (a.put (U d) v) w' (s.step (U d) ⟨r,W5 (Jg d (Qy q))++W5 gs,S,U (kb,q.map (EB d))⟩):=by
 obtain⟨v,L',rfl,ar,au,av,aw,hS,ax,aj,ay,hr,ak⟩:=ai;obtain⟨al,az,ab,b6,e0,b1,_⟩:=f.bo kb cs a9;have b7:=Xy b1;have h0:=f.below.size
 let IL:W->Prop:=λb=>∃j,b∈L j
 let J':Inj:=⟨λb=>J.F b\/((w.heap.size<=b\/IL b)/\b<w'.heap.size/\∀k,b∉L' k),λx=>if x∈Jg d (Qy q) then L' (x-64*d) else if x∈gs then [] else J.L x,J.B⟩
 have a1:∀b,IL b->b<w.heap.size/\w0.lo b/\¬J.F b/\b≠J.B kb:=λb hb=>by
  obtain⟨k,p,g⟩:=(hL b).1 hb;obtain⟨g1,g2,g3⟩:=f.lo k b g;exact⟨g2,g1,g3,λe=>ab k (e▸g)⟩
 have y:∀b,J.F b->b<w.heap.size/\b≠J.B kb/\¬IL b:=λb hb=>
  ⟨(f.fl b hb).1,λe=>az (e▸hb),λg=>(a1 b g).2.2.1 hb⟩
 have a8:∀b,b<w.heap.size->b≠J.B kb->¬IL b->w'.heap[b]? =w.heap[b]? :=λb h1 h2 h3=>hS b h1 h2 λj hj=>h3 ⟨j,hj⟩
 have ad:∀b,J.F b->w'.heap[b]? =w.heap[b]? :=λb hb=>a8 b (y b hb).1 (y b hb).2.1 (y b hb).2.2
 have ae:∀k,k∉gs->∀b,b∈J.L k->w'.heap[b]? =w.heap[b]? :=λk p b g=>a8 b (f.lo k b g).2.1 (λe=>ab k (e▸g)) λhl=>by
  obtain⟨k',a2,z⟩:=(hL b).1 hl;exact p (f.dj k k' b g z▸a2)
 have a4:∀k b,b∈J'.L k->(k∈Jg d (Qy q)/\b∈L' (k-64*d))\/(k∉Jg d (Qy q)/\k∉gs/\b∈J.L k):=λk b g=>by
  have g:b∈(if k∈Jg d (Qy q) then L' (k-64*d) else if k∈gs then [] else J.L k):=g;split at g
  . rename_i h1;exact .inl ⟨h1,g⟩
  split at g
  . simp at g
  rename_i h1 h2;exact .inr ⟨h1,h2,g⟩
 have a3:∀k b,b∈L' k->b<w'.heap.size/\w0.lo b/\b≠J.B kb/\¬J'.F b/\∀k',k'∉gs->b∉J.L k':=λk b g=>by
  obtain⟨g1,g2⟩:=aj k b g;have af:¬J.F b:=λhF=>g2.elim (λh=>by have:=(y b hF).1;omega) λh=>(y b hF).2.2 h
  refine⟨g1,g2.elim (λh=> .inl (by omega)) λh=>(a1 b h).2.1, ?_,λhF=>?_,λk' a2 z=>?_⟩
  . rintro rfl
    rcases g2 with h | h
    . omega
    exact(a1 _ h).2.2.2 rfl
  . rcases hF with hF | ⟨_,_,hn⟩
    . exact af hF
    exact hn k g
  rcases g2 with h | h
  . have:=(f.lo k' b z).2.1;omega
  obtain⟨k2,b2,b3⟩:=(hL b).1 h;exact a2 (f.dj k2 k' b b3 z▸b2)
 refine⟨v,J',rfl,f.upd (U d) (λd' e=>by cases e;exact hd) _ v (f.below.step ar au av aw λb hb hn=>a8 b hb (λe=>hn (e▸al)) λg=>hn (a1 b g).2.1)
  ⟨λb hb=>⟨.inl hb,ad b hb⟩,λk p=>?_,λk p b g=>?_,λk k' p=>?_,λk t p=>?_,(λ_ _=>rfl),λk d1 m i o b8 p=>by
   rw[Mt] at p;split at p<;>cases p⟩
  ⟨λb hb=>?_,λb hb=> .inl (f.f0 b hb),λk=>?_,λk b g=>?_,λk k' b g z=>?_⟩ (λ_=>Qka hr ap) (λk c p af=>?_) (λk c p=>?_)⟩
 . rw[Mt] at p;split at p
   . cases p
   rename_i h1;have h3:k∉Jg d (Qy q):=λh=>h1 (.inl h)
   have h4:k∉gs:=λh=>h1 (.inr h)
   exact⟨by show(if _ then _ else _)=_;rw[D h3,D h4],ae k h4⟩
 . rw[Mt] at p;split at p<;>cases p
 . rw[Mt] at p;split at p<;>cases p
 . rw[Mt] at p;split at p<;>cases p
 . rcases hb with hb | ⟨h1,h2,_⟩
   . exact⟨by have:=(y b hb).1;omega,(f.fl b hb).2⟩
   exact⟨h2,.inr (h1.elim (λh=> .inl (by omega)) λh=>(a1 b h).2.1)⟩
 . show(if _ then _ else _:Y W).Nodup;split
   . exact ax _
   split
   . simp
   exact f.nd k
 . rcases a4 k b g with⟨_,g⟩ | ⟨_,h2,g⟩
   . obtain⟨g1,g2,_,g4,_⟩:=a3 _ b g;exact⟨g2,g1,g4⟩
   obtain⟨g1,g2,g3⟩:=f.lo k b g;refine⟨g1,by omega,λhF=>?_⟩;rcases hF with hF | ⟨hF,_,_⟩
   . exact g3 hF
   rcases hF with hF | hF
   . omega
   obtain⟨k',a2,z⟩:=(hL b).1 hF;exact h2 (f.dj k k' b g z▸a2)
 . rcases a4 k b g with⟨h1,a5⟩ | ⟨h1,h2,a5⟩<;>rcases a4 k' b z with⟨h3,a6⟩ | ⟨h3,h4,a6⟩
   . have:=ay _ _ b a5 a6;obtain⟨j,_,rfl⟩:=D8.1 h1;obtain⟨j',_,rfl⟩:=D8.1 h3;omega
   . exact((a3 _ b a5).2.2.2.2 k' h4 a6).elim
   . exact((a3 _ b a6).2.2.2.2 k h2 a5).elim
   exact f.dj k k' b a5 a6
 . have b4:kb≠k:=af (kb,q.map (EB d)) rfl;obtain⟨_,g2,g3,am,e,g4,_⟩:=f.bo k c p;have b5:=Xy g4;have an:J.B k≠J.B kb:=λe=>b4 (f.bi k kb c cs p a9 e).symm
   have ag:¬IL (J.B k):=λg=>by obtain⟨k',_,z⟩:=(hL _).1 g;exact g3 k' z
   refine⟨by simp,λhF=>?_,λk' g=>?_,a8 _ b5 an ag⟩
   . rcases hF with hF | ⟨hF,_,_⟩
     . exact g2 hF
     rcases hF with hF | hF
     . omega
     exact ag hF
   rcases a4 k' _ g with⟨_,g⟩ | ⟨_,_,g⟩
   . rcases(aj _ _ g).2 with h | h
     . omega
     exact ag h
   exact g3 k' g
 simp only[zN,zP] at p;obtain⟨rfl,rfl⟩:=p;refine⟨al,λhF=>?_,λk' g=>?_, ?_,λk' c' a2 ao hB=>ao (f.bi k' kb c' cs a2 a9 hB)⟩
 . rcases hF with hF | ⟨hF,_,_⟩
   . exact(y _ hF).2.1 rfl
   rcases hF with hF | hF
   . have hF:w.heap.size<=J.B kb:=hF;omega
   exact(a1 _ hF).2.2.2 rfl
 . rcases a4 k' _ g with⟨_,g⟩ | ⟨_,_,g⟩
   . exact(a3 _ _ g).2.2.1 rfl
   exact ab k' g
 obtain⟨am,e,g1,g2⟩:=ak;refine⟨am,e,g1,g2.map (EB d) λu c hc ah=>?_⟩;have a7:=B8 aa c hc;cases c with
 | int | bool | str=>exact ah
 | slc t n l=>
   cases t with
   | sh=>exact VV.keep (X:=(Qj3 J.F L w w' L').F) (λb hb=>⟨hb,rfl⟩) ah
   | own b k=>
     cases b with
     | false=>cases a7
     | true=>
       show OwnDeep (if 64*d+k∈Jg d (Qy q) then L' (64*d+k-64*d) else _) w' u _ _;rw[uB (D8.2 ⟨k,Tc hc rfl,rfl⟩),yA];exact ah
   | _=>cases a7
 | _=>cases a7
theorem Qpf{a7:Orc}{bn:Y (W×Y C)}{o:Oper}{l:Y AV}{r:Res}{a1:Y Ob}(h:Qtp a7 bn o.dst o.op l=U (r,a1))(a8:AllOb (Jk P w0) (Uq P w0) a1)(a2:∀d,o.dst=U d->d<N)
 (i:Rel N w0 F0 J a w s) (a3:All2 (λx v=>IY s x=U v) o.op.operands.toList l) (a9:∀k c,get bn k=U c->get s.bx k=U c) {K:Act->I->Prop} {Q:Exit->Act->I->Prop}
 (hK:∀J' a' w',Rel N w0 F0 J' a' w' (s.step o.dst r)->K a' w'):o.wp P a w K Q:=by
 have hv:=Gl i a3;generalize ho:o.op=op at h hv;generalize hd:o.dst=ai at h;unfold Qtp at h;split at h
 rotate_left
 . cases h
 rename_i x args aj f b l;have t:All2 (λx v=>AR J w (a.eval x) v) (x::args.toList) (.one (.fn f []):: .one (.ptr b 0)::l):=by simpa [Op.operands,Call.operands] using hv
 obtain⟨args⟩:=args;have t:All2 (λx v=>AR J w (a.eval x) v) (x::args) (.one (.fn f []):: .one (.ptr b 0)::l):=t;cases t with
 | cons hx m=>
 have hx:a.eval x= .func (.func f) #[] #[]:=by simpa [AR,CR] using hx
 have u:(({toList:=args}:uE Operand).map a.eval++ #[])=(args.map a.eval).toArray:=by
  apply yS;simp
 split at h
 rotate_left
 . cases h
 rename_i g r' cs' d cs aa;cases hc:(Cp Qoq cs&&C3 (Qy cs)&&Cp Qoq cs'&&Cp EC cs'&&C3 (Qy cs')&&Cp LB r'.cells&&Cp LB (Z4 l)) with
 | false=>rw[hc] at h;cases h
 | true=>
   rw[hc] at h;simp only[uF,zN,zP] at h;obtain⟨rfl,rfl⟩:=h;simp only[zE] at hc;obtain⟨⟨⟨⟨⟨⟨c1,c2⟩,c3⟩,c4⟩,_⟩,c6⟩,c7⟩:=hc;have c2:=Fh.1 c2;obtain⟨ab,y⟩:Qdc P w0 f (Qdg 40 cs) l r' cs':=a8;cases m with
   | @cons px _ rest _ n m=>
   have n:a.eval px= .pointer (U ⟨J.B b,0,S⟩):=n;have a4:=a9 b cs aa;obtain⟨ad,ae,af,a5,e0,ag,ah⟩:=i.bo b cs a4;have q:∀j x,x∈BC J 40 cs j->∃k,k∈Qy cs/\x∈J.L k:=λj x hx=>CX hx
   have hC:=y w i.below J.F (BC J 40 cs) (J.B b) (rest.map a.eval) (λz hz=>hz.elim (λe=>e▸ad) λ⟨j,p⟩=>by obtain⟨k,_,p⟩:=q j z p;exact(i.lo k z p).1)
    ⟨λz hz=>(i.fl z hz).1,λk=>Qdi i cs 40 k,λj z hz=>by obtain⟨k,_,p⟩:=q j z hz;exact(i.lo k z p).2,λj j' z h1 h2=>Qdj i c2 h1 h2,ae,λj p=>by obtain⟨k,_,p⟩:=q j _ p;exact af k p⟩
    ⟨a5,e0,ag,PE (λ_ h=>h) ah c1 λ_ _=>rfl⟩ (Qdh (All2.of_map _ m) c7)
   refine Tb ho hx ab ?_;rw[u,yL,n];refine hC.mono λe w' a6=>?_
   obtain⟨v,J',rfl,hR⟩:=Qkf i d (a2 d hd) (gs:=Qy cs) a4 c6 c3 c4 (λz=>⟨λ⟨j,p⟩=>q j z p,λ⟨k,h1,h2⟩=>Qfs c1 h1 h2⟩) a6;rw[hd] at hK⊢;exact hK J' _ _ hR
theorem Qpg(f:Rel N w0 F0 J a w s)(d:W)(hd:d<N){r:AV}{ks:Y W}{L:W->Y W}(hL:∀b,(∃j,b∈L j)↔∃k,k∈ks/\b∈J.L k)(a9:Cp Qv7 r.cells=O)(ad:Cp EC r.cells=O){e:Ending}{w':I}(aa:Qx2 L w r e w'):
 ∃v J',e= .returned v/\Rel N w0 F0 J' (a.put (U d) v) w' (s.step (U d) ⟨r.map (EB d),W5 (Jg d (Qy r.cells))++W5 ks,S,S⟩):=by
 obtain⟨v,L',rfl,ae,af,ag,ah,hS,ai,aj,ak,hr⟩:=aa;have h0:=f.below.size
 let J':Inj:=⟨λb=>J.F b,λx=>if x∈Jg d (Qy r.cells) then L' (x-64*d) else if x∈ks then [] else J.L x,J.B⟩
 have a4:∀b j,b∈L j->∃k,k∈ks/\b∈J.L k:=λb j h=>(hL b).1 ⟨j,h⟩
 have a7:∀b,J.F b->w'.heap[b]? =w.heap[b]? :=λb hb=>hS b (f.fl b hb).1 λj g=>by
  obtain⟨k,_,g⟩:=a4 b j g;exact(f.lo k b g).2.2 hb
 have a8:∀k,k∉ks->∀b,b∈J.L k->w'.heap[b]? =w.heap[b]? :=λk p b g=>hS b (f.lo k b g).2.1 λj hl=>by
  obtain⟨k2,h2,hl⟩:=a4 b j hl;exact p (by rw[f.dj k k2 b g hl];exact h2)
 have a5:∀k b,b∈J'.L k->(k∈Jg d (Qy r.cells)/\b∈L' (k-64*d))\/(k∉Jg d (Qy r.cells)/\k∉ks/\b∈J.L k):=λk b g=>by
  have g:b∈(if k∈Jg d (Qy r.cells) then L' (k-64*d) else if k∈ks then [] else J.L k):=g;split at g
  . rename_i h1;exact .inl ⟨h1,g⟩
  split at g
  . simp at g
  rename_i h1 h2;exact .inr ⟨h1,h2,g⟩
 have y:∀k b,b∈L' k->b<w'.heap.size/\w0.lo b/\¬J.F b/\(∀q,q∉ks->b∉J.L q)/\∀kb c,get s.bx kb=U c->b≠J.B kb:=λk b g=>by
  obtain⟨g1,z⟩:=aj k b g;have z:w.heap.size<=b\/∃k,k∈ks/\b∈J.L k:=z.imp id λh=>(hL b).1 h
  refine⟨g1,z.elim (λh=> .inl (by omega)) λ⟨k,_,h⟩=>(f.lo k b h).1,λhF=>?_,λq al a6=>?_,λkb c am e=>?_⟩
  . rcases z with h | ⟨k,_,h⟩
    . have:=(f.fl b hF).1;omega
    exact(f.lo k b h).2.2 hF
  . rcases z with h | ⟨k,p,h⟩
    . have:=(f.lo q b a6).2.1;omega
    exact al (by rw[f.dj q k b a6 h];exact p)
  obtain⟨_,_,h3,an,ty,h4,_⟩:=f.bo kb c am;subst e;rcases z with h | ⟨k,_,h⟩
  . have:=Xy h4;omega
  exact h3 k h
 refine⟨v,J',rfl,f.upd (U d) (λd' e=>by cases e;exact hd) _ v (f.below.step ae af ag ah λb hb hn=>hS b hb λj g=>by
  obtain⟨k,_,g⟩:=a4 b j g;exact hn (f.lo k b g).1)
  ⟨λb hb=>⟨hb,a7 b hb⟩,λk p=>?_,λk p b g=>?_,λk q p=>?_,λk t p=>?_,(λ_ _=>rfl),λk d1 m i o ao p=>by
   rw[Mt] at p;split at p<;>cases p⟩
  ⟨λb hb=>⟨by have:=(f.fl b hb).1;omega,(f.fl b hb).2⟩,λb hb=>f.f0 b hb,λk=>?_,λk b g=>?_,λk q b g a6=>?_⟩ (λ_=>?_) (λk c p ap=>?_) (λk c p=>by cases p)⟩
 . rw[Mt] at p;split at p
   . cases p
   rename_i h1;have h3:k∉Jg d (Qy r.cells):=λh=>h1 (.inl h)
   have h4:k∉ks:=λh=>h1 (.inr h)
   exact⟨by show(if _ then _ else _)=_;rw[D h3,D h4],a8 k h4⟩
 . rw[Mt] at p;split at p<;>cases p
 . rw[Mt] at p;split at p<;>cases p
 . rw[Mt] at p;split at p<;>cases p
 . show(if _ then _ else _:Y W).Nodup;split
   . exact ai _
   split
   . simp
   exact f.nd k
 . rcases a5 k b g with⟨_,g⟩ | ⟨_,h2,g⟩
   . obtain⟨g1,z,g4,_⟩:=y _ b g;exact⟨z,g1,g4⟩
   obtain⟨g1,z,g3⟩:=f.lo k b g;exact⟨g1,by omega,g3⟩
 . rcases a5 k b g with⟨h1,a1⟩ | ⟨h1,h2,a1⟩<;>rcases a5 q b a6 with⟨h3,a2⟩ | ⟨h3,h4,a2⟩
   . have:=ak _ _ b a1 a2;obtain⟨j,_,rfl⟩:=D8.1 h1;obtain⟨j',_,rfl⟩:=D8.1 h3;omega
   . exact((y _ b a1).2.2.2.1 q h4 a2).elim
   . exact((y _ b a2).2.2.2.1 k h2 a1).elim
   exact f.dj k q b a1 a2
 . refine AR.map (EB d) hr λu c hc ab=>?_
   have a3:=B8 a9 c hc;cases c with
   | int | bool | str=>exact ab
   | slc t n l=>
     cases t with
     | own b k=>
       cases b with
       | false=>cases a3
       | true=>
         show OwnDeep (if 64*d+k∈Jg d (Qy r.cells) then L' (64*d+k-64*d) else _) w' u _ _;rw[uB (D8.2 ⟨k,Tc hc rfl,rfl⟩),yA];exact ab
     | _=>cases a3
   | _=>cases a3
 obtain⟨_,z,g3,an,e,g4,_⟩:=f.bo k c p
 refine⟨by simp,z,λq g=>?_,hS _ (Xy g4) λj g=>by
  obtain⟨q,_,g⟩:=a4 _ j g;exact g3 q g⟩
 rcases a5 q _ g with⟨_,g⟩ | ⟨_,_,g⟩
 . exact(y _ _ g).2.2.2.2 k c p rfl
 exact g3 q g
theorem Qph{a3:Orc}{o:Oper}{c:Y AV}{r:Res}{u:Y Ob}(h:Qtq a3 o.dst o.op c=U (r,u))(a4:AllOb (Jk P w0) (Uq P w0) u)(y:∀d,o.dst=U d->d<N)
 (b:Rel N w0 F0 J a w s) (a1:All2 (λx v=>IY s x=U v) o.op.operands.toList c) {K:Act->I->Prop} {Q:Exit->Act->I->Prop}
 (hK:∀J' a' w',Rel N w0 F0 J' a' w' (s.step o.dst r)->K a' w'):o.wp P a w K Q:=by
 have hv:=Gl b a1;generalize ho:o.op=op at h hv;generalize hd:o.dst=a6 at h;unfold Qtq at h;split at h
 rotate_left
 . cases h
 rename_i x args a7 f c;have l:All2 (λx v=>AR J w (a.eval x) v) (x::args.toList) (.one (.fn f [])::c):=by simpa [Op.operands,Call.operands] using hv
 obtain⟨args⟩:=args;have l:All2 (λx v=>AR J w (a.eval x) v) (x::args) (.one (.fn f [])::c):=l;cases l with
 | cons hx m=>
 have hx:a.eval x= .func (.func f) #[] #[]:=by simpa [AR,CR] using hx
 have n:(({toList:=args}:uE Operand).map a.eval++ #[])=(args.map a.eval).toArray:=by
  apply yS;simp
 split at h
 rotate_left
 . cases h
 rename_i i r' d;cases hc:(C3 i&&Cp (Qhq i) (Z4 c)&&Cp Qv7 r'.cells&&Cp EC r'.cells&&C3 (Qy r'.cells)) with
 | false=>rw[hc] at h;cases h
 | true=>
   rw[hc] at h;simp only[uF,zN,zP] at h;obtain⟨rfl,rfl⟩:=h;simp only[zE] at hc;obtain⟨⟨⟨⟨c0,c5⟩,c1⟩,c2⟩,_⟩:=hc;have c0:=Fh.1 c0;obtain⟨a5,p⟩:Qj4 P w0 f (c.map (AV.map (Qwa i))) r':=a4
   let F:W->Prop:=λz=>J.F z\/∃k,k∉i/\z∈J.L k
   have q:∀j x,x∈TS J i 40 j->∃k,k∈i/\x∈J.L k:=λj x hx=>PF hx
   have hC:=p w b.below F (TS J i 40) (args.map a.eval) (λz ⟨j,t⟩=>by obtain⟨k,_,g⟩:=q j z t;exact(b.lo k z g).1)
    ⟨λz (t:J.F z\/_)=>t.elim (λh=>(b.fl z h).1) λ⟨k,_,g⟩=>(b.lo k z g).2.1,λk=>Qkd b i 40 k,λj z t=>by
     obtain⟨k,hk,g⟩:=q j z t;exact⟨(b.lo k z g).2.1,λ(hF:J.F z\/_)=>hF.elim (b.lo k z g).2.2 λ⟨k',hn,hm'⟩=>hn (by rw[b.dj k' k z hm' g];exact hk)⟩,λj j' z h1 h2=>Qke b c0 h1 h2⟩
    (TT b (F:=F) (λz t=>Or.inl t) (λk z hn g=>Or.inr ⟨k,hn,g⟩) (All2.of_map _ m) c5)
   refine Tb ho hx a5 ?_;rw[n];refine hC.mono λe w' a2=>?_
   obtain⟨v,J',rfl,hR⟩:=Qpg b d (y d hd) (λz=>⟨λ⟨j,g⟩=>q j z g,λ⟨k,h1,h2⟩=>⟨_,by rw[Qdk h1];exact h2⟩⟩) c1 c2 a2;rw[hd] at hK⊢;exact hK J' _ _ hR
end
end
section
open Go.RowKit
def EL(tt:Y (W×TI))(a:Orc):Op->Y AV->uA (AV×Y Ob)
 | .slice t _ S hi S,.one (.slc (.own E k) n l)::r=>
   (match a,get tt t with
   | .cut l',U ⟨.sli e,_,_,_⟩=>(match get tt e,S9 l.length hi r with
     | some ei,U (b, [])=>bif zV ei.size n then U (.one (.slc (.own E k) n l'), [.eq (.one (.slc (.own E k) n ((l.take b.toNat).drop (xC 0)))) (.one (.slc (.own E k) n l')),.rng 0 b l.length]) else S
     | _,_=>S)
   | _,_=>S)
 | _,_=>S
section
variable {P:uC} {A:W->Y AV->AV->Prop} {T:TakeT} {J:Inj} {w:I}
theorem OwnTop.cut{F:W->Prop}{L:Y W}{i:uA Addr}{m a n b:W}{l:Y (Y PV)}(h:OwnTop F L w (.slice i m a) n l)(o:b<=l.length)(x:m=l.length):
 OwnTop F L w (.slice i b a) n (l.take b):=by
 rcases h with⟨rfl,q,e⟩ | ⟨g,c,cur,e,r,f,s,t,u,y,p⟩
 . have j:b=0:=by simpa using o
   have:=(Value.slice.inj e);obtain⟨f,v,k⟩:=this;subst j;exact .inl ⟨by simp,i,by rw[k]⟩
 obtain⟨f,v,k⟩:=Value.slice.inj f;subst f k;have d:(l.take b).length=b:=by simp;omega
 refine .inr ⟨g,a,cur,e,r,by rw[d],s,t, ?_,by omega,⟨p.1,by have:=p.2;omega⟩⟩;have:=u.take b;rw[d]
 rwa [List.take_take,yU (zS n o)] at this
theorem Qhr{tt:Y (W×TI)}(i:S6 P tt=O){a1:Orc}{op:Op}{j:Y AV}{v:AV}{obs:Y Ob}(h:EL tt a1 op j=U (v,obs))(a:AllOb A T obs)
 {o:Oper} (ho:o.op=op) {ρ:Operand->H} (hv:All2 (λx v=>AR J w (ρ x) v) op.operands.toList j):
 ∃u,(execOp ρ o).run P w= .ok (.value u) w/\AR J w u v:=by
 unfold EL at h;split at h
 . rename_i t px y k n l r;split at h
   . rename_i l' e n' z q hg;split at h
     . rename_i ei b a2 a3;cases d:zV ei.size n with
       | false=>rw[d] at h;cases h
       | true =>
         rw[d] at h;obtain⟨rfl,rfl⟩:AV.one (.slc (.own E k) n l')=v/\ [Ob.eq (.one (.slc (.own E k) n ((l.take b.toNat).drop (xC 0)))) (.one (.slc (.own E k) n l')),Ob.rng 0 b l.length]=obs:=by simpa using h
         obtain⟨f,a⟩:=AllOb.cons a;have f:AV.one (.slc (.own E k) n ((l.take b.toNat).drop (xC 0)))= .one (.slc (.own E k) n l'):=f;obtain⟨_,hab,hbl⟩:(0:Int)<=0/\0<=b/\b<=l.length:=a;have hu:=(Ji i hg).sli;have hs:=Cu (P:=P) (Ji i a2) w;have hn:ei.size=n:=by simpa using d
         have a4:All2 (λx v=>AR J w (ρ x) v) (px::(y.toArray.toList++ [])) (.one (.slc (.own E k) n l)::r):=by simpa [Op.operands] using hv
         cases a4 with
         | cons g h2=>
           obtain⟨_,m⟩:=Oz a3 h2;have g:CR J w (ρ px) (.slc (.own E k) n l):=g;obtain⟨oa,cap,e1,a7,a8,a6⟩:=KW g
           have a5:(Instr.sliceBounds O l.length cap S (y.map ρ) S).run P w= .ok (0,b.toNat,cap) w:=by
            have e3:∀c,(match (y.map ρ) with | some v=>Instr.sliceBound v cap c | none=>(pure l.length:Sem W)).run P w= .ok b.toNat w:=by
             intro c;rcases m with⟨rfl,rfl⟩ | ⟨x,k,rfl,hx⟩
             . simp
             simp only[Option.map_some,hx];exact YT (by omega) (by omega)
            unfold Instr.sliceBounds;simp only[Sem.run_bind,Sem.run_pure,Result.andThen_ok];have p:=e3 .sliceAcap;revert p;cases y.map ρ<;>simp<;>intro p<;>simp_all
           have s:(execOp ρ o).run P w= .ok (.value (.slice oa b.toNat cap)) w:=by
            have e4:(if cap=0 then oa else oa.map (·.add (0*n)))=oa:=by
             split
             . rfl
             cases oa<;>simp[Addr.add]
            simp[execOp,ho,e1,Instr.sliceAt,run_underlying hu,Instr.slice,a5,hs,hn];simpa using e4
           refine⟨_,s, ?_⟩;rw[←f];have g:OwnTop J.F (J.L k) w (ρ px) n l:=g;rw[e1] at g;have h3:=g.cut (b:=b.toNat) (by omega) rfl;show OwnTop J.F (J.L k) w _ n ((l.take b.toNat).drop (xC 0));simpa using h3
     cases h
   cases h
 cases h
end
end
end Go.Proofs.YtlipbhahenojhaaGreatDoor
