/- Texts of this proof, put together by a program: Zb, Gs. -/
import Derived.Test.YteleondjndkpbaaGreatDoorP1
import Derived.Great.BuildSlice
import Derived.Deep.AppendSrc
import Derived.Deep.DeepAppendWide
import Derived.Lib.SmallJoins
import Derived.Lib.LaidTab
import Derived.Lib.Space
import Derived.Lib.ItoaNum
import Derived.KernelRfl
import Derived.Laws.MakeOwn
set_option linter.unusedVariables false
set_option linter.unusedSimpArgs false
namespace Go.Proofs.YteleondjndkpbaaGreatDoor
open _root_ renaming List → Y, Nat → W, if_neg → D, Option → uA, if_pos → uB, Bool → uD, Array → uE, cond_true → uF, cond_false → uI, congrArg → uJ, of_decide_eq_true → uK
open _root_.Bool renaming true → O, false → E
open _root_.Go renaming World → I, Value → H, Program → uC, TypeId → uG, maxLen → uH
open _root_.Option renaming some → U, none → S
open _root_.Array renaming getElem?_toList → yK, ext' → yT, length_toList → yY
open _root_.Bool renaming and_eq_true → zE, not_eq_true' → zT, or_eq_true → yU
open _root_.Classical renaming byContradiction → zZ
open _root_.Int renaming toNat → xD
open _root_.List renaming mem_append_right → zF, mem_append_left → zG, nodup_append → zH, mem_cons_of_mem → zJ, mem_append → zK, mem_cons_self → zL, mem_cons → zM, nodup_nil → zO, nodup_cons → zQ, length_cons → zU, eq_nil_of_length_eq_zero → zV, replicate → yC, take_append_of_le_length → yD, take_of_length_le → yE, mem_singleton → yF, flatten_cons → yG, append_assoc → yH, length_append → yJ, map_cons → yM, replicate_succ → yO, take_append_drop → yW, take_left → yX
open _root_.Nat renaming le_refl → zR, mul_le_mul_right → zS, beq → zW, zero_le → zY, add_mul → yA, add_sub_cancel_left → yB, beq_eq → yI, ble → yL, one_mul → yN, blt → yP, le_trans → yQ, add_lt_add_iff_right → yR, zero_add → yS, min_eq_left → yV, add_assoc → yZ, blt_eq → xA, add_zero → xB, zero_mul → xC
open _root_.Option renaming map_eq_some_iff → zX
open _root_.Option.some renaming inj → zD, injEq → zN
open _root_.Prod.mk renaming injEq → zP
section
open Go.RowKit
theorem Cf {k:W}:∀{l:Y W},M2 k l=O↔k∈l
 | []=>by simp[M2]
 | x::r=>by
   simp only[M2,yU,yI,Cf (l:=r),zM];exact ⟨λh=>h.elim (λe=> .inl e.symm) .inr,λh=>h.elim (λe=> .inl e.symm) .inr⟩
theorem Cg:∀{l:Y W},Ae l=O↔l.Nodup
 | []=>by simp[Ae]
 | x::r=>by
   simp only[Ae,zE,zT,zQ,Cg (l:=r)];exact ⟨λh=>⟨λhm=>by rw[Cf.2 hm] at h;exact absurd h.1 (by simp),h.2⟩,λh=>⟨by cases hm:M2 x r with | false=>rfl | true=>exact absurd (Cf.1 hm) h.1,h.2⟩⟩
section
variable {N:W} {w0:Base} {F0:W->Prop} {J J':Inj} {a:Act} {w w':I} {s:St}
theorem Rel.grab3 (h:Rel N w0 F0 J a w s) (dst:uA W) (hdst:∀d,dst=U d->d<N) (r:Res) (v:H) (nk:W) (gone:Y W) (hkb:r.kb=S) (hbx:r.bx=S)
 (hb:w0.Keeps w') (hsz:w.heap.size<=w'.heap.size) (hB:J'.B=J.B) (hL:∀k,k≠nk->J'.L k=if k∈gone then [] else J.L k)
 (hF1:∀b,J.F b->J'.F b) (hF2:∀b,J'.F b->J.F b\/((∃k,k∈gone/\b∈J.L k)/\b∉J'.L nk)\/(w.heap.size<=b/\b<w'.heap.size/\b∉J'.L nk))
 (hrl:∀k,k∉gone->k≠nk->get r.rl k=S) (hnk:nk∉gone->get r.rl nk=U S)
 (hT:∀k,k∈gone->get r.rl k=U S\/(get r.rl k=U (U .sh)/\∀b,b∈J.L k->J'.F b/\w'.heap[b]? =w.heap[b]?)\/(get r.rl k=U (U (.vw nk))/\∀b,b∈J.L k->(b∈J'.L nk\/J'.F b)/\w'.heap[b]? =w.heap[b]?))
 (hS:∀b,b<w.heap.size->(∀k,k∈gone->b∉J.L k)->w'.heap[b]? =w.heap[b]?)
 (hN1:(J'.L nk).Nodup) (hN2:∀b,b∈J'.L nk->b<w'.heap.size/\(w.heap.size<=b\/∃k,k∈gone/\b∈J.L k))
 (hv:dst≠S->AR J' w' v r.av):Rel N w0 F0 J' (a.put dst v) w' (s.step dst r):=by
 have hnot:∀b,J.F b->∀k,b∉J.L k:=λb hF k hm=>(h.lo k b hm).2.2 hF
 have hFn:∀b,J'.F b->b∉J'.L nk:=λb hF hm=>by
  rcases hF2 b hF with hF | ⟨_,hn⟩ | ⟨_,_,hn⟩
  . rcases (hN2 b hm).2 with hge | ⟨k,_,hk⟩
    . have:=(h.fl b hF).1;omega
    exact hnot b hF k hk
  . exact hn hm
  exact hn hm
 have h0:w0.w.heap.size<=w.heap.size:=h.below.size
 refine h.upd dst hdst r v hb ⟨λb hF=>⟨hF1 b hF,hS b (h.fl b hF).1 λk _=>hnot b hF k⟩,λk hk=> ?_,λk hk b hm=> ?_,λk k' hk b hm=> ?_,λk t hk=> ?_,λk _=>by rw[hB],λk d m i o cs hk=>by
  have hg:k∈gone:=zZ λhg=>by
   by_cases hn:k=nk
   . subst hn;rw[hnk hg] at hk;cases hk
   rw[hrl k hg hn] at hk;cases hk
  rcases hT k hg with e | ⟨e,_⟩ | ⟨e,_⟩<;>rw[e] at hk<;>cases hk⟩
  ⟨λb hF=> ?_,λb hF=>hF1 b (h.f0 b hF),λk=> ?_,λk b hm=> ?_,λk k' b hm hm'=> ?_⟩ hv (λk c hk _=> ?_) (λk c hk=>by rw[hbx] at hk;cases hk) (λk e=>by rw[hkb] at e;cases e)
 . have hg:k∉gone:=λhg=>by
    rcases hT k hg with e | ⟨e,_⟩ | ⟨e,_⟩<;>rw[e] at hk<;>cases hk
   have hn:k≠nk:=λe=>by subst e;rw[hnk hg] at hk;cases hk
   refine ⟨by rw[hL k hn,D hg],λb hm=>hS b (h.lo k b hm).2.1 λk' hk' hm'=> ?_⟩;exact hg (h.dj k k' b hm hm'▸hk')
 . have hg:k∈gone:=zZ λhg=>by
    by_cases hn:k=nk
    . subst hn;rw[hnk hg] at hk;cases hk
    rw[hrl k hg hn] at hk;cases hk
   rcases hT k hg with e | ⟨_,e⟩ | ⟨e,_⟩
   . rw[e] at hk;cases hk
   . exact e b hm
   rw[e] at hk;cases hk
 . have hg:k∈gone:=zZ λhg=>by
    by_cases hn:k=nk
    . subst hn;rw[hnk hg] at hk;cases hk
    rw[hrl k hg hn] at hk;cases hk
   rcases hT k hg with e | ⟨e,_⟩ | ⟨e',e⟩
   . rw[e] at hk;cases hk
   . rw[e] at hk;cases hk
   rw[e'] at hk;obtain rfl:nk=k':=by simpa using hk
   exact e b hm
 . have hg:k∈gone:=zZ λhg=>by
    by_cases hn:k=nk
    . subst hn;rw[hnk hg] at hk;cases hk
    rw[hrl k hg hn] at hk;cases hk
   rcases hT k hg with e | ⟨e,_⟩ | ⟨e,_⟩<;>rw[e] at hk
   . cases hk
   . exact .inl (by simpa using hk.symm)
   exact .inr (.inl ⟨nk,by simpa using hk.symm⟩)
 . rcases hF2 b hF with hF | ⟨⟨k,_,hm⟩,_⟩ | ⟨h1,h2,_⟩
   . have:=h.fl b hF;exact ⟨by omega,this.2⟩
   . have:=h.lo k b hm;exact ⟨by omega,.inr this.1⟩
   exact ⟨h2,.inr (.inl (by omega))⟩
 . by_cases hk:k=nk
   . rw[hk];exact hN1
   rw[hL k hk];split
   . simp
   exact h.nd k
 . by_cases hk:k=nk
   . subst hk;obtain ⟨h1,h2⟩:=hN2 b hm;refine ⟨?_,h1,λhF=>hFn b hF hm⟩;rcases h2 with h2 | ⟨k',_,hm'⟩
     . exact .inl (by omega)
     exact (h.lo k' b hm').1
   rw[hL k hk] at hm;split at hm
   . simp at hm
   rename_i hg;obtain ⟨h1,h2,h3⟩:=h.lo k b hm;refine ⟨h1,by omega,λhF=> ?_⟩;rcases hF2 b hF with hF | ⟨⟨k',hg',hm'⟩,_⟩ | ⟨h4,_,_⟩
   . exact h3 hF
   . exact hg (h.dj k k' b hm hm'▸hg')
   omega
 . have key:∀k,k≠nk->b∈J'.L nk->b∈J'.L k->False:=λk hk h1 h2=>by
    rw[hL k hk] at h2;split at h2
    . simp at h2
    rename_i hg;rcases (hN2 b h1).2 with hge | ⟨k',hg',hm'⟩
    . have:=(h.lo k b h2).2.1;omega
    exact hg (h.dj k k' b h2 hm'▸hg')
   by_cases hk:k=nk
   . by_cases hk':k'=nk
     . rw[hk,hk']
     subst hk;exact (key k' hk' hm hm').elim
   by_cases hk':k'=nk
   . subst hk';exact (key k hk hm' hm).elim
   rw[hL k hk] at hm;rw[hL k' hk'] at hm';split at hm
   . simp at hm
   split at hm'
   . simp at hm'
   exact h.dj k k' b hm hm'
 obtain ⟨h1,h2,h3,arr,e,h4,_⟩:=h.bo k c hk;refine ⟨by rw[hkb];simp,λhF=> ?_,λk' hm=> ?_,hS _ (Xe h4) λk' _=>h3 k'⟩
 . rcases hF2 _ hF with hF | ⟨⟨k',_,hm⟩,_⟩ | ⟨h9,_,_⟩
   . exact h2 hF
   . exact h3 k' hm
   have:=Xe h4;omega
 by_cases hk':k'=nk
 . subst hk';rcases (hN2 _ hm).2 with hge | ⟨k'',_,hm'⟩
   . have:=Xe h4;omega
   exact h3 k'' hm'
 rw[hL k' hk'] at hm;split at hm
 . simp at hm
 exact h3 k' hm
theorem Rel.grab (h:Rel N w0 F0 J a w s) (dst:uA W) (hdst:∀d,dst=U d->d<N) (r:Res) (v:H) (nk:W) (gone:Y W) (hkb:r.kb=S) (hbx:r.bx=S)
 (hb:w0.Keeps w') (hsz:w.heap.size<=w'.heap.size) (hB:J'.B=J.B) (hL:∀k,k≠nk->J'.L k=if k∈gone then [] else J.L k)
 (hF1:∀b,J.F b->J'.F b) (hF2:∀b,J'.F b->J.F b\/(∃k,k∈gone/\b∈J.L k)/\b∉J'.L nk)
 (hrl:∀k,k∉gone->k≠nk->get r.rl k=S) (hnk:nk∉gone->get r.rl nk=U S)
 (hT:∀k,k∈gone->get r.rl k=U S\/(get r.rl k=U (U .sh)/\∀b,b∈J.L k->J'.F b/\w'.heap[b]? =w.heap[b]?)\/(get r.rl k=U (U (.vw nk))/\∀b,b∈J.L k->(b∈J'.L nk\/J'.F b)/\w'.heap[b]? =w.heap[b]?))
 (hS:∀b,b<w.heap.size->(∀k,k∈gone->b∉J.L k)->w'.heap[b]? =w.heap[b]?)
 (hN1:(J'.L nk).Nodup) (hN2:∀b,b∈J'.L nk->b<w'.heap.size/\(w.heap.size<=b\/∃k,k∈gone/\b∈J.L k))
 (hv:dst≠S->AR J' w' v r.av):Rel N w0 F0 J' (a.put dst v) w' (s.step dst r):=
 h.grab3 dst hdst r v nk gone hkb hbx hb hsz hB hL hF1 (λb hb=>(hF2 b hb).imp id .inl) hrl hnk hT hS hN1 hN2 hv
def Inj.box (J:Inj) (d b:W):Inj:=⟨J.F,J.L,λk=>if k=d then b else J.B k⟩
theorem Keeps.box {c:C} (hc:Ou c=O) (hw:∀b,b<w.heap.size->w'.heap[b]? =w.heap[b]?) (h:Rel N w0 F0 J a w s) (d b:W):Keeps J (J.box d b) w w' c:=by
 refine ⟨λx hx=>⟨hx,hw x (h.fl x hx).1⟩,λk _=>⟨rfl,λx hx=>hw x (h.lo k x hx).2.1⟩,λk hk=> ?_⟩;cases c<;>simp_all [C.bkeys,Ou]
theorem All2.box {vs:Y H} {cs:Y C} (hv:All2 (CR J w) vs cs) (hc:H3 Ou cs=O) (hw:∀b,b<w.heap.size->w'.heap[b]? =w.heap[b]?) (h:Rel N w0 F0 J a w s) (d b:W):All2 (CR (J.box d b) w') vs cs:=by
 induction hv with
 | nil=>exact .nil
 | cons h1 _ ih=>
   simp only[H3,zE] at hc;exact .cons (h1.keep (Keeps.box hc.1 hw h d b)) (ih hc.2)
theorem Rel.alloc (h:Rel N w0 F0 J a w s) (d:W) (hd:d<N) (arr:uE H) (e:uG) (cs:Y C) (hc:H3 Ou cs=O) (hv:All2 (CR J w) arr.toList cs):
 Rel N w0 F0 (J.box d w.heap.size) (a.put (U d) (.pointer (U ⟨w.heap.size,0,S⟩))) (w.alloc (.cells arr e (0,0))) (s.step (U d) ⟨.one (.ptr d 0), [],U d,U (d,cs)⟩):=by
 have hw:∀b,b<w.heap.size->(w.alloc (.cells arr e (0,0))).heap[b]? =w.heap[b]? :=λb hb=>Below.heap_alloc w _ b hb
 have h0:=h.below.size;have hz:(w.alloc (.cells arr e (0,0))).heap.size=w.heap.size+1:=by simp
 refine h.upd (U d) (λd' e=>by cases e;exact hd) _ _ (h.below.alloc h0 _) ⟨λb hb=>⟨hb,hw b (h.fl b hb).1⟩,λk _=>⟨rfl,λb hb=>hw b (h.lo k b hb).2.1⟩,(λ_ hk=>by cases hk),(λ_ _ hk=>by cases hk),(λ_ _ hk=>by cases hk),(λk hk=> ?_),(λ_ _ _ _ _ _ hk=>by cases hk)⟩
  ⟨λb hb=>⟨by have:=(h.fl b hb).1;omega,(h.fl b hb).2⟩,h.f0,h.nd,λk b hb=>⟨(h.lo k b hb).1,by have:=(h.lo k b hb).2.1;omega,(h.lo k b hb).2.2⟩,h.dj⟩ (λ_=> ?_) (λk c hk hne=> ?_) (λk c hk=> ?_) (λk e=>by cases e;exact hd)
 . show (if k=d then _ else J.B k)=J.B k;rw[D (λe=>hk (by simp[e]))]
 . show Value.pointer _=_;simp[Inj.box]
 . have hkd:k≠d:=λe=>hne (d,cs) rfl e.symm
   obtain ⟨h1,h2,h3,arr',e',h4,_⟩:=h.bo k c hk;exact ⟨by simpa using λe=>hkd e.symm,h2,h3,hw _ (Xe h4)⟩
 simp only[zN,zP] at hk;obtain ⟨rfl,rfl⟩:=hk;have hBd:(J.box d w.heap.size).B d=w.heap.size:=by simp[Inj.box]
 rw[hBd];refine ⟨.inl h0,λhF=>by have:=(h.fl _ hF).1;omega,λk' hm=>by have:=(h.lo k' _ hm).2.1;omega,⟨arr,e,heap_alloc_new w _,hv.box hc hw h d _⟩,λk' c' hk' _ hB=> ?_⟩;obtain ⟨_,_,_,arr',e',h4,_⟩:=h.bo k' c' hk';have:=Xe h4;omega
theorem Rel.store (h:Rel N w0 F0 J a w s) (dst:uA W) (hdst:∀d,dst=U d->d<N) (k:W) (cells cs:Y C) (hk:get s.bx k=U cells) (arr arr':uE H) (e:uG) (hg:w.heap[J.B k]? =U (.cells arr e (0,0)))
 (hw:w'.heap[J.B k]? =U (.cells arr' e (0,0))) (hw':∀b,b≠J.B k->w'.heap[b]? =w.heap[b]?) (ho:w'.os=w.os) (ht:w'.tape=w.tape) (hu:w'.output=w.output) (hz:w'.heap.size=w.heap.size) (hv:All2 (CR J w) arr'.toList cs) (v:H):
 Rel N w0 F0 J (a.put dst v) w' (s.step dst ⟨.one .dead, [],S,U (k,cs)⟩):=by
 obtain ⟨hb0,hbF,hbL,_⟩:=h.bo k cells hk;have hF:∀b,J.F b->w'.heap[b]? =w.heap[b]? :=λb hb=>hw' b λe=>hbF (e▸hb)
 have hL:∀k' b,b∈J.L k'->w'.heap[b]? =w.heap[b]? :=λk' b hb=>hw' b λe=>hbL k' (e▸hb)
 have hkeep:∀c,Keeps J J w w' c:=λc=>⟨λb hb=>⟨hb,hF b hb⟩,λk' _=>⟨rfl,hL k'⟩,λ_ _=>rfl⟩
 refine h.upd dst hdst _ v (h.below.step ho ht hu (by omega) λb _ hb=>hw' b λe=>hb (e▸hb0)) ⟨λb hb=>⟨hb,hF b hb⟩,λk' _=>⟨rfl,hL k'⟩,(λ_ hk=>by cases hk),(λ_ _ hk=>by cases hk),(λ_ _ hk=>by cases hk),(λ_ _=>rfl),(λ_ _ _ _ _ _ hk=>by cases hk)⟩
  ⟨λb hb=>⟨by have:=(h.fl b hb).1;omega,(h.fl b hb).2⟩,h.f0,h.nd,λk b hb=>⟨(h.lo k b hb).1,by have:=(h.lo k b hb).2.1;omega,(h.lo k b hb).2.2⟩,h.dj⟩ (λ_=>trivial) (λk' c' hk' hne=> ?_) (λk' c' hk'=> ?_)
 . have hkk:k≠k':=hne (k,cs) rfl;obtain ⟨_,h2,h3,_⟩:=h.bo k' c' hk';exact ⟨by simp,h2,h3,hw' _ λe=>hkk (h.bi k' k c' cells hk' hk e).symm⟩
 simp only[zN,zP] at hk';obtain ⟨rfl,rfl⟩:=hk';refine ⟨hb0,hbF,hbL,⟨arr',e,hw,hv.imp λx c _ hc=>hc.keep (hkeep c)⟩,λk' c' hk' hne hB=> ?_⟩;exact hne (h.bi k' k c' cells hk' hk hB)
end
end
section
open Go.RowKit
def Qle (tt:Y (W×TI)) (bn:Y (W×Y C)) (dst:uA W):Op->Y AV->uA (Res×Y Ob)
 | .alloc t, []=>
   (match dst,get tt t with
   | some d,U ti=>bif H3 Ou ti.zero then U (⟨.one (.ptr d 0), [],U d,U (d,ti.zero)⟩, []) else S
   | _,_=>S)
 | .box _ _, [v]=>
   (match dst,v.flatCells with
   | some d,U cs=>bif A7 cs&&H3 Ou cs then U (⟨.one (.ptr d 0), [],U d,U (d,cs)⟩, []) else S
   | _,_=>S)
 | .store t _ _, [.one (.ptr k off),v]=>
   (match get tt t,get bn k,v.flatCells with
   | some ti,U cells,U cs=>bif zW cs.length ti.size&&A7 cs&&yL (off+ti.size) cells.length then U (⟨.one .dead, [],S,U (k,cells.take off++cs++cells.drop (off+ti.size))⟩, []) else S
   | _,_,_=>S)
 | .buildSlice t len ps,avs=>
   (match dst,get tt t,Sq 0 ps.toList avs with
   | some d,U ⟨.sli e,_,_,_⟩,U css=>(match get tt e,GL css with
     | some ei,U rows=>bif zW css.length len&&VF ei.size css&&yL (len*ei.size) 1000&&yP 0 ei.size&& !(M2 (64*d) (Qv css.flatten))&&Ae (Qv css.flatten) then
      U (bif Lu css.flatten then ⟨.one (.slc (.own O (64*d)) ei.size rows),(64*d,S)::XT (64*d) (Qv css.flatten),S,S⟩
       else ⟨.one (.slc (.own E (64*d)) ei.size rows),(64*d,S)::X5 (Qv css.flatten),S,S⟩, [])
       else S
     | _,_=>S)
   | _,_,_=>S)
 | _,_=>S
section
variable {P:uC} {N:W} {w0:Base} {F0:W->Prop} {J:Inj} {a:Act} {w:I} {s:St}
theorem Ua {o:Oper} {K:Act->I->Prop} {Q:Exit->Act->I->Prop} {v:H} {w':I} (h:(execOp a.eval o).run P w= .ok (.value v) w') (k:K (a.put o.dst v) w'):o.wp P a w K Q:=by
 unfold Oper.wp;rw[h];exact k
theorem XU {o:Oper} {K:Act->I->Prop} {Q:Exit->Act->I->Prop} {w':I} (h:(execOp a.eval o).run P w= .ok .skip w') (k:K (a.put o.dst undef) w'):o.wp P a w K Q:=by
 unfold Oper.wp;rw[h];exact k
theorem Qa0 {v:H} {x:AV} (h:NX v=U x):AR J w v x:=by
 unfold NX at h;split at h
 . rename_i k n;cases hb:(decide (k.min<=n)&&decide (n<=k.max)) with
   | false=>rw[hb] at h;cases h
   | true=>
     rw[hb] at h;obtain rfl:=zD h;simp at hb;exact ⟨rfl,hb⟩
 . obtain rfl:=zD h;rfl
 . rename_i t;cases hb:yL t.size 1000000 with
   | false=>rw[hb] at h;cases h
   | true=>
     rw[hb] at h;obtain rfl:=zD h;exact ⟨rfl,yQ (by simpa using hb) (by decide)⟩
 . obtain rfl:=zD h;exact ⟨rfl,S,rfl⟩
 . obtain rfl:=zD h;exact trivial
 cases h
theorem Qlf (h:Rel N w0 F0 J a w s) {x:Operand} {v:AV} (hx:AA s x=U v):AR J w (a.eval x) v:=by
 cases x with
 | tmp t=>exact h.tm t v hx
 | const c=>exact Qa0 hx
 | func f=>obtain rfl:=zD hx;rfl
 | global g=>cases hx
theorem Db (h:Rel N w0 F0 J a w s) {xs:Y Operand} {vs:Y AV} (hx:All2 (λx v=>AA s x=U v) xs vs):All2 (λx v=>AR J w (a.eval x) v) xs vs:=hx.imp λ_ _ _ hv=>Qlf h hv
theorem RZ {n:W}:∀(vs:Y H) (i:W) (cells:uE H),(∀v,v∈vs->v.cells.size=n)->cells.size=(i+vs.length)*n->
 ∃out,Instr.fill (λi=>U (i*n,n)) cells ((List.range' i vs.length).zip vs)=U out/\out.toList=cells.toList.take (i*n)++vs.flatMap (·.cells.toList)
 | [],i,cells,_,hs=>⟨cells,rfl,by simp;rw[yE (by simp[hs])]⟩
 | v ::vs,i,cells,hn,hs=>by
   have hvn:=hn v zL
   have hfit:i*n+v.cells.toList.length<=cells.size:=by
    simp only[yY,hvn,hs,zU];have:(i+1)*n<=(i+(vs.length+1))*n:=zS _ (by omega);rw[yA,yN] at this;exact this
   have hput:=VK v.cells.toList (i*n) 0 cells hfit;rw[xB] at hput
   have hput':v.cells.zipIdx.foldl (λcs x=>cs.setIfInBounds (i*n+x.2) x.1) cells=putCells cells (i*n) v.cells.toList:=by
    rw[←hput,←Array.foldl_toList];simp
   obtain ⟨out,h1,h2⟩:=RZ (n:=n) vs (i+1) (putCells cells (i*n) v.cells.toList) (λu hu=>hn u (zJ _ hu)) (by rw[G6,hs,zU];congr 1;omega);refine ⟨out, ?_, ?_⟩
   . simp only[zU,List.range'_succ,List.zip_cons_cons,Instr.fill];rw[D (by simp[hvn];simpa [hvn] using hfit)];exact (uJ (λz=>Instr.fill _ z _) hput').trans h1
   rw[h2,M4 hfit]
   have hl:(cells.toList.take (i*n)++v.cells.toList).length=(i+1)*n:=by
    simp only[yJ,List.length_take,yY,hvn,yA,yN];rw[yV (by simp[hvn] at hfit;omega)]
   rw[←hl,yX];simp
theorem SA :∀{ps:Y (W×Operand)} {avs:Y AV} {css:Y (Y C)} {i n:W} {ρ:Operand->H},Sq i ps avs=U css->VF n css=O->All2 (λx v=>AR J w (ρ x) v) (ps.map (·.2)) avs->
 (ps.map λp=>(p.1,ρ p.2))=(List.range' i css.length).zip (ps.map λp=>ρ p.2)/\ps.length=css.length/\(∀v,v∈ps.map (λp=>ρ p.2)->v.cells.size=n)/\All2 (CR J w) ((ps.map λp=>ρ p.2).flatMap (·.cells.toList)) css.flatten
 | [], [],css,i,n,ρ,h,_,_=>by
   obtain rfl: []=css:=by simpa [Sq] using h
   exact ⟨rfl,rfl,by simp,.nil⟩
 | [],_::_,_,_,_,_,h,_,_=>by simp[Sq] at h
 | _::_, [],_,_,_,_,h,_,_=>by simp[Sq] at h
 | (j, x) ::ps,v::avs,css,i,n,ρ,h,hl,hv=>by
   simp only[Sq] at h;cases hij:zW i j with
   | false=>rw[hij] at h;cases h
   | true =>
     rw[hij] at h;obtain rfl:i=j:=by simpa using hij
     simp only[uF] at h;split at h
     . rename_i cs r hc hr;obtain rfl:=zD h;simp only[VF,zE,yI] at hl;cases hv with
       | cons h1 h2=>
         obtain ⟨e1,e2,e3,e4⟩:=SA hr hl.2 h2;have hcl:=Mn h1 hc hl.1.2;have hcn:(ρ x).cells.size=n:=by have:=hcl.length;simp at this;omega
         refine ⟨?_,by simp[e2],λu hu=> ?_, ?_⟩
         . simp only[yM,zU,List.range'_succ,List.zip_cons_cons,e1]
         . simp only[yM,zM] at hu;rcases hu with rfl | hu
           . exact hcn
           exact e3 u hu
         simp only[yM,List.flatMap_cons,yG];exact hcl.append e4
     cases h
def Inj.of (J:Inj):Y C->Y W
 | []=> []
 | .slc (.own O k) _ _::r=>J.L k++J.of r
 | _::r=>J.of r
theorem Qc7 {X : Nat -> Prop} {w' : World} {v:H} {c:C} {p:PV} (h:CR J w v c) (hp:Qny c=U p) (hF:∀b,J.F b->X b/\w'.heap[b]? =w.heap[b]?) (hL:∀k,c.key=U k->∀b,b∈J.L k->X b/\w'.heap[b]? =w.heap[b]?):VV X w' v p:=by
 cases c with
 | int=>obtain rfl:=zD hp;obtain ⟨rfl,h⟩:=h;exact .int h
 | bool=>obtain rfl:=zD hp;obtain rfl:=h;exact .bool _
 | str=>obtain rfl:=zD hp;obtain ⟨rfl,h⟩:=h;exact .str h
 | slc t n l=>
   obtain rfl:=zD hp;cases t with
   | sh=>exact VV.keep hF h
   | emp=>obtain ⟨rfl,oa,rfl⟩:=h;exact .emp oa n (zY _)
   | vw k => exact VV.keep (fun b hb => by rcases hb with hb | hb
                                           . exact hL k rfl b hb
                                           exact hF b hb) h
   | own d k=>
     cases d with
     | true=>exact OwnDeep.vv h (hL k rfl)
     | false=>exact OwnTop.vv h hF (hL k rfl)
   | put=>exact h.elim
 | raw u=>obtain rfl:=zD hp;obtain ⟨rfl,h1,h2⟩:=h;exact .raw h1 h2
 | _=>cases hp
theorem Tm {X : Nat -> Prop} {w' : I}:∀{vs:Y H} {cs:Y C} {ps:Y PV},All2 (CR J w) vs cs->Gq cs=U ps->(∀b,J.F b->X b/\w'.heap[b]? =w.heap[b]?)->(∀k,k∈Qv cs->∀b,b∈J.L k->X b/\w'.heap[b]? =w.heap[b]?)->VC X w' vs ps
 | _, _, ps, .nil, h, _, _ => by obtain rfl: []=ps:=by simpa [Gq] using h
                                 exact .nil
 | _,_,ps,.cons (b:=c) h1 h2,h,hF,hL=>by
   simp only[Gq] at h;split at h
   . rename_i p ps' e1 e2;obtain rfl:=zD h;exact .cons (Qc7 h1 e1 hF λk hk=>hL k (by simp[Qv,hk])) (Tm h2 e2 hF λk hk=>hL k (by simp only[Qv];exact zF _ hk))
   cases h
theorem Qlg {w':I} {v:H} {c:C} {p:PV} (h:CR J w v c) (hp:Qny c=U p) (hd:Qk9 c=O) (hL:∀k,c.key=U k->∀b,b∈J.L k->w'.heap[b]? =w.heap[b]?):∃L,OV w' L v p/\L.Nodup/\∀b,b∈L->b∈J.of [c]:=by
 cases c with
 | int=>obtain rfl:=zD hp;obtain ⟨rfl,h⟩:=h;exact ⟨[],.int h,zO,λb hb=>by simp at hb⟩
 | bool=>obtain rfl:=zD hp;obtain rfl:=h;exact ⟨[],.bool _,zO,λb hb=>by simp at hb⟩
 | str=>obtain rfl:=zD hp;obtain ⟨rfl,h⟩:=h;exact ⟨[],.str h,zO,λb hb=>by simp at hb⟩
 | slc t n l=>
   obtain rfl:=zD hp;cases t with
   | emp=>obtain ⟨rfl,oa,rfl⟩:=h;exact ⟨[],.emp oa n,zO,λb hb=>by simp at hb⟩
   | own d k=>
     cases d with
     | true=>
       simp only[Inj.of,List.append_nil];obtain ⟨L,h1,h2,h3,_⟩:=h;exact ⟨L,OV.keep h1 λb hb=>hL k rfl b (h3 b hb),h2,h3⟩
     | false=>cases hd
   | _=>cases hd
 | raw u=>obtain rfl:=zD hp;obtain ⟨rfl,h1,h2⟩:=h;exact ⟨[],.raw h1 h2,zO,λb hb=>by simp at hb⟩
 | _=>cases hp
theorem Inj.of_cons (J:Inj) (c:C) (r:Y C):J.of (c::r)=J.of [c]++J.of r:=by
 cases c with
 | slc t n l=>cases t with
   | own d k=>cases d<;>simp[Inj.of]
   | _=>simp[Inj.of]
 | _=>simp[Inj.of]
theorem DI {w' : World} : ∀ {vs : List H} {cs:Y C} {ps:Y PV},All2 (CR J w) vs cs->Gq cs=U ps->Lu cs=O->(J.of cs).Nodup->(∀k,k∈Qv cs->∀b,b∈J.L k->w'.heap[b]? =w.heap[b]?)->∃L,OC w' L vs ps/\L.Nodup/\∀b,b∈L->b∈J.of cs
 | _, _, ps, .nil, h, _, _, _ => by obtain rfl: []=ps:=by simpa [Gq] using h
                                    exact ⟨[],.nil,zO,λb hb=>by simp at hb⟩
 | _, _,ps,.cons (b:=c) h1 h2,h,hd,hn,hL=>by
   simp only[Gq] at h;simp only[Lu,zE] at hd;split at h
   . rename_i p ps' e1 e2;obtain rfl:=zD h;rw[Inj.of_cons] at hn⊢;obtain ⟨hn1,hn2,hn3⟩:=zH.1 hn;obtain ⟨L1,a1,a2,a3⟩:=Qlg h1 e1 hd.1 λk hk=>hL k (by simp[Qv,hk])
     obtain ⟨L2,b1,b2,b3⟩:=DI h2 e2 hd.2 hn2 λk hk=>hL k (by simp only[Qv];exact zF _ hk)
     refine ⟨L1++L2,.cons a1 b1,zH.2 ⟨a2,b2,λx hx y hy=>hn3 x (a3 x hx) y (b3 y hy)⟩,λb hb=> ?_⟩;rcases zK.1 hb with hb | hb
     . exact zG _ (a3 b hb)
     exact zF _ (b3 b hb)
   cases h
theorem Rz {J:Inj}:∀{cs:Y C} {b:W},b∈J.of cs->∃k,k∈Qv cs/\b∈J.L k
 | [],b,h=>by simp[Inj.of] at h
 | c :: r,b,h=>by
   rw[Inj.of_cons] at h;rcases zK.1 h with h | h
   . cases c with
     | slc t n l=>cases t with
       | own d k=>cases d with
         | true=>exact ⟨k,by simp[Qv,C.key,Tok.key],by simpa [Inj.of] using h⟩
         | false=>simp[Inj.of] at h
       | _=>simp[Inj.of] at h
     | _=>simp[Inj.of] at h
   obtain ⟨k,h1,h2⟩:=Rz h;exact ⟨k,by simp only[Qv];exact zF _ h1,h2⟩
theorem Qkb {J:Inj}:∀{cs:Y C},Lu cs=O->(∀c,c∈cs->∃p,Qny c=U p)->∀{k:W},k∈Qv cs->∀{b:W},b∈J.L k->b∈J.of cs
 | [],_,_,k,h,_,_=>by simp[Qv] at h
 | c :: r, hd,hp,k,h,b,hb=>by
   simp only[Lu,zE] at hd;simp only[Qv] at h;rw[Inj.of_cons];rcases zK.1 h with h | h
   . refine zG _ ?_;cases c with
     | slc t n l=>cases t with
       | own d k'=>cases d with
         | true=>
           simp[C.key,Tok.key] at h;subst h;simpa [Inj.of] using hb
         | false=>cases hd.1
       | _=>simp_all [Qk9,C.key,Tok.key]
     | rptr t cs=>obtain ⟨p,e⟩:=hp _ zL;cases e
     | ept d k n i o cs=>obtain ⟨p,e⟩:=hp _ zL;cases e
     | _=>simp[C.key] at h
   exact zF _ (Qkb hd.2 (λc hc=>hp c (zJ _ hc)) h hb)
theorem Tn (h:Rel N w0 F0 J a w s):∀{cs:Y C},(Qv cs).Nodup->(J.of cs).Nodup
 | [],_=>by simp[Inj.of]
 | c :: r,hn=>by
   simp only[Qv] at hn;obtain ⟨h1,h2,h3⟩:=zH.1 hn;rw[Inj.of_cons];refine zH.2 ⟨?_,Tn h h2,λb hb b' hb' e=> ?_⟩
   . cases c with
     | slc t n l=>cases t with
       | own d k=>cases d with
         | true=>simpa [Inj.of] using h.nd k
         | false=>simp[Inj.of]
       | _=>simp[Inj.of]
     | _=>simp[Inj.of]
   subst e;obtain ⟨k,hk,hm⟩:=Rz hb;obtain ⟨k',hk',hm'⟩:=Rz hb';have:=h.dj k k' b hm hm';subst this;simp[Qv] at hk;exact h3 k (by simp[hk]) k hk' rfl
theorem GO:∀{cs:Y C} {ps:Y PV},Gq cs=U ps->∀c,c∈cs->∃p,Qny c=U p
 | [],_,_,c,hc=>by simp at hc
 | x ::r,ps,h,c,hc=>by
   simp only[Gq] at h;split at h
   . rename_i p ps' e1 e2;rcases zM.1 hc with rfl | hc
     . exact ⟨p,e1⟩
     exact GO e2 c hc
   cases h
theorem GP : ∀ {css : List (List C)} {rows : Y (Y PV)} {n:W},GL css=U rows->VF n css=O->Gq css.flatten=U rows.flatten/\rows.length=css.length/\∀r,r∈rows->r.length=n
 | [], rows, n, h, _ => by obtain rfl: []=rows:=by simpa [GL] using h
                           exact ⟨rfl,rfl,by simp⟩
 | cs :: css, rows,n,h,hl=>by
   simp only[GL] at h;simp only[VF,zE,yI] at hl;split at h
   . rename_i p ps e1 e2;obtain rfl := Option.some.inj h;obtain ⟨h1,h2,h3⟩:=GP e2 hl.2
     have happ :∀(cs cs':Y C) (p p':Y PV),Gq cs=U p->Gq cs'=U p'->Gq (cs++cs')=U (p++p')/\p.length=cs.length:=by
      intro cs
      induction cs with
      | nil => intro cs' p p' h1 h2;obtain rfl: []=p:=by simpa [Gq] using h1
               exact ⟨h2,rfl⟩
      | cons c cs ih=>
        intro cs' p p' h1 h2;simp only[Gq] at h1;split at h1
        . rename_i q qs f1 f2;obtain rfl:=zD h1;obtain ⟨g1,g2⟩:=ih cs' qs p' f2 h2;exact ⟨by simp[Gq,f1,g1],by simp[g2]⟩
        cases h1
     obtain ⟨g1,g2⟩:=happ cs css.flatten p ps.flatten e1 h1
     exact ⟨g1, by simp [h2], fun r hr => by rcases zM.1 hr with rfl | hr
                                             . omega
                                             exact h3 r hr⟩
   cases h
theorem VC.rows {X:W->Prop} {w:I} {n:W}:∀{rows:Y (Y PV)} {vs:Y H},VC X w vs rows.flatten->(∀r,r∈rows->r.length=n)->VR X w n vs rows
 | [],vs,h,_=>by cases h;exact .nil n
 | r::rows,vs,h,hn=>by
   have hl:=h.length;simp only[yG,yJ] at hl;have h1:=h.take r.length;have h2:=h.drop r.length;simp only[yG,yX,List.drop_left] at h1 h2;rw[←yW r.length vs];exact .cons h1 (hn r zL) (VC.rows h2 λr hr=>hn r (zJ _ hr))
theorem OC.split {w:I}:∀{ps ps':Y PV} {L:Y W} {vs:Y H},OC w L vs (ps++ps')->∃L1 L2 vs1 vs2,L=L1++L2/\vs=vs1++vs2/\OC w L1 vs1 ps/\OC w L2 vs2 ps'
 | [],ps',L,vs,h=>⟨[],L, [],vs,rfl,rfl,.nil,h⟩
 | p ::ps,ps',L,vs,h=>by
   generalize hq:p::ps++ps'=q at h;cases h with
   | nil=>cases hq
   | cons h1 h2=>
     cases hq
     obtain ⟨L1,L2,vs1,vs2,rfl,rfl,h3,h4⟩:=OC.split h2;exact ⟨_,L2,_,vs2,(yH ..).symm,rfl,.cons h1 h3,h4⟩
theorem OC.rows {w:I} {n:W}:∀{rows:Y (Y PV)} {L:Y W} {vs:Y H},OC w L vs rows.flatten->(∀r,r∈rows->r.length=n)->OR w n L vs rows
 | [],L,vs,h,_=>by cases h;exact .nil n
 | r::rows,L,vs,h,hn=>by
   obtain ⟨L1,L2,vs1,vs2,rfl,rfl,h1,h2⟩:=OC.split h;exact .cons h1 (hn r zL) (OC.rows h2 λr hr=>hn r (zJ _ hr))
theorem DJ {nk k:W}:∀{keys:Y W},get (XT nk keys) k=if k∈keys then U (U (.vw nk)) else S
 | []=>by simp[XT,get]
 | x::r=>by
   simp only[XT,get,DJ (keys:=r),zM];by_cases hx:x=k
   . simp[hx]
   simp[hx,λe=>hx (Eq.symm e)];by_cases hk:k=x
   . exact absurd hk.symm hx
   simp[hk]
theorem Ur {k:W}:∀{keys:Y W},get (X5 keys) k=if k∈keys then U (U .sh) else S
 | []=>by simp[X5,get]
 | x::r=>by
   simp only[X5,get,Ur (keys:=r),zM];by_cases hx:x=k
   . simp[hx]
   by_cases hk:k=x
   . exact absurd hk.symm hx
   simp[hx,hk]
theorem Ai {k:W}:∀{keys:Y W},get (Va keys) k=if k∈keys then U S else S
 | []=>by simp[Va,get]
 | x::r=>by
   simp only[Va,get,Ai (keys:=r),zM];by_cases hx:x=k
   . simp[hx]
   by_cases hk:k=x
   . exact absurd hk.symm hx
   simp[hx,hk]
end
end
section
open Go.RowKit
section
variable {P:uC} {N:W} {w0:Base} {F0:W->Prop} {J:Inj} {a:Act} {w:I} {s:St}
theorem W2 {α:Type} {k nk:W} {x:α} {l:Y (W×α)} (h:k≠nk):get ((nk,x)::l) k=get l k:=by
 simp only[get];rw[D λe=>h e.symm]
set_option maxHeartbeats 1000000 in
theorem Qhq {tt:Y (W×TI)} (htt:Fb P tt=O) {bn:Y (W×Y C)} {o:Oper} {avs:Y AV} {r:Res} {obs:Y Ob} (h:Qle tt bn o.dst o.op avs=U (r,obs)) (hdst:∀d,o.dst=U d->d<N)
 (hrel:Rel N w0 F0 J a w s) (hops:All2 (λx v=>AA s x=U v) o.op.operands.toList avs) (hbn:∀k c,get bn k=U c->get s.bx k=U c) {K:Act->I->Prop} {Q:Exit->Act->I->Prop}
 (hK:∀J' a' w',Rel N w0 F0 J' a' w' (s.step o.dst r)->K a' w'):o.wp P a w K Q:=by
 have hv:=Db hrel hops;generalize ho:o.op=op at h hv;generalize hd:o.dst=dst at h;unfold Qle at h;split at h
 ·rename_i t;split at h
  . rename_i d ti hg;cases hc:H3 Ou ti.zero with
    | false=>rw[hc] at h;cases h
    | true=>
      rw[hc] at h;obtain ⟨rfl,rfl⟩:(⟨.one (.ptr d 0), [],U d,U (d,ti.zero)⟩:Res)=r/\ []=obs:=by simpa using h
      obtain ⟨inf,z,hi,_,_,hz,_,hzo⟩:=(Z8 htt hg).info;refine Ua (v:= .pointer (U ⟨w.heap.size,0,S⟩)) (w':=w.alloc (.cells z.cells t (0,0))) (by simp[execOp,ho,Instr.alloc,zeroValue,Um hi,hz,newVar,newRow]) ?_;rw[hd] at hK⊢;exact hK _ _ _ (hrel.alloc d (hdst d hd) z.cells t ti.zero hc (DG hzo))
  cases h
 ·rename_i t px v;split at h
  . rename_i d cs hfc;cases hc:(A7 cs&&H3 Ou cs) with
    | false=>rw[hc] at h;cases h
    | true=>
      rw[hc] at h;obtain ⟨rfl,rfl⟩:(⟨.one (.ptr d 0), [],U d,U (d,cs)⟩:Res)=r/\ []=obs:=by simpa using h
      simp only[zE] at hc;cases hv with
      | cons h1 _=>
        have hcl:=Mn h1 hfc hc.1;refine Ua (v:= .pointer (U ⟨w.heap.size,0,S⟩)) (w':=w.alloc (.cells (a.eval px).cells t (0,0))) (by simp[execOp,ho,Instr.box,newVar,newRow]) ?_;rw[hd] at hK⊢;exact hK _ _ _ (hrel.alloc d (hdst d hd) _ t cs hc.2 hcl)
  cases h
 ·rename_i t px py k off v;split at h
  . rename_i ti cells cs hg hk hfc;cases hc:(zW cs.length ti.size&&A7 cs&&yL (off+ti.size) cells.length) with
    | false=>rw[hc] at h;cases h
    | true =>
      rw[hc] at h;obtain ⟨rfl,rfl⟩:(⟨.one .dead, [],S,U (k,cells.take off++cs++cells.drop (off+ti.size))⟩:Res)=r/\ []=obs:=by simpa using h
      simp only[zE,yI,Nat.ble_eq] at hc;obtain ⟨⟨c1,c2⟩,c3⟩:=hc;cases hv with
      | cons h1 h2=>
        cases h2 with
        | cons h2 _=>
          have e1:a.eval px= .pointer (U ⟨J.B k,off,S⟩):=h1;have hcl:=Mn h2 hfc c2;obtain ⟨_,_,_,arr,e,hheap,hall⟩:=hrel.bo k cells (hbn k cells hk);have hn:(a.eval py).cells.toList.length=ti.size:=by rw[hcl.length,c1]
          have hfit:off+(a.eval py).cells.toList.length<=arr.size:=by have:=hall.length;simp at this hn⊢;omega
          have hst:=run_storeCells_at P (J.B k) off e (a.eval py).cells.toList 0 arr w hheap (by simpa using hfit) (Ov hcl c2);simp only[xB] at hst;have hsz:=D7 (P:=P) (Z8 htt hg) w
          have hrun:(execOp a.eval o).run P w= .ok .skip (w.setRow (J.B k) (arr.toList.take off++(a.eval py).cells.toList++arr.toList.drop (off+(a.eval py).cells.toList.length)).toArray):=by
           have hn':(a.eval py).cells.size=ti.size:=by simpa using hn
           simp only[execOp,ho,Instr.storeAt,e1,Instr.sureAddr,storeVar,Sem.run_bind,Sem.run_pure,Result.andThen_ok,hsz,hn'];simp[hst]
          refine XU hrun (hK J _ _ ?_);rw[hd];refine hrel.store dst (λd e=>hdst d (hd.trans e)) k cells _ (hbn k cells hk) arr _ e hheap (setRow_heap w (J.B k) arr _ e (0,0) hheap) (λb hb=>setRow_other w (J.B k) b _ hb) rfl rfl rfl (by simp[World.setRow]) ?_ undef;rw[hn];exact ((hall.take off).append hcl).append (hall.drop _)
  cases h
 ·rename_i t len ps;split at h
  . rename_i d e n0 z0 q0 css hg hps;split at h
    . rename_i ei rows hge hrows;cases hc:(zW css.length len&&VF ei.size css&&yL (len*ei.size) 1000&&yP 0 ei.size&& !(M2 (64*d) (Qv css.flatten))&&Ae (Qv css.flatten)) with
      | false=>rw[hc] at h;cases h
      | true =>
        rw[hc] at h;simp only[uF] at h;simp only[zE,yI,Nat.ble_eq,xA,zT] at hc;obtain ⟨⟨⟨⟨⟨c1,c2⟩,c3⟩,c4⟩,c5⟩,c6⟩:=hc;have hnk:64*d∉Qv css.flatten:=λhm=>by rw[Cf.2 hm] at c5;cases c5
        have hnd:=Cg.1 c6;obtain ⟨hfl,hrl,hrn⟩:=GP hrows c2;obtain ⟨p1,p2,p3,p4⟩:=SA hps c2 (by simpa [Op.operands] using hv);have hu:=(Z8 htt hg).sli;obtain ⟨inf,z,hi,hsz,hby,hz,hzs,hzo⟩:=(Z8 htt hge).info
        have hzero:∃zc:uE H,zc.size=len*ei.size/\∀(parts:uE (W×H)) (cells:uE H),Instr.fill (λi=>U (i*ei.size,ei.size)) zc parts.toList=U cells->
         (Instr.buildSlice t len parts).run P w= .ok (.slice (U ⟨w.heap.size,0,S⟩) len len) (w.alloc (.cells cells e (0,0))):=by
         have hlim:¬(len*ei.size>2^24):=by omega
         by_cases h0:len*ei.size=0
         . refine ⟨#[],by simp[h0],λparts cells hf=> ?_⟩;have h00:len*inf.size=0:=by rw[hsz];exact h0
           rw[←hsz] at hf;have hr0:Array.map (λ_=>(default:H)) (Array.range 0)= #[]:=by apply Array.eq_empty_of_size_eq_zero;simp
           simp[Instr.buildSlice,run_underlying hu,sizeOf,Um hi,h00,hr0,hf,newRow]
         refine ⟨(Array.range (len*ei.size)).map (z.cells[· % z.cells.size]!),by simp,λparts cells hf=>run_buildSlice w t e len parts cells inf z hu hi hz (by rw[hsz];exact hlim) (by rw[hsz];exact h0) ?_⟩;rw[hsz];exact hf
        obtain ⟨zc,hzc,hrun⟩:=hzero;have hlen:(ps.toList.map λp=>a.eval p.2).length=len:=by simp;rw[←c1,←p2];simp
        obtain ⟨out,ho1,ho2⟩:=RZ (n:=ei.size) (ps.toList.map λp=>a.eval p.2) 0 zc p3 (by rw[hzc,hlen,yS])
        have hfill:Instr.fill (λi=>U (i*ei.size,ei.size)) zc ((ps.map λ(i,x)=>(i,a.eval x)).toList)=U out:=by
         have e9:(ps.map λ(i,x)=>(i,a.eval x)).toList=(ps.toList.map λp=>(p.1,a.eval p.2)):=by simp
         rw[e9,p1,show css.length=(ps.toList.map λp=>a.eval p.2).length by rw[hlen,c1]];exact ho1
        have hrun:=hrun _ _ hfill;simp only[xC,List.take_zero,List.nil_append] at ho2
        have hrun':(execOp a.eval o).run P w= .ok (.value (.slice (U ⟨w.heap.size,0,S⟩) len len)) (w.alloc (.cells out e (0,0))):=by
         simp only[execOp,ho,Sem.run_bind,hrun,Result.andThen_ok,Sem.run_pure]
        refine Ua hrun' ?_;rw[hd] at hK⊢;have hw:∀b,b<w.heap.size->(w.alloc (.cells out e (0,0))).heap[b]? =w.heap[b]? :=λb hb=>Below.heap_alloc w _ b hb
        have hnew:(w.alloc (.cells out e (0,0))).heap[w.heap.size]? =U (.cells out e (0,0)):=heap_alloc_new w _;have hzz:(w.alloc (.cells out e (0,0))).heap.size=w.heap.size+1:=by simp
        rw[←ho2] at p4
        have hout:out.size=len*ei.size:=by
         have:=p4.length;have h3:=Tm (X:=λ_=>True) (w':=w) p4 hfl (λb _=>⟨trivial,rfl⟩) (λk _ b _=>⟨trivial,rfl⟩);have h4:=(VC.rows h3 hrn).length;simp at h4;rw[h4,hrl,c1]
        have htake:out.toList.take (rows.length*ei.size)=out.toList:=yE (by rw[hrl,c1,←hout];simp)
        have hlx:len<=1073741824:=by
         have:len<=len*ei.size:=Nat.le_mul_of_pos_right _ c4;exact yQ (yQ this c3) (by decide)
        have hlm:len<=uH:=yQ hlx (by decide);have hrows':rows.length=len:=hrl.trans c1;cases hdeep:Lu css.flatten with
        | true=>
          rw[hdeep] at h;obtain ⟨rfl,rfl⟩:(⟨.one (.slc (.own O (64*d)) ei.size rows),(64*d,S)::XT (64*d) (Qv css.flatten),S,S⟩:Res)=r/\ []=obs:=by simpa using h
          refine hK ⟨J.F,λk=>if k=64*d then w.heap.size::J.of css.flatten else if k∈Qv css.flatten then [] else J.L k,J.B⟩ _ _ (hrel.grab (U d) (λd' e=>by cases e;exact hdst d hd) _ _ (64*d) (Qv css.flatten) rfl rfl (hrel.below.alloc hrel.below.size _) (by omega) rfl (λk hk=>D hk)
           (λb hb=>hb) (λb hb=> .inl hb) (λk hk hn=>by rw[W2 hn,DJ,D hk]) (λ_=>by simp[get]) (λk hk=> .inr (.inr ⟨?_,λb hb=>⟨.inl ?_,hw b (hrel.lo k b hb).2.1⟩⟩)) (λb hb _=>hw b hb) ?_ (λb hb=> ?_) (λ_=> ?_))
          . rw[W2 (λe:k=64*d=>hnk (e▸hk)),DJ,uB hk]
          . simp only[if_true];exact zJ _ (Qkb hdeep (λc hc=>GO hfl c hc) hk hb)
          . simp only[if_true];refine zQ.2 ⟨λhm=> ?_,Tn hrel hnd⟩;obtain ⟨k,_,hm⟩:=Rz hm;have:=(hrel.lo k _ hm).2.1;omega
          . simp only[if_true,zM] at hb;rcases hb with rfl | hb
            . exact ⟨by omega,.inl (zR _)⟩
            obtain ⟨k,hk,hm⟩:=Rz hb;exact ⟨by have:=(hrel.lo k b hm).2.1;omega,.inr ⟨k,hk,hm⟩⟩
          show OwnDeep _ _ _ _ _;simp only[if_true];rw[←hrows'];obtain ⟨L,a1,a2,a3⟩:=DI p4 hfl hdeep (Tn hrel hnd) λk _ b hb=>hw b (hrel.lo k b hb).2.1
          refine ⟨w.heap.size::L,.slc hnew (by rw[hout,hrows']) ?_ (zR _) ⟨by omega,by omega⟩,zQ.2 ⟨λhm=> ?_,a2⟩,λb hb=> ?_,.inr ⟨_,_,_,rfl,rfl⟩⟩
          . rw[htake];exact OC.rows a1 hrn
          . obtain ⟨k,_,hm⟩:=Rz (a3 _ hm);have:=(hrel.lo k _ hm).2.1;omega
          rcases zM.1 hb with rfl | hb
          . exact zL
          exact zJ _ (a3 b hb)
        | false=>
          rw[hdeep] at h;obtain ⟨rfl,rfl⟩:(⟨.one (.slc (.own E (64*d)) ei.size rows),(64*d,S)::X5 (Qv css.flatten),S,S⟩:Res)=r/\ []=obs:=by simpa using h
          refine hK ⟨λb=>J.F b\/∃k,k∈Qv css.flatten/\b∈J.L k,λk=>if k=64*d then [w.heap.size] else if k∈Qv css.flatten then [] else J.L k,J.B⟩ _ _ (hrel.grab (U d) (λd' e=>by cases e;exact hdst d hd) _ _ (64*d) (Qv css.flatten) rfl rfl (hrel.below.alloc hrel.below.size _) (by omega) rfl (λk hk=>D hk)
           (λb hb=> .inl hb) (λb hb=>hb.imp id λhk=>⟨hk, ?_⟩) (λk hk hn=>by rw[W2 hn,Ur,D hk]) (λ_=>by simp[get]) (λk hk=> .inr (.inl ⟨?_,λb hb=>⟨.inr ⟨k,hk,hb⟩,hw b (hrel.lo k b hb).2.1⟩⟩)) (λb hb _=>hw b hb) (by simp) (λb hb=> ?_) (λ_=> ?_))
          . obtain ⟨k,_,hm⟩:=hk;have:=(hrel.lo k b hm).2.1;simp only[if_true,yF];omega
          . rw[W2 (λe:k=64*d=>hnk (e▸hk)),Ur,uB hk]
          . simp only[if_true,yF] at hb;exact ⟨by omega,.inl (by omega)⟩
          show OwnTop _ _ _ _ _ _;refine .inr ⟨w.heap.size,len,out,e,by simp,by rw[hrows'],hnew,hout, ?_,by omega,hlm,by omega⟩;rw[htake];exact VC.rows (Tm p4 hfl (λb hb=>⟨.inl hb,hw b (hrel.fl b hb).1⟩) λk hk b hb=>⟨.inr ⟨k,hk,hb⟩,hw b (hrel.lo k b hb).2.1⟩) hrn
    cases h
  cases h
 cases h
end
end
section
open Go.RowKit
def nOk (t:Tok) (n n':W):uD:=match t with
 | .emp=>O
 | _=>zW n n'
def SB:Tok->uA (Y W×uD)
 | .emp=>U ([],O)
 | .own d k=>U ([k],d)
 | _=>S
def Ow (flat:uD):Tok->Y W×uD
 | .emp=>([],O)
 | .sh=>([],flat)
 | .own d k=>bif flat then ([],O) else ([k],d)
 | .vw k=>bif flat then ([],O) else ([k],E)
 | .put _ _ _ _ _=>([],E)
def R0:Orc->uD
 | .flat=>O
 | _=>E
def Qlh (tt:Y (W×TI)) (orc:Orc) (dst:uA W):Op->Y AV->uA (Res×Y Ob)
 | .call ⟨.builtin .append,_,tys⟩, [.one (.slc t1 n1 l1),.one (.slc t2 n2 l2)]=>
   (match tys.toList with
   | [t,t']=>(match dst,get tt t,SB t1 with
   | some d,U ⟨.sli e,_,_,_⟩,U (g1,d1)=>(match get tt e with
     | some ei=>bif zW t t'&&yP 0 ei.size&&nOk t1 n1 ei.size&&nOk t2 n2 ei.size&& !(M2 (64*d) (g1++(Ow (R0 orc) t2).1))&&Ae (g1++(Ow (R0 orc) t2).1) then
      U (⟨.one (.slc (.own (d1&&(Ow (R0 orc) t2).2) (64*d)) ei.size (l1++l2)),(64*d,S)::(Va g1++(bif d1&&(Ow (R0 orc) t2).2 then Va (Ow (R0 orc) t2).1 else X5 (Ow (R0 orc) t2).1)),S,S⟩,
       .len (l1.length+l2.length)::(bif R0 orc then [.flat l2] else []))
       else S
     | none=>S)
   | _,_,_=>S)
   | _=>S)
 | _,_=>S
section
variable {P:uC} {N:W} {w0:Base} {F0:W->Prop} {J:Inj} {a:Act} {w:I} {s:St}
theorem Qa1 {t e ty:uG} {ei:TI} (hu:P.underlying t=U (.slice e)) (hei:TiOk P e ei) (hn:0<ei.size) {oa:uA Addr} {cap Mq:W} {olds:Y H} (hol:olds.length=Mq*ei.size)
 (hold:∀ad,oa=U ad->∀(j:W) (u:H),olds[j]? =U u->w.cell? (ad.add j)=U u) (hnone:oa=S->Mq=0)
 (hrow:cap=0\/∃g cur e0,oa=U ⟨g,0,S⟩/\w.heap[g]? =U (.cells cur e0 (0,0))/\cur.size=cap*ei.size/\cur.toList.take (Mq*ei.size)=olds) (hlc:Mq<=cap)
 {v2:H} {BU:W} {news:Y H} (hs:Src P ei.size t v2 BU news w) (hlim:Mq+BU<=1073741824) (hpos:cap=0->0<BU) (hcm:cap<=uH):
 ∃ g' cap' cur' e' w',(Builtin.append_ #[t,t] ty #[.slice oa Mq cap,v2]).run P w= .ok (.slice (U ⟨g',0,S⟩) (Mq+BU) cap') w'/\w'.heap[g']? =U (.cells cur' e' (0,0))/\cur'.size=cap'*ei.size/\
   cur'.toList.take ((Mq+BU)*ei.size)=olds++news/\Mq+BU<=cap'/\cap'<=uH/\w'.os=w.os/\w'.tape=w.tape/\w'.output=w.output/\w.heap.size<=w'.heap.size/\
   ((∃cur e0,oa=U ⟨g',0,S⟩/\w.heap[g']? =U (.cells cur e0 (0,0))/\cap≠0/\∀b,b≠g'->w'.heap[b]? =w.heap[b]?)\/(g'=w.heap.size/\g'<w'.heap.size/\∀b,b<w.heap.size->w'.heap[b]? =w.heap[b]?)):=by
 obtain ⟨inf,z,hi,hsz,hby,hz,hzs,_⟩:=hei.info;have hsum:(olds++news).length=(Mq+BU)*ei.size:=by rw[yJ,hol,hs.newsLen,yA]
 by_cases hroom:Mq+BU<=cap
 . rcases hrow with h0 | ⟨g,cur,e0,rfl,hg,hcs,htk⟩
   . have:=hpos h0;omega
   have hfit:∀j,j<news.length->Mq*ei.size+j<cur.size:=λj hj=>by
    have:=zS ei.size hroom;rw[yA,←hs.newsLen] at this;omega
   have hr:=run_append_room_src (P:=P) w t t ty e inf hu hi g 0 Mq cap v2 BU news (by rw[hsz];exact hs) hroom (λj hj=>by
    rw[hsz];simp[World.cell?,hg,hfit j hj]) (λj hj=>by simp[World.frozen?,hg])
   rw[hsz,yS] at hr;refine ⟨g,cap,putCells cur (Mq*ei.size) news,e0,_,hr,Gn g news _ w hg,by rw[G6];exact hcs, ?_,hroom,hcm, ?_, ?_, ?_,by rw[Th];exact zR _,.inl ⟨cur,e0,rfl,hg, ?_,λb hb=>Gp g hb news _ w⟩⟩
   . have hfit2:Mq*ei.size+news.length<=cur.size:=by
      have:=zS ei.size hroom;rw[yA,←hs.newsLen] at this;omega
     rw[M4 hfit2,htk,←hsum,yX]
   . exact (below_setCells' g news _ w).1
   . exact (below_setCells' g news _ w).2.1
   . exact (below_setCells' g news _ w).2.2
   intro e;have:=hpos e;omega
 have hgs:cap<Mq+BU:=by omega
 have hfirst:(Builtin.firstCells inf.size Mq (.slice oa Mq cap)).run P w.drew= .ok olds.toArray w.drew:=by
  cases oa with
  | none=>
    have h0:=hnone rfl;subst h0;have:olds= []:=zV (by rw[hol];simp);subst this;exact run_firstCells_none w.drew inf.size 0 0 cap
  | some ad=>exact run_firstCells_some w.drew inf.size Mq ad Mq cap olds (by rw[hsz];exact hol) (by simpa using hold ad rfl)
 have hbytes:((Mq+BU)+(Mq+BU) / 4+192)*inf.bytes<=281474976710656:=yQ (Nat.mul_le_mul (show _<=1342177472 by omega) hby) (by decide);have hr:=run_append_grow_src (P:=P) w t t ty e inf z hu hi hz oa Mq cap olds hfirst v2 BU news (by rw[hsz];exact hs) hgs (by omega) (growslice_fits_wide hgs hbytes);have hge:=grownCap_ge w (Mq+BU) cap e;have hcap':=grownCap_le_maxLen w (Mq+BU) cap e (by unfold uH;omega);refine ⟨w.heap.size,_,_,e,_,hr,heap_alloc_new w.drew _, ?_, ?_,hge,hcap',rfl,rfl,rfl,by simp,.inr ⟨rfl,by simp,λb hb=>heap_alloc_old w.drew _ hb⟩⟩
 . simp only[Array.size_append,List.size_toArray,size_zeroCells,hzs,hsum,←yA]
   congr 1
   omega
 simp only[Array.toList_append];rw[←hsum,yD (by simp),yE (by simp)]
where
 below_setCells' (g:W):∀(vs:Y H) (o:W) (w:I),(w.setCells g o vs).os=w.os/\(w.setCells g o vs).tape=w.tape/\(w.setCells g o vs).output=w.output
  | [],_,_=>⟨rfl,rfl,rfl⟩
  | v::vs,o,w=>by
    have:=below_setCells' g vs (o+1) (w.setCell ⟨g,o,S⟩ v);exact this
end
end
section
open Go.RowKit
section
variable {P:uC} {A:W->Y AV->AV->Prop} {T:TakeT} {N:W} {w0:Base} {F0:W->Prop} {J:Inj} {a:Act} {w:I} {s:St}
theorem VN {w:I} {g:W} {cur:uE H} {e:uG} (hg:w.heap[g]? =U (.cells cur e (0,0))) (m:W):∀(j:W) (u:H),(cur.toList.take m)[j]? =U u->w.cell? (Addr.add ⟨g,0,S⟩ j)=U u:=by
 intro j u hj;rw[List.getElem?_take] at hj;split at hj
 . rw[yK] at hj;simp[World.cell?,hg,hj,Addr.add_lit]
 cases hj
theorem Qli (h:Rel N w0 F0 J a w s) {t1:Tok} {n1 n:W} {l1:Y (Y PV)} {v1:H} {g1:Y W} {d1:uD} (hc:CR J w v1 (.slc t1 n1 l1)) (hd:SB t1=U (g1,d1)) (hn:nOk t1 n1 n=O):
 ∃ (oa:uA Addr) (cap:W) (olds:Y H) (L:Y W),v1= .slice oa l1.length cap/\olds.length=l1.length*n/\(∀ad,oa=U ad->∀(j:W) (u:H),olds[j]? =U u->w.cell? (ad.add j)=U u)/\(oa=S->l1.length=0)/\
   (cap=0\/∃g cur e0,oa=U ⟨g,0,S⟩/\w.heap[g]? =U (.cells cur e0 (0,0))/\cur.size=cap*n/\cur.toList.take (l1.length*n)=olds)/\l1.length<=cap/\cap<=uH/\
   (∀g,oa=U ⟨g,0,S⟩->cap≠0->(∃k,k∈g1/\g∈J.L k)/\g∉L)/\
   VR (λb=>J.F b\/b∈L) w n olds l1/\(d1=O->OR w n L olds l1)/\L.Nodup/\∀b,b∈L->∃k,k∈g1/\b∈J.L k:=by
 cases t1 with
 | sh=>cases hd
 | vw k=>cases hd
 | put=>cases hd
 | emp=>
   obtain ⟨rfl,rfl⟩: []=g1/\O=d1:=by simpa [SB] using hd
   obtain ⟨rfl,oa,rfl⟩:=hc;exact ⟨oa,0, [], [],rfl,by simp,by simp,λ_=>rfl,.inl rfl,zR _,zY _,λ_ _ h=>absurd rfl h,.nil n,λ_=> .nil n,by simp,by simp⟩
 | own d k=>
   obtain ⟨rfl,rfl⟩: [k]=g1/\d=d1:=by simpa [SB] using hd
   obtain rfl:n1=n:=by simpa [nOk] using hn
   have hnd:=h.nd k;cases d with
   | true=>
     obtain ⟨L0,hc,hnd,hsub,_⟩:=hc;generalize hp:PV.slc n1 l1=p at hc;cases hc with
     | int | bool | str | any | raw=>cases hp
     | emp oa n'=>
       cases hp
       exact ⟨oa,0, [], [],rfl,by simp,by simp,λ_=>rfl,.inl rfl,zR _,zY _,λ_ _ h=>absurd rfl h,.nil n1,λ_=> .nil n1,by simp,by simp⟩
     | @slc g cap n' cur e L l hg hs hr h1 h2=>
       cases hp
       have hnd:=zQ.1 hnd;refine ⟨U ⟨g,0,S⟩,cap,_,L,rfl,hr.length,λad e=>(by cases e;exact VN hg _),(λe=>by cases e),.inr ⟨g,cur,_,rfl,hg,hs,rfl⟩,h1,h2.1,λg' e _=> ?_,hr.vr λb hb=> .inr hb,λ_=>hr,hnd.2,λb hb=>⟨k,by simp,hsub b (zJ _ hb)⟩⟩;cases e
       exact ⟨⟨k,by simp,hsub _ zL⟩,hnd.1⟩
   | false=>
     have hc:OwnTop J.F (J.L k) w v1 n1 l1:=hc;rcases hc with ⟨rfl,oa,rfl⟩ | ⟨g,cap,cur,e,hL,rfl,hg,hs,hr,h1,h2⟩
     . exact ⟨oa,0, [], [],rfl,by simp,by simp,λ_=>rfl,.inl rfl,zR _,zY _,λ_ _ h=>absurd rfl h,.nil n1,(λh=>by cases h),by simp,by simp⟩
     refine ⟨U ⟨g,0,S⟩,cap,_, [],rfl,hr.length,λad e=>(by cases e;exact VN hg _),(λe=>by cases e),.inr ⟨g,cur,e,rfl,hg,hs,rfl⟩,h1,h2.1,λg' e _=> ?_,hr.keep λb hb=>⟨.inl hb,rfl⟩,(λe=>by cases e),by simp,by simp⟩;cases e
     exact ⟨⟨k,by simp,by rw[hL];simp⟩,by simp⟩
theorem VC.ones {X:W->Prop} {w:I}:∀{vs:Y H} {ps:Y PV},VC X w vs ps->∀u,u∈vs->u.oneCell'=O
 | _,_,.nil,u,hu=>by simp at hu
 | _, _,.cons h1 h2,u,hu=>by
   rcases zM.1 hu with rfl | hu
   . cases h1 with
     | any _ h2=>exact h2
     | raw _ h2=>exact h2
     | _=>rfl
   exact VC.ones h2 u hu
theorem VR.ones {X:W->Prop} {w:I}:∀{n:W} {cs:Y H} {l:Y (Y PV)},VR X w n cs l->∀u,u∈cs->u.oneCell'=O
 | _,_,_,.nil _,u,hu=>by simp at hu
 | _,_,_,.cons h1 h2 h3,u,hu=>(zK.1 hu).elim (VC.ones h1 u) (VR.ones h3 u)
theorem SC {X:W->Prop} {n:W} {l:Y (Y PV)} {v:H} {t e:uG} (hu:P.underlying t=U (.slice e)) (h:VV X w v (.slc n l)):∃news,Src P n t v l.length news w/\VR X w n news l:=by
 generalize hp:PV.slc n l=p at h;cases h with
 | int | bool | str | any | raw=>cases hp
 | @emp oa cap n' hcap=>
   cases hp
   cases oa with
   | none=>exact ⟨[],Src.ofNil w hu cap,.nil n⟩
   | some ad=>exact ⟨[],Src.ofSlice w hu ad 0 cap [] (by simp) (by simp) (by simp),.nil n⟩
 | slc hb hc hr h1 h2=>
   cases hp
   exact ⟨_,Src.ofSlice w hu _ _ _ _ hr.length (λj u hj=>by rw[Addr.add_lit];exact hc j u hj) hr.ones,hr⟩
theorem Qn6 (h:Rel N w0 F0 J a w s) {t e:uG} (hu:P.underlying t=U (.slice e)) {fl:uD} {t2:Tok} {n2 n:W} {l2:Y (Y PV)} {v2:H} (hc:CR J w v2 (.slc t2 n2 l2)) (hn:nOk t2 n2 n=O) (hfl:fl=O->Da l2):
 ∃ (news:Y H) (L:Y W),Src P n t v2 l2.length news w/\((Ow fl t2).2=O->OR w n L news l2)/\L.Nodup/\(∀b,b∈L->∃k,k∈(Ow fl t2).1/\b∈J.L k)/\
   ((fl=O->∀w',OR w' n [] news l2)/\(fl=O->L= []))/\(fl=E->VR (λb=>J.F b\/∃k,k∈(Ow fl t2).1/\b∈J.L k) w n news l2):=by
 have hflat:∀X,fl=O->VV X w v2 (.slc n l2)->∃news,Src P n t v2 l2.length news w/\∀w',OR w' n [] news l2:=λX hf hv=>by
  obtain ⟨news,h1,h2⟩:=SC hu hv;exact ⟨news,h1,λw'=>h2.orr (hfl hf)⟩
 cases t2 with
 | emp=>
   obtain ⟨rfl,oa,rfl⟩:=hc
   have hs:Src P n t (.slice oa 0 0) 0 [] w:=by
    cases oa with
    | none=>exact Src.ofNil w hu 0
    | some ad=>exact Src.ofSlice w hu ad 0 0 [] (by simp) (by simp) (by simp)
   exact ⟨[], [],hs,λ_=> .nil n,by simp,by simp,⟨λ_ _=> .nil n,λ_=>rfl⟩,λ_=> .nil n⟩
 | sh =>
   obtain rfl:n2=n:=by simpa [nOk] using hn
   cases fl with
   | true=>
     obtain ⟨news,h1,h2⟩:=hflat _ rfl hc;exact ⟨news, [],h1,λ_=>h2 w,by simp,by simp,⟨λ_=>h2,λ_=>rfl⟩,λh=>by cases h⟩
   | false=>
     obtain ⟨news,h1,h2⟩:=SC (P:=P) hu (X:=J.F) hc;exact ⟨news, [],h1,(λh=>by simp[Ow] at h),by simp,by simp,⟨(λh=>by cases h),λ_=>rfl⟩,λ_=>h2.keep λb hb=>⟨.inl hb,rfl⟩⟩
 | put=>exact hc.elim
 | vw k=>
   obtain rfl:n2=n:=by simpa [nOk] using hn
   cases fl with
   | true=>
     obtain ⟨news,h1,h2⟩:=hflat _ rfl hc;exact ⟨news, [],h1,λ_=>h2 w,by simp,by simp,⟨λ_=>h2,λ_=>rfl⟩,λh=>by cases h⟩
   | false=>
     obtain ⟨news,h1,h2⟩:=SC (P:=P) hu (X:=J.X (.vw k)) hc;exact ⟨news, [],h1,(λh=>by simp[Ow] at h),by simp,by simp,⟨(λh=>by cases h),λ_=>rfl⟩,λ_=>h2.keep λb hb=>⟨hb.elim (λh=> .inr ⟨k,by simp[Ow],h⟩) .inl,rfl⟩⟩
 | own d k =>
   obtain rfl:n2=n:=by simpa [nOk] using hn
   cases fl with
   | true=>
     have:∃X,VV X w v2 (.slc n2 l2):=by
      cases d with
      | true=>exact ⟨_,OwnDeep.vv (X:=λ_=>True) hc λ_ _=>⟨trivial,rfl⟩⟩
      | false=>exact ⟨_,OwnTop.vv (X:=λ_=>True) hc (λ_ _=>⟨trivial,rfl⟩) λ_ _=>⟨trivial,rfl⟩⟩
     obtain ⟨X,hX⟩:=this;obtain ⟨news,h1,h2⟩:=hflat _ rfl hX;exact ⟨news, [],h1,λ_=>h2 w,by simp,by simp,⟨λ_=>h2,λ_=>rfl⟩,λh=>by cases h⟩
   | false =>
     cases d with
     | false=>
       obtain ⟨news,h1,h2⟩:=SC (P:=P) hu (X:=λb=>J.F b\/b∈J.L k) (OwnTop.vv hc (λ_ hb=>⟨.inl hb,rfl⟩) λ_ hb=>⟨.inr hb,rfl⟩);exact ⟨news, [],h1,(λh=>by simp[Ow] at h),by simp,by simp,⟨(λh=>by cases h),λ_=>rfl⟩,λ_=>h2.keep λb hb=>⟨hb.imp id λh=>⟨k,by simp[Ow],h⟩,rfl⟩⟩
     | true=>
       have hnd:=h.nd k;obtain ⟨L0,hc,hnd,hsub,_⟩:=hc;generalize hp:PV.slc n2 l2=p at hc;cases hc with
       | int | bool | str | any | raw=>cases hp
       | emp oa n'=>
         cases hp
         have hs:Src P n2 t (.slice oa 0 0) 0 [] w:=by
          cases oa with
          | none=>exact Src.ofNil w hu 0
          | some ad=>exact Src.ofSlice w hu ad 0 0 [] (by simp) (by simp) (by simp)
         exact ⟨[], [],hs,λ_=> .nil n2,by simp,by simp,⟨(λh=>by cases h),λ_=>rfl⟩,λ_=> .nil n2⟩
       | @slc g cap n' cur e L l hg hs hr h1 h2=>
         cases hp
         have hnd:=zQ.1 hnd;have hvr:VR (λb=>J.F b\/∃k',k'∈ [k]/\b∈J.L k') w n2 (cur.toList.take (l2.length*n2)) l2:=hr.vr λb hb=> .inr ⟨k,by simp,hsub b (zJ _ hb)⟩
         refine ⟨_,L,Src.ofSlice w hu ⟨g,0,S⟩ l2.length cap _ hr.length (VN hg _) hvr.ones,λ_=>hr,hnd.2,λb hb=>⟨k,by simp[Ow],hsub b (zJ _ hb)⟩,⟨(λh=>by cases h),(λh=>by cases h)⟩,λ_=> ?_⟩;simpa [Ow] using hvr
theorem OE {t e ty:uG} {ei:TI} (hu:P.underlying t=U (.slice e)) (hei:TiOk P e ei) {oa:uA Addr} {v2:H} (hs:Src P ei.size t v2 0 [] w):
 (Builtin.append_ #[t,t] ty #[.slice oa 0 0,v2]).run P w= .ok (.slice oa 0 0) w:=by
 obtain ⟨inf,z,hi,hsz,hby,hz,hzs,_⟩:=hei.info;have h1:=hs.len w;have h2:=hs.cells;rw[←hsz] at h2;cases oa<;>simp[Builtin.append_,run_underlying hu,sizeOf,Um hi,h1,h2,storeCells]
theorem XV {α:Type} {k:W}:∀{l r:Y (W×α)},get (l++r) k=(match get l k with | some x=>U x | none=>get r k)
 | [],r=>rfl
 | (x,y)::l,r=>by
   simp only[List.cons_append,get];split
   . rfl
   exact XV
set_option maxHeartbeats 2000000 in
theorem Qhr {tt : List (W×TI)} (htt:Fb P tt=O) {orc:Orc} {o:Oper} {avs:Y AV} {r:Res} {obs:Y Ob} (h:Qlh tt orc o.dst o.op avs=U (r,obs)) (hob:AllOb A T obs) (hdst:∀d,o.dst=U d->d<N)
 (hrel:Rel N w0 F0 J a w s) (hops:All2 (λx v=>AA s x=U v) o.op.operands.toList avs) {K:Act->I->Prop} {Q:Exit->Act->I->Prop}
 (hK:∀J' a' w',Rel N w0 F0 J' a' w' (s.step o.dst r)->K a' w'):o.wp P a w K Q:=by
 have hv:=Db hrel hops;generalize ho:o.op=op at h hv;generalize hd:o.dst=dst at h;unfold Qlh at h;split at h
 . rename_i args tys t1 n1 l1 t2 n2 l2;split at h
   rotate_left
   . cases h
   rename_i t t' htys;obtain rfl:tys= #[t,t']:=yT (by simpa using htys);split at h
   . rename_i d e n0 z0 q0 g1 d1 hg hdest;split at h
     . rename_i ei hge;generalize hS:Ow (R0 orc) t2=S2 at h;cases hc:(zW t t'&&yP 0 ei.size&&nOk t1 n1 ei.size&&nOk t2 n2 ei.size&& !(M2 (64*d) (g1++S2.1))&&Ae (g1++S2.1)) with
       | false=>rw[hc] at h;cases h
       | true =>
         rw[hc] at h;simp only[uF,zN,zP] at h;obtain ⟨rfl,rfl⟩:=h;simp only[zE,yI,xA,zT] at hc;obtain ⟨⟨⟨⟨⟨rfl,c2⟩,c3⟩,c4⟩,c5⟩,c6⟩:=hc;have hnk:64*d∉g1++S2.1:=λhm=>by rw[Cf.2 hm] at c5;cases c5
         have hnd:=Cg.1 c6;obtain ⟨hlim,hob2⟩:=AllOb.cons hob;have hlim:l1.length+l2.length<=1073741824:=hlim;have hfl:R0 orc=O->Da l2:=λhf=>by rw[hf] at hob2;exact hob2
         have hu:=(Z8 htt hg).sli;have hei:=Z8 htt hge;have hv0:All2 (λx v=>AR J w (a.eval x) v) args.toList [.one (.slc t1 n1 l1),.one (.slc t2 n2 l2)]:=by simpa [Op.operands,Call.operands] using hv
         obtain ⟨px,py,hargs⟩:∃px py,args= #[px,py]:=by
          have hl:=hv0.length;obtain ⟨l⟩:=args
          match l,hl with
          | [px,py],_=>exact ⟨px,py,rfl⟩
         subst hargs;have hv':All2 (λx v=>AR J w (a.eval x) v) [px,py] [.one (.slc t1 n1 l1),.one (.slc t2 n2 l2)]:=hv0;cases hv' with
         | cons h1 h2=>
           cases h2 with
           | cons h2 _=>
             obtain ⟨oa,cap,olds,L,e1,hol,hread,hnone,hrow,hlc,hcm,htop,hvr1,hor1,hnd1,hL1⟩:=Qli hrel h1 hdest c3;obtain ⟨news,L2,hsrc,hor2,hnd2,hL2,⟨hflat1,hflat2⟩,hvr2⟩:=Qn6 (P:=P) hrel hu h2 c4 hfl;rw[hS] at hor2 hL2 hvr2
             have hexec:∀u w',(Builtin.append_ #[t,t] o.type #[.slice oa l1.length cap,a.eval py]).run P w= .ok u w'->(execOp a.eval o).run P w= .ok (.value u) w':=λu w' hr=>by
              simp only[execOp,ho,resolve,invoke,builtin,Sem.run_bind,Sem.run_pure,Result.andThen_ok,List.map_toArray,yM,List.map_nil,e1,hr]
             have hG:∀k,k∈g1++S2.1->k≠64*d:=λk hk e=>hnk (e▸hk)
             have hgone:∀k,k∉g1++S2.1->k≠64*d->get ((64*d,S)::(Va g1++(bif d1&&S2.2 then Va S2.1 else X5 S2.1))) k=S:=λk hk hn=>by
              rw[W2 hn,XV,Ai,D λhm=>hk (zG _ hm)];cases d1&&S2.2
              . simp only[uI];rw[Ur,D λhm=>hk (zF _ hm)]
              simp only[uF];rw[Ai,D λhm=>hk (zF _ hm)]
             have hdead:∀k,k∈g1->get ((64*d,S)::(Va g1++(bif d1&&S2.2 then Va S2.1 else X5 S2.1))) k=U S:=λk hk=>by
              rw[W2 (hG k (zG _ hk)),XV,Ai,uB hk]
             have hsrck:∀k,k∈S2.1->get ((64*d,S)::(Va g1++(bif d1&&S2.2 then Va S2.1 else X5 S2.1))) k=U (if (d1&&S2.2)=O then S else U .sh):=λk hk=>by
              have hng:k∉g1:=λhm=>(zH.1 hnd).2.2 k hm k hk rfl
              rw[W2 (hG k (zF _ hk)),XV,Ai,D hng];cases d1&&S2.2
              . simp only[uI];rw[Ur,uB hk];simp
              simp only[uF];rw[Ai,uB hk];simp
             by_cases hempty:cap=0/\l2.length=0
             ·obtain ⟨hc0,hl0⟩:=hempty;have hl1:l1= []:=zV (by omega);have hl2:l2= []:=zV hl0;subst hl1 hl2 hc0;have hnews:news= []:=zV (by rw[hsrc.newsLen];simp);subst hnews;refine Ua (hexec _ _ (OE hu hei hsrc)) ?_;rw[hd] at hK⊢
              refine hK ⟨λb=>J.F b\/∃k,k∈g1++S2.1/\b∈J.L k,λk=>if k=64*d then [] else if k∈g1++S2.1 then [] else J.L k,J.B⟩ _ _ (hrel.grab (U d) (λd' e=>by cases e;exact hdst d hd) _ _ (64*d) (g1++S2.1) rfl rfl hrel.below (zR _) rfl (λk hk=>D hk)
               (λb hb=> .inl hb) (λb hb=>hb.imp id λhk=>⟨hk,by simp⟩) hgone (λ_=>by simp[get]) (λk hk=> ?_) (λb hb _=>rfl) (by simp) (λb hb=>by simp at hb) (λ_=> ?_))
              . rcases zK.1 hk with hk' | hk'
                . exact .inl (hdead k hk')
                rw[hsrck k hk'];by_cases hD:(d1&&S2.2)=O
                . exact .inl (by simp[hD])
                exact .inr (.inl ⟨by simp[hD],λb hb=>⟨.inr ⟨k,hk,hb⟩,rfl⟩⟩)
              show CR _ w (.slice oa 0 0) (.slc (.own (d1&&S2.2) (64*d)) ei.size []);cases d1&&S2.2
              . exact .inl ⟨rfl,oa,rfl⟩
              show OwnDeep (if 64*d=64*d then [] else _) w _ _ _;rw[uB rfl];exact ⟨[],.emp oa _,zO,λb hb=>hb,.inl rfl⟩
             obtain ⟨g',cap',cur',e',w',hrun,hg',hcs',htk',hlc',hcm',hos,htape,hout,hsize,hwhere⟩:=Qa1 (ty:=o.type) hu hei c2 hol hread hnone hrow hlc hsrc hlim (λe=>by omega) hcm;refine Ua (hexec _ _ hrun) ?_;rw[hd] at hK⊢
             have hw1:(∃k,k∈g1/\g'∈J.L k)/\g'∉L\/w.heap.size<=g':=by
              rcases hwhere with ⟨cur,e0,hoa,_,hc0,_⟩ | ⟨hgs,_⟩
              . exact .inl (htop g' hoa hc0)
              exact .inr (by omega)
             have hw2:∀b,b<w.heap.size->b≠g'->w'.heap[b]? =w.heap[b]? :=by
              intro b hb hne;rcases hwhere with ⟨cur,e0,_,_,_,hsame⟩ | ⟨_,_,hsame⟩
              . exact hsame b hne
              exact hsame b hb
             have hglt:g'<w'.heap.size:=Xe hg'
             have hgF:¬J.F g':=λhF=>by
              rcases hw1 with ⟨⟨k,_,hm⟩,_⟩ | hge
              . exact (hrel.lo k g' hm).2.2 hF
              have:=(hrel.fl g' hF).1;omega
             have hgS:∀k,k∉g1->g'∉J.L k:=λk hk hm=>by
              rcases hw1 with ⟨⟨k',hk',hm'⟩,_⟩ | hge
              . exact hk (hrel.dj k k' g' hm hm'▸hk')
              have:=(hrel.lo k g' hm).2.1;omega
             have hgL:g'∉L:=by
              rcases hw1 with ⟨_,h⟩ | hge
              . exact h
              intro hm;obtain ⟨k,_,hm'⟩:=hL1 g' hm;have:=(hrel.lo k g' hm').2.1;omega
             have hgL2:g'∉L2:=λhm=>by
              obtain ⟨k,hk,hm'⟩:=hL2 g' hm;exact hgS k (λhk'=>(zH.1 hnd).2.2 k hk' k hk rfl) hm'
             have hbelow:w0.Keeps w':=by
              refine hrel.below.step hos htape hout hsize λb hb hnl=> ?_
              refine hw2 b hb λe=> ?_
              rcases hw1 with ⟨⟨k,_,hm⟩,_⟩ | hge
              . exact hnl (e▸(hrel.lo k g' hm).1)
              omega
             have hlt1:∀b,b∈L->b<w.heap.size:=λb hb=>by obtain ⟨k,_,hm⟩:=hL1 b hb;exact (hrel.lo k b hm).2.1
             have hlt2:∀b,b∈L2->b<w.heap.size:=λb hb=>by obtain ⟨k,_,hm⟩:=hL2 b hb;exact (hrel.lo k b hm).2.1
             have hlen:(l1++l2).length=l1.length+l2.length:=yJ;by_cases hD:(d1&&S2.2)=O
             . have hD':=hD;simp only[zE] at hD'
               have hndA:(g'::(L++L2)).Nodup:=by
                refine zQ.2 ⟨λhm=>(zK.1 hm).elim hgL hgL2,zH.2 ⟨hnd1,hnd2,λb hb b' hb' e=> ?_⟩⟩;subst e;obtain ⟨k,hk,hm⟩:=hL1 b hb;obtain ⟨k',hk',hm'⟩:=hL2 b hb';have:=hrel.dj k k' b hm hm';subst this;exact (zH.1 hnd).2.2 k hk k hk' rfl
               refine hK ⟨J.F,λk=>if k=64*d then g'::(L++L2) else if k∈g1++S2.1 then [] else J.L k,J.B⟩ _ _ (hrel.grab (U d) (λd' e=>by cases e;exact hdst d hd) _ _ (64*d) (g1++S2.1) rfl rfl hbelow hsize rfl (λk hk=>D hk)
                (λb hb=>hb) (λb hb=> .inl hb) hgone (λ_=>by simp[get]) (λk hk=> ?_) (λb hb hn=>hw2 b hb λe=> ?_) ?_ (λb hb=> ?_) (λ_=> ?_))
               . rcases zK.1 hk with hk' | hk'
                 . exact .inl (hdead k hk')
                 exact .inl (by rw[hsrck k hk',uB hD])
               . rcases hw1 with ⟨⟨k,hk,hm⟩,_⟩ | hge
                 . exact hn k (zG _ hk) (e▸hm)
                 omega
               . simp only[if_true];exact hndA
               . simp only[if_true,zM,zK] at hb;rcases hb with rfl | hb | hb
                 . refine ⟨hglt, ?_⟩;rcases hw1 with ⟨⟨k,hk,hm⟩,_⟩ | hge
                   . exact .inr ⟨k,zG _ hk,hm⟩
                   exact .inl hge
                 . obtain ⟨k,hk,hm⟩:=hL1 b hb;exact ⟨by have:=hlt1 b hb;omega,.inr ⟨k,zG _ hk,hm⟩⟩
                 obtain ⟨k,hk,hm⟩:=hL2 b hb;exact ⟨by have:=hlt2 b hb;omega,.inr ⟨k,zF _ hk,hm⟩⟩
               show CR _ w' _ (.slc (.own (d1&&S2.2) (64*d)) ei.size (l1++l2));rw[hD];show OwnDeep (if 64*d=64*d then _ else _) w' _ _ _;rw[uB rfl,←hlen];refine .of (.slc hg' hcs' ?_ (by omega) ⟨hcm',by omega⟩) hndA;rw[hlen,htk'];exact OR.append ((hor2 hD'.2).keep λb hb=>hw2 b (hlt2 b hb) λe=>hgL2 (e▸hb)) ((hor1 hD'.1).keep λb hb=>hw2 b (hlt1 b hb) λe=>hgL (e▸hb))
             refine hK ⟨λb=>J.F b\/((∃k,k∈g1++S2.1/\b∈J.L k)/\b≠g'),λk=>if k=64*d then [g'] else if k∈g1++S2.1 then [] else J.L k,J.B⟩ _ _ (hrel.grab (U d) (λd' e=>by cases e;exact hdst d hd) _ _ (64*d) (g1++S2.1) rfl rfl hbelow hsize rfl (λk hk=>D hk)
              (λb hb=> .inl hb) (λb hb=>hb.imp id λhk=>⟨hk.1,by simpa using hk.2⟩) hgone (λ_=>by simp[get]) (λk hk=> ?_) (λb hb hn=>hw2 b hb λe=> ?_) (by simp) (λb hb=> ?_) (λ_=> ?_))
             . rcases zK.1 hk with hk' | hk'
               . exact .inl (hdead k hk')
               have hng:k∉g1:=λhm=>(zH.1 hnd).2.2 k hm k hk' rfl
               refine .inr (.inl ⟨by rw[hsrck k hk',D hD],λb hb=> ?_⟩);have hne:b≠g':=λe=>hgS k hng (e▸hb)
               exact ⟨.inr ⟨⟨k,hk,hb⟩,hne⟩,hw2 b (hrel.lo k b hb).2.1 hne⟩
             . rcases hw1 with ⟨⟨k,hk,hm⟩,_⟩ | hge
               . exact hn k (zG _ hk) (e▸hm)
               omega
             . simp only[if_true,yF] at hb;subst hb;refine ⟨hglt, ?_⟩;rcases hw1 with ⟨⟨k,hk,hm⟩,_⟩ | hge
               . exact .inr ⟨k,zG _ hk,hm⟩
               exact .inl hge
             show CR _ w' _ (.slc (.own (d1&&S2.2) (64*d)) ei.size (l1++l2));rw[show (d1&&S2.2)=E by simpa using hD];refine .inr ⟨g',cap',cur',e',by simp,by rw[hlen],hg',hcs', ?_,by omega,hcm',by omega⟩;rw[hlen,htk']
             have hk1:VR (λb=>J.F b\/((∃k,k∈g1++S2.1/\b∈J.L k)/\b≠g')) w' ei.size olds l1:=hvr1.keep λb hb=>by
              rcases hb with hb | hb
              . exact ⟨.inl hb,hw2 b (hrel.fl b hb).1 λe=>hgF (e▸hb)⟩
              obtain ⟨k,hk,hm⟩:=hL1 b hb;have hne:b≠g':=λe=>hgL (e▸hb)
              exact ⟨.inr ⟨⟨k,zG _ hk,hm⟩,hne⟩,hw2 b (hlt1 b hb) hne⟩
             refine VR.append ?_ hk1;cases hf:R0 orc with
             | true=>exact (hflat1 hf w').vr λb hb=>by simp at hb
             | false=>
               refine (hvr2 hf).keep λb hb=> ?_
               rcases hb with hb | ⟨k,hk,hm⟩
               . exact ⟨.inl hb,hw2 b (hrel.fl b hb).1 λe=>hgF (e▸hb)⟩
               have hng:k∉g1:=λhm=>(zH.1 hnd).2.2 k hm k hk rfl
               have hne:b≠g':=λe=>hgS k hng (e▸hm)
               exact ⟨.inr ⟨⟨k,zF _ hk,hm⟩,hne⟩,hw2 b (hrel.lo k b hm).2.1 hne⟩
     cases h
   cases h
 cases h
end
end
section
open Go.RowKit
def GE (F:W->Prop):Inj:=⟨F,λ_=> [],λ_=>0⟩
def Qlj (F:W->Prop) (w w':I) (L:W->Y W):Inj:=⟨λb=>F b\/(w.heap.size<=b/\b<w'.heap.size/\∀k,b∉L k),L,λ_=>0⟩
def Qhs (F:W->Prop) (w:I) (r:AV) (e:Ending) (w':I):Prop:=
 ∃v L,e= .returned v/\Below w.heap.size w w'/\(∀k,(L k).Nodup)/\(∀k b,b∈L k->w.heap.size<=b/\b<w'.heap.size)/\(∀k k' b,b∈L k->b∈L k'->k=k')/\AR (Qlj F w w' L) w' v r
def F9 (P : Program) (f : Nat) : Prop := (P.funcs[f]?).map (fun fn => (fn.name == "runtime.NumGoroutine", fn.body.isNone)) = some (false, false)
class Good (P:uC) (w:I):Prop where
 tab : ∀ g, P.globalNamed "internal/strconv.uint64pow10" = some g → Lib.TabIs P w "internal/strconv.uint64pow10" .u64 Lib.pow10Tab
 err : ∀ g, P.globalNamed "strconv.ErrSyntax" = some g → ∃ tp p, w.var? P "strconv.ErrSyntax" = some #[.iface tp p]
 mx : ∀ g, P.globalNamed "internal/bytealg.MaxLen" = some g → ∃ m, w.cell? ⟨g, 0, none⟩ = some (.int .i64 m)
 sp : ∀ g, P.globalNamed "strings.asciiSpace" = some g → Lib.TabIs P w "strings.asciiSpace" .u8 Lib.asciiSpaceTab
theorem Good.none {P : Program} (h : P.globalNamed "internal/strconv.uint64pow10" = none) (w : World) (h2 : P.globalNamed "strconv.ErrSyntax" = Option.none := by kernel_rfl) (h3 : P.globalNamed "internal/bytealg.MaxLen" = Option.none := by kernel_rfl) (h4 : P.globalNamed "strings.asciiSpace" = Option.none := by kernel_rfl) : Good P w :=
 ⟨λg hg=>(by rw[h] at hg;cases hg),λg hg=>(by rw[h2] at hg;cases hg),λg hg=>(by rw[h3] at hg;cases hg),λg hg=>(by rw[h4] at hg;cases hg)⟩
theorem Qa2 {w w':I} {g:W} {v:H} (h:w.cell? ⟨g,0,S⟩=U v) (hb:Below w.heap.size w w'):w'.cell? ⟨g,0,S⟩=U v:=by
 have hlt:g<w.heap.size:=by
  unfold World.cell? at h;split at h
  . rename_i hh;exact Xe hh
  cases h
 rw[World.cell?_of_block (hb.block g hlt)];exact h
theorem Good.keep {P:uC} {w w':I} (h:Good P w) (hb:Below w.heap.size w w'):Good P w':=⟨λg hg=>Go.Joins.tab_stays hg (h.tab g hg) hb (Nat.le_refl _),λg hg=>by
 obtain ⟨tp,p,hv⟩:=h.err g hg;exact ⟨tp,p,Go.Joins.var_stays hg hv hb (zR _)⟩,λg hg=>by
 obtain ⟨m,hm⟩:=h.mx g hg;exact ⟨m,Qa2 hm hb⟩,λg hg=>Go.Joins.tab_stays hg (h.sp g hg) hb (zR _)⟩
def ACalls (P:uC) (f:W) (args:Y AV) (r:AV):Prop:=
 F9 P f/\∀(w:I),Good P w->∀(F:W->Prop) (vals:Y H),(∀b,F b->b<w.heap.size)->All2 (AR (GE F) w) vals args->Calls P f vals.toArray w (Qhs F w r)
class GoodAt (P:uC) (b:Base):Prop where
 at_:∀w,b.Keeps w->Good P w
theorem Base.Keeps.below {b:Base} {w:I} (h:b.Keeps w) (hx:∀k,¬b.X k):Below b.w.heap.size b.w w:=⟨h.os,h.tape,h.output,h.size,λk hk=>h.block k hk (hx k)⟩
theorem GoodAt.of {P:uC} {w:I} (h:Good P w):GoodAt P ⟨w,λ_=>False,S⟩:=⟨λ_ hk=>h.keep (hk.below λ_ h=>h)⟩
def Zk (P:uC) (w0:Base) (f:W) (args:Y AV) (r:AV):Prop:=
 F9 P f/\∀(w:I),w0.Keeps w->∀(F:W->Prop) (vals:Y H),(∀b,F b->b<w.heap.size)->All2 (AR (GE F) w) vals args->Calls P f vals.toArray w (Qhs F w r)
theorem ACalls.at {P:uC} {w0:Base} [hg:GoodAt P w0] {f:W} {args:Y AV} {r:AV} (h:ACalls P f args r):Zk P w0 f args r:=⟨h.1,λw hb=>h.2 w (hg.at_ w hb)⟩
def Qpx (F:W->Prop) (L:Y W) (w:I) (n:W) (turn:uD) (l':Y (Y PV)) (e:Ending) (w':I):Prop:=
 ∃ u,e= .returned u/\(∀m,m<=w.heap.size->(∀b,b∈L->m<=b)->Below m w w')/\(∀b,b<w.heap.size->b∉L->w'.heap[b]? =w.heap[b]?)/\
   match turn with
   | true=>u= .tuple #[]/\∀v2 l2,OwnTop F L w v2 n l2->OwnTop F L w' v2 n (KY l2 l'.flatten)
   | false=>∃L':Y W,L'.Nodup/\(∀b,b∈L'->b<w'.heap.size/\(w.heap.size<=b\/b∈L))/\OwnTop (λb=>F b\/((w.heap.size<=b\/b∈L)/\b<w'.heap.size/\b∉L')) L' w' u n l'
def Qkc (P:uC) (w:I) (ok:Y W->Prop) (f n:W) (l:Y (Y PV)) (args:Y AV) (mix turn:uD) (l':Y (Y PV)):Prop:=
 ∀ (F G:W->Prop) (L:Y W) (v:H) (vals:Y H),ok L->(∀b,F b->G b)->(mix=O->∀b,G b->F b)->(∀b,G b->b<w.heap.size)->L.Nodup->(∀b,b∈L->b<w.heap.size/\¬G b)->
   OwnTop F L w v n l->All2 (AR (GE G) w) vals args->Calls P f (v::vals).toArray w (Qpx F L w n turn l')
def ATake (P:uC) (f n:W) (l:Y (Y PV)) (args:Y AV) (mix turn:uD) (l':Y (Y PV)):Prop:=F9 P f/\∀w,Qkc P w (λL=>GoodAt P ⟨w,λx=>x∈L,S⟩) f n l args mix turn l'
def DK (P:uC) (w0:Base) (f n:W) (l:Y (Y PV)) (args:Y AV) (mix turn:uD) (l':Y (Y PV)):Prop:=F9 P f/\∀w,w0.Keeps w->Qkc P w (λL=>∀x,x∈L->w0.lo x) f n l args mix turn l'
theorem ATake.at {P:uC} {w0:Base} [hg:GoodAt P w0] {f n:W} {l:Y (Y PV)} {args:Y AV} {mix turn:uD} {l':Y (Y PV)} (h:ATake P f n l args mix turn l'):DK P w0 f n l args mix turn l':=
 ⟨h.1,λw hb F G L v vals hok=>h.2 w F G L v vals ⟨λw' hk=>hg.at_ w' (hb.step hk.os hk.tape hk.output hk.size λk hkl hn=>hk.block k hkl λhx=>hn (hok k hx))⟩⟩
def Qhd:C->uD
 | .int _ _=>O
 | .bool _=>O
 | .str _=>O
 | .slc .sh _ _=>O
 | .slc (.own O _) _ _=>O
 | _=>E
def AD:C->uD
 | .int _ _=>O
 | .bool _=>O
 | .str _=>O
 | _=>E
def Qht (F:W->Prop) (L:W->Y W) (b:W):Inj:=⟨F,L,λ_=>b⟩
def Qc8 (F:W->Prop) (L:W->Y W) (w w':I) (L':W->Y W):Inj:=⟨λx=>F x\/((w.heap.size<=x\/∃j,x∈L j)/\x<w'.heap.size/\∀k,x∉L' k),L',λ_=>0⟩
def Qn7 (J:Inj) (w:I) (b:W) (cs:Y C):Prop:=∃arr e,w.heap[b]? =U (.cells arr e (0,0))/\All2 (CR J w) arr.toList cs
def Qp9 (F:W->Prop) (L:W->Y W) (b:W) (w:I) (r:AV) (cs:Y C) (e:Ending) (w':I):Prop:=
 ∃ v L',e= .returned v/\w'.os=w.os/\w'.tape=w.tape/\w'.output=w.output/\w.heap.size<=w'.heap.size/\(∀k,k<w.heap.size->k≠b->(∀j,k∉L j)->w'.heap[k]? =w.heap[k]?)/\
   (∀k,(L' k).Nodup)/\(∀k x,x∈L' k->x<w'.heap.size/\(w.heap.size<=x\/∃j,x∈L j))/\(∀k k' x,x∈L' k->x∈L' k'->k=k')/\AR (Qc8 F L w w' L') w' v r/\Qn7 (Qc8 F L w w' L') w' b cs
structure Given (F:W->Prop) (L:W->Y W) (b:W) (w:I):Prop where
 fl:∀x,F x->x<w.heap.size
 nd:∀k,(L k).Nodup
 lt:∀k x,x∈L k->x<w.heap.size/\¬F x
 dj:∀k k' x,x∈L k->x∈L k'->k=k'
 bF:¬F b
 bL:∀k,b∉L k
def Qkd (P:uC) (w:I) (ok:W->(W->Y W)->Prop) (f:W) (cs:Y C) (args:Y AV) (r:AV) (cs':Y C):Prop:=
 ∀ (F:W->Prop) (L:W->Y W) (b:W) (vals:Y H),ok b L->Given F L b w->Qn7 (Qht F L b) w b cs->All2 (AR (GE F) w) vals args->
   Calls P f (.pointer (U ⟨b,0,S⟩)::vals).toArray w (Qp9 F L b w r cs')
def AGive (P:uC) (f:W) (cs:Y C) (args:Y AV) (r:AV) (cs':Y C):Prop:=F9 P f/\∀w,Qkd P w (λb L=>GoodAt P ⟨w,λx=>x=b\/∃j,x∈L j,U b⟩) f cs args r cs'
def OF (P:uC) (w0:Base) (f:W) (cs:Y C) (args:Y AV) (r:AV) (cs':Y C):Prop:=F9 P f/\∀w,w0.Keeps w->Qkd P w (λb L=>∀x,(x=b\/∃j,x∈L j)->w0.lo x) f cs args r cs'
theorem AGive.at {P:uC} {w0:Base} [hg:GoodAt P w0] {f:W} {cs:Y C} {args:Y AV} {r:AV} {cs':Y C} (h:AGive P f cs args r cs'):OF P w0 f cs args r cs':=
 ⟨h.1,λw hb F L b vals hok=>h.2 w F L b vals ⟨λw' hk=>hg.at_ w' (hb.step hk.os hk.tape hk.output hk.size λk hkl hn=>hk.block k hkl λhx=>hn (hok k hx))⟩⟩
def Qpy (F:W->Prop) (L:W->Y W):Inj:=⟨F,L,λ_=>0⟩
def Qn8:C->uD
 | .int _ _=>O
 | .bool _=>O
 | .str _=>O
 | .slc (.own O _) _ _=>O
 | _=>E
structure Owns (F:W->Prop) (L:W->Y W) (w:I):Prop where
 fl:∀x,F x->x<w.heap.size
 nd:∀k,(L k).Nodup
 lt:∀k x,x∈L k->x<w.heap.size/\¬F x
 dj:∀k k' x,x∈L k->x∈L k'->k=k'
def Qqa (L:W->Y W) (w:I) (r:AV) (e:Ending) (w':I):Prop:=
 ∃ v L',e= .returned v/\w'.os=w.os/\w'.tape=w.tape/\w'.output=w.output/\w.heap.size<=w'.heap.size/\(∀k,k<w.heap.size->(∀j,k∉L j)->w'.heap[k]? =w.heap[k]?)/\
   (∀k,(L' k).Nodup)/\(∀k x,x∈L' k->x<w'.heap.size/\(w.heap.size<=x\/∃j,x∈L j))/\(∀k k' x,x∈L' k->x∈L' k'->k=k')/\AR ⟨λ_=>False,L',λ_=>0⟩ w' v r
def Qke (P:uC) (w:I) (ok:(W->Y W)->Prop) (f:W) (args:Y AV) (r:AV):Prop:=
 ∀(F:W->Prop) (L:W->Y W) (vals:Y H),ok L->Owns F L w->All2 (AR (Qpy F L) w) vals args->Calls P f vals.toArray w (Qqa L w r)
def AVal (P:uC) (f:W) (args:Y AV) (r:AV):Prop:=F9 P f/\∀w,Qke P w (λL=>GoodAt P ⟨w,λx=>∃j,x∈L j,S⟩) f args r
def Qc9 (P:uC) (w0:Base) (f:W) (args:Y AV) (r:AV):Prop:=F9 P f/\∀w,w0.Keeps w->Qke P w (λL=>∀x,(∃j,x∈L j)->w0.lo x) f args r
theorem AVal.at {P:uC} {w0:Base} [hg:GoodAt P w0] {f:W} {args:Y AV} {r:AV} (h:AVal P f args r):Qc9 P w0 f args r:=
 ⟨h.1,λw hb F L vals hok=>h.2 w F L vals ⟨λw' hk=>hg.at_ w' (hb.step hk.os hk.tape hk.output hk.size λk hkl hn=>hk.block k hkl λhx=>hn (hok k hx))⟩⟩
structure RowAt (w:I) (n:W) (oa:uA Addr) (m cap:W) (olds:Y H):Prop where
 len:olds.length=m*n
 row:(oa=oa/\m=0/\cap=0)\/∃g cur e,oa=U ⟨g,0,S⟩/\w.heap[g]? =U (.cells cur e (0,0))/\cur.size=cap*n/\cur.toList.take (m*n)=olds
 le:m<=cap
 cap:cap<=uH
 lim:m<1073741824
 ones:∀u,u∈olds->u.oneCell'=O
structure Turned (w w':I) (n:W) (oa:uA Addr) (cap:W) (u:H) (m':W) (news:Y H):Prop where
 os:w'.os=w.os
 tape:w'.tape=w.tape
 output:w'.output=w.output
 size:w.heap.size<=w'.heap.size
 row:∃g' cap' cur' e',u= .slice (U ⟨g',0,S⟩) m' cap'/\w'.heap[g']? =U (.cells cur' e' (0,0))/\cur'.size=cap'*n/\cur'.toList.take (m'*n)=news/\m'<=cap'/\cap'<=uH/\
  ((oa=U ⟨g',0,S⟩/\0<cap/\∀b,b≠g'->w'.heap[b]? =w.heap[b]?)\/(w.heap.size<=g'/\g'<w'.heap.size/\∀b,b<w.heap.size->w'.heap[b]? =w.heap[b]?))
def Qqb (w:I) (n i:W) (oa:uA Addr) (m cap:W) (olds vs:Y H) (e:Ending) (w':I):Prop:=
 ∃u,e= .returned u/\Turned w w' n oa cap u (m+1) (olds.take (i*n)++vs++olds.drop (i*n))
structure OneAt (w:I) (n:W) (oa:uA Addr) (cap:W) (vb voff:W) (vs:Y H):Prop where
 len:vs.length=n
 cells:∀j u,vs[j]? =U u->w.cell? ⟨vb,voff+j,S⟩=U u
 ones:∀u,u∈vs->u.oneCell'=O
 ne:∀g,oa=U ⟨g,0,S⟩->0<cap->vb≠g
def Qq8 (P:uC) (f n:W):Prop:=F9 P f/\0<n/\∀(w:I) (oa:uA Addr) (m cap:W) (olds:Y H) (i vb voff vc:W) (vs:Y H),RowAt w n oa m cap olds->OneAt w n oa cap vb voff vs->i<=m->
 Calls P f #[.slice oa m cap,.int .i64 (i:Int),.slice (U ⟨vb,voff,S⟩) 1 vc] w (Qqb w n i oa m cap olds vs)
def Vs (P:uC) (w0:Base):TakeT:=⟨DK P w0,OF P w0,Qc9 P w0,Qq8 P⟩
def Zi (d:W):Y W->Y W
 | []=> []
 | k::r=>(64*d+k)::Zi d r
def Ox:Y W->Y W->uD
 | [],_=>O
 | x::r,l=> !(M2 x l)&&Ox r l
def Qlk (f:C->uD):Y C->uD
 | []=>E
 | c::r=>f c|| Qlk f r
def KA (bn:Y (W×Y C)) (d f:W) (caps:uA (Y (Y PV))) (avs:Y AV) (r:AV) (ptrs:uD):uA (Res×Y Ob):=
 match Ra bn avs,caps with
 | some args,U cps=>
   bif H3 VI r.cells&&Ae (Qv r.cells) then
    bif Qlk XS r.cells then
     bif !ptrs&&H3 Ou (Y6 avs)&&Ox (Zi d (Qv r.cells)) (Qv (Y6 avs)) then
      U (⟨r.map (VH d),Va (Zi d (Qv r.cells))++X5 (Qv (Y6 avs)),S,S⟩, [.call f (args++cps.map λc=> .one (.rptr .sh c)) r])
     else S
    else U (⟨r.map (VH d),Va (Zi d (Qv r.cells)),S,S⟩, [.call f (args++cps.map λc=> .one (.rptr .sh c)) r])
   else S
 | _,_=>S
def Qll (orc:Orc) (bn:Y (W×Y C)) (dst:uA W):Op->Y AV->uA (Res×Y Ob)
 | .call ⟨.value _,_,_⟩,.one (.fn f caps)::avs=>
   (match dst,orc with
   | some d,.val r=>KA bn d f (Ry bn caps) avs r (match caps with
     | []=>E
     | _=>O)
   | _,_=>S)
 | .call ⟨.value _,_,_⟩,.one (.fnr f caps)::avs=>
   (match dst,orc with
   | some d,.val r=>KA bn d f (U caps) avs r O
   | _,_=>S)
 | _,_=>S
section
variable {P:uC} {N:W} {w0:Base} {F0:W->Prop} {J:Inj} {a:Act} {w:I} {s:St}
theorem M6 {o:Oper} {K:Act->I->Prop} {Q:Exit->Act->I->Prop} {x:Operand} {args:uE Operand} {tys:uE uG} {n:W} {caps:uE H} (ho:o.op= .call {callee:= .value x,args:=args,argTypes:=tys})
 (hx:a.eval x= .func (.func n) #[] caps) (hf:F9 P n)
 (h:Calls P n (args.map a.eval++caps) w (λe w''=>match e,w'' with
  | .returned v,w''=>K (a.put o.dst v) w''
  | .panicked c,w''=>Q (.panic c) a w''
  | .outgrown,_=>LetsOut Q)):o.wp P a w K Q:=by
 obtain ⟨fn,hfn,hq⟩:=zX.1 hf;simp only[zP] at hq;unfold Oper.wp execOp;simp only[ho,resolve,Sem.run_bind,hx,Deferred.ofValue,Sem.run_pure,Result.andThen_ok,invoke,Array.empty_append]
 have hcf:(callFunc n (args.map a.eval++caps)).run P w= .ok (.enter n (args.map a.eval++caps)) w:=by
  have h1 : ¬ fn.name = "runtime.NumGoroutine" := by simpa using hq.1
  have h2:¬fn.body=S:=λe=>by rw[e] at hq;simp at hq
  unfold callFunc;simp[hfn,h1,h2]
 rw[hcf];rw[Oper.upon_enter];exact h.mono λe w' hh=>by cases e<;>exact hh
def BoxF (J:Inj) (w:I) (F:W->Prop) (bn:Y (W×Y C)):Prop:=
 ∀k x,get bn k=U x->F (J.B k)/\(∀k',k'∈Qv x->∀b,b∈J.L k'->F b)/\∃arr e,w.heap[J.B k]? =U (.cells arr e (0,0))/\All2 (CR J w) arr.toList x
theorem BoxF.of {bn:Y (W×Y C)} (h:∀k b,b∈J.L k->b<w.heap.size) (hb:∀k x,get bn k=U x->∃arr e,w.heap[J.B k]? =U (.cells arr e (0,0))/\All2 (CR J w) arr.toList x):BoxF J w (λb=>b<w.heap.size) bn:=λk x hk=>by
 obtain ⟨arr,e,h1,h2⟩:=hb k x hk;exact ⟨Xe h1,λk' _ b hm=>h k' b hm,arr,e,h1,h2⟩
theorem GQ:∀(n:W) {cs:Y C} {k:W},k∈Qv (cs.drop n)->k∈Qv cs
 | 0,_,_,h=>by simpa using h
 | _+1, [],_,h=>by simp at h;exact h
 | n+1,_::r,_,h=>by
   rw[List.drop_succ_cons] at h;simp only[Qv];exact zF _ (GQ n h)
theorem AZ:∀{l:Y C},H3 Ou l=O->H3 VJ l=O
 | [],_=>rfl
 | c::l,h=>by
   simp only[H3,zE] at h⊢;refine ⟨?_,AZ h.2⟩;have h1:=h.1;cases c<;>first | rfl | cases h1
theorem DL {F:W->Prop} {bn:Y (W×Y C)} (hF:∀b,J.F b->F b) {v:H} {c c':C} (hc:CR J w v c) (he:RY bn c=U c') (hL:∀k,c.key=U k->∀b,b∈J.L k->F b)
 (hB:VJ c=O\/BoxF J w F bn):CR (GE F) w v c':=by
 have hbox:BoxF J w F bn->∀k off cs,Qhl bn k off=U cs->Reads F w (.pointer (U ⟨J.B k,off,S⟩)) cs:=by
  intro h3 k off cs hb;unfold Qhl at hb;split at hb
  . rename_i x hx;obtain ⟨h1,h2,arr,e,hg,hall⟩:=h3 k x hx;refine ⟨J.B k,off,arr.toList.drop off,rfl,h1,Tm (hall.drop off) hb (λb hb=>⟨hF b hb,rfl⟩) (λk' hk' b hb=>⟨h2 k' (GQ off hk') b hb,rfl⟩), ?_⟩
    have:=Ce (w:=w) (vs:=arr.toList) (b:=J.B k) (off:=0) (k:=off) (λj u hj=>by
     rw[yK] at hj;simp[World.cell?,hg,hj])
    simpa using this
  cases hb
 cases c with
 | int=>obtain rfl:=zD he;exact hc
 | bool=>obtain rfl:=zD he;exact hc
 | str=>obtain rfl:=zD he;exact hc
 | slc t n l=>
   obtain rfl:=zD he;exact Qc7 (X:=F) hc rfl (λb hb=>⟨hF b hb,rfl⟩) λk hk b hb=>⟨hL k hk b hb,rfl⟩
 | ptr k off=>
   obtain ⟨cs,hcs,rfl⟩:=zX.1 he;rcases hB with hB | h3
   . cases hB
   show Reads F w v cs;rw[show v=_ from hc];exact hbox h3 k off cs hcs
 | rptr t cs=>
   obtain rfl:=zD he;refine Reads.keep hc λb hb=>⟨?_,rfl⟩
   cases t with
   | sh=>exact hF b hb
   | emp=>exact hb.elim
   | own=>exact hb.elim
   | put=>exact hb.elim
   | vw k=>exact hb.elim (hL k rfl b) (hF b)
 | ept d k n i o cs=>
   obtain rfl:=zD he;obtain ⟨g,r,vs,h1,h2,h3,h4,_⟩:=hc;refine ⟨g,i*n+o,vs,h2,hL k rfl g (by rw[h1];exact zL),h3.keep λb hb=>⟨?_,rfl⟩,h4⟩;cases d with
   | true=>exact hb.elim (hL k rfl b) (hF b)
   | false=>exact hF b hb
 | fn f caps =>
   obtain ⟨cs,hcs,rfl⟩:=zX.1 he;rcases hB with hB | h3
   . cases caps with
     | nil=>
       obtain rfl: []=cs:=by simpa [Ry] using hcs
       exact ⟨[],hc,.nil⟩
     | cons=>cases hB
   refine ⟨_,hc, ?_⟩;clear hc he hL
   induction caps generalizing cs with
   | nil => obtain rfl: []=cs:=by simpa [Ry] using hcs
            exact .nil
   | cons c caps ih=>
     simp only[Ry] at hcs;split at hcs
     . rename_i p ps e1 e2;obtain rfl:=zD hcs;exact .cons (hbox h3 c.1 c.2 p e1) (ih ps e2)
     cases hcs
 | fnr f caps=>
   obtain rfl:=zD he;obtain ⟨vs,rfl,ha⟩:=hc;exact ⟨vs,rfl,ha.imp λ_ _ _ h=>h.keep λb hb=>⟨hF b hb,rfl⟩⟩
 | raw u=>obtain rfl:=zD he;exact hc
 | dead=>cases he
theorem Oy {F : Nat -> Prop} {bn : List (W×Y C)} (hF:∀b,J.F b->F b):∀{vs:Y H} {avs args:Y AV},All2 (AR J w) vs avs->Ra bn avs=U args->(∀k,k∈Qv (Y6 avs)->∀b,b∈J.L k->F b)->
 (H3 VJ (Y6 avs)=O\/BoxF J w F bn)->All2 (AR (GE F) w) vs args
 | _, _, args, .nil, he, _, _ => by obtain rfl: []=args:=by simpa [Ra] using he
                                    exact .nil
 | _, _, args, .cons (b:=x) h1 h2,he,hL,hB=>by
   have hka:∀(cs cs':Y C),Qv (cs++cs')=Qv cs++Qv cs':=by
    intro cs cs'
    induction cs with
    | nil=>rfl
    | cons c cs ih=>simp[Qv,ih]
   have haa:∀(f:C->uD) (cs cs':Y C),H3 f (cs++cs')=(H3 f cs&&H3 f cs'):=by
    intro f cs cs'
    induction cs with
    | nil=>rfl
    | cons c cs ih=>simp[H3,ih,Bool.and_assoc]
   simp only[Ra] at he;split at he
   . rename_i p ps e1 e2;obtain rfl:=zD he;simp only[Y6,hka] at hL;simp only[Y6,haa,zE] at hB;refine .cons ?_ (Oy hF h2 e2 (λk hk=>hL k (zF _ hk)) (hB.imp (λh=>h.2) id));have hL1:∀k,k∈Qv x.cells->∀b,b∈J.L k->F b:=λk hk=>hL k (zG _ hk)
     have hB1:=hB.imp (λh=>h.1) id
     have hlist :∀(cs:Y C) (us:Y H) (qs:Y C),All2 (CR J w) us cs->VG bn cs=U qs->(∀k,k∈Qv cs->∀b,b∈J.L k->F b)->(H3 VJ cs=O\/BoxF J w F bn)->All2 (CR (GE F) w) us qs:=by
      intro cs
      induction cs with
      | nil => intro us qs h he _ _;cases h;obtain rfl: []=qs:=by simpa [VG] using he
               exact .nil
      | cons c cs ih=>
        intro us qs h he hL hB;cases h with
        | cons g1 g2=>
          simp only[VG] at he;split at he
          . rename_i q qs' f1 f2;obtain rfl:=zD he;simp only[H3,zE] at hB;exact .cons (DL hF g1 f1 (λk hk=>hL k (by simp[Qv,hk])) (hB.imp (λh=>h.1) id)) (ih _ _ g2 f2 (λk hk=>hL k (by simp only[Qv];exact zF _ hk)) (hB.imp (λh=>h.2) id))
          cases he
     cases x with
     | one c=>
       obtain ⟨c',hc',rfl⟩:=zX.1 e1;exact DL hF h1 hc' (λk hk=>hL1 k (by simp[AV.cells,Qv,hk])) (hB1.imp (λh=>by simpa [AV.cells,H3] using h) id)
     | agg cs=>
       obtain ⟨c',hc',rfl⟩:=zX.1 e1;obtain ⟨us,rfl,hu⟩:=h1;exact ⟨us,rfl,hlist cs us c' hu hc' hL1 hB1⟩
     | tup l=>cases e1
   cases he
end
end
section
open Go.RowKit
section
variable {P:uC} {N:W} {w0:Base} {F0:W->Prop} {J:Inj} {a:Act} {w:I} {s:St}
theorem Bh {d x:W}:∀{ks:Y W},x∈Zi d ks↔∃k,k∈ks/\x=64*d+k
 | []=>by simp[Zi]
 | k::r=>by
   simp only[Zi,zM,Bh (ks:=r)];exact ⟨λh=>h.elim (λe=>⟨k,.inl rfl,e⟩) λ⟨k',h1,h2⟩=>⟨k',.inr h1,h2⟩,λ⟨k',h1,h2⟩=>h1.elim (λe=> .inl (e▸h2)) λh=> .inr ⟨k',h,h2⟩⟩
theorem Ga:∀{l m:Y W},Ox l m=O->∀x,x∈l->x∉m
 | [],_,_,x,hx,_=>by simp at hx
 | y::l,m,h,x,hx,hm=>by
   simp only[Ox,zE,zT] at h;rcases zM.1 hx with rfl | hx
   . rw[Cf.2 hm] at h;exact absurd h.1 (by simp)
   exact Ga h.2 x hx hm
theorem Hf {f:C->uD}:∀{cs:Y C},H3 f cs=O->∀c,c∈cs->f c=O
 | [],_,c,hc=>by simp at hc
 | x::r,h,c,hc=>by
   simp only[H3,zE] at h;rcases zM.1 hc with rfl | hc
   . exact h.1
   exact Hf h.2 c hc
theorem XW {f:C->uD}:∀{cs:Y C},Qlk f cs=E->∀c,c∈cs->f c=E
 | [],_,c,hc=>by simp at hc
 | x::r,h,c,hc=>by
   simp only[Qlk,Bool.or_eq_false_iff] at h;rcases zM.1 hc with rfl | hc
   . exact h.1
   exact XW h.2 c hc
theorem M7:∀{cs:Y C} {c:C} {k:W},c∈cs->c.key=U k->k∈Qv cs
 | x::r,c,k,hc,hk=>by
   simp only[Qv];rcases zM.1 hc with rfl | hc
   . exact zG _ (by rw[hk];simp)
   exact zF _ (M7 hc hk)
theorem GR:∀{cs:Y C},H3 VI cs=O->∀{k:W},k∈Qv cs->k<64
 | [],_,k,hk=>by simp[Qv] at hk
 | c :: r,h,k,hk=>by
   simp only[H3,zE] at h;simp only[Qv] at hk;rcases zK.1 hk with hk | hk
   . have h1:=h.1;cases c with
     | slc t n l=>
       cases t with
       | own b k'=>
         simp[C.key,Tok.key] at hk;subst hk;simp only[VI,xA] at h1;exact h1
       | _=>simp[C.key,Tok.key] at hk;try cases h1
     | _=>simp[C.key] at hk;try cases h1
   exact GR h.2 hk
theorem GS (hrel:Rel N w0 F0 J a w s) (d:W) (hd:d<N) {r:AV} {frz:Y W} (hback:H3 VI r.cells=O) (Fc:W->Prop) (hFc:∀b,Fc b->b<w.heap.size)
 (hmode:(frz= []/\Qlk XS r.cells=E)\/((∀b,Fc b↔J.F b\/∃k,k∈frz/\b∈J.L k)/\∀x,x∈Zi d (Qv r.cells)->x∉frz)) {e:Ending} {w':I} (hret:Qhs Fc w r e w'):
 ∃v J',e= .returned v/\Rel N w0 F0 J' (a.put (U d) v) w' (s.step (U d) ⟨r.map (VH d),Va (Zi d (Qv r.cells))++X5 frz,S,S⟩):=by
 obtain ⟨v,L,rfl,hb,hnd,hlo,hdj,hr⟩:=hret;have hk64:∀k,k∈Qv r.cells->k<64:=λk hk=>GR hback hk
 have h0:=hrel.below.size;have hsz:=hb.size;have hsame:∀b,b<w.heap.size->w'.heap[b]? =w.heap[b]? :=hb.block
 have hfrzn:∀x,x∈Zi d (Qv r.cells)->x∉frz:=λx hx=>by
  rcases hmode with ⟨e,_⟩ | ⟨_,h⟩
  . rw[e];simp
  exact h x hx
 have hget:∀x,get (Va (Zi d (Qv r.cells))++X5 frz) x=if x∈Zi d (Qv r.cells) then U S else if x∈frz then U (U .sh) else S:=by
  intro x;rw[XV,Ai];by_cases h:x∈Zi d (Qv r.cells)
  . rw[uB h,uB h]
  rw[D h,D h];exact Ur
 let shares:=Qlk XS r.cells
 let J':Inj:=⟨λb=>if frz= []/\shares=E then J.F b else (Fc b\/(w.heap.size<=b/\b<w'.heap.size/\∀k,b∉L k)),λx=>if x∈Zi d (Qv r.cells) then L (x-64*d) else if x∈frz then [] else J.L x,J.B⟩
 have hF1:∀b,J.F b->J'.F b:=λb hb'=>by
  show if _ then _ else _
  split
  . exact hb'
  rename_i hn;rcases hmode with h | ⟨h,_⟩
  . exact absurd h hn
  exact .inl ((h b).2 (.inl hb'))
 have hF2:∀b,J'.F b->J.F b\/(∃k,k∈frz/\b∈J.L k)\/(w.heap.size<=b/\b<w'.heap.size/\∀k,b∉L k):=λb hb'=>by
  have hb':if frz= []/\shares=E then J.F b else (Fc b\/(w.heap.size<=b/\b<w'.heap.size/\∀k,b∉L k)):=hb'
  split at hb'
  . exact .inl hb'
  rename_i hn;rcases hmode with h | ⟨h,_⟩
  . exact absurd h hn
  rcases hb' with hb' | hb'
  . exact ((h b).1 hb').imp id .inl
  exact .inr (.inr hb')
 refine ⟨v,J',rfl,hrel.upd (U d) (λd' e=>by cases e;exact hd) _ v (hrel.below.trans (hb.mono h0)) ⟨λb hb'=>⟨hF1 b hb',hsame b (hrel.fl b hb').1⟩,λk hk=> ?_,λk hk b hm=> ?_,λk k' hk=> ?_,λk t hk=> ?_,(λ_ _=>rfl),λk d m i o cs hk=>by
  rw[hget] at hk;split at hk
  . cases hk
  split at hk<;>cases hk⟩
  ⟨λb hb'=> ?_,λb hb'=>hF1 b (hrel.f0 b hb'),λk=> ?_,λk b hm=> ?_,λk k' b hm hm'=> ?_⟩ (λ_=> ?_) (λk c hk _=> ?_) (λk c hk=>by cases hk)⟩
 . rw[hget] at hk;split at hk
   . cases hk
   split at hk
   . cases hk
   rename_i h1 h2;exact ⟨by show (if _ then _ else _)=_;rw[D h1,D h2],λb hm=>hsame b (hrel.lo k b hm).2.1⟩
 . rw [hget] at hk;split at hk
   . cases hk
   split at hk
   . rename_i h1 h2;refine ⟨?_,hsame b (hrel.lo k b hm).2.1⟩;show if _ then _ else _
     rcases hmode with ⟨e,_⟩ | ⟨h,_⟩
     . rw[e] at h2;simp at h2
     rw[D λhn=>by rw[hn.1] at h2;simp at h2];exact .inl ((h b).2 (.inr ⟨k,h2,hm⟩))
   cases hk
 . rw[hget] at hk;split at hk
   . cases hk
   split at hk<;>cases hk
 . rw[hget] at hk;split at hk
   . cases hk
   split at hk
   . simp at hk;exact .inl hk.symm
   cases hk
 . rcases hF2 b hb' with h | ⟨k,_,h⟩ | ⟨h1,h2,_⟩
   . have:=hrel.fl b h;exact ⟨by omega,this.2⟩
   . have:=hrel.lo k b h;exact ⟨by omega,.inr this.1⟩
   exact ⟨h2,.inr (.inl (by omega))⟩
 . show (if _ then _ else _:Y W).Nodup;split
   . exact hnd _
   split
   . simp
   exact hrel.nd k
 . have hm:b∈(if k∈Zi d (Qv r.cells) then L (k-64*d) else if k∈frz then [] else J.L k):=hm;split at hm
   . obtain ⟨h1,h2⟩:=hlo _ b hm;refine ⟨.inl (by omega),h2,λhF=> ?_⟩;rcases hF2 b hF with h | ⟨k',_,h⟩ | ⟨_,_,h⟩
     . have:=(hrel.fl b h).1;omega
     . have:=(hrel.lo k' b h).2.1;omega
     exact h _ hm
   split at hm
   . simp at hm
   rename_i h1 h2;obtain ⟨g1,g2,g3⟩:=hrel.lo k b hm;refine ⟨g1,by omega,λhF=> ?_⟩;rcases hF2 b hF with h | ⟨k',hk',h⟩ | ⟨h,_,_⟩
   . exact g3 h
   . exact h2 (hrel.dj k k' b hm h▸hk')
   omega
 . have hm:b∈(if k∈Zi d (Qv r.cells) then L (k-64*d) else if k∈frz then [] else J.L k):=hm;have hm':b∈(if k'∈Zi d (Qv r.cells) then L (k'-64*d) else if k'∈frz then [] else J.L k'):=hm';split at hm<;>split at hm'
   . rename_i h1 h2;have:=hdj _ _ b hm hm';obtain ⟨j,_,rfl⟩:=Bh.1 h1;obtain ⟨j',_,rfl⟩:=Bh.1 h2;omega
   . split at hm'
     . simp at hm'
     have:=(hlo _ b hm).1;have:=(hrel.lo k' b hm').2.1;omega
   . split at hm
     . simp at hm
     have:=(hlo _ b hm').1;have:=(hrel.lo k b hm).2.1;omega
   split at hm
   . simp at hm
   split at hm'
   . simp at hm'
   exact hrel.dj k k' b hm hm'
 . refine AR.map (VH d) hr λu c hc hcr=> ?_
   have hbk:=Hf hback c hc;cases c with
   | int | bool | str | raw=>exact hcr
   | slc t n l=>
     cases t with
     | emp=>exact hcr
     | vw k=>cases hbk
     | put=>exact hcr.elim
     | own b k=>
       cases b with
       | false=>
         have hsh:shares=O:=by
          cases hs:shares with
          | true=>rfl
          | false=>have:=XW hs _ hc;simp[XS] at this
         show OwnTop J'.F (if 64*d+k∈Zi d (Qv r.cells) then L (64*d+k-64*d) else _) w' u _ _;rw[uB (Bh.2 ⟨k,M7 hc rfl,rfl⟩),yB];refine OwnTop.keep (F:=(Qlj Fc w w' L).F) hcr (λb hb'=>⟨?_,rfl⟩) λ_ _=>rfl
         show if _ then _ else _
         rw[D (by rw[hsh];simp)];exact hb'
       | true=>
         show OwnDeep (if 64*d+k∈Zi d (Qv r.cells) then L (64*d+k-64*d) else _) w' u _ _;rw[uB (Bh.2 ⟨k,M7 hc rfl,rfl⟩),yB];exact hcr
     | sh=>
       have hsh:shares=O:=by
        cases hs:shares with
        | true=>rfl
        | false=>have:=XW hs _ hc;simp[XS] at this
       refine VV.keep (X:=(Qlj Fc w w' L).F) (λb hb'=>⟨?_,rfl⟩) hcr;show if _ then _ else _
       rw[D (by rw[hsh];simp)];exact hb'
   | _=>cases hbk
 obtain ⟨_,h2,h3,arr,e,h4,_⟩:=hrel.bo k c hk;have hlt:=Xe h4;refine ⟨by simp,λhF=> ?_,λk' hm=> ?_,hsame _ hlt⟩
 . rcases hF2 _ hF with h | ⟨k',_,h⟩ | ⟨h,_,_⟩
   . exact h2 h
   . exact h3 k' h
   omega
 have hm:J.B k∈(if k'∈Zi d (Qv r.cells) then L (k'-64*d) else if k'∈frz then [] else J.L k'):=hm;split at hm
 . have:=(hlo _ _ hm).1;omega
 split at hm
 . simp at hm
 exact h3 k' hm
theorem All2.of_map {α β γ:Type} {R:α->β->Prop} (f:γ->α):∀{l:Y γ} {m:Y β},All2 (λx b=>R (f x) b) l m->All2 R (l.map f) m
 | _,_,.nil=> .nil
 | _,_,.cons h1 h2=> .cons h1 (All2.of_map f h2)
theorem VO {o:Oper} {x:Operand} {args:uE Operand} {tys:uE uG} {f:W} {caps:uE H} {cps:uA (Y (Y PV))} {avs:Y AV} {r:AV} {ptrs:uD} {bn:Y (W×Y C)} {rs:Res} {obs:Y Ob} {d:W}
 (ho:o.op= .call ⟨.value x,args,tys⟩) (hod:o.dst=U d) (hdst:d<N) (hx:a.eval x= .func (.func f) #[] caps) (h:KA bn d f cps avs r ptrs=U (rs,obs)) (hob:AllOb (Zk P w0) (Vs P w0) obs)
 (hrel:Rel N w0 F0 J a w s) (hv:All2 (AR J w) (args.toList.map a.eval) avs) (hbn:∀k c,get bn k=U c->get s.bx k=U c)
 (hcaps:∀cs,cps=U cs->(ptrs=E->cs= []/\caps= #[])/\All2 (Reads (λb=>b<w.heap.size) w) caps.toList cs)
 {K:Act->I->Prop} {Q:Exit->Act->I->Prop} (hK:∀J' a' w',Rel N w0 F0 J' a' w' (s.step o.dst rs)->K a' w'):o.wp P a w K Q:=by
 unfold KA at h;split at h
 rotate_left
 . cases h
 rename_i eas cs has;have hcs:U cs=U cs:=rfl;cases hc:(H3 VI r.cells&&Ae (Qv r.cells)) with
 | false=>rw[hc] at h;cases h
 | true =>
   rw[hc] at h;simp only[uF] at h;simp only[zE] at hc;rw[hod] at hK
   have hbx:∀k x,get bn k=U x->∃arr e,w.heap[J.B k]? =U (.cells arr e (0,0))/\All2 (CR J w) arr.toList x:=λk x hk=>by
    obtain ⟨_,_,_,h⟩:=hrel.bo k x (hbn k x hk);exact h
   have hAllF:∀b,J.F b->b<w.heap.size:=λb hb=>(hrel.fl b hb).1
   have hcapAR:∀(F:W->Prop) (us:Y H) (cs:Y (Y PV)),All2 (Reads F w) us cs->All2 (AR (GE F) w) us (cs.map λc=> .one (.rptr .sh c)):=by
    intro F us cs h
    induction h with
    | nil=>exact .nil
    | cons h1 _ ih=>exact .cons h1 ih
   have hvals:(args.map a.eval++caps)=(args.toList.map a.eval++caps.toList).toArray:=by
    apply yT;simp
   cases hsh:Qlk XS r.cells with
   | true=>
     rw[hsh] at h;simp only[uF] at h;cases hm:(!ptrs&&H3 Ou (Y6 avs)&&Ox (Zi d (Qv r.cells)) (Qv (Y6 avs))) with
     | false=>rw[hm] at h;cases h
     | true=>
       rw[hm] at h;simp only[uF,zN,zP] at h;obtain ⟨rfl,rfl⟩:=h;simp only[zE,zT] at hm;obtain ⟨⟨hp,hnp⟩,hdj⟩:=hm;have hob1:Zk P w0 f (eas++cs.map λc=> .one (.rptr .sh c)) r:=hob;obtain ⟨hfn,hcall⟩:=hob1
       let F:W->Prop:=λb=>J.F b\/∃k,k∈Qv (Y6 avs)/\b∈J.L k
       have hFlt:∀b,F b->b<w.heap.size:=λb hb=>hb.elim (hAllF b) λ⟨k,_,h⟩=>(hrel.lo k b h).2.1
       have hargs:=Oy (F:=F) (bn:=bn) (λb hb=> .inl hb) hv has (λk hk b hb=> .inr ⟨k,hk,hb⟩) (.inl (AZ hnp));have hcapE:cs= []/\caps= #[]:=(hcaps cs hcs).1 hp;obtain ⟨rfl,rfl⟩:=hcapE;have hC:=hcall w hrel.below F _ hFlt (hargs.append .nil);refine M6 ho hx hfn ?_;rw[hvals];refine hC.mono λe w' hret=> ?_
       obtain ⟨v,J',rfl,hR⟩:=GS hrel d hdst (frz:=Qv (Y6 avs)) hc.1 F hFlt (.inr ⟨λb=>Iff.rfl,Ga hdj⟩) hret;rw[hod];exact hK J' _ _ hR
   | false=>
     rw[hsh] at h;simp only[uI,zN,zP] at h;obtain ⟨rfl,rfl⟩:=h;have hob1:Zk P w0 f (eas++cs.map λc=> .one (.rptr .sh c)) r:=hob;obtain ⟨hfn,hcall⟩:=hob1;have hargs:=Oy (F:=λb=>b<w.heap.size) (bn:=bn) hAllF hv has (λk _ b hb=>(hrel.lo k b hb).2.1) (.inr (BoxF.of (λk b hb=>(hrel.lo k b hb).2.1) hbx));have hcapR:All2 (Reads (λb=>b<w.heap.size) w) caps.toList cs:=(hcaps cs hcs).2;have hC:=hcall w hrel.below (λb=>b<w.heap.size) _ (λ_ h=>h) (hargs.append (hcapAR _ _ _ hcapR));refine M6 ho hx hfn ?_;rw[hvals];refine hC.mono λe w' hret=> ?_
     obtain ⟨v,J',rfl,hR⟩:=GS hrel d hdst (frz:= []) hc.1 (λb=>b<w.heap.size) (λ_ h=>h) (.inl ⟨rfl,hsh⟩) hret;rw[hod];rw[show X5 []= [] from rfl,List.append_nil] at hR;exact hK J' _ _ hR
theorem Qhu {orc : Orc} {bn:Y (W×Y C)} {o:Oper} {avs:Y AV} {r:Res} {obs:Y Ob} (h:Qll orc bn o.dst o.op avs=U (r,obs)) (hob:AllOb (Zk P w0) (Vs P w0) obs) (hdst:∀d,o.dst=U d->d<N)
 (hrel:Rel N w0 F0 J a w s) (hops:All2 (λx v=>AA s x=U v) o.op.operands.toList avs) (hbn:∀k c,get bn k=U c->get s.bx k=U c) {K:Act->I->Prop} {Q:Exit->Act->I->Prop}
 (hK:∀J' a' w',Rel N w0 F0 J' a' w' (s.step o.dst r)->K a' w'):o.wp P a w K Q:=by
 have hv:=Db hrel hops;generalize ho:o.op=op at h hv;generalize hd:o.dst=dst at h;unfold Qll at h
 have hreads:∀(caps:Y (W×W)) (cs:Y (Y PV)),Ry bn caps=U cs->All2 (Reads (λb=>b<w.heap.size) w) (caps.map λc=> .pointer (U ⟨J.B c.1,c.2,S⟩)) cs:=by
  intro caps
  induction caps with
  | nil => intro cs h;obtain rfl: []=cs:=by simpa [Ry] using h
           exact .nil
  | cons c caps ih=>
    intro cs h;simp only[Ry] at h;split at h
    . rename_i p ps e1 e2;obtain rfl:=zD h;refine .cons ?_ (ih ps e2)
      have:=DL (J:=J) (w:=w) (F:=λb=>b<w.heap.size) (bn:=bn) (c:= .ptr c.1 c.2) (c':= .rptr .sh p) (λb hb=>(hrel.fl b hb).1) (v:= .pointer (U ⟨J.B c.1,c.2,S⟩)) rfl (by simp[RY,e1]) (λk hk=>by simp[C.key] at hk)
       (.inr (BoxF.of (λk b hb=>(hrel.lo k b hb).2.1) λk x hk=>by
        obtain ⟨_,_,_,h⟩:=hrel.bo k x (hbn k x hk);exact h))
      exact this
    cases h
 split at h
 . rename_i x args tys f caps avs';split at h
   . rename_i d r';have hv':All2 (λx v=>AR J w (a.eval x) v) (x::args.toList) (.one (.fn f caps)::avs'):=by simpa [Op.operands,Call.operands] using hv
     cases hv' with
     | cons h1 h2 =>
       refine VO (P:=P) ho hd (hdst d hd) h1 h hob hrel (All2.of_map _ h2) hbn (λcs hcs=> ?_) hK;constructor
       . intro hp;cases caps with
         | nil => obtain rfl: []=cs:=by simpa [Ry] using hcs
                  exact ⟨rfl,rfl⟩
         | cons c caps=>cases hp
       simpa using hreads caps cs hcs
   cases h
 . rename_i x args tys f caps avs';split at h
   . rename_i d r';have hv':All2 (λx v=>AR J w (a.eval x) v) (x::args.toList) (.one (.fnr f caps)::avs'):=by simpa [Op.operands,Call.operands] using hv
     cases hv' with
     | cons h1 h2=>
       obtain ⟨vs,e1,hr⟩:=h1;refine VO (P:=P) ho hd (hdst d hd) e1 h hob hrel (All2.of_map _ h2) hbn (λcs hcs=> ?_) hK;obtain rfl:=zD hcs;exact ⟨λe=>(by cases e),by simpa using hr.imp λ_ _ _ h=>h.keep λb hb=>⟨(hrel.fl b hb).1,rfl⟩⟩
   cases h
 cases h
end
end
section
open Go.RowKit
def Qda (tt:Y (W×TI)) (orc:Orc):Op->Y AV->uA (AV×Y Ob)
 | .indexAddr t _ _, [.one (.slc (.own d k) n l),.one (.int _ i)]=>
   (match get tt t,orc with
   | some ⟨.sli e,_,_,_⟩,.rowE r=>(match get tt e with
     | some ei=>bif zW ei.size n then U (.one (.ept d k n i.toNat 0 r), [.elem l i r]) else S
     | none=>S)
   | _,_=>S)
 | .fieldAddr t _ f, [.one (.ept d k n i o cs)]=>
   (match G8 tt t f with
   | some (o',sz,_)=>bif zW sz 0 then S else U (.one (.ept d k n i (o+o') (cs.drop o')), [])
   | none=>S)
 | .nilCheck _, [.one (.ept d k n i o cs)]=>U (.one (.ept d k n i o cs), [])
 | .load t _, [.one (.ept d k n i o cs)]=>
   (match get tt t with
   | some ti=>bif yL ti.size cs.length then (match Qaw ti ((cs.take ti.size).map (AC (Rx d k))) with
     | some v=>U (v, [])
     | none=>S) else S
   | none=>S)
 | _,_=>S
section
variable {P:uC} {A:W->Y AV->AV->Prop} {T:TakeT} {J:Inj} {w:I}
theorem Qhv {d:uD} {k n:W} {l:Y (Y PV)} {v:H} (h:CR J w v (.slc (.own d k) n l)) {i:W} {r:Y PV} (hi:l[i]? =U r):
 ∃g rest cap vs,v= .slice (U ⟨g,0,S⟩) l.length cap/\J.L k=g::rest/\VC (J.X (Rx d k)) w vs r/\(∀(j:W) (u:H),vs[j]? =U u->w.cell? ⟨g,i*n+j,S⟩=U u)/\∃arr e,w.heap[g]? =U (.cells arr e (0,0)):=by
 have hne:l≠ []:=λe=>by subst e;simp at hi
 have cellsOf:∀(g:W) (cur:uE H) (e:uG),w.heap[g]? =U (.cells cur e (0,0))->∀(j:W) (u:H),(((cur.toList.take (l.length*n)).drop (i*n)).take n)[j]? =U u->w.cell? ⟨g,i*n+j,S⟩=U u:=by
  intro g cur e hg
  have:=D8 (k:=n) (Ce (w:=w) (vs:=cur.toList.take (l.length*n)) (b:=g) (off:=0) (k:=i*n) (λj u hj=>by
   rw[List.getElem?_take] at hj;split at hj
   . rw[yK] at hj;simp[World.cell?,hg,hj]
   cases hj))
  simpa using this
 cases d with
 | true=>
   obtain ⟨L',h1,_,h3,h4⟩:=h;generalize hp:PV.slc n l=p at h1;cases h1 with
   | int | bool | str | any | raw=>cases hp
   | emp=>cases hp;exact absurd rfl hne
   | @slc g cap n' cur e L l' hg hs hr h5 h6=>
     cases hp
     rcases h4 with h4 | ⟨g',r1,r2,e1,e2⟩
     . cases h4
     cases e1
     have hv:=hr.vr (X:=J.X (.vw k)) λb hb=> .inl (h3 b (zJ _ hb))
     exact ⟨g,r2,cap,_,rfl,e2,(hv.get hi).1,cellsOf g cur e hg,cur,e,hg⟩
 | false=>
   rcases h with ⟨e,_⟩ | ⟨g,cap,cur,e,hL,rfl,hg,hs,hr,h1,h2⟩
   . exact absurd e hne
   exact ⟨g, [],cap,_,rfl,hL,(hr.get hi).1,cellsOf g cur e hg,cur,e,hg⟩
theorem GT {tt:Y (W×TI)} (htt:Fb P tt=O) {orc:Orc} {op:Op} {avs:Y AV} {v:AV} {obs:Y Ob} (h:Qda tt orc op avs=U (v,obs)) (hob:AllOb A T obs)
 {o:Oper} (ho:o.op=op) {ρ:Operand->H} (hv:All2 (λx v=>AR J w (ρ x) v) op.operands.toList avs):
 ∃u,(execOp ρ o).run P w= .ok (.value u) w/\AR J w u v:=by
 unfold Qda at h;split at h
 ·rename_i t px pi d k n l kk i;split at h
  . rename_i e n' z q r hg;split at h
    . rename_i ei hge;cases hsz:zW ei.size n with
      | false=>rw[hsz] at h;cases h
      | true =>
        rw[hsz] at h;obtain ⟨rfl,rfl⟩:AV.one (.ept d k n i.toNat 0 r)=v/\ [Ob.elem l i r]=obs:=by simpa using h
        obtain ⟨h0,hl⟩:0<=i/\l[i.toNat]? =U r:=hob;have hu:=(Z8 htt hg).sli;have hs:=D7 (P:=P) (Z8 htt hge) w;have hn:ei.size=n:=by simpa using hsz
        cases hv with
        | cons h1 h2=>
          cases h2 with
          | cons h2 _=>
            obtain ⟨e2,_⟩:=h2;obtain ⟨g,rest,cap,vs,e1,hL,hvc,hc,hblk⟩:=Qhv h1 hl;have hlt:i.toNat<l.length:=(List.getElem?_eq_some_iff.1 hl).1;have hlt':i<(l.length:Int):=by omega
            refine ⟨.pointer (U ⟨g,0+i.toNat*n,S⟩), ?_,g,rest,vs,hL,by simp,hvc,(λj u hj=>by simpa using hc j u hj),hblk⟩;simp[execOp,ho,e1,e2,Instr.indexAt,asIntOf,run_underlying hu,h0,hlt',hs,hn,Addr.add_lit]
    cases h
  cases h
 ·rename_i t px f d k n i o' cs;cases hv with
  | cons h1 _=>
    obtain ⟨g,rest,vs,hL,e1,hvs,hc,hblk⟩:=h1;split at h
    . rename_i of sz ag hfa;cases hz:zW sz 0 with
      | true=>rw[hz] at h;cases h
      | false=>
        rw[hz] at h;obtain ⟨rfl,rfl⟩:AV.one (.ept d k n i (o'+of) (cs.drop of))=v/\ []=obs:=by simpa using h
        unfold G8 at hfa;split at hfa
        . rename_i fs n1 z hg;obtain ⟨gs,hu,hfo⟩:=(Z8 htt hg).struct;obtain ⟨fg,inf,dd,k1,rfl,hi,rfl,hd,hag⟩:=Rb hfo hfa;have k1':gs[f]? =U fg:=by simpa using k1
          refine ⟨.pointer (U ⟨g,i*n+o'+fg.offset,S⟩), ?_,g,rest,vs.drop fg.offset,hL,by rw[yZ],hvs.drop _, ?_,hblk⟩
          . have hsz:inf.size≠0:=λe=>by rw[e] at hz;cases hz
            simp[execOp,ho,e1,Instr.fieldAt,run_underlying hu,k1',Instr.sureAddr,fieldPlace,sizeOf,Um hi,hsz,Addr.add_lit]
          have:=Ce (k:=fg.offset) hc;simpa [yZ] using this
        cases hfa
    cases h
 ·rename_i px d k n i o' cs;obtain ⟨rfl,rfl⟩:AV.one (.ept d k n i o' cs)=v/\ []=obs:=by simpa using h
  cases hv with
  | cons h1 _=>
    obtain ⟨g,rest,vs,hL,e1,hr⟩:=h1;exact ⟨_,by simp[execOp,ho,e1],g,rest,vs,hL,rfl,hr⟩
 ·rename_i t px d k n i o' cs;split at h
  . rename_i ti hg;cases hle:yL ti.size cs.length with
    | false=>rw[hle] at h;cases h
    | true =>
      rw[hle] at h;simp only[uF] at h;split at h
      . rename_i v' hval;obtain ⟨rfl,rfl⟩:v'=v/\ []=obs:=by simpa using h
        cases hv with
        | cons h1 _=>
          obtain ⟨g,rest,vs,hL,e1,hvc,hc,_⟩:=h1
          have hlift:∀v p,VV (J.X (Rx d k)) w v p->CR J w v (AC (Rx d k) p):=by
           intro v p hp;refine DF (X:=J.X (Rx d k)) (λc n l hc=> ?_) hp;cases d with
           | true=>exact hc
           | false=>exact hc
          have hall:All2 (CR J w) (vs.take ti.size) ((cs.take ti.size).map (AC (Rx d k))):=(VC.all2 (hvc.take ti.size)).map (AC (Rx d k)) λa p _ hp=>hlift a p hp
          obtain ⟨u,hu,hr⟩:=JZ (P:=P) (Z8 htt hg) hall hval (D8 hc);exact ⟨u,by simp[execOp,ho,e1,Instr.loadAt,Instr.sureAddr,hu],hr⟩
      cases h
  cases h
 cases h
end
end
section
open Go.RowKit
section
variable {X:W->Prop} {w w':I}
theorem OC.cut:∀(k:W) {L:Y W} {vs:Y H} {ps:Y PV},OC w L vs ps->∃L1 L2,L=L1++L2/\OC w L1 (vs.take k) (ps.take k)/\OC w L2 (vs.drop k) (ps.drop k)
 | 0,L,_,_,h=>⟨[],L,rfl,.nil,h⟩
 | _+1,_,_,_,.nil=>⟨[], [],rfl,.nil,.nil⟩
 | k+1,_,_,_,.cons h1 h2=>by
   obtain ⟨L1,L2,rfl,h3,h4⟩:=OC.cut k h2;exact ⟨_++L1,L2,(yH _ _ _).symm,.cons h1 h3,h4⟩
def W3 (cs:Y H) (p:W) (vs:Y H):Y H:=cs.take p++vs++cs.drop (p+vs.length)
theorem VP {ce cs vs:Y H} {p:W}:W3 (ce++cs) (ce.length+p) vs=ce++W3 cs p vs:=by
 unfold W3;rw[List.take_length_add_append,yZ,List.drop_length_add_append];simp
theorem XX {ce cs vs:Y H} {p:W} (h:p+vs.length<=ce.length):W3 (ce++cs) p vs=W3 ce p vs++cs:=by
 unfold W3;rw[yD (by omega),List.drop_append_of_le_length (by omega)];simp
theorem VR.put {vs:Y H} {ps:Y PV} (hv:VC X w vs ps) {o:W}:∀{n:W} {cs:Y H} {l:Y (Y PV)},o+ps.length<=n->VR X w n cs l->∀i,VR X w n (if i<l.length then W3 cs (i*n+o) vs else cs) (setRow l i o ps)
 | _,_,_,_,.nil n,i=>by simp only[List.length_nil,Nat.not_lt_zero,if_false,setRow];exact .nil n
 | n,_,_,ho,.cons (ce:=ce) (cs:=cs) (r:=r) (l:=l) h1 h2 h3,0=>by
   have e1:=VC.length hv;have e2:=VC.length h1;simp only[zU,Nat.zero_lt_succ,if_true,setRow,xC,yS];rw[XX (by omega)];refine .cons ?_ (by simp;omega) h3;unfold W3;rw[e1];exact VC.append (VC.drop _ h1) (VC.append hv (VC.take _ h1))
 | n, _,_,ho,.cons (ce:=ce) (cs:=cs) (r:=r) (l:=l) h1 h2 h3,i+1=>by
   have e2:=VC.length h1;have ih:=VR.put hv ho h3 i;simp only[zU,yR,setRow];by_cases hi:i<l.length
   . rw[uB hi] at ih⊢;have:(i+1)*n+o=ce.length+(i*n+o):=by rw[e2,h2,yA,yN];omega
     rw[this,VP];exact .cons h1 h2 ih
   rw[D hi] at ih⊢;exact .cons h1 h2 ih
theorem OR.put {Lv:Y W} {vs:Y H} {ps:Y PV} (hv:OC w Lv vs ps) (hnv:Lv.Nodup) {o:W}:∀{n:W} {L:Y W} {cs:Y H} {l:Y (Y PV)},o+ps.length<=n->OR w n L cs l->L.Nodup->(∀b,b∈L->b∉Lv)->∀i,
 ∃L',OR w n L' (if i<l.length then W3 cs (i*n+o) vs else cs) (setRow l i o ps)/\L'.Nodup/\∀b,b∈L'->b∈L\/b∈Lv
 | _,_,_,_,_,.nil n,_,_,i=>by simp only[List.length_nil,Nat.not_lt_zero,if_false,setRow];exact ⟨[],.nil n,zO,λb hb=>by simp at hb⟩
 | n, _,_,_,ho,.cons (ce:=ce) (cs:=cs) (r:=r) (l:=l) (L1:=L1) (L2:=L2) h1 h2 h3,hnd,hdj,0=>by
   have e1:=OC.length hv;have e2:=OC.length h1;obtain ⟨hn1,hn2,hn3⟩:=zH.1 hnd;simp only[zU,Nat.zero_lt_succ,if_true,setRow,xC,yS];rw[XX (by omega)];obtain ⟨A1,A2,rfl,a1,a2⟩:=OC.cut o h1;obtain ⟨M,B,rfl,_,b2⟩:=OC.cut vs.length a2;rw[List.drop_drop,List.drop_drop] at b2;obtain ⟨m1,m2,m3⟩:=zH.1 hn1;obtain ⟨q1,q2,q3⟩:=zH.1 m2
   have hnew:OC w (A1++(Lv++B)) (W3 ce o vs) (r.take o++ps++r.drop (o+ps.length)):=by
    unfold W3;rw[yH,yH,←e1];exact OC.append (OC.append b2 hv) a1
   refine ⟨(A1++(Lv++B))++L2,.cons hnew (by simp;omega) h3, ?_,λb hb=> ?_⟩
   . have d1:∀b,b∈A1->b∉Lv:=λb hb=>hdj b (by simp[hb])
     have d2:∀b,b∈B->b∉Lv:=λb hb=>hdj b (by simp[hb])
     have d3:∀b,b∈L2->b∉Lv:=λb hb=>hdj b (by simp[hb])
     refine zH.2 ⟨zH.2 ⟨m1,zH.2 ⟨hnv,q2,λx hx y hy e=>d2 y hy (e▸hx)⟩,λx hx y hy e=> ?_⟩,hn2,λx hx y hy e=> ?_⟩
     . subst e;rcases zK.1 hy with hy | hy
       . exact d1 x hx hy
       exact m3 x hx x (zF _ hy) rfl
     subst e;rcases zK.1 hx with hx | hx
     . exact hn3 x (zG _ hx) x hy rfl
     rcases zK.1 hx with hx | hx
     . exact d3 x hy hx
     exact hn3 x (zF _ (zF _ hx)) x hy rfl
   simp only[zK] at hb⊢;rcases hb with (hb | hb | hb) | hb
   . exact .inl (.inl (.inl hb))
   . exact .inr hb
   . exact .inl (.inl (.inr (.inr hb)))
   exact .inl (.inr hb)
 | n, _,_,_,ho,.cons (ce:=ce) (cs:=cs) (r:=r) (l:=l) (L1:=L1) (L2:=L2) h1 h2 h3,hnd,hdj,i+1=>by
   have e2:=OC.length h1;obtain ⟨hn1,hn2,hn3⟩:=zH.1 hnd;obtain ⟨L',ih1,ih2,ih3⟩:=OR.put hv hnv ho h3 hn2 (λb hb=>hdj b (zF _ hb)) i
   have hnd':(L1++L').Nodup:=zH.2 ⟨hn1,ih2,λb hb b' hb' e=>by
    subst e;rcases ih3 b hb' with h | h
    . exact hn3 b hb b h rfl
    exact hdj b (zG _ hb) h⟩
   have hsub:∀b,b∈L1++L'->b∈L1++L2\/b∈Lv:=λb hb=>by
    rcases zK.1 hb with hb | hb
    . exact .inl (zG _ hb)
    exact (ih3 b hb).imp (zF _) id
   simp only[zU,yR,setRow];by_cases hi:i<l.length
   . rw[uB hi] at ih1⊢;have:(i+1)*n+o=ce.length+(i*n+o):=by rw[e2,h2,yA,yN];omega
     rw[this,VP];exact ⟨_,.cons h1 h2 ih1,hnd',hsub⟩
   rw[D hi] at ih1⊢;exact ⟨_,.cons h1 h2 ih1,hnd',hsub⟩
end
end
section
open Go.RowKit
def Qdb (tt:Y (W×TI)):Op->Y AV->uA (Res×Y Ob)
 | .store t _ _, [.one (.ept d k n i o pcs),v]=>
   (match get tt t,v.flatCells with
   | some ti,U cs=>(match Gq cs with
     | some ps=>bif zW cs.length ti.size&&A7 cs&&yL (o+ti.size) n&&yP n 4294967296&&yL ti.size pcs.length&&yP 0 ti.size&&Ae (k::Qv cs)&&(Lu cs|| !d) then
      U (⟨.one .dead,(k,U (.put d n i o ps))::(bif d then Va (Qv cs) else X5 (Qv cs)),S,S⟩, []) else S
     | none=>S)
   | _,_=>S)
 | _,_=>S
section
variable {P:uC} {N:W} {w0:Base} {F0:W->Prop} {J:Inj} {a:Act} {w:I} {s:St}
theorem M8 {cur vs:Y H} {p:W} (h:p+vs.length<=cur.length):(W3 cur p vs).length=cur.length:=by
 unfold W3;simp;omega
theorem OG {cur vs:Y H} {p m:W} (h:p+vs.length<=m) (hm:m<=cur.length):(W3 cur p vs).take m=W3 (cur.take m) p vs:=by
 have hl:(cur.take m).length=m:=by simp;omega
 have e:W3 cur p vs=W3 (cur.take m) p vs++cur.drop m:=by
  rw[←XX (by omega),yW]
 rw[e,List.take_left' (by rw[M8 (by omega),hl])]
theorem Qa3 {cur vs:Y H} {p m:W} (h:m<=p) (hm:p<=cur.length):(W3 cur p vs).take m=cur.take m:=by
 unfold W3;rw[yH,yD (by simp;omega),List.take_take,yV h]
theorem BA {cur vs:Y H} {i n o len cap:W} (hs:cur.length=cap*n) (hl:len<=cap) (ho:o+vs.length<=n) (hp:i*n+o+vs.length<=cur.length):
 (W3 cur (i*n+o) vs).take (len*n)=if i<len then W3 (cur.take (len*n)) (i*n+o) vs else cur.take (len*n):=by
 have hln:len*n<=cur.length:=by rw[hs];exact zS _ hl
 by_cases hi:i<len
 . rw[uB hi];refine OG ?_ hln;have:(i+1)*n<=len*n:=zS _ hi;rw[yA,yN] at this;omega
 rw[D hi];refine Qa3 ?_ (by omega);have:len*n<=i*n:=zS _ (by omega);omega
theorem XY (o:W) (ps:Y PV):∀(l:Y (Y PV)) (i:W),(setRow l i o ps).length=l.length
 | [],_=>rfl
 | _::_,0=>rfl
 | _::l,i+1=>uJ (· +1) (XY o ps l i)
theorem GU : ∀ {cs :Y C} {ps:Y PV},Gq cs=U ps->ps.length=cs.length
 | [], ps, h => by obtain rfl: []=ps:=by simpa [Gq] using h
                   rfl
 | c::r,ps,h=>by
   simp only[Gq] at h;split at h
   . rename_i p ps' e1 e2;obtain rfl:=zD h;exact uJ (· +1) (GU e2)
   cases h
theorem Qdc {cs:Y C} {ps:Y PV} (h:Gq cs=U ps) (e:ps= [.any]):False:=by
 subst e;cases cs with
 | nil=>simp[Gq] at h
 | cons c r=>
   simp only[Gq] at h;split at h
   . rename_i p ps' e1 e2;have h:=zD h;cases h
     cases c<;>simp[Qny] at e1
   cases h
theorem Qdd {tt : List (W×TI)} (htt:Fb P tt=O) {o:Oper} {avs:Y AV} {r:Res} {obs:Y Ob} (h:Qdb tt o.op avs=U (r,obs)) (hdst:∀d,o.dst=U d->d<N)
 (hrel:Rel N w0 F0 J a w s) (hops:All2 (λx v=>AA s x=U v) o.op.operands.toList avs) {K:Act->I->Prop} {Q:Exit->Act->I->Prop}
 (hK:∀J' a' w',Rel N w0 F0 J' a' w' (s.step o.dst r)->K a' w'):o.wp P a w K Q:=by
 have hv:=Db hrel hops;generalize ho:o.op=op at h hv;unfold Qdb at h;split at h
 . rename_i t px py d k n i o' pcs v;split at h
   . rename_i ti cs hg hfc;split at h
     . rename_i ps hps;cases hc:(zW cs.length ti.size&&A7 cs&&yL (o'+ti.size) n&&yP n 4294967296&&yL ti.size pcs.length&&yP 0 ti.size&&Ae (k::Qv cs)&&(Lu cs|| !d)) with
       | false=>rw[hc] at h;cases h
       | true =>
         rw[hc] at h;obtain ⟨rfl,rfl⟩:(⟨.one .dead,(k,U (.put d n i o' ps))::(bif d then Va (Qv cs) else X5 (Qv cs)),S,S⟩:Res)=r/\ []=obs:=by simpa using h
         simp only[zE,yI,Nat.ble_eq,xA,yU,zT] at hc;obtain ⟨⟨⟨⟨⟨⟨⟨c1,c2⟩,c3⟩,c3'⟩,c4⟩,c5⟩,c6⟩,c7⟩:=hc
         have hput:∀l,Qj7 l i o' ps=setRow l i o' ps:=λl=>by
          unfold Qj7;cases hb:zW o' 4294967296 with
          | false=>rfl
          | true=>have:=Nat.eq_of_beq_eq_true hb;omega
         obtain ⟨hkn,hnd⟩:=zQ.1 (Cg.1 c6);cases hv with
         | cons h1 h2 =>
           cases h2 with
           | cons h2 _ =>
             obtain ⟨g,rest,vs,hL,e1,hvs,hcell,arr,e,hheap⟩:=h1;have hcl:=Mn h2 hfc c2;generalize hus:(a.eval py).cells.toList=us at hcl;have hn:us.length=ti.size:=by rw[hcl.length,c1]
             have hgk:g∈J.L k:=by rw[hL];exact zL
             have hvl:vs.length=pcs.length:=hvs.length
             have hfit:i*n+o'+us.length<=arr.size:=by
              have hj:ti.size-1<vs.length:=by omega
              have:=hcell (ti.size-1) vs[ti.size-1] (List.getElem?_eq_getElem hj);simp only[World.cell?,hheap] at this;have h3:arr[i*n+o'+(ti.size-1)]? =U vs[ti.size-1]:=by simpa using this
              have:=(Array.getElem?_eq_some_iff.1 h3).1;omega
             have hst:=run_storeCells_at P g (i*n+o') e us 0 arr w hheap (by simpa using hfit) (Ov hcl c2);simp only[xB] at hst;have hsz:=D7 (P:=P) (Z8 htt hg) w
             have hrun:(execOp a.eval o).run P w= .ok .skip (w.setRow g (W3 arr.toList (i*n+o') us).toArray):=by
              have hn':(a.eval py).cells.size=ti.size:=by rw[←hn,←hus];simp
              unfold W3;simp only[execOp,ho,Instr.storeAt,e1,Instr.sureAddr,storeVar,Sem.run_bind,Sem.run_pure,Result.andThen_ok,hsz,hn',hus];simp[hst]
             generalize hw':w.setRow g (W3 arr.toList (i*n+o') us).toArray=w' at hrun;have hgw:w'.heap[g]? =U (.cells (W3 arr.toList (i*n+o') us).toArray e (0,0)):=by rw[←hw'];exact setRow_heap w g arr _ e (0,0) hheap
             have hother:∀b,b≠g->w'.heap[b]? =w.heap[b]? :=λb hb=>by rw[←hw'];exact setRow_other w g b _ hb
             have hsize:w'.heap.size=w.heap.size:=by rw[←hw'];simp[World.setRow]
             have hgF:¬J.F g:=(hrel.lo k g hgk).2.2;have hF:∀b,J.F b->w'.heap[b]? =w.heap[b]? :=λb hb=>hother b λe=>hgF (e▸hb)
             have hLx:∀x,x≠k->∀b,b∈J.L x->w'.heap[b]? =w.heap[b]? :=λx hx b hb=>hother b λe=>hx (hrel.dj x k g (e▸hb) hgk)
             have hbelow:w0.Keeps w':=by
              refine hrel.below.step (by rw[←hw'];rfl) (by rw[←hw'];rfl) (by rw[←hw'];rfl) (by omega) λb _ hnl=>hother b λe=> ?_
              exact hnl (e▸(hrel.lo k g hgk).1)
             have hlen:ps.length=us.length:=by rw[GU hps,c1,hn]
             have hkx:∀x,x∈Qv cs->x≠k:=λx hx e=>hkn (e▸hx)
             have harr:∀(m:W),arr.size=m->arr.toList.length=m:=λm h=>by simpa using h
             cases d with
             | true =>
               have hdeep:Lu cs=O:=by simpa using c7
               have hget:∀x,get ((k,U (.put O n i o' ps))::(bif O then Va (Qv cs) else X5 (Qv cs))) x=if x=k then U (U (.put O n i o' ps)) else if x∈Qv cs then U S else S:=λx=>by
                by_cases hx:x=k
                . rw[uB hx];simp[get,hx]
                rw[D hx,W2 hx];exact Ai
               obtain ⟨Lv,v1,v2,v3⟩:=DI (J:=J) (w':=w') hcl hps hdeep (Tn hrel hnd) λx hx b hb=>hLx x (hkx x hx) b hb
               have hof:∀b,b∈J.of cs->b∉J.L k:=λb hb hb'=>by
                obtain ⟨x,hx,hm⟩:=Rz hb;exact hkx x hx (hrel.dj x k b hm hb')
               refine XU hrun (hK ⟨J.F,λx=>if x=k then J.L k++J.of cs else if x∈Qv cs then [] else J.L x,J.B⟩ _ _ (hrel.upd o.dst hdst _ undef hbelow ⟨λb hb=>⟨hb,hF b hb⟩,λx hx=> ?_,λx hx=> ?_,λx x' hx=> ?_,λx t hx=> ?_,λ_ _=>rfl,λx d1 m i1 o1 cs1 hx=> ?_⟩ ⟨λb hb=> ?_,hrel.f0,λx=> ?_,λx b hb=> ?_,λx x' b hb hb'=> ?_⟩ (λ_=>trivial) (λx c hx _=> ?_) (λx c hx=>by cases hx)))
               . rw[hget] at hx;split at hx
                 . cases hx
                 rename_i h3;split at hx
                 . cases hx
                 rename_i h4;exact ⟨by show (if _ then _ else _)=_;rw[D h3,D h4],hLx x h3⟩
               . rw[hget] at hx;split at hx
                 . cases hx
                 split at hx<;>cases hx
               . rw[hget] at hx;split at hx
                 . cases hx
                 split at hx<;>cases hx
               . rw[hget] at hx;split at hx
                 . exact .inr (.inr ⟨_,_,_,_,_,(zD (zD hx)).symm⟩)
                 split at hx<;>cases hx
               . rw [hget] at hx;split at hx
                 . rename_i hxk;subst hxk;cases hx
                   refine ⟨λv l hcr=> ?_,λ_ e=>(Qdc hps e).elim⟩;rw[hput];obtain ⟨L',w1,w2,w3,w4⟩:=hcr;show OwnDeep (if x=x then _ else _) w' v n _;rw[uB rfl];generalize hp:PV.slc n l=p at w1;cases w1 with
                   | int | bool | str | any | raw=>cases hp
                   | emp oa n'=>
                     cases hp
                     exact ⟨[],.emp oa n,zO,(λb hb=>by simp at hb),.inl rfl⟩
                   | @slc g1 cap n' cur e2 L1 l' hg1 hs1 hr1 h5 h6=>
                     cases hp
                     rcases w4 with w4 | ⟨g2,q1,q2,e3,e4⟩
                     . cases w4
                     cases e3
                     obtain ⟨rfl,rfl⟩:g1=g/\q2=rest:=by rw[hL] at e4;cases e4;exact ⟨rfl,rfl⟩
                     rw[hheap] at hg1;cases hg1
                     obtain ⟨n1,n2⟩:=zQ.1 w2;have hr2:OR w' n L1 (arr.toList.take (l.length*n)) l:=hr1.keep λb hb=>hother b λe=>n1 (e▸hb)
                     obtain ⟨L2,z1,z2,z3⟩:=OR.put v1 v2 (o:=o') (by omega) hr2 n2 (λb hb hb'=>hof b (v3 b hb') (w3 b (zJ _ hb))) i;rw[←BA (cap:=cap) (by simpa using hs1) h5 (by omega) (by simpa using hfit)] at z1;have hl2:=XY o' ps l i
                     have hgL2:g1∉L2:=λhm=>by
                      rcases z3 g1 hm with hm | hm
                      . exact n1 hm
                      exact hof g1 (v3 g1 hm) hgk
                     refine ⟨g1::L2, ?_,zQ.2 ⟨hgL2,z2⟩,λb hb=> ?_,.inr ⟨g1,L2,q2++J.of cs,rfl,by rw[hL];rfl⟩⟩
                     . rw[←hl2];refine .slc hgw ?_ ?_ (by omega) (by rw[hl2];exact h6)
                       . have:=M8 (cur:=arr.toList) (vs:=us) (p:=i*n+o') (by simpa using hfit);simpa [hs1] using this
                       rw[hl2];simpa using z1
                     rcases zM.1 hb with rfl | hb
                     . exact zG _ hgk
                     rcases z3 b hb with hb | hb
                     . exact zG _ (w3 b (zJ _ hb))
                     exact zF _ (v3 b hb)
                 split at hx<;>cases hx
               . exact ⟨by have:=(hrel.fl b hb).1;omega,(hrel.fl b hb).2⟩
               . show (if x=k then _ else _:Y W).Nodup;split
                 . exact zH.2 ⟨hrel.nd k,Tn hrel hnd,λb hb b' hb' e=>hof b' hb' (e▸hb)⟩
                 split
                 . simp
                 exact hrel.nd x
               . have hb:b∈(if x=k then J.L k++J.of cs else if x∈Qv cs then [] else J.L x):=hb
                 have key:∀y,b∈J.L y->w0.lo (b)/\b<w'.heap.size/\¬J.F b:=λy hy=>by
                  obtain ⟨h3,h4,h5⟩:=hrel.lo y b hy;exact ⟨h3,by omega,h5⟩
                 split at hb
                 . rcases zK.1 hb with hb | hb
                   . exact key k hb
                   obtain ⟨y,_,hm⟩:=Rz hb;exact key y hm
                 split at hb
                 . simp at hb
                 exact key x hb
               . have hb:b∈(if x=k then J.L k++J.of cs else if x∈Qv cs then [] else J.L x):=hb;have hb':b∈(if x'=k then J.L k++J.of cs else if x'∈Qv cs then [] else J.L x'):=hb'
                 have key:∀y,y≠k->y∉Qv cs->b∈J.L y->b∈J.L k++J.of cs->False:=λy hy1 hy2 hy hm=>by
                  rcases zK.1 hm with hm | hm
                  . exact hy1 (hrel.dj y k b hy hm)
                  obtain ⟨z,hz,hm⟩:=Rz hm;exact hy2 (hrel.dj y z b hy hm▸hz)
                 split at hb
                 . rename_i hxk;split at hb'
                   . rename_i hxk';rw[hxk,hxk']
                   rename_i h3;split at hb'
                   . simp at hb'
                   rename_i h4;exact (key x' h3 h4 hb' hb).elim
                 rename_i h3;split at hb
                 . simp at hb
                 rename_i h4;split at hb'
                 . exact (key x h3 h4 hb hb').elim
                 split at hb'
                 . simp at hb'
                 exact hrel.dj x x' b hb hb'
               obtain ⟨_,h3,h4,arr',e',h5,_⟩:=hrel.bo x c hx;refine ⟨by simp,h3,λy hm=> ?_,hother _ λe=>h4 k (e▸hgk)⟩;have hm:J.B x∈(if y=k then J.L k++J.of cs else if y∈Qv cs then [] else J.L y):=hm;split at hm
               . rcases zK.1 hm with hm | hm
                 . exact h4 k hm
                 obtain ⟨z,_,hm⟩:=Rz hm;exact h4 z hm
               split at hm
               . simp at hm
               exact h4 y hm
             | false=>
               have hget:∀x,get ((k,U (.put E n i o' ps))::(bif E then Va (Qv cs) else X5 (Qv cs))) x=if x=k then U (U (.put E n i o' ps)) else if x∈Qv cs then U (U .sh) else S:=λx=>by
                by_cases hx:x=k
                . rw[uB hx];simp[get,hx]
                rw[D hx,W2 hx];exact Ur
               have hvc:=Tm (J:=J) (w':=w') (X:=λb=>J.F b\/∃x,x∈Qv cs/\b∈J.L x) hcl hps (λb hb=>⟨.inl hb,hF b hb⟩) λx hx b hb=>⟨.inr ⟨x,hx,hb⟩,hLx x (hkx x hx) b hb⟩
               refine XU hrun (hK ⟨λb=>J.F b\/∃x,x∈Qv cs/\b∈J.L x,λx=>if x∈Qv cs then [] else J.L x,J.B⟩ _ _ (hrel.upd o.dst hdst _ undef hbelow ⟨λb hb=>⟨.inl hb,hF b hb⟩,λx hx=> ?_,λx hx b hb=> ?_,λx x' hx=> ?_,λx t hx=> ?_,λ_ _=>rfl,λx d1 m i1 o1 cs1 hx=> ?_⟩ ⟨λb hb=> ?_,λb hb=> .inl (hrel.f0 b hb),λx=> ?_,λx b hb=> ?_,λx x' b hb hb'=> ?_⟩ (λ_=>trivial) (λx c hx _=> ?_) (λx c hx=>by cases hx)))
               . rw[hget] at hx;split at hx
                 . cases hx
                 rename_i h3;split at hx
                 . cases hx
                 rename_i h4;exact ⟨by show (if _ then _ else _)=_;rw[D h4],hLx x h3⟩
               . rw[hget] at hx;split at hx
                 . cases hx
                 split at hx
                 . rename_i h3;exact ⟨.inr ⟨x,h3,hb⟩,hLx x (hkx x h3) b hb⟩
                 cases hx
               . rw[hget] at hx;split at hx
                 . cases hx
                 split at hx<;>cases hx
               . rw[hget] at hx;split at hx
                 . exact .inr (.inr ⟨_,_,_,_,_,(zD (zD hx)).symm⟩)
                 split at hx
                 . exact .inl (zD (zD hx)).symm
                 cases hx
               . rw [hget] at hx;split at hx
                 . rename_i hxk;subst hxk;cases hx
                   refine ⟨λv l hcr=> ?_,λe=>by cases e⟩;rw[hput];show OwnTop _ (if x∈Qv cs then [] else J.L x) w' v n _;rw[D hkn];rcases hcr with ⟨rfl,oa,rfl⟩ | ⟨g1,cap,cur,e2,hL1,rfl,hg1,hs1,hr1,h5,h6⟩
                   . exact .inl ⟨rfl,oa,rfl⟩
                   obtain rfl:g1=g:=by rw[hL] at hL1;cases hL1;rfl
                   rw[hheap] at hg1;cases hg1
                   have hr2:VR (λb=>J.F b\/∃x,x∈Qv cs/\b∈J.L x) w' n (arr.toList.take (l.length*n)) l:=hr1.keep λb hb=>⟨.inl hb,hF b hb⟩
                   have z1:=VR.put hvc (o:=o') (by omega) hr2 i;rw[←BA (cap:=cap) (by simpa using hs1) h5 (by omega) (by simpa using hfit)] at z1;have hl2:=XY o' ps l i;refine .inr ⟨g1,cap,_,e,hL1,by rw[hl2],hgw, ?_,by rw[hl2];simpa using z1,by omega,by rw[hl2];exact h6⟩;have:=M8 (cur:=arr.toList) (vs:=us) (p:=i*n+o') (by simpa using hfit);simpa [hs1] using this
                 split at hx<;>cases hx
               . rcases hb with hb | ⟨x,_,hb⟩
                 . exact ⟨by have:=(hrel.fl b hb).1;omega,(hrel.fl b hb).2⟩
                 have:=hrel.lo x b hb;exact ⟨by omega,.inr this.1⟩
               . show (if _ then _ else _:Y W).Nodup;split
                 . simp
                 exact hrel.nd x
               . have hb:b∈(if x∈Qv cs then [] else J.L x):=hb;split at hb
                 . simp at hb
                 rename_i h3;obtain ⟨h4,h5,h6⟩:=hrel.lo x b hb;refine ⟨h4,by omega,λhF=> ?_⟩;rcases hF with hF | ⟨y,hy,hm⟩
                 . exact h6 hF
                 exact h3 (hrel.dj x y b hb hm▸hy)
               . have hb:b∈(if x∈Qv cs then [] else J.L x):=hb;have hb':b∈(if x'∈Qv cs then [] else J.L x'):=hb';split at hb
                 . simp at hb
                 split at hb'
                 . simp at hb'
                 exact hrel.dj x x' b hb hb'
               obtain ⟨_,h3,h4,arr',e',h5,_⟩:=hrel.bo x c hx;refine ⟨by simp,λhF=> ?_,λy hm=> ?_,hother _ λe=>h4 k (e▸hgk)⟩
               . rcases hF with hF | ⟨y,_,hm⟩
                 . exact h3 hF
                 exact h4 y hm
               have hm:J.B x∈(if y∈Qv cs then [] else J.L y):=hm;split at hm
               . simp at hm
               exact h4 y hm
     cases h
   cases h
 cases h
end
end
section
open Go.RowKit
def OH:C->uA PV
 | .int k _=>U (.int k 0)
 | .bool _=>U (.bool E)
 | .str _=>U (.str ⟨#[]⟩)
 | .slc .emp n []=>U (.slc n [])
 | _=>S
def SD:Y C->uA (Y PV)
 | []=>U []
 | c::cs=>match OH c,SD cs with
   | some p,U ps=>U (p::ps)
   | _,_=>S
def Qlm (tt:Y (W×TI)) (dst:uA W):Op->Y AV->uA (Res×Y Ob)
 | .call ⟨.builtin .max,_,_⟩, [.one (.int k a),.one (.int k' b)]=>bif decide (k=k') then U (⟨.one (.int k (max a b)), [],S,S⟩, []) else S
 | .call ⟨.builtin .min,_,_⟩, [.one (.int k a),.one (.int k' b)]=>bif decide (k=k') then U (⟨.one (.int k (min a b)), [],S,S⟩, []) else S
 | .makeSlice t (.tmp i) (.tmp j), [.one (.int _ a),_]=>(match dst,get tt t with
   | some d,U ⟨.sli e,_,_,_⟩=>(match get tt e with
     | some ei=>(match SD ei.zero with
       | some ps=>bif zW i j&&(zW ei.size ei.zero.length&&yP 0 ei.size) then U (⟨.one (.slc (.own O (64*d)) ei.size (yC a.toNat ps)), [(64*d,S)],S,S⟩, [.rng 0 a 1073741824]) else S
       | none=>S)
     | none=>S)
   | _,_=>S)
 | _,_=>S
section
variable {P:uC} {A:W->Y AV->AV->Prop} {T:TakeT} {N:W} {w0:Base} {F0:W->Prop} {J:Inj} {a:Act} {w:I} {s:St}
theorem Qn9 {args:uE Operand} {x y:AV} (h:All2 (λo v=>AR J w (a.eval o) v) args.toList [x,y]):∃p q,args= #[p,q]/\AR J w (a.eval p) x/\AR J w (a.eval q) y:=by
 obtain ⟨l⟩:=args;have h:All2 (λo v=>AR J w (a.eval o) v) l [x,y]:=h;cases h with
 | cons h1 h2=>cases h2 with
   | cons h2 h3=>cases h3;exact ⟨_,_,rfl,h1,h2⟩
theorem Qln {k:IntKind} {x y:Int} (hx:InR k x) (hy:InR k y):InR k (max x y):=by
 rw[Int.max_def];split<;>assumption
theorem Qlo {k:IntKind} {x y:Int} (hx:InR k x) (hy:InR k y):InR k (min x y):=by
 rw[Int.min_def];split<;>assumption
theorem Qlp {v:H} {c:C} {p:PV} (hz:Ti v c=O) (h:OH c=U p) (w:I):OV w [] v p:=by
 unfold OH at h;split at h
 . obtain rfl:=zD h;cases v<;>simp[Ti] at hz
   rename_i k2 n2;obtain ⟨⟨rfl,rfl⟩,_⟩:=hz;exact .int (by cases k2<;>simp[InR,IntKind.min,IntKind.max,IntKind.bits,IntKind.signed])
 . obtain rfl:=zD h;cases v<;>simp[Ti] at hz
   obtain ⟨rfl,_⟩:=hz;exact .bool _
 . obtain rfl:=zD h;cases v<;>simp[Ti] at hz
   obtain ⟨hs2,_⟩:=hz;subst hs2;exact .str (by decide)
 . obtain rfl:=zD h;unfold Ti at hz;split at hz<;>first | cases hz | skip
   all_goals first | exact .emp _ _ | (rename_i heq;cases heq;exact .emp _ _) | (rename_i h1 h2;cases h2;exact .emp _ _) | (rename_i h1 h2;cases h2;done) | (rename_i heq;cases heq;done)
 cases h
theorem GV:∀{cl:Y H} {zc:Y C} {ps:Y PV},A4 cl zc=O->SD zc=U ps->(∀w,OC w [] cl ps)/\ps.length=zc.length/\cl.length=zc.length
 | [], [],ps,_,h=>by
   obtain rfl:=zD h;exact ⟨λw=> .nil,rfl,rfl⟩
 | [],_::_,_,hz,_=>by simp[A4] at hz
 | _::_, [],_,hz,_=>by simp[A4] at hz
 | v::vs,c::cs,ps,hz,h=>by
   simp only[A4,zE] at hz;simp only[SD] at h;split at h
   . rename_i p ps' h1 h2;obtain rfl:=zD h;obtain ⟨g1,g2,g3⟩:=GV hz.2 h2;exact ⟨λw=>OC.cons (L1:= []) (L2:= []) (Qlp hz.1 h1 w) (g1 w),by simp[g2],by simp[g3]⟩
   cases h
theorem ZV {w:I} {n:W} {vs:Y H} {ps:Y PV} (h:OC w [] vs ps) (hn:ps.length=n):∀k:W,OR w n [] (yC k vs).flatten (yC k ps)
 | 0=> .nil n
 | k+1=>by
   rw[yO,yG,yO];exact OR.cons (L1:= []) (L2:= []) h hn (ZV h hn k)
theorem GW (z:uE H) (hz:0<z.size):∀k:W,(madeCells z (k*z.size)).toList=(yC k z.toList).flatten
 | 0=>by simp[madeCells]
 | k +1=>by
   have ih:=GW z hz k;have e:∀m,(madeCells z m).toList=(List.range m).map (z[· % z.size]!):=λm=>by simp[madeCells]
   rw[e] at ih⊢;rw[yO,yG,←ih,yA,yN,Nat.add_comm,List.range_add,List.map_append,List.map_map]
   congr 1
   . refine List.ext_getElem (by simp) λi h1 h2=> ?_
     have hi:i<z.size:=by simpa using h2
     simp[Nat.mod_eq_of_lt hi,hi]
   refine List.map_congr_left λi _=> ?_
   simp
theorem Qhw {tt:Y (W×TI)} (htt:Fb P tt=O) {o:Oper} {avs:Y AV} {r:Res} {obs:Y Ob} (h:Qlm tt o.dst o.op avs=U (r,obs)) (hob:AllOb A T obs) (hdst:∀d,o.dst=U d->d<N)
 (hrel:Rel N w0 F0 J a w s) (hops:All2 (λx v=>AA s x=U v) o.op.operands.toList avs) {K:Act->I->Prop} {Q:Exit->Act->I->Prop}
 (hK:∀J' a' w',Rel N w0 F0 J' a' w' (s.step o.dst r)->K a' w'):o.wp P a w K Q:=by
 have hv:=Db hrel hops;generalize ho:o.op=op at h hv;generalize hd:o.dst=dst at h;unfold Qlm at h;split at h
 . rename_i args tys k x k' y;cases hk:decide (k=k') with
   | false=>rw[hk] at h;cases h
   | true=>
     rw[hk] at h;obtain rfl:=uK hk;simp only[uF,zN,zP] at h;obtain ⟨rfl,rfl⟩:=h;have hv0:All2 (λx v=>AR J w (a.eval x) v) args.toList [.one (.int k x),.one (.int k y)]:=by simpa [Op.operands,Call.operands] using hv
     obtain ⟨p,q,rfl,⟨e1,r1⟩,⟨e2,r2⟩⟩:=Qn9 hv0;have hmax:(if y>x then y else x)=max x y:=by rw[Int.max_def];by_cases h:y>x<;>simp[h]<;>omega
     have hrun:(execOp a.eval o).run P w= .ok (.value (.int k (max x y))) w:=by
      simp[execOp,ho,resolve,invoke,builtin,Builtin.max_,Builtin.max2,e1,e2,hmax]
     exact Ua hrun (hK J _ _ (hrel.pure o.dst hdst _ _ λ_=>⟨rfl,Qln r1 r2⟩))
 . rename_i args tys k x k' y;cases hk:decide (k=k') with
   | false=>rw[hk] at h;cases h
   | true=>
     rw[hk] at h;obtain rfl:=uK hk;simp only[uF,zN,zP] at h;obtain ⟨rfl,rfl⟩:=h;have hv0:All2 (λx v=>AR J w (a.eval x) v) args.toList [.one (.int k x),.one (.int k y)]:=by simpa [Op.operands,Call.operands] using hv
     obtain ⟨p,q,rfl,⟨e1,r1⟩,⟨e2,r2⟩⟩:=Qn9 hv0;have hmin:(if y<x then y else x)=min x y:=by rw[Int.min_def];by_cases h:y<x<;>simp[h]<;>omega
     have hrun:(execOp a.eval o).run P w= .ok (.value (.int k (min x y))) w:=by
      simp[execOp,ho,resolve,invoke,builtin,Builtin.min_,Builtin.min2,e1,e2,hmin]
     exact Ua hrun (hK J _ _ (hrel.pure o.dst hdst _ _ λ_=>⟨rfl,Qlo r1 r2⟩))
 . rename_i t i j ik x y;split at h
   rotate_left
   . cases h
   rename_i d e n0 z0 q0 hg;split at h
   rotate_left
   . cases h
   rename_i ei hge;split at h
   rotate_left
   . cases h
   rename_i ps hp;cases hc:(zW i j&&(zW ei.size ei.zero.length&&yP 0 ei.size)) with
   | false=>rw[hc] at h;cases h
   | true=>
     rw[hc] at h;simp only[uF,zN,zP] at h;obtain ⟨rfl,rfl⟩:=h;simp only[zE,yI] at hc;obtain ⟨rfl,hsz,hpos⟩:=hc;have hpos:0<ei.size:=Nat.le_of_ble_eq_true hpos;obtain ⟨h0,_,h2⟩:0<=(0:Int)/\0<=x/\x<=((1073741824:W):Int):=hob;rename_i V;have hu:=(Z8 htt hg).sli;obtain ⟨inf,z,hi,hs,hby,hz,hzs,hzo⟩:=(Z8 htt hge).info;have hv0:All2 (λo v=>AR J w (a.eval o) v) [.tmp i,.tmp i] [.one (.int ik x),y]:=by simpa [Op.operands] using hv
     obtain ⟨e1,_⟩:a.eval (.tmp i)= .int ik x/\InR ik x:=by cases hv0 with | cons h1 _=>exact h1
     obtain ⟨hov,hpl,hcl⟩:=GV hzo hp;have hzn:z.cells.size=ei.size:=by rw[hsz,←hcl];simp
     have hbytes:(inf.bytes:Int)*x<=281474976710656:=by
      have h1:(inf.bytes:Int)*x<=1000*x:=Int.mul_le_mul_of_nonneg_right (by omega) V;omega
     have hmk:=run_make (P:=P) (w:=w) t e inf z hu hi hz ik ik x x V (Int.le_refl _) hbytes (by omega);rw[hs] at hmk
     have hrun:(execOp a.eval o).run P w= .ok (.value (.slice (U ⟨w.heap.size,0,S⟩) x.toNat x.toNat)) (w.alloc (.cells (madeCells z.cells (x.toNat*ei.size)) e)):=by
      simp[execOp,ho,e1,hmk]
     refine Ua hrun ?_;rw[hd] at hK⊢;have hw:∀b,b<w.heap.size->(w.alloc (.cells (madeCells z.cells (x.toNat*ei.size)) e)).heap[b]? =w.heap[b]? :=λb hb=>Below.heap_alloc w _ b hb
     have hnew:(w.alloc (.cells (madeCells z.cells (x.toNat*ei.size)) e)).heap[w.heap.size]? =U (.cells (madeCells z.cells (x.toNat*ei.size)) e (0,0)):=heap_alloc_new w _;have hzz:(w.alloc (.cells (madeCells z.cells (x.toNat*ei.size)) e)).heap.size=w.heap.size+1:=by simp
     refine hK ⟨J.F,λk=>if k=64*d then [w.heap.size] else J.L k,J.B⟩ _ _ (hrel.grab (U d) (λd' e=>by cases e;exact hdst d hd) _ _ (64*d) [] rfl rfl (hrel.below.alloc hrel.below.size _) (by omega) rfl (λk hk=>by simp[hk])
      (λb hb=>hb) (λb hb=> .inl hb) (λk _ hk=>by simp[get,Ne.symm hk]) (λ_=>by simp[get]) (λk hk=>by simp at hk) (λb hb _=>hw b hb) (by simp) (λb hb=> ?_) (λ_=> ?_))
     . simp only[if_true,yF] at hb;subst hb;exact ⟨by omega,.inl (zR _)⟩
     show OwnDeep (if 64*d=64*d then _ else _) _ _ _ _;rw[uB rfl];have hlen:(yC x.toNat ps).length=x.toNat:=by simp
     have hor:=ZV (hov (w.alloc (.cells (madeCells z.cells (x.toNat*ei.size)) e))) (hpl.trans hsz.symm) x.toNat;have hml:=GW z.cells (by omega) x.toNat;rw[hzn] at hml;rw[←hml] at hor;have hcs:(madeCells z.cells (x.toNat*ei.size)).size=x.toNat*ei.size:=size_madeCells _ _
     have key:OV (w.alloc (.cells (madeCells z.cells (x.toNat*ei.size)) e)) [w.heap.size] (.slice (U ⟨w.heap.size,0,S⟩) (yC x.toNat ps).length x.toNat) (.slc ei.size (yC x.toNat ps)):=by
      refine OV.slc (L:= []) (cur:=madeCells z.cells (x.toNat*ei.size)) hnew hcs ?_ (by rw[hlen];exact zR _) ⟨?_, ?_⟩
      . rw[hlen,yE (by simp[hcs])];exact hor
      . unfold uH;omega
      rw[hlen];omega
     rw[hlen] at key;exact .of key (by simp)
 cases h
end
end
section
open Go.RowKit
def VQ:Y (W×Y C)->Y W
 | []=> []
 | p::r=>Qv p.2++VQ r
def Qlq (orc:Orc) (bn:Y (W×Y C)) (dst:uA W):Op->Y AV->uA (Res×Y Ob)
 | .call ⟨.value _,_,_⟩,.one (.fn f []):: .one (.slc (.own d k) n l)::avs=>
   (match orc,Ra bn avs with
   | .take mix turn l',U args=>
     bif !(M2 k (Qv (Y6 avs)))&& !(M2 k (VQ bn))&&(!mix|| H3 VJ (Y6 avs)) then
      (match turn,dst with
      | true,_=>bif !d&& !mix then U (⟨.tup [], [(k,U (.put E n 0 4294967296 l'.flatten))],S,S⟩, [.take f n l args E O l']) else S
      | false,U t=>bif !(M2 (64*t) (Qv (Y6 avs))) then
       U (⟨.one (.slc (.own d (64*t)) n l'),(64*t,S)::(k,S)::(bif mix&& !d then X5 (Qv (Y6 avs)) else []),S,S⟩,.take f n l args mix E l'::(bif d then [.flat l,.flat l'] else []))
        else S
      | _,_=>S)
     else S
   | _,_=>S)
 | _,_=>S
section
variable {P:uC} {N:W} {w0:Base} {F0:W->Prop} {J:Inj} {a:Act} {w:I} {s:St}
theorem XZ {k:W} {l:Y W} (h:M2 k l=E):k∉l:=λhm=>by rw[Cf.2 hm] at h;cases h
theorem SE:∀{bn:Y (W×Y C)} {k:W} {x:Y C},get bn k=U x->∀y,y∈Qv x->y∈VQ bn
 | [],_,_,h,_,_=>by simp[get] at h
 | (k',c)::r,k,x,h,y,hy=>by
   simp only[get] at h;simp only[VQ];split at h
   . obtain rfl:=zD h;exact zG _ hy
   exact zF _ (SE h y hy)
theorem Qhx {L:Y W} {v:H} {n:W} {l:Y (Y PV)} (h:OwnDeep L w v n l) (hf:Da l) (F:W->Prop):∃L',OwnTop F L' w v n l/\(∀b,b∈L'->b∈L)/\L'.Nodup:=by
 obtain ⟨L',h1,h2,h3,h4⟩:=h;generalize hp:PV.slc n l=p at h1;cases h1 with
 | int | bool | str | any | raw=>cases hp
 | emp oa n'=>
   cases hp
   exact ⟨[],.inl ⟨rfl,oa,rfl⟩,λb hb=>(by simp at hb),zO⟩
 | @slc g cap n' cur e L1 l' hg hs hr h5 h6=>
   cases hp
   refine ⟨[g],.inr ⟨g,cap,cur,e,rfl,rfl,hg,hs, ?_,h5,h6⟩,λb hb=> ?_,by simp⟩
   . have:=OR.vr (X:=λ_=>True) hr λ_ _=>trivial
     have:=VR.orr (w':=w) this hf;exact OR.vr this λb hb=>(by simp at hb)
   obtain rfl:=yF.1 hb;exact h3 _ zL
theorem GX {F:W->Prop} {L:Y W} {v:H} {n:W} {l:Y (Y PV)} (h:OwnTop F L w v n l) (hf:Da l):OwnDeep L w v n l:=by
 rcases h with ⟨rfl,oa,rfl⟩ | ⟨g,cap,cur,e,rfl,rfl,hg,hs,hr,h5,h6⟩
 . exact ⟨[],.emp oa n,zO,(λb hb=>by simp at hb),.inl rfl⟩
 exact ⟨[g],.slc hg hs (VR.orr hr hf) h5 h6,by simp,λb hb=>hb,.inr ⟨g, [], [],rfl,rfl⟩⟩
def To (J:Inj) (w w':I) (nk k:W) (frz L':Y W):Inj:=⟨λb=>J.F b\/(∃y,y∈frz/\b∈J.L y)\/((w.heap.size<=b\/b∈J.L k)/\b<w'.heap.size/\b∉L'),λx=>if x=nk then L' else if x∈k::frz then [] else J.L x,J.B⟩
theorem VT (hrel:Rel N w0 F0 J a w s) {t k n:W} (ht:t<N) {frz L':Y W} (hk:k∉frz) {w':I} {u:H} {l':Y (Y PV)} {d:uD} (hB:w0.Keeps w') (hsz:w.heap.size<=w'.heap.size)
 (hS:∀b,b<w.heap.size->b∉J.L k->w'.heap[b]? =w.heap[b]?) (hn:L'.Nodup) (hL':∀b,b∈L'->b<w'.heap.size/\(w.heap.size<=b\/b∈J.L k)) (hv:CR (To J w w' (64*t) k frz L') w' u (.slc (.own d (64*t)) n l')):
 Rel N w0 F0 (To J w w' (64*t) k frz L') (a.put (U t) u) w' (s.step (U t) ⟨.one (.slc (.own d (64*t)) n l'),(64*t,S)::(k,S)::X5 frz,S,S⟩):=by
 have hget:∀x,get ((64*t,S)::(k,S)::X5 frz) x=if x=64*t\/x=k then U S else if x∈frz then U (U .sh) else S:=λx=>by
  by_cases h1:x=64*t
  . rw[uB (.inl h1)];simp[get,h1]
  rw[W2 h1];by_cases h2:x=k
  . rw[uB (.inr h2)];simp[get,h2]
  rw[W2 h2,D (by simp[h1,h2])];exact Ur
 have hself:(To J w w' (64*t) k frz L').L (64*t)=L':=uB rfl;refine hrel.grab3 (U t) (λd e=>by cases e;exact ht) _ u (64*t) (k::frz) rfl rfl hB hsz rfl (λx hx=>D hx) (λb hb=> .inl hb) (λb hb=> ?_) (λx hx hx'=> ?_) (λ_=> ?_) (λx hx=> ?_) (λb hb hn=>hS b hb (hn k zL)) (by rw[hself];exact hn) (λb hb=> ?_) (λ_=>hv)
 . rcases hb with hb | ⟨y,hy,hb⟩ | ⟨h1,h2,h3⟩
   . exact .inl hb
   rotate_left
   . rcases h1 with h1 | h1
     . exact .inr (.inr ⟨h1,h2,by rw[hself];exact h3⟩)
     exact .inr (.inl ⟨⟨k,zL ..,h1⟩,by rw[hself];exact h3⟩)
   refine .inr (.inl ⟨⟨y,zJ _ hy,hb⟩,λhm=> ?_⟩);rw[hself] at hm;have:=(hrel.lo y b hb).2.1;rcases (hL' b hm).2 with h | h
   . omega
   exact hk (hrel.dj y k b hb h▸hy)
 . show get ((64*t,S)::(k,S)::X5 frz) x=S;rw[hget,D,D]
   . exact λh=>hx (zJ _ h)
   rintro (h | h)
   . exact hx' h
   exact hx (h▸zL)
 . show get ((64*t,S)::(k,S)::X5 frz) (64*t)=U S;rw[hget,uB (.inl rfl)]
 . show get ((64*t,S)::(k,S)::X5 frz) x=_\/(get ((64*t,S)::(k,S)::X5 frz) x=_/\_)\/(get ((64*t,S)::(k,S)::X5 frz) x=_/\_);rw[hget];by_cases h1:x=64*t\/x=k
   . rw[uB h1];exact .inl rfl
   have hxf:x∈frz:=(zM.1 hx).resolve_left λe=>h1 (.inr e)
   rw[D h1,uB hxf];refine .inr (.inl ⟨rfl,λb hb=>⟨.inr (.inl ⟨x,hxf,hb⟩),hS b (hrel.lo x b hb).2.1 λhm=> ?_⟩⟩);exact h1 (.inr (hrel.dj x k b hb hm))
 rw[hself] at hb;obtain ⟨h1,h2⟩:=hL' b hb;exact ⟨h1,h2.imp id λh=>⟨k,zL,h⟩⟩
theorem Qhy {orc:Orc} {bn:Y (W×Y C)} {o:Oper} {avs:Y AV} {r:Res} {obs:Y Ob} (h:Qlq orc bn o.dst o.op avs=U (r,obs)) (hob:AllOb (Zk P w0) (Vs P w0) obs) (hdst:∀d,o.dst=U d->d<N)
 (hrel:Rel N w0 F0 J a w s) (hops:All2 (λx v=>AA s x=U v) o.op.operands.toList avs) (hbn:∀k c,get bn k=U c->get s.bx k=U c) {K:Act->I->Prop} {Q:Exit->Act->I->Prop}
 (hK:∀J' a' w',Rel N w0 F0 J' a' w' (s.step o.dst r)->K a' w'):o.wp P a w K Q:=by
 have hv:=Db hrel hops;generalize ho:o.op=op at h hv;generalize hd:o.dst=dst at h;unfold Qlq at h;split at h
 rotate_left
 . cases h
 rename_i x args tys f dp k n l avs';split at h
 rotate_left
 . cases h
 rename_i mix turn l' eas heas;cases hc:(!(M2 k (Qv (Y6 avs')))&& !(M2 k (VQ bn))&&(!mix|| H3 VJ (Y6 avs'))) with
 | false=>rw[hc] at h;cases h
 | true =>
   rw[hc] at h;simp only[uF] at h;simp only[zE,zT,yU] at hc;obtain ⟨⟨c1,c2⟩,c3⟩:=hc;have c1:=XZ c1;have c2:=XZ c2;have hv':All2 (λx v=>AR J w (a.eval x) v) (x::args.toList) (.one (.fn f []):: .one (.slc (.own dp k) n l)::avs'):=by simpa [Op.operands,Call.operands] using hv
   obtain ⟨args⟩:=args;have hv':All2 (λx v=>AR J w (a.eval x) v) (x::args) (.one (.fn f []):: .one (.slc (.own dp k) n l)::avs'):=hv';cases hv' with
   | cons hx hv1=>
   cases hv1 with
   | @cons px _ rest _ hrow hrest=>
   have hx:a.eval x= .func (.func f) #[] #[]:=by simpa [AR,CR] using hx
   have hlo:=hrel.lo k;have h0:=hrel.below.size
   let frz:=Qv (Y6 avs')
   have hG:∃G:W->Prop,(∀b,J.F b->G b)/\(mix=O->∀b,G b->J.F b\/∃y,y∈frz/\b∈J.L y)/\(∀b,G b->b<w.heap.size)/\(∀b,b∈J.L k->¬G b)/\(∀y,y∈frz->∀b,b∈J.L y->G b)/\All2 (AR (GE G) w) (rest.map a.eval) eas:=by
    by_cases hm:mix=O
    . have c3:H3 VJ (Y6 avs')=O:=c3.resolve_left (by rw[hm];simp);refine ⟨λb=>J.F b\/∃y,y∈frz/\b∈J.L y,λb hb=> .inl hb,λ_ b hb=>hb,λb hb=>hb.elim (λhb=>(hrel.fl b hb).1) λ⟨y,_,hb⟩=>(hrel.lo y b hb).2.1,λb hb hg=> ?_,λy hy b hb=> .inr ⟨y,hy,hb⟩, ?_⟩
      . rcases hg with hg | ⟨y,hy,hg⟩
        . exact (hlo b hb).2.2 hg
        exact c1 (hrel.dj y k b hg hb▸hy)
      exact Oy (λb hb=> .inl hb) (All2.of_map _ hrest) heas (λy hy b hb=> .inr ⟨y,hy,hb⟩) (.inl c3)
    refine ⟨λb=>b<w.heap.size/\b∉J.L k,λb hb=>⟨(hrel.fl b hb).1,λhk=>(hlo b hk).2.2 hb⟩,λe=>absurd e hm,λb hb=>hb.1,λb hb hg=>hg.2 hb,λy hy b hb=>⟨(hrel.lo y b hb).2.1,λhk=>c1 (hrel.dj y k b hb hk▸hy)⟩, ?_⟩;refine Oy (λb hb=>⟨(hrel.fl b hb).1,λhk=>(hlo b hk).2.2 hb⟩) (All2.of_map _ hrest) heas (λy hy b hb=>⟨(hrel.lo y b hb).2.1,λhk=>c1 (hrel.dj y k b hb hk▸hy)⟩) (.inr λy c hy=> ?_);obtain ⟨_,_,hnL,arr,e,hheap,hall⟩:=hrel.bo y c (hbn y c hy);refine ⟨⟨Xe hheap,hnL k⟩,λz hz b hb=>⟨(hrel.lo z b hb).2.1,λhk=> ?_⟩,arr,e,hheap,hall⟩;exact c2 (hrel.dj z k b hb hk▸SE hy z hz)
   obtain ⟨G,g1,g2,g3,g4,g5,hargs⟩:=hG
   have hvals:(({toList:=px::rest}:uE Operand).map a.eval++ #[])=(a.eval px::rest.map a.eval).toArray:=by
    apply yT;simp
   cases turn with
   | true =>
     cases hdm:(!dp&& !mix) with
     | false=>rw[hdm] at h;cases h
     | true =>
       rw[hdm] at h;simp only[uF,zN,zP] at h;obtain ⟨rfl,rfl⟩:=h;simp only[zE,zT] at hdm;obtain ⟨rfl,rfl⟩:=hdm;obtain ⟨hfn,hcall⟩:DK P w0 f n l eas E O l':=hob;have hC:=hcall w hrel.below J.F G (J.L k) (a.eval px) _ (λx hx=>(hlo x hx).1) g1 (λe=>by cases e) g3 (hrel.nd k) (λb hb=>⟨(hlo b hb).2.1,g4 b hb⟩) hrow hargs;refine M6 ho hx hfn ?_;rw[hvals];refine hC.mono λe w' hret=> ?_
       obtain ⟨u,rfl,hB,hS,rfl,hT⟩:=hret;have hB0:=hB 0 (zY _) λ_ _=>zY _
       have hbelow:w0.Keeps w':=hrel.below.step hB0.os hB0.tape hB0.output hB0.size λb hb hnl=>hS b hb λhm=>hnl (hlo b hm).1
       have hsz:=hB0.size
       have hget:∀x y,get [(k,U (Tok.put E n 0 4294967296 l'.flatten))] x=y->(x=k/\y=U (U (.put E n 0 4294967296 l'.flatten)))\/(x≠k/\y=S):=λx y hy=>by
        by_cases hxk:x=k
        . subst hxk;exact .inl ⟨rfl,by rw[←hy];simp[get]⟩
        rw[W2 hxk] at hy;exact .inr ⟨hxk,hy.symm⟩
       have hLx:∀x,x≠k->∀b,b∈J.L x->w'.heap[b]? =w.heap[b]? :=λx hx b hb=>hS b (hrel.lo x b hb).2.1 λhm=>hx (hrel.dj x k b hb hm)
       show K (a.put o.dst _) w'
       refine hK J _ w' (hrel.upd (J':=J) (w':=w') o.dst hdst ⟨.tup [], [(k,U (.put E n 0 4294967296 l'.flatten))],S,S⟩ _ hbelow ⟨λb hb=>⟨hb,hS b (hrel.fl b hb).1 λhm=>(hlo b hm).2.2 hb⟩,λx hx=> ?_,λx hx=> ?_,λx x' hx=> ?_,λx t hx=> ?_,λ_ _=>rfl,λx d1 m i1 o1 cs1 hx=> ?_⟩
        ⟨λb hb=>⟨by have:=(hrel.fl b hb).1;omega,(hrel.fl b hb).2⟩,hrel.f0,hrel.nd,λx b hb=> ?_,hrel.dj⟩ (λ_=>⟨[],rfl,.nil⟩) (λx c hx _=> ?_) (λx c hx=>by cases hx))
       . rcases hget x _ hx with ⟨_,e⟩ | ⟨h1,_⟩
         . cases e
         exact ⟨rfl,hLx x h1⟩
       . rcases hget x _ hx with ⟨_,e⟩ | ⟨_,e⟩<;>cases e
       . rcases hget x _ hx with ⟨_,e⟩ | ⟨_,e⟩<;>cases e
       . rcases hget x _ hx with ⟨_,e⟩ | ⟨_,e⟩
         . cases e;exact .inr (.inr ⟨_,_,_,_,_,rfl⟩)
         cases e
       . rcases hget x _ hx with ⟨rfl,e⟩ | ⟨_,e⟩
         . cases e
           exact ⟨λv2 l2 hcr=>hT v2 l2 hcr,λe=>by cases e⟩
         cases e
       . obtain ⟨h1,h2,h3⟩:=hrel.lo x b hb;exact ⟨h1,by omega,h3⟩
       obtain ⟨_,h3,h4,arr',e',h5,_⟩:=hrel.bo x c hx;exact ⟨by simp,h3,h4,hS _ (Xe h5) (h4 k)⟩
   | false =>
     cases dst with
     | none=>cases h
     | some t=>
       simp only at h;cases hm:M2 (64*t) (Qv (Y6 avs')) with
       | true=>rw[hm] at h;cases h
       | false=>
         rw[hm] at h;simp only[Bool.not_false,uF,zN,zP] at h;obtain ⟨rfl,rfl⟩:=h;have hm:=XZ hm;have ht:=hdst t hd;obtain ⟨hob1,hob2⟩:=AllOb.cons hob;obtain ⟨hfn,hcall⟩:DK P w0 f n l eas mix E l':=hob1;cases dp with
         | true=>
           obtain ⟨hf1,hf2⟩:Da l/\Da l':=hob2;obtain ⟨L0,hL0,hsub,hnd0⟩:=Qhx hrow hf1 G;have hC:=hcall w hrel.below G G L0 (a.eval px) _ (λx hx=>(hlo x (hsub x hx)).1) (λ_ h=>h) (λ_ _ h=>h) g3 hnd0 (λb hb=>⟨(hlo b (hsub b hb)).2.1,g4 b (hsub b hb)⟩) hL0 hargs;refine M6 ho hx hfn ?_;rw[hvals];refine hC.mono λe w' hret=> ?_
           obtain ⟨u,rfl,hB,hS,L',hn',hL',hT⟩:=hret;have hB0:=hB 0 (zY _) λ_ _=>zY _
           show K (a.put o.dst _) w';rw[hd] at hK⊢
           have hres:CR (To J w w' (64*t) k [] L') w' u (.slc (.own O (64*t)) n l'):=by
            show OwnDeep ((To J w w' (64*t) k [] L').L (64*t)) w' u n l';rw[show (To J w w' (64*t) k [] L').L (64*t)=L' from uB rfl];exact GX hT hf2
           have:=VT hrel (t:=t) (k:=k) (frz:= []) ht (by simp) (hrel.below.step hB0.os hB0.tape hB0.output hB0.size λb hb hnl=>hS b hb λhm=>hnl (hlo b (hsub b hm)).1) hB0.size (λb hb hm=>hS b hb λh=>hm (hsub b h)) hn' (λb hb=>⟨(hL' b hb).1,(hL' b hb).2.imp id (hsub b)⟩) hres;refine hK (To J w w' (64*t) k [] L') _ w' ?_;rw[show (bif mix&& !O then X5 (Qv (Y6 avs')) else [])=X5 [] by cases mix<;>rfl];exact this
         | false=>
           have key:∀frz',(frz'= []/\mix=E\/frz'=frz/\mix=O)->∀J1:Inj,J1.F=(λb=>J.F b\/∃y,y∈frz'/\b∈J.L y)->∃F:W->Prop,(∀b,J.F b->F b)/\(∀b,F b->J1.F b)/\(∀b,F b->G b)/\(mix=O->∀b,G b->F b):=λfrz' hz J1 hJ1=>by
            rcases hz with ⟨rfl,hmx⟩ | ⟨rfl,hmx⟩
            . exact ⟨J.F,λ_ h=>h,λb hb=>by rw[hJ1];exact .inl hb,g1,λe=>by rw[hmx] at e;cases e⟩
            exact ⟨G,g1,λb hb=>by rw[hJ1];exact g2 hmx b hb,λ_ h=>h,λ_ _ h=>h⟩
           obtain ⟨frz',hz,hfz⟩:∃frz',(frz'= []/\mix=E\/frz'=frz/\mix=O)/\(bif mix&& !E then X5 (Qv (Y6 avs')) else [])=X5 frz':=by
            cases mix with
            | true=>exact ⟨frz,.inr ⟨rfl,rfl⟩,rfl⟩
            | false=>exact ⟨[],.inl ⟨rfl,rfl⟩,rfl⟩
           have hsubf:∀y,y∈frz'->y∈frz:=λy hy=>by
            rcases hz with ⟨rfl,_⟩ | ⟨rfl,_⟩
            . simp at hy
            exact hy
           obtain ⟨F,f1,f2,f3,f4⟩:=key frz' hz ⟨λb=>J.F b\/∃y,y∈frz'/\b∈J.L y,λ_=> [],λ_=>0⟩ rfl;have hC:=hcall w hrel.below F G (J.L k) (a.eval px) _ (λx hx=>(hlo x hx).1) f3 f4 g3 (hrel.nd k) (λb hb=>⟨(hlo b hb).2.1,g4 b hb⟩) (OwnTop.keep hrow (λb hb=>⟨f1 b hb,rfl⟩) λ_ _=>rfl) hargs;refine M6 ho hx hfn ?_;rw[hvals];refine hC.mono λe w' hret=> ?_
           obtain ⟨u,rfl,hB,hS,L',hn',hL',hT⟩:=hret;have hB0:=hB 0 (zY _) λ_ _=>zY _
           show K (a.put o.dst _) w';rw[hd] at hK⊢
           have hres:CR (To J w w' (64*t) k frz' L') w' u (.slc (.own E (64*t)) n l'):=by
            show OwnTop _ ((To J w w' (64*t) k frz' L').L (64*t)) w' u n l';rw[show (To J w w' (64*t) k frz' L').L (64*t)=L' from uB rfl];exact OwnTop.keep hT (λb hb=>⟨hb.elim (λh=>(f2 b h).imp id .inl) λh=> .inr (.inr h),rfl⟩) λ_ _=>rfl
           have:=VT hrel (t:=t) (k:=k) (frz:=frz') ht (λh=>c1 (hsubf _ h)) (hrel.below.step hB0.os hB0.tape hB0.output hB0.size λb hb hnl=>hS b hb λhm=>hnl (hlo b hm).1) hB0.size hS hn' hL' hres;refine hK (To J w w' (64*t) k frz' L') _ w' ?_;rw[hfz];exact this
end
end
section
open Go.RowKit
def Qoa (i:W):C->C
 | .slc (.own O _) n l=> .slc (.own O i) n l
 | c=>c
def OI:W->Y C->Y C
 | _, []=> []
 | i,c::r=>Qoa i c::OI (i+1) r
def GY:C->uA W
 | .slc (.own O k) _ _=>U k
 | _=>S
def ZW (J:Inj):W->Y C->W->Y W
 | _, [],_=> []
 | i,c::r,j=>if j=i then (match GY c with
   | some k=>J.L k
   | none=> []) else ZW J (i+1) r j
def Qlr (orc:Orc) (bn:Y (W×Y C)) (dst:uA W):Op->Y AV->uA (Res×Y Ob)
 | .call ⟨.value _,_,_⟩,.one (.fn f []):: .one (.ptr b 0)::avs=>
   (match orc,dst,get bn b with
   | .give _ r cs',U d,U cs=>
     bif H3 Qhd cs&&Ae (Qv cs)&&H3 Qhd cs'&&H3 VI cs'&&Ae (Qv cs')&&H3 AD r.cells&&H3 AD (Y6 avs) then
      U (⟨r,Va (Zi d (Qv cs'))++Va (Qv cs),S,U (b,cs'.map (VH d))⟩, [.give f (OI 40 cs) avs r cs'])
     else S
   | _,_,_=>S)
 | _,_=>S
def Qhe:Y W->W->W->W
 | [],_,i=>i
 | x::r,k,i=>if x=k then i else Qhe r k (i+1)
def Qob (ks:Y W):C->C
 | .slc (.own O k) n l=>bif M2 k ks then .slc (.own O (Qhe ks k 40)) n l else .slc .sh n l
 | .slc _ n l=> .slc .sh n l
 | c=>c
def Qa4 (ks:Y W):C->uD
 | .int _ _=>O
 | .bool _=>O
 | .str _=>O
 | .slc .sh _ _=>O
 | .slc .emp _ _=>O
 | .slc (.own O _) _ _=>O
 | .slc (.own E k) _ _=> !(M2 k ks)
 | .slc (.vw k) _ _=> !(M2 k ks)
 | _=>E
def GZ (J:Inj):Y W->W->W->Y W
 | [],_,_=> []
 | x::r,i,j=>if j=i then J.L x else GZ J r (i+1) j
def Qls (orc:Orc) (dst:uA W):Op->Y AV->uA (Res×Y Ob)
 | .call ⟨.value _,_,_⟩,.one (.fn f [])::avs=>
   (match orc,dst with
   | .giv ks r,U d=>
    bif Ae ks&&H3 (Qa4 ks) (Y6 avs)&&H3 Qn8 r.cells&&H3 VI r.cells&&Ae (Qv r.cells) then
     U (⟨r.map (VH d),Va (Zi d (Qv r.cells))++Va ks,S,S⟩, [.val f (avs.map (AV.map (Qob ks))) r])
    else S
   | _,_=>S)
 | _,_=>S
section
variable {P:uC} {N:W} {w0:Base} {F0:W->Prop} {J:Inj} {a:Act} {w:I} {s:St}
theorem Qhz {J J':Inj} {w w':I} {v:H} {c:C} (h:CR J w v c) (hp:AD c=O):CR J' w' v c:=by
 cases c with
 | int | bool | str=>exact h
 | _=>cases hp
theorem Qde {J J':Inj} {w w':I} {v:H} {x:AV} (h:AR J w v x) (hp:H3 AD x.cells=O):AR J' w' v x:=by
 have:=AR.map (J':=J') (w':=w') id h λu c hc hcr=>Qhz hcr (Hf hp c hc)
 rwa [show x.map id=x by cases x<;>simp[AV.map]] at this
theorem SF (f:C->uD) (cs cs':Y C):H3 f (cs++cs')=(H3 f cs&&H3 f cs'):=by
 induction cs with
 | nil=>rfl
 | cons c cs ih=>simp[H3,ih,Bool.and_assoc]
theorem OJ {J J':Inj} {w w':I}:∀{vs:Y H} {xs:Y AV},All2 (AR J w) vs xs->H3 AD (Y6 xs)=O->All2 (AR J' w') vs xs
 | _,_,.nil,_=> .nil
 | _,_,.cons h1 h2,hp=>by
   simp only[Y6,SF,zE] at hp;exact .cons (Qde h1 hp.1) (OJ h2 hp.2)
theorem KB {J:Inj}:∀{cs:Y C} {i j x:W},x∈ZW J i cs j->∃k,k∈Qv cs/\x∈J.L k
 | [],i,j,x,h=>by simp[ZW] at h
 | c :: r, i,j,x,h=>by
   simp only[ZW] at h;simp only[Qv,zK];split at h
   . split at h
     . rename_i k hk
       have:c.key=U k:=by
        cases c with
        | slc t n l=>cases t with
          | own d k'=>cases d<;>simp_all [GY,C.key,Tok.key]
          | _=>cases hk
        | _=>cases hk
       exact ⟨k,.inl (by rw[this];simp),h⟩
     simp at h
   obtain ⟨k,h1,h2⟩:=KB h;exact ⟨k,.inr h1,h2⟩
theorem Qdf {J:Inj}:∀{cs:Y C} {i j:W},j<i->ZW J i cs j= []
 | [],i,j,_=>rfl
 | c::r,i,j,h=>by
   simp only[ZW];rw[D (by omega)];exact Qdf (by omega)
theorem SG {J:Inj}:∀{cs:Y C} {i k x:W},H3 Qhd cs=O->k∈Qv cs->x∈J.L k->∃j,x∈ZW J i cs j
 | [],i,k,x,_,h,_=>by simp[Qv] at h
 | c :: r, i,k,x,hb,h,hx=>by
   simp only[H3,zE] at hb;simp only[Qv,zK] at h;rcases h with h | h
   . refine ⟨i, ?_⟩;simp only[ZW,if_true];cases c with
     | slc t n l=>cases t with
       | own d k'=>cases d with
         | true=>
           obtain rfl:k=k':=by simpa [C.key,Tok.key] using h
           exact hx
         | false=>cases hb.1
       | sh=>simp[C.key,Tok.key] at h
       | _=>cases hb.1
     | int | bool | str=>simp[C.key] at h
     | _=>cases hb.1
   obtain ⟨j,hj⟩:=SG (i:=i+1) hb.2 h hx;refine ⟨j, ?_⟩;simp only[ZW];split
   . rename_i e;rw[e,Qdf (by omega)] at hj;simp at hj
   exact hj
theorem OK (hrel:Rel N w0 F0 J a w s):∀(cs:Y C) (i j:W),(ZW J i cs j).Nodup
 | [],i,j=>zO
 | c ::r,i,j=>by
   simp only[ZW];split
   . split
     . exact hrel.nd _
     exact zO
   exact OK hrel r (i+1) j
theorem OL (hrel:Rel N w0 F0 J a w s):∀{cs:Y C} {i j j' x:W},(Qv cs).Nodup->x∈ZW J i cs j->x∈ZW J i cs j'->j=j'
 | [],i,j,j',x,_,h,_=>by simp[ZW] at h
 | c :: r,i,j,j',x,hn,h,h'=>by
   have hsep:∀k,GY c=U k->x∈J.L k->∀q,x∉ZW J (i+1) r q:=λk hk hx q hq=>by
    have hck:c.key=U k:=by
     cases c with
     | slc t n l=>cases t with
       | own d k'=>cases d<;>simp_all [GY,C.key,Tok.key]
       | _=>cases hk
     | _=>cases hk
    obtain ⟨k2,h1,h2⟩:=KB hq;have e:=hrel.dj k k2 x hx h2;subst e;simp only[Qv,hck] at hn;exact (zQ.1 hn).1 h1
   have hn':(Qv r).Nodup:=by
    simp only[Qv] at hn;exact (zH.1 hn).2.1
   simp only[ZW] at h h';split at h
   . rename_i e;split at h'
     . rename_i e';exact e.trans e'.symm
     split at h
     . rename_i k hk;exact (hsep k hk h _ h').elim
     simp at h
   split at h'
   . split at h'
     . rename_i k hk;exact (hsep k hk h' _ h).elim
     simp at h'
   exact OL hrel hn' h h'
theorem DM {F:W->Prop} {b:W} (hF:∀x,J.F x->F x) {L:W->Y W}:∀{vs:Y H} {cs:Y C} {i:W},All2 (CR J w) vs cs->H3 Qhd cs=O->(∀j,i<=j->L j=ZW J i cs j)->All2 (CR (Qht F L b) w) vs (OI i cs)
 | _,_,_,.nil,_,_=> .nil
 | _, _, i,.cons (b:=c) (m:=r) h1 h2,hb,hL=>by
   simp only[H3,zE] at hb;refine .cons ?_ (DM hF h2 hb.2 λj hj=>by rw[hL j (by omega)];simp only[ZW];rw[D (by omega)]);cases c with
   | int | bool | str=>exact h1
   | slc t n l=>
     cases t with
     | sh=>exact VV.keep (X:=J.F) (λx hx=>⟨hF x hx,rfl⟩) h1
     | own d k=>
       cases d with
       | true=>
         show OwnDeep (L i) w _ n l;rw[hL i (zR _)];simp only[ZW,if_true,GY];exact h1
       | false=>cases hb.1
     | _=>cases hb.1
   | _=>cases hb.1
theorem Qdg:∀(ks:Y W) (k i:W),i<=Qhe ks k i
 | [],_,_=>zR _
 | x::r,k,i=>by
   simp only[Qhe];split
   . exact zR _
   have:=Qdg r k (i+1);omega
theorem OM {J:Inj}:∀{ks:Y W} {k i:W},k∈ks->GZ J ks i (Qhe ks k i)=J.L k
 | x::r,k,i,h=>by
   by_cases e:x=k
   . subst e;have e1:Qhe (x::r) x i=i:=uB rfl;rw[e1];exact uB rfl
   have e1:Qhe (x::r) k i=Qhe r k (i+1):=D e;have:=Qdg r k (i+1);rw[e1];exact (D (by omega)).trans (OM ((zM.1 h).resolve_left λe'=>e e'.symm))
theorem DN {J:Inj}:∀{ks:Y W} {i j x:W},x∈GZ J ks i j->∃k,k∈ks/\x∈J.L k
 | [],i,j,x,h=>by simp[GZ] at h
 | y::r,i,j,x,h=>by
   simp only[GZ] at h;split at h
   . exact ⟨y,zL ..,h⟩
   obtain ⟨k,h1,h2⟩:=DN h;exact ⟨k,zJ _ h1,h2⟩
theorem Qdh (hrel:Rel N w0 F0 J a w s):∀(ks:Y W) (i j:W),(GZ J ks i j).Nodup
 | [],_,_=>zO
 | y::r,i,j=>by
   simp only[GZ];split
   . exact hrel.nd y
   exact Qdh hrel r (i+1) j
theorem Qdi (hrel:Rel N w0 F0 J a w s):∀{ks:Y W} {i j j' x:W},ks.Nodup->x∈GZ J ks i j->x∈GZ J ks i j'->j=j'
 | [],i,j,j',x,_,h,_=>by simp[GZ] at h
 | y ::r,i,j,j',x,hn,h,h'=>by
   obtain ⟨n1,n2⟩:=zQ.1 hn
   have hsep:x∈J.L y->∀q,x∉GZ J r (i+1) q:=λhx q hq=>by
    obtain ⟨k2,h1,h2⟩:=DN hq;exact n1 (by rw[hrel.dj y k2 x hx h2];exact h1)
   simp only[GZ] at h h';split at h
   . rename_i e;split at h'
     . rename_i e';exact e.trans e'.symm
     exact (hsep h _ h').elim
   split at h'
   . exact (hsep h' _ h).elim
   exact Qdi hrel n2 h h'
theorem Qlt (hrel:Rel N w0 F0 J a w s) {ks:Y W} {F:W->Prop} (hF:∀b,J.F b->F b) (hK:∀k b,k∉ks->b∈J.L k->F b) {v:H} {c:C} (h:CR J w v c) (hc:Qa4 ks c=O):CR (Qpy F (GZ J ks 40)) w v (Qob ks c):=by
 cases c with
 | int | bool | str=>exact h
 | slc t n l =>
   cases t with
   | sh=>exact VV.keep (X:=J.F) (λb hb=>⟨hF b hb,rfl⟩) h
   | emp => obtain ⟨rfl,oa,rfl⟩:=h
            exact .emp oa n (zY _)
   | own d k=>
     cases d with
     | true=>
       show CR _ w v (bif M2 k ks then .slc (.own O (Qhe ks k 40)) n l else .slc .sh n l);cases hm:M2 k ks with
       | true=>
         show OwnDeep (GZ J ks 40 (Qhe ks k 40)) w v n l;rw[OM (Cf.1 hm)];exact h
       | false=>exact OwnDeep.vv h λb hb=>⟨hK k b (XZ hm) hb,rfl⟩
     | false=>
       have hm:M2 k ks=E:=by simpa [Qa4] using hc
       exact OwnTop.vv h (λb hb=>⟨hF b hb,rfl⟩) λb hb=>⟨hK k b (XZ hm) hb,rfl⟩
   | vw k=>
     have hm:M2 k ks=E:=by simpa [Qa4] using hc
     exact VV.keep (X:=J.X (.vw k)) (λb hb=>⟨hb.elim (hK k b (XZ hm)) (hF b),rfl⟩) h
   | put=>exact h.elim
 | _=>cases hc
theorem IA (hrel:Rel N w0 F0 J a w s) {ks:Y W} {F:W->Prop} (hF:∀b,J.F b->F b) (hK:∀k b,k∉ks->b∈J.L k->F b):∀{vs:Y H} {xs:Y AV},All2 (AR J w) vs xs->H3 (Qa4 ks) (Y6 xs)=O->All2 (AR (Qpy F (GZ J ks 40)) w) vs (xs.map (AV.map (Qob ks)))
 | _,_,.nil,_=> .nil
 | _,_,.cons h1 h2,hp=>by
   simp only[Y6,SF,zE] at hp;exact .cons (AR.map (Qob ks) h1 λu c hc hcr=>Qlt hrel hF hK hcr (Hf hp.1 c hc)) (IA hrel hF hK h2 hp.2)
theorem Fu {d:W} {ks gs:Y W} (x:W):get (Va (Zi d ks)++Va gs) x=if x∈Zi d ks\/x∈gs then U S else S:=by
 rw[XV,Ai];by_cases h1:x∈Zi d ks
 . rw[uB h1,uB (Or.inl h1)]
 rw[D h1];show get (Va gs) x=_;rw[Ai];by_cases h2:x∈gs
 . rw[uB h2,uB (Or.inr h2)]
 rw[D h2,D (by simp[h1,h2])]
theorem Qdj (hrel:Rel N w0 F0 J a w s) (d:W) (hd:d<N) {r:AV} {gs:Y W} {L:W->Y W} {kb:W} {cs cs':Y C} (hbk:get s.bx kb=U cs) (hr0:H3 AD r.cells=O) (hbox':H3 Qhd cs'=O) (hback:H3 VI cs'=O)
 (hL:∀b,(∃j,b∈L j)↔∃k,k∈gs/\b∈J.L k) {e:Ending} {w':I} (hret:Qp9 J.F L (J.B kb) w r cs' e w'):
 ∃v J',e= .returned v/\Rel N w0 F0 J' (a.put (U d) v) w' (s.step (U d) ⟨r,Va (Zi d (Qv cs'))++Va gs,S,U (kb,cs'.map (VH d))⟩):=by
 obtain ⟨v,L',rfl,hos,hta,hou,hsz,hS,hnd,hlo,hdj,hr,hbox⟩:=hret;obtain ⟨hb1,hb2,hb3,arr0,e0,hb4,_⟩:=hrel.bo kb cs hbk;have hblt:=Xe hb4;have h0:=hrel.below.size
 let IL:W->Prop:=λb=>∃j,b∈L j
 let J':Inj:=⟨λb=>J.F b\/((w.heap.size<=b\/IL b)/\b<w'.heap.size/\∀k,b∉L' k),λx=>if x∈Zi d (Qv cs') then L' (x-64*d) else if x∈gs then [] else J.L x,J.B⟩
 have hLlt:∀b,IL b->b<w.heap.size/\w0.lo b/\¬J.F b/\b≠J.B kb:=λb hb=>by
  obtain ⟨k,hk,hm⟩:=(hL b).1 hb;obtain ⟨g1,g2,g3⟩:=hrel.lo k b hm;exact ⟨g2,g1,g3,λe=>hb3 k (e▸hm)⟩
 have hFlt:∀b,J.F b->b<w.heap.size/\b≠J.B kb/\¬IL b:=λb hb=>
  ⟨(hrel.fl b hb).1,λe=>hb2 (e▸hb),λhm=>(hLlt b hm).2.2.1 hb⟩
 have hS':∀b,b<w.heap.size->b≠J.B kb->¬IL b->w'.heap[b]? =w.heap[b]? :=λb h1 h2 h3=>hS b h1 h2 λj hj=>h3 ⟨j,hj⟩
 have hsame:∀b,J.F b->w'.heap[b]? =w.heap[b]? :=λb hb=>hS' b (hFlt b hb).1 (hFlt b hb).2.1 (hFlt b hb).2.2
 have hkeep:∀k,k∉gs->∀b,b∈J.L k->w'.heap[b]? =w.heap[b]? :=λk hk b hm=>hS' b (hrel.lo k b hm).2.1 (λe=>hb3 k (e▸hm)) λhl=>by
  obtain ⟨k',hk',hm'⟩:=(hL b).1 hl;exact hk (hrel.dj k k' b hm hm'▸hk')
 have hLL:∀k b,b∈J'.L k->(k∈Zi d (Qv cs')/\b∈L' (k-64*d))\/(k∉Zi d (Qv cs')/\k∉gs/\b∈J.L k):=λk b hm=>by
  have hm:b∈(if k∈Zi d (Qv cs') then L' (k-64*d) else if k∈gs then [] else J.L k):=hm;split at hm
  . rename_i h1;exact .inl ⟨h1,hm⟩
  split at hm
  . simp at hm
  rename_i h1 h2;exact .inr ⟨h1,h2,hm⟩
 have hnew:∀k b,b∈L' k->b<w'.heap.size/\w0.lo b/\b≠J.B kb/\¬J'.F b/\∀k',k'∉gs->b∉J.L k':=λk b hm=>by
  obtain ⟨g1,g2⟩:=hlo k b hm;have hne:¬J.F b:=λhF=>g2.elim (λh=>by have:=(hFlt b hF).1;omega) λh=>(hFlt b hF).2.2 h
  refine ⟨g1,g2.elim (λh=> .inl (by omega)) λh=>(hLlt b h).2.1, ?_,λhF=> ?_,λk' hk' hm'=> ?_⟩
  . rintro rfl
    rcases g2 with h | h
    . omega
    exact (hLlt _ h).2.2.2 rfl
  . rcases hF with hF | ⟨_,_,hn⟩
    . exact hne hF
    exact hn k hm
  rcases g2 with h | h
  . have:=(hrel.lo k' b hm').2.1;omega
  obtain ⟨k2,hk2,hm2⟩:=(hL b).1 h;exact hk' (hrel.dj k2 k' b hm2 hm'▸hk2)
 refine ⟨v,J',rfl,hrel.upd (U d) (λd' e=>by cases e;exact hd) _ v (hrel.below.step hos hta hou hsz λb hb hn=>hS' b hb (λe=>hn (e▸hb1)) λhm=>hn (hLlt b hm).2.1)
  ⟨λb hb=>⟨.inl hb,hsame b hb⟩,λk hk=> ?_,λk hk b hm=> ?_,λk k' hk=> ?_,λk t hk=> ?_,(λ_ _=>rfl),λk d1 m i o cs1 hk=>by
   rw[Fu] at hk;split at hk<;>cases hk⟩
  ⟨λb hb=> ?_,λb hb=> .inl (hrel.f0 b hb),λk=> ?_,λk b hm=> ?_,λk k' b hm hm'=> ?_⟩ (λ_=>Qde hr hr0) (λk c hk hne=> ?_) (λk c hk=> ?_)⟩
 . rw[Fu] at hk;split at hk
   . cases hk
   rename_i h1;have h3:k∉Zi d (Qv cs'):=λh=>h1 (.inl h)
   have h4:k∉gs:=λh=>h1 (.inr h)
   exact ⟨by show (if _ then _ else _)=_;rw[D h3,D h4],hkeep k h4⟩
 . rw[Fu] at hk;split at hk<;>cases hk
 . rw[Fu] at hk;split at hk<;>cases hk
 . rw[Fu] at hk;split at hk<;>cases hk
 . rcases hb with hb | ⟨h1,h2,_⟩
   . exact ⟨by have:=(hFlt b hb).1;omega,(hrel.fl b hb).2⟩
   exact ⟨h2,.inr (h1.elim (λh=> .inl (by omega)) λh=>(hLlt b h).2.1)⟩
 . show (if _ then _ else _:Y W).Nodup;split
   . exact hnd _
   split
   . simp
   exact hrel.nd k
 . rcases hLL k b hm with ⟨_,hm⟩ | ⟨_,h2,hm⟩
   . obtain ⟨g1,g2,_,g4,_⟩:=hnew _ b hm;exact ⟨g2,g1,g4⟩
   obtain ⟨g1,g2,g3⟩:=hrel.lo k b hm;refine ⟨g1,by omega,λhF=> ?_⟩;rcases hF with hF | ⟨hF,_,_⟩
   . exact g3 hF
   rcases hF with hF | hF
   . omega
   obtain ⟨k',hk',hm'⟩:=(hL b).1 hF;exact h2 (hrel.dj k k' b hm hm'▸hk')
 . rcases hLL k b hm with ⟨h1,hm1⟩ | ⟨h1,h2,hm1⟩<;>rcases hLL k' b hm' with ⟨h3,hm3⟩ | ⟨h3,h4,hm3⟩
   . have:=hdj _ _ b hm1 hm3;obtain ⟨j,_,rfl⟩:=Bh.1 h1;obtain ⟨j',_,rfl⟩:=Bh.1 h3;omega
   . exact ((hnew _ b hm1).2.2.2.2 k' h4 hm3).elim
   . exact ((hnew _ b hm3).2.2.2.2 k h2 hm1).elim
   exact hrel.dj k k' b hm1 hm3
 . have hkk:kb≠k:=hne (kb,cs'.map (VH d)) rfl;obtain ⟨_,g2,g3,arr,e,g4,_⟩:=hrel.bo k c hk;have hlt:=Xe g4;have hBne:J.B k≠J.B kb:=λe=>hkk (hrel.bi k kb c cs hk hbk e).symm
   have hnL:¬IL (J.B k):=λhm=>by obtain ⟨k',_,hm'⟩:=(hL _).1 hm;exact g3 k' hm'
   refine ⟨by simp,λhF=> ?_,λk' hm=> ?_,hS' _ hlt hBne hnL⟩
   . rcases hF with hF | ⟨hF,_,_⟩
     . exact g2 hF
     rcases hF with hF | hF
     . omega
     exact hnL hF
   rcases hLL k' _ hm with ⟨_,hm⟩ | ⟨_,_,hm⟩
   . rcases (hlo _ _ hm).2 with h | h
     . omega
     exact hnL h
   exact g3 k' hm
 simp only[zN,zP] at hk;obtain ⟨rfl,rfl⟩:=hk;refine ⟨hb1,λhF=> ?_,λk' hm=> ?_, ?_,λk' c' hk' hne' hB=>hne' (hrel.bi k' kb c' cs hk' hbk hB)⟩
 . rcases hF with hF | ⟨hF,_,_⟩
   . exact (hFlt _ hF).2.1 rfl
   rcases hF with hF | hF
   . have hF:w.heap.size<=J.B kb:=hF;omega
   exact (hLlt _ hF).2.2.2 rfl
 . rcases hLL k' _ hm with ⟨_,hm⟩ | ⟨_,_,hm⟩
   . exact (hnew _ _ hm).2.2.1 rfl
   exact hb3 k' hm
 obtain ⟨arr,e,g1,g2⟩:=hbox;refine ⟨arr,e,g1,g2.map (VH d) λu c hc hcr=> ?_⟩;have hbk':=Hf hbox' c hc;cases c with
 | int | bool | str=>exact hcr
 | slc t n l=>
   cases t with
   | sh=>exact VV.keep (X:=(Qc8 J.F L w w' L').F) (λb hb=>⟨hb,rfl⟩) hcr
   | own b k=>
     cases b with
     | false=>cases hbk'
     | true=>
       show OwnDeep (if 64*d+k∈Zi d (Qv cs') then L' (64*d+k-64*d) else _) w' u _ _;rw[uB (Bh.2 ⟨k,M7 hc rfl,rfl⟩),yB];exact hcr
   | _=>cases hbk'
 | _=>cases hbk'
theorem Qh0 {orc:Orc} {bn:Y (W×Y C)} {o:Oper} {avs:Y AV} {r:Res} {obs:Y Ob} (h:Qlr orc bn o.dst o.op avs=U (r,obs)) (hob:AllOb (Zk P w0) (Vs P w0) obs) (hdst:∀d,o.dst=U d->d<N)
 (hrel:Rel N w0 F0 J a w s) (hops:All2 (λx v=>AA s x=U v) o.op.operands.toList avs) (hbn:∀k c,get bn k=U c->get s.bx k=U c) {K:Act->I->Prop} {Q:Exit->Act->I->Prop}
 (hK:∀J' a' w',Rel N w0 F0 J' a' w' (s.step o.dst r)->K a' w'):o.wp P a w K Q:=by
 have hv:=Db hrel hops;generalize ho:o.op=op at h hv;generalize hd:o.dst=dst at h;unfold Qlr at h;split at h
 rotate_left
 . cases h
 rename_i x args tys f b avs;have hv':All2 (λx v=>AR J w (a.eval x) v) (x::args.toList) (.one (.fn f []):: .one (.ptr b 0)::avs):=by simpa [Op.operands,Call.operands] using hv
 obtain ⟨args⟩:=args;have hv':All2 (λx v=>AR J w (a.eval x) v) (x::args) (.one (.fn f []):: .one (.ptr b 0)::avs):=hv';cases hv' with
 | cons hx hrest=>
 have hx:a.eval x= .func (.func f) #[] #[]:=by simpa [AR,CR] using hx
 have hvals:(({toList:=args}:uE Operand).map a.eval++ #[])=(args.map a.eval).toArray:=by
  apply yT;simp
 split at h
 rotate_left
 . cases h
 rename_i g r' cs' d cs hcs;cases hc:(H3 Qhd cs&&Ae (Qv cs)&&H3 Qhd cs'&&H3 VI cs'&&Ae (Qv cs')&&H3 AD r'.cells&&H3 AD (Y6 avs)) with
 | false=>rw[hc] at h;cases h
 | true=>
   rw[hc] at h;simp only[uF,zN,zP] at h;obtain ⟨rfl,rfl⟩:=h;simp only[zE] at hc;obtain ⟨⟨⟨⟨⟨⟨c1,c2⟩,c3⟩,c4⟩,_⟩,c6⟩,c7⟩:=hc;have c2:=Cg.1 c2;obtain ⟨hfn,hcall⟩:OF P w0 f (OI 40 cs) avs r' cs':=hob;cases hrest with
   | @cons px _ rest _ hptr hrest=>
   have hptr:a.eval px= .pointer (U ⟨J.B b,0,S⟩):=hptr;have hbk:=hbn b cs hcs;obtain ⟨hb1,hb2,hb3,arr0,e0,hb4,hb5⟩:=hrel.bo b cs hbk;have hLm:∀j x,x∈ZW J 40 cs j->∃k,k∈Qv cs/\x∈J.L k:=λj x hx=>KB hx
   have hC:=hcall w hrel.below J.F (ZW J 40 cs) (J.B b) (rest.map a.eval) (λz hz=>hz.elim (λe=>e▸hb1) λ⟨j,hm⟩=>by obtain ⟨k,_,hm⟩:=hLm j z hm;exact (hrel.lo k z hm).1)
    ⟨λz hz=>(hrel.fl z hz).1,λk=>OK hrel cs 40 k,λj z hz=>by obtain ⟨k,_,hm⟩:=hLm j z hz;exact (hrel.lo k z hm).2,λj j' z h1 h2=>OL hrel c2 h1 h2,hb2,λj hm=>by obtain ⟨k,_,hm⟩:=hLm j _ hm;exact hb3 k hm⟩
    ⟨arr0,e0,hb4,DM (λ_ h=>h) hb5 c1 λ_ _=>rfl⟩ (OJ (All2.of_map _ hrest) c7)
   refine M6 ho hx hfn ?_;rw[hvals,yM,hptr];refine hC.mono λe w' hret=> ?_
   obtain ⟨v,J',rfl,hR⟩:=Qdj hrel d (hdst d hd) (gs:=Qv cs) hbk c6 c3 c4 (λz=>⟨λ⟨j,hm⟩=>hLm j z hm,λ⟨k,h1,h2⟩=>SG c1 h1 h2⟩) hret;rw[hd] at hK⊢;exact hK J' _ _ hR
theorem Qh1 (hrel:Rel N w0 F0 J a w s) (d:W) (hd:d<N) {r:AV} {ks:Y W} {L:W->Y W} (hL:∀b,(∃j,b∈L j)↔∃k,k∈ks/\b∈J.L k) (hown:H3 Qn8 r.cells=O) (hback:H3 VI r.cells=O) {e:Ending} {w':I} (hret:Qqa L w r e w'):
 ∃v J',e= .returned v/\Rel N w0 F0 J' (a.put (U d) v) w' (s.step (U d) ⟨r.map (VH d),Va (Zi d (Qv r.cells))++Va ks,S,S⟩):=by
 obtain ⟨v,L',rfl,hos,hta,hou,hsz,hS,hnd,hlo,hdj,hr⟩:=hret;have h0:=hrel.below.size
 let J':Inj:=⟨λb=>J.F b,λx=>if x∈Zi d (Qv r.cells) then L' (x-64*d) else if x∈ks then [] else J.L x,J.B⟩
 have hin:∀b j,b∈L j->∃k,k∈ks/\b∈J.L k:=λb j h=>(hL b).1 ⟨j,h⟩
 have hsame:∀b,J.F b->w'.heap[b]? =w.heap[b]? :=λb hb=>hS b (hrel.fl b hb).1 λj hm=>by
  obtain ⟨k,_,hm⟩:=hin b j hm;exact (hrel.lo k b hm).2.2 hb
 have hkeep:∀k,k∉ks->∀b,b∈J.L k->w'.heap[b]? =w.heap[b]? :=λk hk b hm=>hS b (hrel.lo k b hm).2.1 λj hl=>by
  obtain ⟨k2,h2,hl⟩:=hin b j hl;exact hk (by rw[hrel.dj k k2 b hm hl];exact h2)
 have hLL:∀k b,b∈J'.L k->(k∈Zi d (Qv r.cells)/\b∈L' (k-64*d))\/(k∉Zi d (Qv r.cells)/\k∉ks/\b∈J.L k):=λk b hm=>by
  have hm:b∈(if k∈Zi d (Qv r.cells) then L' (k-64*d) else if k∈ks then [] else J.L k):=hm;split at hm
  . rename_i h1;exact .inl ⟨h1,hm⟩
  split at hm
  . simp at hm
  rename_i h1 h2;exact .inr ⟨h1,h2,hm⟩
 have hnew:∀k b,b∈L' k->b<w'.heap.size/\w0.lo b/\¬J.F b/\(∀k',k'∉ks->b∉J.L k')/\∀kb c,get s.bx kb=U c->b≠J.B kb:=λk b hm=>by
  obtain ⟨g1,g2⟩:=hlo k b hm;have g2:w.heap.size<=b\/∃k,k∈ks/\b∈J.L k:=g2.imp id λh=>(hL b).1 h
  refine ⟨g1,g2.elim (λh=> .inl (by omega)) λ⟨k,_,h⟩=>(hrel.lo k b h).1,λhF=> ?_,λk' hk' hm'=> ?_,λkb c hkb e=> ?_⟩
  . rcases g2 with h | ⟨k,_,h⟩
    . have:=(hrel.fl b hF).1;omega
    exact (hrel.lo k b h).2.2 hF
  . rcases g2 with h | ⟨k,hk,h⟩
    . have:=(hrel.lo k' b hm').2.1;omega
    exact hk' (by rw[hrel.dj k' k b hm' h];exact hk)
  obtain ⟨_,_,h3,arr,ty,h4,_⟩:=hrel.bo kb c hkb;subst e;rcases g2 with h | ⟨k,_,h⟩
  . have:=Xe h4;omega
  exact h3 k h
 refine ⟨v,J',rfl,hrel.upd (U d) (λd' e=>by cases e;exact hd) _ v (hrel.below.step hos hta hou hsz λb hb hn=>hS b hb λj hm=>by
  obtain ⟨k,_,hm⟩:=hin b j hm;exact hn (hrel.lo k b hm).1)
  ⟨λb hb=>⟨hb,hsame b hb⟩,λk hk=> ?_,λk hk b hm=> ?_,λk k' hk=> ?_,λk t hk=> ?_,(λ_ _=>rfl),λk d1 m i o cs1 hk=>by
   rw[Fu] at hk;split at hk<;>cases hk⟩
  ⟨λb hb=>⟨by have:=(hrel.fl b hb).1;omega,(hrel.fl b hb).2⟩,λb hb=>hrel.f0 b hb,λk=> ?_,λk b hm=> ?_,λk k' b hm hm'=> ?_⟩ (λ_=> ?_) (λk c hk hne=> ?_) (λk c hk=>by cases hk)⟩
 . rw[Fu] at hk;split at hk
   . cases hk
   rename_i h1;have h3:k∉Zi d (Qv r.cells):=λh=>h1 (.inl h)
   have h4:k∉ks:=λh=>h1 (.inr h)
   exact ⟨by show (if _ then _ else _)=_;rw[D h3,D h4],hkeep k h4⟩
 . rw[Fu] at hk;split at hk<;>cases hk
 . rw[Fu] at hk;split at hk<;>cases hk
 . rw[Fu] at hk;split at hk<;>cases hk
 . show (if _ then _ else _:Y W).Nodup;split
   . exact hnd _
   split
   . simp
   exact hrel.nd k
 . rcases hLL k b hm with ⟨_,hm⟩ | ⟨_,h2,hm⟩
   . obtain ⟨g1,g2,g4,_⟩:=hnew _ b hm;exact ⟨g2,g1,g4⟩
   obtain ⟨g1,g2,g3⟩:=hrel.lo k b hm;exact ⟨g1,by omega,g3⟩
 . rcases hLL k b hm with ⟨h1,hm1⟩ | ⟨h1,h2,hm1⟩<;>rcases hLL k' b hm' with ⟨h3,hm3⟩ | ⟨h3,h4,hm3⟩
   . have:=hdj _ _ b hm1 hm3;obtain ⟨j,_,rfl⟩:=Bh.1 h1;obtain ⟨j',_,rfl⟩:=Bh.1 h3;omega
   . exact ((hnew _ b hm1).2.2.2.1 k' h4 hm3).elim
   . exact ((hnew _ b hm3).2.2.2.1 k h2 hm1).elim
   exact hrel.dj k k' b hm1 hm3
 . refine AR.map (VH d) hr λu c hc hcr=> ?_
   have hbk':=Hf hown c hc;cases c with
   | int | bool | str=>exact hcr
   | slc t n l=>
     cases t with
     | own b k=>
       cases b with
       | false=>cases hbk'
       | true=>
         show OwnDeep (if 64*d+k∈Zi d (Qv r.cells) then L' (64*d+k-64*d) else _) w' u _ _;rw[uB (Bh.2 ⟨k,M7 hc rfl,rfl⟩),yB];exact hcr
     | _=>cases hbk'
   | _=>cases hbk'
 obtain ⟨_,g2,g3,arr,e,g4,_⟩:=hrel.bo k c hk
 refine ⟨by simp,g2,λk' hm=> ?_,hS _ (Xe g4) λj hm=>by
  obtain ⟨k',_,hm⟩:=hin _ j hm;exact g3 k' hm⟩
 rcases hLL k' _ hm with ⟨_,hm⟩ | ⟨_,_,hm⟩
 . exact (hnew _ _ hm).2.2.2.2 k c hk rfl
 exact g3 k' hm
theorem Qh2 {orc:Orc} {o:Oper} {avs:Y AV} {r:Res} {obs:Y Ob} (h:Qls orc o.dst o.op avs=U (r,obs)) (hob:AllOb (Zk P w0) (Vs P w0) obs) (hdst:∀d,o.dst=U d->d<N)
 (hrel:Rel N w0 F0 J a w s) (hops:All2 (λx v=>AA s x=U v) o.op.operands.toList avs) {K:Act->I->Prop} {Q:Exit->Act->I->Prop}
 (hK:∀J' a' w',Rel N w0 F0 J' a' w' (s.step o.dst r)->K a' w'):o.wp P a w K Q:=by
 have hv:=Db hrel hops;generalize ho:o.op=op at h hv;generalize hd:o.dst=dst at h;unfold Qls at h;split at h
 rotate_left
 . cases h
 rename_i x args tys f avs;have hv':All2 (λx v=>AR J w (a.eval x) v) (x::args.toList) (.one (.fn f [])::avs):=by simpa [Op.operands,Call.operands] using hv
 obtain ⟨args⟩:=args;have hv':All2 (λx v=>AR J w (a.eval x) v) (x::args) (.one (.fn f [])::avs):=hv';cases hv' with
 | cons hx hrest=>
 have hx:a.eval x= .func (.func f) #[] #[]:=by simpa [AR,CR] using hx
 have hvals:(({toList:=args}:uE Operand).map a.eval++ #[])=(args.map a.eval).toArray:=by
  apply yT;simp
 split at h
 rotate_left
 . cases h
 rename_i ks r' d;cases hc:(Ae ks&&H3 (Qa4 ks) (Y6 avs)&&H3 Qn8 r'.cells&&H3 VI r'.cells&&Ae (Qv r'.cells)) with
 | false=>rw[hc] at h;cases h
 | true=>
   rw[hc] at h;simp only[uF,zN,zP] at h;obtain ⟨rfl,rfl⟩:=h;simp only[zE] at hc;obtain ⟨⟨⟨⟨c0,c5⟩,c1⟩,c2⟩,_⟩:=hc;have c0:=Cg.1 c0;obtain ⟨hfn,hcall⟩:Qc9 P w0 f (avs.map (AV.map (Qob ks))) r':=hob
   let F:W->Prop:=λz=>J.F z\/∃k,k∉ks/\z∈J.L k
   have hLm:∀j x,x∈GZ J ks 40 j->∃k,k∈ks/\x∈J.L k:=λj x hx=>DN hx
   have hC:=hcall w hrel.below F (GZ J ks 40) (args.map a.eval) (λz ⟨j,hz⟩=>by obtain ⟨k,_,hm⟩:=hLm j z hz;exact (hrel.lo k z hm).1)
    ⟨λz (hz:J.F z\/_)=>hz.elim (λh=>(hrel.fl z h).1) λ⟨k,_,hm⟩=>(hrel.lo k z hm).2.1,λk=>Qdh hrel ks 40 k,λj z hz=>by
     obtain ⟨k,hk,hm⟩:=hLm j z hz;exact ⟨(hrel.lo k z hm).2.1,λ(hF:J.F z\/_)=>hF.elim (hrel.lo k z hm).2.2 λ⟨k',hn,hm'⟩=>hn (by rw[hrel.dj k' k z hm' hm];exact hk)⟩,λj j' z h1 h2=>Qdi hrel c0 h1 h2⟩
    (IA hrel (F:=F) (λz hz=>Or.inl hz) (λk z hn hm=>Or.inr ⟨k,hn,hm⟩) (All2.of_map _ hrest) c5)
   refine M6 ho hx hfn ?_;rw[hvals];refine hC.mono λe w' hret=> ?_
   obtain ⟨v,J',rfl,hR⟩:=Qh1 hrel d (hdst d hd) (λz=>⟨λ⟨j,hm⟩=>hLm j z hm,λ⟨k,h1,h2⟩=>⟨_,by rw[OM h1];exact h2⟩⟩) c1 c2 hret;rw[hd] at hK⊢;exact hK J' _ _ hR
end
end
section
open Go.RowKit
def VU (tt:Y (W×TI)) (orc:Orc):Op->Y AV->uA (AV×Y Ob)
 | .slice t _ S hi S,.one (.slc (.own E k) n l)::r=>
   (match orc,get tt t with
   | .cut l',U ⟨.sli e,_,_,_⟩=>(match get tt e,M3 l.length hi r with
     | some ei,U (b, [])=>bif zW ei.size n then U (.one (.slc (.own E k) n l'), [.eq (.one (.slc (.own E k) n ((l.take b.toNat).drop (xD 0)))) (.one (.slc (.own E k) n l')),.rng 0 b l.length]) else S
     | _,_=>S)
   | _,_=>S)
 | _,_=>S
section
variable {P:uC} {A:W->Y AV->AV->Prop} {T:TakeT} {J:Inj} {w:I}
theorem OwnTop.cut {F:W->Prop} {L:Y W} {oa:uA Addr} {m cap n b:W} {l:Y (Y PV)} (h:OwnTop F L w (.slice oa m cap) n l) (hb:b<=l.length) (hm:m=l.length):
 OwnTop F L w (.slice oa b cap) n (l.take b):=by
 rcases h with ⟨rfl,oa',e⟩ | ⟨g,c,cur,e,hL,e1,hg,hs,hr,h1,h2⟩
 . have hb0:b=0:=by simpa using hb
   have:=(Value.slice.inj e);obtain ⟨e1,e2,e3⟩:=this;subst hb0;exact .inl ⟨by simp,oa,by rw[e3]⟩
 obtain ⟨e1,e2,e3⟩:=Value.slice.inj e1;subst e1 e3;have hlb:(l.take b).length=b:=by simp;omega
 refine .inr ⟨g,cap,cur,e,hL,by rw[hlb],hg,hs, ?_,by omega,⟨h2.1,by have:=h2.2;omega⟩⟩;have:=hr.take b;rw[hlb]
 rwa [List.take_take,yV (zS n hb)] at this
theorem Qa5 {tt:Y (W×TI)} (htt:Fb P tt=O) {orc:Orc} {op:Op} {avs:Y AV} {v:AV} {obs:Y Ob} (h:VU tt orc op avs=U (v,obs)) (hob:AllOb A T obs)
 {o:Oper} (ho:o.op=op) {ρ:Operand->H} (hv:All2 (λx v=>AR J w (ρ x) v) op.operands.toList avs):
 ∃u,(execOp ρ o).run P w= .ok (.value u) w/\AR J w u v:=by
 unfold VU at h;split at h
 . rename_i t px hi k n l r;split at h
   . rename_i l' e n' z q hg;split at h
     . rename_i ei b hge hhi;cases hsz:zW ei.size n with
       | false=>rw[hsz] at h;cases h
       | true =>
         rw[hsz] at h;obtain ⟨rfl,rfl⟩:AV.one (.slc (.own E k) n l')=v/\ [Ob.eq (.one (.slc (.own E k) n ((l.take b.toNat).drop (xD 0)))) (.one (.slc (.own E k) n l')),Ob.rng 0 b l.length]=obs:=by simpa using h
         obtain ⟨heq,hob⟩:=AllOb.cons hob;have heq:AV.one (.slc (.own E k) n ((l.take b.toNat).drop (xD 0)))= .one (.slc (.own E k) n l'):=heq;obtain ⟨_,hab,hbl⟩:(0:Int)<=0/\0<=b/\b<=l.length:=hob;have hu:=(Z8 htt hg).sli;have hs:=D7 (P:=P) (Z8 htt hge) w;have hn:ei.size=n:=by simpa using hsz
         have hv':All2 (λx v=>AR J w (ρ x) v) (px::(hi.toArray.toList++ [])) (.one (.slc (.own E k) n l)::r):=by simpa [Op.operands] using hv
         cases hv' with
         | cons h1 h2=>
           obtain ⟨_,hhic⟩:=It hhi h2;have h1:CR J w (ρ px) (.slc (.own E k) n l):=h1;obtain ⟨oa,cap,e1,hlc,hcm,hemp⟩:=Tl h1
           have hsb:(Instr.sliceBounds O l.length cap S (hi.map ρ) S).run P w= .ok (0,b.toNat,cap) w:=by
            have e3:∀c,(match (hi.map ρ) with | some v=>Instr.sliceBound v cap c | none=>(pure l.length:Sem W)).run P w= .ok b.toNat w:=by
             intro c;rcases hhic with ⟨rfl,rfl⟩ | ⟨x,k,rfl,hx⟩
             . simp
             simp only[Option.map_some,hx];exact Rc (by omega) (by omega)
            unfold Instr.sliceBounds;simp only[Sem.run_bind,Sem.run_pure,Result.andThen_ok];have e3':=e3 .sliceAcap;revert e3';cases hi.map ρ<;>simp<;>intro e3'<;>simp_all
           have hrun:(execOp ρ o).run P w= .ok (.value (.slice oa b.toNat cap)) w:=by
            have e4:(if cap=0 then oa else oa.map (·.add (0*n)))=oa:=by
             split
             . rfl
             cases oa<;>simp[Addr.add]
            simp[execOp,ho,e1,Instr.sliceAt,run_underlying hu,Instr.slice,hsb,hs,hn];simpa using e4
           refine ⟨_,hrun, ?_⟩;rw[←heq];have h1:OwnTop J.F (J.L k) w (ρ px) n l:=h1;rw[e1] at h1;have h3:=h1.cut (b:=b.toNat) (by omega) rfl;show OwnTop J.F (J.L k) w _ n ((l.take b.toNat).drop (xD 0));simpa using h3
     cases h
   cases h
 cases h
end
end
end Go.Proofs.YteleondjndkpbaaGreatDoor
