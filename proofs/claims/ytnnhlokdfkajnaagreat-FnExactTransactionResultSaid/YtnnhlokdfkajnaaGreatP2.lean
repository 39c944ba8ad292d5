/- Texts of this proof, put together by a program: Zb, Gs. -/
import Derived.Test.YtnnhlokdfkajnaaGreatP1
import Derived.Great.BuildSlice
import Derived.Deep.AppendSrc
import Derived.Deep.DeepAppendWide
import Derived.Lib.SmallJoins
import Derived.Lib.LaidTab
import Derived.Lib.ItoaNum
import Derived.KernelRfl
import Derived.Laws.MakeOwn
set_option linter.unusedVariables false
set_option linter.unusedSimpArgs false
namespace Go.Proofs.YtnnhlokdfkajnaaGreat
open _root_.Array renaming getElem?_toList → yJ, ext' → yS, length_toList → yX
open _root_.Bool renaming and_eq_true → zF, not_eq_true' → zS, or_eq_true → yT, and_true → yZ
open _root_.Classical renaming byContradiction → zY
open _root_.Int renaming toNat → xD
open _root_.List renaming mem_append_right → zE, mem_append_left → zG, nodup_append → zH, mem_cons_of_mem → zJ, mem_append → zK, mem_cons_self → zL, mem_cons → zN, nodup_nil → zQ, nodup_cons → zT, length_cons → zU, eq_nil_of_length_eq_zero → zW, replicate → yB, take_append_of_le_length → yD, take_of_length_le → yE, mem_singleton → yF, append_assoc → yG, length_append → yI, map_cons → yL, flatten_cons → yO, take_append_drop → yV, take_left → yW
open _root_.Nat renaming mul_le_mul_right → zR, beq → zV, le_refl → zX, zero_le → zZ, add_sub_cancel_left → yA, add_mul → yC, beq_eq → yH, ble → yK, le_trans → yM, one_mul → yN, add_lt_add_iff_right → yP, blt → yQ, zero_add → yR, min_eq_left → yU, add_assoc → yY, blt_eq → xA, add_zero → xB, zero_mul → xC, mul_one → xE
open _root_.Option renaming map_eq_some_iff → zP
open _root_.Option.some renaming inj → zD, injEq → zM
open _root_.Prod.mk renaming injEq → zO
section
open Go.RowKit
theorem Cv {k:Nat}:∀{l:List Nat},Pv k l=true↔k∈l
 | []=>by simp[Pv]
 | x::r=>by
   simp only[Pv,yT,yH,Cv (l:=r),zN];exact ⟨λh=>h.elim (λe=> .inl e.symm) .inr,λh=>h.elim (λe=> .inl e.symm) .inr⟩
theorem Lg:∀{l:List Nat},G4 l=true↔l.Nodup
 | []=>by simp[G4]
 | x::r=>by
   simp only[G4,zF,zS,zT,Lg (l:=r)];exact ⟨λh=>⟨λhm=>by rw[Cv.2 hm] at h;exact absurd h.1 (by simp),h.2⟩,λh=>⟨by cases hm:Pv x r with | false=>rfl | true=>exact absurd (Cv.1 hm) h.1,h.2⟩⟩
section
variable {N:Nat} {w0:Base} {F0:Nat->Prop} {J J':Inj} {a:Act} {w w':World} {s:St}
theorem Rel.grab3 (h:Rel N w0 F0 J a w s) (dst:Option Nat) (hdst:∀d,dst=some d->d<N) (r:Res) (v:Value) (nk:Nat) (gone:List Nat) (hkb:r.kb=none) (hbx:r.bx=none)
 (hb:w0.Keeps w') (hsz:w.heap.size<=w'.heap.size) (hB:J'.B=J.B) (hL:∀k,k≠nk->J'.L k=if k∈gone then [] else J.L k)
 (hF1:∀b,J.F b->J'.F b) (hF2:∀b,J'.F b->J.F b\/((∃k,k∈gone/\b∈J.L k)/\b∉J'.L nk)\/(w.heap.size<=b/\b<w'.heap.size/\b∉J'.L nk))
 (hrl:∀k,k∉gone->k≠nk->get r.rl k=none) (hnk:nk∉gone->get r.rl nk=some none)
 (hT:∀k,k∈gone->get r.rl k=some none\/(get r.rl k=some (some .sh)/\∀b,b∈J.L k->J'.F b/\w'.heap[b]? =w.heap[b]?)\/(get r.rl k=some (some (.vw nk))/\∀b,b∈J.L k->(b∈J'.L nk\/J'.F b)/\w'.heap[b]? =w.heap[b]?))
 (hS:∀b,b<w.heap.size->(∀k,k∈gone->b∉J.L k)->w'.heap[b]? =w.heap[b]?)
 (hN1:(J'.L nk).Nodup) (hN2:∀b,b∈J'.L nk->b<w'.heap.size/\(w.heap.size<=b\/∃k,k∈gone/\b∈J.L k))
 (hv:dst≠none->AR J' w' v r.av):Rel N w0 F0 J' (a.put dst v) w' (s.step dst r):=by
 have hnot:∀b,J.F b->∀k,b∉J.L k:=λb hF k hm=>(h.lo k b hm).2.2 hF
 have hFn:∀b,J'.F b->b∉J'.L nk:=λb hF hm=>by
  rcases hF2 b hF with hF | ⟨_,hn⟩ | ⟨_,_,hn⟩
  . rcases (hN2 b hm).2 with hge | ⟨k,_,hk⟩
    . have:=(h.fl b hF).1;omega
    exact hnot b hF k hk
  . exact hn hm
  exact hn hm
 have h0:w0.w.heap.size<=w.heap.size:=h.below.size
 refine h.upd dst hdst r v hb ⟨λb hF=>⟨hF1 b hF,hS b (h.fl b hF).1 λk _=>hnot b hF k⟩,λk hk=> ?_,λk hk b hm=> ?_,λk k' hk b hm=> ?_,λk t hk=> ?_,λk _=>by rw[hB],λk d m i o cs hk=>by
  have hg:k∈gone:=zY λhg=>by
   by_cases hn:k=nk
   . subst hn;rw[hnk hg] at hk;cases hk
   rw[hrl k hg hn] at hk;cases hk
  rcases hT k hg with e | ⟨e,_⟩ | ⟨e,_⟩<;>rw[e] at hk<;>cases hk⟩
  ⟨λb hF=> ?_,λb hF=>hF1 b (h.f0 b hF),λk=> ?_,λk b hm=> ?_,λk k' b hm hm'=> ?_⟩ hv (λk c hk _=> ?_) (λk c hk=>by rw[hbx] at hk;cases hk) (λk e=>by rw[hkb] at e;cases e)
 . have hg:k∉gone:=λhg=>by
    rcases hT k hg with e | ⟨e,_⟩ | ⟨e,_⟩<;>rw[e] at hk<;>cases hk
   have hn:k≠nk:=λe=>by subst e;rw[hnk hg] at hk;cases hk
   refine ⟨by rw[hL k hn,if_neg hg],λb hm=>hS b (h.lo k b hm).2.1 λk' hk' hm'=> ?_⟩;exact hg (h.dj k k' b hm hm'▸hk')
 . have hg:k∈gone:=zY λhg=>by
    by_cases hn:k=nk
    . subst hn;rw[hnk hg] at hk;cases hk
    rw[hrl k hg hn] at hk;cases hk
   rcases hT k hg with e | ⟨_,e⟩ | ⟨e,_⟩
   . rw[e] at hk;cases hk
   . exact e b hm
   rw[e] at hk;cases hk
 . have hg:k∈gone:=zY λhg=>by
    by_cases hn:k=nk
    . subst hn;rw[hnk hg] at hk;cases hk
    rw[hrl k hg hn] at hk;cases hk
   rcases hT k hg with e | ⟨e,_⟩ | ⟨e',e⟩
   . rw[e] at hk;cases hk
   . rw[e] at hk;cases hk
   rw[e'] at hk;obtain rfl:nk=k':=by simpa using hk
   exact e b hm
 . have hg:k∈gone:=zY λhg=>by
    by_cases hn:k=nk
    . subst hn;rw[hnk hg] at hk;cases hk
    rw[hrl k hg hn] at hk;cases hk
   rcases hT k hg with e | ⟨e,_⟩ | ⟨e,_⟩<;>rw[e] at hk
   . cases hk
   . exact .inl (by simpa using hk.symm)
   exact .inr (.inl ⟨nk,by simpa using hk.symm⟩)
 . rcases hF2 b hF with hF | ⟨⟨k,_,hm⟩,_⟩ | ⟨h1,h2,_⟩
   . have:=h.fl b hF;exact ⟨by omega,this.2⟩
   . have:=h.lo k b hm;exact ⟨by omega,.inr this.1⟩
   exact ⟨h2,.inr (.inl (by omega))⟩
 . by_cases hk:k=nk
   . rw[hk];exact hN1
   rw[hL k hk];split
   . simp
   exact h.nd k
 . by_cases hk:k=nk
   . subst hk;obtain ⟨h1,h2⟩:=hN2 b hm;refine ⟨?_,h1,λhF=>hFn b hF hm⟩;rcases h2 with h2 | ⟨k',_,hm'⟩
     . exact .inl (by omega)
     exact (h.lo k' b hm').1
   rw[hL k hk] at hm;split at hm
   . simp at hm
   rename_i hg;obtain ⟨h1,h2,h3⟩:=h.lo k b hm;refine ⟨h1,by omega,λhF=> ?_⟩;rcases hF2 b hF with hF | ⟨⟨k',hg',hm'⟩,_⟩ | ⟨h4,_,_⟩
   . exact h3 hF
   . exact hg (h.dj k k' b hm hm'▸hg')
   omega
 . have key:∀k,k≠nk->b∈J'.L nk->b∈J'.L k->False:=λk hk h1 h2=>by
    rw[hL k hk] at h2;split at h2
    . simp at h2
    rename_i hg;rcases (hN2 b h1).2 with hge | ⟨k',hg',hm'⟩
    . have:=(h.lo k b h2).2.1;omega
    exact hg (h.dj k k' b h2 hm'▸hg')
   by_cases hk:k=nk
   . by_cases hk':k'=nk
     . rw[hk,hk']
     subst hk;exact (key k' hk' hm hm').elim
   by_cases hk':k'=nk
   . subst hk';exact (key k hk hm' hm).elim
   rw[hL k hk] at hm;rw[hL k' hk'] at hm';split at hm
   . simp at hm
   split at hm'
   . simp at hm'
   exact h.dj k k' b hm hm'
 obtain ⟨h1,h2,h3,arr,e,h4,_⟩:=h.bo k c hk;refine ⟨by rw[hkb];simp,λhF=> ?_,λk' hm=> ?_,hS _ (Q7 h4) λk' _=>h3 k'⟩
 . rcases hF2 _ hF with hF | ⟨⟨k',_,hm⟩,_⟩ | ⟨h9,_,_⟩
   . exact h2 hF
   . exact h3 k' hm
   have:=Q7 h4;omega
 by_cases hk':k'=nk
 . subst hk';rcases (hN2 _ hm).2 with hge | ⟨k'',_,hm'⟩
   . have:=Q7 h4;omega
   exact h3 k'' hm'
 rw[hL k' hk'] at hm;split at hm
 . simp at hm
 exact h3 k' hm
theorem Rel.grab (h:Rel N w0 F0 J a w s) (dst:Option Nat) (hdst:∀d,dst=some d->d<N) (r:Res) (v:Value) (nk:Nat) (gone:List Nat) (hkb:r.kb=none) (hbx:r.bx=none)
 (hb:w0.Keeps w') (hsz:w.heap.size<=w'.heap.size) (hB:J'.B=J.B) (hL:∀k,k≠nk->J'.L k=if k∈gone then [] else J.L k)
 (hF1:∀b,J.F b->J'.F b) (hF2:∀b,J'.F b->J.F b\/(∃k,k∈gone/\b∈J.L k)/\b∉J'.L nk)
 (hrl:∀k,k∉gone->k≠nk->get r.rl k=none) (hnk:nk∉gone->get r.rl nk=some none)
 (hT:∀k,k∈gone->get r.rl k=some none\/(get r.rl k=some (some .sh)/\∀b,b∈J.L k->J'.F b/\w'.heap[b]? =w.heap[b]?)\/(get r.rl k=some (some (.vw nk))/\∀b,b∈J.L k->(b∈J'.L nk\/J'.F b)/\w'.heap[b]? =w.heap[b]?))
 (hS:∀b,b<w.heap.size->(∀k,k∈gone->b∉J.L k)->w'.heap[b]? =w.heap[b]?)
 (hN1:(J'.L nk).Nodup) (hN2:∀b,b∈J'.L nk->b<w'.heap.size/\(w.heap.size<=b\/∃k,k∈gone/\b∈J.L k))
 (hv:dst≠none->AR J' w' v r.av):Rel N w0 F0 J' (a.put dst v) w' (s.step dst r):=
 h.grab3 dst hdst r v nk gone hkb hbx hb hsz hB hL hF1 (λb hb=>(hF2 b hb).imp id .inl) hrl hnk hT hS hN1 hN2 hv
def Inj.box (J:Inj) (d b:Nat):Inj:=⟨J.F,J.L,λk=>if k=d then b else J.B k⟩
theorem Keeps.box {c:C} (hc:Dc c=true) (hw:∀b,b<w.heap.size->w'.heap[b]? =w.heap[b]?) (h:Rel N w0 F0 J a w s) (d b:Nat):Keeps J (J.box d b) w w' c:=by
 refine ⟨λx hx=>⟨hx,hw x (h.fl x hx).1⟩,λk _=>⟨rfl,λx hx=>hw x (h.lo k x hx).2.1⟩,λk hk=> ?_⟩;cases c<;>simp_all [C.bkeys,Dc]
theorem All2.box {vs:List Value} {cs:List C} (hv:All2 (CR J w) vs cs) (hc:B9 Dc cs=true) (hw:∀b,b<w.heap.size->w'.heap[b]? =w.heap[b]?) (h:Rel N w0 F0 J a w s) (d b:Nat):All2 (CR (J.box d b) w') vs cs:=by
 induction hv with
 | nil=>exact .nil
 | cons h1 _ ih=>
   simp only[B9,zF] at hc;exact .cons (h1.keep (Keeps.box hc.1 hw h d b)) (ih hc.2)
theorem Rel.alloc (h:Rel N w0 F0 J a w s) (d:Nat) (hd:d<N) (arr:Array Value) (e:TypeId) (cs:List C) (hc:B9 Dc cs=true) (hv:All2 (CR J w) arr.toList cs):
 Rel N w0 F0 (J.box d w.heap.size) (a.put (some d) (.pointer (some ⟨w.heap.size,0,none⟩))) (w.alloc (.cells arr e (0,0))) (s.step (some d) ⟨.one (.ptr d 0), [],some d,some (d,cs)⟩):=by
 have hw:∀b,b<w.heap.size->(w.alloc (.cells arr e (0,0))).heap[b]? =w.heap[b]? :=λb hb=>Below.heap_alloc w _ b hb
 have h0:=h.below.size;have hz:(w.alloc (.cells arr e (0,0))).heap.size=w.heap.size+1:=by simp
 refine h.upd (some d) (λd' e=>by cases e;exact hd) _ _ (h.below.alloc h0 _) ⟨λb hb=>⟨hb,hw b (h.fl b hb).1⟩,λk _=>⟨rfl,λb hb=>hw b (h.lo k b hb).2.1⟩,(λ_ hk=>by cases hk),(λ_ _ hk=>by cases hk),(λ_ _ hk=>by cases hk),(λk hk=> ?_),(λ_ _ _ _ _ _ hk=>by cases hk)⟩
  ⟨λb hb=>⟨by have:=(h.fl b hb).1;omega,(h.fl b hb).2⟩,h.f0,h.nd,λk b hb=>⟨(h.lo k b hb).1,by have:=(h.lo k b hb).2.1;omega,(h.lo k b hb).2.2⟩,h.dj⟩ (λ_=> ?_) (λk c hk hne=> ?_) (λk c hk=> ?_) (λk e=>by cases e;exact hd)
 . show (if k=d then _ else J.B k)=J.B k;rw[if_neg (λe=>hk (by simp[e]))]
 . show Value.pointer _=_;simp[Inj.box]
 . have hkd:k≠d:=λe=>hne (d,cs) rfl e.symm
   obtain ⟨h1,h2,h3,arr',e',h4,_⟩:=h.bo k c hk;exact ⟨by simpa using λe=>hkd e.symm,h2,h3,hw _ (Q7 h4)⟩
 simp only[zM,zO] at hk;obtain ⟨rfl,rfl⟩:=hk;have hBd:(J.box d w.heap.size).B d=w.heap.size:=by simp[Inj.box]
 rw[hBd];refine ⟨.inl h0,λhF=>by have:=(h.fl _ hF).1;omega,λk' hm=>by have:=(h.lo k' _ hm).2.1;omega,⟨arr,e,heap_alloc_new w _,hv.box hc hw h d _⟩,λk' c' hk' _ hB=> ?_⟩;obtain ⟨_,_,_,arr',e',h4,_⟩:=h.bo k' c' hk';have:=Q7 h4;omega
theorem Rel.store (h:Rel N w0 F0 J a w s) (dst:Option Nat) (hdst:∀d,dst=some d->d<N) (k:Nat) (cells cs:List C) (hk:get s.bx k=some cells) (arr arr':Array Value) (e:TypeId) (hg:w.heap[J.B k]? =some (.cells arr e (0,0)))
 (hw:w'.heap[J.B k]? =some (.cells arr' e (0,0))) (hw':∀b,b≠J.B k->w'.heap[b]? =w.heap[b]?) (ho:w'.os=w.os) (ht:w'.tape=w.tape) (hu:w'.output=w.output) (hz:w'.heap.size=w.heap.size) (hv:All2 (CR J w) arr'.toList cs) (v:Value):
 Rel N w0 F0 J (a.put dst v) w' (s.step dst ⟨.one .dead, [],none,some (k,cs)⟩):=by
 obtain ⟨hb0,hbF,hbL,_⟩:=h.bo k cells hk;have hF:∀b,J.F b->w'.heap[b]? =w.heap[b]? :=λb hb=>hw' b λe=>hbF (e▸hb)
 have hL:∀k' b,b∈J.L k'->w'.heap[b]? =w.heap[b]? :=λk' b hb=>hw' b λe=>hbL k' (e▸hb)
 have hkeep:∀c,Keeps J J w w' c:=λc=>⟨λb hb=>⟨hb,hF b hb⟩,λk' _=>⟨rfl,hL k'⟩,λ_ _=>rfl⟩
 refine h.upd dst hdst _ v (h.below.step ho ht hu (by omega) λb _ hb=>hw' b λe=>hb (e▸hb0)) ⟨λb hb=>⟨hb,hF b hb⟩,λk' _=>⟨rfl,hL k'⟩,(λ_ hk=>by cases hk),(λ_ _ hk=>by cases hk),(λ_ _ hk=>by cases hk),(λ_ _=>rfl),(λ_ _ _ _ _ _ hk=>by cases hk)⟩
  ⟨λb hb=>⟨by have:=(h.fl b hb).1;omega,(h.fl b hb).2⟩,h.f0,h.nd,λk b hb=>⟨(h.lo k b hb).1,by have:=(h.lo k b hb).2.1;omega,(h.lo k b hb).2.2⟩,h.dj⟩ (λ_=>trivial) (λk' c' hk' hne=> ?_) (λk' c' hk'=> ?_)
 . have hkk:k≠k':=hne (k,cs) rfl;obtain ⟨_,h2,h3,_⟩:=h.bo k' c' hk';exact ⟨by simp,h2,h3,hw' _ λe=>hkk (h.bi k' k c' cells hk' hk e).symm⟩
 simp only[zM,zO] at hk';obtain ⟨rfl,rfl⟩:=hk';refine ⟨hb0,hbF,hbL,⟨arr',e,hw,hv.imp λx c _ hc=>hc.keep (hkeep c)⟩,λk' c' hk' hne hB=> ?_⟩;exact hne (h.bi k' k c' cells hk' hk hB)
end
end
section
open Go.RowKit
def Qir (tt:List (Nat×TI)) (bn:List (Nat×List C)) (dst:Option Nat):Op->List AV->Option (Res×List Ob)
 | .alloc t, []=>
   (match dst,get tt t with
   | some d,some ti=>bif B9 Dc ti.zero then some (⟨.one (.ptr d 0), [],some d,some (d,ti.zero)⟩, []) else none
   | _,_=>none)
 | .box _ _, [v]=>
   (match dst,v.flatCells with
   | some d,some cs=>bif By cs&&B9 Dc cs then some (⟨.one (.ptr d 0), [],some d,some (d,cs)⟩, []) else none
   | _,_=>none)
 | .store t _ _, [.one (.ptr k off),v]=>
   (match get tt t,get bn k,v.flatCells with
   | some ti,some cells,some cs=>bif zV cs.length ti.size&&By cs&&yK (off+ti.size) cells.length then some (⟨.one .dead, [],none,some (k,cells.take off++cs++cells.drop (off+ti.size))⟩, []) else none
   | _,_,_=>none)
 | .buildSlice t len ps,avs=>
   (match dst,get tt t,Sz 0 ps.toList avs with
   | some d,some ⟨.sli e,_,_,_⟩,some css=>(match get tt e,EP css with
     | some ei,some rows=>bif zV css.length len&&KE ei.size css&&yK (len*ei.size) 1000&&yQ 0 ei.size&& !(Pv (64*d) (Qw css.flatten))&&G4 (Qw css.flatten) then
      some (bif My css.flatten then ⟨.one (.slc (.own true (64*d)) ei.size rows),(64*d,none)::XQ (64*d) (Qw css.flatten),none,none⟩
       else ⟨.one (.slc (.own false (64*d)) ei.size rows),(64*d,none)::Yi (Qw css.flatten),none,none⟩, [])
       else none
     | _,_=>none)
   | _,_,_=>none)
 | _,_=>none
section
variable {P:Program} {N:Nat} {w0:Base} {F0:Nat->Prop} {J:Inj} {a:Act} {w:World} {s:St}
theorem Vu {o:Oper} {K:Act->World->Prop} {Q:Exit->Act->World->Prop} {v:Value} {w':World} (h:(execOp a.eval o).run P w= .ok (.value v) w') (k:K (a.put o.dst v) w'):o.wp P a w K Q:=by
 unfold Oper.wp;rw[h];exact k
theorem XR {o:Oper} {K:Act->World->Prop} {Q:Exit->Act->World->Prop} {w':World} (h:(execOp a.eval o).run P w= .ok .skip w') (k:K (a.put o.dst undef) w'):o.wp P a w K Q:=by
 unfold Oper.wp;rw[h];exact k
theorem RV {v:Value} {x:AV} (h:LG v=some x):AR J w v x:=by
 unfold LG at h;split at h
 . rename_i k n;cases hb:(decide (k.min<=n)&&decide (n<=k.max)) with
   | false=>rw[hb] at h;cases h
   | true=>
     rw[hb] at h;obtain rfl:=zD h;simp at hb;exact ⟨rfl,hb⟩
 . obtain rfl:=zD h;rfl
 . rename_i t;cases hb:yK t.size 1000000 with
   | false=>rw[hb] at h;cases h
   | true=>
     rw[hb] at h;obtain rfl:=zD h;exact ⟨rfl,yM (by simpa using hb) (by decide)⟩
 . obtain rfl:=zD h;exact ⟨rfl,none,rfl⟩
 . obtain rfl:=zD h;exact trivial
 cases h
theorem Qis (h:Rel N w0 F0 J a w s) {x:Operand} {v:AV} (hx:UR s x=some v):AR J w (a.eval x) v:=by
 cases x with
 | tmp t=>exact h.tm t v hx
 | const c=>exact RV hx
 | func f=>obtain rfl:=zD hx;rfl
 | global g=>cases hx
theorem E9 (h:Rel N w0 F0 J a w s) {xs:List Operand} {vs:List AV} (hx:All2 (λx v=>UR s x=some v) xs vs):All2 (λx v=>AR J w (a.eval x) v) xs vs:=hx.imp λ_ _ _ hv=>Qis h hv
theorem OF {n:Nat}:∀(vs:List Value) (i:Nat) (cells:Array Value),(∀v,v∈vs->v.cells.size=n)->cells.size=(i+vs.length)*n->
 ∃out,Instr.fill (λi=>some (i*n,n)) cells ((List.range' i vs.length).zip vs)=some out/\out.toList=cells.toList.take (i*n)++vs.flatMap (·.cells.toList)
 | [],i,cells,_,hs=>⟨cells,rfl,by simp;rw[yE (by simp[hs])]⟩
 | v ::vs,i,cells,hn,hs=>by
   have hvn:=hn v zL
   have hfit:i*n+v.cells.toList.length<=cells.size:=by
    simp only[yX,hvn,hs,zU];have:(i+1)*n<=(i+(vs.length+1))*n:=zR _ (by omega);rw[yC,yN] at this;exact this
   have hput:=KH v.cells.toList (i*n) 0 cells hfit;rw[xB] at hput
   have hput':v.cells.zipIdx.foldl (λcs x=>cs.setIfInBounds (i*n+x.2) x.1) cells=putCells cells (i*n) v.cells.toList:=by
    rw[←hput,←Array.foldl_toList];simp
   obtain ⟨out,h1,h2⟩:=OF (n:=n) vs (i+1) (putCells cells (i*n) v.cells.toList) (λu hu=>hn u (zJ _ hu)) (by rw[Wk,hs,zU];congr 1;omega);refine ⟨out, ?_, ?_⟩
   . simp only[zU,List.range'_succ,List.zip_cons_cons,Instr.fill];rw[if_neg (by simp[hvn];simpa [hvn] using hfit)];exact (congrArg (λz=>Instr.fill _ z _) hput').trans h1
   rw[h2,Am hfit]
   have hl:(cells.toList.take (i*n)++v.cells.toList).length=(i+1)*n:=by
    simp only[yI,List.length_take,yX,hvn,yC,yN];rw[yU (by simp[hvn] at hfit;omega)]
   rw[←hl,yW];simp
theorem OG :∀{ps:List (Nat×Operand)} {avs:List AV} {css:List (List C)} {i n:Nat} {ρ:Operand->Value},Sz i ps avs=some css->KE n css=true->All2 (λx v=>AR J w (ρ x) v) (ps.map (·.2)) avs->
 (ps.map λp=>(p.1,ρ p.2))=(List.range' i css.length).zip (ps.map λp=>ρ p.2)/\ps.length=css.length/\(∀v,v∈ps.map (λp=>ρ p.2)->v.cells.size=n)/\All2 (CR J w) ((ps.map λp=>ρ p.2).flatMap (·.cells.toList)) css.flatten
 | [], [],css,i,n,ρ,h,_,_=>by
   obtain rfl: []=css:=by simpa [Sz] using h
   exact ⟨rfl,rfl,by simp,.nil⟩
 | [],_::_,_,_,_,_,h,_,_=>by simp[Sz] at h
 | _::_, [],_,_,_,_,h,_,_=>by simp[Sz] at h
 | (j, x) ::ps,v::avs,css,i,n,ρ,h,hl,hv=>by
   simp only[Sz] at h;cases hij:zV i j with
   | false=>rw[hij] at h;cases h
   | true =>
     rw[hij] at h;obtain rfl:i=j:=by simpa using hij
     simp only[cond_true] at h;split at h
     . rename_i cs r hc hr;obtain rfl:=zD h;simp only[KE,zF,yH] at hl;cases hv with
       | cons h1 h2=>
         obtain ⟨e1,e2,e3,e4⟩:=OG hr hl.2 h2;have hcl:=Nh h1 hc hl.1.2;have hcn:(ρ x).cells.size=n:=by have:=hcl.length;simp at this;omega
         refine ⟨?_,by simp[e2],λu hu=> ?_, ?_⟩
         . simp only[yL,zU,List.range'_succ,List.zip_cons_cons,e1]
         . simp only[yL,zN] at hu;rcases hu with rfl | hu
           . exact hcn
           exact e3 u hu
         simp only[yL,List.flatMap_cons,yO];exact hcl.append e4
     cases h
def Inj.of (J:Inj):List C->List Nat
 | []=> []
 | .slc (.own true k) _ _::r=>J.L k++J.of r
 | _::r=>J.of r
theorem Qa5 {X : Nat -> Prop} {w' : World} {v:Value} {c:C} {p:PV} (h:CR J w v c) (hp:Qkn c=some p) (hF:∀b,J.F b->X b/\w'.heap[b]? =w.heap[b]?) (hL:∀k,c.key=some k->∀b,b∈J.L k->X b/\w'.heap[b]? =w.heap[b]?):VV X w' v p:=by
 cases c with
 | int=>obtain rfl:=zD hp;obtain ⟨rfl,h⟩:=h;exact .int h
 | bool=>obtain rfl:=zD hp;obtain rfl:=h;exact .bool _
 | str=>obtain rfl:=zD hp;obtain ⟨rfl,h⟩:=h;exact .str h
 | slc t n l=>
   obtain rfl:=zD hp;cases t with
   | sh=>exact VV.keep hF h
   | emp=>obtain ⟨rfl,oa,rfl⟩:=h;exact .emp oa n (zZ _)
   | vw k => exact VV.keep (fun b hb => by rcases hb with hb | hb
                                           . exact hL k rfl b hb
                                           exact hF b hb) h
   | own d k=>
     cases d with
     | true=>exact OwnDeep.vv h (hL k rfl)
     | false=>exact OwnTop.vv h hF (hL k rfl)
   | put=>exact h.elim
 | _=>cases hp
theorem Tw {X : Nat -> Prop} {w' : World}:∀{vs:List Value} {cs:List C} {ps:List PV},All2 (CR J w) vs cs->Ie cs=some ps->(∀b,J.F b->X b/\w'.heap[b]? =w.heap[b]?)->(∀k,k∈Qw cs->∀b,b∈J.L k->X b/\w'.heap[b]? =w.heap[b]?)->VC X w' vs ps
 | _, _, ps, .nil, h, _, _ => by obtain rfl: []=ps:=by simpa [Ie] using h
                                 exact .nil
 | _,_,ps,.cons (b:=c) h1 h2,h,hF,hL=>by
   simp only[Ie] at h;split at h
   . rename_i p ps' e1 e2;obtain rfl:=zD h;exact .cons (Qa5 h1 e1 hF λk hk=>hL k (by simp[Qw,hk])) (Tw h2 e2 hF λk hk=>hL k (by simp only[Qw];exact zE _ hk))
   cases h
theorem Qit {w':World} {v:Value} {c:C} {p:PV} (h:CR J w v c) (hp:Qkn c=some p) (hd:Qin c=true) (hL:∀k,c.key=some k->∀b,b∈J.L k->w'.heap[b]? =w.heap[b]?):∃L,OV w' L v p/\L.Nodup/\∀b,b∈L->b∈J.of [c]:=by
 cases c with
 | int=>obtain rfl:=zD hp;obtain ⟨rfl,h⟩:=h;exact ⟨[],.int h,zQ,λb hb=>by simp at hb⟩
 | bool=>obtain rfl:=zD hp;obtain rfl:=h;exact ⟨[],.bool _,zQ,λb hb=>by simp at hb⟩
 | str=>obtain rfl:=zD hp;obtain ⟨rfl,h⟩:=h;exact ⟨[],.str h,zQ,λb hb=>by simp at hb⟩
 | slc t n l=>
   obtain rfl:=zD hp;cases t with
   | emp=>obtain ⟨rfl,oa,rfl⟩:=h;exact ⟨[],.emp oa n,zQ,λb hb=>by simp at hb⟩
   | own d k=>
     cases d with
     | true=>
       simp only[Inj.of,List.append_nil];obtain ⟨L,h1,h2,h3,_⟩:=h;exact ⟨L,OV.keep h1 λb hb=>hL k rfl b (h3 b hb),h2,h3⟩
     | false=>cases hd
   | _=>cases hd
 | _=>cases hp
theorem Inj.of_cons (J:Inj) (c:C) (r:List C):J.of (c::r)=J.of [c]++J.of r:=by
 cases c with
 | slc t n l=>cases t with
   | own d k=>cases d<;>simp[Inj.of]
   | _=>simp[Inj.of]
 | _=>simp[Inj.of]
theorem CI {w' : World} : ∀ {vs : List Value} {cs:List C} {ps:List PV},All2 (CR J w) vs cs->Ie cs=some ps->My cs=true->(J.of cs).Nodup->(∀k,k∈Qw cs->∀b,b∈J.L k->w'.heap[b]? =w.heap[b]?)->∃L,OC w' L vs ps/\L.Nodup/\∀b,b∈L->b∈J.of cs
 | _, _, ps, .nil, h, _, _, _ => by obtain rfl: []=ps:=by simpa [Ie] using h
                                    exact ⟨[],.nil,zQ,λb hb=>by simp at hb⟩
 | _, _,ps,.cons (b:=c) h1 h2,h,hd,hn,hL=>by
   simp only[Ie] at h;simp only[My,zF] at hd;split at h
   . rename_i p ps' e1 e2;obtain rfl:=zD h;rw[Inj.of_cons] at hn⊢;obtain ⟨hn1,hn2,hn3⟩:=zH.1 hn;obtain ⟨L1,a1,a2,a3⟩:=Qit h1 e1 hd.1 λk hk=>hL k (by simp[Qw,hk])
     obtain ⟨L2,b1,b2,b3⟩:=CI h2 e2 hd.2 hn2 λk hk=>hL k (by simp only[Qw];exact zE _ hk)
     refine ⟨L1++L2,.cons a1 b1,zH.2 ⟨a2,b2,λx hx y hy=>hn3 x (a3 x hx) y (b3 y hy)⟩,λb hb=> ?_⟩;rcases zK.1 hb with hb | hb
     . exact zG _ (a3 b hb)
     exact zE _ (b3 b hb)
   cases h
theorem Sj {J:Inj}:∀{cs:List C} {b:Nat},b∈J.of cs->∃k,k∈Qw cs/\b∈J.L k
 | [],b,h=>by simp[Inj.of] at h
 | c :: r,b,h=>by
   rw[Inj.of_cons] at h;rcases zK.1 h with h | h
   . cases c with
     | slc t n l=>cases t with
       | own d k=>cases d with
         | true=>exact ⟨k,by simp[Qw,C.key,Tok.key],by simpa [Inj.of] using h⟩
         | false=>simp[Inj.of] at h
       | _=>simp[Inj.of] at h
     | _=>simp[Inj.of] at h
   obtain ⟨k,h1,h2⟩:=Sj h;exact ⟨k,by simp only[Qw];exact zE _ h1,h2⟩
theorem Qho {J:Inj}:∀{cs:List C},My cs=true->(∀c,c∈cs->∃p,Qkn c=some p)->∀{k:Nat},k∈Qw cs->∀{b:Nat},b∈J.L k->b∈J.of cs
 | [],_,_,k,h,_,_=>by simp[Qw] at h
 | c :: r, hd,hp,k,h,b,hb=>by
   simp only[My,zF] at hd;simp only[Qw] at h;rw[Inj.of_cons];rcases zK.1 h with h | h
   . refine zG _ ?_;cases c with
     | slc t n l=>cases t with
       | own d k'=>cases d with
         | true=>
           simp[C.key,Tok.key] at h;subst h;simpa [Inj.of] using hb
         | false=>cases hd.1
       | _=>simp_all [Qin,C.key,Tok.key]
     | rptr t cs=>obtain ⟨p,e⟩:=hp _ zL;cases e
     | ept d k n i o cs=>obtain ⟨p,e⟩:=hp _ zL;cases e
     | _=>simp[C.key] at h
   exact zE _ (Qho hd.2 (λc hc=>hp c (zJ _ hc)) h hb)
theorem Tx (h:Rel N w0 F0 J a w s):∀{cs:List C},(Qw cs).Nodup->(J.of cs).Nodup
 | [],_=>by simp[Inj.of]
 | c :: r,hn=>by
   simp only[Qw] at hn;obtain ⟨h1,h2,h3⟩:=zH.1 hn;rw[Inj.of_cons];refine zH.2 ⟨?_,Tx h h2,λb hb b' hb' e=> ?_⟩
   . cases c with
     | slc t n l=>cases t with
       | own d k=>cases d with
         | true=>simpa [Inj.of] using h.nd k
         | false=>simp[Inj.of]
       | _=>simp[Inj.of]
     | _=>simp[Inj.of]
   subst e;obtain ⟨k,hk,hm⟩:=Sj hb;obtain ⟨k',hk',hm'⟩:=Sj hb';have:=h.dj k k' b hm hm';subst this;simp[Qw] at hk;exact h3 k (by simp[hk]) k hk' rfl
theorem ET:∀{cs:List C} {ps:List PV},Ie cs=some ps->∀c,c∈cs->∃p,Qkn c=some p
 | [],_,_,c,hc=>by simp at hc
 | x ::r,ps,h,c,hc=>by
   simp only[Ie] at h;split at h
   . rename_i p ps' e1 e2;rcases zN.1 hc with rfl | hc
     . exact ⟨p,e1⟩
     exact ET e2 c hc
   cases h
theorem EU : ∀ {css : List (List C)} {rows : List (List PV)} {n:Nat},EP css=some rows->KE n css=true->Ie css.flatten=some rows.flatten/\rows.length=css.length/\∀r,r∈rows->r.length=n
 | [], rows, n, h, _ => by obtain rfl: []=rows:=by simpa [EP] using h
                           exact ⟨rfl,rfl,by simp⟩
 | cs :: css, rows,n,h,hl=>by
   simp only[EP] at h;simp only[KE,zF,yH] at hl;split at h
   . rename_i p ps e1 e2;obtain rfl := Option.some.inj h;obtain ⟨h1,h2,h3⟩:=EU e2 hl.2
     have happ :∀(cs cs':List C) (p p':List PV),Ie cs=some p->Ie cs'=some p'->Ie (cs++cs')=some (p++p')/\p.length=cs.length:=by
      intro cs
      induction cs with
      | nil => intro cs' p p' h1 h2;obtain rfl: []=p:=by simpa [Ie] using h1
               exact ⟨h2,rfl⟩
      | cons c cs ih=>
        intro cs' p p' h1 h2;simp only[Ie] at h1;split at h1
        . rename_i q qs f1 f2;obtain rfl:=zD h1;obtain ⟨g1,g2⟩:=ih cs' qs p' f2 h2;exact ⟨by simp[Ie,f1,g1],by simp[g2]⟩
        cases h1
     obtain ⟨g1,g2⟩:=happ cs css.flatten p ps.flatten e1 h1
     exact ⟨g1, by simp [h2], fun r hr => by rcases zN.1 hr with rfl | hr
                                             . omega
                                             exact h3 r hr⟩
   cases h
theorem VC.rows {X:Nat->Prop} {w:World} {n:Nat}:∀{rows:List (List PV)} {vs:List Value},VC X w vs rows.flatten->(∀r,r∈rows->r.length=n)->VR X w n vs rows
 | [],vs,h,_=>by cases h;exact .nil n
 | r::rows,vs,h,hn=>by
   have hl:=h.length;simp only[yO,yI] at hl;have h1:=h.take r.length;have h2:=h.drop r.length;simp only[yO,yW,List.drop_left] at h1 h2;rw[←yV r.length vs];exact .cons h1 (hn r zL) (VC.rows h2 λr hr=>hn r (zJ _ hr))
theorem OC.split {w:World}:∀{ps ps':List PV} {L:List Nat} {vs:List Value},OC w L vs (ps++ps')->∃L1 L2 vs1 vs2,L=L1++L2/\vs=vs1++vs2/\OC w L1 vs1 ps/\OC w L2 vs2 ps'
 | [],ps',L,vs,h=>⟨[],L, [],vs,rfl,rfl,.nil,h⟩
 | p ::ps,ps',L,vs,h=>by
   generalize hq:p::ps++ps'=q at h;cases h with
   | nil=>cases hq
   | cons h1 h2=>
     cases hq
     obtain ⟨L1,L2,vs1,vs2,rfl,rfl,h3,h4⟩:=OC.split h2;exact ⟨_,L2,_,vs2,(yG ..).symm,rfl,.cons h1 h3,h4⟩
theorem OC.rows {w:World} {n:Nat}:∀{rows:List (List PV)} {L:List Nat} {vs:List Value},OC w L vs rows.flatten->(∀r,r∈rows->r.length=n)->OR w n L vs rows
 | [],L,vs,h,_=>by cases h;exact .nil n
 | r::rows,L,vs,h,hn=>by
   obtain ⟨L1,L2,vs1,vs2,rfl,rfl,h1,h2⟩:=OC.split h;exact .cons h1 (hn r zL) (OC.rows h2 λr hr=>hn r (zJ _ hr))
theorem CJ {nk k:Nat}:∀{keys:List Nat},get (XQ nk keys) k=if k∈keys then some (some (.vw nk)) else none
 | []=>by simp[XQ,get]
 | x::r=>by
   simp only[XQ,get,CJ (keys:=r),zN];by_cases hx:x=k
   . simp[hx]
   simp[hx,λe=>hx (Eq.symm e)];by_cases hk:k=x
   . exact absurd hk.symm hx
   simp[hk]
theorem Vr {k:Nat}:∀{keys:List Nat},get (Yi keys) k=if k∈keys then some (some .sh) else none
 | []=>by simp[Yi,get]
 | x::r=>by
   simp only[Yi,get,Vr (keys:=r),zN];by_cases hx:x=k
   . simp[hx]
   by_cases hk:k=x
   . exact absurd hk.symm hx
   simp[hx,hk]
theorem Bl {k:Nat}:∀{keys:List Nat},get (Wa keys) k=if k∈keys then some none else none
 | []=>by simp[Wa,get]
 | x::r=>by
   simp only[Wa,get,Bl (keys:=r),zN];by_cases hx:x=k
   . simp[hx]
   by_cases hk:k=x
   . exact absurd hk.symm hx
   simp[hx,hk]
end
end
section
open Go.RowKit
section
variable {P:Program} {N:Nat} {w0:Base} {F0:Nat->Prop} {J:Inj} {a:Act} {w:World} {s:St}
theorem Uz {α:Type} {k nk:Nat} {x:α} {l:List (Nat×α)} (h:k≠nk):get ((nk,x)::l) k=get l k:=by
 simp only[get];rw[if_neg λe=>h e.symm]
set_option maxHeartbeats 1000000 in
theorem Qe9 {tt:List (Nat×TI)} (htt:Gs P tt=true) {bn:List (Nat×List C)} {o:Oper} {avs:List AV} {r:Res} {obs:List Ob} (h:Qir tt bn o.dst o.op avs=some (r,obs)) (hdst:∀d,o.dst=some d->d<N)
 (hrel:Rel N w0 F0 J a w s) (hops:All2 (λx v=>UR s x=some v) o.op.operands.toList avs) (hbn:∀k c,get bn k=some c->get s.bx k=some c) {K:Act->World->Prop} {Q:Exit->Act->World->Prop}
 (hK:∀J' a' w',Rel N w0 F0 J' a' w' (s.step o.dst r)->K a' w'):o.wp P a w K Q:=by
 have hv:=E9 hrel hops;generalize ho:o.op=op at h hv;generalize hd:o.dst=dst at h;unfold Qir at h;split at h
 ·rename_i t;split at h
  . rename_i d ti hg;cases hc:B9 Dc ti.zero with
    | false=>rw[hc] at h;cases h
    | true=>
      rw[hc] at h;obtain ⟨rfl,rfl⟩:(⟨.one (.ptr d 0), [],some d,some (d,ti.zero)⟩:Res)=r/\ []=obs:=by simpa using h
      obtain ⟨inf,z,hi,_,_,hz,_,hzo⟩:=(Zp htt hg).info;refine Vu (v:= .pointer (some ⟨w.heap.size,0,none⟩)) (w':=w.alloc (.cells z.cells t (0,0))) (by simp[execOp,ho,Instr.alloc,zeroValue,Hk hi,hz,newVar,newRow]) ?_;rw[hd] at hK⊢;exact hK _ _ _ (hrel.alloc d (hdst d hd) z.cells t ti.zero hc (CF hzo))
  cases h
 ·rename_i t px v;split at h
  . rename_i d cs hfc;cases hc:(By cs&&B9 Dc cs) with
    | false=>rw[hc] at h;cases h
    | true=>
      rw[hc] at h;obtain ⟨rfl,rfl⟩:(⟨.one (.ptr d 0), [],some d,some (d,cs)⟩:Res)=r/\ []=obs:=by simpa using h
      simp only[zF] at hc;cases hv with
      | cons h1 _=>
        have hcl:=Nh h1 hfc hc.1;refine Vu (v:= .pointer (some ⟨w.heap.size,0,none⟩)) (w':=w.alloc (.cells (a.eval px).cells t (0,0))) (by simp[execOp,ho,Instr.box,newVar,newRow]) ?_;rw[hd] at hK⊢;exact hK _ _ _ (hrel.alloc d (hdst d hd) _ t cs hc.2 hcl)
  cases h
 ·rename_i t px py k off v;split at h
  . rename_i ti cells cs hg hk hfc;cases hc:(zV cs.length ti.size&&By cs&&yK (off+ti.size) cells.length) with
    | false=>rw[hc] at h;cases h
    | true =>
      rw[hc] at h;obtain ⟨rfl,rfl⟩:(⟨.one .dead, [],none,some (k,cells.take off++cs++cells.drop (off+ti.size))⟩:Res)=r/\ []=obs:=by simpa using h
      simp only[zF,yH,Nat.ble_eq] at hc;obtain ⟨⟨c1,c2⟩,c3⟩:=hc;cases hv with
      | cons h1 h2=>
        cases h2 with
        | cons h2 _=>
          have e1:a.eval px= .pointer (some ⟨J.B k,off,none⟩):=h1;have hcl:=Nh h2 hfc c2;obtain ⟨_,_,_,arr,e,hheap,hall⟩:=hrel.bo k cells (hbn k cells hk);have hn:(a.eval py).cells.toList.length=ti.size:=by rw[hcl.length,c1]
          have hfit:off+(a.eval py).cells.toList.length<=arr.size:=by have:=hall.length;simp at this hn⊢;omega
          have hst:=run_storeCells_at P (J.B k) off e (a.eval py).cells.toList 0 arr w hheap (by simpa using hfit) (Pw hcl c2);simp only[xB] at hst;have hsz:=Ae (P:=P) (Zp htt hg) w
          have hrun:(execOp a.eval o).run P w= .ok .skip (w.setRow (J.B k) (arr.toList.take off++(a.eval py).cells.toList++arr.toList.drop (off+(a.eval py).cells.toList.length)).toArray):=by
           have hn':(a.eval py).cells.size=ti.size:=by simpa using hn
           simp only[execOp,ho,Instr.storeAt,e1,Instr.sureAddr,storeVar,Sem.run_bind,Sem.run_pure,Result.andThen_ok,hsz,hn'];simp[hst]
          refine XR hrun (hK J _ _ ?_);rw[hd];refine hrel.store dst (λd e=>hdst d (hd.trans e)) k cells _ (hbn k cells hk) arr _ e hheap (setRow_heap w (J.B k) arr _ e (0,0) hheap) (λb hb=>setRow_other w (J.B k) b _ hb) rfl rfl rfl (by simp[World.setRow]) ?_ undef;rw[hn];exact ((hall.take off).append hcl).append (hall.drop _)
  cases h
 ·rename_i t len ps;split at h
  . rename_i d e n0 z0 q0 css hg hps;split at h
    . rename_i ei rows hge hrows;cases hc:(zV css.length len&&KE ei.size css&&yK (len*ei.size) 1000&&yQ 0 ei.size&& !(Pv (64*d) (Qw css.flatten))&&G4 (Qw css.flatten)) with
      | false=>rw[hc] at h;cases h
      | true =>
        rw[hc] at h;simp only[cond_true] at h;simp only[zF,yH,Nat.ble_eq,xA,zS] at hc;obtain ⟨⟨⟨⟨⟨c1,c2⟩,c3⟩,c4⟩,c5⟩,c6⟩:=hc;have hnk:64*d∉Qw css.flatten:=λhm=>by rw[Cv.2 hm] at c5;cases c5
        have hnd:=Lg.1 c6;obtain ⟨hfl,hrl,hrn⟩:=EU hrows c2;obtain ⟨p1,p2,p3,p4⟩:=OG hps c2 (by simpa [Op.operands] using hv);have hu:=(Zp htt hg).sli;obtain ⟨inf,z,hi,hsz,hby,hz,hzs,hzo⟩:=(Zp htt hge).info
        have hzero:∃zc:Array Value,zc.size=len*ei.size/\∀(parts:Array (Nat×Value)) (cells:Array Value),Instr.fill (λi=>some (i*ei.size,ei.size)) zc parts.toList=some cells->
         (Instr.buildSlice t len parts).run P w= .ok (.slice (some ⟨w.heap.size,0,none⟩) len len) (w.alloc (.cells cells e (0,0))):=by
         have hlim:¬(len*ei.size>2^24):=by omega
         by_cases h0:len*ei.size=0
         . refine ⟨#[],by simp[h0],λparts cells hf=> ?_⟩;have h00:len*inf.size=0:=by rw[hsz];exact h0
           rw[←hsz] at hf;have hr0:Array.map (λ_=>(default:Value)) (Array.range 0)= #[]:=by apply Array.eq_empty_of_size_eq_zero;simp
           simp[Instr.buildSlice,run_underlying hu,sizeOf,Hk hi,h00,hr0,hf,newRow]
         refine ⟨(Array.range (len*ei.size)).map (z.cells[· % z.cells.size]!),by simp,λparts cells hf=>run_buildSlice w t e len parts cells inf z hu hi hz (by rw[hsz];exact hlim) (by rw[hsz];exact h0) ?_⟩;rw[hsz];exact hf
        obtain ⟨zc,hzc,hrun⟩:=hzero;have hlen:(ps.toList.map λp=>a.eval p.2).length=len:=by simp;rw[←c1,←p2];simp
        obtain ⟨out,ho1,ho2⟩:=OF (n:=ei.size) (ps.toList.map λp=>a.eval p.2) 0 zc p3 (by rw[hzc,hlen,yR])
        have hfill:Instr.fill (λi=>some (i*ei.size,ei.size)) zc ((ps.map λ(i,x)=>(i,a.eval x)).toList)=some out:=by
         have e9:(ps.map λ(i,x)=>(i,a.eval x)).toList=(ps.toList.map λp=>(p.1,a.eval p.2)):=by simp
         rw[e9,p1,show css.length=(ps.toList.map λp=>a.eval p.2).length by rw[hlen,c1]];exact ho1
        have hrun:=hrun _ _ hfill;simp only[xC,List.take_zero,List.nil_append] at ho2
        have hrun':(execOp a.eval o).run P w= .ok (.value (.slice (some ⟨w.heap.size,0,none⟩) len len)) (w.alloc (.cells out e (0,0))):=by
         simp only[execOp,ho,Sem.run_bind,hrun,Result.andThen_ok,Sem.run_pure]
        refine Vu hrun' ?_;rw[hd] at hK⊢;have hw:∀b,b<w.heap.size->(w.alloc (.cells out e (0,0))).heap[b]? =w.heap[b]? :=λb hb=>Below.heap_alloc w _ b hb
        have hnew:(w.alloc (.cells out e (0,0))).heap[w.heap.size]? =some (.cells out e (0,0)):=heap_alloc_new w _;have hzz:(w.alloc (.cells out e (0,0))).heap.size=w.heap.size+1:=by simp
        rw[←ho2] at p4
        have hout:out.size=len*ei.size:=by
         have:=p4.length;have h3:=Tw (X:=λ_=>True) (w':=w) p4 hfl (λb _=>⟨trivial,rfl⟩) (λk _ b _=>⟨trivial,rfl⟩);have h4:=(VC.rows h3 hrn).length;simp at h4;rw[h4,hrl,c1]
        have htake:out.toList.take (rows.length*ei.size)=out.toList:=yE (by rw[hrl,c1,←hout];simp)
        have hlx:len<=1073741824:=by
         have:len<=len*ei.size:=Nat.le_mul_of_pos_right _ c4;exact yM (yM this c3) (by decide)
        have hlm:len<=maxLen:=yM hlx (by decide);have hrows':rows.length=len:=hrl.trans c1;cases hdeep:My css.flatten with
        | true=>
          rw[hdeep] at h;obtain ⟨rfl,rfl⟩:(⟨.one (.slc (.own true (64*d)) ei.size rows),(64*d,none)::XQ (64*d) (Qw css.flatten),none,none⟩:Res)=r/\ []=obs:=by simpa using h
          refine hK ⟨J.F,λk=>if k=64*d then w.heap.size::J.of css.flatten else if k∈Qw css.flatten then [] else J.L k,J.B⟩ _ _ (hrel.grab (some d) (λd' e=>by cases e;exact hdst d hd) _ _ (64*d) (Qw css.flatten) rfl rfl (hrel.below.alloc hrel.below.size _) (by omega) rfl (λk hk=>if_neg hk)
           (λb hb=>hb) (λb hb=> .inl hb) (λk hk hn=>by rw[Uz hn,CJ,if_neg hk]) (λ_=>by simp[get]) (λk hk=> .inr (.inr ⟨?_,λb hb=>⟨.inl ?_,hw b (hrel.lo k b hb).2.1⟩⟩)) (λb hb _=>hw b hb) ?_ (λb hb=> ?_) (λ_=> ?_))
          . rw[Uz (λe:k=64*d=>hnk (e▸hk)),CJ,if_pos hk]
          . simp only[if_true];exact zJ _ (Qho hdeep (λc hc=>ET hfl c hc) hk hb)
          . simp only[if_true];refine zT.2 ⟨λhm=> ?_,Tx hrel hnd⟩;obtain ⟨k,_,hm⟩:=Sj hm;have:=(hrel.lo k _ hm).2.1;omega
          . simp only[if_true,zN] at hb;rcases hb with rfl | hb
            . exact ⟨by omega,.inl (zX _)⟩
            obtain ⟨k,hk,hm⟩:=Sj hb;exact ⟨by have:=(hrel.lo k b hm).2.1;omega,.inr ⟨k,hk,hm⟩⟩
          show OwnDeep _ _ _ _ _;simp only[if_true];rw[←hrows'];obtain ⟨L,a1,a2,a3⟩:=CI p4 hfl hdeep (Tx hrel hnd) λk _ b hb=>hw b (hrel.lo k b hb).2.1
          refine ⟨w.heap.size::L,.slc hnew (by rw[hout,hrows']) ?_ (zX _) ⟨by omega,by omega⟩,zT.2 ⟨λhm=> ?_,a2⟩,λb hb=> ?_,.inr ⟨_,_,_,rfl,rfl⟩⟩
          . rw[htake];exact OC.rows a1 hrn
          . obtain ⟨k,_,hm⟩:=Sj (a3 _ hm);have:=(hrel.lo k _ hm).2.1;omega
          rcases zN.1 hb with rfl | hb
          . exact zL
          exact zJ _ (a3 b hb)
        | false=>
          rw[hdeep] at h;obtain ⟨rfl,rfl⟩:(⟨.one (.slc (.own false (64*d)) ei.size rows),(64*d,none)::Yi (Qw css.flatten),none,none⟩:Res)=r/\ []=obs:=by simpa using h
          refine hK ⟨λb=>J.F b\/∃k,k∈Qw css.flatten/\b∈J.L k,λk=>if k=64*d then [w.heap.size] else if k∈Qw css.flatten then [] else J.L k,J.B⟩ _ _ (hrel.grab (some d) (λd' e=>by cases e;exact hdst d hd) _ _ (64*d) (Qw css.flatten) rfl rfl (hrel.below.alloc hrel.below.size _) (by omega) rfl (λk hk=>if_neg hk)
           (λb hb=> .inl hb) (λb hb=>hb.imp id λhk=>⟨hk, ?_⟩) (λk hk hn=>by rw[Uz hn,Vr,if_neg hk]) (λ_=>by simp[get]) (λk hk=> .inr (.inl ⟨?_,λb hb=>⟨.inr ⟨k,hk,hb⟩,hw b (hrel.lo k b hb).2.1⟩⟩)) (λb hb _=>hw b hb) (by simp) (λb hb=> ?_) (λ_=> ?_))
          . obtain ⟨k,_,hm⟩:=hk;have:=(hrel.lo k b hm).2.1;simp only[if_true,yF];omega
          . rw[Uz (λe:k=64*d=>hnk (e▸hk)),Vr,if_pos hk]
          . simp only[if_true,yF] at hb;exact ⟨by omega,.inl (by omega)⟩
          show OwnTop _ _ _ _ _ _;refine .inr ⟨w.heap.size,len,out,e,by simp,by rw[hrows'],hnew,hout, ?_,by omega,hlm,by omega⟩;rw[htake];exact VC.rows (Tw p4 hfl (λb hb=>⟨.inl hb,hw b (hrel.fl b hb).1⟩) λk hk b hb=>⟨.inr ⟨k,hk,hb⟩,hw b (hrel.lo k b hb).2.1⟩) hrn
    cases h
  cases h
 cases h
end
end
section
open Go.RowKit
def nOk (t:Tok) (n n':Nat):Bool:=match t with
 | .emp=>true
 | _=>zV n n'
def OH:Tok->Option (List Nat×Bool)
 | .emp=>some ([],true)
 | .own d k=>some ([k],d)
 | _=>none
def Px (flat:Bool):Tok->List Nat×Bool
 | .emp=>([],true)
 | .sh=>([],flat)
 | .own d k=>bif flat then ([],true) else ([k],d)
 | .vw k=>bif flat then ([],true) else ([k],false)
 | .put _ _ _ _ _=>([],false)
def Sk:Orc->Bool
 | .flat=>true
 | _=>false
def Qiu (tt:List (Nat×TI)) (orc:Orc) (dst:Option Nat):Op->List AV->Option (Res×List Ob)
 | .call ⟨.builtin .append,_,tys⟩, [.one (.slc t1 n1 l1),.one (.slc t2 n2 l2)]=>
   (match tys.toList with
   | [t,t']=>(match dst,get tt t,OH t1 with
   | some d,some ⟨.sli e,_,_,_⟩,some (g1,d1)=>(match get tt e with
     | some ei=>bif zV t t'&&yQ 0 ei.size&&nOk t1 n1 ei.size&&nOk t2 n2 ei.size&& !(Pv (64*d) (g1++(Px (Sk orc) t2).1))&&G4 (g1++(Px (Sk orc) t2).1) then
      some (⟨.one (.slc (.own (d1&&(Px (Sk orc) t2).2) (64*d)) ei.size (l1++l2)),(64*d,none)::(Wa g1++(bif d1&&(Px (Sk orc) t2).2 then Wa (Px (Sk orc) t2).1 else Yi (Px (Sk orc) t2).1)),none,none⟩,
       .len (l1.length+l2.length)::(bif Sk orc then [.flat l2] else []))
       else none
     | none=>none)
   | _,_,_=>none)
   | _=>none)
 | _,_=>none
section
variable {P:Program} {N:Nat} {w0:Base} {F0:Nat->Prop} {J:Inj} {a:Act} {w:World} {s:St}
theorem AF {t e ty:TypeId} {ei:TI} (hu:P.underlying t=some (.slice e)) (hei:TiOk P e ei) (hn:0<ei.size) {oa:Option Addr} {cap Bf:Nat} {olds:List Value} (hol:olds.length=Bf*ei.size)
 (hold:∀ad,oa=some ad->∀(j:Nat) (u:Value),olds[j]? =some u->w.cell? (ad.add j)=some u) (hnone:oa=none->Bf=0)
 (hrow:cap=0\/∃g cur e0,oa=some ⟨g,0,none⟩/\w.heap[g]? =some (.cells cur e0 (0,0))/\cur.size=cap*ei.size/\cur.toList.take (Bf*ei.size)=olds) (hlc:Bf<=cap)
 {v2:Value} {YE:Nat} {news:List Value} (hs:Src P ei.size t v2 YE news w) (hlim:Bf+YE<=1073741824) (hpos:cap=0->0<YE) (hcm:cap<=maxLen):
 ∃ g' cap' cur' e' w',(Builtin.append_ #[t,t] ty #[.slice oa Bf cap,v2]).run P w= .ok (.slice (some ⟨g',0,none⟩) (Bf+YE) cap') w'/\w'.heap[g']? =some (.cells cur' e' (0,0))/\cur'.size=cap'*ei.size/\
   cur'.toList.take ((Bf+YE)*ei.size)=olds++news/\Bf+YE<=cap'/\cap'<=maxLen/\w'.os=w.os/\w'.tape=w.tape/\w'.output=w.output/\w.heap.size<=w'.heap.size/\
   ((∃cur e0,oa=some ⟨g',0,none⟩/\w.heap[g']? =some (.cells cur e0 (0,0))/\cap≠0/\∀b,b≠g'->w'.heap[b]? =w.heap[b]?)\/(g'=w.heap.size/\g'<w'.heap.size/\∀b,b<w.heap.size->w'.heap[b]? =w.heap[b]?)):=by
 obtain ⟨inf,z,hi,hsz,hby,hz,hzs,_⟩:=hei.info;have hsum:(olds++news).length=(Bf+YE)*ei.size:=by rw[yI,hol,hs.newsLen,yC]
 by_cases hroom:Bf+YE<=cap
 . rcases hrow with h0 | ⟨g,cur,e0,rfl,hg,hcs,htk⟩
   . have:=hpos h0;omega
   have hfit:∀j,j<news.length->Bf*ei.size+j<cur.size:=λj hj=>by
    have:=zR ei.size hroom;rw[yC,←hs.newsLen] at this;omega
   have hr:=run_append_room_src (P:=P) w t t ty e inf hu hi g 0 Bf cap v2 YE news (by rw[hsz];exact hs) hroom (λj hj=>by
    rw[hsz];simp[World.cell?,hg,hfit j hj]) (λj hj=>by simp[World.frozen?,hg])
   rw[hsz,yR] at hr;refine ⟨g,cap,putCells cur (Bf*ei.size) news,e0,_,hr,W0 g news _ w hg,by rw[Wk];exact hcs, ?_,hroom,hcm, ?_, ?_, ?_,by rw[Bk];exact zX _,.inl ⟨cur,e0,rfl,hg, ?_,λb hb=>Vm g hb news _ w⟩⟩
   . have hfit2:Bf*ei.size+news.length<=cur.size:=by
      have:=zR ei.size hroom;rw[yC,←hs.newsLen] at this;omega
     rw[Am hfit2,htk,←hsum,yW]
   . exact (below_setCells' g news _ w).1
   . exact (below_setCells' g news _ w).2.1
   . exact (below_setCells' g news _ w).2.2
   intro e;have:=hpos e;omega
 have hgs:cap<Bf+YE:=by omega
 have hfirst:(Builtin.firstCells inf.size Bf (.slice oa Bf cap)).run P w.drew= .ok olds.toArray w.drew:=by
  cases oa with
  | none=>
    have h0:=hnone rfl;subst h0;have:olds= []:=zW (by rw[hol];simp);subst this;exact run_firstCells_none w.drew inf.size 0 0 cap
  | some ad=>exact run_firstCells_some w.drew inf.size Bf ad Bf cap olds (by rw[hsz];exact hol) (by simpa using hold ad rfl)
 have hbytes:((Bf+YE)+(Bf+YE) / 4+192)*inf.bytes<=281474976710656:=yM (Nat.mul_le_mul (show _<=1342177472 by omega) hby) (by decide);have hr:=run_append_grow_src (P:=P) w t t ty e inf z hu hi hz oa Bf cap olds hfirst v2 YE news (by rw[hsz];exact hs) hgs (by omega) (growslice_fits_wide hgs hbytes);have hge:=grownCap_ge w (Bf+YE) cap e;have hcap':=grownCap_le_maxLen w (Bf+YE) cap e (by unfold maxLen;omega);refine ⟨w.heap.size,_,_,e,_,hr,heap_alloc_new w.drew _, ?_, ?_,hge,hcap',rfl,rfl,rfl,by simp,.inr ⟨rfl,by simp,λb hb=>heap_alloc_old w.drew _ hb⟩⟩
 . simp only[Array.size_append,List.size_toArray,size_zeroCells,hzs,hsum,←yC]
   congr 1
   omega
 simp only[Array.toList_append];rw[←hsum,yD (by simp),yE (by simp)]
where
 below_setCells' (g:Nat):∀(vs:List Value) (o:Nat) (w:World),(w.setCells g o vs).os=w.os/\(w.setCells g o vs).tape=w.tape/\(w.setCells g o vs).output=w.output
  | [],_,_=>⟨rfl,rfl,rfl⟩
  | v::vs,o,w=>by
    have:=below_setCells' g vs (o+1) (w.setCell ⟨g,o,none⟩ v);exact this
end
end
section
open Go.RowKit
section
variable {P:Program} {A:Nat->List AV->AV->Prop} {T:TakeT} {N:Nat} {w0:Base} {F0:Nat->Prop} {J:Inj} {a:Act} {w:World} {s:St}
theorem Ni {w:World} {g:Nat} {cur:Array Value} {e:TypeId} (hg:w.heap[g]? =some (.cells cur e (0,0))) (m:Nat):∀(j:Nat) (u:Value),(cur.toList.take m)[j]? =some u->w.cell? (Addr.add ⟨g,0,none⟩ j)=some u:=by
 intro j u hj;rw[List.getElem?_take] at hj;split at hj
 . rw[yJ] at hj;simp[World.cell?,hg,hj,Addr.add_lit]
 cases hj
theorem Qiv (h:Rel N w0 F0 J a w s) {t1:Tok} {n1 n:Nat} {l1:List (List PV)} {v1:Value} {g1:List Nat} {d1:Bool} (hc:CR J w v1 (.slc t1 n1 l1)) (hd:OH t1=some (g1,d1)) (hn:nOk t1 n1 n=true):
 ∃ (oa:Option Addr) (cap:Nat) (olds:List Value) (L:List Nat),v1= .slice oa l1.length cap/\olds.length=l1.length*n/\(∀ad,oa=some ad->∀(j:Nat) (u:Value),olds[j]? =some u->w.cell? (ad.add j)=some u)/\(oa=none->l1.length=0)/\
   (cap=0\/∃g cur e0,oa=some ⟨g,0,none⟩/\w.heap[g]? =some (.cells cur e0 (0,0))/\cur.size=cap*n/\cur.toList.take (l1.length*n)=olds)/\l1.length<=cap/\cap<=maxLen/\
   (∀g,oa=some ⟨g,0,none⟩->cap≠0->(∃k,k∈g1/\g∈J.L k)/\g∉L)/\
   VR (λb=>J.F b\/b∈L) w n olds l1/\(d1=true->OR w n L olds l1)/\L.Nodup/\∀b,b∈L->∃k,k∈g1/\b∈J.L k:=by
 cases t1 with
 | sh=>cases hd
 | vw k=>cases hd
 | put=>cases hd
 | emp=>
   obtain ⟨rfl,rfl⟩: []=g1/\true=d1:=by simpa [OH] using hd
   obtain ⟨rfl,oa,rfl⟩:=hc;exact ⟨oa,0, [], [],rfl,by simp,by simp,λ_=>rfl,.inl rfl,zX _,zZ _,λ_ _ h=>absurd rfl h,.nil n,λ_=> .nil n,by simp,by simp⟩
 | own d k=>
   obtain ⟨rfl,rfl⟩: [k]=g1/\d=d1:=by simpa [OH] using hd
   obtain rfl:n1=n:=by simpa [nOk] using hn
   have hnd:=h.nd k;cases d with
   | true=>
     obtain ⟨L0,hc,hnd,hsub,_⟩:=hc;generalize hp:PV.slc n1 l1=p at hc;cases hc with
     | int | bool | str | any=>cases hp
     | emp oa n'=>
       cases hp
       exact ⟨oa,0, [], [],rfl,by simp,by simp,λ_=>rfl,.inl rfl,zX _,zZ _,λ_ _ h=>absurd rfl h,.nil n1,λ_=> .nil n1,by simp,by simp⟩
     | @slc g cap n' cur e L l hg hs hr h1 h2=>
       cases hp
       have hnd:=zT.1 hnd;refine ⟨some ⟨g,0,none⟩,cap,_,L,rfl,hr.length,λad e=>(by cases e;exact Ni hg _),(λe=>by cases e),.inr ⟨g,cur,_,rfl,hg,hs,rfl⟩,h1,h2.1,λg' e _=> ?_,hr.vr λb hb=> .inr hb,λ_=>hr,hnd.2,λb hb=>⟨k,by simp,hsub b (zJ _ hb)⟩⟩;cases e
       exact ⟨⟨k,by simp,hsub _ zL⟩,hnd.1⟩
   | false=>
     have hc:OwnTop J.F (J.L k) w v1 n1 l1:=hc;rcases hc with ⟨rfl,oa,rfl⟩ | ⟨g,cap,cur,e,hL,rfl,hg,hs,hr,h1,h2⟩
     . exact ⟨oa,0, [], [],rfl,by simp,by simp,λ_=>rfl,.inl rfl,zX _,zZ _,λ_ _ h=>absurd rfl h,.nil n1,(λh=>by cases h),by simp,by simp⟩
     refine ⟨some ⟨g,0,none⟩,cap,_, [],rfl,hr.length,λad e=>(by cases e;exact Ni hg _),(λe=>by cases e),.inr ⟨g,cur,e,rfl,hg,hs,rfl⟩,h1,h2.1,λg' e _=> ?_,hr.keep λb hb=>⟨.inl hb,rfl⟩,(λe=>by cases e),by simp,by simp⟩;cases e
     exact ⟨⟨k,by simp,by rw[hL];simp⟩,by simp⟩
theorem VC.ones {X:Nat->Prop} {w:World}:∀{vs:List Value} {ps:List PV},VC X w vs ps->∀u,u∈vs->u.oneCell'=true
 | _,_,.nil,u,hu=>by simp at hu
 | _, _,.cons h1 h2,u,hu=>by
   rcases zN.1 hu with rfl | hu
   . cases h1 with
     | any _ h2=>exact h2
     | _=>rfl
   exact VC.ones h2 u hu
theorem VR.ones {X:Nat->Prop} {w:World}:∀{n:Nat} {cs:List Value} {l:List (List PV)},VR X w n cs l->∀u,u∈cs->u.oneCell'=true
 | _,_,_,.nil _,u,hu=>by simp at hu
 | _,_,_,.cons h1 h2 h3,u,hu=>(zK.1 hu).elim (VC.ones h1 u) (VR.ones h3 u)
theorem OI {X:Nat->Prop} {n:Nat} {l:List (List PV)} {v:Value} {t e:TypeId} (hu:P.underlying t=some (.slice e)) (h:VV X w v (.slc n l)):∃news,Src P n t v l.length news w/\VR X w n news l:=by
 generalize hp:PV.slc n l=p at h;cases h with
 | int | bool | str | any=>cases hp
 | @emp oa cap n' hcap=>
   cases hp
   cases oa with
   | none=>exact ⟨[],Src.ofNil w hu cap,.nil n⟩
   | some ad=>exact ⟨[],Src.ofSlice w hu ad 0 cap [] (by simp) (by simp) (by simp),.nil n⟩
 | slc hb hc hr h1 h2=>
   cases hp
   exact ⟨_,Src.ofSlice w hu _ _ _ _ hr.length (λj u hj=>by rw[Addr.add_lit];exact hc j u hj) hr.ones,hr⟩
theorem Qkx (h:Rel N w0 F0 J a w s) {t e:TypeId} (hu:P.underlying t=some (.slice e)) {fl:Bool} {t2:Tok} {n2 n:Nat} {l2:List (List PV)} {v2:Value} (hc:CR J w v2 (.slc t2 n2 l2)) (hn:nOk t2 n2 n=true) (hfl:fl=true->Gt l2):
 ∃ (news:List Value) (L:List Nat),Src P n t v2 l2.length news w/\((Px fl t2).2=true->OR w n L news l2)/\L.Nodup/\(∀b,b∈L->∃k,k∈(Px fl t2).1/\b∈J.L k)/\
   ((fl=true->∀w',OR w' n [] news l2)/\(fl=true->L= []))/\(fl=false->VR (λb=>J.F b\/∃k,k∈(Px fl t2).1/\b∈J.L k) w n news l2):=by
 have hflat:∀X,fl=true->VV X w v2 (.slc n l2)->∃news,Src P n t v2 l2.length news w/\∀w',OR w' n [] news l2:=λX hf hv=>by
  obtain ⟨news,h1,h2⟩:=OI hu hv;exact ⟨news,h1,λw'=>h2.orr (hfl hf)⟩
 cases t2 with
 | emp=>
   obtain ⟨rfl,oa,rfl⟩:=hc
   have hs:Src P n t (.slice oa 0 0) 0 [] w:=by
    cases oa with
    | none=>exact Src.ofNil w hu 0
    | some ad=>exact Src.ofSlice w hu ad 0 0 [] (by simp) (by simp) (by simp)
   exact ⟨[], [],hs,λ_=> .nil n,by simp,by simp,⟨λ_ _=> .nil n,λ_=>rfl⟩,λ_=> .nil n⟩
 | sh =>
   obtain rfl:n2=n:=by simpa [nOk] using hn
   cases fl with
   | true=>
     obtain ⟨news,h1,h2⟩:=hflat _ rfl hc;exact ⟨news, [],h1,λ_=>h2 w,by simp,by simp,⟨λ_=>h2,λ_=>rfl⟩,λh=>by cases h⟩
   | false=>
     obtain ⟨news,h1,h2⟩:=OI (P:=P) hu (X:=J.F) hc;exact ⟨news, [],h1,(λh=>by simp[Px] at h),by simp,by simp,⟨(λh=>by cases h),λ_=>rfl⟩,λ_=>h2.keep λb hb=>⟨.inl hb,rfl⟩⟩
 | put=>exact hc.elim
 | vw k=>
   obtain rfl:n2=n:=by simpa [nOk] using hn
   cases fl with
   | true=>
     obtain ⟨news,h1,h2⟩:=hflat _ rfl hc;exact ⟨news, [],h1,λ_=>h2 w,by simp,by simp,⟨λ_=>h2,λ_=>rfl⟩,λh=>by cases h⟩
   | false=>
     obtain ⟨news,h1,h2⟩:=OI (P:=P) hu (X:=J.X (.vw k)) hc;exact ⟨news, [],h1,(λh=>by simp[Px] at h),by simp,by simp,⟨(λh=>by cases h),λ_=>rfl⟩,λ_=>h2.keep λb hb=>⟨hb.elim (λh=> .inr ⟨k,by simp[Px],h⟩) .inl,rfl⟩⟩
 | own d k =>
   obtain rfl:n2=n:=by simpa [nOk] using hn
   cases fl with
   | true=>
     have:∃X,VV X w v2 (.slc n2 l2):=by
      cases d with
      | true=>exact ⟨_,OwnDeep.vv (X:=λ_=>True) hc λ_ _=>⟨trivial,rfl⟩⟩
      | false=>exact ⟨_,OwnTop.vv (X:=λ_=>True) hc (λ_ _=>⟨trivial,rfl⟩) λ_ _=>⟨trivial,rfl⟩⟩
     obtain ⟨X,hX⟩:=this;obtain ⟨news,h1,h2⟩:=hflat _ rfl hX;exact ⟨news, [],h1,λ_=>h2 w,by simp,by simp,⟨λ_=>h2,λ_=>rfl⟩,λh=>by cases h⟩
   | false =>
     cases d with
     | false=>
       obtain ⟨news,h1,h2⟩:=OI (P:=P) hu (X:=λb=>J.F b\/b∈J.L k) (OwnTop.vv hc (λ_ hb=>⟨.inl hb,rfl⟩) λ_ hb=>⟨.inr hb,rfl⟩);exact ⟨news, [],h1,(λh=>by simp[Px] at h),by simp,by simp,⟨(λh=>by cases h),λ_=>rfl⟩,λ_=>h2.keep λb hb=>⟨hb.imp id λh=>⟨k,by simp[Px],h⟩,rfl⟩⟩
     | true=>
       have hnd:=h.nd k;obtain ⟨L0,hc,hnd,hsub,_⟩:=hc;generalize hp:PV.slc n2 l2=p at hc;cases hc with
       | int | bool | str | any=>cases hp
       | emp oa n'=>
         cases hp
         have hs:Src P n2 t (.slice oa 0 0) 0 [] w:=by
          cases oa with
          | none=>exact Src.ofNil w hu 0
          | some ad=>exact Src.ofSlice w hu ad 0 0 [] (by simp) (by simp) (by simp)
         exact ⟨[], [],hs,λ_=> .nil n2,by simp,by simp,⟨(λh=>by cases h),λ_=>rfl⟩,λ_=> .nil n2⟩
       | @slc g cap n' cur e L l hg hs hr h1 h2=>
         cases hp
         have hnd:=zT.1 hnd;have hvr:VR (λb=>J.F b\/∃k',k'∈ [k]/\b∈J.L k') w n2 (cur.toList.take (l2.length*n2)) l2:=hr.vr λb hb=> .inr ⟨k,by simp,hsub b (zJ _ hb)⟩
         refine ⟨_,L,Src.ofSlice w hu ⟨g,0,none⟩ l2.length cap _ hr.length (Ni hg _) hvr.ones,λ_=>hr,hnd.2,λb hb=>⟨k,by simp[Px],hsub b (zJ _ hb)⟩,⟨(λh=>by cases h),(λh=>by cases h)⟩,λ_=> ?_⟩;simpa [Px] using hvr
theorem LN {t e ty:TypeId} {ei:TI} (hu:P.underlying t=some (.slice e)) (hei:TiOk P e ei) {oa:Option Addr} {v2:Value} (hs:Src P ei.size t v2 0 [] w):
 (Builtin.append_ #[t,t] ty #[.slice oa 0 0,v2]).run P w= .ok (.slice oa 0 0) w:=by
 obtain ⟨inf,z,hi,hsz,hby,hz,hzs,_⟩:=hei.info;have h1:=hs.len w;have h2:=hs.cells;rw[←hsz] at h2;cases oa<;>simp[Builtin.append_,run_underlying hu,sizeOf,Hk hi,h1,h2,storeCells]
theorem S1 {α:Type} {k:Nat}:∀{l r:List (Nat×α)},get (l++r) k=(match get l k with | some x=>some x | none=>get r k)
 | [],r=>rfl
 | (x,y)::l,r=>by
   simp only[List.cons_append,get];split
   . rfl
   exact S1
set_option maxHeartbeats 2000000 in
theorem Qfa {tt : List (Nat×TI)} (htt:Gs P tt=true) {orc:Orc} {o:Oper} {avs:List AV} {r:Res} {obs:List Ob} (h:Qiu tt orc o.dst o.op avs=some (r,obs)) (hob:AllOb A T obs) (hdst:∀d,o.dst=some d->d<N)
 (hrel:Rel N w0 F0 J a w s) (hops:All2 (λx v=>UR s x=some v) o.op.operands.toList avs) {K:Act->World->Prop} {Q:Exit->Act->World->Prop}
 (hK:∀J' a' w',Rel N w0 F0 J' a' w' (s.step o.dst r)->K a' w'):o.wp P a w K Q:=by
 have hv:=E9 hrel hops;generalize ho:o.op=op at h hv;generalize hd:o.dst=dst at h;unfold Qiu at h;split at h
 . rename_i args tys t1 n1 l1 t2 n2 l2;split at h
   rotate_left
   . cases h
   rename_i t t' htys;obtain rfl:tys= #[t,t']:=yS (by simpa using htys);split at h
   . rename_i d e n0 z0 q0 g1 d1 hg hdest;split at h
     . rename_i ei hge;generalize hS:Px (Sk orc) t2=S2 at h;cases hc:(zV t t'&&yQ 0 ei.size&&nOk t1 n1 ei.size&&nOk t2 n2 ei.size&& !(Pv (64*d) (g1++S2.1))&&G4 (g1++S2.1)) with
       | false=>rw[hc] at h;cases h
       | true =>
         rw[hc] at h;simp only[cond_true,zM,zO] at h;obtain ⟨rfl,rfl⟩:=h;simp only[zF,yH,xA,zS] at hc;obtain ⟨⟨⟨⟨⟨rfl,c2⟩,c3⟩,c4⟩,c5⟩,c6⟩:=hc;have hnk:64*d∉g1++S2.1:=λhm=>by rw[Cv.2 hm] at c5;cases c5
         have hnd:=Lg.1 c6;obtain ⟨hlim,hob2⟩:=AllOb.cons hob;have hlim:l1.length+l2.length<=1073741824:=hlim;have hfl:Sk orc=true->Gt l2:=λhf=>by rw[hf] at hob2;exact hob2
         have hu:=(Zp htt hg).sli;have hei:=Zp htt hge;have hv0:All2 (λx v=>AR J w (a.eval x) v) args.toList [.one (.slc t1 n1 l1),.one (.slc t2 n2 l2)]:=by simpa [Op.operands,Call.operands] using hv
         obtain ⟨px,py,hargs⟩:∃px py,args= #[px,py]:=by
          have hl:=hv0.length;obtain ⟨l⟩:=args
          match l,hl with
          | [px,py],_=>exact ⟨px,py,rfl⟩
         subst hargs;have hv':All2 (λx v=>AR J w (a.eval x) v) [px,py] [.one (.slc t1 n1 l1),.one (.slc t2 n2 l2)]:=hv0;cases hv' with
         | cons h1 h2=>
           cases h2 with
           | cons h2 _=>
             obtain ⟨oa,cap,olds,L,e1,hol,hread,hnone,hrow,hlc,hcm,htop,hvr1,hor1,hnd1,hL1⟩:=Qiv hrel h1 hdest c3;obtain ⟨news,L2,hsrc,hor2,hnd2,hL2,⟨hflat1,hflat2⟩,hvr2⟩:=Qkx (P:=P) hrel hu h2 c4 hfl;rw[hS] at hor2 hL2 hvr2
             have hexec:∀u w',(Builtin.append_ #[t,t] o.type #[.slice oa l1.length cap,a.eval py]).run P w= .ok u w'->(execOp a.eval o).run P w= .ok (.value u) w':=λu w' hr=>by
              simp only[execOp,ho,resolve,invoke,builtin,Sem.run_bind,Sem.run_pure,Result.andThen_ok,List.map_toArray,yL,List.map_nil,e1,hr]
             have hG:∀k,k∈g1++S2.1->k≠64*d:=λk hk e=>hnk (e▸hk)
             have hgone:∀k,k∉g1++S2.1->k≠64*d->get ((64*d,none)::(Wa g1++(bif d1&&S2.2 then Wa S2.1 else Yi S2.1))) k=none:=λk hk hn=>by
              rw[Uz hn,S1,Bl,if_neg λhm=>hk (zG _ hm)];cases d1&&S2.2
              . simp only[cond_false];rw[Vr,if_neg λhm=>hk (zE _ hm)]
              simp only[cond_true];rw[Bl,if_neg λhm=>hk (zE _ hm)]
             have hdead:∀k,k∈g1->get ((64*d,none)::(Wa g1++(bif d1&&S2.2 then Wa S2.1 else Yi S2.1))) k=some none:=λk hk=>by
              rw[Uz (hG k (zG _ hk)),S1,Bl,if_pos hk]
             have hsrck:∀k,k∈S2.1->get ((64*d,none)::(Wa g1++(bif d1&&S2.2 then Wa S2.1 else Yi S2.1))) k=some (if (d1&&S2.2)=true then none else some .sh):=λk hk=>by
              have hng:k∉g1:=λhm=>(zH.1 hnd).2.2 k hm k hk rfl
              rw[Uz (hG k (zE _ hk)),S1,Bl,if_neg hng];cases d1&&S2.2
              . simp only[cond_false];rw[Vr,if_pos hk];simp
              simp only[cond_true];rw[Bl,if_pos hk];simp
             by_cases hempty:cap=0/\l2.length=0
             ·obtain ⟨hc0,hl0⟩:=hempty;have hl1:l1= []:=zW (by omega);have hl2:l2= []:=zW hl0;subst hl1 hl2 hc0;have hnews:news= []:=zW (by rw[hsrc.newsLen];simp);subst hnews;refine Vu (hexec _ _ (LN hu hei hsrc)) ?_;rw[hd] at hK⊢
              refine hK ⟨λb=>J.F b\/∃k,k∈g1++S2.1/\b∈J.L k,λk=>if k=64*d then [] else if k∈g1++S2.1 then [] else J.L k,J.B⟩ _ _ (hrel.grab (some d) (λd' e=>by cases e;exact hdst d hd) _ _ (64*d) (g1++S2.1) rfl rfl hrel.below (zX _) rfl (λk hk=>if_neg hk)
               (λb hb=> .inl hb) (λb hb=>hb.imp id λhk=>⟨hk,by simp⟩) hgone (λ_=>by simp[get]) (λk hk=> ?_) (λb hb _=>rfl) (by simp) (λb hb=>by simp at hb) (λ_=> ?_))
              . rcases zK.1 hk with hk' | hk'
                . exact .inl (hdead k hk')
                rw[hsrck k hk'];by_cases hD:(d1&&S2.2)=true
                . exact .inl (by simp[hD])
                exact .inr (.inl ⟨by simp[hD],λb hb=>⟨.inr ⟨k,hk,hb⟩,rfl⟩⟩)
              show CR _ w (.slice oa 0 0) (.slc (.own (d1&&S2.2) (64*d)) ei.size []);cases d1&&S2.2
              . exact .inl ⟨rfl,oa,rfl⟩
              show OwnDeep (if 64*d=64*d then [] else _) w _ _ _;rw[if_pos rfl];exact ⟨[],.emp oa _,zQ,λb hb=>hb,.inl rfl⟩
             obtain ⟨g',cap',cur',e',w',hrun,hg',hcs',htk',hlc',hcm',hos,htape,hout,hsize,hwhere⟩:=AF (ty:=o.type) hu hei c2 hol hread hnone hrow hlc hsrc hlim (λe=>by omega) hcm;refine Vu (hexec _ _ hrun) ?_;rw[hd] at hK⊢
             have hw1:(∃k,k∈g1/\g'∈J.L k)/\g'∉L\/w.heap.size<=g':=by
              rcases hwhere with ⟨cur,e0,hoa,_,hc0,_⟩ | ⟨hgs,_⟩
              . exact .inl (htop g' hoa hc0)
              exact .inr (by omega)
             have hw2:∀b,b<w.heap.size->b≠g'->w'.heap[b]? =w.heap[b]? :=by
              intro b hb hne;rcases hwhere with ⟨cur,e0,_,_,_,hsame⟩ | ⟨_,_,hsame⟩
              . exact hsame b hne
              exact hsame b hb
             have hglt:g'<w'.heap.size:=Q7 hg'
             have hgF:¬J.F g':=λhF=>by
              rcases hw1 with ⟨⟨k,_,hm⟩,_⟩ | hge
              . exact (hrel.lo k g' hm).2.2 hF
              have:=(hrel.fl g' hF).1;omega
             have hgS:∀k,k∉g1->g'∉J.L k:=λk hk hm=>by
              rcases hw1 with ⟨⟨k',hk',hm'⟩,_⟩ | hge
              . exact hk (hrel.dj k k' g' hm hm'▸hk')
              have:=(hrel.lo k g' hm).2.1;omega
             have hgL:g'∉L:=by
              rcases hw1 with ⟨_,h⟩ | hge
              . exact h
              intro hm;obtain ⟨k,_,hm'⟩:=hL1 g' hm;have:=(hrel.lo k g' hm').2.1;omega
             have hgL2:g'∉L2:=λhm=>by
              obtain ⟨k,hk,hm'⟩:=hL2 g' hm;exact hgS k (λhk'=>(zH.1 hnd).2.2 k hk' k hk rfl) hm'
             have hbelow:w0.Keeps w':=by
              refine hrel.below.step hos htape hout hsize λb hb hnl=> ?_
              refine hw2 b hb λe=> ?_
              rcases hw1 with ⟨⟨k,_,hm⟩,_⟩ | hge
              . exact hnl (e▸(hrel.lo k g' hm).1)
              omega
             have hlt1:∀b,b∈L->b<w.heap.size:=λb hb=>by obtain ⟨k,_,hm⟩:=hL1 b hb;exact (hrel.lo k b hm).2.1
             have hlt2:∀b,b∈L2->b<w.heap.size:=λb hb=>by obtain ⟨k,_,hm⟩:=hL2 b hb;exact (hrel.lo k b hm).2.1
             have hlen:(l1++l2).length=l1.length+l2.length:=yI;by_cases hD:(d1&&S2.2)=true
             . have hD':=hD;simp only[zF] at hD'
               have hndA:(g'::(L++L2)).Nodup:=by
                refine zT.2 ⟨λhm=>(zK.1 hm).elim hgL hgL2,zH.2 ⟨hnd1,hnd2,λb hb b' hb' e=> ?_⟩⟩;subst e;obtain ⟨k,hk,hm⟩:=hL1 b hb;obtain ⟨k',hk',hm'⟩:=hL2 b hb';have:=hrel.dj k k' b hm hm';subst this;exact (zH.1 hnd).2.2 k hk k hk' rfl
               refine hK ⟨J.F,λk=>if k=64*d then g'::(L++L2) else if k∈g1++S2.1 then [] else J.L k,J.B⟩ _ _ (hrel.grab (some d) (λd' e=>by cases e;exact hdst d hd) _ _ (64*d) (g1++S2.1) rfl rfl hbelow hsize rfl (λk hk=>if_neg hk)
                (λb hb=>hb) (λb hb=> .inl hb) hgone (λ_=>by simp[get]) (λk hk=> ?_) (λb hb hn=>hw2 b hb λe=> ?_) ?_ (λb hb=> ?_) (λ_=> ?_))
               . rcases zK.1 hk with hk' | hk'
                 . exact .inl (hdead k hk')
                 exact .inl (by rw[hsrck k hk',if_pos hD])
               . rcases hw1 with ⟨⟨k,hk,hm⟩,_⟩ | hge
                 . exact hn k (zG _ hk) (e▸hm)
                 omega
               . simp only[if_true];exact hndA
               . simp only[if_true,zN,zK] at hb;rcases hb with rfl | hb | hb
                 . refine ⟨hglt, ?_⟩;rcases hw1 with ⟨⟨k,hk,hm⟩,_⟩ | hge
                   . exact .inr ⟨k,zG _ hk,hm⟩
                   exact .inl hge
                 . obtain ⟨k,hk,hm⟩:=hL1 b hb;exact ⟨by have:=hlt1 b hb;omega,.inr ⟨k,zG _ hk,hm⟩⟩
                 obtain ⟨k,hk,hm⟩:=hL2 b hb;exact ⟨by have:=hlt2 b hb;omega,.inr ⟨k,zE _ hk,hm⟩⟩
               show CR _ w' _ (.slc (.own (d1&&S2.2) (64*d)) ei.size (l1++l2));rw[hD];show OwnDeep (if 64*d=64*d then _ else _) w' _ _ _;rw[if_pos rfl,←hlen];refine .of (.slc hg' hcs' ?_ (by omega) ⟨hcm',by omega⟩) hndA;rw[hlen,htk'];exact OR.append ((hor2 hD'.2).keep λb hb=>hw2 b (hlt2 b hb) λe=>hgL2 (e▸hb)) ((hor1 hD'.1).keep λb hb=>hw2 b (hlt1 b hb) λe=>hgL (e▸hb))
             refine hK ⟨λb=>J.F b\/((∃k,k∈g1++S2.1/\b∈J.L k)/\b≠g'),λk=>if k=64*d then [g'] else if k∈g1++S2.1 then [] else J.L k,J.B⟩ _ _ (hrel.grab (some d) (λd' e=>by cases e;exact hdst d hd) _ _ (64*d) (g1++S2.1) rfl rfl hbelow hsize rfl (λk hk=>if_neg hk)
              (λb hb=> .inl hb) (λb hb=>hb.imp id λhk=>⟨hk.1,by simpa using hk.2⟩) hgone (λ_=>by simp[get]) (λk hk=> ?_) (λb hb hn=>hw2 b hb λe=> ?_) (by simp) (λb hb=> ?_) (λ_=> ?_))
             . rcases zK.1 hk with hk' | hk'
               . exact .inl (hdead k hk')
               have hng:k∉g1:=λhm=>(zH.1 hnd).2.2 k hm k hk' rfl
               refine .inr (.inl ⟨by rw[hsrck k hk',if_neg hD],λb hb=> ?_⟩);have hne:b≠g':=λe=>hgS k hng (e▸hb)
               exact ⟨.inr ⟨⟨k,hk,hb⟩,hne⟩,hw2 b (hrel.lo k b hb).2.1 hne⟩
             . rcases hw1 with ⟨⟨k,hk,hm⟩,_⟩ | hge
               . exact hn k (zG _ hk) (e▸hm)
               omega
             . simp only[if_true,yF] at hb;subst hb;refine ⟨hglt, ?_⟩;rcases hw1 with ⟨⟨k,hk,hm⟩,_⟩ | hge
               . exact .inr ⟨k,zG _ hk,hm⟩
               exact .inl hge
             show CR _ w' _ (.slc (.own (d1&&S2.2) (64*d)) ei.size (l1++l2));rw[show (d1&&S2.2)=false by simpa using hD];refine .inr ⟨g',cap',cur',e',by simp,by rw[hlen],hg',hcs', ?_,by omega,hcm',by omega⟩;rw[hlen,htk']
             have hk1:VR (λb=>J.F b\/((∃k,k∈g1++S2.1/\b∈J.L k)/\b≠g')) w' ei.size olds l1:=hvr1.keep λb hb=>by
              rcases hb with hb | hb
              . exact ⟨.inl hb,hw2 b (hrel.fl b hb).1 λe=>hgF (e▸hb)⟩
              obtain ⟨k,hk,hm⟩:=hL1 b hb;have hne:b≠g':=λe=>hgL (e▸hb)
              exact ⟨.inr ⟨⟨k,zG _ hk,hm⟩,hne⟩,hw2 b (hlt1 b hb) hne⟩
             refine VR.append ?_ hk1;cases hf:Sk orc with
             | true=>exact (hflat1 hf w').vr λb hb=>by simp at hb
             | false=>
               refine (hvr2 hf).keep λb hb=> ?_
               rcases hb with hb | ⟨k,hk,hm⟩
               . exact ⟨.inl hb,hw2 b (hrel.fl b hb).1 λe=>hgF (e▸hb)⟩
               have hng:k∉g1:=λhm=>(zH.1 hnd).2.2 k hm k hk rfl
               have hne:b≠g':=λe=>hgS k hng (e▸hm)
               exact ⟨.inr ⟨⟨k,zE _ hk,hm⟩,hne⟩,hw2 b (hrel.lo k b hm).2.1 hne⟩
     cases h
   cases h
 cases h
end
end
section
open Go.RowKit
def YX (F:Nat->Prop):Inj:=⟨F,λ_=> [],λ_=>0⟩
def Qiw (F:Nat->Prop) (w w':World) (L:Nat->List Nat):Inj:=⟨λb=>F b\/(w.heap.size<=b/\b<w'.heap.size/\∀k,b∉L k),L,λ_=>0⟩
def Qix (F:Nat->Prop) (w:World) (r:AV) (e:Ending) (w':World):Prop:=
 ∃v L,e= .returned v/\Below w.heap.size w w'/\(∀k,(L k).Nodup)/\(∀k b,b∈L k->w.heap.size<=b/\b<w'.heap.size)/\(∀k k' b,b∈L k->b∈L k'->k=k')/\AR (Qiw F w w' L) w' v r
def It (P : Program) (f : Nat) : Prop := (P.funcs[f]?).map (fun fn => (fn.name == "runtime.NumGoroutine", fn.body.isNone)) = some (false, false)
class Good (P:Program) (w:World):Prop where
 tab : ∀ g, P.globalNamed "internal/strconv.uint64pow10" = some g → Lib.TabIs P w "internal/strconv.uint64pow10" .u64 Lib.pow10Tab
 err : ∀ g, P.globalNamed "strconv.ErrSyntax" = some g → ∃ tp p, w.var? P "strconv.ErrSyntax" = some #[.iface tp p]
theorem Good.none {P : Program} (h : P.globalNamed "internal/strconv.uint64pow10" = none) (w : World) (h2 : P.globalNamed "strconv.ErrSyntax" = Option.none := by kernel_rfl) : Good P w := ⟨fun g hg => (by rw [h] at hg; cases hg), fun g hg => (by rw [h2] at hg; cases hg)⟩
theorem Good.one {P : Program} {w : World} (h : Lib.TabIs P w "internal/strconv.uint64pow10" .u64 Lib.pow10Tab) (h2 : P.globalNamed "strconv.ErrSyntax" = Option.none := by kernel_rfl) : Good P w := ⟨fun _ _ => h, fun g hg => (by rw [h2] at hg; cases hg)⟩
theorem Good.keep {P:Program} {w w':World} (h:Good P w) (hb:Below w.heap.size w w'):Good P w':=⟨λg hg=>Go.Joins.tab_stays hg (h.tab g hg) hb (Nat.le_refl _),λg hg=>by
 obtain ⟨tp,p,hv⟩:=h.err g hg;exact ⟨tp,p,Go.Joins.var_stays hg hv hb (zX _)⟩⟩
def ACalls (P:Program) (f:Nat) (args:List AV) (r:AV):Prop:=
 It P f/\∀(w:World),Good P w->∀(F:Nat->Prop) (vals:List Value),(∀b,F b->b<w.heap.size)->All2 (AR (YX F) w) vals args->Calls P f vals.toArray w (Qix F w r)
class GoodAt (P:Program) (b:Base):Prop where
 at_:∀w,b.Keeps w->Good P w
theorem Base.Keeps.below {b:Base} {w:World} (h:b.Keeps w) (hx:∀k,¬b.X k):Below b.w.heap.size b.w w:=⟨h.os,h.tape,h.output,h.size,λk hk=>h.block k hk (hx k)⟩
theorem GoodAt.of {P:Program} {w:World} (h:Good P w):GoodAt P ⟨w,λ_=>False,none⟩:=⟨λ_ hk=>h.keep (hk.below λ_ h=>h)⟩
def Zz (P:Program) (w0:Base) (f:Nat) (args:List AV) (r:AV):Prop:=
 It P f/\∀(w:World),w0.Keeps w->∀(F:Nat->Prop) (vals:List Value),(∀b,F b->b<w.heap.size)->All2 (AR (YX F) w) vals args->Calls P f vals.toArray w (Qix F w r)
theorem ACalls.at {P:Program} {w0:Base} [hg:GoodAt P w0] {f:Nat} {args:List AV} {r:AV} (h:ACalls P f args r):Zz P w0 f args r:=⟨h.1,λw hb=>h.2 w (hg.at_ w hb)⟩
def Qls (F:Nat->Prop) (L:List Nat) (w:World) (n:Nat) (turn:Bool) (l':List (List PV)) (e:Ending) (w':World):Prop:=
 ∃ u,e= .returned u/\(∀m,m<=w.heap.size->(∀b,b∈L->m<=b)->Below m w w')/\(∀b,b<w.heap.size->b∉L->w'.heap[b]? =w.heap[b]?)/\
   match turn with
   | true=>u= .tuple #[]/\∀v2 l2,OwnTop F L w v2 n l2->OwnTop F L w' v2 n (JY l2 l'.flatten)
   | false=>∃L':List Nat,L'.Nodup/\(∀b,b∈L'->b<w'.heap.size/\(w.heap.size<=b\/b∈L))/\OwnTop (λb=>F b\/((w.heap.size<=b\/b∈L)/\b<w'.heap.size/\b∉L')) L' w' u n l'
def Qhp (P:Program) (w:World) (ok:List Nat->Prop) (f n:Nat) (l:List (List PV)) (args:List AV) (mix turn:Bool) (l':List (List PV)):Prop:=
 ∀ (F G:Nat->Prop) (L:List Nat) (v:Value) (vals:List Value),ok L->(∀b,F b->G b)->(mix=true->∀b,G b->F b)->(∀b,G b->b<w.heap.size)->L.Nodup->(∀b,b∈L->b<w.heap.size/\¬G b)->
   OwnTop F L w v n l->All2 (AR (YX G) w) vals args->Calls P f (v::vals).toArray w (Qls F L w n turn l')
def ATake (P:Program) (f n:Nat) (l:List (List PV)) (args:List AV) (mix turn:Bool) (l':List (List PV)):Prop:=It P f/\∀w,Qhp P w (λL=>GoodAt P ⟨w,λx=>x∈L,none⟩) f n l args mix turn l'
def CL (P:Program) (w0:Base) (f n:Nat) (l:List (List PV)) (args:List AV) (mix turn:Bool) (l':List (List PV)):Prop:=It P f/\∀w,w0.Keeps w->Qhp P w (λL=>∀x,x∈L->w0.lo x) f n l args mix turn l'
theorem ATake.at {P:Program} {w0:Base} [hg:GoodAt P w0] {f n:Nat} {l:List (List PV)} {args:List AV} {mix turn:Bool} {l':List (List PV)} (h:ATake P f n l args mix turn l'):CL P w0 f n l args mix turn l':=
 ⟨h.1,λw hb F G L v vals hok=>h.2 w F G L v vals ⟨λw' hk=>hg.at_ w' (hb.step hk.os hk.tape hk.output hk.size λk hkl hn=>hk.block k hkl λhx=>hn (hok k hx))⟩⟩
def Sl:C->Bool
 | .int _ _=>true
 | .bool _=>true
 | .str _=>true
 | .slc .sh _ _=>true
 | _=>false
def XS (F:Nat->Prop) (L:List Nat) (b:Nat):Inj:=⟨F,λk=>if k=63 then L else [],λ_=>b⟩
def UU (F:Nat->Prop) (L:List Nat) (w w':World) (L':Nat->List Nat):Inj:=⟨λx=>F x\/((w.heap.size<=x\/x∈L)/\x<w'.heap.size/\∀k,x∉L' k),L',λ_=>0⟩
def Qiy (J:Inj) (w:World) (b:Nat) (cs:List C):Prop:=∃arr e,w.heap[b]? =some (.cells arr e (0,0))/\All2 (CR J w) arr.toList cs
def Qmc (F:Nat->Prop) (L:List Nat) (b:Nat) (w:World) (r:AV) (cs:List C) (e:Ending) (w':World):Prop:=
 ∃ v L',e= .returned v/\w'.os=w.os/\w'.tape=w.tape/\w'.output=w.output/\w.heap.size<=w'.heap.size/\(∀k,k<w.heap.size->k≠b->k∉L->w'.heap[k]? =w.heap[k]?)/\
   (∀k,(L' k).Nodup)/\(∀k x,x∈L' k->x<w'.heap.size/\(w.heap.size<=x\/x∈L))/\(∀k k' x,x∈L' k->x∈L' k'->k=k')/\AR (UU F L w w' L') w' v r/\Qiy (UU F L w w' L') w' b cs
def Qhq (P:Program) (w:World) (ok:Nat->List Nat->Prop) (f:Nat) (cs:List C) (args:List AV) (r:AV) (cs':List C):Prop:=
 ∀ (F:Nat->Prop) (L:List Nat) (b:Nat) (vals:List Value),ok b L->(∀x,F x->x<w.heap.size)->L.Nodup->(∀x,x∈L->x<w.heap.size/\¬F x)->¬F b->b∉L->Qiy (YX F) w b cs->All2 (AR (XS F L b) w) vals args->
   Calls P f (.pointer (some ⟨b,0,none⟩)::vals).toArray w (Qmc F L b w r cs')
def AGive (P:Program) (f:Nat) (cs:List C) (args:List AV) (r:AV) (cs':List C):Prop:=It P f/\∀w,Qhq P w (λb L=>GoodAt P ⟨w,λx=>x=b\/x∈L,some b⟩) f cs args r cs'
def LO (P:Program) (w0:Base) (f:Nat) (cs:List C) (args:List AV) (r:AV) (cs':List C):Prop:=It P f/\∀w,w0.Keeps w->Qhq P w (λb L=>∀x,x=b\/x∈L->w0.lo x) f cs args r cs'
theorem AGive.at {P:Program} {w0:Base} [hg:GoodAt P w0] {f:Nat} {cs:List C} {args:List AV} {r:AV} {cs':List C} (h:AGive P f cs args r cs'):LO P w0 f cs args r cs':=
 ⟨h.1,λw hb F L b vals hok=>h.2 w F L b vals ⟨λw' hk=>hg.at_ w' (hb.step hk.os hk.tape hk.output hk.size λk hkl hn=>hk.block k hkl λhx=>hn (hok k hx))⟩⟩
def Qmd (F:Nat->Prop) (b:Nat) (w w':World):Inj:=⟨λx=>F x\/(w.heap.size<=x/\x<w'.heap.size/\x≠b),λ_=> [],λ_=>0⟩
def Qme (F:Nat->Prop) (w:World) (cs:List C) (e:Ending) (w':World):Prop:=
 ∃b,e= .returned (.pointer (some ⟨b,0,none⟩))/\Below w.heap.size w w'/\w.heap.size<=b/\Qiy (Qmd F b w w') w' b cs
def Qhr (P:Program) (w:World) (f:Nat) (args:List AV) (cs:List C):Prop:=
 ∀(F:Nat->Prop) (vals:List Value),(∀x,F x->x<w.heap.size)->All2 (AR (YX F) w) vals args->Calls P f vals.toArray w (Qme F w cs)
def ANew (P:Program) (f:Nat) (args:List AV) (cs:List C):Prop:=It P f/\∀w,Good P w->Qhr P w f args cs
def Qa6 (P:Program) (w0:Base) (f:Nat) (args:List AV) (cs:List C):Prop:=It P f/\∀w,w0.Keeps w->Qhr P w f args cs
theorem ANew.at {P:Program} {w0:Base} [hg:GoodAt P w0] {f:Nat} {args:List AV} {cs:List C} (h:ANew P f args cs):Qa6 P w0 f args cs:=⟨h.1,λw hb=>h.2 w (hg.at_ w hb)⟩
def Ul (P:Program) (w0:Base):TakeT:=⟨CL P w0,LO P w0,Qa6 P w0⟩
def Z6 (d:Nat):List Nat->List Nat
 | []=> []
 | k::r=>(64*d+k)::Z6 d r
def N5:List Nat->List Nat->Bool
 | [],_=>true
 | x::r,l=> !(Pv x l)&&N5 r l
def Qiz (f:C->Bool):List C->Bool
 | []=>false
 | c::r=>f c|| Qiz f r
def JG (bn:List (Nat×List C)) (d f:Nat) (caps:Option (List (List PV))) (avs:List AV) (r:AV) (ptrs:Bool):Option (Res×List Ob):=
 match Mh bn avs,caps with
 | some args,some cps=>
   bif B9 EQ r.cells&&G4 (Qw r.cells) then
    bif Qiz XP r.cells then
     bif !ptrs&&B9 Dc (Yx avs)&&N5 (Z6 d (Qw r.cells)) (Qw (Yx avs)) then
      some (⟨r.map (LI d),Wa (Z6 d (Qw r.cells))++Yi (Qw (Yx avs)),none,none⟩, [.call f (args++cps.map λc=> .one (.rptr .sh c)) r])
     else none
    else some (⟨r.map (LI d),Wa (Z6 d (Qw r.cells)),none,none⟩, [.call f (args++cps.map λc=> .one (.rptr .sh c)) r])
   else none
 | _,_=>none
def Qi0 (orc:Orc) (bn:List (Nat×List C)) (dst:Option Nat):Op->List AV->Option (Res×List Ob)
 | .call ⟨.value _,_,_⟩,.one (.fn f caps)::avs=>
   (match dst,orc with
   | some d,.val r=>JG bn d f (Si bn caps) avs r (match caps with
     | []=>false
     | _=>true)
   | _,_=>none)
 | .call ⟨.value _,_,_⟩,.one (.fnr f caps)::avs=>
   (match dst,orc with
   | some d,.val r=>JG bn d f (some caps) avs r true
   | _,_=>none)
 | _,_=>none
section
variable {P:Program} {N:Nat} {w0:Base} {F0:Nat->Prop} {J:Inj} {a:Act} {w:World} {s:St}
theorem Iy {o:Oper} {K:Act->World->Prop} {Q:Exit->Act->World->Prop} {x:Operand} {args:Array Operand} {tys:Array TypeId} {n:Nat} {caps:Array Value} (ho:o.op= .call {callee:= .value x,args:=args,argTypes:=tys})
 (hx:a.eval x= .func (.func n) #[] caps) (hf:It P n)
 (h:Calls P n (args.map a.eval++caps) w (λe w''=>match e,w'' with
  | .returned v,w''=>K (a.put o.dst v) w''
  | .panicked c,w''=>Q (.panic c) a w''
  | .outgrown,_=>LetsOut Q)):o.wp P a w K Q:=by
 obtain ⟨fn,hfn,hq⟩:=zP.1 hf;simp only[zO] at hq;unfold Oper.wp execOp;simp only[ho,resolve,Sem.run_bind,hx,Deferred.ofValue,Sem.run_pure,Result.andThen_ok,invoke,Array.empty_append]
 have hcf:(callFunc n (args.map a.eval++caps)).run P w= .ok (.enter n (args.map a.eval++caps)) w:=by
  have h1 : ¬ fn.name = "runtime.NumGoroutine" := by simpa using hq.1
  have h2:¬fn.body=none:=λe=>by rw[e] at hq;simp at hq
  unfold callFunc;simp[hfn,h1,h2]
 rw[hcf];rw[Oper.upon_enter];exact h.mono λe w' hh=>by cases e<;>exact hh
def BoxF (J:Inj) (w:World) (F:Nat->Prop) (bn:List (Nat×List C)):Prop:=
 ∀k x,get bn k=some x->F (J.B k)/\(∀k',k'∈Qw x->∀b,b∈J.L k'->F b)/\∃arr e,w.heap[J.B k]? =some (.cells arr e (0,0))/\All2 (CR J w) arr.toList x
theorem BoxF.of {bn:List (Nat×List C)} (h:∀k b,b∈J.L k->b<w.heap.size) (hb:∀k x,get bn k=some x->∃arr e,w.heap[J.B k]? =some (.cells arr e (0,0))/\All2 (CR J w) arr.toList x):BoxF J w (λb=>b<w.heap.size) bn:=λk x hk=>by
 obtain ⟨arr,e,h1,h2⟩:=hb k x hk;exact ⟨Q7 h1,λk' _ b hm=>h k' b hm,arr,e,h1,h2⟩
theorem EV:∀(n:Nat) {cs:List C} {k:Nat},k∈Qw (cs.drop n)->k∈Qw cs
 | 0,_,_,h=>by simpa using h
 | _+1, [],_,h=>by simp at h;exact h
 | n+1,_::r,_,h=>by
   rw[List.drop_succ_cons] at h;simp only[Qw];exact zE _ (EV n h)
theorem Ru:∀{l:List C},B9 Dc l=true->B9 KG l=true
 | [],_=>rfl
 | c::l,h=>by
   simp only[B9,zF] at h⊢;refine ⟨?_,Ru h.2⟩;have h1:=h.1;cases c<;>first | rfl | cases h1
theorem CM {F:Nat->Prop} {bn:List (Nat×List C)} (hF:∀b,J.F b->F b) {v:Value} {c c':C} (hc:CR J w v c) (he:AE bn c=some c') (hL:∀k,c.key=some k->∀b,b∈J.L k->F b)
 (hB:KG c=true\/BoxF J w F bn):CR (YX F) w v c':=by
 have hbox:BoxF J w F bn->∀k off cs,Qe4 bn k off=some cs->Reads F w (.pointer (some ⟨J.B k,off,none⟩)) cs:=by
  intro h3 k off cs hb;unfold Qe4 at hb;split at hb
  . rename_i x hx;obtain ⟨h1,h2,arr,e,hg,hall⟩:=h3 k x hx;refine ⟨J.B k,off,arr.toList.drop off,rfl,h1,Tw (hall.drop off) hb (λb hb=>⟨hF b hb,rfl⟩) (λk' hk' b hb=>⟨h2 k' (EV off hk') b hb,rfl⟩), ?_⟩
    have:=Cu (w:=w) (vs:=arr.toList) (b:=J.B k) (off:=0) (k:=off) (λj u hj=>by
     rw[yJ] at hj;simp[World.cell?,hg,hj])
    simpa using this
  cases hb
 cases c with
 | int=>obtain rfl:=zD he;exact hc
 | bool=>obtain rfl:=zD he;exact hc
 | str=>obtain rfl:=zD he;exact hc
 | slc t n l=>
   obtain rfl:=zD he;exact Qa5 (X:=F) hc rfl (λb hb=>⟨hF b hb,rfl⟩) λk hk b hb=>⟨hL k hk b hb,rfl⟩
 | ptr k off=>
   obtain ⟨cs,hcs,rfl⟩:=zP.1 he;rcases hB with hB | h3
   . cases hB
   show Reads F w v cs;rw[show v=_ from hc];exact hbox h3 k off cs hcs
 | rptr t cs=>
   obtain rfl:=zD he;refine Reads.keep hc λb hb=>⟨?_,rfl⟩
   cases t with
   | sh=>exact hF b hb
   | emp=>exact hb.elim
   | own=>exact hb.elim
   | put=>exact hb.elim
   | vw k=>exact hb.elim (hL k rfl b) (hF b)
 | ept d k n i o cs=>
   obtain rfl:=zD he;obtain ⟨g,r,vs,h1,h2,h3,h4,_⟩:=hc;refine ⟨g,i*n+o,vs,h2,hL k rfl g (by rw[h1];exact zL),h3.keep λb hb=>⟨?_,rfl⟩,h4⟩;cases d with
   | true=>exact hb.elim (hL k rfl b) (hF b)
   | false=>exact hF b hb
 | fn f caps =>
   obtain ⟨cs,hcs,rfl⟩:=zP.1 he;rcases hB with hB | h3
   . cases caps with
     | nil=>
       obtain rfl: []=cs:=by simpa [Si] using hcs
       exact ⟨[],hc,.nil⟩
     | cons=>cases hB
   refine ⟨_,hc, ?_⟩;clear hc he hL
   induction caps generalizing cs with
   | nil => obtain rfl: []=cs:=by simpa [Si] using hcs
            exact .nil
   | cons c caps ih=>
     simp only[Si] at hcs;split at hcs
     . rename_i p ps e1 e2;obtain rfl:=zD hcs;exact .cons (hbox h3 c.1 c.2 p e1) (ih ps e2)
     cases hcs
 | fnr f caps=>
   obtain rfl:=zD he;obtain ⟨vs,rfl,ha⟩:=hc;exact ⟨vs,rfl,ha.imp λ_ _ _ h=>h.keep λb hb=>⟨hF b hb,rfl⟩⟩
 | dead=>cases he
theorem Lq {F : Nat -> Prop} {bn : List (Nat×List C)} (hF:∀b,J.F b->F b):∀{vs:List Value} {avs args:List AV},All2 (AR J w) vs avs->Mh bn avs=some args->(∀k,k∈Qw (Yx avs)->∀b,b∈J.L k->F b)->
 (B9 KG (Yx avs)=true\/BoxF J w F bn)->All2 (AR (YX F) w) vs args
 | _, _, args, .nil, he, _, _ => by obtain rfl: []=args:=by simpa [Mh] using he
                                    exact .nil
 | _, _, args, .cons (b:=x) h1 h2,he,hL,hB=>by
   have hka:∀(cs cs':List C),Qw (cs++cs')=Qw cs++Qw cs':=by
    intro cs cs'
    induction cs with
    | nil=>rfl
    | cons c cs ih=>simp[Qw,ih]
   have haa:∀(f:C->Bool) (cs cs':List C),B9 f (cs++cs')=(B9 f cs&&B9 f cs'):=by
    intro f cs cs'
    induction cs with
    | nil=>rfl
    | cons c cs ih=>simp[B9,ih,Bool.and_assoc]
   simp only[Mh] at he;split at he
   . rename_i p ps e1 e2;obtain rfl:=zD he;simp only[Yx,hka] at hL;simp only[Yx,haa,zF] at hB;refine .cons ?_ (Lq hF h2 e2 (λk hk=>hL k (zE _ hk)) (hB.imp (λh=>h.2) id));have hL1:∀k,k∈Qw x.cells->∀b,b∈J.L k->F b:=λk hk=>hL k (zG _ hk)
     have hB1:=hB.imp (λh=>h.1) id
     have hlist :∀(cs:List C) (us:List Value) (qs:List C),All2 (CR J w) us cs->N3 bn cs=some qs->(∀k,k∈Qw cs->∀b,b∈J.L k->F b)->(B9 KG cs=true\/BoxF J w F bn)->All2 (CR (YX F) w) us qs:=by
      intro cs
      induction cs with
      | nil => intro us qs h he _ _;cases h;obtain rfl: []=qs:=by simpa [N3] using he
               exact .nil
      | cons c cs ih=>
        intro us qs h he hL hB;cases h with
        | cons g1 g2=>
          simp only[N3] at he;split at he
          . rename_i q qs' f1 f2;obtain rfl:=zD he;simp only[B9,zF] at hB;exact .cons (CM hF g1 f1 (λk hk=>hL k (by simp[Qw,hk])) (hB.imp (λh=>h.1) id)) (ih _ _ g2 f2 (λk hk=>hL k (by simp only[Qw];exact zE _ hk)) (hB.imp (λh=>h.2) id))
          cases he
     cases x with
     | one c=>
       obtain ⟨c',hc',rfl⟩:=zP.1 e1;exact CM hF h1 hc' (λk hk=>hL1 k (by simp[AV.cells,Qw,hk])) (hB1.imp (λh=>by simpa [AV.cells,B9] using h) id)
     | agg cs=>
       obtain ⟨c',hc',rfl⟩:=zP.1 e1;obtain ⟨us,rfl,hu⟩:=h1;exact ⟨us,rfl,hlist cs us c' hu hc' hL1 hB1⟩
     | tup l=>cases e1
   cases he
end
end
section
open Go.RowKit
section
variable {P:Program} {N:Nat} {w0:Base} {F0:Nat->Prop} {J:Inj} {a:Act} {w:World} {s:St}
theorem Fa {d x:Nat}:∀{ks:List Nat},x∈Z6 d ks↔∃k,k∈ks/\x=64*d+k
 | []=>by simp[Z6]
 | k::r=>by
   simp only[Z6,zN,Fa (ks:=r)];exact ⟨λh=>h.elim (λe=>⟨k,.inl rfl,e⟩) λ⟨k',h1,h2⟩=>⟨k',.inr h1,h2⟩,λ⟨k',h1,h2⟩=>h1.elim (λe=> .inl (e▸h2)) λh=> .inr ⟨k',h,h2⟩⟩
theorem Fb:∀{l m:List Nat},N5 l m=true->∀x,x∈l->x∉m
 | [],_,_,x,hx,_=>by simp at hx
 | y::l,m,h,x,hx,hm=>by
   simp only[N5,zF,zS] at h;rcases zN.1 hx with rfl | hx
   . rw[Cv.2 hm] at h;exact absurd h.1 (by simp)
   exact Fb h.2 x hx hm
theorem Bz {f:C->Bool}:∀{cs:List C},B9 f cs=true->∀c,c∈cs->f c=true
 | [],_,c,hc=>by simp at hc
 | x::r,h,c,hc=>by
   simp only[B9,zF] at h;rcases zN.1 hc with rfl | hc
   . exact h.1
   exact Bz h.2 c hc
theorem XT {f:C->Bool}:∀{cs:List C},Qiz f cs=false->∀c,c∈cs->f c=false
 | [],_,c,hc=>by simp at hc
 | x::r,h,c,hc=>by
   simp only[Qiz,Bool.or_eq_false_iff] at h;rcases zN.1 hc with rfl | hc
   . exact h.1
   exact XT h.2 c hc
theorem S3:∀{cs:List C} {c:C} {k:Nat},c∈cs->c.key=some k->k∈Qw cs
 | x::r,c,k,hc,hk=>by
   simp only[Qw];rcases zN.1 hc with rfl | hc
   . exact zG _ (by rw[hk];simp)
   exact zE _ (S3 hc hk)
theorem KK:∀{cs:List C},B9 EQ cs=true->∀{k:Nat},k∈Qw cs->k<64
 | [],_,k,hk=>by simp[Qw] at hk
 | c :: r,h,k,hk=>by
   simp only[B9,zF] at h;simp only[Qw] at hk;rcases zK.1 hk with hk | hk
   . have h1:=h.1;cases c with
     | slc t n l=>
       cases t with
       | own b k'=>
         simp[C.key,Tok.key] at hk;subst hk;simp only[EQ,xA] at h1;exact h1
       | _=>simp[C.key,Tok.key] at hk;try cases h1
     | _=>simp[C.key] at hk;try cases h1
   exact KK h.2 hk
theorem EW (hrel:Rel N w0 F0 J a w s) (d:Nat) (hd:d<N) {r:AV} {frz:List Nat} (hback:B9 EQ r.cells=true) (Fc:Nat->Prop) (hFc:∀b,Fc b->b<w.heap.size)
 (hmode:(frz= []/\Qiz XP r.cells=false)\/((∀b,Fc b↔J.F b\/∃k,k∈frz/\b∈J.L k)/\∀x,x∈Z6 d (Qw r.cells)->x∉frz)) {e:Ending} {w':World} (hret:Qix Fc w r e w'):
 ∃v J',e= .returned v/\Rel N w0 F0 J' (a.put (some d) v) w' (s.step (some d) ⟨r.map (LI d),Wa (Z6 d (Qw r.cells))++Yi frz,none,none⟩):=by
 obtain ⟨v,L,rfl,hb,hnd,hlo,hdj,hr⟩:=hret;have hk64:∀k,k∈Qw r.cells->k<64:=λk hk=>KK hback hk
 have h0:=hrel.below.size;have hsz:=hb.size;have hsame:∀b,b<w.heap.size->w'.heap[b]? =w.heap[b]? :=hb.block
 have hfrzn:∀x,x∈Z6 d (Qw r.cells)->x∉frz:=λx hx=>by
  rcases hmode with ⟨e,_⟩ | ⟨_,h⟩
  . rw[e];simp
  exact h x hx
 have hget:∀x,get (Wa (Z6 d (Qw r.cells))++Yi frz) x=if x∈Z6 d (Qw r.cells) then some none else if x∈frz then some (some .sh) else none:=by
  intro x;rw[S1,Bl];by_cases h:x∈Z6 d (Qw r.cells)
  . rw[if_pos h,if_pos h]
  rw[if_neg h,if_neg h];exact Vr
 let shares:=Qiz XP r.cells
 let J':Inj:=⟨λb=>if frz= []/\shares=false then J.F b else (Fc b\/(w.heap.size<=b/\b<w'.heap.size/\∀k,b∉L k)),λx=>if x∈Z6 d (Qw r.cells) then L (x-64*d) else if x∈frz then [] else J.L x,J.B⟩
 have hF1:∀b,J.F b->J'.F b:=λb hb'=>by
  show if _ then _ else _
  split
  . exact hb'
  rename_i hn;rcases hmode with h | ⟨h,_⟩
  . exact absurd h hn
  exact .inl ((h b).2 (.inl hb'))
 have hF2:∀b,J'.F b->J.F b\/(∃k,k∈frz/\b∈J.L k)\/(w.heap.size<=b/\b<w'.heap.size/\∀k,b∉L k):=λb hb'=>by
  have hb':if frz= []/\shares=false then J.F b else (Fc b\/(w.heap.size<=b/\b<w'.heap.size/\∀k,b∉L k)):=hb'
  split at hb'
  . exact .inl hb'
  rename_i hn;rcases hmode with h | ⟨h,_⟩
  . exact absurd h hn
  rcases hb' with hb' | hb'
  . exact ((h b).1 hb').imp id .inl
  exact .inr (.inr hb')
 refine ⟨v,J',rfl,hrel.upd (some d) (λd' e=>by cases e;exact hd) _ v (hrel.below.trans (hb.mono h0)) ⟨λb hb'=>⟨hF1 b hb',hsame b (hrel.fl b hb').1⟩,λk hk=> ?_,λk hk b hm=> ?_,λk k' hk=> ?_,λk t hk=> ?_,(λ_ _=>rfl),λk d m i o cs hk=>by
  rw[hget] at hk;split at hk
  . cases hk
  split at hk<;>cases hk⟩
  ⟨λb hb'=> ?_,λb hb'=>hF1 b (hrel.f0 b hb'),λk=> ?_,λk b hm=> ?_,λk k' b hm hm'=> ?_⟩ (λ_=> ?_) (λk c hk _=> ?_) (λk c hk=>by cases hk)⟩
 . rw[hget] at hk;split at hk
   . cases hk
   split at hk
   . cases hk
   rename_i h1 h2;exact ⟨by show (if _ then _ else _)=_;rw[if_neg h1,if_neg h2],λb hm=>hsame b (hrel.lo k b hm).2.1⟩
 . rw [hget] at hk;split at hk
   . cases hk
   split at hk
   . rename_i h1 h2;refine ⟨?_,hsame b (hrel.lo k b hm).2.1⟩;show if _ then _ else _
     rcases hmode with ⟨e,_⟩ | ⟨h,_⟩
     . rw[e] at h2;simp at h2
     rw[if_neg λhn=>by rw[hn.1] at h2;simp at h2];exact .inl ((h b).2 (.inr ⟨k,h2,hm⟩))
   cases hk
 . rw[hget] at hk;split at hk
   . cases hk
   split at hk<;>cases hk
 . rw[hget] at hk;split at hk
   . cases hk
   split at hk
   . simp at hk;exact .inl hk.symm
   cases hk
 . rcases hF2 b hb' with h | ⟨k,_,h⟩ | ⟨h1,h2,_⟩
   . have:=hrel.fl b h;exact ⟨by omega,this.2⟩
   . have:=hrel.lo k b h;exact ⟨by omega,.inr this.1⟩
   exact ⟨h2,.inr (.inl (by omega))⟩
 . show (if _ then _ else _:List Nat).Nodup;split
   . exact hnd _
   split
   . simp
   exact hrel.nd k
 . have hm:b∈(if k∈Z6 d (Qw r.cells) then L (k-64*d) else if k∈frz then [] else J.L k):=hm;split at hm
   . obtain ⟨h1,h2⟩:=hlo _ b hm;refine ⟨.inl (by omega),h2,λhF=> ?_⟩;rcases hF2 b hF with h | ⟨k',_,h⟩ | ⟨_,_,h⟩
     . have:=(hrel.fl b h).1;omega
     . have:=(hrel.lo k' b h).2.1;omega
     exact h _ hm
   split at hm
   . simp at hm
   rename_i h1 h2;obtain ⟨g1,g2,g3⟩:=hrel.lo k b hm;refine ⟨g1,by omega,λhF=> ?_⟩;rcases hF2 b hF with h | ⟨k',hk',h⟩ | ⟨h,_,_⟩
   . exact g3 h
   . exact h2 (hrel.dj k k' b hm h▸hk')
   omega
 . have hm:b∈(if k∈Z6 d (Qw r.cells) then L (k-64*d) else if k∈frz then [] else J.L k):=hm;have hm':b∈(if k'∈Z6 d (Qw r.cells) then L (k'-64*d) else if k'∈frz then [] else J.L k'):=hm';split at hm<;>split at hm'
   . rename_i h1 h2;have:=hdj _ _ b hm hm';obtain ⟨j,_,rfl⟩:=Fa.1 h1;obtain ⟨j',_,rfl⟩:=Fa.1 h2;omega
   . split at hm'
     . simp at hm'
     have:=(hlo _ b hm).1;have:=(hrel.lo k' b hm').2.1;omega
   . split at hm
     . simp at hm
     have:=(hlo _ b hm').1;have:=(hrel.lo k b hm).2.1;omega
   split at hm
   . simp at hm
   split at hm'
   . simp at hm'
   exact hrel.dj k k' b hm hm'
 . refine AR.map (LI d) hr λu c hc hcr=> ?_
   have hbk:=Bz hback c hc;cases c with
   | int | bool | str=>exact hcr
   | slc t n l=>
     cases t with
     | emp=>exact hcr
     | vw k=>cases hbk
     | put=>exact hcr.elim
     | own b k=>
       cases b with
       | false=>
         have hsh:shares=true:=by
          cases hs:shares with
          | true=>rfl
          | false=>have:=XT hs _ hc;simp[XP] at this
         show OwnTop J'.F (if 64*d+k∈Z6 d (Qw r.cells) then L (64*d+k-64*d) else _) w' u _ _;rw[if_pos (Fa.2 ⟨k,S3 hc rfl,rfl⟩),yA];refine OwnTop.keep (F:=(Qiw Fc w w' L).F) hcr (λb hb'=>⟨?_,rfl⟩) λ_ _=>rfl
         show if _ then _ else _
         rw[if_neg (by rw[hsh];simp)];exact hb'
       | true=>
         show OwnDeep (if 64*d+k∈Z6 d (Qw r.cells) then L (64*d+k-64*d) else _) w' u _ _;rw[if_pos (Fa.2 ⟨k,S3 hc rfl,rfl⟩),yA];exact hcr
     | sh=>
       have hsh:shares=true:=by
        cases hs:shares with
        | true=>rfl
        | false=>have:=XT hs _ hc;simp[XP] at this
       refine VV.keep (X:=(Qiw Fc w w' L).F) (λb hb'=>⟨?_,rfl⟩) hcr;show if _ then _ else _
       rw[if_neg (by rw[hsh];simp)];exact hb'
   | _=>cases hbk
 obtain ⟨_,h2,h3,arr,e,h4,_⟩:=hrel.bo k c hk;have hlt:=Q7 h4;refine ⟨by simp,λhF=> ?_,λk' hm=> ?_,hsame _ hlt⟩
 . rcases hF2 _ hF with h | ⟨k',_,h⟩ | ⟨h,_,_⟩
   . exact h2 h
   . exact h3 k' h
   omega
 have hm:J.B k∈(if k'∈Z6 d (Qw r.cells) then L (k'-64*d) else if k'∈frz then [] else J.L k'):=hm;split at hm
 . have:=(hlo _ _ hm).1;omega
 split at hm
 . simp at hm
 exact h3 k' hm
theorem All2.of_map {α β γ:Type} {R:α->β->Prop} (f:γ->α):∀{l:List γ} {m:List β},All2 (λx b=>R (f x) b) l m->All2 R (l.map f) m
 | _,_,.nil=> .nil
 | _,_,.cons h1 h2=> .cons h1 (All2.of_map f h2)
theorem KL {o:Oper} {x:Operand} {args:Array Operand} {tys:Array TypeId} {f:Nat} {caps:Array Value} {cps:Option (List (List PV))} {avs:List AV} {r:AV} {ptrs:Bool} {bn:List (Nat×List C)} {rs:Res} {obs:List Ob} {d:Nat}
 (ho:o.op= .call ⟨.value x,args,tys⟩) (hod:o.dst=some d) (hdst:d<N) (hx:a.eval x= .func (.func f) #[] caps) (h:JG bn d f cps avs r ptrs=some (rs,obs)) (hob:AllOb (Zz P w0) (Ul P w0) obs)
 (hrel:Rel N w0 F0 J a w s) (hv:All2 (AR J w) (args.toList.map a.eval) avs) (hbn:∀k c,get bn k=some c->get s.bx k=some c)
 (hcaps:∀cs,cps=some cs->(ptrs=false->cs= []/\caps= #[])/\All2 (Reads (λb=>b<w.heap.size) w) caps.toList cs)
 {K:Act->World->Prop} {Q:Exit->Act->World->Prop} (hK:∀J' a' w',Rel N w0 F0 J' a' w' (s.step o.dst rs)->K a' w'):o.wp P a w K Q:=by
 unfold JG at h;split at h
 rotate_left
 . cases h
 rename_i eas cs has;have hcs:some cs=some cs:=rfl;cases hc:(B9 EQ r.cells&&G4 (Qw r.cells)) with
 | false=>rw[hc] at h;cases h
 | true =>
   rw[hc] at h;simp only[cond_true] at h;simp only[zF] at hc;rw[hod] at hK
   have hbx:∀k x,get bn k=some x->∃arr e,w.heap[J.B k]? =some (.cells arr e (0,0))/\All2 (CR J w) arr.toList x:=λk x hk=>by
    obtain ⟨_,_,_,h⟩:=hrel.bo k x (hbn k x hk);exact h
   have hAllF:∀b,J.F b->b<w.heap.size:=λb hb=>(hrel.fl b hb).1
   have hcapAR:∀(F:Nat->Prop) (us:List Value) (cs:List (List PV)),All2 (Reads F w) us cs->All2 (AR (YX F) w) us (cs.map λc=> .one (.rptr .sh c)):=by
    intro F us cs h
    induction h with
    | nil=>exact .nil
    | cons h1 _ ih=>exact .cons h1 ih
   have hvals:(args.map a.eval++caps)=(args.toList.map a.eval++caps.toList).toArray:=by
    apply yS;simp
   cases hsh:Qiz XP r.cells with
   | true=>
     rw[hsh] at h;simp only[cond_true] at h;cases hm:(!ptrs&&B9 Dc (Yx avs)&&N5 (Z6 d (Qw r.cells)) (Qw (Yx avs))) with
     | false=>rw[hm] at h;cases h
     | true=>
       rw[hm] at h;simp only[cond_true,zM,zO] at h;obtain ⟨rfl,rfl⟩:=h;simp only[zF,zS] at hm;obtain ⟨⟨hp,hnp⟩,hdj⟩:=hm;have hob1:Zz P w0 f (eas++cs.map λc=> .one (.rptr .sh c)) r:=hob;obtain ⟨hfn,hcall⟩:=hob1
       let F:Nat->Prop:=λb=>J.F b\/∃k,k∈Qw (Yx avs)/\b∈J.L k
       have hFlt:∀b,F b->b<w.heap.size:=λb hb=>hb.elim (hAllF b) λ⟨k,_,h⟩=>(hrel.lo k b h).2.1
       have hargs:=Lq (F:=F) (bn:=bn) (λb hb=> .inl hb) hv has (λk hk b hb=> .inr ⟨k,hk,hb⟩) (.inl (Ru hnp));have hcapE:cs= []/\caps= #[]:=(hcaps cs hcs).1 hp;obtain ⟨rfl,rfl⟩:=hcapE;have hC:=hcall w hrel.below F _ hFlt (hargs.append .nil);refine Iy ho hx hfn ?_;rw[hvals];refine hC.mono λe w' hret=> ?_
       obtain ⟨v,J',rfl,hR⟩:=EW hrel d hdst (frz:=Qw (Yx avs)) hc.1 F hFlt (.inr ⟨λb=>Iff.rfl,Fb hdj⟩) hret;rw[hod];exact hK J' _ _ hR
   | false=>
     rw[hsh] at h;simp only[cond_false,zM,zO] at h;obtain ⟨rfl,rfl⟩:=h;have hob1:Zz P w0 f (eas++cs.map λc=> .one (.rptr .sh c)) r:=hob;obtain ⟨hfn,hcall⟩:=hob1;have hargs:=Lq (F:=λb=>b<w.heap.size) (bn:=bn) hAllF hv has (λk _ b hb=>(hrel.lo k b hb).2.1) (.inr (BoxF.of (λk b hb=>(hrel.lo k b hb).2.1) hbx));have hcapR:All2 (Reads (λb=>b<w.heap.size) w) caps.toList cs:=(hcaps cs hcs).2;have hC:=hcall w hrel.below (λb=>b<w.heap.size) _ (λ_ h=>h) (hargs.append (hcapAR _ _ _ hcapR));refine Iy ho hx hfn ?_;rw[hvals];refine hC.mono λe w' hret=> ?_
     obtain ⟨v,J',rfl,hR⟩:=EW hrel d hdst (frz:= []) hc.1 (λb=>b<w.heap.size) (λ_ h=>h) (.inl ⟨rfl,hsh⟩) hret;rw[hod];rw[show Yi []= [] from rfl,List.append_nil] at hR;exact hK J' _ _ hR
theorem Qfb {orc : Orc} {bn:List (Nat×List C)} {o:Oper} {avs:List AV} {r:Res} {obs:List Ob} (h:Qi0 orc bn o.dst o.op avs=some (r,obs)) (hob:AllOb (Zz P w0) (Ul P w0) obs) (hdst:∀d,o.dst=some d->d<N)
 (hrel:Rel N w0 F0 J a w s) (hops:All2 (λx v=>UR s x=some v) o.op.operands.toList avs) (hbn:∀k c,get bn k=some c->get s.bx k=some c) {K:Act->World->Prop} {Q:Exit->Act->World->Prop}
 (hK:∀J' a' w',Rel N w0 F0 J' a' w' (s.step o.dst r)->K a' w'):o.wp P a w K Q:=by
 have hv:=E9 hrel hops;generalize ho:o.op=op at h hv;generalize hd:o.dst=dst at h;unfold Qi0 at h
 have hreads:∀(caps:List (Nat×Nat)) (cs:List (List PV)),Si bn caps=some cs->All2 (Reads (λb=>b<w.heap.size) w) (caps.map λc=> .pointer (some ⟨J.B c.1,c.2,none⟩)) cs:=by
  intro caps
  induction caps with
  | nil => intro cs h;obtain rfl: []=cs:=by simpa [Si] using h
           exact .nil
  | cons c caps ih=>
    intro cs h;simp only[Si] at h;split at h
    . rename_i p ps e1 e2;obtain rfl:=zD h;refine .cons ?_ (ih ps e2)
      have:=CM (J:=J) (w:=w) (F:=λb=>b<w.heap.size) (bn:=bn) (c:= .ptr c.1 c.2) (c':= .rptr .sh p) (λb hb=>(hrel.fl b hb).1) (v:= .pointer (some ⟨J.B c.1,c.2,none⟩)) rfl (by simp[AE,e1]) (λk hk=>by simp[C.key] at hk)
       (.inr (BoxF.of (λk b hb=>(hrel.lo k b hb).2.1) λk x hk=>by
        obtain ⟨_,_,_,h⟩:=hrel.bo k x (hbn k x hk);exact h))
      exact this
    cases h
 split at h
 . rename_i x args tys f caps avs';split at h
   . rename_i d r';have hv':All2 (λx v=>AR J w (a.eval x) v) (x::args.toList) (.one (.fn f caps)::avs'):=by simpa [Op.operands,Call.operands] using hv
     cases hv' with
     | cons h1 h2 =>
       refine KL (P:=P) ho hd (hdst d hd) h1 h hob hrel (All2.of_map _ h2) hbn (λcs hcs=> ?_) hK;constructor
       . intro hp;cases caps with
         | nil => obtain rfl: []=cs:=by simpa [Si] using hcs
                  exact ⟨rfl,rfl⟩
         | cons c caps=>cases hp
       simpa using hreads caps cs hcs
   cases h
 . rename_i x args tys f caps avs';split at h
   . rename_i d r';have hv':All2 (λx v=>AR J w (a.eval x) v) (x::args.toList) (.one (.fnr f caps)::avs'):=by simpa [Op.operands,Call.operands] using hv
     cases hv' with
     | cons h1 h2=>
       obtain ⟨vs,e1,hr⟩:=h1;refine KL (P:=P) ho hd (hdst d hd) e1 h hob hrel (All2.of_map _ h2) hbn (λcs hcs=> ?_) hK;obtain rfl:=zD hcs;exact ⟨λe=>(by cases e),by simpa using hr.imp λ_ _ _ h=>h.keep λb hb=>⟨(hrel.fl b hb).1,rfl⟩⟩
   cases h
 cases h
end
end
section
open Go.RowKit
def Qa7 (tt:List (Nat×TI)) (orc:Orc):Op->List AV->Option (AV×List Ob)
 | .indexAddr t _ _, [.one (.slc (.own d k) n l),.one (.int _ i)]=>
   (match get tt t,orc with
   | some ⟨.sli e,_,_,_⟩,.rowE r=>(match get tt e with
     | some ei=>bif zV ei.size n then some (.one (.ept d k n i.toNat 0 r), [.elem l i r]) else none
     | none=>none)
   | _,_=>none)
 | .fieldAddr t _ f, [.one (.ept d k n i o cs)]=>
   (match Ix tt t f with
   | some (o',sz,_)=>bif zV sz 0 then none else some (.one (.ept d k n i (o+o') (cs.drop o')), [])
   | none=>none)
 | .nilCheck _, [.one (.ept d k n i o cs)]=>some (.one (.ept d k n i o cs), [])
 | .load t _, [.one (.ept d k n i o cs)]=>
   (match get tt t with
   | some ti=>bif yK ti.size cs.length then (match RR ti ((cs.take ti.size).map (UT (Sg d k))) with
     | some v=>some (v, [])
     | none=>none) else none
   | none=>none)
 | _,_=>none
section
variable {P:Program} {A:Nat->List AV->AV->Prop} {T:TakeT} {J:Inj} {w:World}
theorem Qfc {d:Bool} {k n:Nat} {l:List (List PV)} {v:Value} (h:CR J w v (.slc (.own d k) n l)) {i:Nat} {r:List PV} (hi:l[i]? =some r):
 ∃g rest cap vs,v= .slice (some ⟨g,0,none⟩) l.length cap/\J.L k=g::rest/\VC (J.X (Sg d k)) w vs r/\(∀(j:Nat) (u:Value),vs[j]? =some u->w.cell? ⟨g,i*n+j,none⟩=some u)/\∃arr e,w.heap[g]? =some (.cells arr e (0,0)):=by
 have hne:l≠ []:=λe=>by subst e;simp at hi
 have cellsOf:∀(g:Nat) (cur:Array Value) (e:TypeId),w.heap[g]? =some (.cells cur e (0,0))->∀(j:Nat) (u:Value),(((cur.toList.take (l.length*n)).drop (i*n)).take n)[j]? =some u->w.cell? ⟨g,i*n+j,none⟩=some u:=by
  intro g cur e hg
  have:=Eu (k:=n) (Cu (w:=w) (vs:=cur.toList.take (l.length*n)) (b:=g) (off:=0) (k:=i*n) (λj u hj=>by
   rw[List.getElem?_take] at hj;split at hj
   . rw[yJ] at hj;simp[World.cell?,hg,hj]
   cases hj))
  simpa using this
 cases d with
 | true=>
   obtain ⟨L',h1,_,h3,h4⟩:=h;generalize hp:PV.slc n l=p at h1;cases h1 with
   | int | bool | str | any=>cases hp
   | emp=>cases hp;exact absurd rfl hne
   | @slc g cap n' cur e L l' hg hs hr h5 h6=>
     cases hp
     rcases h4 with h4 | ⟨g',r1,r2,e1,e2⟩
     . cases h4
     cases e1
     have hv:=hr.vr (X:=J.X (.vw k)) λb hb=> .inl (h3 b (zJ _ hb))
     exact ⟨g,r2,cap,_,rfl,e2,(hv.get hi).1,cellsOf g cur e hg,cur,e,hg⟩
 | false=>
   rcases h with ⟨e,_⟩ | ⟨g,cap,cur,e,hL,rfl,hg,hs,hr,h1,h2⟩
   . exact absurd e hne
   exact ⟨g, [],cap,_,rfl,hL,(hr.get hi).1,cellsOf g cur e hg,cur,e,hg⟩
theorem EX {tt:List (Nat×TI)} (htt:Gs P tt=true) {orc:Orc} {op:Op} {avs:List AV} {v:AV} {obs:List Ob} (h:Qa7 tt orc op avs=some (v,obs)) (hob:AllOb A T obs)
 {o:Oper} (ho:o.op=op) {ρ:Operand->Value} (hv:All2 (λx v=>AR J w (ρ x) v) op.operands.toList avs):
 ∃u,(execOp ρ o).run P w= .ok (.value u) w/\AR J w u v:=by
 unfold Qa7 at h;split at h
 ·rename_i t px pi d k n l kk i;split at h
  . rename_i e n' z q r hg;split at h
    . rename_i ei hge;cases hsz:zV ei.size n with
      | false=>rw[hsz] at h;cases h
      | true =>
        rw[hsz] at h;obtain ⟨rfl,rfl⟩:AV.one (.ept d k n i.toNat 0 r)=v/\ [Ob.elem l i r]=obs:=by simpa using h
        obtain ⟨h0,hl⟩:0<=i/\l[i.toNat]? =some r:=hob;have hu:=(Zp htt hg).sli;have hs:=Ae (P:=P) (Zp htt hge) w;have hn:ei.size=n:=by simpa using hsz
        cases hv with
        | cons h1 h2=>
          cases h2 with
          | cons h2 _=>
            obtain ⟨e2,_⟩:=h2;obtain ⟨g,rest,cap,vs,e1,hL,hvc,hc,hblk⟩:=Qfc h1 hl;have hlt:i.toNat<l.length:=(List.getElem?_eq_some_iff.1 hl).1;have hlt':i<(l.length:Int):=by omega
            refine ⟨.pointer (some ⟨g,0+i.toNat*n,none⟩), ?_,g,rest,vs,hL,by simp,hvc,(λj u hj=>by simpa using hc j u hj),hblk⟩;simp[execOp,ho,e1,e2,Instr.indexAt,asIntOf,run_underlying hu,h0,hlt',hs,hn,Addr.add_lit]
    cases h
  cases h
 ·rename_i t px f d k n i o' cs;cases hv with
  | cons h1 _=>
    obtain ⟨g,rest,vs,hL,e1,hvs,hc,hblk⟩:=h1;split at h
    . rename_i of sz ag hfa;cases hz:zV sz 0 with
      | true=>rw[hz] at h;cases h
      | false=>
        rw[hz] at h;obtain ⟨rfl,rfl⟩:AV.one (.ept d k n i (o'+of) (cs.drop of))=v/\ []=obs:=by simpa using h
        unfold Ix at hfa;split at hfa
        . rename_i fs n1 z hg;obtain ⟨gs,hu,hfo⟩:=(Zp htt hg).struct;obtain ⟨fg,inf,dd,k1,rfl,hi,rfl,hd,hag⟩:=Rs hfo hfa;have k1':gs[f]? =some fg:=by simpa using k1
          refine ⟨.pointer (some ⟨g,i*n+o'+fg.offset,none⟩), ?_,g,rest,vs.drop fg.offset,hL,by rw[yY],hvs.drop _, ?_,hblk⟩
          . have hsz:inf.size≠0:=λe=>by rw[e] at hz;cases hz
            simp[execOp,ho,e1,Instr.fieldAt,run_underlying hu,k1',Instr.sureAddr,fieldPlace,sizeOf,Hk hi,hsz,Addr.add_lit]
          have:=Cu (k:=fg.offset) hc;simpa [yY] using this
        cases hfa
    cases h
 ·rename_i px d k n i o' cs;obtain ⟨rfl,rfl⟩:AV.one (.ept d k n i o' cs)=v/\ []=obs:=by simpa using h
  cases hv with
  | cons h1 _=>
    obtain ⟨g,rest,vs,hL,e1,hr⟩:=h1;exact ⟨_,by simp[execOp,ho,e1],g,rest,vs,hL,rfl,hr⟩
 ·rename_i t px d k n i o' cs;split at h
  . rename_i ti hg;cases hle:yK ti.size cs.length with
    | false=>rw[hle] at h;cases h
    | true =>
      rw[hle] at h;simp only[cond_true] at h;split at h
      . rename_i v' hval;obtain ⟨rfl,rfl⟩:v'=v/\ []=obs:=by simpa using h
        cases hv with
        | cons h1 _=>
          obtain ⟨g,rest,vs,hL,e1,hvc,hc,_⟩:=h1
          have hlift:∀v p,VV (J.X (Sg d k)) w v p->CR J w v (UT (Sg d k) p):=by
           intro v p hp;refine CE (X:=J.X (Sg d k)) (λc n l hc=> ?_) hp;cases d with
           | true=>exact hc
           | false=>exact hc
          have hall:All2 (CR J w) (vs.take ti.size) ((cs.take ti.size).map (UT (Sg d k))):=(VC.all2 (hvc.take ti.size)).map (UT (Sg d k)) λa p _ hp=>hlift a p hp
          obtain ⟨u,hu,hr⟩:=JF (P:=P) (Zp htt hg) hall hval (Eu hc);exact ⟨u,by simp[execOp,ho,e1,Instr.loadAt,Instr.sureAddr,hu],hr⟩
      cases h
  cases h
 cases h
end
end
section
open Go.RowKit
section
variable {X:Nat->Prop} {w w':World}
theorem OC.cut:∀(k:Nat) {L:List Nat} {vs:List Value} {ps:List PV},OC w L vs ps->∃L1 L2,L=L1++L2/\OC w L1 (vs.take k) (ps.take k)/\OC w L2 (vs.drop k) (ps.drop k)
 | 0,L,_,_,h=>⟨[],L,rfl,.nil,h⟩
 | _+1,_,_,_,.nil=>⟨[], [],rfl,.nil,.nil⟩
 | k+1,_,_,_,.cons h1 h2=>by
   obtain ⟨L1,L2,rfl,h3,h4⟩:=OC.cut k h2;exact ⟨_++L1,L2,(yG _ _ _).symm,.cons h1 h3,h4⟩
def U0 (cs:List Value) (p:Nat) (vs:List Value):List Value:=cs.take p++vs++cs.drop (p+vs.length)
theorem KM {ce cs vs:List Value} {p:Nat}:U0 (ce++cs) (ce.length+p) vs=ce++U0 cs p vs:=by
 unfold U0;rw[List.take_length_add_append,yY,List.drop_length_add_append];simp
theorem XU {ce cs vs:List Value} {p:Nat} (h:p+vs.length<=ce.length):U0 (ce++cs) p vs=U0 ce p vs++cs:=by
 unfold U0;rw[yD (by omega),List.drop_append_of_le_length (by omega)];simp
theorem VR.put {vs:List Value} {ps:List PV} (hv:VC X w vs ps) {o:Nat}:∀{n:Nat} {cs:List Value} {l:List (List PV)},o+ps.length<=n->VR X w n cs l->∀i,VR X w n (if i<l.length then U0 cs (i*n+o) vs else cs) (setRow l i o ps)
 | _,_,_,_,.nil n,i=>by simp only[List.length_nil,Nat.not_lt_zero,if_false,setRow];exact .nil n
 | n,_,_,ho,.cons (ce:=ce) (cs:=cs) (r:=r) (l:=l) h1 h2 h3,0=>by
   have e1:=VC.length hv;have e2:=VC.length h1;simp only[zU,Nat.zero_lt_succ,if_true,setRow,xC,yR];rw[XU (by omega)];refine .cons ?_ (by simp;omega) h3;unfold U0;rw[e1];exact VC.append (VC.drop _ h1) (VC.append hv (VC.take _ h1))
 | n, _,_,ho,.cons (ce:=ce) (cs:=cs) (r:=r) (l:=l) h1 h2 h3,i+1=>by
   have e2:=VC.length h1;have ih:=VR.put hv ho h3 i;simp only[zU,yP,setRow];by_cases hi:i<l.length
   . rw[if_pos hi] at ih⊢;have:(i+1)*n+o=ce.length+(i*n+o):=by rw[e2,h2,yC,yN];omega
     rw[this,KM];exact .cons h1 h2 ih
   rw[if_neg hi] at ih⊢;exact .cons h1 h2 ih
theorem OR.put {Lv:List Nat} {vs:List Value} {ps:List PV} (hv:OC w Lv vs ps) (hnv:Lv.Nodup) {o:Nat}:∀{n:Nat} {L:List Nat} {cs:List Value} {l:List (List PV)},o+ps.length<=n->OR w n L cs l->L.Nodup->(∀b,b∈L->b∉Lv)->∀i,
 ∃L',OR w n L' (if i<l.length then U0 cs (i*n+o) vs else cs) (setRow l i o ps)/\L'.Nodup/\∀b,b∈L'->b∈L\/b∈Lv
 | _,_,_,_,_,.nil n,_,_,i=>by simp only[List.length_nil,Nat.not_lt_zero,if_false,setRow];exact ⟨[],.nil n,zQ,λb hb=>by simp at hb⟩
 | n, _,_,_,ho,.cons (ce:=ce) (cs:=cs) (r:=r) (l:=l) (L1:=L1) (L2:=L2) h1 h2 h3,hnd,hdj,0=>by
   have e1:=OC.length hv;have e2:=OC.length h1;obtain ⟨hn1,hn2,hn3⟩:=zH.1 hnd;simp only[zU,Nat.zero_lt_succ,if_true,setRow,xC,yR];rw[XU (by omega)];obtain ⟨A1,A2,rfl,a1,a2⟩:=OC.cut o h1;obtain ⟨M,B,rfl,_,b2⟩:=OC.cut vs.length a2;rw[List.drop_drop,List.drop_drop] at b2;obtain ⟨m1,m2,m3⟩:=zH.1 hn1;obtain ⟨q1,q2,q3⟩:=zH.1 m2
   have hnew:OC w (A1++(Lv++B)) (U0 ce o vs) (r.take o++ps++r.drop (o+ps.length)):=by
    unfold U0;rw[yG,yG,←e1];exact OC.append (OC.append b2 hv) a1
   refine ⟨(A1++(Lv++B))++L2,.cons hnew (by simp;omega) h3, ?_,λb hb=> ?_⟩
   . have d1:∀b,b∈A1->b∉Lv:=λb hb=>hdj b (by simp[hb])
     have d2:∀b,b∈B->b∉Lv:=λb hb=>hdj b (by simp[hb])
     have d3:∀b,b∈L2->b∉Lv:=λb hb=>hdj b (by simp[hb])
     refine zH.2 ⟨zH.2 ⟨m1,zH.2 ⟨hnv,q2,λx hx y hy e=>d2 y hy (e▸hx)⟩,λx hx y hy e=> ?_⟩,hn2,λx hx y hy e=> ?_⟩
     . subst e;rcases zK.1 hy with hy | hy
       . exact d1 x hx hy
       exact m3 x hx x (zE _ hy) rfl
     subst e;rcases zK.1 hx with hx | hx
     . exact hn3 x (zG _ hx) x hy rfl
     rcases zK.1 hx with hx | hx
     . exact d3 x hy hx
     exact hn3 x (zE _ (zE _ hx)) x hy rfl
   simp only[zK] at hb⊢;rcases hb with (hb | hb | hb) | hb
   . exact .inl (.inl (.inl hb))
   . exact .inr hb
   . exact .inl (.inl (.inr (.inr hb)))
   exact .inl (.inr hb)
 | n, _,_,_,ho,.cons (ce:=ce) (cs:=cs) (r:=r) (l:=l) (L1:=L1) (L2:=L2) h1 h2 h3,hnd,hdj,i+1=>by
   have e2:=OC.length h1;obtain ⟨hn1,hn2,hn3⟩:=zH.1 hnd;obtain ⟨L',ih1,ih2,ih3⟩:=OR.put hv hnv ho h3 hn2 (λb hb=>hdj b (zE _ hb)) i
   have hnd':(L1++L').Nodup:=zH.2 ⟨hn1,ih2,λb hb b' hb' e=>by
    subst e;rcases ih3 b hb' with h | h
    . exact hn3 b hb b h rfl
    exact hdj b (zG _ hb) h⟩
   have hsub:∀b,b∈L1++L'->b∈L1++L2\/b∈Lv:=λb hb=>by
    rcases zK.1 hb with hb | hb
    . exact .inl (zG _ hb)
    exact (ih3 b hb).imp (zE _) id
   simp only[zU,yP,setRow];by_cases hi:i<l.length
   . rw[if_pos hi] at ih1⊢;have:(i+1)*n+o=ce.length+(i*n+o):=by rw[e2,h2,yC,yN];omega
     rw[this,KM];exact ⟨_,.cons h1 h2 ih1,hnd',hsub⟩
   rw[if_neg hi] at ih1⊢;exact ⟨_,.cons h1 h2 ih1,hnd',hsub⟩
end
end
section
open Go.RowKit
def Qa8 (tt:List (Nat×TI)):Op->List AV->Option (Res×List Ob)
 | .store t _ _, [.one (.ept d k n i o pcs),v]=>
   (match get tt t,v.flatCells with
   | some ti,some cs=>(match Ie cs with
     | some ps=>bif zV cs.length ti.size&&By cs&&yK (o+ti.size) n&&yQ n 4294967296&&yK ti.size pcs.length&&yQ 0 ti.size&&G4 (k::Qw cs)&&(My cs|| !d) then
      some (⟨.one .dead,(k,some (.put d n i o ps))::(bif d then Wa (Qw cs) else Yi (Qw cs)),none,none⟩, []) else none
     | none=>none)
   | _,_=>none)
 | _,_=>none
section
variable {P:Program} {N:Nat} {w0:Base} {F0:Nat->Prop} {J:Inj} {a:Act} {w:World} {s:St}
theorem N6 {cur vs:List Value} {p:Nat} (h:p+vs.length<=cur.length):(U0 cur p vs).length=cur.length:=by
 unfold U0;simp;omega
theorem LP {cur vs:List Value} {p m:Nat} (h:p+vs.length<=m) (hm:m<=cur.length):(U0 cur p vs).take m=U0 (cur.take m) p vs:=by
 have hl:(cur.take m).length=m:=by simp;omega
 have e:U0 cur p vs=U0 (cur.take m) p vs++cur.drop m:=by
  rw[←XU (by omega),yV]
 rw[e,List.take_left' (by rw[N6 (by omega),hl])]
theorem RW {cur vs:List Value} {p m:Nat} (h:m<=p) (hm:p<=cur.length):(U0 cur p vs).take m=cur.take m:=by
 unfold U0;rw[yG,yD (by simp;omega),List.take_take,yU h]
theorem AG {cur vs:List Value} {i n o len cap:Nat} (hs:cur.length=cap*n) (hl:len<=cap) (ho:o+vs.length<=n) (hp:i*n+o+vs.length<=cur.length):
 (U0 cur (i*n+o) vs).take (len*n)=if i<len then U0 (cur.take (len*n)) (i*n+o) vs else cur.take (len*n):=by
 have hln:len*n<=cur.length:=by rw[hs];exact zR _ hl
 by_cases hi:i<len
 . rw[if_pos hi];refine LP ?_ hln;have:(i+1)*n<=len*n:=zR _ hi;rw[yC,yN] at this;omega
 rw[if_neg hi];refine RW ?_ (by omega);have:len*n<=i*n:=zR _ (by omega);omega
theorem XV (o:Nat) (ps:List PV):∀(l:List (List PV)) (i:Nat),(setRow l i o ps).length=l.length
 | [],_=>rfl
 | _::_,0=>rfl
 | _::l,i+1=>congrArg (· +1) (XV o ps l i)
theorem EY : ∀ {cs :List C} {ps:List PV},Ie cs=some ps->ps.length=cs.length
 | [], ps, h => by obtain rfl: []=ps:=by simpa [Ie] using h
                   rfl
 | c::r,ps,h=>by
   simp only[Ie] at h;split at h
   . rename_i p ps' e1 e2;obtain rfl:=zD h;exact congrArg (· +1) (EY e2)
   cases h
theorem Qa9 {cs:List C} {ps:List PV} (h:Ie cs=some ps) (e:ps= [.any]):False:=by
 subst e;cases cs with
 | nil=>simp[Ie] at h
 | cons c r=>
   simp only[Ie] at h;split at h
   . rename_i p ps' e1 e2;have h:=zD h;cases h
     cases c<;>simp[Qkn] at e1
   cases h
theorem Qba {tt : List (Nat×TI)} (htt:Gs P tt=true) {o:Oper} {avs:List AV} {r:Res} {obs:List Ob} (h:Qa8 tt o.op avs=some (r,obs)) (hdst:∀d,o.dst=some d->d<N)
 (hrel:Rel N w0 F0 J a w s) (hops:All2 (λx v=>UR s x=some v) o.op.operands.toList avs) {K:Act->World->Prop} {Q:Exit->Act->World->Prop}
 (hK:∀J' a' w',Rel N w0 F0 J' a' w' (s.step o.dst r)->K a' w'):o.wp P a w K Q:=by
 have hv:=E9 hrel hops;generalize ho:o.op=op at h hv;unfold Qa8 at h;split at h
 . rename_i t px py d k n i o' pcs v;split at h
   . rename_i ti cs hg hfc;split at h
     . rename_i ps hps;cases hc:(zV cs.length ti.size&&By cs&&yK (o'+ti.size) n&&yQ n 4294967296&&yK ti.size pcs.length&&yQ 0 ti.size&&G4 (k::Qw cs)&&(My cs|| !d)) with
       | false=>rw[hc] at h;cases h
       | true =>
         rw[hc] at h;obtain ⟨rfl,rfl⟩:(⟨.one .dead,(k,some (.put d n i o' ps))::(bif d then Wa (Qw cs) else Yi (Qw cs)),none,none⟩:Res)=r/\ []=obs:=by simpa using h
         simp only[zF,yH,Nat.ble_eq,xA,yT,zS] at hc;obtain ⟨⟨⟨⟨⟨⟨⟨c1,c2⟩,c3⟩,c3'⟩,c4⟩,c5⟩,c6⟩,c7⟩:=hc
         have hput:∀l,Qil l i o' ps=setRow l i o' ps:=λl=>by
          unfold Qil;cases hb:zV o' 4294967296 with
          | false=>rfl
          | true=>have:=Nat.eq_of_beq_eq_true hb;omega
         obtain ⟨hkn,hnd⟩:=zT.1 (Lg.1 c6);cases hv with
         | cons h1 h2 =>
           cases h2 with
           | cons h2 _ =>
             obtain ⟨g,rest,vs,hL,e1,hvs,hcell,arr,e,hheap⟩:=h1;have hcl:=Nh h2 hfc c2;generalize hus:(a.eval py).cells.toList=us at hcl;have hn:us.length=ti.size:=by rw[hcl.length,c1]
             have hgk:g∈J.L k:=by rw[hL];exact zL
             have hvl:vs.length=pcs.length:=hvs.length
             have hfit:i*n+o'+us.length<=arr.size:=by
              have hj:ti.size-1<vs.length:=by omega
              have:=hcell (ti.size-1) vs[ti.size-1] (List.getElem?_eq_getElem hj);simp only[World.cell?,hheap] at this;have h3:arr[i*n+o'+(ti.size-1)]? =some vs[ti.size-1]:=by simpa using this
              have:=(Array.getElem?_eq_some_iff.1 h3).1;omega
             have hst:=run_storeCells_at P g (i*n+o') e us 0 arr w hheap (by simpa using hfit) (Pw hcl c2);simp only[xB] at hst;have hsz:=Ae (P:=P) (Zp htt hg) w
             have hrun:(execOp a.eval o).run P w= .ok .skip (w.setRow g (U0 arr.toList (i*n+o') us).toArray):=by
              have hn':(a.eval py).cells.size=ti.size:=by rw[←hn,←hus];simp
              unfold U0;simp only[execOp,ho,Instr.storeAt,e1,Instr.sureAddr,storeVar,Sem.run_bind,Sem.run_pure,Result.andThen_ok,hsz,hn',hus];simp[hst]
             generalize hw':w.setRow g (U0 arr.toList (i*n+o') us).toArray=w' at hrun;have hgw:w'.heap[g]? =some (.cells (U0 arr.toList (i*n+o') us).toArray e (0,0)):=by rw[←hw'];exact setRow_heap w g arr _ e (0,0) hheap
             have hother:∀b,b≠g->w'.heap[b]? =w.heap[b]? :=λb hb=>by rw[←hw'];exact setRow_other w g b _ hb
             have hsize:w'.heap.size=w.heap.size:=by rw[←hw'];simp[World.setRow]
             have hgF:¬J.F g:=(hrel.lo k g hgk).2.2;have hF:∀b,J.F b->w'.heap[b]? =w.heap[b]? :=λb hb=>hother b λe=>hgF (e▸hb)
             have hLx:∀x,x≠k->∀b,b∈J.L x->w'.heap[b]? =w.heap[b]? :=λx hx b hb=>hother b λe=>hx (hrel.dj x k g (e▸hb) hgk)
             have hbelow:w0.Keeps w':=by
              refine hrel.below.step (by rw[←hw'];rfl) (by rw[←hw'];rfl) (by rw[←hw'];rfl) (by omega) λb _ hnl=>hother b λe=> ?_
              exact hnl (e▸(hrel.lo k g hgk).1)
             have hlen:ps.length=us.length:=by rw[EY hps,c1,hn]
             have hkx:∀x,x∈Qw cs->x≠k:=λx hx e=>hkn (e▸hx)
             have harr:∀(m:Nat),arr.size=m->arr.toList.length=m:=λm h=>by simpa using h
             cases d with
             | true =>
               have hdeep:My cs=true:=by simpa using c7
               have hget:∀x,get ((k,some (.put true n i o' ps))::(bif true then Wa (Qw cs) else Yi (Qw cs))) x=if x=k then some (some (.put true n i o' ps)) else if x∈Qw cs then some none else none:=λx=>by
                by_cases hx:x=k
                . rw[if_pos hx];simp[get,hx]
                rw[if_neg hx,Uz hx];exact Bl
               obtain ⟨Lv,v1,v2,v3⟩:=CI (J:=J) (w':=w') hcl hps hdeep (Tx hrel hnd) λx hx b hb=>hLx x (hkx x hx) b hb
               have hof:∀b,b∈J.of cs->b∉J.L k:=λb hb hb'=>by
                obtain ⟨x,hx,hm⟩:=Sj hb;exact hkx x hx (hrel.dj x k b hm hb')
               refine XR hrun (hK ⟨J.F,λx=>if x=k then J.L k++J.of cs else if x∈Qw cs then [] else J.L x,J.B⟩ _ _ (hrel.upd o.dst hdst _ undef hbelow ⟨λb hb=>⟨hb,hF b hb⟩,λx hx=> ?_,λx hx=> ?_,λx x' hx=> ?_,λx t hx=> ?_,λ_ _=>rfl,λx d1 m i1 o1 cs1 hx=> ?_⟩ ⟨λb hb=> ?_,hrel.f0,λx=> ?_,λx b hb=> ?_,λx x' b hb hb'=> ?_⟩ (λ_=>trivial) (λx c hx _=> ?_) (λx c hx=>by cases hx)))
               . rw[hget] at hx;split at hx
                 . cases hx
                 rename_i h3;split at hx
                 . cases hx
                 rename_i h4;exact ⟨by show (if _ then _ else _)=_;rw[if_neg h3,if_neg h4],hLx x h3⟩
               . rw[hget] at hx;split at hx
                 . cases hx
                 split at hx<;>cases hx
               . rw[hget] at hx;split at hx
                 . cases hx
                 split at hx<;>cases hx
               . rw[hget] at hx;split at hx
                 . exact .inr (.inr ⟨_,_,_,_,_,(zD (zD hx)).symm⟩)
                 split at hx<;>cases hx
               . rw [hget] at hx;split at hx
                 . rename_i hxk;subst hxk;cases hx
                   refine ⟨λv l hcr=> ?_,λ_ e=>(Qa9 hps e).elim⟩;rw[hput];obtain ⟨L',w1,w2,w3,w4⟩:=hcr;show OwnDeep (if x=x then _ else _) w' v n _;rw[if_pos rfl];generalize hp:PV.slc n l=p at w1;cases w1 with
                   | int | bool | str | any=>cases hp
                   | emp oa n'=>
                     cases hp
                     exact ⟨[],.emp oa n,zQ,(λb hb=>by simp at hb),.inl rfl⟩
                   | @slc g1 cap n' cur e2 L1 l' hg1 hs1 hr1 h5 h6=>
                     cases hp
                     rcases w4 with w4 | ⟨g2,q1,q2,e3,e4⟩
                     . cases w4
                     cases e3
                     obtain ⟨rfl,rfl⟩:g1=g/\q2=rest:=by rw[hL] at e4;cases e4;exact ⟨rfl,rfl⟩
                     rw[hheap] at hg1;cases hg1
                     obtain ⟨n1,n2⟩:=zT.1 w2;have hr2:OR w' n L1 (arr.toList.take (l.length*n)) l:=hr1.keep λb hb=>hother b λe=>n1 (e▸hb)
                     obtain ⟨L2,z1,z2,z3⟩:=OR.put v1 v2 (o:=o') (by omega) hr2 n2 (λb hb hb'=>hof b (v3 b hb') (w3 b (zJ _ hb))) i;rw[←AG (cap:=cap) (by simpa using hs1) h5 (by omega) (by simpa using hfit)] at z1;have hl2:=XV o' ps l i
                     have hgL2:g1∉L2:=λhm=>by
                      rcases z3 g1 hm with hm | hm
                      . exact n1 hm
                      exact hof g1 (v3 g1 hm) hgk
                     refine ⟨g1::L2, ?_,zT.2 ⟨hgL2,z2⟩,λb hb=> ?_,.inr ⟨g1,L2,q2++J.of cs,rfl,by rw[hL];rfl⟩⟩
                     . rw[←hl2];refine .slc hgw ?_ ?_ (by omega) (by rw[hl2];exact h6)
                       . have:=N6 (cur:=arr.toList) (vs:=us) (p:=i*n+o') (by simpa using hfit);simpa [hs1] using this
                       rw[hl2];simpa using z1
                     rcases zN.1 hb with rfl | hb
                     . exact zG _ hgk
                     rcases z3 b hb with hb | hb
                     . exact zG _ (w3 b (zJ _ hb))
                     exact zE _ (v3 b hb)
                 split at hx<;>cases hx
               . exact ⟨by have:=(hrel.fl b hb).1;omega,(hrel.fl b hb).2⟩
               . show (if x=k then _ else _:List Nat).Nodup;split
                 . exact zH.2 ⟨hrel.nd k,Tx hrel hnd,λb hb b' hb' e=>hof b' hb' (e▸hb)⟩
                 split
                 . simp
                 exact hrel.nd x
               . have hb:b∈(if x=k then J.L k++J.of cs else if x∈Qw cs then [] else J.L x):=hb
                 have key:∀y,b∈J.L y->w0.lo (b)/\b<w'.heap.size/\¬J.F b:=λy hy=>by
                  obtain ⟨h3,h4,h5⟩:=hrel.lo y b hy;exact ⟨h3,by omega,h5⟩
                 split at hb
                 . rcases zK.1 hb with hb | hb
                   . exact key k hb
                   obtain ⟨y,_,hm⟩:=Sj hb;exact key y hm
                 split at hb
                 . simp at hb
                 exact key x hb
               . have hb:b∈(if x=k then J.L k++J.of cs else if x∈Qw cs then [] else J.L x):=hb;have hb':b∈(if x'=k then J.L k++J.of cs else if x'∈Qw cs then [] else J.L x'):=hb'
                 have key:∀y,y≠k->y∉Qw cs->b∈J.L y->b∈J.L k++J.of cs->False:=λy hy1 hy2 hy hm=>by
                  rcases zK.1 hm with hm | hm
                  . exact hy1 (hrel.dj y k b hy hm)
                  obtain ⟨z,hz,hm⟩:=Sj hm;exact hy2 (hrel.dj y z b hy hm▸hz)
                 split at hb
                 . rename_i hxk;split at hb'
                   . rename_i hxk';rw[hxk,hxk']
                   rename_i h3;split at hb'
                   . simp at hb'
                   rename_i h4;exact (key x' h3 h4 hb' hb).elim
                 rename_i h3;split at hb
                 . simp at hb
                 rename_i h4;split at hb'
                 . exact (key x h3 h4 hb hb').elim
                 split at hb'
                 . simp at hb'
                 exact hrel.dj x x' b hb hb'
               obtain ⟨_,h3,h4,arr',e',h5,_⟩:=hrel.bo x c hx;refine ⟨by simp,h3,λy hm=> ?_,hother _ λe=>h4 k (e▸hgk)⟩;have hm:J.B x∈(if y=k then J.L k++J.of cs else if y∈Qw cs then [] else J.L y):=hm;split at hm
               . rcases zK.1 hm with hm | hm
                 . exact h4 k hm
                 obtain ⟨z,_,hm⟩:=Sj hm;exact h4 z hm
               split at hm
               . simp at hm
               exact h4 y hm
             | false=>
               have hget:∀x,get ((k,some (.put false n i o' ps))::(bif false then Wa (Qw cs) else Yi (Qw cs))) x=if x=k then some (some (.put false n i o' ps)) else if x∈Qw cs then some (some .sh) else none:=λx=>by
                by_cases hx:x=k
                . rw[if_pos hx];simp[get,hx]
                rw[if_neg hx,Uz hx];exact Vr
               have hvc:=Tw (J:=J) (w':=w') (X:=λb=>J.F b\/∃x,x∈Qw cs/\b∈J.L x) hcl hps (λb hb=>⟨.inl hb,hF b hb⟩) λx hx b hb=>⟨.inr ⟨x,hx,hb⟩,hLx x (hkx x hx) b hb⟩
               refine XR hrun (hK ⟨λb=>J.F b\/∃x,x∈Qw cs/\b∈J.L x,λx=>if x∈Qw cs then [] else J.L x,J.B⟩ _ _ (hrel.upd o.dst hdst _ undef hbelow ⟨λb hb=>⟨.inl hb,hF b hb⟩,λx hx=> ?_,λx hx b hb=> ?_,λx x' hx=> ?_,λx t hx=> ?_,λ_ _=>rfl,λx d1 m i1 o1 cs1 hx=> ?_⟩ ⟨λb hb=> ?_,λb hb=> .inl (hrel.f0 b hb),λx=> ?_,λx b hb=> ?_,λx x' b hb hb'=> ?_⟩ (λ_=>trivial) (λx c hx _=> ?_) (λx c hx=>by cases hx)))
               . rw[hget] at hx;split at hx
                 . cases hx
                 rename_i h3;split at hx
                 . cases hx
                 rename_i h4;exact ⟨by show (if _ then _ else _)=_;rw[if_neg h4],hLx x h3⟩
               . rw[hget] at hx;split at hx
                 . cases hx
                 split at hx
                 . rename_i h3;exact ⟨.inr ⟨x,h3,hb⟩,hLx x (hkx x h3) b hb⟩
                 cases hx
               . rw[hget] at hx;split at hx
                 . cases hx
                 split at hx<;>cases hx
               . rw[hget] at hx;split at hx
                 . exact .inr (.inr ⟨_,_,_,_,_,(zD (zD hx)).symm⟩)
                 split at hx
                 . exact .inl (zD (zD hx)).symm
                 cases hx
               . rw [hget] at hx;split at hx
                 . rename_i hxk;subst hxk;cases hx
                   refine ⟨λv l hcr=> ?_,λe=>by cases e⟩;rw[hput];show OwnTop _ (if x∈Qw cs then [] else J.L x) w' v n _;rw[if_neg hkn];rcases hcr with ⟨rfl,oa,rfl⟩ | ⟨g1,cap,cur,e2,hL1,rfl,hg1,hs1,hr1,h5,h6⟩
                   . exact .inl ⟨rfl,oa,rfl⟩
                   obtain rfl:g1=g:=by rw[hL] at hL1;cases hL1;rfl
                   rw[hheap] at hg1;cases hg1
                   have hr2:VR (λb=>J.F b\/∃x,x∈Qw cs/\b∈J.L x) w' n (arr.toList.take (l.length*n)) l:=hr1.keep λb hb=>⟨.inl hb,hF b hb⟩
                   have z1:=VR.put hvc (o:=o') (by omega) hr2 i;rw[←AG (cap:=cap) (by simpa using hs1) h5 (by omega) (by simpa using hfit)] at z1;have hl2:=XV o' ps l i;refine .inr ⟨g1,cap,_,e,hL1,by rw[hl2],hgw, ?_,by rw[hl2];simpa using z1,by omega,by rw[hl2];exact h6⟩;have:=N6 (cur:=arr.toList) (vs:=us) (p:=i*n+o') (by simpa using hfit);simpa [hs1] using this
                 split at hx<;>cases hx
               . rcases hb with hb | ⟨x,_,hb⟩
                 . exact ⟨by have:=(hrel.fl b hb).1;omega,(hrel.fl b hb).2⟩
                 have:=hrel.lo x b hb;exact ⟨by omega,.inr this.1⟩
               . show (if _ then _ else _:List Nat).Nodup;split
                 . simp
                 exact hrel.nd x
               . have hb:b∈(if x∈Qw cs then [] else J.L x):=hb;split at hb
                 . simp at hb
                 rename_i h3;obtain ⟨h4,h5,h6⟩:=hrel.lo x b hb;refine ⟨h4,by omega,λhF=> ?_⟩;rcases hF with hF | ⟨y,hy,hm⟩
                 . exact h6 hF
                 exact h3 (hrel.dj x y b hb hm▸hy)
               . have hb:b∈(if x∈Qw cs then [] else J.L x):=hb;have hb':b∈(if x'∈Qw cs then [] else J.L x'):=hb';split at hb
                 . simp at hb
                 split at hb'
                 . simp at hb'
                 exact hrel.dj x x' b hb hb'
               obtain ⟨_,h3,h4,arr',e',h5,_⟩:=hrel.bo x c hx;refine ⟨by simp,λhF=> ?_,λy hm=> ?_,hother _ λe=>h4 k (e▸hgk)⟩
               . rcases hF with hF | ⟨y,_,hm⟩
                 . exact h3 hF
                 exact h4 y hm
               have hm:J.B x∈(if y∈Qw cs then [] else J.L y):=hm;split at hm
               . simp at hm
               exact h4 y hm
     cases h
   cases h
 cases h
end
end
section
open Go.RowKit
def Qhs:List C->Option PV
 | [.int k _]=>some (.int k 0)
 | [.bool _]=>some (.bool false)
 | [.str _]=>some (.str ⟨#[]⟩)
 | _=>none
def Qi1 (tt:List (Nat×TI)) (dst:Option Nat):Op->List AV->Option (Res×List Ob)
 | .call ⟨.builtin .max,_,_⟩, [.one (.int k a),.one (.int k' b)]=>bif decide (k=k') then some (⟨.one (.int k (max a b)), [],none,none⟩, []) else none
 | .call ⟨.builtin .min,_,_⟩, [.one (.int k a),.one (.int k' b)]=>bif decide (k=k') then some (⟨.one (.int k (min a b)), [],none,none⟩, []) else none
 | .makeSlice t (.tmp i) (.tmp j), [.one (.int _ a),_]=>(match dst,get tt t with
   | some d,some ⟨.sli e,_,_,_⟩=>(match get tt e with
     | some ei=>(match Qhs ei.zero with
       | some p=>bif zV i j&&zV ei.size 1 then some (⟨.one (.slc (.own true (64*d)) 1 (yB a.toNat [p])), [(64*d,none)],none,none⟩, [.rng 0 a 1073741824]) else none
       | none=>none)
     | none=>none)
   | _,_=>none)
 | _,_=>none
section
variable {P:Program} {A:Nat->List AV->AV->Prop} {T:TakeT} {N:Nat} {w0:Base} {F0:Nat->Prop} {J:Inj} {a:Act} {w:World} {s:St}
theorem Qky {args:Array Operand} {x y:AV} (h:All2 (λo v=>AR J w (a.eval o) v) args.toList [x,y]):∃p q,args= #[p,q]/\AR J w (a.eval p) x/\AR J w (a.eval q) y:=by
 obtain ⟨l⟩:=args;have h:All2 (λo v=>AR J w (a.eval o) v) l [x,y]:=h;cases h with
 | cons h1 h2=>cases h2 with
   | cons h2 h3=>cases h3;exact ⟨_,_,rfl,h1,h2⟩
theorem Qi2 {k:IntKind} {x y:Int} (hx:InR k x) (hy:InR k y):InR k (max x y):=by
 rw[Int.max_def];split<;>assumption
theorem Qi3 {k:IntKind} {x y:Int} (hx:InR k x) (hy:InR k y):InR k (min x y):=by
 rw[Int.min_def];split<;>assumption
theorem YY {w:World} {v:Value} {p:PV} (h:OV w [] v p):∀n:Nat,OR w 1 [] (yB n v) (yB n [p])
 | 0=> .nil 1
 | n+1=>by
   have h1:OC w [] [v] [p]:=OC.cons (L1:= []) (L2:= []) h .nil;exact OR.cons (L1:= []) (L2:= []) (ce:= [v]) h1 rfl (YY h n)
theorem Qbb {z:Array Value} {v:Value} (h:z= #[v]) (n:Nat):(madeCells z n).toList=yB n v:=by
 subst h;apply List.ext_getElem
 . simp[madeCells]
 intro i h1 h2;simp[madeCells,Nat.mod_one]
theorem Qfd {tt:List (Nat×TI)} (htt:Gs P tt=true) {o:Oper} {avs:List AV} {r:Res} {obs:List Ob} (h:Qi1 tt o.dst o.op avs=some (r,obs)) (hob:AllOb A T obs) (hdst:∀d,o.dst=some d->d<N)
 (hrel:Rel N w0 F0 J a w s) (hops:All2 (λx v=>UR s x=some v) o.op.operands.toList avs) {K:Act->World->Prop} {Q:Exit->Act->World->Prop}
 (hK:∀J' a' w',Rel N w0 F0 J' a' w' (s.step o.dst r)->K a' w'):o.wp P a w K Q:=by
 have hv:=E9 hrel hops;generalize ho:o.op=op at h hv;generalize hd:o.dst=dst at h;unfold Qi1 at h;split at h
 . rename_i args tys k x k' y;cases hk:decide (k=k') with
   | false=>rw[hk] at h;cases h
   | true=>
     rw[hk] at h;obtain rfl:=of_decide_eq_true hk;simp only[cond_true,zM,zO] at h;obtain ⟨rfl,rfl⟩:=h;have hv0:All2 (λx v=>AR J w (a.eval x) v) args.toList [.one (.int k x),.one (.int k y)]:=by simpa [Op.operands,Call.operands] using hv
     obtain ⟨p,q,rfl,⟨e1,r1⟩,⟨e2,r2⟩⟩:=Qky hv0;have hmax:(if y>x then y else x)=max x y:=by rw[Int.max_def];by_cases h:y>x<;>simp[h]<;>omega
     have hrun:(execOp a.eval o).run P w= .ok (.value (.int k (max x y))) w:=by
      simp[execOp,ho,resolve,invoke,builtin,Builtin.max_,Builtin.max2,e1,e2,hmax]
     exact Vu hrun (hK J _ _ (hrel.pure o.dst hdst _ _ λ_=>⟨rfl,Qi2 r1 r2⟩))
 . rename_i args tys k x k' y;cases hk:decide (k=k') with
   | false=>rw[hk] at h;cases h
   | true=>
     rw[hk] at h;obtain rfl:=of_decide_eq_true hk;simp only[cond_true,zM,zO] at h;obtain ⟨rfl,rfl⟩:=h;have hv0:All2 (λx v=>AR J w (a.eval x) v) args.toList [.one (.int k x),.one (.int k y)]:=by simpa [Op.operands,Call.operands] using hv
     obtain ⟨p,q,rfl,⟨e1,r1⟩,⟨e2,r2⟩⟩:=Qky hv0;have hmin:(if y<x then y else x)=min x y:=by rw[Int.min_def];by_cases h:y<x<;>simp[h]<;>omega
     have hrun:(execOp a.eval o).run P w= .ok (.value (.int k (min x y))) w:=by
      simp[execOp,ho,resolve,invoke,builtin,Builtin.min_,Builtin.min2,e1,e2,hmin]
     exact Vu hrun (hK J _ _ (hrel.pure o.dst hdst _ _ λ_=>⟨rfl,Qi3 r1 r2⟩))
 . rename_i t i j ik x y;split at h
   rotate_left
   . cases h
   rename_i d e n0 z0 q0 hg;split at h
   rotate_left
   . cases h
   rename_i ei hge;split at h
   rotate_left
   . cases h
   rename_i p hp;cases hc:(zV i j&&zV ei.size 1) with
   | false=>rw[hc] at h;cases h
   | true =>
     rw[hc] at h;simp only[cond_true,zM,zO] at h;obtain ⟨rfl,rfl⟩:=h;simp only[zF,yH] at hc;obtain ⟨rfl,hsz⟩:=hc;obtain ⟨h0,_,h2⟩:0<=(0:Int)/\0<=x/\x<=((1073741824:Nat):Int):=hob;rename_i V;have hu:=(Zp htt hg).sli;obtain ⟨inf,z,hi,hs,hby,hz,hzs,hzo⟩:=(Zp htt hge).info;have hv0:All2 (λo v=>AR J w (a.eval o) v) [.tmp i,.tmp i] [.one (.int ik x),y]:=by simpa [Op.operands] using hv
     obtain ⟨e1,_⟩:a.eval (.tmp i)= .int ik x/\InR ik x:=by cases hv0 with | cons h1 _=>exact h1
     obtain ⟨v,hzv,hov⟩:∃v,z.cells= #[v]/\∀w',OV w' [] v p:=by
      generalize ei.zero=zc at hzo hp;generalize hcl:z.cells.toList=cl at hzo;have key:∀v,cl= [v]->z.cells= #[v]:=λv e=>yS (by rw[hcl,e])
      unfold Qhs at hp;split at hp
      . rename_i k m;obtain rfl:=zD hp
        match cl,hzo with
        | [],hzo=>simp[Hx] at hzo
        | _::_::_,hzo=>simp[Hx] at hzo
        | [v],hzo=>
          simp only[Hx,yZ] at hzo;cases v<;>simp[KA] at hzo
          rename_i k2 n2;obtain ⟨⟨rfl,rfl⟩,_⟩:=hzo;exact ⟨_,key _ rfl,λw'=> .int (by cases k2<;>simp[InR,IntKind.min,IntKind.max,IntKind.bits,IntKind.signed])⟩
      . obtain rfl:=zD hp
        match cl,hzo with
        | [],hzo=>simp[Hx] at hzo
        | _::_::_,hzo=>simp[Hx] at hzo
        | [v],hzo=>
          simp only[Hx,yZ] at hzo;cases v<;>simp[KA] at hzo
          obtain ⟨rfl,_⟩:=hzo;exact ⟨_,key _ rfl,λw'=> .bool _⟩
      . obtain rfl:=zD hp
        match cl,hzo with
        | [],hzo=>simp[Hx] at hzo
        | _::_::_,hzo=>simp[Hx] at hzo
        | [v],hzo=>
          simp only[Hx,yZ] at hzo;cases v<;>simp[KA] at hzo
          rename_i s2;obtain ⟨hs2,_⟩:=hzo
          have:s2=⟨#[]⟩:=by
           exact hs2
          subst this;exact ⟨_,key _ rfl,λw'=> .str (by decide)⟩
      cases hp
     have hbytes:(inf.bytes:Int)*x<=281474976710656:=by
      have h1:(inf.bytes:Int)*x<=1000*x:=Int.mul_le_mul_of_nonneg_right (by omega) V;omega
     have hmk:=run_make (P:=P) (w:=w) t e inf z hu hi hz ik ik x x V (Int.le_refl _) hbytes (by omega);rw[hs,hsz,xE] at hmk
     have hrun:(execOp a.eval o).run P w= .ok (.value (.slice (some ⟨w.heap.size,0,none⟩) x.toNat x.toNat)) (w.alloc (.cells (madeCells z.cells x.toNat) e)):=by
      simp[execOp,ho,e1,hmk]
     refine Vu hrun ?_;rw[hd] at hK⊢;have hw:∀b,b<w.heap.size->(w.alloc (.cells (madeCells z.cells x.toNat) e)).heap[b]? =w.heap[b]? :=λb hb=>Below.heap_alloc w _ b hb
     have hnew:(w.alloc (.cells (madeCells z.cells x.toNat) e)).heap[w.heap.size]? =some (.cells (madeCells z.cells x.toNat) e (0,0)):=heap_alloc_new w _;have hzz:(w.alloc (.cells (madeCells z.cells x.toNat) e)).heap.size=w.heap.size+1:=by simp
     refine hK ⟨J.F,λk=>if k=64*d then [w.heap.size] else J.L k,J.B⟩ _ _ (hrel.grab (some d) (λd' e=>by cases e;exact hdst d hd) _ _ (64*d) [] rfl rfl (hrel.below.alloc hrel.below.size _) (by omega) rfl (λk hk=>by simp[hk])
      (λb hb=>hb) (λb hb=> .inl hb) (λk _ hk=>by simp[get,Ne.symm hk]) (λ_=>by simp[get]) (λk hk=>by simp at hk) (λb hb _=>hw b hb) (by simp) (λb hb=> ?_) (λ_=> ?_))
     . simp only[if_true,yF] at hb;subst hb;exact ⟨by omega,.inl (zX _)⟩
     show OwnDeep (if 64*d=64*d then _ else _) _ _ _ _;rw[if_pos rfl];have hlen:(yB x.toNat [p]).length=x.toNat:=by simp
     have hor:=YY (hov (w.alloc (.cells (madeCells z.cells x.toNat) e))) x.toNat;rw[←Qbb hzv x.toNat] at hor;have hcs:(madeCells z.cells x.toNat).size=x.toNat:=size_madeCells _ _
     have key:OV (w.alloc (.cells (madeCells z.cells x.toNat) e)) [w.heap.size] (.slice (some ⟨w.heap.size,0,none⟩) (yB x.toNat [p]).length x.toNat) (.slc 1 (yB x.toNat [p])):=by
      refine OV.slc (L:= []) (cur:=madeCells z.cells x.toNat) hnew ?_ ?_ (by rw[hlen];exact zX _) ⟨?_, ?_⟩
      . rw[hcs,xE]
      . rw[hlen,xE,yE (by simp[hcs])];exact hor
      . unfold maxLen;omega
      rw[hlen];omega
     rw[hlen] at key;exact .of key (by simp)
 cases h
end
end
section
open Go.RowKit
def KN:List (Nat×List C)->List Nat
 | []=> []
 | p::r=>Qw p.2++KN r
def Qi4 (orc:Orc) (bn:List (Nat×List C)) (dst:Option Nat):Op->List AV->Option (Res×List Ob)
 | .call ⟨.value _,_,_⟩,.one (.fn f []):: .one (.slc (.own d k) n l)::avs=>
   (match orc,Mh bn avs with
   | .take mix turn l',some args=>
     bif !(Pv k (Qw (Yx avs)))&& !(Pv k (KN bn))&&(!mix|| B9 KG (Yx avs)) then
      (match turn,dst with
      | true,_=>bif !d&& !mix then some (⟨.tup [], [(k,some (.put false n 0 4294967296 l'.flatten))],none,none⟩, [.take f n l args false true l']) else none
      | false,some t=>bif !(Pv (64*t) (Qw (Yx avs))) then
       some (⟨.one (.slc (.own d (64*t)) n l'),(64*t,none)::(k,none)::(bif mix&& !d then Yi (Qw (Yx avs)) else []),none,none⟩,.take f n l args mix false l'::(bif d then [.flat l,.flat l'] else []))
        else none
      | _,_=>none)
     else none
   | _,_=>none)
 | _,_=>none
section
variable {P:Program} {N:Nat} {w0:Base} {F0:Nat->Prop} {J:Inj} {a:Act} {w:World} {s:St}
theorem LQ {k:Nat} {l:List Nat} (h:Pv k l=false):k∉l:=λhm=>by rw[Cv.2 hm] at h;cases h
theorem OJ:∀{bn:List (Nat×List C)} {k:Nat} {x:List C},get bn k=some x->∀y,y∈Qw x->y∈KN bn
 | [],_,_,h,_,_=>by simp[get] at h
 | (k',c)::r,k,x,h,y,hy=>by
   simp only[get] at h;simp only[KN];split at h
   . obtain rfl:=zD h;exact zG _ hy
   exact zE _ (OJ h y hy)
theorem Qfe {L:List Nat} {v:Value} {n:Nat} {l:List (List PV)} (h:OwnDeep L w v n l) (hf:Gt l) (F:Nat->Prop):∃L',OwnTop F L' w v n l/\(∀b,b∈L'->b∈L)/\L'.Nodup:=by
 obtain ⟨L',h1,h2,h3,h4⟩:=h;generalize hp:PV.slc n l=p at h1;cases h1 with
 | int | bool | str | any=>cases hp
 | emp oa n'=>
   cases hp
   exact ⟨[],.inl ⟨rfl,oa,rfl⟩,λb hb=>(by simp at hb),zQ⟩
 | @slc g cap n' cur e L1 l' hg hs hr h5 h6=>
   cases hp
   refine ⟨[g],.inr ⟨g,cap,cur,e,rfl,rfl,hg,hs, ?_,h5,h6⟩,λb hb=> ?_,by simp⟩
   . have:=OR.vr (X:=λ_=>True) hr λ_ _=>trivial
     have:=VR.orr (w':=w) this hf;exact OR.vr this λb hb=>(by simp at hb)
   obtain rfl:=yF.1 hb;exact h3 _ zL
theorem Qbc {F:Nat->Prop} {L:List Nat} {v:Value} {n:Nat} {l:List (List PV)} (h:OwnTop F L w v n l) (hf:Gt l):OwnDeep L w v n l:=by
 rcases h with ⟨rfl,oa,rfl⟩ | ⟨g,cap,cur,e,rfl,rfl,hg,hs,hr,h5,h6⟩
 . exact ⟨[],.emp oa n,zQ,(λb hb=>by simp at hb),.inl rfl⟩
 exact ⟨[g],.slc hg hs (VR.orr hr hf) h5 h6,by simp,λb hb=>hb,.inr ⟨g, [], [],rfl,rfl⟩⟩
def Ty (J:Inj) (w w':World) (nk k:Nat) (frz L':List Nat):Inj:=⟨λb=>J.F b\/(∃y,y∈frz/\b∈J.L y)\/((w.heap.size<=b\/b∈J.L k)/\b<w'.heap.size/\b∉L'),λx=>if x=nk then L' else if x∈k::frz then [] else J.L x,J.B⟩
theorem KO (hrel:Rel N w0 F0 J a w s) {t k n:Nat} (ht:t<N) {frz L':List Nat} (hk:k∉frz) {w':World} {u:Value} {l':List (List PV)} {d:Bool} (hB:w0.Keeps w') (hsz:w.heap.size<=w'.heap.size)
 (hS:∀b,b<w.heap.size->b∉J.L k->w'.heap[b]? =w.heap[b]?) (hn:L'.Nodup) (hL':∀b,b∈L'->b<w'.heap.size/\(w.heap.size<=b\/b∈J.L k)) (hv:CR (Ty J w w' (64*t) k frz L') w' u (.slc (.own d (64*t)) n l')):
 Rel N w0 F0 (Ty J w w' (64*t) k frz L') (a.put (some t) u) w' (s.step (some t) ⟨.one (.slc (.own d (64*t)) n l'),(64*t,none)::(k,none)::Yi frz,none,none⟩):=by
 have hget:∀x,get ((64*t,none)::(k,none)::Yi frz) x=if x=64*t\/x=k then some none else if x∈frz then some (some .sh) else none:=λx=>by
  by_cases h1:x=64*t
  . rw[if_pos (.inl h1)];simp[get,h1]
  rw[Uz h1];by_cases h2:x=k
  . rw[if_pos (.inr h2)];simp[get,h2]
  rw[Uz h2,if_neg (by simp[h1,h2])];exact Vr
 have hself:(Ty J w w' (64*t) k frz L').L (64*t)=L':=if_pos rfl;refine hrel.grab3 (some t) (λd e=>by cases e;exact ht) _ u (64*t) (k::frz) rfl rfl hB hsz rfl (λx hx=>if_neg hx) (λb hb=> .inl hb) (λb hb=> ?_) (λx hx hx'=> ?_) (λ_=> ?_) (λx hx=> ?_) (λb hb hn=>hS b hb (hn k zL)) (by rw[hself];exact hn) (λb hb=> ?_) (λ_=>hv)
 . rcases hb with hb | ⟨y,hy,hb⟩ | ⟨h1,h2,h3⟩
   . exact .inl hb
   rotate_left
   . rcases h1 with h1 | h1
     . exact .inr (.inr ⟨h1,h2,by rw[hself];exact h3⟩)
     exact .inr (.inl ⟨⟨k,zL ..,h1⟩,by rw[hself];exact h3⟩)
   refine .inr (.inl ⟨⟨y,zJ _ hy,hb⟩,λhm=> ?_⟩);rw[hself] at hm;have:=(hrel.lo y b hb).2.1;rcases (hL' b hm).2 with h | h
   . omega
   exact hk (hrel.dj y k b hb h▸hy)
 . show get ((64*t,none)::(k,none)::Yi frz) x=none;rw[hget,if_neg,if_neg]
   . exact λh=>hx (zJ _ h)
   rintro (h | h)
   . exact hx' h
   exact hx (h▸zL)
 . show get ((64*t,none)::(k,none)::Yi frz) (64*t)=some none;rw[hget,if_pos (.inl rfl)]
 . show get ((64*t,none)::(k,none)::Yi frz) x=_\/(get ((64*t,none)::(k,none)::Yi frz) x=_/\_)\/(get ((64*t,none)::(k,none)::Yi frz) x=_/\_);rw[hget];by_cases h1:x=64*t\/x=k
   . rw[if_pos h1];exact .inl rfl
   have hxf:x∈frz:=(zN.1 hx).resolve_left λe=>h1 (.inr e)
   rw[if_neg h1,if_pos hxf];refine .inr (.inl ⟨rfl,λb hb=>⟨.inr (.inl ⟨x,hxf,hb⟩),hS b (hrel.lo x b hb).2.1 λhm=> ?_⟩⟩);exact h1 (.inr (hrel.dj x k b hb hm))
 rw[hself] at hb;obtain ⟨h1,h2⟩:=hL' b hb;exact ⟨h1,h2.imp id λh=>⟨k,zL,h⟩⟩
theorem Qff {orc:Orc} {bn:List (Nat×List C)} {o:Oper} {avs:List AV} {r:Res} {obs:List Ob} (h:Qi4 orc bn o.dst o.op avs=some (r,obs)) (hob:AllOb (Zz P w0) (Ul P w0) obs) (hdst:∀d,o.dst=some d->d<N)
 (hrel:Rel N w0 F0 J a w s) (hops:All2 (λx v=>UR s x=some v) o.op.operands.toList avs) (hbn:∀k c,get bn k=some c->get s.bx k=some c) {K:Act->World->Prop} {Q:Exit->Act->World->Prop}
 (hK:∀J' a' w',Rel N w0 F0 J' a' w' (s.step o.dst r)->K a' w'):o.wp P a w K Q:=by
 have hv:=E9 hrel hops;generalize ho:o.op=op at h hv;generalize hd:o.dst=dst at h;unfold Qi4 at h;split at h
 rotate_left
 . cases h
 rename_i x args tys f dp k n l avs';split at h
 rotate_left
 . cases h
 rename_i mix turn l' eas heas;cases hc:(!(Pv k (Qw (Yx avs')))&& !(Pv k (KN bn))&&(!mix|| B9 KG (Yx avs'))) with
 | false=>rw[hc] at h;cases h
 | true =>
   rw[hc] at h;simp only[cond_true] at h;simp only[zF,zS,yT] at hc;obtain ⟨⟨c1,c2⟩,c3⟩:=hc;have c1:=LQ c1;have c2:=LQ c2;have hv':All2 (λx v=>AR J w (a.eval x) v) (x::args.toList) (.one (.fn f []):: .one (.slc (.own dp k) n l)::avs'):=by simpa [Op.operands,Call.operands] using hv
   obtain ⟨args⟩:=args;have hv':All2 (λx v=>AR J w (a.eval x) v) (x::args) (.one (.fn f []):: .one (.slc (.own dp k) n l)::avs'):=hv';cases hv' with
   | cons hx hv1=>
   cases hv1 with
   | @cons px _ rest _ hrow hrest=>
   have hx:a.eval x= .func (.func f) #[] #[]:=by simpa [AR,CR] using hx
   have hlo:=hrel.lo k;have h0:=hrel.below.size
   let frz:=Qw (Yx avs')
   have hG:∃G:Nat->Prop,(∀b,J.F b->G b)/\(mix=true->∀b,G b->J.F b\/∃y,y∈frz/\b∈J.L y)/\(∀b,G b->b<w.heap.size)/\(∀b,b∈J.L k->¬G b)/\(∀y,y∈frz->∀b,b∈J.L y->G b)/\All2 (AR (YX G) w) (rest.map a.eval) eas:=by
    by_cases hm:mix=true
    . have c3:B9 KG (Yx avs')=true:=c3.resolve_left (by rw[hm];simp);refine ⟨λb=>J.F b\/∃y,y∈frz/\b∈J.L y,λb hb=> .inl hb,λ_ b hb=>hb,λb hb=>hb.elim (λhb=>(hrel.fl b hb).1) λ⟨y,_,hb⟩=>(hrel.lo y b hb).2.1,λb hb hg=> ?_,λy hy b hb=> .inr ⟨y,hy,hb⟩, ?_⟩
      . rcases hg with hg | ⟨y,hy,hg⟩
        . exact (hlo b hb).2.2 hg
        exact c1 (hrel.dj y k b hg hb▸hy)
      exact Lq (λb hb=> .inl hb) (All2.of_map _ hrest) heas (λy hy b hb=> .inr ⟨y,hy,hb⟩) (.inl c3)
    refine ⟨λb=>b<w.heap.size/\b∉J.L k,λb hb=>⟨(hrel.fl b hb).1,λhk=>(hlo b hk).2.2 hb⟩,λe=>absurd e hm,λb hb=>hb.1,λb hb hg=>hg.2 hb,λy hy b hb=>⟨(hrel.lo y b hb).2.1,λhk=>c1 (hrel.dj y k b hb hk▸hy)⟩, ?_⟩;refine Lq (λb hb=>⟨(hrel.fl b hb).1,λhk=>(hlo b hk).2.2 hb⟩) (All2.of_map _ hrest) heas (λy hy b hb=>⟨(hrel.lo y b hb).2.1,λhk=>c1 (hrel.dj y k b hb hk▸hy)⟩) (.inr λy c hy=> ?_);obtain ⟨_,_,hnL,arr,e,hheap,hall⟩:=hrel.bo y c (hbn y c hy);refine ⟨⟨Q7 hheap,hnL k⟩,λz hz b hb=>⟨(hrel.lo z b hb).2.1,λhk=> ?_⟩,arr,e,hheap,hall⟩;exact c2 (hrel.dj z k b hb hk▸OJ hy z hz)
   obtain ⟨G,g1,g2,g3,g4,g5,hargs⟩:=hG
   have hvals:(({toList:=px::rest}:Array Operand).map a.eval++ #[])=(a.eval px::rest.map a.eval).toArray:=by
    apply yS;simp
   cases turn with
   | true =>
     cases hdm:(!dp&& !mix) with
     | false=>rw[hdm] at h;cases h
     | true =>
       rw[hdm] at h;simp only[cond_true,zM,zO] at h;obtain ⟨rfl,rfl⟩:=h;simp only[zF,zS] at hdm;obtain ⟨rfl,rfl⟩:=hdm;obtain ⟨hfn,hcall⟩:CL P w0 f n l eas false true l':=hob;have hC:=hcall w hrel.below J.F G (J.L k) (a.eval px) _ (λx hx=>(hlo x hx).1) g1 (λe=>by cases e) g3 (hrel.nd k) (λb hb=>⟨(hlo b hb).2.1,g4 b hb⟩) hrow hargs;refine Iy ho hx hfn ?_;rw[hvals];refine hC.mono λe w' hret=> ?_
       obtain ⟨u,rfl,hB,hS,rfl,hT⟩:=hret;have hB0:=hB 0 (zZ _) λ_ _=>zZ _
       have hbelow:w0.Keeps w':=hrel.below.step hB0.os hB0.tape hB0.output hB0.size λb hb hnl=>hS b hb λhm=>hnl (hlo b hm).1
       have hsz:=hB0.size
       have hget:∀x y,get [(k,some (Tok.put false n 0 4294967296 l'.flatten))] x=y->(x=k/\y=some (some (.put false n 0 4294967296 l'.flatten)))\/(x≠k/\y=none):=λx y hy=>by
        by_cases hxk:x=k
        . subst hxk;exact .inl ⟨rfl,by rw[←hy];simp[get]⟩
        rw[Uz hxk] at hy;exact .inr ⟨hxk,hy.symm⟩
       have hLx:∀x,x≠k->∀b,b∈J.L x->w'.heap[b]? =w.heap[b]? :=λx hx b hb=>hS b (hrel.lo x b hb).2.1 λhm=>hx (hrel.dj x k b hb hm)
       show K (a.put o.dst _) w'
       refine hK J _ w' (hrel.upd (J':=J) (w':=w') o.dst hdst ⟨.tup [], [(k,some (.put false n 0 4294967296 l'.flatten))],none,none⟩ _ hbelow ⟨λb hb=>⟨hb,hS b (hrel.fl b hb).1 λhm=>(hlo b hm).2.2 hb⟩,λx hx=> ?_,λx hx=> ?_,λx x' hx=> ?_,λx t hx=> ?_,λ_ _=>rfl,λx d1 m i1 o1 cs1 hx=> ?_⟩
        ⟨λb hb=>⟨by have:=(hrel.fl b hb).1;omega,(hrel.fl b hb).2⟩,hrel.f0,hrel.nd,λx b hb=> ?_,hrel.dj⟩ (λ_=>⟨[],rfl,.nil⟩) (λx c hx _=> ?_) (λx c hx=>by cases hx))
       . rcases hget x _ hx with ⟨_,e⟩ | ⟨h1,_⟩
         . cases e
         exact ⟨rfl,hLx x h1⟩
       . rcases hget x _ hx with ⟨_,e⟩ | ⟨_,e⟩<;>cases e
       . rcases hget x _ hx with ⟨_,e⟩ | ⟨_,e⟩<;>cases e
       . rcases hget x _ hx with ⟨_,e⟩ | ⟨_,e⟩
         . cases e;exact .inr (.inr ⟨_,_,_,_,_,rfl⟩)
         cases e
       . rcases hget x _ hx with ⟨rfl,e⟩ | ⟨_,e⟩
         . cases e
           exact ⟨λv2 l2 hcr=>hT v2 l2 hcr,λe=>by cases e⟩
         cases e
       . obtain ⟨h1,h2,h3⟩:=hrel.lo x b hb;exact ⟨h1,by omega,h3⟩
       obtain ⟨_,h3,h4,arr',e',h5,_⟩:=hrel.bo x c hx;exact ⟨by simp,h3,h4,hS _ (Q7 h5) (h4 k)⟩
   | false =>
     cases dst with
     | none=>cases h
     | some t=>
       simp only at h;cases hm:Pv (64*t) (Qw (Yx avs')) with
       | true=>rw[hm] at h;cases h
       | false=>
         rw[hm] at h;simp only[Bool.not_false,cond_true,zM,zO] at h;obtain ⟨rfl,rfl⟩:=h;have hm:=LQ hm;have ht:=hdst t hd;obtain ⟨hob1,hob2⟩:=AllOb.cons hob;obtain ⟨hfn,hcall⟩:CL P w0 f n l eas mix false l':=hob1;cases dp with
         | true=>
           obtain ⟨hf1,hf2⟩:Gt l/\Gt l':=hob2;obtain ⟨L0,hL0,hsub,hnd0⟩:=Qfe hrow hf1 G;have hC:=hcall w hrel.below G G L0 (a.eval px) _ (λx hx=>(hlo x (hsub x hx)).1) (λ_ h=>h) (λ_ _ h=>h) g3 hnd0 (λb hb=>⟨(hlo b (hsub b hb)).2.1,g4 b (hsub b hb)⟩) hL0 hargs;refine Iy ho hx hfn ?_;rw[hvals];refine hC.mono λe w' hret=> ?_
           obtain ⟨u,rfl,hB,hS,L',hn',hL',hT⟩:=hret;have hB0:=hB 0 (zZ _) λ_ _=>zZ _
           show K (a.put o.dst _) w';rw[hd] at hK⊢
           have hres:CR (Ty J w w' (64*t) k [] L') w' u (.slc (.own true (64*t)) n l'):=by
            show OwnDeep ((Ty J w w' (64*t) k [] L').L (64*t)) w' u n l';rw[show (Ty J w w' (64*t) k [] L').L (64*t)=L' from if_pos rfl];exact Qbc hT hf2
           have:=KO hrel (t:=t) (k:=k) (frz:= []) ht (by simp) (hrel.below.step hB0.os hB0.tape hB0.output hB0.size λb hb hnl=>hS b hb λhm=>hnl (hlo b (hsub b hm)).1) hB0.size (λb hb hm=>hS b hb λh=>hm (hsub b h)) hn' (λb hb=>⟨(hL' b hb).1,(hL' b hb).2.imp id (hsub b)⟩) hres;refine hK (Ty J w w' (64*t) k [] L') _ w' ?_;rw[show (bif mix&& !true then Yi (Qw (Yx avs')) else [])=Yi [] by cases mix<;>rfl];exact this
         | false=>
           have key:∀frz',(frz'= []/\mix=false\/frz'=frz/\mix=true)->∀J1:Inj,J1.F=(λb=>J.F b\/∃y,y∈frz'/\b∈J.L y)->∃F:Nat->Prop,(∀b,J.F b->F b)/\(∀b,F b->J1.F b)/\(∀b,F b->G b)/\(mix=true->∀b,G b->F b):=λfrz' hz J1 hJ1=>by
            rcases hz with ⟨rfl,hmx⟩ | ⟨rfl,hmx⟩
            . exact ⟨J.F,λ_ h=>h,λb hb=>by rw[hJ1];exact .inl hb,g1,λe=>by rw[hmx] at e;cases e⟩
            exact ⟨G,g1,λb hb=>by rw[hJ1];exact g2 hmx b hb,λ_ h=>h,λ_ _ h=>h⟩
           obtain ⟨frz',hz,hfz⟩:∃frz',(frz'= []/\mix=false\/frz'=frz/\mix=true)/\(bif mix&& !false then Yi (Qw (Yx avs')) else [])=Yi frz':=by
            cases mix with
            | true=>exact ⟨frz,.inr ⟨rfl,rfl⟩,rfl⟩
            | false=>exact ⟨[],.inl ⟨rfl,rfl⟩,rfl⟩
           have hsubf:∀y,y∈frz'->y∈frz:=λy hy=>by
            rcases hz with ⟨rfl,_⟩ | ⟨rfl,_⟩
            . simp at hy
            exact hy
           obtain ⟨F,f1,f2,f3,f4⟩:=key frz' hz ⟨λb=>J.F b\/∃y,y∈frz'/\b∈J.L y,λ_=> [],λ_=>0⟩ rfl;have hC:=hcall w hrel.below F G (J.L k) (a.eval px) _ (λx hx=>(hlo x hx).1) f3 f4 g3 (hrel.nd k) (λb hb=>⟨(hlo b hb).2.1,g4 b hb⟩) (OwnTop.keep hrow (λb hb=>⟨f1 b hb,rfl⟩) λ_ _=>rfl) hargs;refine Iy ho hx hfn ?_;rw[hvals];refine hC.mono λe w' hret=> ?_
           obtain ⟨u,rfl,hB,hS,L',hn',hL',hT⟩:=hret;have hB0:=hB 0 (zZ _) λ_ _=>zZ _
           show K (a.put o.dst _) w';rw[hd] at hK⊢
           have hres:CR (Ty J w w' (64*t) k frz' L') w' u (.slc (.own false (64*t)) n l'):=by
            show OwnTop _ ((Ty J w w' (64*t) k frz' L').L (64*t)) w' u n l';rw[show (Ty J w w' (64*t) k frz' L').L (64*t)=L' from if_pos rfl];exact OwnTop.keep hT (λb hb=>⟨hb.elim (λh=>(f2 b h).imp id .inl) λh=> .inr (.inr h),rfl⟩) λ_ _=>rfl
           have:=KO hrel (t:=t) (k:=k) (frz:=frz') ht (λh=>c1 (hsubf _ h)) (hrel.below.step hB0.os hB0.tape hB0.output hB0.size λb hb hnl=>hS b hb λhm=>hnl (hlo b hm).1) hB0.size hS hn' hL' hres;refine hK (Ty J w w' (64*t) k frz' L') _ w' ?_;rw[hfz];exact this
end
end
section
open Go.RowKit
def LR (g:Option Nat) (k:Nat):Bool:=match g with
 | some k'=>zV k' k
 | none=>false
def Qlt (g:Option Nat) (cs:List C):Bool:=match g with
 | some k=>Pv k (Qw cs)
 | none=>false
def Qbd (J:Inj) (g:Option Nat):List Nat:=match g with
 | some k=>J.L k
 | none=> []
def OK (g:Option Nat):AV->Option AV
 | .one (.slc t n l)=>(match t with
   | .own d k=>bif LR g k then some (.one (.slc (.own d 63) n l)) else some (.one (.slc .sh n l))
   | .emp=>some (.one (.slc .emp n l))
   | .vw k=>bif LR g k then none else some (.one (.slc .sh n l))
   | _=>some (.one (.slc .sh n l)))
 | v=>bif Qlt g v.cells then none else KF [] v
def KP (g:Option Nat):List AV->Option (List AV)
 | []=>some []
 | v::r=>match OK g v,KP g r with
   | some p,some ps=>some (p::ps)
   | _,_=>none
def N7 (g:Option Nat):List Nat:=match g with
 | some k=> [k]
 | none=> []
def Qi5 (orc:Orc) (bn:List (Nat×List C)) (dst:Option Nat):Op->List AV->Option (Res×List Ob)
 | .call ⟨.value _,_,_⟩,.one (.fn f [])::avs=>
   (match orc,dst with
   | .give g r cs',some d=>(match avs with
     | .one (.ptr b 0)::avs=>(match get bn b,KP g avs with
       | some cs,some args=>
         bif B9 Sl cs&&B9 Sl cs'&&B9 EQ r.cells&&G4 (Qw r.cells)&&B9 Dc (Yx avs)&&N5 (Z6 d (Qw r.cells)) (Qw (Yx avs)) then
          some (⟨r.map (LI d),Wa (Z6 d (Qw r.cells))++(Wa (N7 g)++Yi (Qw (Yx avs))),none,some (b,cs')⟩, [.give f cs args r cs'])
         else none
       | _,_=>none)
     | _=>none)
   | .new cs,some d=>(match Mh [] avs with
     | some args=>bif B9 Sl cs&&B9 Dc (Yx avs) then
      some (⟨.one (.ptr d 0),Yi (Qw (Yx avs)),some d,some (d,cs)⟩, [.new f args cs])
       else none
     | none=>none)
   | _,_=>none)
 | _,_=>none
section
variable {P:Program} {N:Nat} {w0:Base} {F0:Nat->Prop} {J:Inj} {a:Act} {w:World} {s:St}
theorem Qfg (cs cs':List C):Qw (cs++cs')=Qw cs++Qw cs':=by
 induction cs with
 | nil=>rfl
 | cons c cs ih=>simp[Qw,ih]
theorem Qfh (f:C->Bool) (cs cs':List C):B9 f (cs++cs')=(B9 f cs&&B9 f cs'):=by
 induction cs with
 | nil=>rfl
 | cons c cs ih=>simp[B9,ih,Bool.and_assoc]
theorem XW {g:Option Nat} {k:Nat}:LR g k=true↔g=some k:=by
 cases g with
 | none=>simp[LR]
 | some k'=>simp[LR]
theorem AH {J J':Inj} {w w':World} (hF:∀b,J.F b->J'.F b/\w'.heap[b]? =w.heap[b]?) {v:Value} {c:C} (h:CR J w v c) (hp:Sl c=true):CR J' w' v c:=by
 cases c with
 | int | bool | str=>exact h
 | slc t n l=>
   cases t with
   | sh=>exact VV.keep hF h
   | _=>cases hp
 | _=>cases hp
theorem KQ {J J':Inj} {w w':World} (hF:∀b,J.F b->J'.F b/\w'.heap[b]? =w.heap[b]?) {vs:List Value} {cs:List C} (h:All2 (CR J w) vs cs) (hp:B9 Sl cs=true):All2 (CR J' w') vs cs:=
 h.imp λ_ c hc hr=>AH hF hr (Bz hp c hc)
theorem Qbe {F:Nat->Prop} {L:List Nat} {b:Nat} {g:Option Nat} (hF:∀b,J.F b->F b) (hL:L=Qbd J g) {v:Value} {x y:AV} (h:AR J w v x) (he:OK g x=some y) (hk:∀k,k∈Qw x.cells->g≠some k->∀b,b∈J.L k->F b) (hn:B9 Dc x.cells=true):AR (XS F L b) w v y:=by
 have hgen:∀x y:AV,AR J w v x->KF [] x=some y->(∀k,k∈Qw x.cells->∀b,b∈J.L k->F b)->B9 Dc x.cells=true->AR (YX F) w v y:=by
  intro x y hx he hk hn;have:=Lq (J:=J) (w:=w) (F:=F) (bn:= []) hF (vs:= [v]) (avs:= [x]) (args:= [y]) (.cons hx .nil) (by simp[Mh,he]) (by simpa [Yx] using hk) (.inl (Ru (by simpa [Yx] using hn)));cases this with
  | cons h _=>exact h
 have hback:∀y:AV,AR (YX F) w v y->(∀c,c∈y.cells->c.key=none/\c.bkeys= [])->AR (XS F L b) w v y:=λy hy hc=>hy.keep λc hm=>by
  obtain ⟨e1,e2⟩:=hc c hm;exact ⟨λb hb=>⟨hb,rfl⟩,(λk hk=>by rw[e1] at hk;cases hk),(λk hk=>by rw[e2] at hk;simp at hk)⟩
 have hers :∀(cs cs':List C),N3 [] cs=some cs'->B9 Dc cs=true->∀c,c∈cs'->c.key=none/\c.bkeys= []:=by
  intro cs
  induction cs with
  | nil => intro cs' h _ c hc;obtain rfl: []=cs':=by simpa [N3] using h
           simp at hc
  | cons x cs ih=>
    intro cs' h hn c hc;simp only[N3] at h;simp only[B9,zF] at hn;split at h
    . rename_i p ps e1 e2;obtain rfl:=zD h;rcases zN.1 hc with rfl | hc
      . cases x with
        | int | bool | str | slc=>simp[AE] at e1;subst e1;exact ⟨rfl,rfl⟩
        | ptr | fn | fnr | rptr | ept=>exact absurd hn.1 (by simp[Dc])
        | dead=>cases e1
      exact ih ps e2 hn.2 c hc
    cases h
 have hrest:∀x y:AV,AR J w v x->(bif Qlt g x.cells then none else KF [] x)=some y->(∀k,k∈Qw x.cells->g≠some k->∀b,b∈J.L k->F b)->B9 Dc x.cells=true->AR (XS F L b) w v y:=by
  intro x y hx he hk hn
  have hng:Qlt g x.cells=false:=by
   cases hh:Qlt g x.cells with
   | false=>rfl
   | true=>rw[hh] at he;cases he
  rw[hng] at he;simp only[cond_false] at he
  have hk':∀k,k∈Qw x.cells->∀b,b∈J.L k->F b:=λk hm=>hk k hm λe=>by
   subst e;have hng:Pv k (Qw x.cells)=false:=hng;rw[Cv.2 hm] at hng;cases hng
  refine hback y (hgen x y hx he hk' hn) ?_;cases x with
  | one c=>
    obtain ⟨c',hc',rfl⟩:=zP.1 he;exact hers [c] [c'] (by simp[N3,hc']) (by simpa [AV.cells] using hn)
  | agg cs=>
    obtain ⟨cs',hc',rfl⟩:=zP.1 he;exact hers cs cs' hc' hn
  | tup l=>cases he
 cases x with
 | one c =>
   cases c with
   | slc t n l=>
     have hsh:∀y,some (AV.one (.slc .sh n l))=some y->(∀k,k∈Qw [C.slc t n l]->∀b,b∈J.L k->F b)->AR (XS F L b) w v y:=by
      intro y he hk;obtain rfl:=zD he;exact hback _ (hgen (.one (.slc t n l)) _ h (by simp[KF,AE]) hk (by simp[AV.cells,B9,Dc])) (λc hc=>by simp[AV.cells] at hc;subst hc;exact ⟨rfl,rfl⟩)
     cases t with
     | own d k=>
       simp only[OK] at he;cases hg:LR g k with
       | false=>
         rw[hg] at he;refine hsh y he λk' hk'=>hk k' hk' λe=> ?_
         obtain rfl:k'=k:=by simpa [Qw,C.key,Tok.key] using hk'
         rw[XW.2 e] at hg;cases hg
       | true=>
         rw[hg] at he;obtain rfl:=zD he;obtain rfl:=XW.1 hg;have e63:(XS F L b).L 63=J.L k:=by show (if 63=63 then L else [])=_;rw[if_pos rfl,hL];rfl
         cases d with
         | true=>show OwnDeep ((XS F L b).L 63) w v n l;rw[e63];exact h
         | false=>show OwnTop F ((XS F L b).L 63) w v n l;rw[e63];exact OwnTop.keep h (λb hb=>⟨hF b hb,rfl⟩) λ_ _=>rfl
     | emp=>obtain rfl:=zD he;exact h
     | vw k=>
       simp only[OK] at he;cases hg:LR g k with
       | true=>rw[hg] at he;cases he
       | false=>
         rw[hg] at he;refine hsh y he λk' hk'=>hk k' hk' λe=> ?_
         obtain rfl:k'=k:=by simpa [Qw,C.key,Tok.key] using hk'
         rw[XW.2 e] at hg;cases hg
     | sh=>exact hsh y he λk' hk'=>by simp[Qw,C.key,Tok.key] at hk'
     | put=>exact h.elim
   | _=>exact hrest _ y h he hk hn
 | agg cs=>exact hrest _ y h he hk hn
 | tup l=>exact hrest _ y h he hk hn
theorem AI {F : Nat -> Prop} {L : List Nat} {b:Nat} {g:Option Nat} (hF:∀b,J.F b->F b) (hL:L=Qbd J g):∀{vs:List Value} {xs ys:List AV},All2 (AR J w) vs xs->KP g xs=some ys->(∀k,k∈Qw (Yx xs)->g≠some k->∀b,b∈J.L k->F b)->B9 Dc (Yx xs)=true->All2 (AR (XS F L b) w) vs ys
 | _, _, ys, .nil, he, _, _ => by obtain rfl: []=ys:=by simpa [KP] using he
                                  exact .nil
 | _,_,ys,.cons (b:=x) h1 h2,he,hk,hn=>by
   simp only[KP] at he;split at he
   . rename_i p ps e1 e2;obtain rfl:=zD he;simp only[Yx,Qfg] at hk;simp only[Yx,Qfh,zF] at hn;exact .cons (Qbe hF hL h1 e1 (λk hm=>hk k (zG _ hm)) hn.1) (AI hF hL h2 e2 (λk hm=>hk k (zE _ hm)) hn.2)
   cases he
theorem Tz {d:Nat} {ks gs frz:List Nat} (x:Nat):get (Wa (Z6 d ks)++(Wa gs++Yi frz)) x=if x∈Z6 d ks\/x∈gs then some none else if x∈frz then some (some .sh) else none:=by
 rw[S1,Bl];by_cases h1:x∈Z6 d ks
 . rw[if_pos h1,if_pos (Or.inl h1)]
 rw[if_neg h1];show get (Wa gs++Yi frz) x=_;rw[S1,Bl];by_cases h2:x∈gs
 . rw[if_pos h2,if_pos (Or.inr h2)]
 rw[if_neg h2,if_neg (by simp[h1,h2])];exact Vr
theorem Qbf (hrel:Rel N w0 F0 J a w s) (d:Nat) (hd:d<N) {r:AV} {frz gs L:List Nat} {kb:Nat} {cs cs':List C} (hbk:get s.bx kb=some cs) (hback:B9 EQ r.cells=true) (hpl:B9 Sl cs'=true) {Fc:Nat->Prop}
 (hFc:∀b,Fc b↔J.F b\/∃k,k∈frz/\k∉gs/\b∈J.L k) (hL:∀b,b∈L↔∃k,k∈gs/\b∈J.L k) (hdis:∀x,x∈Z6 d (Qw r.cells)->x∉frz) {e:Ending} {w':World} (hret:Qmc Fc L (J.B kb) w r cs' e w'):
 ∃v J',e= .returned v/\Rel N w0 F0 J' (a.put (some d) v) w' (s.step (some d) ⟨r.map (LI d),Wa (Z6 d (Qw r.cells))++(Wa gs++Yi frz),none,some (kb,cs')⟩):=by
 obtain ⟨v,L',rfl,hos,hta,hou,hsz,hS,hnd,hlo,hdj,hr,hbox⟩:=hret;have hk64:∀k,k∈Qw r.cells->k<64:=λk hk=>KK hback hk
 obtain ⟨hb1,hb2,hb3,arr0,e0,hb4,_⟩:=hrel.bo kb cs hbk;have hblt:=Q7 hb4;have h0:=hrel.below.size
 let J':Inj:=⟨λb=>Fc b\/((w.heap.size<=b\/b∈L)/\b<w'.heap.size/\∀k,b∉L' k),λx=>if x∈Z6 d (Qw r.cells) then L' (x-64*d) else if x∈gs\/x∈frz then [] else J.L x,J.B⟩
 have hLlt:∀b,b∈L->b<w.heap.size/\w0.lo b/\¬Fc b/\b≠J.B kb:=λb hb=>by
  obtain ⟨k,hk,hm⟩:=(hL b).1 hb;obtain ⟨g1,g2,g3⟩:=hrel.lo k b hm;refine ⟨g2,g1,λhF=> ?_,λe=>hb3 k (e▸hm)⟩;rcases (hFc b).1 hF with h | ⟨k',_,hn,hm'⟩
  . exact g3 h
  exact hn (hrel.dj k k' b hm hm'▸hk)
 have hFlt:∀b,Fc b->b<w.heap.size/\b≠J.B kb/\b∉L:=λb hb=>by
  refine ⟨?_, ?_,λhm=>(hLlt b hm).2.2.1 hb⟩
  . rcases (hFc b).1 hb with h | ⟨k,_,_,hm⟩
    . exact (hrel.fl b h).1
    exact (hrel.lo k b hm).2.1
  rintro rfl
  rcases (hFc _).1 hb with h | ⟨k,_,_,hm⟩
  . exact hb2 h
  exact hb3 k hm
 have hsame:∀b,Fc b->w'.heap[b]? =w.heap[b]? :=λb hb=>hS b (hFlt b hb).1 (hFlt b hb).2.1 (hFlt b hb).2.2
 have hkeep:∀k,k∉gs->∀b,b∈J.L k->w'.heap[b]? =w.heap[b]? :=λk hk b hm=>hS b (hrel.lo k b hm).2.1 (λe=>hb3 k (e▸hm)) λhl=>by
  obtain ⟨k',hk',hm'⟩:=(hL b).1 hl;exact hk (hrel.dj k k' b hm hm'▸hk')
 have hJF:∀b,J.F b->Fc b:=λb hb=>(hFc b).2 (.inl hb)
 have hLL:∀k b,b∈J'.L k->(k∈Z6 d (Qw r.cells)/\b∈L' (k-64*d))\/(k∉Z6 d (Qw r.cells)/\k∉gs/\k∉frz/\b∈J.L k):=λk b hm=>by
  have hm:b∈(if k∈Z6 d (Qw r.cells) then L' (k-64*d) else if k∈gs\/k∈frz then [] else J.L k):=hm;split at hm
  . rename_i h1;exact .inl ⟨h1,hm⟩
  split at hm
  . simp at hm
  rename_i h1 h2;exact .inr ⟨h1,λh=>h2 (.inl h),λh=>h2 (.inr h),hm⟩
 have hnew:∀k b,b∈L' k->b<w'.heap.size/\w0.lo b/\b≠J.B kb/\¬J'.F b/\∀k',k'∉gs->b∉J.L k':=λk b hm=>by
  obtain ⟨g1,g2⟩:=hlo k b hm;have hne:¬Fc b:=λhF=>g2.elim (λh=>by have:=(hFlt b hF).1;omega) λh=>(hFlt b hF).2.2 h
  refine ⟨g1,g2.elim (λh=> .inl (by omega)) λh=>(hLlt b h).2.1, ?_,λhF=> ?_,λk' hk' hm'=> ?_⟩
  . rintro rfl
    rcases g2 with h | h
    . omega
    exact (hLlt _ h).2.2.2 rfl
  . rcases hF with hF | ⟨_,_,hn⟩
    . exact hne hF
    exact hn k hm
  rcases g2 with h | h
  . have:=(hrel.lo k' b hm').2.1;omega
  obtain ⟨k2,hk2,hm2⟩:=(hL b).1 h;exact hk' (hrel.dj k2 k' b hm2 hm'▸hk2)
 have hboxJ:∀{u:Value} {c:C},c∈cs'->CR (UU Fc L w w' L') w' u c->CR J' w' u c:=λhc hcr=>AH (J:=UU Fc L w w' L') (J':=J') (λb hb=>⟨hb,rfl⟩) hcr (Bz hpl _ hc)
 refine ⟨v,J',rfl,hrel.upd (some d) (λd' e=>by cases e;exact hd) _ v (hrel.below.step hos hta hou hsz λb hb hn=>hS b hb (λe=>hn (e▸hb1)) λhm=>hn (hLlt b hm).2.1)
  ⟨λb hb=>⟨.inl (hJF b hb),hsame b (hJF b hb)⟩,λk hk=> ?_,λk hk b hm=> ?_,λk k' hk=> ?_,λk t hk=> ?_,(λ_ _=>rfl),λk d1 m i o cs1 hk=>by
   rw[Tz] at hk;split at hk
   . cases hk
   split at hk<;>cases hk⟩
  ⟨λb hb=> ?_,λb hb=> .inl (hJF b (hrel.f0 b hb)),λk=> ?_,λk b hm=> ?_,λk k' b hm hm'=> ?_⟩ (λ_=> ?_) (λk c hk hne=> ?_) (λk c hk=> ?_)⟩
 . rw[Tz] at hk;split at hk
   . cases hk
   split at hk
   . cases hk
   rename_i h1 h2;have h3:k∉Z6 d (Qw r.cells):=λh=>h1 (.inl h)
   have h4:k∉gs:=λh=>h1 (.inr h)
   exact ⟨by show (if _ then _ else _)=_;rw[if_neg h3,if_neg (by simp[h4,h2])],hkeep k h4⟩
 . rw [Tz] at hk;split at hk
   . cases hk
   split at hk
   . rename_i h1 h2;have h4:k∉gs:=λh=>h1 (.inr h)
     exact ⟨.inl ((hFc b).2 (.inr ⟨k,h2,h4,hm⟩)),hkeep k h4 b hm⟩
   cases hk
 . rw[Tz] at hk;split at hk
   . cases hk
   split at hk<;>cases hk
 . rw[Tz] at hk;split at hk
   . cases hk
   split at hk
   . simp at hk;exact .inl hk.symm
   cases hk
 . rcases hb with hb | ⟨h1,h2,_⟩
   . refine ⟨by have:=(hFlt b hb).1;omega, ?_⟩;rcases (hFc b).1 hb with h | ⟨k,_,_,hm⟩
     . exact (hrel.fl b h).2
     exact .inr (hrel.lo k b hm).1
   exact ⟨h2,.inr (h1.elim (λh=> .inl (by omega)) λh=>(hLlt b h).2.1)⟩
 . show (if _ then _ else _:List Nat).Nodup;split
   . exact hnd _
   split
   . simp
   exact hrel.nd k
 . rcases hLL k b hm with ⟨_,hm⟩ | ⟨_,h2,h3,hm⟩
   . obtain ⟨g1,g2,_,g4,_⟩:=hnew _ b hm;exact ⟨g2,g1,g4⟩
   obtain ⟨g1,g2,g3⟩:=hrel.lo k b hm;refine ⟨g1,by omega,λhF=> ?_⟩;rcases hF with hF | ⟨hF,_,_⟩
   . rcases (hFc b).1 hF with h | ⟨k',hk',_,hm'⟩
     . exact g3 h
     exact h3 (hrel.dj k k' b hm hm'▸hk')
   rcases hF with hF | hF
   . omega
   obtain ⟨k',hk',hm'⟩:=(hL b).1 hF;exact h2 (hrel.dj k k' b hm hm'▸hk')
 . rcases hLL k b hm with ⟨h1,hm1⟩ | ⟨h1,h2,_,hm1⟩<;>rcases hLL k' b hm' with ⟨h3,hm3⟩ | ⟨h3,h4,_,hm3⟩
   . have:=hdj _ _ b hm1 hm3;obtain ⟨j,_,rfl⟩:=Fa.1 h1;obtain ⟨j',_,rfl⟩:=Fa.1 h3;omega
   . exact ((hnew _ b hm1).2.2.2.2 k' h4 hm3).elim
   . exact ((hnew _ b hm3).2.2.2.2 k h2 hm1).elim
   exact hrel.dj k k' b hm1 hm3
 . refine AR.map (LI d) hr λu c hc hcr=> ?_
   have hbk':=Bz hback c hc;cases c with
   | int | bool | str=>exact hcr
   | slc t n l=>
     cases t with
     | emp=>exact hcr
     | vw k=>cases hbk'
     | put=>exact hcr.elim
     | own b k=>
       cases b with
       | false=>
         show OwnTop J'.F (if 64*d+k∈Z6 d (Qw r.cells) then L' (64*d+k-64*d) else _) w' u _ _;rw[if_pos (Fa.2 ⟨k,S3 hc rfl,rfl⟩),yA];exact OwnTop.keep (F:=(UU Fc L w w' L').F) hcr (λb hb=>⟨hb,rfl⟩) λ_ _=>rfl
       | true=>
         show OwnDeep (if 64*d+k∈Z6 d (Qw r.cells) then L' (64*d+k-64*d) else _) w' u _ _;rw[if_pos (Fa.2 ⟨k,S3 hc rfl,rfl⟩),yA];exact hcr
     | sh=>exact VV.keep (X:=(UU Fc L w w' L').F) (λb hb=>⟨hb,rfl⟩) hcr
   | _=>cases hbk'
 . have hkk:kb≠k:=hne (kb,cs') rfl;obtain ⟨_,g2,g3,arr,e,g4,_⟩:=hrel.bo k c hk;have hlt:=Q7 g4;have hBne:J.B k≠J.B kb:=λe=>hkk (hrel.bi k kb c cs hk hbk e).symm
   have hnL:J.B k∉L:=λhm=>by obtain ⟨k',_,hm'⟩:=(hL _).1 hm;exact g3 k' hm'
   refine ⟨by simp,λhF=> ?_,λk' hm=> ?_,hS _ hlt hBne hnL⟩
   . rcases hF with hF | ⟨hF,_,_⟩
     . rcases (hFc _).1 hF with h | ⟨k',_,_,hm⟩
       . exact g2 h
       exact g3 k' hm
     rcases hF with hF | hF
     . omega
     exact hnL hF
   rcases hLL k' _ hm with ⟨_,hm⟩ | ⟨_,_,_,hm⟩
   . rcases (hlo _ _ hm).2 with h | h
     . omega
     exact hnL h
   exact g3 k' hm
 simp only[zM,zO] at hk;obtain ⟨rfl,rfl⟩:=hk;refine ⟨hb1,λhF=> ?_,λk' hm=> ?_, ?_,λk' c' hk' hne' hB=>hne' (hrel.bi k' kb c' cs hk' hbk hB)⟩
 . rcases hF with hF | ⟨hF,_,_⟩
   . exact (hFlt _ hF).2.1 rfl
   rcases hF with hF | hF
   . have hF:w.heap.size<=J.B kb:=hF;omega
   exact (hLlt _ hF).2.2.2 rfl
 . rcases hLL k' _ hm with ⟨_,hm⟩ | ⟨_,_,_,hm⟩
   . exact (hnew _ _ hm).2.2.1 rfl
   exact hb3 k' hm
 obtain ⟨arr,e,g1,g2⟩:=hbox;exact ⟨arr,e,g1,g2.imp λu c hc hcr=>hboxJ hc hcr⟩
theorem Qfi (hrel:Rel N w0 F0 J a w s) (d:Nat) (hd:d<N) {frz:List Nat} {cs:List C} (hpl:B9 Sl cs=true) {Fc:Nat->Prop} (hFc:∀b,Fc b↔J.F b\/∃k,k∈frz/\b∈J.L k) {e:Ending} {w':World} (hret:Qme Fc w cs e w'):
 ∃v J',e= .returned v/\Rel N w0 F0 J' (a.put (some d) v) w' (s.step (some d) ⟨.one (.ptr d 0),Yi frz,some d,some (d,cs)⟩):=by
 obtain ⟨b,rfl,hbel,hb0,hbox⟩:=hret;have h0:=hrel.below.size;have hsz:=hbel.size;have hsame:∀x,x<w.heap.size->w'.heap[x]? =w.heap[x]? :=hbel.block
 let J':Inj:=⟨λx=>Fc x\/(w.heap.size<=x/\x<w'.heap.size/\x≠b),λx=>if x∈frz then [] else J.L x,λx=>if x=d then b else J.B x⟩
 have hFlt:∀x,Fc x->x<w.heap.size:=λx hx=>by
  rcases (hFc x).1 hx with h | ⟨k,_,hm⟩
  . exact (hrel.fl x h).1
  exact (hrel.lo k x hm).2.1
 have hLL:∀k x,x∈J'.L k->k∉frz/\x∈J.L k:=λk x hm=>by
  have hm:x∈(if k∈frz then [] else J.L k):=hm;split at hm
  . simp at hm
  rename_i hn;exact ⟨hn,hm⟩
 have hnF:∀x,x<w.heap.size->¬J.F x->(∀k,x∉J.L k)->¬J'.F x:=λx hx h1 h2 hF=>by
  rcases hF with hF | ⟨hF,_,_⟩
  . rcases (hFc x).1 hF with h | ⟨k,_,hm⟩
    . exact h1 h
    exact h2 k hm
  omega
 refine ⟨_,J',rfl,hrel.upd (some d) (λd' e=>by cases e;exact hd) _ _ (hrel.below.trans (hbel.mono h0))
  ⟨λx hx=>⟨.inl ((hFc x).2 (.inl hx)),hsame x (hrel.fl x hx).1⟩,λk hk=> ?_,λk hk x hm=> ?_,λk k' hk=> ?_,λk t hk=> ?_,(λk hk=> ?_),λk d1 m i o cs1 hk=>by
   rw[Vr] at hk;split at hk<;>cases hk⟩
  ⟨λx hx=> ?_,λx hx=> .inl ((hFc x).2 (.inl (hrel.f0 x hx))),λk=> ?_,λk x hm=> ?_,λk k' x hm hm'=>hrel.dj k k' x (hLL k x hm).2 (hLL k' x hm').2⟩ (λ_=> ?_) (λk c hk hne=> ?_) (λk c hk=> ?_) (λk e=>by cases e;exact hd)⟩
 . rw[Vr] at hk;split at hk
   . cases hk
   rename_i hn;exact ⟨if_neg hn,λx hm=>hsame x (hrel.lo k x hm).2.1⟩
 . rw[Vr] at hk;split at hk
   . rename_i hn;exact ⟨.inl ((hFc x).2 (.inr ⟨k,hn,hm⟩)),hsame x (hrel.lo k x hm).2.1⟩
   cases hk
 . rw[Vr] at hk;split at hk<;>cases hk
 . rw[Vr] at hk;split at hk
   . simp at hk;exact .inl hk.symm
   cases hk
 . show (if k=d then b else J.B k)=J.B k;rw[if_neg λe=>hk (by simp[e])]
 . rcases hx with hx | ⟨h1,h2,_⟩
   . refine ⟨by have:=hFlt x hx;omega, ?_⟩;rcases (hFc x).1 hx with h | ⟨k,_,hm⟩
     . exact (hrel.fl x h).2
     exact .inr (hrel.lo k x hm).1
   exact ⟨h2,.inr (.inl (by omega))⟩
 . show (if _ then _ else _:List Nat).Nodup;split
   . simp
   exact hrel.nd k
 . obtain ⟨hn,hm⟩:=hLL k x hm;obtain ⟨g1,g2,g3⟩:=hrel.lo k x hm;refine ⟨g1,by omega,λhF=> ?_⟩;rcases hF with hF | ⟨hF,_,_⟩
   . rcases (hFc x).1 hF with h | ⟨k',hk',hm'⟩
     . exact g3 h
     exact hn (hrel.dj k k' x hm hm'▸hk')
   omega
 . show Value.pointer _=Value.pointer (some ⟨(if d=d then b else J.B d),0,none⟩);rw[if_pos rfl]
 . have hkd:k≠d:=λe=>hne (d,cs) rfl e.symm
   obtain ⟨_,g2,g3,arr,e,g4,_⟩:=hrel.bo k c hk;have hlt:=Q7 g4;exact ⟨by simpa using λe=>hkd e.symm,hnF _ hlt g2 g3,λk' hm=>g3 k' (hLL k' _ hm).2,hsame _ hlt⟩
 simp only[zM,zO] at hk;obtain ⟨rfl,rfl⟩:=hk;have hBd:J'.B d=b:=if_pos rfl;rw[hBd];obtain ⟨arr,e,g1,g2⟩:=hbox;refine ⟨.inl (by omega),λhF=> ?_,λk' hm=>by have:=(hrel.lo k' b (hLL k' b hm).2).2.1;omega,⟨arr,e,g1,KQ (J:=Qmd Fc b w w') (J':=J') (λx hx=>⟨hx,rfl⟩) g2 hpl⟩,λk' c' hk' _ hB=> ?_⟩
 . rcases hF with hF | ⟨_,_,hn⟩
   . have:=hFlt b hF;omega
   exact hn rfl
 obtain ⟨_,_,_,arr',e',h4,_⟩:=hrel.bo k' c' hk';have:=Q7 h4;omega
theorem Qfj {orc:Orc} {bn:List (Nat×List C)} {o:Oper} {avs:List AV} {r:Res} {obs:List Ob} (h:Qi5 orc bn o.dst o.op avs=some (r,obs)) (hob:AllOb (Zz P w0) (Ul P w0) obs) (hdst:∀d,o.dst=some d->d<N)
 (hrel:Rel N w0 F0 J a w s) (hops:All2 (λx v=>UR s x=some v) o.op.operands.toList avs) (hbn:∀k c,get bn k=some c->get s.bx k=some c) {K:Act->World->Prop} {Q:Exit->Act->World->Prop}
 (hK:∀J' a' w',Rel N w0 F0 J' a' w' (s.step o.dst r)->K a' w'):o.wp P a w K Q:=by
 have hv:=E9 hrel hops;generalize ho:o.op=op at h hv;generalize hd:o.dst=dst at h;unfold Qi5 at h;split at h
 rotate_left
 . cases h
 rename_i x args tys f avs;have hv':All2 (λx v=>AR J w (a.eval x) v) (x::args.toList) (.one (.fn f [])::avs):=by simpa [Op.operands,Call.operands] using hv
 obtain ⟨args⟩:=args;have hv':All2 (λx v=>AR J w (a.eval x) v) (x::args) (.one (.fn f [])::avs):=hv';cases hv' with
 | cons hx hrest=>
 have hx:a.eval x= .func (.func f) #[] #[]:=by simpa [AR,CR] using hx
 have hvals:(({toList:=args}:Array Operand).map a.eval++ #[])=(args.map a.eval).toArray:=by
  apply yS;simp
 split at h
 . rename_i g r' cs' d;split at h
   . rename_i b avs;split at h
     . rename_i cs eas hcs heas;cases hc:(B9 Sl cs&&B9 Sl cs'&&B9 EQ r'.cells&&G4 (Qw r'.cells)&&B9 Dc (Yx avs)&&N5 (Z6 d (Qw r'.cells)) (Qw (Yx avs))) with
       | false=>rw[hc] at h;cases h
       | true=>
         rw[hc] at h;simp only[cond_true,zM,zO] at h;obtain ⟨rfl,rfl⟩:=h;simp only[zF] at hc;obtain ⟨⟨⟨⟨⟨c1,c2⟩,c3⟩,c4⟩,c5⟩,c6⟩:=hc;obtain ⟨hfn,hcall⟩:LO P w0 f cs eas r' cs':=hob;cases hrest with
         | @cons px _ rest _ hptr hrest=>
         have hptr:a.eval px= .pointer (some ⟨J.B b,0,none⟩):=hptr;have hbk:=hbn b cs hcs;obtain ⟨hb1,hb2,hb3,arr0,e0,hb4,hb5⟩:=hrel.bo b cs hbk
         let F:Nat->Prop:=λz=>J.F z\/∃k,k∈Qw (Yx avs)/\k∉N7 g/\z∈J.L k
         let L:List Nat:=Qbd J g
         have hL:∀z,z∈L↔∃k,k∈N7 g/\z∈J.L k:=λz=>by
          cases g with
          | none=>simp[L,Qbd,N7]
          | some k=>simp[L,Qbd,N7]
         have hg:∀k,k∉N7 g↔g≠some k:=λk=>by
          cases g with
          | none=>simp[N7]
          | some k'=>simp[N7];exact ⟨λh e=>h e.symm,λh e=>h e.symm⟩
         have hLn:L.Nodup:=by
          cases g with
          | none=>exact zQ
          | some k=>exact hrel.nd k
         have hC:=hcall w hrel.below F L (J.B b) (rest.map a.eval) (λz hz=>hz.elim (λe=>e▸hb1) λhm=>by obtain ⟨k,_,hm⟩:=(hL z).1 hm;exact (hrel.lo k z hm).1) (λz (hz:J.F z\/_)=>hz.elim (λh=>(hrel.fl z h).1) λ⟨k,_,_,hm⟩=>(hrel.lo k z hm).2.1) hLn
          (λz hz=>by
           obtain ⟨k,hk,hm⟩:=(hL z).1 hz;obtain ⟨_,g2,g3⟩:=hrel.lo k z hm;exact ⟨g2,λhF=>hF.elim g3 λ⟨k',_,hn,hm'⟩=>hn (hrel.dj k k' z hm hm'▸hk)⟩)
          (λhF=>hF.elim hb2 λ⟨k,_,_,hm⟩=>hb3 k hm) (λhm=>by obtain ⟨k,_,hm⟩:=(hL _).1 hm;exact hb3 k hm)
          ⟨arr0,e0,hb4,KQ (J:=J) (J':=YX F) (λz hz=>⟨Or.inl hz,rfl⟩) hb5 c1⟩
          (AI (F:=F) (λz hz=>Or.inl hz) rfl (All2.of_map _ hrest) heas (λk hk hn z hm=>Or.inr ⟨k,hk,(hg k).2 hn,hm⟩) c5)
         refine Iy ho hx hfn ?_;rw[hvals,yL,hptr];refine hC.mono λe w' hret=> ?_
         obtain ⟨v,J',rfl,hR⟩:=Qbf hrel d (hdst d hd) (gs:=N7 g) (frz:=Qw (Yx avs)) hbk c3 c2 (λz=>Iff.rfl) hL (Fb c6) hret;rw[hd] at hK⊢;exact hK J' _ _ hR
     cases h
   cases h
 . rename_i cs d;split at h
   . rename_i eas heas;cases hc:(B9 Sl cs&&B9 Dc (Yx avs)) with
     | false=>rw[hc] at h;cases h
     | true=>
       rw[hc] at h;simp only[cond_true,zM,zO] at h;obtain ⟨rfl,rfl⟩:=h;simp only[zF] at hc;obtain ⟨hfn,hcall⟩:Qa6 P w0 f eas cs:=hob
       let F:Nat->Prop:=λz=>J.F z\/∃k,k∈Qw (Yx avs)/\z∈J.L k
       have hargs:=Lq (F:=F) (bn:= []) (λz hz=> .inl hz) (All2.of_map _ hrest) heas (λk hk z hz=> .inr ⟨k,hk,hz⟩) (.inl (Ru hc.2));have hC:=hcall w hrel.below F _ (λz hz=>hz.elim (λh=>(hrel.fl z h).1) λ⟨k,_,hm⟩=>(hrel.lo k z hm).2.1) hargs;refine Iy ho hx hfn ?_;rw[hvals];refine hC.mono λe w' hret=> ?_
       obtain ⟨v,J',rfl,hR⟩:=Qfi hrel d (hdst d hd) (frz:=Qw (Yx avs)) hc.1 (λz=>Iff.rfl) hret;rw[hd] at hK⊢;exact hK J' _ _ hR
   cases h
 cases h
end
end
section
open Go.RowKit
def KR (tt:List (Nat×TI)) (orc:Orc):Op->List AV->Option (AV×List Ob)
 | .slice t _ none hi none,.one (.slc (.own false k) n l)::r=>
   (match orc,get tt t with
   | .cut l',some ⟨.sli e,_,_,_⟩=>(match get tt e,N2 l.length hi r with
     | some ei,some (b, [])=>bif zV ei.size n then some (.one (.slc (.own false k) n l'), [.eq (.one (.slc (.own false k) n ((l.take b.toNat).drop (xD 0)))) (.one (.slc (.own false k) n l')),.rng 0 b l.length]) else none
     | _,_=>none)
   | _,_=>none)
 | _,_=>none
section
variable {P:Program} {A:Nat->List AV->AV->Prop} {T:TakeT} {J:Inj} {w:World}
theorem OwnTop.cut {F:Nat->Prop} {L:List Nat} {oa:Option Addr} {m cap n b:Nat} {l:List (List PV)} (h:OwnTop F L w (.slice oa m cap) n l) (hb:b<=l.length) (hm:m=l.length):
 OwnTop F L w (.slice oa b cap) n (l.take b):=by
 rcases h with ⟨rfl,oa',e⟩ | ⟨g,c,cur,e,hL,e1,hg,hs,hr,h1,h2⟩
 . have hb0:b=0:=by simpa using hb
   have:=(Value.slice.inj e);obtain ⟨e1,e2,e3⟩:=this;subst hb0;exact .inl ⟨by simp,oa,by rw[e3]⟩
 obtain ⟨e1,e2,e3⟩:=Value.slice.inj e1;subst e1 e3;have hlb:(l.take b).length=b:=by simp;omega
 refine .inr ⟨g,cap,cur,e,hL,by rw[hlb],hg,hs, ?_,by omega,⟨h2.1,by have:=h2.2;omega⟩⟩;have:=hr.take b;rw[hlb]
 rwa [List.take_take,yU (zR n hb)] at this
theorem RX {tt:List (Nat×TI)} (htt:Gs P tt=true) {orc:Orc} {op:Op} {avs:List AV} {v:AV} {obs:List Ob} (h:KR tt orc op avs=some (v,obs)) (hob:AllOb A T obs)
 {o:Oper} (ho:o.op=op) {ρ:Operand->Value} (hv:All2 (λx v=>AR J w (ρ x) v) op.operands.toList avs):
 ∃u,(execOp ρ o).run P w= .ok (.value u) w/\AR J w u v:=by
 unfold KR at h;split at h
 . rename_i t px hi k n l r;split at h
   . rename_i l' e n' z q hg;split at h
     . rename_i ei b hge hhi;cases hsz:zV ei.size n with
       | false=>rw[hsz] at h;cases h
       | true =>
         rw[hsz] at h;obtain ⟨rfl,rfl⟩:AV.one (.slc (.own false k) n l')=v/\ [Ob.eq (.one (.slc (.own false k) n ((l.take b.toNat).drop (xD 0)))) (.one (.slc (.own false k) n l')),Ob.rng 0 b l.length]=obs:=by simpa using h
         obtain ⟨heq,hob⟩:=AllOb.cons hob;have heq:AV.one (.slc (.own false k) n ((l.take b.toNat).drop (xD 0)))= .one (.slc (.own false k) n l'):=heq;obtain ⟨_,hab,hbl⟩:(0:Int)<=0/\0<=b/\b<=l.length:=hob;have hu:=(Zp htt hg).sli;have hs:=Ae (P:=P) (Zp htt hge) w;have hn:ei.size=n:=by simpa using hsz
         have hv':All2 (λx v=>AR J w (ρ x) v) (px::(hi.toArray.toList++ [])) (.one (.slc (.own false k) n l)::r):=by simpa [Op.operands] using hv
         cases hv' with
         | cons h1 h2=>
           obtain ⟨_,hhic⟩:=Lp hhi h2;have h1:CR J w (ρ px) (.slc (.own false k) n l):=h1;obtain ⟨oa,cap,e1,hlc,hcm,hemp⟩:=Tv h1
           have hsb:(Instr.sliceBounds true l.length cap none (hi.map ρ) none).run P w= .ok (0,b.toNat,cap) w:=by
            have e3:∀c,(match (hi.map ρ) with | some v=>Instr.sliceBound v cap c | none=>(pure l.length:Sem Nat)).run P w= .ok b.toNat w:=by
             intro c;rcases hhic with ⟨rfl,rfl⟩ | ⟨x,k,rfl,hx⟩
             . simp
             simp only[Option.map_some,hx];exact Rt (by omega) (by omega)
            unfold Instr.sliceBounds;simp only[Sem.run_bind,Sem.run_pure,Result.andThen_ok];have e3':=e3 .sliceAcap;revert e3';cases hi.map ρ<;>simp<;>intro e3'<;>simp_all
           have hrun:(execOp ρ o).run P w= .ok (.value (.slice oa b.toNat cap)) w:=by
            have e4:(if cap=0 then oa else oa.map (·.add (0*n)))=oa:=by
             split
             . rfl
             cases oa<;>simp[Addr.add]
            simp[execOp,ho,e1,Instr.sliceAt,run_underlying hu,Instr.slice,hsb,hs,hn];simpa using e4
           refine ⟨_,hrun, ?_⟩;rw[←heq];have h1:OwnTop J.F (J.L k) w (ρ px) n l:=h1;rw[e1] at h1;have h3:=h1.cut (b:=b.toNat) (by omega) rfl;show OwnTop J.F (J.L k) w _ n ((l.take b.toNat).drop (xD 0));simpa using h3
     cases h
   cases h
 cases h
end
end
end Go.Proofs.YtnnhlokdfkajnaaGreat
