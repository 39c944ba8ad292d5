/- Texts of this proof, put together by a program: Zb, Gs, Mv, Mi. -/
import Derived.Test.YtkbmchfkaibelaaGreatDoorP1
import Derived.Great.BuildSlice
import Derived.Deep.AppendSrc
import Derived.Deep.DeepAppendWide
import Derived.Lib.SmallJoins
import Derived.Lib.LaidTab
import Derived.Lib.Space
import Derived.Lib.ItoaNum
import Derived.KernelRfl
import Derived.Laws.MakeOwn
set_option linter.unusedVariables false
set_option linter.unusedSimpArgs false
namespace Go.Proofs.YtkbmchfkaibelaaGreatDoor
section
open Go.RowKit
theorem Ul {k:Nat}:∀{l:List Nat},C9 k l=true↔k∈l
 | []=>by simp[C9]
 | x::r=>by
   simp only[C9,Bool.or_eq_true,Nat.beq_eq,Ul (l:=r),List.mem_cons];exact ⟨fun h=>h.elim (fun e=> .inl e.symm) .inr,fun h=>h.elim (fun e=> .inl e.symm) .inr⟩
theorem Um:∀{l:List Nat},Vy l=true↔l.Nodup
 | []=>by simp[Vy]
 | x::r=>by
   simp only[Vy,Bool.and_eq_true,Bool.not_eq_true',List.nodup_cons,Um (l:=r)];exact ⟨fun h=>⟨fun hm=>by rw[Ul.2 hm] at h;exact absurd h.1 (by simp),h.2⟩,fun h=>⟨by cases hm:C9 x r with | false=>rfl | true=>exact absurd (Ul.1 hm) h.1,h.2⟩⟩
section
variable {N:Nat} {w0:Base} {F0:Nat->Prop} {J J':Inj} {a:Act} {w w':World} {s:St}
theorem Rel.grab3 (h:Rel N w0 F0 J a w s) (dst:Option Nat) (hdst:∀d,dst=some d->d<N) (r:Res) (v:Value) (nk:Nat) (gone:List Nat) (hkb:r.kb=none) (hbx:r.bx=none)
 (hb:w0.Keeps w') (hsz:w.heap.size<=w'.heap.size) (hB:J'.B=J.B) (hL:∀k,k≠nk->J'.L k=if k∈gone then [] else J.L k)
 (hF1:∀b,J.F b->J'.F b) (hF2:∀b,J'.F b->J.F b\/((∃k,k∈gone/\b∈J.L k)/\b∉J'.L nk)\/(w.heap.size<=b/\b<w'.heap.size/\b∉J'.L nk))
 (hrl:∀k,k∉gone->k≠nk->get r.rl k=none) (hnk:nk∉gone->get r.rl nk=some none)
 (hT:∀k,k∈gone->get r.rl k=some none\/(get r.rl k=some (some .sh)/\∀b,b∈J.L k->J'.F b/\w'.heap[b]? =w.heap[b]?)\/(get r.rl k=some (some (.vw nk))/\∀b,b∈J.L k->(b∈J'.L nk\/J'.F b)/\w'.heap[b]? =w.heap[b]?))
 (hS:∀b,b<w.heap.size->(∀k,k∈gone->b∉J.L k)->w'.heap[b]? =w.heap[b]?)
 (hN1:(J'.L nk).Nodup) (hN2:∀b,b∈J'.L nk->b<w'.heap.size/\(w.heap.size<=b\/∃k,k∈gone/\b∈J.L k))
 (hv:dst≠none->AR J' w' v r.av):Rel N w0 F0 J' (a.put dst v) w' (s.step dst r):=by
 have hnot:∀b,J.F b->∀k,b∉J.L k:=fun b hF k hm=>(h.lo k b hm).2.2 hF
 have hFn:∀b,J'.F b->b∉J'.L nk:=fun b hF hm=>by
  rcases hF2 b hF with hF | ⟨_,hn⟩ | ⟨_,_,hn⟩
  . rcases (hN2 b hm).2 with hge | ⟨k,_,hk⟩
    . have:=(h.fl b hF).1;omega
    exact hnot b hF k hk
  . exact hn hm
  exact hn hm
 have h0:w0.w.heap.size<=w.heap.size:=h.below.size
 refine h.upd dst hdst r v hb ⟨fun b hF=>⟨hF1 b hF,hS b (h.fl b hF).1 fun k _=>hnot b hF k⟩,fun k hk=> ?_,fun k hk b hm=> ?_,fun k k' hk b hm=> ?_,fun k t hk=> ?_,fun k _=>by rw[hB],fun k d m i o cs hk=>by
  have hg:k∈gone:=Classical.byContradiction fun hg=>by
   by_cases hn:k=nk
   . subst hn;rw[hnk hg] at hk;cases hk
   rw[hrl k hg hn] at hk;cases hk
  rcases hT k hg with e | ⟨e,_⟩ | ⟨e,_⟩<;>rw[e] at hk<;>cases hk⟩
  ⟨fun b hF=> ?_,fun b hF=>hF1 b (h.f0 b hF),fun k=> ?_,fun k b hm=> ?_,fun k k' b hm hm'=> ?_⟩ hv (fun k c hk _=> ?_) (fun k c hk=>by rw[hbx] at hk;cases hk) (fun k e=>by rw[hkb] at e;cases e)
 . have hg:k∉gone:=fun hg=>by
    rcases hT k hg with e | ⟨e,_⟩ | ⟨e,_⟩<;>rw[e] at hk<;>cases hk
   have hn:k≠nk:=fun e=>by subst e;rw[hnk hg] at hk;cases hk
   refine ⟨by rw[hL k hn,if_neg hg],fun b hm=>hS b (h.lo k b hm).2.1 fun k' hk' hm'=> ?_⟩;exact hg (h.dj k k' b hm hm'▸hk')
 . have hg:k∈gone:=Classical.byContradiction fun hg=>by
    by_cases hn:k=nk
    . subst hn;rw[hnk hg] at hk;cases hk
    rw[hrl k hg hn] at hk;cases hk
   rcases hT k hg with e | ⟨_,e⟩ | ⟨e,_⟩
   . rw[e] at hk;cases hk
   . exact e b hm
   rw[e] at hk;cases hk
 . have hg:k∈gone:=Classical.byContradiction fun hg=>by
    by_cases hn:k=nk
    . subst hn;rw[hnk hg] at hk;cases hk
    rw[hrl k hg hn] at hk;cases hk
   rcases hT k hg with e | ⟨e,_⟩ | ⟨e',e⟩
   . rw[e] at hk;cases hk
   . rw[e] at hk;cases hk
   rw[e'] at hk;obtain rfl:nk=k':=by simpa using hk
   exact e b hm
 . have hg:k∈gone:=Classical.byContradiction fun hg=>by
    by_cases hn:k=nk
    . subst hn;rw[hnk hg] at hk;cases hk
    rw[hrl k hg hn] at hk;cases hk
   rcases hT k hg with e | ⟨e,_⟩ | ⟨e,_⟩<;>rw[e] at hk
   . cases hk
   . exact .inl (by simpa using hk.symm)
   exact .inr (.inl ⟨nk,by simpa using hk.symm⟩)
 . rcases hF2 b hF with hF | ⟨⟨k,_,hm⟩,_⟩ | ⟨h1,h2,_⟩
   . have:=h.fl b hF;exact ⟨by omega,this.2⟩
   . have:=h.lo k b hm;exact ⟨by omega, .inr this.1⟩
   exact ⟨h2, .inr (.inl (by omega))⟩
 . by_cases hk:k=nk
   . rw[hk];exact hN1
   rw[hL k hk];split
   . simp
   exact h.nd k
 . by_cases hk:k=nk
   . subst hk;obtain ⟨h1,h2⟩:=hN2 b hm;refine ⟨?_,h1,fun hF=>hFn b hF hm⟩;rcases h2 with h2 | ⟨k',_,hm'⟩
     . exact .inl (by omega)
     exact (h.lo k' b hm').1
   rw[hL k hk] at hm;split at hm
   . simp at hm
   rename_i hg;obtain ⟨h1,h2,h3⟩:=h.lo k b hm;refine ⟨h1,by omega,fun hF=> ?_⟩;rcases hF2 b hF with hF | ⟨⟨k',hg',hm'⟩,_⟩ | ⟨h4,_,_⟩
   . exact h3 hF
   . exact hg (h.dj k k' b hm hm'▸hg')
   omega
 . have key:∀k,k≠nk->b∈J'.L nk->b∈J'.L k->False:=fun k hk h1 h2=>by
    rw[hL k hk] at h2;split at h2
    . simp at h2
    rename_i hg;rcases (hN2 b h1).2 with hge | ⟨k',hg',hm'⟩
    . have:=(h.lo k b h2).2.1;omega
    exact hg (h.dj k k' b h2 hm'▸hg')
   by_cases hk:k=nk
   . by_cases hk':k'=nk
     . rw[hk,hk']
     subst hk;exact (key k' hk' hm hm').elim
   by_cases hk':k'=nk
   . subst hk';exact (key k hk hm' hm).elim
   rw[hL k hk] at hm;rw[hL k' hk'] at hm';split at hm
   . simp at hm
   split at hm'
   . simp at hm'
   exact h.dj k k' b hm hm'
 obtain ⟨h1,h2,h3,arr,e,h4,_⟩:=h.bo k c hk;refine ⟨by rw[hkb];simp,fun hF=> ?_,fun k' hm=> ?_,hS _ (Q2 h4) fun k' _=>h3 k'⟩
 . rcases hF2 _ hF with hF | ⟨⟨k',_,hm⟩,_⟩ | ⟨h9,_,_⟩
   . exact h2 hF
   . exact h3 k' hm
   have:=Q2 h4;omega
 by_cases hk':k'=nk
 . subst hk';rcases (hN2 _ hm).2 with hge | ⟨k'',_,hm'⟩
   . have:=Q2 h4;omega
   exact h3 k'' hm'
 rw[hL k' hk'] at hm;split at hm
 . simp at hm
 exact h3 k' hm
theorem Rel.grab (h:Rel N w0 F0 J a w s) (dst:Option Nat) (hdst:∀d,dst=some d->d<N) (r:Res) (v:Value) (nk:Nat) (gone:List Nat) (hkb:r.kb=none) (hbx:r.bx=none)
 (hb:w0.Keeps w') (hsz:w.heap.size<=w'.heap.size) (hB:J'.B=J.B) (hL:∀k,k≠nk->J'.L k=if k∈gone then [] else J.L k)
 (hF1:∀b,J.F b->J'.F b) (hF2:∀b,J'.F b->J.F b\/(∃k,k∈gone/\b∈J.L k)/\b∉J'.L nk)
 (hrl:∀k,k∉gone->k≠nk->get r.rl k=none) (hnk:nk∉gone->get r.rl nk=some none)
 (hT:∀k,k∈gone->get r.rl k=some none\/(get r.rl k=some (some .sh)/\∀b,b∈J.L k->J'.F b/\w'.heap[b]? =w.heap[b]?)\/(get r.rl k=some (some (.vw nk))/\∀b,b∈J.L k->(b∈J'.L nk\/J'.F b)/\w'.heap[b]? =w.heap[b]?))
 (hS:∀b,b<w.heap.size->(∀k,k∈gone->b∉J.L k)->w'.heap[b]? =w.heap[b]?)
 (hN1:(J'.L nk).Nodup) (hN2:∀b,b∈J'.L nk->b<w'.heap.size/\(w.heap.size<=b\/∃k,k∈gone/\b∈J.L k))
 (hv:dst≠none->AR J' w' v r.av):Rel N w0 F0 J' (a.put dst v) w' (s.step dst r):=
 h.grab3 dst hdst r v nk gone hkb hbx hb hsz hB hL hF1 (fun b hb=>(hF2 b hb).imp id .inl) hrl hnk hT hS hN1 hN2 hv
def Inj.box (J:Inj) (d b:Nat):Inj:=⟨J.F,J.L,fun k=>if k=d then b else J.B k⟩
theorem Keeps.box {c:C} (hc:Eu c=true) (hw:∀b,b<w.heap.size->w'.heap[b]? =w.heap[b]?) (h:Rel N w0 F0 J a w s) (d b:Nat):Keeps J (J.box d b) w w' c:=by
 refine ⟨fun x hx=>⟨hx,hw x (h.fl x hx).1⟩,fun k _=>⟨rfl,fun x hx=>hw x (h.lo k x hx).2.1⟩,fun k hk=> ?_⟩;cases c<;>simp_all [C.bkeys,Eu]
theorem All2.box {vs:List Value} {cs:List C} (hv:All2 (CR J w) vs cs) (hc:Vm Eu cs=true) (hw:∀b,b<w.heap.size->w'.heap[b]? =w.heap[b]?) (h:Rel N w0 F0 J a w s) (d b:Nat):All2 (CR (J.box d b) w') vs cs:=by
 induction hv with
 | nil=>exact .nil
 | cons h1 _ ih=>
   simp only[Vm,Bool.and_eq_true] at hc;exact .cons (h1.keep (Keeps.box hc.1 hw h d b)) (ih hc.2)
theorem Rel.alloc (h:Rel N w0 F0 J a w s) (d:Nat) (hd:d<N) (arr:Array Value) (e:TypeId) (cs:List C) (hc:Vm Eu cs=true) (hv:All2 (CR J w) arr.toList cs):
 Rel N w0 F0 (J.box d w.heap.size) (a.put (some d) (.pointer (some ⟨w.heap.size,0,none⟩))) (w.alloc (.cells arr e (0,0))) (s.step (some d) ⟨.one (.ptr d 0), [],some d,some (d,cs)⟩):=by
 have hw:∀b,b<w.heap.size->(w.alloc (.cells arr e (0,0))).heap[b]? =w.heap[b]? :=fun b hb=>Below.heap_alloc w _ b hb
 have h0:=h.below.size;have hz:(w.alloc (.cells arr e (0,0))).heap.size=w.heap.size+1:=by simp
 refine h.upd (some d) (fun d' e=>by cases e;exact hd) _ _ (h.below.alloc h0 _) ⟨fun b hb=>⟨hb,hw b (h.fl b hb).1⟩,fun k _=>⟨rfl,fun b hb=>hw b (h.lo k b hb).2.1⟩,(fun _ hk=>by cases hk),(fun _ _ hk=>by cases hk),(fun _ _ hk=>by cases hk),(fun k hk=> ?_),(fun _ _ _ _ _ _ hk=>by cases hk)⟩
  ⟨fun b hb=>⟨by have:=(h.fl b hb).1;omega,(h.fl b hb).2⟩,h.f0,h.nd,fun k b hb=>⟨(h.lo k b hb).1,by have:=(h.lo k b hb).2.1;omega,(h.lo k b hb).2.2⟩,h.dj⟩ (fun _=> ?_) (fun k c hk hne=> ?_) (fun k c hk=> ?_) (fun k e=>by cases e;exact hd)
 . show (if k=d then _ else J.B k)=J.B k;rw[if_neg (fun e=>hk (by simp[e]))]
 . show Value.pointer _=_;simp[Inj.box]
 . have hkd:k≠d:=fun e=>hne (d,cs) rfl e.symm
   obtain ⟨h1,h2,h3,arr',e',h4,_⟩:=h.bo k c hk;exact ⟨by simpa using fun e=>hkd e.symm,h2,h3,hw _ (Q2 h4)⟩
 simp only[Option.some.injEq,Prod.mk.injEq] at hk;obtain ⟨rfl,rfl⟩:=hk;have hBd:(J.box d w.heap.size).B d=w.heap.size:=by simp[Inj.box]
 rw[hBd];refine ⟨.inl h0,fun hF=>by have:=(h.fl _ hF).1;omega,fun k' hm=>by have:=(h.lo k' _ hm).2.1;omega,⟨arr,e,heap_alloc_new w _,hv.box hc hw h d _⟩,fun k' c' hk' _ hB=> ?_⟩;obtain ⟨_,_,_,arr',e',h4,_⟩:=h.bo k' c' hk';have:=Q2 h4;omega
theorem Rel.store (h:Rel N w0 F0 J a w s) (dst:Option Nat) (hdst:∀d,dst=some d->d<N) (k:Nat) (cells cs:List C) (hk:get s.bx k=some cells) (arr arr':Array Value) (e:TypeId) (hg:w.heap[J.B k]? =some (.cells arr e (0,0)))
 (hw:w'.heap[J.B k]? =some (.cells arr' e (0,0))) (hw':∀b,b≠J.B k->w'.heap[b]? =w.heap[b]?) (ho:w'.os=w.os) (ht:w'.tape=w.tape) (hu:w'.output=w.output) (hz:w'.heap.size=w.heap.size) (hv:All2 (CR J w) arr'.toList cs) (v:Value):
 Rel N w0 F0 J (a.put dst v) w' (s.step dst ⟨.one .dead, [],none,some (k,cs)⟩):=by
 obtain ⟨hb0,hbF,hbL,_⟩:=h.bo k cells hk;have hF:∀b,J.F b->w'.heap[b]? =w.heap[b]? :=fun b hb=>hw' b fun e=>hbF (e▸hb)
 have hL:∀k' b,b∈J.L k'->w'.heap[b]? =w.heap[b]? :=fun k' b hb=>hw' b fun e=>hbL k' (e▸hb)
 have hkeep:∀c,Keeps J J w w' c:=fun c=>⟨fun b hb=>⟨hb,hF b hb⟩,fun k' _=>⟨rfl,hL k'⟩,fun _ _=>rfl⟩
 refine h.upd dst hdst _ v (h.below.step ho ht hu (by omega) fun b _ hb=>hw' b fun e=>hb (e▸hb0)) ⟨fun b hb=>⟨hb,hF b hb⟩,fun k' _=>⟨rfl,hL k'⟩,(fun _ hk=>by cases hk),(fun _ _ hk=>by cases hk),(fun _ _ hk=>by cases hk),(fun _ _=>rfl),(fun _ _ _ _ _ _ hk=>by cases hk)⟩
  ⟨fun b hb=>⟨by have:=(h.fl b hb).1;omega,(h.fl b hb).2⟩,h.f0,h.nd,fun k b hb=>⟨(h.lo k b hb).1,by have:=(h.lo k b hb).2.1;omega,(h.lo k b hb).2.2⟩,h.dj⟩ (fun _=>trivial) (fun k' c' hk' hne=> ?_) (fun k' c' hk'=> ?_)
 . have hkk:k≠k':=hne (k,cs) rfl;obtain ⟨_,h2,h3,_⟩:=h.bo k' c' hk';exact ⟨by simp,h2,h3,hw' _ fun e=>hkk (h.bi k' k c' cells hk' hk e).symm⟩
 simp only[Option.some.injEq,Prod.mk.injEq] at hk';obtain ⟨rfl,rfl⟩:=hk';refine ⟨hb0,hbF,hbL,⟨arr',e,hw,hv.imp fun x c _ hc=>hc.keep (hkeep c)⟩,fun k' c' hk' hne hB=> ?_⟩;exact hne (h.bi k' k c' cells hk' hk hB)
end
end
section
open Go.RowKit
def TU (tt:List (Nat×TI)) (bn:List (Nat×List C)) (dst:Option Nat):Op->List AV->Option (Res×List Ob)
 | .alloc t, []=>
   (match dst,get tt t with
   | some d,some ti=>bif Vm Eu ti.zero then some (⟨.one (.ptr d 0), [],some d,some (d,ti.zero)⟩, []) else none
   | _,_=>none)
 | .box _ _, [v]=>
   (match dst,v.flatCells with
   | some d,some cs=>bif Wn cs&&Vm Eu cs then some (⟨.one (.ptr d 0), [],some d,some (d,cs)⟩, []) else none
   | _,_=>none)
 | .store t _ _, [.one (.ptr k off),v]=>
   (match get tt t,get bn k,v.flatCells with
   | some ti,some cells,some cs=>bif Nat.beq cs.length ti.size&&Wn cs&&Nat.ble (off+ti.size) cells.length then some (⟨.one .dead, [],none,some (k,cells.take off++cs++cells.drop (off+ti.size))⟩, []) else none
   | _,_,_=>none)
 | .buildSlice t len ps,avs=>
   (match dst,get tt t,G0 0 ps.toList avs with
   | some d,some ⟨.sli e,_,_,_⟩,some css=>(match get tt e,ZF css with
     | some ei,some rows=>bif Nat.beq css.length len&&Ps ei.size css&&Nat.ble (len*ei.size) 1000&&Nat.blt 0 ei.size&& !(C9 (64*d) (Ql css.flatten))&&Vy (Ql css.flatten) then
      some (bif Cy css.flatten then ⟨.one (.slc (.own true (64*d)) ei.size rows),(64*d,none)::Mm (64*d) (Ql css.flatten),none,none⟩
       else ⟨.one (.slc (.own false (64*d)) ei.size rows),(64*d,none)::Xo (Ql css.flatten),none,none⟩, [])
       else none
     | _,_=>none)
   | _,_,_=>none)
 | _,_=>none
section
variable {P:Program} {N:Nat} {w0:Base} {F0:Nat->Prop} {J:Inj} {a:Act} {w:World} {s:St}
theorem We {o:Oper} {K:Act->World->Prop} {Q:Exit->Act->World->Prop} {v:Value} {w':World} (h:(execOp a.eval o).run P w= .ok (.value v) w') (k:K (a.put o.dst v) w'):o.wp P a w K Q:=by
 unfold Oper.wp;rw[h];exact k
theorem Mn {o:Oper} {K:Act->World->Prop} {Q:Exit->Act->World->Prop} {w':World} (h:(execOp a.eval o).run P w= .ok .skip w') (k:K (a.put o.dst undef) w'):o.wp P a w K Q:=by
 unfold Oper.wp;rw[h];exact k
theorem CL {v:Value} {x:AV} (h:WG v=some x):AR J w v x:=by
 unfold WG at h;split at h
 . rename_i k n;cases hb:(decide (k.min<=n)&&decide (n<=k.max)) with
   | false=>rw[hb] at h;cases h
   | true=>
     rw[hb] at h;obtain rfl:=Option.some.inj h;simp at hb;exact ⟨rfl,hb⟩
 . obtain rfl:=Option.some.inj h;rfl
 . rename_i t;cases hb:Nat.ble t.size 1000000 with
   | false=>rw[hb] at h;cases h
   | true=>
     rw[hb] at h;obtain rfl:=Option.some.inj h;exact ⟨rfl,Nat.le_trans (by simpa using hb) (by decide)⟩
 . obtain rfl:=Option.some.inj h;exact ⟨rfl,none,rfl⟩
 . obtain rfl:=Option.some.inj h;exact trivial
 cases h
theorem TV (h:Rel N w0 F0 J a w s) {x:Operand} {v:AV} (hx:Pp s x=some v):AR J w (a.eval x) v:=by
 cases x with
 | tmp t=>exact h.tm t v hx
 | const c=>exact CL hx
 | func f=>obtain rfl:=Option.some.inj hx;rfl
 | global g=>cases hx
theorem Un (h:Rel N w0 F0 J a w s) {xs:List Operand} {vs:List AV} (hx:All2 (fun x v=>Pp s x=some v) xs vs):All2 (fun x v=>AR J w (a.eval x) v) xs vs:=hx.imp fun _ _ _ hv=>TV h hv
theorem AD {n:Nat}:∀(vs:List Value) (i:Nat) (cells:Array Value),(∀v,v∈vs->v.cells.size=n)->cells.size=(i+vs.length)*n->
 ∃out,Instr.fill (fun i=>some (i*n,n)) cells ((List.range' i vs.length).zip vs)=some out/\out.toList=cells.toList.take (i*n)++vs.flatMap (·.cells.toList)
 | [],i,cells,_,hs=>⟨cells,rfl,by simp;rw[List.take_of_length_le (by simp[hs])]⟩
 | v ::vs,i,cells,hn,hs=>by
   have hvn:=hn v List.mem_cons_self
   have hfit:i*n+v.cells.toList.length<=cells.size:=by
    simp only[Array.length_toList,hvn,hs,List.length_cons];have:(i+1)*n<=(i+(vs.length+1))*n:=Nat.mul_le_mul_right _ (by omega);rw[Nat.add_mul,Nat.one_mul] at this;exact this
   have hput:=Px v.cells.toList (i*n) 0 cells hfit;rw[Nat.add_zero] at hput
   have hput':v.cells.zipIdx.foldl (fun cs x=>cs.setIfInBounds (i*n+x.2) x.1) cells=putCells cells (i*n) v.cells.toList:=by
    rw[←hput,←Array.foldl_toList];simp
   obtain ⟨out,h1,h2⟩:=AD (n:=n) vs (i+1) (putCells cells (i*n) v.cells.toList) (fun u hu=>hn u (List.mem_cons_of_mem _ hu)) (by rw[Bh,hs,List.length_cons];congr 1;omega);refine ⟨out, ?_, ?_⟩
   . simp only[List.length_cons,List.range'_succ,List.zip_cons_cons,Instr.fill];rw[if_neg (by simp[hvn];simpa [hvn] using hfit)];exact (congrArg (fun z=>Instr.fill _ z _) hput').trans h1
   rw[h2,Dr hfit]
   have hl:(cells.toList.take (i*n)++v.cells.toList).length=(i+1)*n:=by
    simp only[List.length_append,List.length_take,Array.length_toList,hvn,Nat.add_mul,Nat.one_mul];rw[Nat.min_eq_left (by simp[hvn] at hfit;omega)]
   rw[←hl,List.take_left];simp
theorem AE :∀{ps:List (Nat×Operand)} {avs:List AV} {css:List (List C)} {i n:Nat} {ρ:Operand->Value},G0 i ps avs=some css->Ps n css=true->All2 (fun x v=>AR J w (ρ x) v) (ps.map (·.2)) avs->
 (ps.map fun p=>(p.1,ρ p.2))=(List.range' i css.length).zip (ps.map fun p=>ρ p.2)/\ps.length=css.length/\(∀v,v∈ps.map (fun p=>ρ p.2)->v.cells.size=n)/\All2 (CR J w) ((ps.map fun p=>ρ p.2).flatMap (·.cells.toList)) css.flatten
 | [], [],css,i,n,ρ,h,_,_=>by
   obtain rfl: []=css:=by simpa [G0] using h
   exact ⟨rfl,rfl,by simp, .nil⟩
 | [],_::_,_,_,_,_,h,_,_=>by simp[G0] at h
 | _::_, [],_,_,_,_,h,_,_=>by simp[G0] at h
 | (j, x) ::ps,v::avs,css,i,n,ρ,h,hl,hv=>by
   simp only[G0] at h;cases hij:Nat.beq i j with
   | false=>rw[hij] at h;cases h
   | true =>
     rw[hij] at h;obtain rfl:i=j:=by simpa using hij
     simp only[cond_true] at h;split at h
     . rename_i cs r hc hr;obtain rfl:=Option.some.inj h;simp only[Ps,Bool.and_eq_true,Nat.beq_eq] at hl;cases hv with
       | cons h1 h2=>
         obtain ⟨e1,e2,e3,e4⟩:=AE hr hl.2 h2;have hcl:=Da h1 hc hl.1.2;have hcn:(ρ x).cells.size=n:=by have:=hcl.length;simp at this;omega
         refine ⟨?_,by simp[e2],fun u hu=> ?_, ?_⟩
         . simp only[List.map_cons,List.length_cons,List.range'_succ,List.zip_cons_cons,e1]
         . simp only[List.map_cons,List.mem_cons] at hu;rcases hu with rfl | hu
           . exact hcn
           exact e3 u hu
         simp only[List.map_cons,List.flatMap_cons,List.flatten_cons];exact hcl.append e4
     cases h
def Inj.of (J:Inj):List C->List Nat
 | []=> []
 | .slc (.own true k) _ _::r=>J.L k++J.of r
 | _::r=>J.of r
theorem FC {X : Nat -> Prop} {w' : World} {v :Value} {c:C} {p:PV} (h:CR J w v c) (hp:Qcj c=some p) (hF:∀b,J.F b->X b/\w'.heap[b]? =w.heap[b]?) (hL:∀k,c.key=some k->∀b,b∈J.L k->X b/\w'.heap[b]? =w.heap[b]?):VV X w' v p:=by
 cases c with
 | int=>obtain rfl:=Option.some.inj hp;obtain ⟨rfl,h⟩:=h;exact .int h
 | bool=>obtain rfl:=Option.some.inj hp;obtain rfl:=h;exact .bool _
 | str=>obtain rfl:=Option.some.inj hp;obtain ⟨rfl,h⟩:=h;exact .str h
 | slc t n l=>
   obtain rfl:=Option.some.inj hp;cases t with
   | sh=>exact VV.keep hF h
   | emp=>obtain ⟨rfl,oa,rfl⟩:=h;exact .emp oa n (Nat.zero_le _)
   | vw k => exact VV.keep (fun b hb => by rcases hb with hb | hb
                                           . exact hL k rfl b hb
                                           exact hF b hb) h
   | own d k=>
     cases d with
     | true=>exact OwnDeep.vv h (hL k rfl)
     | false=>exact OwnTop.vv h hF (hL k rfl)
   | put=>exact h.elim
 | raw u=>obtain rfl:=Option.some.inj hp;obtain ⟨rfl,h1,h2⟩:=h;exact .raw h1 h2
 | _=>cases hp
theorem Ix {X : Nat -> Prop} {w' : World}:∀{vs:List Value} {cs:List C} {ps:List PV},All2 (CR J w) vs cs->Ba cs=some ps->(∀b,J.F b->X b/\w'.heap[b]? =w.heap[b]?)->(∀k,k∈Ql cs->∀b,b∈J.L k->X b/\w'.heap[b]? =w.heap[b]?)->VC X w' vs ps
 | _, _, ps, .nil, h, _, _ => by obtain rfl: []=ps:=by simpa [Ba] using h
                                 exact .nil
 | _,_,ps, .cons (b:=c) h1 h2,h,hF,hL=>by
   simp only[Ba] at h;split at h
   . rename_i p ps' e1 e2;obtain rfl:=Option.some.inj h;exact .cons (FC h1 e1 hF fun k hk=>hL k (by simp[Ql,hk])) (Ix h2 e2 hF fun k hk=>hL k (by simp only[Ql];exact List.mem_append_right _ hk))
   cases h
theorem TW {w':World} {v:Value} {c:C} {p:PV} (h:CR J w v c) (hp:Qcj c=some p) (hd:TP c=true) (hL:∀k,c.key=some k->∀b,b∈J.L k->w'.heap[b]? =w.heap[b]?):∃L,OV w' L v p/\L.Nodup/\∀b,b∈L->b∈J.of [c]:=by
 cases c with
 | int=>obtain rfl:=Option.some.inj hp;obtain ⟨rfl,h⟩:=h;exact ⟨[], .int h,List.nodup_nil,fun b hb=>by simp at hb⟩
 | bool=>obtain rfl:=Option.some.inj hp;obtain rfl:=h;exact ⟨[], .bool _,List.nodup_nil,fun b hb=>by simp at hb⟩
 | str=>obtain rfl:=Option.some.inj hp;obtain ⟨rfl,h⟩:=h;exact ⟨[], .str h,List.nodup_nil,fun b hb=>by simp at hb⟩
 | slc t n l=>
   obtain rfl:=Option.some.inj hp;cases t with
   | emp=>obtain ⟨rfl,oa,rfl⟩:=h;exact ⟨[], .emp oa n,List.nodup_nil,fun b hb=>by simp at hb⟩
   | own d k=>
     cases d with
     | true=>
       simp only[Inj.of,List.append_nil];obtain ⟨L,h1,h2,h3,_⟩:=h;exact ⟨L,OV.keep h1 fun b hb=>hL k rfl b (h3 b hb),h2,h3⟩
     | false=>cases hd
   | _=>cases hd
 | raw u=>obtain rfl:=Option.some.inj hp;obtain ⟨rfl,h1,h2⟩:=h;exact ⟨[], .raw h1 h2,List.nodup_nil,fun b hb=>by simp at hb⟩
 | _=>cases hp
theorem Inj.of_cons (J:Inj) (c:C) (r:List C):J.of (c::r)=J.of [c]++J.of r:=by
 cases c with
 | slc t n l=>cases t with
   | own d k=>cases d<;>simp[Inj.of]
   | _=>simp[Inj.of]
 | _=>simp[Inj.of]
theorem QZ {w' : World} : ∀ {vs : List Value} {cs:List C} {ps:List PV},All2 (CR J w) vs cs->Ba cs=some ps->Cy cs=true->(J.of cs).Nodup->(∀k,k∈Ql cs->∀b,b∈J.L k->w'.heap[b]? =w.heap[b]?)->∃L,OC w' L vs ps/\L.Nodup/\∀b,b∈L->b∈J.of cs
 | _, _, ps, .nil, h, _, _, _ => by obtain rfl: []=ps:=by simpa [Ba] using h
                                    exact ⟨[], .nil,List.nodup_nil,fun b hb=>by simp at hb⟩
 | _, _,ps, .cons (b:=c) h1 h2,h,hd,hn,hL=>by
   simp only[Ba] at h;simp only[Cy,Bool.and_eq_true] at hd;split at h
   . rename_i p ps' e1 e2;obtain rfl:=Option.some.inj h;rw[Inj.of_cons] at hn⊢;obtain ⟨hn1,hn2,hn3⟩:=List.nodup_append.1 hn;obtain ⟨L1,a1,a2,a3⟩:=TW h1 e1 hd.1 fun k hk=>hL k (by simp[Ql,hk])
     obtain ⟨L2,b1,b2,b3⟩:=QZ h2 e2 hd.2 hn2 fun k hk=>hL k (by simp only[Ql];exact List.mem_append_right _ hk)
     refine ⟨L1++L2, .cons a1 b1,List.nodup_append.2 ⟨a2,b2,fun x hx y hy=>hn3 x (a3 x hx) y (b3 y hy)⟩,fun b hb=> ?_⟩;rcases List.mem_append.1 hb with hb | hb
     . exact List.mem_append_left _ (a3 b hb)
     exact List.mem_append_right _ (b3 b hb)
   cases h
theorem Gg {J:Inj}:∀{cs:List C} {b:Nat},b∈J.of cs->∃k,k∈Ql cs/\b∈J.L k
 | [],b,h=>by simp[Inj.of] at h
 | c :: r,b,h=>by
   rw[Inj.of_cons] at h;rcases List.mem_append.1 h with h | h
   . cases c with
     | slc t n l=>cases t with
       | own d k=>cases d with
         | true=>exact ⟨k,by simp[Ql,C.key,Tok.key],by simpa [Inj.of] using h⟩
         | false=>simp[Inj.of] at h
       | _=>simp[Inj.of] at h
     | _=>simp[Inj.of] at h
   obtain ⟨k,h1,h2⟩:=Gg h;exact ⟨k,by simp only[Ql];exact List.mem_append_right _ h1,h2⟩
theorem SG {J:Inj}:∀{cs:List C},Cy cs=true->(∀c,c∈cs->∃p,Qcj c=some p)->∀{k:Nat},k∈Ql cs->∀{b:Nat},b∈J.L k->b∈J.of cs
 | [],_,_,k,h,_,_=>by simp[Ql] at h
 | c :: r, hd,hp,k,h,b,hb=>by
   simp only[Cy,Bool.and_eq_true] at hd;simp only[Ql] at h;rw[Inj.of_cons];rcases List.mem_append.1 h with h | h
   . refine List.mem_append_left _ ?_;cases c with
     | slc t n l=>cases t with
       | own d k'=>cases d with
         | true=>
           simp[C.key,Tok.key] at h;subst h;simpa [Inj.of] using hb
         | false=>cases hd.1
       | _=>simp_all [TP,C.key,Tok.key]
     | rptr t cs=>obtain ⟨p,e⟩:=hp _ List.mem_cons_self;cases e
     | ept d k n i o cs=>obtain ⟨p,e⟩:=hp _ List.mem_cons_self;cases e
     | _=>simp[C.key] at h
   exact List.mem_append_right _ (SG hd.2 (fun c hc=>hp c (List.mem_cons_of_mem _ hc)) h hb)
theorem Iy (h:Rel N w0 F0 J a w s):∀{cs:List C},(Ql cs).Nodup->(J.of cs).Nodup
 | [],_=>by simp[Inj.of]
 | c :: r,hn=>by
   simp only[Ql] at hn;obtain ⟨h1,h2,h3⟩:=List.nodup_append.1 hn;rw[Inj.of_cons];refine List.nodup_append.2 ⟨?_,Iy h h2,fun b hb b' hb' e=> ?_⟩
   . cases c with
     | slc t n l=>cases t with
       | own d k=>cases d with
         | true=>simpa [Inj.of] using h.nd k
         | false=>simp[Inj.of]
       | _=>simp[Inj.of]
     | _=>simp[Inj.of]
   subst e;obtain ⟨k,hk,hm⟩:=Gg hb;obtain ⟨k',hk',hm'⟩:=Gg hb';have:=h.dj k k' b hm hm';subst this;simp[Ql] at hk;exact h3 k (by simp[hk]) k hk' rfl
theorem ZI:∀{cs:List C} {ps:List PV},Ba cs=some ps->∀c,c∈cs->∃p,Qcj c=some p
 | [],_,_,c,hc=>by simp at hc
 | x ::r,ps,h,c,hc=>by
   simp only[Ba] at h;split at h
   . rename_i p ps' e1 e2;rcases List.mem_cons.1 hc with rfl | hc
     . exact ⟨p,e1⟩
     exact ZI e2 c hc
   cases h
theorem ZJ : ∀ {css : List (List C)} {rows : List (List PV)} {n:Nat},ZF css=some rows->Ps n css=true->Ba css.flatten=some rows.flatten/\rows.length=css.length/\∀r,r∈rows->r.length=n
 | [], rows, n, h, _ => by obtain rfl: []=rows:=by simpa [ZF] using h
                           exact ⟨rfl,rfl,by simp⟩
 | cs :: css, rows,n,h,hl=>by
   simp only[ZF] at h;simp only[Ps,Bool.and_eq_true,Nat.beq_eq] at hl;split at h
   . rename_i p ps e1 e2;obtain rfl := Option.some.inj h;obtain ⟨h1,h2,h3⟩:=ZJ e2 hl.2
     have happ :∀(cs cs':List C) (p p':List PV),Ba cs=some p->Ba cs'=some p'->Ba (cs++cs')=some (p++p')/\p.length=cs.length:=by
      intro cs
      induction cs with
      | nil => intro cs' p p' h1 h2;obtain rfl: []=p:=by simpa [Ba] using h1
               exact ⟨h2,rfl⟩
      | cons c cs ih=>
        intro cs' p p' h1 h2;simp only[Ba] at h1;split at h1
        . rename_i q qs f1 f2;obtain rfl:=Option.some.inj h1;obtain ⟨g1,g2⟩:=ih cs' qs p' f2 h2;exact ⟨by simp[Ba,f1,g1],by simp[g2]⟩
        cases h1
     obtain ⟨g1,g2⟩:=happ cs css.flatten p ps.flatten e1 h1
     exact ⟨g1, by simp [h2], fun r hr => by rcases List.mem_cons.1 hr with rfl | hr
                                             . omega
                                             exact h3 r hr⟩
   cases h
theorem VC.rows {X:Nat->Prop} {w:World} {n:Nat}:∀{rows:List (List PV)} {vs:List Value},VC X w vs rows.flatten->(∀r,r∈rows->r.length=n)->VR X w n vs rows
 | [],vs,h,_=>by cases h;exact .nil n
 | r::rows,vs,h,hn=>by
   have hl:=h.length;simp only[List.flatten_cons,List.length_append] at hl;have h1:=h.take r.length;have h2:=h.drop r.length;simp only[List.flatten_cons,List.take_left,List.drop_left] at h1 h2;rw[←List.take_append_drop r.length vs];exact .cons h1 (hn r List.mem_cons_self) (VC.rows h2 fun r hr=>hn r (List.mem_cons_of_mem _ hr))
theorem OC.split {w:World}:∀{ps ps':List PV} {L:List Nat} {vs:List Value},OC w L vs (ps++ps')->∃L1 L2 vs1 vs2,L=L1++L2/\vs=vs1++vs2/\OC w L1 vs1 ps/\OC w L2 vs2 ps'
 | [],ps',L,vs,h=>⟨[],L, [],vs,rfl,rfl, .nil,h⟩
 | p ::ps,ps',L,vs,h=>by
   generalize hq:p::ps++ps'=q at h;cases h with
   | nil=>cases hq
   | cons h1 h2=>
     cases hq
     obtain ⟨L1,L2,vs1,vs2,rfl,rfl,h3,h4⟩:=OC.split h2;exact ⟨_,L2,_,vs2,(List.append_assoc ..).symm,rfl, .cons h1 h3,h4⟩
theorem OC.rows {w:World} {n:Nat}:∀{rows:List (List PV)} {L:List Nat} {vs:List Value},OC w L vs rows.flatten->(∀r,r∈rows->r.length=n)->OR w n L vs rows
 | [],L,vs,h,_=>by cases h;exact .nil n
 | r::rows,L,vs,h,hn=>by
   obtain ⟨L1,L2,vs1,vs2,rfl,rfl,h1,h2⟩:=OC.split h;exact .cons h1 (hn r List.mem_cons_self) (OC.rows h2 fun r hr=>hn r (List.mem_cons_of_mem _ hr))
theorem XA {nk k:Nat}:∀{keys:List Nat},get (Mm nk keys) k=if k∈keys then some (some (.vw nk)) else none
 | []=>by simp[Mm,get]
 | x::r=>by
   simp only[Mm,get,XA (keys:=r),List.mem_cons];by_cases hx:x=k
   . simp[hx]
   simp[hx,fun e=>hx (Eq.symm e)];by_cases hk:k=x
   . exact absurd hk.symm hx
   simp[hk]
theorem Ko {k:Nat}:∀{keys:List Nat},get (Xo keys) k=if k∈keys then some (some .sh) else none
 | []=>by simp[Xo,get]
 | x::r=>by
   simp only[Xo,get,Ko (keys:=r),List.mem_cons];by_cases hx:x=k
   . simp[hx]
   by_cases hk:k=x
   . exact absurd hk.symm hx
   simp[hx,hk]
theorem V3 {k:Nat}:∀{keys:List Nat},get (Z7 keys) k=if k∈keys then some none else none
 | []=>by simp[Z7,get]
 | x::r=>by
   simp only[Z7,get,V3 (keys:=r),List.mem_cons];by_cases hx:x=k
   . simp[hx]
   by_cases hk:k=x
   . exact absurd hk.symm hx
   simp[hx,hk]
end
end
section
open Go.RowKit
section
variable {P:Program} {N:Nat} {w0:Base} {F0:Nat->Prop} {J:Inj} {a:Act} {w:World} {s:St}
theorem Zx {α:Type} {k nk:Nat} {x:α} {l:List (Nat×α)} (h:k≠nk):get ((nk,x)::l) k=get l k:=by
 simp only[get];rw[if_neg fun e=>h e.symm]
set_option maxHeartbeats 1000000 in
theorem NS {tt:List (Nat×TI)} (htt:Aq P tt=true) {bn:List (Nat×List C)} {o:Oper} {avs:List AV} {r:Res} {obs:List Ob} (h:TU tt bn o.dst o.op avs=some (r,obs)) (hdst:∀d,o.dst=some d->d<N)
 (hrel:Rel N w0 F0 J a w s) (hops:All2 (fun x v=>Pp s x=some v) o.op.operands.toList avs) (hbn:∀k c,get bn k=some c->get s.bx k=some c) {K:Act->World->Prop} {Q:Exit->Act->World->Prop}
 (hK:∀J' a' w',Rel N w0 F0 J' a' w' (s.step o.dst r)->K a' w'):o.wp P a w K Q:=by
 have hv:=Un hrel hops;generalize ho:o.op=op at h hv;generalize hd:o.dst=dst at h;unfold TU at h;split at h
 ·
  rename_i t;split at h
  . rename_i d ti hg;cases hc:Vm Eu ti.zero with
    | false=>rw[hc] at h;cases h
    | true=>
      rw[hc] at h;obtain ⟨rfl,rfl⟩:(⟨.one (.ptr d 0), [],some d,some (d,ti.zero)⟩:Res)=r/\ []=obs:=by simpa using h
      obtain ⟨inf,z,hi,_,_,hz,_,hzo⟩:=(Zb htt hg).info;refine We (v:= .pointer (some ⟨w.heap.size,0,none⟩)) (w':=w.alloc (.cells z.cells t (0,0))) (by simp[execOp,ho,Instr.alloc,zeroValue,K5 hi,hz,newVar,newRow]) ?_;rw[hd] at hK⊢;exact hK _ _ _ (hrel.alloc d (hdst d hd) z.cells t ti.zero hc (QW hzo))
  cases h
 ·
  rename_i t px v;split at h
  . rename_i d cs hfc;cases hc:(Wn cs&&Vm Eu cs) with
    | false=>rw[hc] at h;cases h
    | true=>
      rw[hc] at h;obtain ⟨rfl,rfl⟩:(⟨.one (.ptr d 0), [],some d,some (d,cs)⟩:Res)=r/\ []=obs:=by simpa using h
      simp only[Bool.and_eq_true] at hc;cases hv with
      | cons h1 _=>
        have hcl:=Da h1 hfc hc.1;refine We (v:= .pointer (some ⟨w.heap.size,0,none⟩)) (w':=w.alloc (.cells (a.eval px).cells t (0,0))) (by simp[execOp,ho,Instr.box,newVar,newRow]) ?_;rw[hd] at hK⊢;exact hK _ _ _ (hrel.alloc d (hdst d hd) _ t cs hc.2 hcl)
  cases h
 ·
  rename_i t px py k off v;split at h
  . rename_i ti cells cs hg hk hfc;cases hc:(Nat.beq cs.length ti.size&&Wn cs&&Nat.ble (off+ti.size) cells.length) with
    | false=>rw[hc] at h;cases h
    | true =>
      rw[hc] at h;obtain ⟨rfl,rfl⟩:(⟨.one .dead, [],none,some (k,cells.take off++cs++cells.drop (off+ti.size))⟩:Res)=r/\ []=obs:=by simpa using h
      simp only[Bool.and_eq_true,Nat.beq_eq,Nat.ble_eq] at hc;obtain ⟨⟨c1,c2⟩,c3⟩:=hc;cases hv with
      | cons h1 h2=>
        cases h2 with
        | cons h2 _=>
          have e1:a.eval px= .pointer (some ⟨J.B k,off,none⟩):=h1;have hcl:=Da h2 hfc c2;obtain ⟨_,_,_,arr,e,hheap,hall⟩:=hrel.bo k cells (hbn k cells hk);have hn:(a.eval py).cells.toList.length=ti.size:=by rw[hcl.length,c1]
          have hfit:off+(a.eval py).cells.toList.length<=arr.size:=by have:=hall.length;simp at this hn⊢;omega
          have hst:=run_storeCells_at P (J.B k) off e (a.eval py).cells.toList 0 arr w hheap (by simpa using hfit) (Ev hcl c2);simp only[Nat.add_zero] at hst;have hsz:=Ac (P:=P) (Zb htt hg) w
          have hrun:(execOp a.eval o).run P w= .ok .skip (w.setRow (J.B k) (arr.toList.take off++(a.eval py).cells.toList++arr.toList.drop (off+(a.eval py).cells.toList.length)).toArray):=by
           have hn':(a.eval py).cells.size=ti.size:=by simpa using hn
           simp only[execOp,ho,Instr.storeAt,e1,Instr.sureAddr,storeVar,Sem.run_bind,Sem.run_pure,Result.andThen_ok,hsz,hn'];simp[hst]
          refine Mn hrun (hK J _ _ ?_);rw[hd];refine hrel.store dst (fun d e=>hdst d (hd.trans e)) k cells _ (hbn k cells hk) arr _ e hheap (setRow_heap w (J.B k) arr _ e (0,0) hheap) (fun b hb=>setRow_other w (J.B k) b _ hb) rfl rfl rfl (by simp[World.setRow]) ?_ undef;rw[hn];exact ((hall.take off).append hcl).append (hall.drop _)
  cases h
 ·
  rename_i t len ps;split at h
  . rename_i d e n0 z0 q0 css hg hps;split at h
    . rename_i ei rows hge hrows;cases hc:(Nat.beq css.length len&&Ps ei.size css&&Nat.ble (len*ei.size) 1000&&Nat.blt 0 ei.size&& !(C9 (64*d) (Ql css.flatten))&&Vy (Ql css.flatten)) with
      | false=>rw[hc] at h;cases h
      | true =>
        rw[hc] at h;simp only[cond_true] at h;simp only[Bool.and_eq_true,Nat.beq_eq,Nat.ble_eq,Nat.blt_eq,Bool.not_eq_true'] at hc;obtain ⟨⟨⟨⟨⟨c1,c2⟩,c3⟩,c4⟩,c5⟩,c6⟩:=hc;have hnk:64*d∉Ql css.flatten:=fun hm=>by rw[Ul.2 hm] at c5;cases c5
        have hnd:=Um.1 c6;obtain ⟨hfl,hrl,hrn⟩:=ZJ hrows c2;obtain ⟨p1,p2,p3,p4⟩:=AE hps c2 (by simpa [Op.operands] using hv);have hu:=(Zb htt hg).sli;obtain ⟨inf,z,hi,hsz,hby,hz,hzs,hzo⟩:=(Zb htt hge).info
        have hzero:∃zc:Array Value,zc.size=len*ei.size/\∀(parts:Array (Nat×Value)) (cells:Array Value),Instr.fill (fun i=>some (i*ei.size,ei.size)) zc parts.toList=some cells->
         (Instr.buildSlice t len parts).run P w= .ok (.slice (some ⟨w.heap.size,0,none⟩) len len) (w.alloc (.cells cells e (0,0))):=by
         have hlim:¬(len*ei.size>2^24):=by omega
         by_cases h0:len*ei.size=0
         . refine ⟨#[],by simp[h0],fun parts cells hf=> ?_⟩;have h00:len*inf.size=0:=by rw[hsz];exact h0
           rw[←hsz] at hf;have hr0:Array.map (fun _=>(default:Value)) (Array.range 0)= #[]:=by apply Array.eq_empty_of_size_eq_zero;simp
           simp[Instr.buildSlice,run_underlying hu,sizeOf,K5 hi,h00,hr0,hf,newRow]
         refine ⟨(Array.range (len*ei.size)).map (z.cells[· % z.cells.size]!),by simp,fun parts cells hf=>run_buildSlice w t e len parts cells inf z hu hi hz (by rw[hsz];exact hlim) (by rw[hsz];exact h0) ?_⟩;rw[hsz];exact hf
        obtain ⟨zc,hzc,hrun⟩:=hzero;have hlen:(ps.toList.map fun p=>a.eval p.2).length=len:=by simp;rw[←c1,←p2];simp
        obtain ⟨out,ho1,ho2⟩:=AD (n:=ei.size) (ps.toList.map fun p=>a.eval p.2) 0 zc p3 (by rw[hzc,hlen,Nat.zero_add])
        have hfill:Instr.fill (fun i=>some (i*ei.size,ei.size)) zc ((ps.map fun (i,x)=>(i,a.eval x)).toList)=some out:=by
         have e9:(ps.map fun (i,x)=>(i,a.eval x)).toList=(ps.toList.map fun p=>(p.1,a.eval p.2)):=by simp
         rw[e9,p1,show css.length=(ps.toList.map fun p=>a.eval p.2).length by rw[hlen,c1]];exact ho1
        have hrun:=hrun _ _ hfill;simp only[Nat.zero_mul,List.take_zero,List.nil_append] at ho2
        have hrun':(execOp a.eval o).run P w= .ok (.value (.slice (some ⟨w.heap.size,0,none⟩) len len)) (w.alloc (.cells out e (0,0))):=by
         simp only[execOp,ho,Sem.run_bind,hrun,Result.andThen_ok,Sem.run_pure]
        refine We hrun' ?_;rw[hd] at hK⊢;have hw:∀b,b<w.heap.size->(w.alloc (.cells out e (0,0))).heap[b]? =w.heap[b]? :=fun b hb=>Below.heap_alloc w _ b hb
        have hnew:(w.alloc (.cells out e (0,0))).heap[w.heap.size]? =some (.cells out e (0,0)):=heap_alloc_new w _;have hzz:(w.alloc (.cells out e (0,0))).heap.size=w.heap.size+1:=by simp
        rw[←ho2] at p4
        have hout:out.size=len*ei.size:=by
         have:=p4.length;have h3:=Ix (X:=fun _=>True) (w':=w) p4 hfl (fun b _=>⟨trivial,rfl⟩) (fun k _ b _=>⟨trivial,rfl⟩);have h4:=(VC.rows h3 hrn).length;simp at h4;rw[h4,hrl,c1]
        have htake:out.toList.take (rows.length*ei.size)=out.toList:=List.take_of_length_le (by rw[hrl,c1,←hout];simp)
        have hlx:len<=1073741824:=by
         have:len<=len*ei.size:=Nat.le_mul_of_pos_right _ c4;exact Nat.le_trans (Nat.le_trans this c3) (by decide)
        have hlm:len<=maxLen:=Nat.le_trans hlx (by decide);have hrows':rows.length=len:=hrl.trans c1;cases hdeep:Cy css.flatten with
        | true=>
          rw[hdeep] at h;obtain ⟨rfl,rfl⟩:(⟨.one (.slc (.own true (64*d)) ei.size rows),(64*d,none)::Mm (64*d) (Ql css.flatten),none,none⟩:Res)=r/\ []=obs:=by simpa using h
          refine hK ⟨J.F,fun k=>if k=64*d then w.heap.size::J.of css.flatten else if k∈Ql css.flatten then [] else J.L k,J.B⟩ _ _ (hrel.grab (some d) (fun d' e=>by cases e;exact hdst d hd) _ _ (64*d) (Ql css.flatten) rfl rfl (hrel.below.alloc hrel.below.size _) (by omega) rfl (fun k hk=>if_neg hk)
           (fun b hb=>hb) (fun b hb=> .inl hb) (fun k hk hn=>by rw[Zx hn,XA,if_neg hk]) (fun _=>by simp[get]) (fun k hk=> .inr (.inr ⟨?_,fun b hb=>⟨.inl ?_,hw b (hrel.lo k b hb).2.1⟩⟩)) (fun b hb _=>hw b hb) ?_ (fun b hb=> ?_) (fun _=> ?_))
          . rw[Zx (fun e:k=64*d=>hnk (e▸hk)),XA,if_pos hk]
          . simp only[if_true];exact List.mem_cons_of_mem _ (SG hdeep (fun c hc=>ZI hfl c hc) hk hb)
          . simp only[if_true];refine List.nodup_cons.2 ⟨fun hm=> ?_,Iy hrel hnd⟩;obtain ⟨k,_,hm⟩:=Gg hm;have:=(hrel.lo k _ hm).2.1;omega
          . simp only[if_true,List.mem_cons] at hb;rcases hb with rfl | hb
            . exact ⟨by omega, .inl (Nat.le_refl _)⟩
            obtain ⟨k,hk,hm⟩:=Gg hb;exact ⟨by have:=(hrel.lo k b hm).2.1;omega, .inr ⟨k,hk,hm⟩⟩
          show OwnDeep _ _ _ _ _;simp only[if_true];rw[←hrows'];obtain ⟨L,a1,a2,a3⟩:=QZ p4 hfl hdeep (Iy hrel hnd) fun k _ b hb=>hw b (hrel.lo k b hb).2.1
          refine ⟨w.heap.size::L, .slc hnew (by rw[hout,hrows']) ?_ (Nat.le_refl _) ⟨by omega,by omega⟩,List.nodup_cons.2 ⟨fun hm=> ?_,a2⟩,fun b hb=> ?_, .inr ⟨_,_,_,rfl,rfl⟩⟩
          . rw[htake];exact OC.rows a1 hrn
          . obtain ⟨k,_,hm⟩:=Gg (a3 _ hm);have:=(hrel.lo k _ hm).2.1;omega
          rcases List.mem_cons.1 hb with rfl | hb
          . exact List.mem_cons_self
          exact List.mem_cons_of_mem _ (a3 b hb)
        | false=>
          rw[hdeep] at h;obtain ⟨rfl,rfl⟩:(⟨.one (.slc (.own false (64*d)) ei.size rows),(64*d,none)::Xo (Ql css.flatten),none,none⟩:Res)=r/\ []=obs:=by simpa using h
          refine hK ⟨fun b=>J.F b\/∃k,k∈Ql css.flatten/\b∈J.L k,fun k=>if k=64*d then [w.heap.size] else if k∈Ql css.flatten then [] else J.L k,J.B⟩ _ _ (hrel.grab (some d) (fun d' e=>by cases e;exact hdst d hd) _ _ (64*d) (Ql css.flatten) rfl rfl (hrel.below.alloc hrel.below.size _) (by omega) rfl (fun k hk=>if_neg hk)
           (fun b hb=> .inl hb) (fun b hb=>hb.imp id fun hk=>⟨hk, ?_⟩) (fun k hk hn=>by rw[Zx hn,Ko,if_neg hk]) (fun _=>by simp[get]) (fun k hk=> .inr (.inl ⟨?_,fun b hb=>⟨.inr ⟨k,hk,hb⟩,hw b (hrel.lo k b hb).2.1⟩⟩)) (fun b hb _=>hw b hb) (by simp) (fun b hb=> ?_) (fun _=> ?_))
          . obtain ⟨k,_,hm⟩:=hk;have:=(hrel.lo k b hm).2.1;simp only[if_true,List.mem_singleton];omega
          . rw[Zx (fun e:k=64*d=>hnk (e▸hk)),Ko,if_pos hk]
          . simp only[if_true,List.mem_singleton] at hb;exact ⟨by omega, .inl (by omega)⟩
          show OwnTop _ _ _ _ _ _;refine .inr ⟨w.heap.size,len,out,e,by simp,by rw[hrows'],hnew,hout, ?_,by omega,hlm,by omega⟩;rw[htake];exact VC.rows (Ix p4 hfl (fun b hb=>⟨.inl hb,hw b (hrel.fl b hb).1⟩) fun k hk b hb=>⟨.inr ⟨k,hk,hb⟩,hw b (hrel.lo k b hb).2.1⟩) hrn
    cases h
  cases h
 cases h
end
end
section
open Go.RowKit
def nOk (t:Tok) (n n':Nat):Bool:=match t with
 | .emp=>true
 | _=>Nat.beq n n'
def AF:Tok->Option (List Nat×Bool)
 | .emp=>some ([],true)
 | .own d k=>some ([k],d)
 | _=>none
def Ew (flat:Bool):Tok->List Nat×Bool
 | .emp=>([],true)
 | .sh=>([],flat)
 | .own d k=>bif flat then ([],true) else ([k],d)
 | .vw k=>bif flat then ([],true) else ([k],false)
 | .put _ _ _ _ _=>([],false)
def Gh:Orc->Bool
 | .flat=>true
 | _=>false
def TX (tt:List (Nat×TI)) (orc:Orc) (dst:Option Nat):Op->List AV->Option (Res×List Ob)
 | .call ⟨.builtin .append,_,tys⟩, [.one (.slc t1 n1 l1), .one (.slc t2 n2 l2)]=>
   (match tys.toList with
   | [t,t']=>(match dst,get tt t,AF t1 with
   | some d,some ⟨.sli e,_,_,_⟩,some (g1,d1)=>(match get tt e with
     | some ei=>bif Nat.beq t t'&&Nat.blt 0 ei.size&&nOk t1 n1 ei.size&&nOk t2 n2 ei.size&& !(C9 (64*d) (g1++(Ew (Gh orc) t2).1))&&Vy (g1++(Ew (Gh orc) t2).1) then
      some (⟨.one (.slc (.own (d1&&(Ew (Gh orc) t2).2) (64*d)) ei.size (l1++l2)),(64*d,none)::(Z7 g1++(bif d1&&(Ew (Gh orc) t2).2 then Z7 (Ew (Gh orc) t2).1 else Xo (Ew (Gh orc) t2).1)),none,none⟩,
       .len (l1.length+l2.length)::(bif Gh orc then [.flat l2] else []))
       else none
     | none=>none)
   | _,_,_=>none)
   | _=>none)
 | _,_=>none
section
variable {P:Program} {N:Nat} {w0:Base} {F0:Nat->Prop} {J:Inj} {a:Act} {w:World} {s:St}
theorem CM {t e ty:TypeId} {ei:TI} (hu:P.underlying t=some (.slice e)) (hei:TiOk P e ei) (hn:0<ei.size) {oa:Option Addr} {cap Dg:Nat} {olds:List Value} (hol:olds.length=Dg*ei.size)
 (hold:∀ad,oa=some ad->∀(j:Nat) (u:Value),olds[j]? =some u->w.cell? (ad.add j)=some u) (hnone:oa=none->Dg=0)
 (hrow:cap=0\/∃g cur e0,oa=some ⟨g,0,none⟩/\w.heap[g]? =some (.cells cur e0 (0,0))/\cur.size=cap*ei.size/\cur.toList.take (Dg*ei.size)=olds) (hlc:Dg<=cap)
 {v2:Value} {T3:Nat} {news:List Value} (hs:Src P ei.size t v2 T3 news w) (hlim:Dg+T3<=1073741824) (hpos:cap=0->0<T3) (hcm:cap<=maxLen):
 ∃ g' cap' cur' e' w',(Builtin.append_ #[t,t] ty #[.slice oa Dg cap,v2]).run P w= .ok (.slice (some ⟨g',0,none⟩) (Dg+T3) cap') w'/\w'.heap[g']? =some (.cells cur' e' (0,0))/\cur'.size=cap'*ei.size/\
   cur'.toList.take ((Dg+T3)*ei.size)=olds++news/\Dg+T3<=cap'/\cap'<=maxLen/\w'.os=w.os/\w'.tape=w.tape/\w'.output=w.output/\w.heap.size<=w'.heap.size/\
   ((∃cur e0,oa=some ⟨g',0,none⟩/\w.heap[g']? =some (.cells cur e0 (0,0))/\cap≠0/\∀b,b≠g'->w'.heap[b]? =w.heap[b]?)\/(g'=w.heap.size/\g'<w'.heap.size/\∀b,b<w.heap.size->w'.heap[b]? =w.heap[b]?)):=by
 obtain ⟨inf,z,hi,hsz,hby,hz,hzs,_⟩:=hei.info;have hsum:(olds++news).length=(Dg+T3)*ei.size:=by rw[List.length_append,hol,hs.newsLen,Nat.add_mul]
 by_cases hroom:Dg+T3<=cap
 . rcases hrow with h0 | ⟨g,cur,e0,rfl,hg,hcs,htk⟩
   . have:=hpos h0;omega
   have hfit:∀j,j<news.length->Dg*ei.size+j<cur.size:=fun j hj=>by
    have:=Nat.mul_le_mul_right ei.size hroom;rw[Nat.add_mul,←hs.newsLen] at this;omega
   have hr:=run_append_room_src (P:=P) w t t ty e inf hu hi g 0 Dg cap v2 T3 news (by rw[hsz];exact hs) hroom (fun j hj=>by
    rw[hsz];simp[World.cell?,hg,hfit j hj]) (fun j hj=>by simp[World.frozen?,hg])
   rw[hsz,Nat.zero_add] at hr;refine ⟨g,cap,putCells cur (Dg*ei.size) news,e0,_,hr,A8 g news _ w hg,by rw[Bh];exact hcs, ?_,hroom,hcm, ?_, ?_, ?_,by rw[Is];exact Nat.le_refl _, .inl ⟨cur,e0,rfl,hg, ?_,fun b hb=>A9 g hb news _ w⟩⟩
   . have hfit2:Dg*ei.size+news.length<=cur.size:=by
      have:=Nat.mul_le_mul_right ei.size hroom;rw[Nat.add_mul,←hs.newsLen] at this;omega
     rw[Dr hfit2,htk,←hsum,List.take_left]
   . exact (below_setCells' g news _ w).1
   . exact (below_setCells' g news _ w).2.1
   . exact (below_setCells' g news _ w).2.2
   intro e;have:=hpos e;omega
 have hgs:cap<Dg+T3:=by omega
 have hfirst:(Builtin.firstCells inf.size Dg (.slice oa Dg cap)).run P w.drew= .ok olds.toArray w.drew:=by
  cases oa with
  | none=>
    have h0:=hnone rfl;subst h0;have:olds= []:=List.eq_nil_of_length_eq_zero (by rw[hol];simp);subst this;exact run_firstCells_none w.drew inf.size 0 0 cap
  | some ad=>exact run_firstCells_some w.drew inf.size Dg ad Dg cap olds (by rw[hsz];exact hol) (by simpa using hold ad rfl)
 have hbytes:((Dg+T3)+(Dg+T3) / 4+192)*inf.bytes<=281474976710656:=Nat.le_trans (Nat.mul_le_mul (show _<=1342177472 by omega) hby) (by decide);have hr:=run_append_grow_src (P:=P) w t t ty e inf z hu hi hz oa Dg cap olds hfirst v2 T3 news (by rw[hsz];exact hs) hgs (by omega) (growslice_fits_wide hgs hbytes);have hge:=grownCap_ge w (Dg+T3) cap e;have hcap':=grownCap_le_maxLen w (Dg+T3) cap e (by unfold maxLen;omega);refine ⟨w.heap.size,_,_,e,_,hr,heap_alloc_new w.drew _, ?_, ?_,hge,hcap',rfl,rfl,rfl,by simp, .inr ⟨rfl,by simp,fun b hb=>heap_alloc_old w.drew _ hb⟩⟩
 . simp only[Array.size_append,List.size_toArray,size_zeroCells,hzs,hsum,←Nat.add_mul]
   congr 1
   omega
 simp only[Array.toList_append];rw[←hsum,List.take_append_of_le_length (by simp),List.take_of_length_le (by simp)]
where
 below_setCells' (g:Nat):∀(vs:List Value) (o:Nat) (w:World),(w.setCells g o vs).os=w.os/\(w.setCells g o vs).tape=w.tape/\(w.setCells g o vs).output=w.output
  | [],_,_=>⟨rfl,rfl,rfl⟩
  | v::vs,o,w=>by
    have:=below_setCells' g vs (o+1) (w.setCell ⟨g,o,none⟩ v);exact this
end
end
section
open Go.RowKit
section
variable {P:Program} {A:Nat->List AV->AV->Prop} {T:TakeT} {N:Nat} {w0:Base} {F0:Nat->Prop} {J:Inj} {a:Act} {w:World} {s:St}
theorem P0 {w:World} {g:Nat} {cur:Array Value} {e:TypeId} (hg:w.heap[g]? =some (.cells cur e (0,0))) (m:Nat):∀(j:Nat) (u:Value),(cur.toList.take m)[j]? =some u->w.cell? (Addr.add ⟨g,0,none⟩ j)=some u:=by
 intro j u hj;rw[List.getElem?_take] at hj;split at hj
 . rw[Array.getElem?_toList] at hj;simp[World.cell?,hg,hj,Addr.add_lit]
 cases hj
theorem TY (h:Rel N w0 F0 J a w s) {t1:Tok} {n1 n:Nat} {l1:List (List PV)} {v1:Value} {g1:List Nat} {d1:Bool} (hc:CR J w v1 (.slc t1 n1 l1)) (hd:AF t1=some (g1,d1)) (hn:nOk t1 n1 n=true):
 ∃ (oa:Option Addr) (cap:Nat) (olds:List Value) (L:List Nat),v1= .slice oa l1.length cap/\olds.length=l1.length*n/\(∀ad,oa=some ad->∀(j:Nat) (u:Value),olds[j]? =some u->w.cell? (ad.add j)=some u)/\(oa=none->l1.length=0)/\
   (cap=0\/∃g cur e0,oa=some ⟨g,0,none⟩/\w.heap[g]? =some (.cells cur e0 (0,0))/\cur.size=cap*n/\cur.toList.take (l1.length*n)=olds)/\l1.length<=cap/\cap<=maxLen/\
   (∀g,oa=some ⟨g,0,none⟩->cap≠0->(∃k,k∈g1/\g∈J.L k)/\g∉L)/\
   VR (fun b=>J.F b\/b∈L) w n olds l1/\(d1=true->OR w n L olds l1)/\L.Nodup/\∀b,b∈L->∃k,k∈g1/\b∈J.L k:=by
 cases t1 with
 | sh=>cases hd
 | vw k=>cases hd
 | put=>cases hd
 | emp=>
   obtain ⟨rfl,rfl⟩: []=g1/\true=d1:=by simpa [AF] using hd
   obtain ⟨rfl,oa,rfl⟩:=hc;exact ⟨oa,0, [], [],rfl,by simp,by simp,fun _=>rfl, .inl rfl,Nat.le_refl _,Nat.zero_le _,fun _ _ h=>absurd rfl h, .nil n,fun _=> .nil n,by simp,by simp⟩
 | own d k=>
   obtain ⟨rfl,rfl⟩: [k]=g1/\d=d1:=by simpa [AF] using hd
   obtain rfl:n1=n:=by simpa [nOk] using hn
   have hnd:=h.nd k;cases d with
   | true=>
     obtain ⟨L0,hc,hnd,hsub,_⟩:=hc;generalize hp:PV.slc n1 l1=p at hc;cases hc with
     | int | bool | str | any | raw=>cases hp
     | emp oa n'=>
       cases hp
       exact ⟨oa,0, [], [],rfl,by simp,by simp,fun _=>rfl, .inl rfl,Nat.le_refl _,Nat.zero_le _,fun _ _ h=>absurd rfl h, .nil n1,fun _=> .nil n1,by simp,by simp⟩
     | @slc g cap n' cur e L l hg hs hr h1 h2=>
       cases hp
       have hnd:=List.nodup_cons.1 hnd;refine ⟨some ⟨g,0,none⟩,cap,_,L,rfl,hr.length,fun ad e=>(by cases e;exact P0 hg _),(fun e=>by cases e), .inr ⟨g,cur,_,rfl,hg,hs,rfl⟩,h1,h2.1,fun g' e _=> ?_,hr.vr fun b hb=> .inr hb,fun _=>hr,hnd.2,fun b hb=>⟨k,by simp,hsub b (List.mem_cons_of_mem _ hb)⟩⟩;cases e
       exact ⟨⟨k,by simp,hsub _ List.mem_cons_self⟩,hnd.1⟩
   | false=>
     have hc:OwnTop J.F (J.L k) w v1 n1 l1:=hc;rcases hc with ⟨rfl,oa,rfl⟩ | ⟨g,cap,cur,e,hL,rfl,hg,hs,hr,h1,h2⟩
     . exact ⟨oa,0, [], [],rfl,by simp,by simp,fun _=>rfl, .inl rfl,Nat.le_refl _,Nat.zero_le _,fun _ _ h=>absurd rfl h, .nil n1,(fun h=>by cases h),by simp,by simp⟩
     refine ⟨some ⟨g,0,none⟩,cap,_, [],rfl,hr.length,fun ad e=>(by cases e;exact P0 hg _),(fun e=>by cases e), .inr ⟨g,cur,e,rfl,hg,hs,rfl⟩,h1,h2.1,fun g' e _=> ?_,hr.keep fun b hb=>⟨.inl hb,rfl⟩,(fun e=>by cases e),by simp,by simp⟩;cases e
     exact ⟨⟨k,by simp,by rw[hL];simp⟩,by simp⟩
theorem VC.ones {X:Nat->Prop} {w:World}:∀{vs:List Value} {ps:List PV},VC X w vs ps->∀u,u∈vs->u.oneCell'=true
 | _,_, .nil,u,hu=>by simp at hu
 | _, _, .cons h1 h2,u,hu=>by
   rcases List.mem_cons.1 hu with rfl | hu
   . cases h1 with
     | any _ h2=>exact h2
     | raw _ h2=>exact h2
     | _=>rfl
   exact VC.ones h2 u hu
theorem VR.ones {X:Nat->Prop} {w:World}:∀{n:Nat} {cs:List Value} {l:List (List PV)},VR X w n cs l->∀u,u∈cs->u.oneCell'=true
 | _,_,_, .nil _,u,hu=>by simp at hu
 | _,_,_, .cons h1 h2 h3,u,hu=>(List.mem_append.1 hu).elim (VC.ones h1 u) (VR.ones h3 u)
theorem AG {X:Nat->Prop} {n:Nat} {l:List (List PV)} {v:Value} {t e:TypeId} (hu:P.underlying t=some (.slice e)) (h:VV X w v (.slc n l)):∃news,Src P n t v l.length news w/\VR X w n news l:=by
 generalize hp:PV.slc n l=p at h;cases h with
 | int | bool | str | any | raw=>cases hp
 | @emp oa cap n' hcap=>
   cases hp
   cases oa with
   | none=>exact ⟨[],Src.ofNil w hu cap, .nil n⟩
   | some ad=>exact ⟨[],Src.ofSlice w hu ad 0 cap [] (by simp) (by simp) (by simp), .nil n⟩
 | slc hb hc hr h1 h2=>
   cases hp
   exact ⟨_,Src.ofSlice w hu _ _ _ _ hr.length (fun j u hj=>by rw[Addr.add_lit];exact hc j u hj) hr.ones,hr⟩
theorem Qcp (h:Rel N w0 F0 J a w s) {t e:TypeId} (hu:P.underlying t=some (.slice e)) {fl:Bool} {t2:Tok} {n2 n:Nat} {l2:List (List PV)} {v2:Value} (hc:CR J w v2 (.slc t2 n2 l2)) (hn:nOk t2 n2 n=true) (hfl:fl=true->Bj l2):
 ∃ (news:List Value) (L:List Nat),Src P n t v2 l2.length news w/\((Ew fl t2).2=true->OR w n L news l2)/\L.Nodup/\(∀b,b∈L->∃k,k∈(Ew fl t2).1/\b∈J.L k)/\
   ((fl=true->∀w',OR w' n [] news l2)/\(fl=true->L= []))/\(fl=false->VR (fun b=>J.F b\/∃k,k∈(Ew fl t2).1/\b∈J.L k) w n news l2):=by
 have hflat:∀X,fl=true->VV X w v2 (.slc n l2)->∃news,Src P n t v2 l2.length news w/\∀w',OR w' n [] news l2:=fun X hf hv=>by
  obtain ⟨news,h1,h2⟩:=AG hu hv;exact ⟨news,h1,fun w'=>h2.orr (hfl hf)⟩
 cases t2 with
 | emp=>
   obtain ⟨rfl,oa,rfl⟩:=hc
   have hs:Src P n t (.slice oa 0 0) 0 [] w:=by
    cases oa with
    | none=>exact Src.ofNil w hu 0
    | some ad=>exact Src.ofSlice w hu ad 0 0 [] (by simp) (by simp) (by simp)
   exact ⟨[], [],hs,fun _=> .nil n,by simp,by simp,⟨fun _ _=> .nil n,fun _=>rfl⟩,fun _=> .nil n⟩
 | sh =>
   obtain rfl:n2=n:=by simpa [nOk] using hn
   cases fl with
   | true=>
     obtain ⟨news,h1,h2⟩:=hflat _ rfl hc;exact ⟨news, [],h1,fun _=>h2 w,by simp,by simp,⟨fun _=>h2,fun _=>rfl⟩,fun h=>by cases h⟩
   | false=>
     obtain ⟨news,h1,h2⟩:=AG (P:=P) hu (X:=J.F) hc;exact ⟨news, [],h1,(fun h=>by simp[Ew] at h),by simp,by simp,⟨(fun h=>by cases h),fun _=>rfl⟩,fun _=>h2.keep fun b hb=>⟨.inl hb,rfl⟩⟩
 | put=>exact hc.elim
 | vw k=>
   obtain rfl:n2=n:=by simpa [nOk] using hn
   cases fl with
   | true=>
     obtain ⟨news,h1,h2⟩:=hflat _ rfl hc;exact ⟨news, [],h1,fun _=>h2 w,by simp,by simp,⟨fun _=>h2,fun _=>rfl⟩,fun h=>by cases h⟩
   | false=>
     obtain ⟨news,h1,h2⟩:=AG (P:=P) hu (X:=J.X (.vw k)) hc;exact ⟨news, [],h1,(fun h=>by simp[Ew] at h),by simp,by simp,⟨(fun h=>by cases h),fun _=>rfl⟩,fun _=>h2.keep fun b hb=>⟨hb.elim (fun h=> .inr ⟨k,by simp[Ew],h⟩) .inl,rfl⟩⟩
 | own d k =>
   obtain rfl:n2=n:=by simpa [nOk] using hn
   cases fl with
   | true=>
     have:∃X,VV X w v2 (.slc n2 l2):=by
      cases d with
      | true=>exact ⟨_,OwnDeep.vv (X:=fun _=>True) hc fun _ _=>⟨trivial,rfl⟩⟩
      | false=>exact ⟨_,OwnTop.vv (X:=fun _=>True) hc (fun _ _=>⟨trivial,rfl⟩) fun _ _=>⟨trivial,rfl⟩⟩
     obtain ⟨X,hX⟩:=this;obtain ⟨news,h1,h2⟩:=hflat _ rfl hX;exact ⟨news, [],h1,fun _=>h2 w,by simp,by simp,⟨fun _=>h2,fun _=>rfl⟩,fun h=>by cases h⟩
   | false =>
     cases d with
     | false=>
       obtain ⟨news,h1,h2⟩:=AG (P:=P) hu (X:=fun b=>J.F b\/b∈J.L k) (OwnTop.vv hc (fun _ hb=>⟨.inl hb,rfl⟩) fun _ hb=>⟨.inr hb,rfl⟩);exact ⟨news, [],h1,(fun h=>by simp[Ew] at h),by simp,by simp,⟨(fun h=>by cases h),fun _=>rfl⟩,fun _=>h2.keep fun b hb=>⟨hb.imp id fun h=>⟨k,by simp[Ew],h⟩,rfl⟩⟩
     | true=>
       have hnd:=h.nd k;obtain ⟨L0,hc,hnd,hsub,_⟩:=hc;generalize hp:PV.slc n2 l2=p at hc;cases hc with
       | int | bool | str | any | raw=>cases hp
       | emp oa n'=>
         cases hp
         have hs:Src P n2 t (.slice oa 0 0) 0 [] w:=by
          cases oa with
          | none=>exact Src.ofNil w hu 0
          | some ad=>exact Src.ofSlice w hu ad 0 0 [] (by simp) (by simp) (by simp)
         exact ⟨[], [],hs,fun _=> .nil n2,by simp,by simp,⟨(fun h=>by cases h),fun _=>rfl⟩,fun _=> .nil n2⟩
       | @slc g cap n' cur e L l hg hs hr h1 h2=>
         cases hp
         have hnd:=List.nodup_cons.1 hnd;have hvr:VR (fun b=>J.F b\/∃k',k'∈ [k]/\b∈J.L k') w n2 (cur.toList.take (l2.length*n2)) l2:=hr.vr fun b hb=> .inr ⟨k,by simp,hsub b (List.mem_cons_of_mem _ hb)⟩
         refine ⟨_,L,Src.ofSlice w hu ⟨g,0,none⟩ l2.length cap _ hr.length (P0 hg _) hvr.ones,fun _=>hr,hnd.2,fun b hb=>⟨k,by simp[Ew],hsub b (List.mem_cons_of_mem _ hb)⟩,⟨(fun h=>by cases h),(fun h=>by cases h)⟩,fun _=> ?_⟩;simpa [Ew] using hvr
theorem WL {t e ty:TypeId} {ei:TI} (hu:P.underlying t=some (.slice e)) (hei:TiOk P e ei) {oa:Option Addr} {v2:Value} (hs:Src P ei.size t v2 0 [] w):
 (Builtin.append_ #[t,t] ty #[.slice oa 0 0,v2]).run P w= .ok (.slice oa 0 0) w:=by
 obtain ⟨inf,z,hi,hsz,hby,hz,hzs,_⟩:=hei.info;have h1:=hs.len w;have h2:=hs.cells;rw[←hsz] at h2;cases oa<;>simp[Builtin.append_,run_underlying hu,sizeOf,K5 hi,h1,h2,storeCells]
theorem Mo {α:Type} {k:Nat}:∀{l r:List (Nat×α)},get (l++r) k=(match get l k with | some x=>some x | none=>get r k)
 | [],r=>rfl
 | (x,y)::l,r=>by
   simp only[List.cons_append,get];split
   . rfl
   exact Mo
set_option maxHeartbeats 2000000 in
theorem NT {tt : List (Nat×TI)} (htt:Aq P tt=true) {orc:Orc} {o:Oper} {avs:List AV} {r:Res} {obs:List Ob} (h:TX tt orc o.dst o.op avs=some (r,obs)) (hob:AllOb A T obs) (hdst:∀d,o.dst=some d->d<N)
 (hrel:Rel N w0 F0 J a w s) (hops:All2 (fun x v=>Pp s x=some v) o.op.operands.toList avs) {K:Act->World->Prop} {Q:Exit->Act->World->Prop}
 (hK:∀J' a' w',Rel N w0 F0 J' a' w' (s.step o.dst r)->K a' w'):o.wp P a w K Q:=by
 have hv:=Un hrel hops;generalize ho:o.op=op at h hv;generalize hd:o.dst=dst at h;unfold TX at h;split at h
 . rename_i args tys t1 n1 l1 t2 n2 l2;split at h
   rotate_left
   . cases h
   rename_i t t' htys;obtain rfl:tys= #[t,t']:=Array.ext' (by simpa using htys);split at h
   . rename_i d e n0 z0 q0 g1 d1 hg hdest;split at h
     . rename_i ei hge;generalize hS:Ew (Gh orc) t2=S2 at h;cases hc:(Nat.beq t t'&&Nat.blt 0 ei.size&&nOk t1 n1 ei.size&&nOk t2 n2 ei.size&& !(C9 (64*d) (g1++S2.1))&&Vy (g1++S2.1)) with
       | false=>rw[hc] at h;cases h
       | true =>
         rw[hc] at h;simp only[cond_true,Option.some.injEq,Prod.mk.injEq] at h;obtain ⟨rfl,rfl⟩:=h;simp only[Bool.and_eq_true,Nat.beq_eq,Nat.blt_eq,Bool.not_eq_true'] at hc;obtain ⟨⟨⟨⟨⟨rfl,c2⟩,c3⟩,c4⟩,c5⟩,c6⟩:=hc;have hnk:64*d∉g1++S2.1:=fun hm=>by rw[Ul.2 hm] at c5;cases c5
         have hnd:=Um.1 c6;obtain ⟨hlim,hob2⟩:=AllOb.cons hob;have hlim:l1.length+l2.length<=1073741824:=hlim;have hfl:Gh orc=true->Bj l2:=fun hf=>by rw[hf] at hob2;exact hob2
         have hu:=(Zb htt hg).sli;have hei:=Zb htt hge;have hv0:All2 (fun x v=>AR J w (a.eval x) v) args.toList [.one (.slc t1 n1 l1), .one (.slc t2 n2 l2)]:=by simpa [Op.operands,Call.operands] using hv
         obtain ⟨px,py,hargs⟩:∃px py,args= #[px,py]:=by
          have hl:=hv0.length;obtain ⟨l⟩:=args
          match l,hl with
          | [px,py],_=>exact ⟨px,py,rfl⟩
         subst hargs;have hv':All2 (fun x v=>AR J w (a.eval x) v) [px,py] [.one (.slc t1 n1 l1), .one (.slc t2 n2 l2)]:=hv0;cases hv' with
         | cons h1 h2=>
           cases h2 with
           | cons h2 _=>
             obtain ⟨oa,cap,olds,L,e1,hol,hread,hnone,hrow,hlc,hcm,htop,hvr1,hor1,hnd1,hL1⟩:=TY hrel h1 hdest c3;obtain ⟨news,L2,hsrc,hor2,hnd2,hL2,⟨hflat1,hflat2⟩,hvr2⟩:=Qcp (P:=P) hrel hu h2 c4 hfl;rw[hS] at hor2 hL2 hvr2
             have hexec:∀u w',(Builtin.append_ #[t,t] o.type #[.slice oa l1.length cap,a.eval py]).run P w= .ok u w'->(execOp a.eval o).run P w= .ok (.value u) w':=fun u w' hr=>by
              simp only[execOp,ho,resolve,invoke,builtin,Sem.run_bind,Sem.run_pure,Result.andThen_ok,List.map_toArray,List.map_cons,List.map_nil,e1,hr]
             have hG:∀k,k∈g1++S2.1->k≠64*d:=fun k hk e=>hnk (e▸hk)
             have hgone:∀k,k∉g1++S2.1->k≠64*d->get ((64*d,none)::(Z7 g1++(bif d1&&S2.2 then Z7 S2.1 else Xo S2.1))) k=none:=fun k hk hn=>by
              rw[Zx hn,Mo,V3,if_neg fun hm=>hk (List.mem_append_left _ hm)];cases d1&&S2.2
              . simp only[cond_false];rw[Ko,if_neg fun hm=>hk (List.mem_append_right _ hm)]
              simp only[cond_true];rw[V3,if_neg fun hm=>hk (List.mem_append_right _ hm)]
             have hdead:∀k,k∈g1->get ((64*d,none)::(Z7 g1++(bif d1&&S2.2 then Z7 S2.1 else Xo S2.1))) k=some none:=fun k hk=>by
              rw[Zx (hG k (List.mem_append_left _ hk)),Mo,V3,if_pos hk]
             have hsrck:∀k,k∈S2.1->get ((64*d,none)::(Z7 g1++(bif d1&&S2.2 then Z7 S2.1 else Xo S2.1))) k=some (if (d1&&S2.2)=true then none else some .sh):=fun k hk=>by
              have hng:k∉g1:=fun hm=>(List.nodup_append.1 hnd).2.2 k hm k hk rfl
              rw[Zx (hG k (List.mem_append_right _ hk)),Mo,V3,if_neg hng];cases d1&&S2.2
              . simp only[cond_false];rw[Ko,if_pos hk];simp
              simp only[cond_true];rw[V3,if_pos hk];simp
             by_cases hempty:cap=0/\l2.length=0
             ·
              obtain ⟨hc0,hl0⟩:=hempty;have hl1:l1= []:=List.eq_nil_of_length_eq_zero (by omega);have hl2:l2= []:=List.eq_nil_of_length_eq_zero hl0;subst hl1 hl2 hc0;have hnews:news= []:=List.eq_nil_of_length_eq_zero (by rw[hsrc.newsLen];simp);subst hnews;refine We (hexec _ _ (WL hu hei hsrc)) ?_;rw[hd] at hK⊢
              refine hK ⟨fun b=>J.F b\/∃k,k∈g1++S2.1/\b∈J.L k,fun k=>if k=64*d then [] else if k∈g1++S2.1 then [] else J.L k,J.B⟩ _ _ (hrel.grab (some d) (fun d' e=>by cases e;exact hdst d hd) _ _ (64*d) (g1++S2.1) rfl rfl hrel.below (Nat.le_refl _) rfl (fun k hk=>if_neg hk)
               (fun b hb=> .inl hb) (fun b hb=>hb.imp id fun hk=>⟨hk,by simp⟩) hgone (fun _=>by simp[get]) (fun k hk=> ?_) (fun b hb _=>rfl) (by simp) (fun b hb=>by simp at hb) (fun _=> ?_))
              . rcases List.mem_append.1 hk with hk' | hk'
                . exact .inl (hdead k hk')
                rw[hsrck k hk'];by_cases hD:(d1&&S2.2)=true
                . exact .inl (by simp[hD])
                exact .inr (.inl ⟨by simp[hD],fun b hb=>⟨.inr ⟨k,hk,hb⟩,rfl⟩⟩)
              show CR _ w (.slice oa 0 0) (.slc (.own (d1&&S2.2) (64*d)) ei.size []);cases d1&&S2.2
              . exact .inl ⟨rfl,oa,rfl⟩
              show OwnDeep (if 64*d=64*d then [] else _) w _ _ _;rw[if_pos rfl];exact ⟨[], .emp oa _,List.nodup_nil,fun b hb=>hb, .inl rfl⟩
             obtain ⟨g',cap',cur',e',w',hrun,hg',hcs',htk',hlc',hcm',hos,htape,hout,hsize,hwhere⟩:=CM (ty:=o.type) hu hei c2 hol hread hnone hrow hlc hsrc hlim (fun e=>by omega) hcm;refine We (hexec _ _ hrun) ?_;rw[hd] at hK⊢
             have hw1:(∃k,k∈g1/\g'∈J.L k)/\g'∉L\/w.heap.size<=g':=by
              rcases hwhere with ⟨cur,e0,hoa,_,hc0,_⟩ | ⟨hgs,_⟩
              . exact .inl (htop g' hoa hc0)
              exact .inr (by omega)
             have hw2:∀b,b<w.heap.size->b≠g'->w'.heap[b]? =w.heap[b]? :=by
              intro b hb hne;rcases hwhere with ⟨cur,e0,_,_,_,hsame⟩ | ⟨_,_,hsame⟩
              . exact hsame b hne
              exact hsame b hb
             have hglt:g'<w'.heap.size:=Q2 hg'
             have hgF:¬J.F g':=fun hF=>by
              rcases hw1 with ⟨⟨k,_,hm⟩,_⟩ | hge
              . exact (hrel.lo k g' hm).2.2 hF
              have:=(hrel.fl g' hF).1;omega
             have hgS:∀k,k∉g1->g'∉J.L k:=fun k hk hm=>by
              rcases hw1 with ⟨⟨k',hk',hm'⟩,_⟩ | hge
              . exact hk (hrel.dj k k' g' hm hm'▸hk')
              have:=(hrel.lo k g' hm).2.1;omega
             have hgL:g'∉L:=by
              rcases hw1 with ⟨_,h⟩ | hge
              . exact h
              intro hm;obtain ⟨k,_,hm'⟩:=hL1 g' hm;have:=(hrel.lo k g' hm').2.1;omega
             have hgL2:g'∉L2:=fun hm=>by
              obtain ⟨k,hk,hm'⟩:=hL2 g' hm;exact hgS k (fun hk'=>(List.nodup_append.1 hnd).2.2 k hk' k hk rfl) hm'
             have hbelow:w0.Keeps w':=by
              refine hrel.below.step hos htape hout hsize fun b hb hnl=> ?_
              refine hw2 b hb fun e=> ?_
              rcases hw1 with ⟨⟨k,_,hm⟩,_⟩ | hge
              . exact hnl (e▸(hrel.lo k g' hm).1)
              omega
             have hlt1:∀b,b∈L->b<w.heap.size:=fun b hb=>by obtain ⟨k,_,hm⟩:=hL1 b hb;exact (hrel.lo k b hm).2.1
             have hlt2:∀b,b∈L2->b<w.heap.size:=fun b hb=>by obtain ⟨k,_,hm⟩:=hL2 b hb;exact (hrel.lo k b hm).2.1
             have hlen:(l1++l2).length=l1.length+l2.length:=List.length_append;by_cases hD:(d1&&S2.2)=true
             . have hD':=hD;simp only[Bool.and_eq_true] at hD'
               have hndA:(g'::(L++L2)).Nodup:=by
                refine List.nodup_cons.2 ⟨fun hm=>(List.mem_append.1 hm).elim hgL hgL2,List.nodup_append.2 ⟨hnd1,hnd2,fun b hb b' hb' e=> ?_⟩⟩;subst e;obtain ⟨k,hk,hm⟩:=hL1 b hb;obtain ⟨k',hk',hm'⟩:=hL2 b hb';have:=hrel.dj k k' b hm hm';subst this;exact (List.nodup_append.1 hnd).2.2 k hk k hk' rfl
               refine hK ⟨J.F,fun k=>if k=64*d then g'::(L++L2) else if k∈g1++S2.1 then [] else J.L k,J.B⟩ _ _ (hrel.grab (some d) (fun d' e=>by cases e;exact hdst d hd) _ _ (64*d) (g1++S2.1) rfl rfl hbelow hsize rfl (fun k hk=>if_neg hk)
                (fun b hb=>hb) (fun b hb=> .inl hb) hgone (fun _=>by simp[get]) (fun k hk=> ?_) (fun b hb hn=>hw2 b hb fun e=> ?_) ?_ (fun b hb=> ?_) (fun _=> ?_))
               . rcases List.mem_append.1 hk with hk' | hk'
                 . exact .inl (hdead k hk')
                 exact .inl (by rw[hsrck k hk',if_pos hD])
               . rcases hw1 with ⟨⟨k,hk,hm⟩,_⟩ | hge
                 . exact hn k (List.mem_append_left _ hk) (e▸hm)
                 omega
               . simp only[if_true];exact hndA
               . simp only[if_true,List.mem_cons,List.mem_append] at hb;rcases hb with rfl | hb | hb
                 . refine ⟨hglt, ?_⟩;rcases hw1 with ⟨⟨k,hk,hm⟩,_⟩ | hge
                   . exact .inr ⟨k,List.mem_append_left _ hk,hm⟩
                   exact .inl hge
                 . obtain ⟨k,hk,hm⟩:=hL1 b hb;exact ⟨by have:=hlt1 b hb;omega, .inr ⟨k,List.mem_append_left _ hk,hm⟩⟩
                 obtain ⟨k,hk,hm⟩:=hL2 b hb;exact ⟨by have:=hlt2 b hb;omega, .inr ⟨k,List.mem_append_right _ hk,hm⟩⟩
               show CR _ w' _ (.slc (.own (d1&&S2.2) (64*d)) ei.size (l1++l2));rw[hD];show OwnDeep (if 64*d=64*d then _ else _) w' _ _ _;rw[if_pos rfl,←hlen];refine .of (.slc hg' hcs' ?_ (by omega) ⟨hcm',by omega⟩) hndA;rw[hlen,htk'];exact OR.append ((hor2 hD'.2).keep fun b hb=>hw2 b (hlt2 b hb) fun e=>hgL2 (e▸hb)) ((hor1 hD'.1).keep fun b hb=>hw2 b (hlt1 b hb) fun e=>hgL (e▸hb))
             refine hK ⟨fun b=>J.F b\/((∃k,k∈g1++S2.1/\b∈J.L k)/\b≠g'),fun k=>if k=64*d then [g'] else if k∈g1++S2.1 then [] else J.L k,J.B⟩ _ _ (hrel.grab (some d) (fun d' e=>by cases e;exact hdst d hd) _ _ (64*d) (g1++S2.1) rfl rfl hbelow hsize rfl (fun k hk=>if_neg hk)
              (fun b hb=> .inl hb) (fun b hb=>hb.imp id fun hk=>⟨hk.1,by simpa using hk.2⟩) hgone (fun _=>by simp[get]) (fun k hk=> ?_) (fun b hb hn=>hw2 b hb fun e=> ?_) (by simp) (fun b hb=> ?_) (fun _=> ?_))
             . rcases List.mem_append.1 hk with hk' | hk'
               . exact .inl (hdead k hk')
               have hng:k∉g1:=fun hm=>(List.nodup_append.1 hnd).2.2 k hm k hk' rfl
               refine .inr (.inl ⟨by rw[hsrck k hk',if_neg hD],fun b hb=> ?_⟩);have hne:b≠g':=fun e=>hgS k hng (e▸hb)
               exact ⟨.inr ⟨⟨k,hk,hb⟩,hne⟩,hw2 b (hrel.lo k b hb).2.1 hne⟩
             . rcases hw1 with ⟨⟨k,hk,hm⟩,_⟩ | hge
               . exact hn k (List.mem_append_left _ hk) (e▸hm)
               omega
             . simp only[if_true,List.mem_singleton] at hb;subst hb;refine ⟨hglt, ?_⟩;rcases hw1 with ⟨⟨k,hk,hm⟩,_⟩ | hge
               . exact .inr ⟨k,List.mem_append_left _ hk,hm⟩
               exact .inl hge
             show CR _ w' _ (.slc (.own (d1&&S2.2) (64*d)) ei.size (l1++l2));rw[show (d1&&S2.2)=false by simpa using hD];refine .inr ⟨g',cap',cur',e',by simp,by rw[hlen],hg',hcs', ?_,by omega,hcm',by omega⟩;rw[hlen,htk']
             have hk1:VR (fun b=>J.F b\/((∃k,k∈g1++S2.1/\b∈J.L k)/\b≠g')) w' ei.size olds l1:=hvr1.keep fun b hb=>by
              rcases hb with hb | hb
              . exact ⟨.inl hb,hw2 b (hrel.fl b hb).1 fun e=>hgF (e▸hb)⟩
              obtain ⟨k,hk,hm⟩:=hL1 b hb;have hne:b≠g':=fun e=>hgL (e▸hb)
              exact ⟨.inr ⟨⟨k,List.mem_append_left _ hk,hm⟩,hne⟩,hw2 b (hlt1 b hb) hne⟩
             refine VR.append ?_ hk1;cases hf:Gh orc with
             | true=>exact (hflat1 hf w').vr fun b hb=>by simp at hb
             | false=>
               refine (hvr2 hf).keep fun b hb=> ?_
               rcases hb with hb | ⟨k,hk,hm⟩
               . exact ⟨.inl hb,hw2 b (hrel.fl b hb).1 fun e=>hgF (e▸hb)⟩
               have hng:k∉g1:=fun hm=>(List.nodup_append.1 hnd).2.2 k hm k hk rfl
               have hne:b≠g':=fun e=>hgS k hng (e▸hm)
               exact ⟨.inr ⟨⟨k,List.mem_append_right _ hk,hm⟩,hne⟩,hw2 b (hrel.lo k b hm).2.1 hne⟩
     cases h
   cases h
 cases h
end
end
section
open Go.RowKit
def ZK (F:Nat->Prop):Inj:=⟨F,fun _=> [],fun _=>0⟩
def TZ (F:Nat->Prop) (w w':World) (L:Nat->List Nat):Inj:=⟨fun b=>F b\/(w.heap.size<=b/\b<w'.heap.size/\∀k,b∉L k),L,fun _=>0⟩
def NU (F:Nat->Prop) (w:World) (r:AV) (e:Ending) (w':World):Prop:=
 ∃v L,e= .returned v/\Below w.heap.size w w'/\(∀k,(L k).Nodup)/\(∀k b,b∈L k->w.heap.size<=b/\b<w'.heap.size)/\(∀k k' b,b∈L k->b∈L k'->k=k')/\AR (TZ F w w' L) w' v r
def Bu (P : Program) (f : Nat) : Prop := (P.funcs[f]?).map (fun fn => (fn.name == "runtime.NumGoroutine", fn.body.isNone)) = some (false, false)
class Good (P:Program) (w:World):Prop where
 tab : ∀ g, P.globalNamed "internal/strconv.uint64pow10" = some g → Lib.TabIs P w "internal/strconv.uint64pow10" .u64 Lib.pow10Tab
 err : ∀ g, P.globalNamed "strconv.ErrSyntax" = some g → ∃ tp p, w.var? P "strconv.ErrSyntax" = some #[.iface tp p]
 mx : ∀ g, P.globalNamed "internal/bytealg.MaxLen" = some g → ∃ m, w.cell? ⟨g, 0, none⟩ = some (.int .i64 m)
 sp : ∀ g, P.globalNamed "strings.asciiSpace" = some g → Lib.TabIs P w "strings.asciiSpace" .u8 Lib.asciiSpaceTab
theorem Good.none {P : Program} (h : P.globalNamed "internal/strconv.uint64pow10" = none) (w : World) (h2 : P.globalNamed "strconv.ErrSyntax" = Option.none := by kernel_rfl) (h3 : P.globalNamed "internal/bytealg.MaxLen" = Option.none := by kernel_rfl) (h4 : P.globalNamed "strings.asciiSpace" = Option.none := by kernel_rfl) : Good P w :=
 ⟨fun g hg=>(by rw[h] at hg;cases hg),fun g hg=>(by rw[h2] at hg;cases hg),fun g hg=>(by rw[h3] at hg;cases hg),fun g hg=>(by rw[h4] at hg;cases hg)⟩
theorem CN {w w':World} {g:Nat} {v:Value} (h:w.cell? ⟨g,0,none⟩=some v) (hb:Below w.heap.size w w'):w'.cell? ⟨g,0,none⟩=some v:=by
 have hlt:g<w.heap.size:=by
  unfold World.cell? at h;split at h
  . rename_i hh;exact Q2 hh
  cases h
 rw[World.cell?_of_block (hb.block g hlt)];exact h
theorem Good.keep {P:Program} {w w':World} (h:Good P w) (hb:Below w.heap.size w w'):Good P w':=⟨fun g hg=>Go.Joins.tab_stays hg (h.tab g hg) hb (Nat.le_refl _),fun g hg=>by
 obtain ⟨tp,p,hv⟩:=h.err g hg;exact ⟨tp,p,Go.Joins.var_stays hg hv hb (Nat.le_refl _)⟩,fun g hg=>by
 obtain ⟨m,hm⟩:=h.mx g hg;exact ⟨m,CN hm hb⟩,fun g hg=>Go.Joins.tab_stays hg (h.sp g hg) hb (Nat.le_refl _)⟩
def ACalls (P:Program) (f:Nat) (args:List AV) (r:AV):Prop:=
 Bu P f/\∀(w:World),Good P w->∀(F:Nat->Prop) (vals:List Value),(∀b,F b->b<w.heap.size)->All2 (AR (ZK F) w) vals args->Calls P f vals.toArray w (NU F w r)
class GoodAt (P:Program) (b:Base):Prop where
 at_:∀w,b.Keeps w->Good P w
theorem Base.Keeps.below {b:Base} {w:World} (h:b.Keeps w) (hx:∀k,¬b.X k):Below b.w.heap.size b.w w:=⟨h.os,h.tape,h.output,h.size,fun k hk=>h.block k hk (hx k)⟩
theorem GoodAt.of {P:Program} {w:World} (h:Good P w):GoodAt P ⟨w,fun _=>False,none⟩:=⟨fun _ hk=>h.keep (hk.below fun _ h=>h)⟩
def X9 (P:Program) (w0:Base) (f:Nat) (args:List AV) (r:AV):Prop:=
 Bu P f/\∀(w:World),w0.Keeps w->∀(F:Nat->Prop) (vals:List Value),(∀b,F b->b<w.heap.size)->All2 (AR (ZK F) w) vals args->Calls P f vals.toArray w (NU F w r)
theorem ACalls.at {P:Program} {w0:Base} [hg:GoodAt P w0] {f:Nat} {args:List AV} {r:AV} (h:ACalls P f args r):X9 P w0 f args r:=⟨h.1,fun w hb=>h.2 w (hg.at_ w hb)⟩
def Qez (F:Nat->Prop) (L:List Nat) (w:World) (n:Nat) (turn:Bool) (l':List (List PV)) (e:Ending) (w':World):Prop:=
 ∃ u,e= .returned u/\(∀m,m<=w.heap.size->(∀b,b∈L->m<=b)->Below m w w')/\(∀b,b<w.heap.size->b∉L->w'.heap[b]? =w.heap[b]?)/\
   match turn with
   | true=>u= .tuple #[]/\∀v2 l2,OwnTop F L w v2 n l2->OwnTop F L w' v2 n (Pj l2 l'.flatten)
   | false=>∃L':List Nat,L'.Nodup/\(∀b,b∈L'->b<w'.heap.size/\(w.heap.size<=b\/b∈L))/\OwnTop (fun b=>F b\/((w.heap.size<=b\/b∈L)/\b<w'.heap.size/\b∉L')) L' w' u n l'
def SH (P:Program) (w:World) (ok:List Nat->Prop) (f n:Nat) (l:List (List PV)) (args:List AV) (mix turn:Bool) (l':List (List PV)):Prop:=
 ∀ (F G:Nat->Prop) (L:List Nat) (v:Value) (vals:List Value),ok L->(∀b,F b->G b)->(mix=true->∀b,G b->F b)->(∀b,G b->b<w.heap.size)->L.Nodup->(∀b,b∈L->b<w.heap.size/\¬G b)->
   OwnTop F L w v n l->All2 (AR (ZK G) w) vals args->Calls P f (v::vals).toArray w (Qez F L w n turn l')
def ATake (P:Program) (f n:Nat) (l:List (List PV)) (args:List AV) (mix turn:Bool) (l':List (List PV)):Prop:=Bu P f/\∀w,SH P w (fun L=>GoodAt P ⟨w,fun x=>x∈L,none⟩) f n l args mix turn l'
def XB (P:Program) (w0:Base) (f n:Nat) (l:List (List PV)) (args:List AV) (mix turn:Bool) (l':List (List PV)):Prop:=Bu P f/\∀w,w0.Keeps w->SH P w (fun L=>∀x,x∈L->w0.lo x) f n l args mix turn l'
theorem ATake.at {P:Program} {w0:Base} [hg:GoodAt P w0] {f n:Nat} {l:List (List PV)} {args:List AV} {mix turn:Bool} {l':List (List PV)} (h:ATake P f n l args mix turn l'):XB P w0 f n l args mix turn l':=
 ⟨h.1,fun w hb F G L v vals hok=>h.2 w F G L v vals ⟨fun w' hk=>hg.at_ w' (hb.step hk.os hk.tape hk.output hk.size fun k hkl hn=>hk.block k hkl fun hx=>hn (hok k hx))⟩⟩
def NG:C->Bool
 | .int _ _=>true
 | .bool _=>true
 | .str _=>true
 | .slc .sh _ _=>true
 | .slc (.own true _) _ _=>true
 | _=>false
def Sq:C->Bool
 | .int _ _=>true
 | .bool _=>true
 | .str _=>true
 | _=>false
def NV (F:Nat->Prop) (L:Nat->List Nat) (b:Nat):Inj:=⟨F,L,fun _=>b⟩
def FD (F:Nat->Prop) (L:Nat->List Nat) (w w':World) (L':Nat->List Nat):Inj:=⟨fun x=>F x\/((w.heap.size<=x\/∃j,x∈L j)/\x<w'.heap.size/\∀k,x∉L' k),L',fun _=>0⟩
def Qcq (J:Inj) (w:World) (b:Nat) (cs:List C):Prop:=∃arr e,w.heap[b]? =some (.cells arr e (0,0))/\All2 (CR J w) arr.toList cs
def Qed (F:Nat->Prop) (L:Nat->List Nat) (b:Nat) (w:World) (r:AV) (cs:List C) (e:Ending) (w':World):Prop:=
 ∃ v L',e= .returned v/\w'.os=w.os/\w'.tape=w.tape/\w'.output=w.output/\w.heap.size<=w'.heap.size/\(∀k,k<w.heap.size->k≠b->(∀j,k∉L j)->w'.heap[k]? =w.heap[k]?)/\
   (∀k,(L' k).Nodup)/\(∀k x,x∈L' k->x<w'.heap.size/\(w.heap.size<=x\/∃j,x∈L j))/\(∀k k' x,x∈L' k->x∈L' k'->k=k')/\AR (FD F L w w' L') w' v r/\Qcq (FD F L w w' L') w' b cs
structure Given (F:Nat->Prop) (L:Nat->List Nat) (b:Nat) (w:World):Prop where
 fl:∀x,F x->x<w.heap.size
 nd:∀k,(L k).Nodup
 lt:∀k x,x∈L k->x<w.heap.size/\¬F x
 dj:∀k k' x,x∈L k->x∈L k'->k=k'
 bF:¬F b
 bL:∀k,b∉L k
def SI (P:Program) (w:World) (ok:Nat->(Nat->List Nat)->Prop) (f:Nat) (cs:List C) (args:List AV) (r:AV) (cs':List C):Prop:=
 ∀ (F:Nat->Prop) (L:Nat->List Nat) (b:Nat) (vals:List Value),ok b L->Given F L b w->Qcq (NV F L b) w b cs->All2 (AR (ZK F) w) vals args->
   Calls P f (.pointer (some ⟨b,0,none⟩)::vals).toArray w (Qed F L b w r cs')
def AGive (P:Program) (f:Nat) (cs:List C) (args:List AV) (r:AV) (cs':List C):Prop:=Bu P f/\∀w,SI P w (fun b L=>GoodAt P ⟨w,fun x=>x=b\/∃j,x∈L j,some b⟩) f cs args r cs'
def WM (P:Program) (w0:Base) (f:Nat) (cs:List C) (args:List AV) (r:AV) (cs':List C):Prop:=Bu P f/\∀w,w0.Keeps w->SI P w (fun b L=>∀x,(x=b\/∃j,x∈L j)->w0.lo x) f cs args r cs'
theorem AGive.at {P:Program} {w0:Base} [hg:GoodAt P w0] {f:Nat} {cs:List C} {args:List AV} {r:AV} {cs':List C} (h:AGive P f cs args r cs'):WM P w0 f cs args r cs':=
 ⟨h.1,fun w hb F L b vals hok=>h.2 w F L b vals ⟨fun w' hk=>hg.at_ w' (hb.step hk.os hk.tape hk.output hk.size fun k hkl hn=>hk.block k hkl fun hx=>hn (hok k hx))⟩⟩
def Qd3 (F:Nat->Prop) (L:Nat->List Nat):Inj:=⟨F,L,fun _=>0⟩
def Qcr:C->Bool
 | .int _ _=>true
 | .bool _=>true
 | .str _=>true
 | .slc (.own true _) _ _=>true
 | _=>false
structure Owns (F:Nat->Prop) (L:Nat->List Nat) (w:World):Prop where
 fl:∀x,F x->x<w.heap.size
 nd:∀k,(L k).Nodup
 lt:∀k x,x∈L k->x<w.heap.size/\¬F x
 dj:∀k k' x,x∈L k->x∈L k'->k=k'
def Qee (L:Nat->List Nat) (w:World) (r:AV) (e:Ending) (w':World):Prop:=
 ∃ v L',e= .returned v/\w'.os=w.os/\w'.tape=w.tape/\w'.output=w.output/\w.heap.size<=w'.heap.size/\(∀k,k<w.heap.size->(∀j,k∉L j)->w'.heap[k]? =w.heap[k]?)/\
   (∀k,(L' k).Nodup)/\(∀k x,x∈L' k->x<w'.heap.size/\(w.heap.size<=x\/∃j,x∈L j))/\(∀k k' x,x∈L' k->x∈L' k'->k=k')/\AR ⟨fun _=>False,L',fun _=>0⟩ w' v r
def SJ (P:Program) (w:World) (ok:(Nat->List Nat)->Prop) (f:Nat) (args:List AV) (r:AV):Prop:=
 ∀(F:Nat->Prop) (L:Nat->List Nat) (vals:List Value),ok L->Owns F L w->All2 (AR (Qd3 F L) w) vals args->Calls P f vals.toArray w (Qee L w r)
def AVal (P:Program) (f:Nat) (args:List AV) (r:AV):Prop:=Bu P f/\∀w,SJ P w (fun L=>GoodAt P ⟨w,fun x=>∃j,x∈L j,none⟩) f args r
def FE (P:Program) (w0:Base) (f:Nat) (args:List AV) (r:AV):Prop:=Bu P f/\∀w,w0.Keeps w->SJ P w (fun L=>∀x,(∃j,x∈L j)->w0.lo x) f args r
theorem AVal.at {P:Program} {w0:Base} [hg:GoodAt P w0] {f:Nat} {args:List AV} {r:AV} (h:AVal P f args r):FE P w0 f args r:=
 ⟨h.1,fun w hb F L vals hok=>h.2 w F L vals ⟨fun w' hk=>hg.at_ w' (hb.step hk.os hk.tape hk.output hk.size fun k hkl hn=>hk.block k hkl fun hx=>hn (hok k hx))⟩⟩
structure RowAt (w:World) (n:Nat) (oa:Option Addr) (m cap:Nat) (olds:List Value):Prop where
 len:olds.length=m*n
 row:(oa=oa/\m=0/\cap=0)\/∃g cur e,oa=some ⟨g,0,none⟩/\w.heap[g]? =some (.cells cur e (0,0))/\cur.size=cap*n/\cur.toList.take (m*n)=olds
 le:m<=cap
 cap:cap<=maxLen
 lim:m<1073741824
 ones:∀u,u∈olds->u.oneCell'=true
structure Turned (w w':World) (n:Nat) (oa:Option Addr) (cap:Nat) (u:Value) (m':Nat) (news:List Value):Prop where
 os:w'.os=w.os
 tape:w'.tape=w.tape
 output:w'.output=w.output
 size:w.heap.size<=w'.heap.size
 row:∃g' cap' cur' e',u= .slice (some ⟨g',0,none⟩) m' cap'/\w'.heap[g']? =some (.cells cur' e' (0,0))/\cur'.size=cap'*n/\cur'.toList.take (m'*n)=news/\m'<=cap'/\cap'<=maxLen/\
  ((oa=some ⟨g',0,none⟩/\0<cap/\∀b,b≠g'->w'.heap[b]? =w.heap[b]?)\/(w.heap.size<=g'/\g'<w'.heap.size/\∀b,b<w.heap.size->w'.heap[b]? =w.heap[b]?))
def Qef (w:World) (n i:Nat) (oa:Option Addr) (m cap:Nat) (olds vs:List Value) (e:Ending) (w':World):Prop:=
 ∃u,e= .returned u/\Turned w w' n oa cap u (m+1) (olds.take (i*n)++vs++olds.drop (i*n))
structure OneAt (w:World) (n:Nat) (oa:Option Addr) (cap:Nat) (vb voff:Nat) (vs:List Value):Prop where
 len:vs.length=n
 cells:∀j u,vs[j]? =some u->w.cell? ⟨vb,voff+j,none⟩=some u
 ones:∀u,u∈vs->u.oneCell'=true
 ne:∀g,oa=some ⟨g,0,none⟩->0<cap->vb≠g
def Qe9 (P:Program) (f n:Nat):Prop:=Bu P f/\0<n/\∀(w:World) (oa:Option Addr) (m cap:Nat) (olds:List Value) (i vb voff vc:Nat) (vs:List Value),RowAt w n oa m cap olds->OneAt w n oa cap vb voff vs->i<=m->
 Calls P f #[.slice oa m cap, .int .i64 (i:Int), .slice (some ⟨vb,voff,none⟩) 1 vc] w (Qef w n i oa m cap olds vs)
def Z8 (P:Program) (w0:Base):TakeT:=⟨XB P w0,WM P w0,FE P w0,Qe9 P⟩
def Yf (d:Nat):List Nat->List Nat
 | []=> []
 | k::r=>(64*d+k)::Yf d r
def Ex:List Nat->List Nat->Bool
 | [],_=>true
 | x::r,l=> !(C9 x l)&&Ex r l
def Qaa (f:C->Bool):List C->Bool
 | []=>false
 | c::r=>f c|| Qaa f r
def Ol (bn:List (Nat×List C)) (d f:Nat) (caps:Option (List (List PV))) (avs:List AV) (r:AV) (ptrs:Bool):Option (Res×List Ob):=
 match Ft bn avs,caps with
 | some args,some cps=>
   bif Vm Pv r.cells&&Vy (Ql r.cells) then
    bif Qaa Ml r.cells then
     bif !ptrs&&Vm Eu (X5 avs)&&Ex (Yf d (Ql r.cells)) (Ql (X5 avs)) then
      some (⟨r.map (Pu d),Z7 (Yf d (Ql r.cells))++Xo (Ql (X5 avs)),none,none⟩, [.call f (args++cps.map fun c=> .one (.rptr .sh c)) r])
     else none
    else some (⟨r.map (Pu d),Z7 (Yf d (Ql r.cells)),none,none⟩, [.call f (args++cps.map fun c=> .one (.rptr .sh c)) r])
   else none
 | _,_=>none
def Qab (orc:Orc) (bn:List (Nat×List C)) (dst:Option Nat):Op->List AV->Option (Res×List Ob)
 | .call ⟨.value _,_,_⟩, .one (.fn f caps)::avs=>
   (match dst,orc with
   | some d, .val r=>Ol bn d f (Gf bn caps) avs r (match caps with
     | []=>false
     | _=>true)
   | _,_=>none)
 | .call ⟨.value _,_,_⟩, .one (.fnr f caps)::avs=>
   (match dst,orc with
   | some d, .val r=>Ol bn d f (some caps) avs r true
   | _,_=>none)
 | _,_=>none
section
variable {P:Program} {N:Nat} {w0:Base} {F0:Nat->Prop} {J:Inj} {a:Act} {w:World} {s:St}
theorem Cm {o:Oper} {K:Act->World->Prop} {Q:Exit->Act->World->Prop} {x:Operand} {args:Array Operand} {tys:Array TypeId} {n:Nat} {caps:Array Value} (ho:o.op= .call {callee:= .value x,args:=args,argTypes:=tys})
 (hx:a.eval x= .func (.func n) #[] caps) (hf:Bu P n)
 (h:Calls P n (args.map a.eval++caps) w (fun e w''=>match e,w'' with
  | .returned v,w''=>K (a.put o.dst v) w''
  | .panicked c,w''=>Q (.panic c) a w''
  | .outgrown,_=>LetsOut Q)):o.wp P a w K Q:=by
 obtain ⟨fn,hfn,hq⟩:=Option.map_eq_some_iff.1 hf;simp only[Prod.mk.injEq] at hq;unfold Oper.wp execOp;simp only[ho,resolve,Sem.run_bind,hx,Deferred.ofValue,Sem.run_pure,Result.andThen_ok,invoke,Array.empty_append]
 have hcf:(callFunc n (args.map a.eval++caps)).run P w= .ok (.enter n (args.map a.eval++caps)) w:=by
  have h1 : ¬ fn.name = "runtime.NumGoroutine" := by simpa using hq.1
  have h2:¬fn.body=none:=fun e=>by rw[e] at hq;simp at hq
  unfold callFunc;simp[hfn,h1,h2]
 rw[hcf];rw[Oper.upon_enter];exact h.mono fun e w' hh=>by cases e<;>exact hh
def BoxF (J:Inj) (w:World) (F:Nat->Prop) (bn:List (Nat×List C)):Prop:=
 ∀k x,get bn k=some x->F (J.B k)/\(∀k',k'∈Ql x->∀b,b∈J.L k'->F b)/\∃arr e,w.heap[J.B k]? =some (.cells arr e (0,0))/\All2 (CR J w) arr.toList x
theorem BoxF.of {bn:List (Nat×List C)} (h:∀k b,b∈J.L k->b<w.heap.size) (hb:∀k x,get bn k=some x->∃arr e,w.heap[J.B k]? =some (.cells arr e (0,0))/\All2 (CR J w) arr.toList x):BoxF J w (fun b=>b<w.heap.size) bn:=fun k x hk=>by
 obtain ⟨arr,e,h1,h2⟩:=hb k x hk;exact ⟨Q2 h1,fun k' _ b hm=>h k' b hm,arr,e,h1,h2⟩
theorem ZL:∀(n:Nat) {cs:List C} {k:Nat},k∈Ql (cs.drop n)->k∈Ql cs
 | 0,_,_,h=>by simpa using h
 | _+1, [],_,h=>by simp at h;exact h
 | n+1,_::r,_,h=>by
   rw[List.drop_succ_cons] at h;simp only[Ql];exact List.mem_append_right _ (ZL n h)
theorem Tc:∀{l:List C},Vm Eu l=true->Vm Pw l=true
 | [],_=>rfl
 | c::l,h=>by
   simp only[Vm,Bool.and_eq_true] at h⊢;refine ⟨?_,Tc h.2⟩;have h1:=h.1;cases c<;>first | rfl | cases h1
theorem XC {F:Nat->Prop} {bn:List (Nat×List C)} (hF:∀b,J.F b->F b) {v:Value} {c c':C} (hc:CR J w v c) (he:AC bn c=some c') (hL:∀k,c.key=some k->∀b,b∈J.L k->F b)
 (hB:Pw c=true\/BoxF J w F bn):CR (ZK F) w v c':=by
 have hbox:BoxF J w F bn->∀k off cs,NN bn k off=some cs->Reads F w (.pointer (some ⟨J.B k,off,none⟩)) cs:=by
  intro h3 k off cs hb;unfold NN at hb;split at hb
  . rename_i x hx;obtain ⟨h1,h2,arr,e,hg,hall⟩:=h3 k x hx;refine ⟨J.B k,off,arr.toList.drop off,rfl,h1,Ix (hall.drop off) hb (fun b hb=>⟨hF b hb,rfl⟩) (fun k' hk' b hb=>⟨h2 k' (ZL off hk') b hb,rfl⟩), ?_⟩
    have:=Uk (w:=w) (vs:=arr.toList) (b:=J.B k) (off:=0) (k:=off) (fun j u hj=>by
     rw[Array.getElem?_toList] at hj;simp[World.cell?,hg,hj])
    simpa using this
  cases hb
 cases c with
 | int=>obtain rfl:=Option.some.inj he;exact hc
 | bool=>obtain rfl:=Option.some.inj he;exact hc
 | str=>obtain rfl:=Option.some.inj he;exact hc
 | slc t n l=>
   obtain rfl:=Option.some.inj he;exact FC (X:=F) hc rfl (fun b hb=>⟨hF b hb,rfl⟩) fun k hk b hb=>⟨hL k hk b hb,rfl⟩
 | ptr k off=>
   obtain ⟨cs,hcs,rfl⟩:=Option.map_eq_some_iff.1 he;rcases hB with hB | h3
   . cases hB
   show Reads F w v cs;rw[show v=_ from hc];exact hbox h3 k off cs hcs
 | rptr t cs=>
   obtain rfl:=Option.some.inj he;refine Reads.keep hc fun b hb=>⟨?_,rfl⟩
   cases t with
   | sh=>exact hF b hb
   | emp=>exact hb.elim
   | own=>exact hb.elim
   | put=>exact hb.elim
   | vw k=>exact hb.elim (hL k rfl b) (hF b)
 | ept d k n i o cs=>
   obtain rfl:=Option.some.inj he;obtain ⟨g,r,vs,h1,h2,h3,h4,_⟩:=hc;refine ⟨g,i*n+o,vs,h2,hL k rfl g (by rw[h1];exact List.mem_cons_self),h3.keep fun b hb=>⟨?_,rfl⟩,h4⟩;cases d with
   | true=>exact hb.elim (hL k rfl b) (hF b)
   | false=>exact hF b hb
 | fn f caps =>
   obtain ⟨cs,hcs,rfl⟩:=Option.map_eq_some_iff.1 he;rcases hB with hB | h3
   . cases caps with
     | nil=>
       obtain rfl: []=cs:=by simpa [Gf] using hcs
       exact ⟨[],hc, .nil⟩
     | cons=>cases hB
   refine ⟨_,hc, ?_⟩;clear hc he hL
   induction caps generalizing cs with
   | nil => obtain rfl: []=cs:=by simpa [Gf] using hcs
            exact .nil
   | cons c caps ih=>
     simp only[Gf] at hcs;split at hcs
     . rename_i p ps e1 e2;obtain rfl:=Option.some.inj hcs;exact .cons (hbox h3 c.1 c.2 p e1) (ih ps e2)
     cases hcs
 | fnr f caps=>
   obtain rfl:=Option.some.inj he;obtain ⟨vs,rfl,ha⟩:=hc;exact ⟨vs,rfl,ha.imp fun _ _ _ h=>h.keep fun b hb=>⟨hF b hb,rfl⟩⟩
 | raw u=>obtain rfl:=Option.some.inj he;exact hc
 | dead=>cases he
theorem Ey {F : Nat -> Prop} {bn : List (Nat×List C)} (hF:∀b,J.F b->F b):∀{vs:List Value} {avs args:List AV},All2 (AR J w) vs avs->Ft bn avs=some args->(∀k,k∈Ql (X5 avs)->∀b,b∈J.L k->F b)->
 (Vm Pw (X5 avs)=true\/BoxF J w F bn)->All2 (AR (ZK F) w) vs args
 | _, _, args, .nil, he, _, _ => by obtain rfl: []=args:=by simpa [Ft] using he
                                    exact .nil
 | _, _, args, .cons (b:=x) h1 h2,he,hL,hB=>by
   have hka:∀(cs cs':List C),Ql (cs++cs')=Ql cs++Ql cs':=by
    intro cs cs'
    induction cs with
    | nil=>rfl
    | cons c cs ih=>simp[Ql,ih]
   have haa:∀(f:C->Bool) (cs cs':List C),Vm f (cs++cs')=(Vm f cs&&Vm f cs'):=by
    intro f cs cs'
    induction cs with
    | nil=>rfl
    | cons c cs ih=>simp[Vm,ih,Bool.and_assoc]
   simp only[Ft] at he;split at he
   . rename_i p ps e1 e2;obtain rfl:=Option.some.inj he;simp only[X5,hka] at hL;simp only[X5,haa,Bool.and_eq_true] at hB;refine .cons ?_ (Ey hF h2 e2 (fun k hk=>hL k (List.mem_append_right _ hk)) (hB.imp (fun h=>h.2) id));have hL1:∀k,k∈Ql x.cells->∀b,b∈J.L k->F b:=fun k hk=>hL k (List.mem_append_left _ hk)
     have hB1:=hB.imp (fun h=>h.1) id
     have hlist :∀(cs:List C) (us:List Value) (qs:List C),All2 (CR J w) us cs->Pt bn cs=some qs->(∀k,k∈Ql cs->∀b,b∈J.L k->F b)->(Vm Pw cs=true\/BoxF J w F bn)->All2 (CR (ZK F) w) us qs:=by
      intro cs
      induction cs with
      | nil => intro us qs h he _ _;cases h;obtain rfl: []=qs:=by simpa [Pt] using he
               exact .nil
      | cons c cs ih=>
        intro us qs h he hL hB;cases h with
        | cons g1 g2=>
          simp only[Pt] at he;split at he
          . rename_i q qs' f1 f2;obtain rfl:=Option.some.inj he;simp only[Vm,Bool.and_eq_true] at hB;exact .cons (XC hF g1 f1 (fun k hk=>hL k (by simp[Ql,hk])) (hB.imp (fun h=>h.1) id)) (ih _ _ g2 f2 (fun k hk=>hL k (by simp only[Ql];exact List.mem_append_right _ hk)) (hB.imp (fun h=>h.2) id))
          cases he
     cases x with
     | one c=>
       obtain ⟨c',hc',rfl⟩:=Option.map_eq_some_iff.1 e1;exact XC hF h1 hc' (fun k hk=>hL1 k (by simp[AV.cells,Ql,hk])) (hB1.imp (fun h=>by simpa [AV.cells,Vm] using h) id)
     | agg cs=>
       obtain ⟨c',hc',rfl⟩:=Option.map_eq_some_iff.1 e1;obtain ⟨us,rfl,hu⟩:=h1;exact ⟨us,rfl,hlist cs us c' hu hc' hL1 hB1⟩
     | tup l=>cases e1
   cases he
end
end
section
open Go.RowKit
section
variable {P:Program} {N:Nat} {w0:Base} {F0:Nat->Prop} {J:Inj} {a:Act} {w:World} {s:St}
theorem Wu {d x:Nat}:∀{ks:List Nat},x∈Yf d ks↔∃k,k∈ks/\x=64*d+k
 | []=>by simp[Yf]
 | k::r=>by
   simp only[Yf,List.mem_cons,Wu (ks:=r)];exact ⟨fun h=>h.elim (fun e=>⟨k, .inl rfl,e⟩) fun ⟨k',h1,h2⟩=>⟨k', .inr h1,h2⟩,fun ⟨k',h1,h2⟩=>h1.elim (fun e=> .inl (e▸h2)) fun h=> .inr ⟨k',h,h2⟩⟩
theorem A0:∀{l m:List Nat},Ex l m=true->∀x,x∈l->x∉m
 | [],_,_,x,hx,_=>by simp at hx
 | y::l,m,h,x,hx,hm=>by
   simp only[Ex,Bool.and_eq_true,Bool.not_eq_true'] at h;rcases List.mem_cons.1 hx with rfl | hx
   . rw[Ul.2 hm] at h;exact absurd h.1 (by simp)
   exact A0 h.2 x hx hm
theorem K6 {f:C->Bool}:∀{cs:List C},Vm f cs=true->∀c,c∈cs->f c=true
 | [],_,c,hc=>by simp at hc
 | x::r,h,c,hc=>by
   simp only[Vm,Bool.and_eq_true] at h;rcases List.mem_cons.1 hc with rfl | hc
   . exact h.1
   exact K6 h.2 c hc
theorem Mp {f:C->Bool}:∀{cs:List C},Qaa f cs=false->∀c,c∈cs->f c=false
 | [],_,c,hc=>by simp at hc
 | x::r,h,c,hc=>by
   simp only[Qaa,Bool.or_eq_false_iff] at h;rcases List.mem_cons.1 hc with rfl | hc
   . exact h.1
   exact Mp h.2 c hc
theorem Dt:∀{cs:List C} {c:C} {k:Nat},c∈cs->c.key=some k->k∈Ql cs
 | x::r,c,k,hc,hk=>by
   simp only[Ql];rcases List.mem_cons.1 hc with rfl | hc
   . exact List.mem_append_left _ (by rw[hk];simp)
   exact List.mem_append_right _ (Dt hc hk)
theorem ZM:∀{cs:List C},Vm Pv cs=true->∀{k:Nat},k∈Ql cs->k<64
 | [],_,k,hk=>by simp[Ql] at hk
 | c :: r,h,k,hk=>by
   simp only[Vm,Bool.and_eq_true] at h;simp only[Ql] at hk;rcases List.mem_append.1 hk with hk | hk
   . have h1:=h.1;cases c with
     | slc t n l=>
       cases t with
       | own b k'=>
         simp[C.key,Tok.key] at hk;subst hk;simp only[Pv,Nat.blt_eq] at h1;exact h1
       | _=>simp[C.key,Tok.key] at hk;try cases h1
     | _=>simp[C.key] at hk;try cases h1
   exact ZM h.2 hk
theorem ZN (hrel:Rel N w0 F0 J a w s) (d:Nat) (hd:d<N) {r:AV} {frz:List Nat} (hback:Vm Pv r.cells=true) (Fc:Nat->Prop) (hFc:∀b,Fc b->b<w.heap.size)
 (hmode:(frz= []/\Qaa Ml r.cells=false)\/((∀b,Fc b↔J.F b\/∃k,k∈frz/\b∈J.L k)/\∀x,x∈Yf d (Ql r.cells)->x∉frz)) {e:Ending} {w':World} (hret:NU Fc w r e w'):
 ∃v J',e= .returned v/\Rel N w0 F0 J' (a.put (some d) v) w' (s.step (some d) ⟨r.map (Pu d),Z7 (Yf d (Ql r.cells))++Xo frz,none,none⟩):=by
 obtain ⟨v,L,rfl,hb,hnd,hlo,hdj,hr⟩:=hret;have hk64:∀k,k∈Ql r.cells->k<64:=fun k hk=>ZM hback hk
 have h0:=hrel.below.size;have hsz:=hb.size;have hsame:∀b,b<w.heap.size->w'.heap[b]? =w.heap[b]? :=hb.block
 have hfrzn:∀x,x∈Yf d (Ql r.cells)->x∉frz:=fun x hx=>by
  rcases hmode with ⟨e,_⟩ | ⟨_,h⟩
  . rw[e];simp
  exact h x hx
 have hget:∀x,get (Z7 (Yf d (Ql r.cells))++Xo frz) x=if x∈Yf d (Ql r.cells) then some none else if x∈frz then some (some .sh) else none:=by
  intro x;rw[Mo,V3];by_cases h:x∈Yf d (Ql r.cells)
  . rw[if_pos h,if_pos h]
  rw[if_neg h,if_neg h];exact Ko
 let shares:=Qaa Ml r.cells
 let J':Inj:=⟨fun b=>if frz= []/\shares=false then J.F b else (Fc b\/(w.heap.size<=b/\b<w'.heap.size/\∀k,b∉L k)),fun x=>if x∈Yf d (Ql r.cells) then L (x-64*d) else if x∈frz then [] else J.L x,J.B⟩
 have hF1:∀b,J.F b->J'.F b:=fun b hb'=>by
  show if _ then _ else _
  split
  . exact hb'
  rename_i hn;rcases hmode with h | ⟨h,_⟩
  . exact absurd h hn
  exact .inl ((h b).2 (.inl hb'))
 have hF2:∀b,J'.F b->J.F b\/(∃k,k∈frz/\b∈J.L k)\/(w.heap.size<=b/\b<w'.heap.size/\∀k,b∉L k):=fun b hb'=>by
  have hb':if frz= []/\shares=false then J.F b else (Fc b\/(w.heap.size<=b/\b<w'.heap.size/\∀k,b∉L k)):=hb'
  split at hb'
  . exact .inl hb'
  rename_i hn;rcases hmode with h | ⟨h,_⟩
  . exact absurd h hn
  rcases hb' with hb' | hb'
  . exact ((h b).1 hb').imp id .inl
  exact .inr (.inr hb')
 refine ⟨v,J',rfl,hrel.upd (some d) (fun d' e=>by cases e;exact hd) _ v (hrel.below.trans (hb.mono h0)) ⟨fun b hb'=>⟨hF1 b hb',hsame b (hrel.fl b hb').1⟩,fun k hk=> ?_,fun k hk b hm=> ?_,fun k k' hk=> ?_,fun k t hk=> ?_,(fun _ _=>rfl),fun k d m i o cs hk=>by
  rw[hget] at hk;split at hk
  . cases hk
  split at hk<;>cases hk⟩
  ⟨fun b hb'=> ?_,fun b hb'=>hF1 b (hrel.f0 b hb'),fun k=> ?_,fun k b hm=> ?_,fun k k' b hm hm'=> ?_⟩ (fun _=> ?_) (fun k c hk _=> ?_) (fun k c hk=>by cases hk)⟩
 . rw[hget] at hk;split at hk
   . cases hk
   split at hk
   . cases hk
   rename_i h1 h2;exact ⟨by show (if _ then _ else _)=_;rw[if_neg h1,if_neg h2],fun b hm=>hsame b (hrel.lo k b hm).2.1⟩
 . rw [hget] at hk;split at hk
   . cases hk
   split at hk
   . rename_i h1 h2;refine ⟨?_,hsame b (hrel.lo k b hm).2.1⟩;show if _ then _ else _
     rcases hmode with ⟨e,_⟩ | ⟨h,_⟩
     . rw[e] at h2;simp at h2
     rw[if_neg fun hn=>by rw[hn.1] at h2;simp at h2];exact .inl ((h b).2 (.inr ⟨k,h2,hm⟩))
   cases hk
 . rw[hget] at hk;split at hk
   . cases hk
   split at hk<;>cases hk
 . rw[hget] at hk;split at hk
   . cases hk
   split at hk
   . simp at hk;exact .inl hk.symm
   cases hk
 . rcases hF2 b hb' with h | ⟨k,_,h⟩ | ⟨h1,h2,_⟩
   . have:=hrel.fl b h;exact ⟨by omega,this.2⟩
   . have:=hrel.lo k b h;exact ⟨by omega, .inr this.1⟩
   exact ⟨h2, .inr (.inl (by omega))⟩
 . show (if _ then _ else _:List Nat).Nodup;split
   . exact hnd _
   split
   . simp
   exact hrel.nd k
 . have hm:b∈(if k∈Yf d (Ql r.cells) then L (k-64*d) else if k∈frz then [] else J.L k):=hm;split at hm
   . obtain ⟨h1,h2⟩:=hlo _ b hm;refine ⟨.inl (by omega),h2,fun hF=> ?_⟩;rcases hF2 b hF with h | ⟨k',_,h⟩ | ⟨_,_,h⟩
     . have:=(hrel.fl b h).1;omega
     . have:=(hrel.lo k' b h).2.1;omega
     exact h _ hm
   split at hm
   . simp at hm
   rename_i h1 h2;obtain ⟨g1,g2,g3⟩:=hrel.lo k b hm;refine ⟨g1,by omega,fun hF=> ?_⟩;rcases hF2 b hF with h | ⟨k',hk',h⟩ | ⟨h,_,_⟩
   . exact g3 h
   . exact h2 (hrel.dj k k' b hm h▸hk')
   omega
 . have hm:b∈(if k∈Yf d (Ql r.cells) then L (k-64*d) else if k∈frz then [] else J.L k):=hm;have hm':b∈(if k'∈Yf d (Ql r.cells) then L (k'-64*d) else if k'∈frz then [] else J.L k'):=hm';split at hm<;>split at hm'
   . rename_i h1 h2;have:=hdj _ _ b hm hm';obtain ⟨j,_,rfl⟩:=Wu.1 h1;obtain ⟨j',_,rfl⟩:=Wu.1 h2;omega
   . split at hm'
     . simp at hm'
     have:=(hlo _ b hm).1;have:=(hrel.lo k' b hm').2.1;omega
   . split at hm
     . simp at hm
     have:=(hlo _ b hm').1;have:=(hrel.lo k b hm).2.1;omega
   split at hm
   . simp at hm
   split at hm'
   . simp at hm'
   exact hrel.dj k k' b hm hm'
 . refine AR.map (Pu d) hr fun u c hc hcr=> ?_
   have hbk:=K6 hback c hc;cases c with
   | int | bool | str | raw=>exact hcr
   | slc t n l=>
     cases t with
     | emp=>exact hcr
     | vw k=>cases hbk
     | put=>exact hcr.elim
     | own b k=>
       cases b with
       | false=>
         have hsh:shares=true:=by
          cases hs:shares with
          | true=>rfl
          | false=>have:=Mp hs _ hc;simp[Ml] at this
         show OwnTop J'.F (if 64*d+k∈Yf d (Ql r.cells) then L (64*d+k-64*d) else _) w' u _ _;rw[if_pos (Wu.2 ⟨k,Dt hc rfl,rfl⟩),Nat.add_sub_cancel_left];refine OwnTop.keep (F:=(TZ Fc w w' L).F) hcr (fun b hb'=>⟨?_,rfl⟩) fun _ _=>rfl
         show if _ then _ else _
         rw[if_neg (by rw[hsh];simp)];exact hb'
       | true=>
         show OwnDeep (if 64*d+k∈Yf d (Ql r.cells) then L (64*d+k-64*d) else _) w' u _ _;rw[if_pos (Wu.2 ⟨k,Dt hc rfl,rfl⟩),Nat.add_sub_cancel_left];exact hcr
     | sh=>
       have hsh:shares=true:=by
        cases hs:shares with
        | true=>rfl
        | false=>have:=Mp hs _ hc;simp[Ml] at this
       refine VV.keep (X:=(TZ Fc w w' L).F) (fun b hb'=>⟨?_,rfl⟩) hcr;show if _ then _ else _
       rw[if_neg (by rw[hsh];simp)];exact hb'
   | _=>cases hbk
 obtain ⟨_,h2,h3,arr,e,h4,_⟩:=hrel.bo k c hk;have hlt:=Q2 h4;refine ⟨by simp,fun hF=> ?_,fun k' hm=> ?_,hsame _ hlt⟩
 . rcases hF2 _ hF with h | ⟨k',_,h⟩ | ⟨h,_,_⟩
   . exact h2 h
   . exact h3 k' h
   omega
 have hm:J.B k∈(if k'∈Yf d (Ql r.cells) then L (k'-64*d) else if k'∈frz then [] else J.L k'):=hm;split at hm
 . have:=(hlo _ _ hm).1;omega
 split at hm
 . simp at hm
 exact h3 k' hm
theorem All2.of_map {α β γ:Type} {R:α->β->Prop} (f:γ->α):∀{l:List γ} {m:List β},All2 (fun x b=>R (f x) b) l m->All2 R (l.map f) m
 | _,_, .nil=> .nil
 | _,_, .cons h1 h2=> .cons h1 (All2.of_map f h2)
theorem P1 {o:Oper} {x:Operand} {args:Array Operand} {tys:Array TypeId} {f:Nat} {caps:Array Value} {cps:Option (List (List PV))} {avs:List AV} {r:AV} {ptrs:Bool} {bn:List (Nat×List C)} {rs:Res} {obs:List Ob} {d:Nat}
 (ho:o.op= .call ⟨.value x,args,tys⟩) (hod:o.dst=some d) (hdst:d<N) (hx:a.eval x= .func (.func f) #[] caps) (h:Ol bn d f cps avs r ptrs=some (rs,obs)) (hob:AllOb (X9 P w0) (Z8 P w0) obs)
 (hrel:Rel N w0 F0 J a w s) (hv:All2 (AR J w) (args.toList.map a.eval) avs) (hbn:∀k c,get bn k=some c->get s.bx k=some c)
 (hcaps:∀cs,cps=some cs->(ptrs=false->cs= []/\caps= #[])/\All2 (Reads (fun b=>b<w.heap.size) w) caps.toList cs)
 {K:Act->World->Prop} {Q:Exit->Act->World->Prop} (hK:∀J' a' w',Rel N w0 F0 J' a' w' (s.step o.dst rs)->K a' w'):o.wp P a w K Q:=by
 unfold Ol at h;split at h
 rotate_left
 . cases h
 rename_i eas cs has;have hcs:some cs=some cs:=rfl;cases hc:(Vm Pv r.cells&&Vy (Ql r.cells)) with
 | false=>rw[hc] at h;cases h
 | true =>
   rw[hc] at h;simp only[cond_true] at h;simp only[Bool.and_eq_true] at hc;rw[hod] at hK
   have hbx:∀k x,get bn k=some x->∃arr e,w.heap[J.B k]? =some (.cells arr e (0,0))/\All2 (CR J w) arr.toList x:=fun k x hk=>by
    obtain ⟨_,_,_,h⟩:=hrel.bo k x (hbn k x hk);exact h
   have hAllF:∀b,J.F b->b<w.heap.size:=fun b hb=>(hrel.fl b hb).1
   have hcapAR:∀(F:Nat->Prop) (us:List Value) (cs:List (List PV)),All2 (Reads F w) us cs->All2 (AR (ZK F) w) us (cs.map fun c=> .one (.rptr .sh c)):=by
    intro F us cs h
    induction h with
    | nil=>exact .nil
    | cons h1 _ ih=>exact .cons h1 ih
   have hvals:(args.map a.eval++caps)=(args.toList.map a.eval++caps.toList).toArray:=by
    apply Array.ext';simp
   cases hsh:Qaa Ml r.cells with
   | true=>
     rw[hsh] at h;simp only[cond_true] at h;cases hm:(!ptrs&&Vm Eu (X5 avs)&&Ex (Yf d (Ql r.cells)) (Ql (X5 avs))) with
     | false=>rw[hm] at h;cases h
     | true=>
       rw[hm] at h;simp only[cond_true,Option.some.injEq,Prod.mk.injEq] at h;obtain ⟨rfl,rfl⟩:=h;simp only[Bool.and_eq_true,Bool.not_eq_true'] at hm;obtain ⟨⟨hp,hnp⟩,hdj⟩:=hm;have hob1:X9 P w0 f (eas++cs.map fun c=> .one (.rptr .sh c)) r:=hob;obtain ⟨hfn,hcall⟩:=hob1
       let F:Nat->Prop:=fun b=>J.F b\/∃k,k∈Ql (X5 avs)/\b∈J.L k
       have hFlt:∀b,F b->b<w.heap.size:=fun b hb=>hb.elim (hAllF b) fun ⟨k,_,h⟩=>(hrel.lo k b h).2.1
       have hargs:=Ey (F:=F) (bn:=bn) (fun b hb=> .inl hb) hv has (fun k hk b hb=> .inr ⟨k,hk,hb⟩) (.inl (Tc hnp));have hcapE:cs= []/\caps= #[]:=(hcaps cs hcs).1 hp;obtain ⟨rfl,rfl⟩:=hcapE;have hC:=hcall w hrel.below F _ hFlt (hargs.append .nil);refine Cm ho hx hfn ?_;rw[hvals];refine hC.mono fun e w' hret=> ?_
       obtain ⟨v,J',rfl,hR⟩:=ZN hrel d hdst (frz:=Ql (X5 avs)) hc.1 F hFlt (.inr ⟨fun b=>Iff.rfl,A0 hdj⟩) hret;rw[hod];exact hK J' _ _ hR
   | false=>
     rw[hsh] at h;simp only[cond_false,Option.some.injEq,Prod.mk.injEq] at h;obtain ⟨rfl,rfl⟩:=h;have hob1:X9 P w0 f (eas++cs.map fun c=> .one (.rptr .sh c)) r:=hob;obtain ⟨hfn,hcall⟩:=hob1;have hargs:=Ey (F:=fun b=>b<w.heap.size) (bn:=bn) hAllF hv has (fun k _ b hb=>(hrel.lo k b hb).2.1) (.inr (BoxF.of (fun k b hb=>(hrel.lo k b hb).2.1) hbx));have hcapR:All2 (Reads (fun b=>b<w.heap.size) w) caps.toList cs:=(hcaps cs hcs).2;have hC:=hcall w hrel.below (fun b=>b<w.heap.size) _ (fun _ h=>h) (hargs.append (hcapAR _ _ _ hcapR));refine Cm ho hx hfn ?_;rw[hvals];refine hC.mono fun e w' hret=> ?_
     obtain ⟨v,J',rfl,hR⟩:=ZN hrel d hdst (frz:= []) hc.1 (fun b=>b<w.heap.size) (fun _ h=>h) (.inl ⟨rfl,hsh⟩) hret;rw[hod];rw[show Xo []= [] from rfl,List.append_nil] at hR;exact hK J' _ _ hR
theorem NW {orc : Orc} {bn:List (Nat×List C)} {o:Oper} {avs:List AV} {r:Res} {obs:List Ob} (h:Qab orc bn o.dst o.op avs=some (r,obs)) (hob:AllOb (X9 P w0) (Z8 P w0) obs) (hdst:∀d,o.dst=some d->d<N)
 (hrel:Rel N w0 F0 J a w s) (hops:All2 (fun x v=>Pp s x=some v) o.op.operands.toList avs) (hbn:∀k c,get bn k=some c->get s.bx k=some c) {K:Act->World->Prop} {Q:Exit->Act->World->Prop}
 (hK:∀J' a' w',Rel N w0 F0 J' a' w' (s.step o.dst r)->K a' w'):o.wp P a w K Q:=by
 have hv:=Un hrel hops;generalize ho:o.op=op at h hv;generalize hd:o.dst=dst at h;unfold Qab at h
 have hreads:∀(caps:List (Nat×Nat)) (cs:List (List PV)),Gf bn caps=some cs->All2 (Reads (fun b=>b<w.heap.size) w) (caps.map fun c=> .pointer (some ⟨J.B c.1,c.2,none⟩)) cs:=by
  intro caps
  induction caps with
  | nil => intro cs h;obtain rfl: []=cs:=by simpa [Gf] using h
           exact .nil
  | cons c caps ih=>
    intro cs h;simp only[Gf] at h;split at h
    . rename_i p ps e1 e2;obtain rfl:=Option.some.inj h;refine .cons ?_ (ih ps e2)
      have:=XC (J:=J) (w:=w) (F:=fun b=>b<w.heap.size) (bn:=bn) (c:= .ptr c.1 c.2) (c':= .rptr .sh p) (fun b hb=>(hrel.fl b hb).1) (v:= .pointer (some ⟨J.B c.1,c.2,none⟩)) rfl (by simp[AC,e1]) (fun k hk=>by simp[C.key] at hk)
       (.inr (BoxF.of (fun k b hb=>(hrel.lo k b hb).2.1) fun k x hk=>by
        obtain ⟨_,_,_,h⟩:=hrel.bo k x (hbn k x hk);exact h))
      exact this
    cases h
 split at h
 . rename_i x args tys f caps avs';split at h
   . rename_i d r';have hv':All2 (fun x v=>AR J w (a.eval x) v) (x::args.toList) (.one (.fn f caps)::avs'):=by simpa [Op.operands,Call.operands] using hv
     cases hv' with
     | cons h1 h2 =>
       refine P1 (P:=P) ho hd (hdst d hd) h1 h hob hrel (All2.of_map _ h2) hbn (fun cs hcs=> ?_) hK;constructor
       . intro hp;cases caps with
         | nil => obtain rfl: []=cs:=by simpa [Gf] using hcs
                  exact ⟨rfl,rfl⟩
         | cons c caps=>cases hp
       simpa using hreads caps cs hcs
   cases h
 . rename_i x args tys f caps avs';split at h
   . rename_i d r';have hv':All2 (fun x v=>AR J w (a.eval x) v) (x::args.toList) (.one (.fnr f caps)::avs'):=by simpa [Op.operands,Call.operands] using hv
     cases hv' with
     | cons h1 h2=>
       obtain ⟨vs,e1,hr⟩:=h1;refine P1 (P:=P) ho hd (hdst d hd) e1 h hob hrel (All2.of_map _ h2) hbn (fun cs hcs=> ?_) hK;obtain rfl:=Option.some.inj hcs;exact ⟨fun e=>(by cases e),by simpa using hr.imp fun _ _ _ h=>h.keep fun b hb=>⟨(hrel.fl b hb).1,rfl⟩⟩
   cases h
 cases h
end
end
section
open Go.RowKit
def FF (tt:List (Nat×TI)) (orc:Orc):Op->List AV->Option (AV×List Ob)
 | .indexAddr t _ _, [.one (.slc (.own d k) n l), .one (.int _ i)]=>
   (match get tt t,orc with
   | some ⟨.sli e,_,_,_⟩, .rowE r=>(match get tt e with
     | some ei=>bif Nat.beq ei.size n then some (.one (.ept d k n i.toNat 0 r), [.elem l i r]) else none
     | none=>none)
   | _,_=>none)
 | .fieldAddr t _ f, [.one (.ept d k n i o cs)]=>
   (match Bi tt t f with
   | some (o',sz,_)=>bif Nat.beq sz 0 then none else some (.one (.ept d k n i (o+o') (cs.drop o')), [])
   | none=>none)
 | .nilCheck _, [.one (.ept d k n i o cs)]=>some (.one (.ept d k n i o cs), [])
 | .load t _, [.one (.ept d k n i o cs)]=>
   (match get tt t with
   | some ti=>bif Nat.ble ti.size cs.length then (match CH ti ((cs.take ti.size).map (Sp (Ge d k))) with
     | some v=>some (v, [])
     | none=>none) else none
   | none=>none)
 | _,_=>none
section
variable {P:Program} {A:Nat->List AV->AV->Prop} {T:TakeT} {J:Inj} {w:World}
theorem NX {d:Bool} {k n:Nat} {l:List (List PV)} {v:Value} (h:CR J w v (.slc (.own d k) n l)) {i:Nat} {r:List PV} (hi:l[i]? =some r):
 ∃g rest cap vs,v= .slice (some ⟨g,0,none⟩) l.length cap/\J.L k=g::rest/\VC (J.X (Ge d k)) w vs r/\(∀(j:Nat) (u:Value),vs[j]? =some u->w.cell? ⟨g,i*n+j,none⟩=some u)/\∃arr e,w.heap[g]? =some (.cells arr e (0,0)):=by
 have hne:l≠ []:=fun e=>by subst e;simp at hi
 have cellsOf:∀(g:Nat) (cur:Array Value) (e:TypeId),w.heap[g]? =some (.cells cur e (0,0))->∀(j:Nat) (u:Value),(((cur.toList.take (l.length*n)).drop (i*n)).take n)[j]? =some u->w.cell? ⟨g,i*n+j,none⟩=some u:=by
  intro g cur e hg
  have:=Hh (k:=n) (Uk (w:=w) (vs:=cur.toList.take (l.length*n)) (b:=g) (off:=0) (k:=i*n) (fun j u hj=>by
   rw[List.getElem?_take] at hj;split at hj
   . rw[Array.getElem?_toList] at hj;simp[World.cell?,hg,hj]
   cases hj))
  simpa using this
 cases d with
 | true=>
   obtain ⟨L',h1,_,h3,h4⟩:=h;generalize hp:PV.slc n l=p at h1;cases h1 with
   | int | bool | str | any | raw=>cases hp
   | emp=>cases hp;exact absurd rfl hne
   | @slc g cap n' cur e L l' hg hs hr h5 h6=>
     cases hp
     rcases h4 with h4 | ⟨g',r1,r2,e1,e2⟩
     . cases h4
     cases e1
     have hv:=hr.vr (X:=J.X (.vw k)) fun b hb=> .inl (h3 b (List.mem_cons_of_mem _ hb))
     exact ⟨g,r2,cap,_,rfl,e2,(hv.get hi).1,cellsOf g cur e hg,cur,e,hg⟩
 | false=>
   rcases h with ⟨e,_⟩ | ⟨g,cap,cur,e,hL,rfl,hg,hs,hr,h1,h2⟩
   . exact absurd e hne
   exact ⟨g, [],cap,_,rfl,hL,(hr.get hi).1,cellsOf g cur e hg,cur,e,hg⟩
theorem ZO {tt:List (Nat×TI)} (htt:Aq P tt=true) {orc:Orc} {op:Op} {avs:List AV} {v:AV} {obs:List Ob} (h:FF tt orc op avs=some (v,obs)) (hob:AllOb A T obs)
 {o:Oper} (ho:o.op=op) {ρ:Operand->Value} (hv:All2 (fun x v=>AR J w (ρ x) v) op.operands.toList avs):
 ∃u,(execOp ρ o).run P w= .ok (.value u) w/\AR J w u v:=by
 unfold FF at h;split at h
 ·
  rename_i t px pi d k n l kk i;split at h
  . rename_i e n' z q r hg;split at h
    . rename_i ei hge;cases hsz:Nat.beq ei.size n with
      | false=>rw[hsz] at h;cases h
      | true =>
        rw[hsz] at h;obtain ⟨rfl,rfl⟩:AV.one (.ept d k n i.toNat 0 r)=v/\ [Ob.elem l i r]=obs:=by simpa using h
        obtain ⟨h0,hl⟩:0<=i/\l[i.toNat]? =some r:=hob;have hu:=(Zb htt hg).sli;have hs:=Ac (P:=P) (Zb htt hge) w;have hn:ei.size=n:=by simpa using hsz
        cases hv with
        | cons h1 h2=>
          cases h2 with
          | cons h2 _=>
            obtain ⟨e2,_⟩:=h2;obtain ⟨g,rest,cap,vs,e1,hL,hvc,hc,hblk⟩:=NX h1 hl;have hlt:i.toNat<l.length:=(List.getElem?_eq_some_iff.1 hl).1;have hlt':i<(l.length:Int):=by omega
            refine ⟨.pointer (some ⟨g,0+i.toNat*n,none⟩), ?_,g,rest,vs,hL,by simp,hvc,(fun j u hj=>by simpa using hc j u hj),hblk⟩;simp[execOp,ho,e1,e2,Instr.indexAt,asIntOf,run_underlying hu,h0,hlt',hs,hn,Addr.add_lit]
    cases h
  cases h
 ·
  rename_i t px f d k n i o' cs;cases hv with
  | cons h1 _=>
    obtain ⟨g,rest,vs,hL,e1,hvs,hc,hblk⟩:=h1;split at h
    . rename_i of sz ag hfa;cases hz:Nat.beq sz 0 with
      | true=>rw[hz] at h;cases h
      | false=>
        rw[hz] at h;obtain ⟨rfl,rfl⟩:AV.one (.ept d k n i (o'+of) (cs.drop of))=v/\ []=obs:=by simpa using h
        unfold Bi at hfa;split at hfa
        . rename_i fs n1 z hg;obtain ⟨gs,hu,hfo⟩:=(Zb htt hg).struct;obtain ⟨fg,inf,dd,k1,rfl,hi,rfl,hd,hag⟩:=Fu hfo hfa;have k1':gs[f]? =some fg:=by simpa using k1
          refine ⟨.pointer (some ⟨g,i*n+o'+fg.offset,none⟩), ?_,g,rest,vs.drop fg.offset,hL,by rw[Nat.add_assoc],hvs.drop _, ?_,hblk⟩
          . have hsz:inf.size≠0:=fun e=>by rw[e] at hz;cases hz
            simp[execOp,ho,e1,Instr.fieldAt,run_underlying hu,k1',Instr.sureAddr,fieldPlace,sizeOf,K5 hi,hsz,Addr.add_lit]
          have:=Uk (k:=fg.offset) hc;simpa [Nat.add_assoc] using this
        cases hfa
    cases h
 ·
  rename_i px d k n i o' cs;obtain ⟨rfl,rfl⟩:AV.one (.ept d k n i o' cs)=v/\ []=obs:=by simpa using h
  cases hv with
  | cons h1 _=>
    obtain ⟨g,rest,vs,hL,e1,hr⟩:=h1;exact ⟨_,by simp[execOp,ho,e1],g,rest,vs,hL,rfl,hr⟩
 ·
  rename_i t px d k n i o' cs;split at h
  . rename_i ti hg;cases hle:Nat.ble ti.size cs.length with
    | false=>rw[hle] at h;cases h
    | true =>
      rw[hle] at h;simp only[cond_true] at h;split at h
      . rename_i v' hval;obtain ⟨rfl,rfl⟩:v'=v/\ []=obs:=by simpa using h
        cases hv with
        | cons h1 _=>
          obtain ⟨g,rest,vs,hL,e1,hvc,hc,_⟩:=h1
          have hlift:∀v p,VV (J.X (Ge d k)) w v p->CR J w v (Sp (Ge d k) p):=by
           intro v p hp;refine QV (X:=J.X (Ge d k)) (fun c n l hc=> ?_) hp;cases d with
           | true=>exact hc
           | false=>exact hc
          have hall:All2 (CR J w) (vs.take ti.size) ((cs.take ti.size).map (Sp (Ge d k))):=(VC.all2 (hvc.take ti.size)).map (Sp (Ge d k)) fun a p _ hp=>hlift a p hp
          obtain ⟨u,hu,hr⟩:=Ok (P:=P) (Zb htt hg) hall hval (Hh hc);exact ⟨u,by simp[execOp,ho,e1,Instr.loadAt,Instr.sureAddr,hu],hr⟩
      cases h
  cases h
 cases h
end
end
section
open Go.RowKit
section
variable {X:Nat->Prop} {w w':World}
theorem OC.cut:∀(k:Nat) {L:List Nat} {vs:List Value} {ps:List PV},OC w L vs ps->∃L1 L2,L=L1++L2/\OC w L1 (vs.take k) (ps.take k)/\OC w L2 (vs.drop k) (ps.drop k)
 | 0,L,_,_,h=>⟨[],L,rfl, .nil,h⟩
 | _+1,_,_,_, .nil=>⟨[], [],rfl, .nil, .nil⟩
 | k+1,_,_,_, .cons h1 h2=>by
   obtain ⟨L1,L2,rfl,h3,h4⟩:=OC.cut k h2;exact ⟨_++L1,L2,(List.append_assoc _ _ _).symm, .cons h1 h3,h4⟩
def Ka (cs:List Value) (p:Nat) (vs:List Value):List Value:=cs.take p++vs++cs.drop (p+vs.length)
theorem P2 {ce cs vs:List Value} {p:Nat}:Ka (ce++cs) (ce.length+p) vs=ce++Ka cs p vs:=by
 unfold Ka;rw[List.take_length_add_append,Nat.add_assoc,List.drop_length_add_append];simp
theorem Mq {ce cs vs:List Value} {p:Nat} (h:p+vs.length<=ce.length):Ka (ce++cs) p vs=Ka ce p vs++cs:=by
 unfold Ka;rw[List.take_append_of_le_length (by omega),List.drop_append_of_le_length (by omega)];simp
theorem VR.put {vs:List Value} {ps:List PV} (hv:VC X w vs ps) {o:Nat}:∀{n:Nat} {cs:List Value} {l:List (List PV)},o+ps.length<=n->VR X w n cs l->∀i,VR X w n (if i<l.length then Ka cs (i*n+o) vs else cs) (setRow l i o ps)
 | _,_,_,_, .nil n,i=>by simp only[List.length_nil,Nat.not_lt_zero,if_false,setRow];exact .nil n
 | n,_,_,ho, .cons (ce:=ce) (cs:=cs) (r:=r) (l:=l) h1 h2 h3,0=>by
   have e1:=VC.length hv;have e2:=VC.length h1;simp only[List.length_cons,Nat.zero_lt_succ,if_true,setRow,Nat.zero_mul,Nat.zero_add];rw[Mq (by omega)];refine .cons ?_ (by simp;omega) h3;unfold Ka;rw[e1];exact VC.append (VC.drop _ h1) (VC.append hv (VC.take _ h1))
 | n, _,_,ho, .cons (ce:=ce) (cs:=cs) (r:=r) (l:=l) h1 h2 h3,i+1=>by
   have e2:=VC.length h1;have ih:=VR.put hv ho h3 i;simp only[List.length_cons,Nat.add_lt_add_iff_right,setRow];by_cases hi:i<l.length
   . rw[if_pos hi] at ih⊢;have:(i+1)*n+o=ce.length+(i*n+o):=by rw[e2,h2,Nat.add_mul,Nat.one_mul];omega
     rw[this,P2];exact .cons h1 h2 ih
   rw[if_neg hi] at ih⊢;exact .cons h1 h2 ih
theorem OR.put {Lv:List Nat} {vs:List Value} {ps:List PV} (hv:OC w Lv vs ps) (hnv:Lv.Nodup) {o:Nat}:∀{n:Nat} {L:List Nat} {cs:List Value} {l:List (List PV)},o+ps.length<=n->OR w n L cs l->L.Nodup->(∀b,b∈L->b∉Lv)->∀i,
 ∃L',OR w n L' (if i<l.length then Ka cs (i*n+o) vs else cs) (setRow l i o ps)/\L'.Nodup/\∀b,b∈L'->b∈L\/b∈Lv
 | _,_,_,_,_, .nil n,_,_,i=>by simp only[List.length_nil,Nat.not_lt_zero,if_false,setRow];exact ⟨[], .nil n,List.nodup_nil,fun b hb=>by simp at hb⟩
 | n, _,_,_,ho, .cons (ce:=ce) (cs:=cs) (r:=r) (l:=l) (L1:=L1) (L2:=L2) h1 h2 h3,hnd,hdj,0=>by
   have e1:=OC.length hv;have e2:=OC.length h1;obtain ⟨hn1,hn2,hn3⟩:=List.nodup_append.1 hnd;simp only[List.length_cons,Nat.zero_lt_succ,if_true,setRow,Nat.zero_mul,Nat.zero_add];rw[Mq (by omega)];obtain ⟨A1,A2,rfl,a1,a2⟩:=OC.cut o h1;obtain ⟨M,B,rfl,_,b2⟩:=OC.cut vs.length a2;rw[List.drop_drop,List.drop_drop] at b2;obtain ⟨m1,m2,m3⟩:=List.nodup_append.1 hn1;obtain ⟨q1,q2,q3⟩:=List.nodup_append.1 m2
   have hnew:OC w (A1++(Lv++B)) (Ka ce o vs) (r.take o++ps++r.drop (o+ps.length)):=by
    unfold Ka;rw[List.append_assoc,List.append_assoc,←e1];exact OC.append (OC.append b2 hv) a1
   refine ⟨(A1++(Lv++B))++L2, .cons hnew (by simp;omega) h3, ?_,fun b hb=> ?_⟩
   . have d1:∀b,b∈A1->b∉Lv:=fun b hb=>hdj b (by simp[hb])
     have d2:∀b,b∈B->b∉Lv:=fun b hb=>hdj b (by simp[hb])
     have d3:∀b,b∈L2->b∉Lv:=fun b hb=>hdj b (by simp[hb])
     refine List.nodup_append.2 ⟨List.nodup_append.2 ⟨m1,List.nodup_append.2 ⟨hnv,q2,fun x hx y hy e=>d2 y hy (e▸hx)⟩,fun x hx y hy e=> ?_⟩,hn2,fun x hx y hy e=> ?_⟩
     . subst e;rcases List.mem_append.1 hy with hy | hy
       . exact d1 x hx hy
       exact m3 x hx x (List.mem_append_right _ hy) rfl
     subst e;rcases List.mem_append.1 hx with hx | hx
     . exact hn3 x (List.mem_append_left _ hx) x hy rfl
     rcases List.mem_append.1 hx with hx | hx
     . exact d3 x hy hx
     exact hn3 x (List.mem_append_right _ (List.mem_append_right _ hx)) x hy rfl
   simp only[List.mem_append] at hb⊢;rcases hb with (hb | hb | hb) | hb
   . exact .inl (.inl (.inl hb))
   . exact .inr hb
   . exact .inl (.inl (.inr (.inr hb)))
   exact .inl (.inr hb)
 | n, _,_,_,ho, .cons (ce:=ce) (cs:=cs) (r:=r) (l:=l) (L1:=L1) (L2:=L2) h1 h2 h3,hnd,hdj,i+1=>by
   have e2:=OC.length h1;obtain ⟨hn1,hn2,hn3⟩:=List.nodup_append.1 hnd;obtain ⟨L',ih1,ih2,ih3⟩:=OR.put hv hnv ho h3 hn2 (fun b hb=>hdj b (List.mem_append_right _ hb)) i
   have hnd':(L1++L').Nodup:=List.nodup_append.2 ⟨hn1,ih2,fun b hb b' hb' e=>by
    subst e;rcases ih3 b hb' with h | h
    . exact hn3 b hb b h rfl
    exact hdj b (List.mem_append_left _ hb) h⟩
   have hsub:∀b,b∈L1++L'->b∈L1++L2\/b∈Lv:=fun b hb=>by
    rcases List.mem_append.1 hb with hb | hb
    . exact .inl (List.mem_append_left _ hb)
    exact (ih3 b hb).imp (List.mem_append_right _) id
   simp only[List.length_cons,Nat.add_lt_add_iff_right,setRow];by_cases hi:i<l.length
   . rw[if_pos hi] at ih1⊢;have:(i+1)*n+o=ce.length+(i*n+o):=by rw[e2,h2,Nat.add_mul,Nat.one_mul];omega
     rw[this,P2];exact ⟨_, .cons h1 h2 ih1,hnd',hsub⟩
   rw[if_neg hi] at ih1⊢;exact ⟨_, .cons h1 h2 ih1,hnd',hsub⟩
end
end
section
open Go.RowKit
def FG (tt:List (Nat×TI)):Op->List AV->Option (Res×List Ob)
 | .store t _ _, [.one (.ept d k n i o pcs),v]=>
   (match get tt t,v.flatCells with
   | some ti,some cs=>(match Ba cs with
     | some ps=>bif Nat.beq cs.length ti.size&&Wn cs&&Nat.ble (o+ti.size) n&&Nat.blt n 4294967296&&Nat.ble ti.size pcs.length&&Nat.blt 0 ti.size&&Vy (k::Ql cs)&&(Cy cs|| !d) then
      some (⟨.one .dead,(k,some (.put d n i o ps))::(bif d then Z7 (Ql cs) else Xo (Ql cs)),none,none⟩, []) else none
     | none=>none)
   | _,_=>none)
 | _,_=>none
section
variable {P:Program} {N:Nat} {w0:Base} {F0:Nat->Prop} {J:Inj} {a:Act} {w:World} {s:St}
theorem Du {cur vs:List Value} {p:Nat} (h:p+vs.length<=cur.length):(Ka cur p vs).length=cur.length:=by
 unfold Ka;simp;omega
theorem WN {cur vs:List Value} {p m:Nat} (h:p+vs.length<=m) (hm:m<=cur.length):(Ka cur p vs).take m=Ka (cur.take m) p vs:=by
 have hl:(cur.take m).length=m:=by simp;omega
 have e:Ka cur p vs=Ka (cur.take m) p vs++cur.drop m:=by
  rw[←Mq (by omega),List.take_append_drop]
 rw[e,List.take_left' (by rw[Du (by omega),hl])]
theorem CO {cur vs:List Value} {p m:Nat} (h:m<=p) (hm:p<=cur.length):(Ka cur p vs).take m=cur.take m:=by
 unfold Ka;rw[List.append_assoc,List.take_append_of_le_length (by simp;omega),List.take_take,Nat.min_eq_left h]
theorem Td {cur vs:List Value} {i n o len cap:Nat} (hs:cur.length=cap*n) (hl:len<=cap) (ho:o+vs.length<=n) (hp:i*n+o+vs.length<=cur.length):
 (Ka cur (i*n+o) vs).take (len*n)=if i<len then Ka (cur.take (len*n)) (i*n+o) vs else cur.take (len*n):=by
 have hln:len*n<=cur.length:=by rw[hs];exact Nat.mul_le_mul_right _ hl
 by_cases hi:i<len
 . rw[if_pos hi];refine WN ?_ hln;have:(i+1)*n<=len*n:=Nat.mul_le_mul_right _ hi;rw[Nat.add_mul,Nat.one_mul] at this;omega
 rw[if_neg hi];refine CO ?_ (by omega);have:len*n<=i*n:=Nat.mul_le_mul_right _ (by omega);omega
theorem Fv (o:Nat) (ps:List PV):∀(l:List (List PV)) (i:Nat),(setRow l i o ps).length=l.length
 | [],_=>rfl
 | _::_,0=>rfl
 | _::l,i+1=>congrArg (· +1) (Fv o ps l i)
theorem ZP : ∀ {cs :List C} {ps:List PV},Ba cs=some ps->ps.length=cs.length
 | [], ps, h => by obtain rfl: []=ps:=by simpa [Ba] using h
                   rfl
 | c::r,ps,h=>by
   simp only[Ba] at h;split at h
   . rename_i p ps' e1 e2;obtain rfl:=Option.some.inj h;exact congrArg (· +1) (ZP e2)
   cases h
theorem FH {cs:List C} {ps:List PV} (h:Ba cs=some ps) (e:ps= [.any]):False:=by
 subst e;cases cs with
 | nil=>simp[Ba] at h
 | cons c r=>
   simp only[Ba] at h;split at h
   . rename_i p ps' e1 e2;have h:=Option.some.inj h;cases h
     cases c<;>simp[Qcj] at e1
   cases h
theorem FI {tt : List (Nat×TI)} (htt:Aq P tt=true) {o:Oper} {avs:List AV} {r:Res} {obs:List Ob} (h:FG tt o.op avs=some (r,obs)) (hdst:∀d,o.dst=some d->d<N)
 (hrel:Rel N w0 F0 J a w s) (hops:All2 (fun x v=>Pp s x=some v) o.op.operands.toList avs) {K:Act->World->Prop} {Q:Exit->Act->World->Prop}
 (hK:∀J' a' w',Rel N w0 F0 J' a' w' (s.step o.dst r)->K a' w'):o.wp P a w K Q:=by
 have hv:=Un hrel hops;generalize ho:o.op=op at h hv;unfold FG at h;split at h
 . rename_i t px py d k n i o' pcs v;split at h
   . rename_i ti cs hg hfc;split at h
     . rename_i ps hps;cases hc:(Nat.beq cs.length ti.size&&Wn cs&&Nat.ble (o'+ti.size) n&&Nat.blt n 4294967296&&Nat.ble ti.size pcs.length&&Nat.blt 0 ti.size&&Vy (k::Ql cs)&&(Cy cs|| !d)) with
       | false=>rw[hc] at h;cases h
       | true =>
         rw[hc] at h;obtain ⟨rfl,rfl⟩:(⟨.one .dead,(k,some (.put d n i o' ps))::(bif d then Z7 (Ql cs) else Xo (Ql cs)),none,none⟩:Res)=r/\ []=obs:=by simpa using h
         simp only[Bool.and_eq_true,Nat.beq_eq,Nat.ble_eq,Nat.blt_eq,Bool.or_eq_true,Bool.not_eq_true'] at hc;obtain ⟨⟨⟨⟨⟨⟨⟨c1,c2⟩,c3⟩,c3'⟩,c4⟩,c5⟩,c6⟩,c7⟩:=hc
         have hput:∀l,NF l i o' ps=setRow l i o' ps:=fun l=>by
          unfold NF;cases hb:Nat.beq o' 4294967296 with
          | false=>rfl
          | true=>have:=Nat.eq_of_beq_eq_true hb;omega
         obtain ⟨hkn,hnd⟩:=List.nodup_cons.1 (Um.1 c6);cases hv with
         | cons h1 h2 =>
           cases h2 with
           | cons h2 _ =>
             obtain ⟨g,rest,vs,hL,e1,hvs,hcell,arr,e,hheap⟩:=h1;have hcl:=Da h2 hfc c2;generalize hus:(a.eval py).cells.toList=us at hcl;have hn:us.length=ti.size:=by rw[hcl.length,c1]
             have hgk:g∈J.L k:=by rw[hL];exact List.mem_cons_self
             have hvl:vs.length=pcs.length:=hvs.length
             have hfit:i*n+o'+us.length<=arr.size:=by
              have hj:ti.size-1<vs.length:=by omega
              have:=hcell (ti.size-1) vs[ti.size-1] (List.getElem?_eq_getElem hj);simp only[World.cell?,hheap] at this;have h3:arr[i*n+o'+(ti.size-1)]? =some vs[ti.size-1]:=by simpa using this
              have:=(Array.getElem?_eq_some_iff.1 h3).1;omega
             have hst:=run_storeCells_at P g (i*n+o') e us 0 arr w hheap (by simpa using hfit) (Ev hcl c2);simp only[Nat.add_zero] at hst;have hsz:=Ac (P:=P) (Zb htt hg) w
             have hrun:(execOp a.eval o).run P w= .ok .skip (w.setRow g (Ka arr.toList (i*n+o') us).toArray):=by
              have hn':(a.eval py).cells.size=ti.size:=by rw[←hn,←hus];simp
              unfold Ka;simp only[execOp,ho,Instr.storeAt,e1,Instr.sureAddr,storeVar,Sem.run_bind,Sem.run_pure,Result.andThen_ok,hsz,hn',hus];simp[hst]
             generalize hw':w.setRow g (Ka arr.toList (i*n+o') us).toArray=w' at hrun;have hgw:w'.heap[g]? =some (.cells (Ka arr.toList (i*n+o') us).toArray e (0,0)):=by rw[←hw'];exact setRow_heap w g arr _ e (0,0) hheap
             have hother:∀b,b≠g->w'.heap[b]? =w.heap[b]? :=fun b hb=>by rw[←hw'];exact setRow_other w g b _ hb
             have hsize:w'.heap.size=w.heap.size:=by rw[←hw'];simp[World.setRow]
             have hgF:¬J.F g:=(hrel.lo k g hgk).2.2;have hF:∀b,J.F b->w'.heap[b]? =w.heap[b]? :=fun b hb=>hother b fun e=>hgF (e▸hb)
             have hLx:∀x,x≠k->∀b,b∈J.L x->w'.heap[b]? =w.heap[b]? :=fun x hx b hb=>hother b fun e=>hx (hrel.dj x k g (e▸hb) hgk)
             have hbelow:w0.Keeps w':=by
              refine hrel.below.step (by rw[←hw'];rfl) (by rw[←hw'];rfl) (by rw[←hw'];rfl) (by omega) fun b _ hnl=>hother b fun e=> ?_
              exact hnl (e▸(hrel.lo k g hgk).1)
             have hlen:ps.length=us.length:=by rw[ZP hps,c1,hn]
             have hkx:∀x,x∈Ql cs->x≠k:=fun x hx e=>hkn (e▸hx)
             have harr:∀(m:Nat),arr.size=m->arr.toList.length=m:=fun m h=>by simpa using h
             cases d with
             | true =>
               have hdeep:Cy cs=true:=by simpa using c7
               have hget:∀x,get ((k,some (.put true n i o' ps))::(bif true then Z7 (Ql cs) else Xo (Ql cs))) x=if x=k then some (some (.put true n i o' ps)) else if x∈Ql cs then some none else none:=fun x=>by
                by_cases hx:x=k
                . rw[if_pos hx];simp[get,hx]
                rw[if_neg hx,Zx hx];exact V3
               obtain ⟨Lv,v1,v2,v3⟩:=QZ (J:=J) (w':=w') hcl hps hdeep (Iy hrel hnd) fun x hx b hb=>hLx x (hkx x hx) b hb
               have hof:∀b,b∈J.of cs->b∉J.L k:=fun b hb hb'=>by
                obtain ⟨x,hx,hm⟩:=Gg hb;exact hkx x hx (hrel.dj x k b hm hb')
               refine Mn hrun (hK ⟨J.F,fun x=>if x=k then J.L k++J.of cs else if x∈Ql cs then [] else J.L x,J.B⟩ _ _ (hrel.upd o.dst hdst _ undef hbelow ⟨fun b hb=>⟨hb,hF b hb⟩,fun x hx=> ?_,fun x hx=> ?_,fun x x' hx=> ?_,fun x t hx=> ?_,fun _ _=>rfl,fun x d1 m i1 o1 cs1 hx=> ?_⟩ ⟨fun b hb=> ?_,hrel.f0,fun x=> ?_,fun x b hb=> ?_,fun x x' b hb hb'=> ?_⟩ (fun _=>trivial) (fun x c hx _=> ?_) (fun x c hx=>by cases hx)))
               . rw[hget] at hx;split at hx
                 . cases hx
                 rename_i h3;split at hx
                 . cases hx
                 rename_i h4;exact ⟨by show (if _ then _ else _)=_;rw[if_neg h3,if_neg h4],hLx x h3⟩
               . rw[hget] at hx;split at hx
                 . cases hx
                 split at hx<;>cases hx
               . rw[hget] at hx;split at hx
                 . cases hx
                 split at hx<;>cases hx
               . rw[hget] at hx;split at hx
                 . exact .inr (.inr ⟨_,_,_,_,_,(Option.some.inj (Option.some.inj hx)).symm⟩)
                 split at hx<;>cases hx
               . rw [hget] at hx;split at hx
                 . rename_i hxk;subst hxk;cases hx
                   refine ⟨fun v l hcr=> ?_,fun _ e=>(FH hps e).elim⟩;rw[hput];obtain ⟨L',w1,w2,w3,w4⟩:=hcr;show OwnDeep (if x=x then _ else _) w' v n _;rw[if_pos rfl];generalize hp:PV.slc n l=p at w1;cases w1 with
                   | int | bool | str | any | raw=>cases hp
                   | emp oa n'=>
                     cases hp
                     exact ⟨[], .emp oa n,List.nodup_nil,(fun b hb=>by simp at hb), .inl rfl⟩
                   | @slc g1 cap n' cur e2 L1 l' hg1 hs1 hr1 h5 h6=>
                     cases hp
                     rcases w4 with w4 | ⟨g2,q1,q2,e3,e4⟩
                     . cases w4
                     cases e3
                     obtain ⟨rfl,rfl⟩:g1=g/\q2=rest:=by rw[hL] at e4;cases e4;exact ⟨rfl,rfl⟩
                     rw[hheap] at hg1;cases hg1
                     obtain ⟨n1,n2⟩:=List.nodup_cons.1 w2;have hr2:OR w' n L1 (arr.toList.take (l.length*n)) l:=hr1.keep fun b hb=>hother b fun e=>n1 (e▸hb)
                     obtain ⟨L2,z1,z2,z3⟩:=OR.put v1 v2 (o:=o') (by omega) hr2 n2 (fun b hb hb'=>hof b (v3 b hb') (w3 b (List.mem_cons_of_mem _ hb))) i;rw[←Td (cap:=cap) (by simpa using hs1) h5 (by omega) (by simpa using hfit)] at z1;have hl2:=Fv o' ps l i
                     have hgL2:g1∉L2:=fun hm=>by
                      rcases z3 g1 hm with hm | hm
                      . exact n1 hm
                      exact hof g1 (v3 g1 hm) hgk
                     refine ⟨g1::L2, ?_,List.nodup_cons.2 ⟨hgL2,z2⟩,fun b hb=> ?_, .inr ⟨g1,L2,q2++J.of cs,rfl,by rw[hL];rfl⟩⟩
                     . rw[←hl2];refine .slc hgw ?_ ?_ (by omega) (by rw[hl2];exact h6)
                       . have:=Du (cur:=arr.toList) (vs:=us) (p:=i*n+o') (by simpa using hfit);simpa [hs1] using this
                       rw[hl2];simpa using z1
                     rcases List.mem_cons.1 hb with rfl | hb
                     . exact List.mem_append_left _ hgk
                     rcases z3 b hb with hb | hb
                     . exact List.mem_append_left _ (w3 b (List.mem_cons_of_mem _ hb))
                     exact List.mem_append_right _ (v3 b hb)
                 split at hx<;>cases hx
               . exact ⟨by have:=(hrel.fl b hb).1;omega,(hrel.fl b hb).2⟩
               . show (if x=k then _ else _:List Nat).Nodup;split
                 . exact List.nodup_append.2 ⟨hrel.nd k,Iy hrel hnd,fun b hb b' hb' e=>hof b' hb' (e▸hb)⟩
                 split
                 . simp
                 exact hrel.nd x
               . have hb:b∈(if x=k then J.L k++J.of cs else if x∈Ql cs then [] else J.L x):=hb
                 have key:∀y,b∈J.L y->w0.lo (b)/\b<w'.heap.size/\¬J.F b:=fun y hy=>by
                  obtain ⟨h3,h4,h5⟩:=hrel.lo y b hy;exact ⟨h3,by omega,h5⟩
                 split at hb
                 . rcases List.mem_append.1 hb with hb | hb
                   . exact key k hb
                   obtain ⟨y,_,hm⟩:=Gg hb;exact key y hm
                 split at hb
                 . simp at hb
                 exact key x hb
               . have hb:b∈(if x=k then J.L k++J.of cs else if x∈Ql cs then [] else J.L x):=hb;have hb':b∈(if x'=k then J.L k++J.of cs else if x'∈Ql cs then [] else J.L x'):=hb'
                 have key:∀y,y≠k->y∉Ql cs->b∈J.L y->b∈J.L k++J.of cs->False:=fun y hy1 hy2 hy hm=>by
                  rcases List.mem_append.1 hm with hm | hm
                  . exact hy1 (hrel.dj y k b hy hm)
                  obtain ⟨z,hz,hm⟩:=Gg hm;exact hy2 (hrel.dj y z b hy hm▸hz)
                 split at hb
                 . rename_i hxk;split at hb'
                   . rename_i hxk';rw[hxk,hxk']
                   rename_i h3;split at hb'
                   . simp at hb'
                   rename_i h4;exact (key x' h3 h4 hb' hb).elim
                 rename_i h3;split at hb
                 . simp at hb
                 rename_i h4;split at hb'
                 . exact (key x h3 h4 hb hb').elim
                 split at hb'
                 . simp at hb'
                 exact hrel.dj x x' b hb hb'
               obtain ⟨_,h3,h4,arr',e',h5,_⟩:=hrel.bo x c hx;refine ⟨by simp,h3,fun y hm=> ?_,hother _ fun e=>h4 k (e▸hgk)⟩;have hm:J.B x∈(if y=k then J.L k++J.of cs else if y∈Ql cs then [] else J.L y):=hm;split at hm
               . rcases List.mem_append.1 hm with hm | hm
                 . exact h4 k hm
                 obtain ⟨z,_,hm⟩:=Gg hm;exact h4 z hm
               split at hm
               . simp at hm
               exact h4 y hm
             | false=>
               have hget:∀x,get ((k,some (.put false n i o' ps))::(bif false then Z7 (Ql cs) else Xo (Ql cs))) x=if x=k then some (some (.put false n i o' ps)) else if x∈Ql cs then some (some .sh) else none:=fun x=>by
                by_cases hx:x=k
                . rw[if_pos hx];simp[get,hx]
                rw[if_neg hx,Zx hx];exact Ko
               have hvc:=Ix (J:=J) (w':=w') (X:=fun b=>J.F b\/∃x,x∈Ql cs/\b∈J.L x) hcl hps (fun b hb=>⟨.inl hb,hF b hb⟩) fun x hx b hb=>⟨.inr ⟨x,hx,hb⟩,hLx x (hkx x hx) b hb⟩
               refine Mn hrun (hK ⟨fun b=>J.F b\/∃x,x∈Ql cs/\b∈J.L x,fun x=>if x∈Ql cs then [] else J.L x,J.B⟩ _ _ (hrel.upd o.dst hdst _ undef hbelow ⟨fun b hb=>⟨.inl hb,hF b hb⟩,fun x hx=> ?_,fun x hx b hb=> ?_,fun x x' hx=> ?_,fun x t hx=> ?_,fun _ _=>rfl,fun x d1 m i1 o1 cs1 hx=> ?_⟩ ⟨fun b hb=> ?_,fun b hb=> .inl (hrel.f0 b hb),fun x=> ?_,fun x b hb=> ?_,fun x x' b hb hb'=> ?_⟩ (fun _=>trivial) (fun x c hx _=> ?_) (fun x c hx=>by cases hx)))
               . rw[hget] at hx;split at hx
                 . cases hx
                 rename_i h3;split at hx
                 . cases hx
                 rename_i h4;exact ⟨by show (if _ then _ else _)=_;rw[if_neg h4],hLx x h3⟩
               . rw[hget] at hx;split at hx
                 . cases hx
                 split at hx
                 . rename_i h3;exact ⟨.inr ⟨x,h3,hb⟩,hLx x (hkx x h3) b hb⟩
                 cases hx
               . rw[hget] at hx;split at hx
                 . cases hx
                 split at hx<;>cases hx
               . rw[hget] at hx;split at hx
                 . exact .inr (.inr ⟨_,_,_,_,_,(Option.some.inj (Option.some.inj hx)).symm⟩)
                 split at hx
                 . exact .inl (Option.some.inj (Option.some.inj hx)).symm
                 cases hx
               . rw [hget] at hx;split at hx
                 . rename_i hxk;subst hxk;cases hx
                   refine ⟨fun v l hcr=> ?_,fun e=>by cases e⟩;rw[hput];show OwnTop _ (if x∈Ql cs then [] else J.L x) w' v n _;rw[if_neg hkn];rcases hcr with ⟨rfl,oa,rfl⟩ | ⟨g1,cap,cur,e2,hL1,rfl,hg1,hs1,hr1,h5,h6⟩
                   . exact .inl ⟨rfl,oa,rfl⟩
                   obtain rfl:g1=g:=by rw[hL] at hL1;cases hL1;rfl
                   rw[hheap] at hg1;cases hg1
                   have hr2:VR (fun b=>J.F b\/∃x,x∈Ql cs/\b∈J.L x) w' n (arr.toList.take (l.length*n)) l:=hr1.keep fun b hb=>⟨.inl hb,hF b hb⟩
                   have z1:=VR.put hvc (o:=o') (by omega) hr2 i;rw[←Td (cap:=cap) (by simpa using hs1) h5 (by omega) (by simpa using hfit)] at z1;have hl2:=Fv o' ps l i;refine .inr ⟨g1,cap,_,e,hL1,by rw[hl2],hgw, ?_,by rw[hl2];simpa using z1,by omega,by rw[hl2];exact h6⟩;have:=Du (cur:=arr.toList) (vs:=us) (p:=i*n+o') (by simpa using hfit);simpa [hs1] using this
                 split at hx<;>cases hx
               . rcases hb with hb | ⟨x,_,hb⟩
                 . exact ⟨by have:=(hrel.fl b hb).1;omega,(hrel.fl b hb).2⟩
                 have:=hrel.lo x b hb;exact ⟨by omega, .inr this.1⟩
               . show (if _ then _ else _:List Nat).Nodup;split
                 . simp
                 exact hrel.nd x
               . have hb:b∈(if x∈Ql cs then [] else J.L x):=hb;split at hb
                 . simp at hb
                 rename_i h3;obtain ⟨h4,h5,h6⟩:=hrel.lo x b hb;refine ⟨h4,by omega,fun hF=> ?_⟩;rcases hF with hF | ⟨y,hy,hm⟩
                 . exact h6 hF
                 exact h3 (hrel.dj x y b hb hm▸hy)
               . have hb:b∈(if x∈Ql cs then [] else J.L x):=hb;have hb':b∈(if x'∈Ql cs then [] else J.L x'):=hb';split at hb
                 . simp at hb
                 split at hb'
                 . simp at hb'
                 exact hrel.dj x x' b hb hb'
               obtain ⟨_,h3,h4,arr',e',h5,_⟩:=hrel.bo x c hx;refine ⟨by simp,fun hF=> ?_,fun y hm=> ?_,hother _ fun e=>h4 k (e▸hgk)⟩
               . rcases hF with hF | ⟨y,_,hm⟩
                 . exact h3 hF
                 exact h4 y hm
               have hm:J.B x∈(if y∈Ql cs then [] else J.L y):=hm;split at hm
               . simp at hm
               exact h4 y hm
     cases h
   cases h
 cases h
end
end
section
open Go.RowKit
def WO:C->Option PV
 | .int k _=>some (.int k 0)
 | .bool _=>some (.bool false)
 | .str _=>some (.str ⟨#[]⟩)
 | .slc .emp n []=>some (.slc n [])
 | _=>none
def AH:List C->Option (List PV)
 | []=>some []
 | c::cs=>match WO c,AH cs with
   | some p,some ps=>some (p::ps)
   | _,_=>none
def Qac (tt:List (Nat×TI)) (dst:Option Nat):Op->List AV->Option (Res×List Ob)
 | .call ⟨.builtin .max,_,_⟩, [.one (.int k a), .one (.int k' b)]=>bif decide (k=k') then some (⟨.one (.int k (max a b)), [],none,none⟩, []) else none
 | .call ⟨.builtin .min,_,_⟩, [.one (.int k a), .one (.int k' b)]=>bif decide (k=k') then some (⟨.one (.int k (min a b)), [],none,none⟩, []) else none
 | .makeSlice t (.tmp i) (.tmp j), [.one (.int _ a),_]=>(match dst,get tt t with
   | some d,some ⟨.sli e,_,_,_⟩=>(match get tt e with
     | some ei=>(match AH ei.zero with
       | some ps=>bif Nat.beq i j&&(Nat.beq ei.size ei.zero.length&&Nat.blt 0 ei.size) then some (⟨.one (.slc (.own true (64*d)) ei.size (List.replicate a.toNat ps)), [(64*d,none)],none,none⟩, [.rng 0 a 1073741824]) else none
       | none=>none)
     | none=>none)
   | _,_=>none)
 | _,_=>none
section
variable {P:Program} {A:Nat->List AV->AV->Prop} {T:TakeT} {N:Nat} {w0:Base} {F0:Nat->Prop} {J:Inj} {a:Act} {w:World} {s:St}
theorem Qcs {args:Array Operand} {x y:AV} (h:All2 (fun o v=>AR J w (a.eval o) v) args.toList [x,y]):∃p q,args= #[p,q]/\AR J w (a.eval p) x/\AR J w (a.eval q) y:=by
 obtain ⟨l⟩:=args;have h:All2 (fun o v=>AR J w (a.eval o) v) l [x,y]:=h;cases h with
 | cons h1 h2=>cases h2 with
   | cons h2 h3=>cases h3;exact ⟨_,_,rfl,h1,h2⟩
theorem Qad {k:IntKind} {x y:Int} (hx:InR k x) (hy:InR k y):InR k (max x y):=by
 rw[Int.max_def];split<;>assumption
theorem Qae {k:IntKind} {x y:Int} (hx:InR k x) (hy:InR k y):InR k (min x y):=by
 rw[Int.min_def];split<;>assumption
theorem Qaf {v:Value} {c:C} {p:PV} (hz:Pm v c=true) (h:WO c=some p) (w:World):OV w [] v p:=by
 unfold WO at h;split at h
 . obtain rfl:=Option.some.inj h;cases v<;>simp[Pm] at hz
   rename_i k2 n2;obtain ⟨⟨rfl,rfl⟩,_⟩:=hz;exact .int (by cases k2<;>simp[InR,IntKind.min,IntKind.max,IntKind.bits,IntKind.signed])
 . obtain rfl:=Option.some.inj h;cases v<;>simp[Pm] at hz
   obtain ⟨rfl,_⟩:=hz;exact .bool _
 . obtain rfl:=Option.some.inj h;cases v<;>simp[Pm] at hz
   obtain ⟨hs2,_⟩:=hz;subst hs2;exact .str (by decide)
 . obtain rfl:=Option.some.inj h;unfold Pm at hz;split at hz<;>first | cases hz | skip
   all_goals first | exact .emp _ _ | (rename_i heq;cases heq;exact .emp _ _) | (rename_i h1 h2;cases h2;exact .emp _ _) | (rename_i h1 h2;cases h2;done) | (rename_i heq;cases heq;done)
 cases h
theorem ZQ:∀{cl:List Value} {zc:List C} {ps:List PV},Bz cl zc=true->AH zc=some ps->(∀w,OC w [] cl ps)/\ps.length=zc.length/\cl.length=zc.length
 | [], [],ps,_,h=>by
   obtain rfl:=Option.some.inj h;exact ⟨fun w=> .nil,rfl,rfl⟩
 | [],_::_,_,hz,_=>by simp[Bz] at hz
 | _::_, [],_,hz,_=>by simp[Bz] at hz
 | v::vs,c::cs,ps,hz,h=>by
   simp only[Bz,Bool.and_eq_true] at hz;simp only[AH] at h;split at h
   . rename_i p ps' h1 h2;obtain rfl:=Option.some.inj h;obtain ⟨g1,g2,g3⟩:=ZQ hz.2 h2;exact ⟨fun w=>OC.cons (L1:= []) (L2:= []) (Qaf hz.1 h1 w) (g1 w),by simp[g2],by simp[g3]⟩
   cases h
theorem Nt {w:World} {n:Nat} {vs:List Value} {ps:List PV} (h:OC w [] vs ps) (hn:ps.length=n):∀k:Nat,OR w n [] (List.replicate k vs).flatten (List.replicate k ps)
 | 0=> .nil n
 | k+1=>by
   rw[List.replicate_succ,List.flatten_cons,List.replicate_succ];exact OR.cons (L1:= []) (L2:= []) h hn (Nt h hn k)
theorem ZR (z:Array Value) (hz:0<z.size):∀k:Nat,(madeCells z (k*z.size)).toList=(List.replicate k z.toList).flatten
 | 0=>by simp[madeCells]
 | k +1=>by
   have ih:=ZR z hz k;have e:∀m,(madeCells z m).toList=(List.range m).map (z[· % z.size]!):=fun m=>by simp[madeCells]
   rw[e] at ih⊢;rw[List.replicate_succ,List.flatten_cons,←ih,Nat.add_mul,Nat.one_mul,Nat.add_comm,List.range_add,List.map_append,List.map_map]
   congr 1
   . refine List.ext_getElem (by simp) fun i h1 h2=> ?_
     have hi:i<z.size:=by simpa using h2
     simp[Nat.mod_eq_of_lt hi,hi]
   refine List.map_congr_left fun i _=> ?_
   simp
theorem NY {tt:List (Nat×TI)} (htt:Aq P tt=true) {o:Oper} {avs:List AV} {r:Res} {obs:List Ob} (h:Qac tt o.dst o.op avs=some (r,obs)) (hob:AllOb A T obs) (hdst:∀d,o.dst=some d->d<N)
 (hrel:Rel N w0 F0 J a w s) (hops:All2 (fun x v=>Pp s x=some v) o.op.operands.toList avs) {K:Act->World->Prop} {Q:Exit->Act->World->Prop}
 (hK:∀J' a' w',Rel N w0 F0 J' a' w' (s.step o.dst r)->K a' w'):o.wp P a w K Q:=by
 have hv:=Un hrel hops;generalize ho:o.op=op at h hv;generalize hd:o.dst=dst at h;unfold Qac at h;split at h
 . rename_i args tys k x k' y;cases hk:decide (k=k') with
   | false=>rw[hk] at h;cases h
   | true=>
     rw[hk] at h;obtain rfl:=of_decide_eq_true hk;simp only[cond_true,Option.some.injEq,Prod.mk.injEq] at h;obtain ⟨rfl,rfl⟩:=h;have hv0:All2 (fun x v=>AR J w (a.eval x) v) args.toList [.one (.int k x), .one (.int k y)]:=by simpa [Op.operands,Call.operands] using hv
     obtain ⟨p,q,rfl,⟨e1,r1⟩,⟨e2,r2⟩⟩:=Qcs hv0;have hmax:(if y>x then y else x)=max x y:=by rw[Int.max_def];by_cases h:y>x<;>simp[h]<;>omega
     have hrun:(execOp a.eval o).run P w= .ok (.value (.int k (max x y))) w:=by
      simp[execOp,ho,resolve,invoke,builtin,Builtin.max_,Builtin.max2,e1,e2,hmax]
     exact We hrun (hK J _ _ (hrel.pure o.dst hdst _ _ fun _=>⟨rfl,Qad r1 r2⟩))
 . rename_i args tys k x k' y;cases hk:decide (k=k') with
   | false=>rw[hk] at h;cases h
   | true=>
     rw[hk] at h;obtain rfl:=of_decide_eq_true hk;simp only[cond_true,Option.some.injEq,Prod.mk.injEq] at h;obtain ⟨rfl,rfl⟩:=h;have hv0:All2 (fun x v=>AR J w (a.eval x) v) args.toList [.one (.int k x), .one (.int k y)]:=by simpa [Op.operands,Call.operands] using hv
     obtain ⟨p,q,rfl,⟨e1,r1⟩,⟨e2,r2⟩⟩:=Qcs hv0;have hmin:(if y<x then y else x)=min x y:=by rw[Int.min_def];by_cases h:y<x<;>simp[h]<;>omega
     have hrun:(execOp a.eval o).run P w= .ok (.value (.int k (min x y))) w:=by
      simp[execOp,ho,resolve,invoke,builtin,Builtin.min_,Builtin.min2,e1,e2,hmin]
     exact We hrun (hK J _ _ (hrel.pure o.dst hdst _ _ fun _=>⟨rfl,Qae r1 r2⟩))
 . rename_i t i j ik x y;split at h
   rotate_left
   . cases h
   rename_i d e n0 z0 q0 hg;split at h
   rotate_left
   . cases h
   rename_i ei hge;split at h
   rotate_left
   . cases h
   rename_i ps hp;cases hc:(Nat.beq i j&&(Nat.beq ei.size ei.zero.length&&Nat.blt 0 ei.size)) with
   | false=>rw[hc] at h;cases h
   | true=>
     rw[hc] at h;simp only[cond_true,Option.some.injEq,Prod.mk.injEq] at h;obtain ⟨rfl,rfl⟩:=h;simp only[Bool.and_eq_true,Nat.beq_eq] at hc;obtain ⟨rfl,hsz,hpos⟩:=hc;have hpos:0<ei.size:=Nat.le_of_ble_eq_true hpos;obtain ⟨h0,_,h2⟩:0<=(0:Int)/\0<=x/\x<=((1073741824:Nat):Int):=hob;rename_i hx0;have hu:=(Zb htt hg).sli;obtain ⟨inf,z,hi,hs,hby,hz,hzs,hzo⟩:=(Zb htt hge).info;have hv0:All2 (fun o v=>AR J w (a.eval o) v) [.tmp i, .tmp i] [.one (.int ik x),y]:=by simpa [Op.operands] using hv
     obtain ⟨e1,_⟩:a.eval (.tmp i)= .int ik x/\InR ik x:=by cases hv0 with | cons h1 _=>exact h1
     obtain ⟨hov,hpl,hcl⟩:=ZQ hzo hp;have hzn:z.cells.size=ei.size:=by rw[hsz,←hcl];simp
     have hbytes:(inf.bytes:Int)*x<=281474976710656:=by
      have h1:(inf.bytes:Int)*x<=1000*x:=Int.mul_le_mul_of_nonneg_right (by omega) hx0;omega
     have hmk:=run_make (P:=P) (w:=w) t e inf z hu hi hz ik ik x x hx0 (Int.le_refl _) hbytes (by omega);rw[hs] at hmk
     have hrun:(execOp a.eval o).run P w= .ok (.value (.slice (some ⟨w.heap.size,0,none⟩) x.toNat x.toNat)) (w.alloc (.cells (madeCells z.cells (x.toNat*ei.size)) e)):=by
      simp[execOp,ho,e1,hmk]
     refine We hrun ?_;rw[hd] at hK⊢;have hw:∀b,b<w.heap.size->(w.alloc (.cells (madeCells z.cells (x.toNat*ei.size)) e)).heap[b]? =w.heap[b]? :=fun b hb=>Below.heap_alloc w _ b hb
     have hnew:(w.alloc (.cells (madeCells z.cells (x.toNat*ei.size)) e)).heap[w.heap.size]? =some (.cells (madeCells z.cells (x.toNat*ei.size)) e (0,0)):=heap_alloc_new w _;have hzz:(w.alloc (.cells (madeCells z.cells (x.toNat*ei.size)) e)).heap.size=w.heap.size+1:=by simp
     refine hK ⟨J.F,fun k=>if k=64*d then [w.heap.size] else J.L k,J.B⟩ _ _ (hrel.grab (some d) (fun d' e=>by cases e;exact hdst d hd) _ _ (64*d) [] rfl rfl (hrel.below.alloc hrel.below.size _) (by omega) rfl (fun k hk=>by simp[hk])
      (fun b hb=>hb) (fun b hb=> .inl hb) (fun k _ hk=>by simp[get,Ne.symm hk]) (fun _=>by simp[get]) (fun k hk=>by simp at hk) (fun b hb _=>hw b hb) (by simp) (fun b hb=> ?_) (fun _=> ?_))
     . simp only[if_true,List.mem_singleton] at hb;subst hb;exact ⟨by omega, .inl (Nat.le_refl _)⟩
     show OwnDeep (if 64*d=64*d then _ else _) _ _ _ _;rw[if_pos rfl];have hlen:(List.replicate x.toNat ps).length=x.toNat:=by simp
     have hor:=Nt (hov (w.alloc (.cells (madeCells z.cells (x.toNat*ei.size)) e))) (hpl.trans hsz.symm) x.toNat;have hml:=ZR z.cells (by omega) x.toNat;rw[hzn] at hml;rw[←hml] at hor;have hcs:(madeCells z.cells (x.toNat*ei.size)).size=x.toNat*ei.size:=size_madeCells _ _
     have key:OV (w.alloc (.cells (madeCells z.cells (x.toNat*ei.size)) e)) [w.heap.size] (.slice (some ⟨w.heap.size,0,none⟩) (List.replicate x.toNat ps).length x.toNat) (.slc ei.size (List.replicate x.toNat ps)):=by
      refine OV.slc (L:= []) (cur:=madeCells z.cells (x.toNat*ei.size)) hnew hcs ?_ (by rw[hlen];exact Nat.le_refl _) ⟨?_, ?_⟩
      . rw[hlen,List.take_of_length_le (by simp[hcs])];exact hor
      . unfold maxLen;omega
      rw[hlen];omega
     rw[hlen] at key;exact .of key (by simp)
 cases h
end
end
section
open Go.RowKit
def P3:List (Nat×List C)->List Nat
 | []=> []
 | p::r=>Ql p.2++P3 r
def Qag (orc:Orc) (bn:List (Nat×List C)) (dst:Option Nat):Op->List AV->Option (Res×List Ob)
 | .call ⟨.value _,_,_⟩, .one (.fn f []):: .one (.slc (.own d k) n l)::avs=>
   (match orc,Ft bn avs with
   | .take mix turn l',some args=>
     bif !(C9 k (Ql (X5 avs)))&& !(C9 k (P3 bn))&&(!mix|| Vm Pw (X5 avs)) then
      (match turn,dst with
      | true,_=>bif !d&& !mix then some (⟨.tup [], [(k,some (.put false n 0 4294967296 l'.flatten))],none,none⟩, [.take f n l args false true l']) else none
      | false,some t=>bif !(C9 (64*t) (Ql (X5 avs))) then
       some (⟨.one (.slc (.own d (64*t)) n l'),(64*t,none)::(k,none)::(bif mix&& !d then Xo (Ql (X5 avs)) else []),none,none⟩, .take f n l args mix false l'::(bif d then [.flat l, .flat l'] else []))
        else none
      | _,_=>none)
     else none
   | _,_=>none)
 | _,_=>none
section
variable {P:Program} {N:Nat} {w0:Base} {F0:Nat->Prop} {J:Inj} {a:Act} {w:World} {s:St}
theorem Mr {k:Nat} {l:List Nat} (h:C9 k l=false):k∉l:=fun hm=>by rw[Ul.2 hm] at h;cases h
theorem AI:∀{bn:List (Nat×List C)} {k:Nat} {x:List C},get bn k=some x->∀y,y∈Ql x->y∈P3 bn
 | [],_,_,h,_,_=>by simp[get] at h
 | (k',c)::r,k,x,h,y,hy=>by
   simp only[get] at h;simp only[P3];split at h
   . obtain rfl:=Option.some.inj h;exact List.mem_append_left _ hy
   exact List.mem_append_right _ (AI h y hy)
theorem OA {L:List Nat} {v:Value} {n:Nat} {l:List (List PV)} (h:OwnDeep L w v n l) (hf:Bj l) (F:Nat->Prop):∃L',OwnTop F L' w v n l/\(∀b,b∈L'->b∈L)/\L'.Nodup:=by
 obtain ⟨L',h1,h2,h3,h4⟩:=h;generalize hp:PV.slc n l=p at h1;cases h1 with
 | int | bool | str | any | raw=>cases hp
 | emp oa n'=>
   cases hp
   exact ⟨[], .inl ⟨rfl,oa,rfl⟩,fun b hb=>(by simp at hb),List.nodup_nil⟩
 | @slc g cap n' cur e L1 l' hg hs hr h5 h6=>
   cases hp
   refine ⟨[g], .inr ⟨g,cap,cur,e,rfl,rfl,hg,hs, ?_,h5,h6⟩,fun b hb=> ?_,by simp⟩
   . have:=OR.vr (X:=fun _=>True) hr fun _ _=>trivial
     have:=VR.orr (w':=w) this hf;exact OR.vr this fun b hb=>(by simp at hb)
   obtain rfl:=List.mem_singleton.1 hb;exact h3 _ List.mem_cons_self
theorem FJ {F:Nat->Prop} {L:List Nat} {v:Value} {n:Nat} {l:List (List PV)} (h:OwnTop F L w v n l) (hf:Bj l):OwnDeep L w v n l:=by
 rcases h with ⟨rfl,oa,rfl⟩ | ⟨g,cap,cur,e,rfl,rfl,hg,hs,hr,h5,h6⟩
 . exact ⟨[], .emp oa n,List.nodup_nil,(fun b hb=>by simp at hb), .inl rfl⟩
 exact ⟨[g], .slc hg hs (VR.orr hr hf) h5 h6,by simp,fun b hb=>hb, .inr ⟨g, [], [],rfl,rfl⟩⟩
def P4 (J:Inj) (w w':World) (nk k:Nat) (frz L':List Nat):Inj:=⟨fun b=>J.F b\/(∃y,y∈frz/\b∈J.L y)\/((w.heap.size<=b\/b∈J.L k)/\b<w'.heap.size/\b∉L'),fun x=>if x=nk then L' else if x∈k::frz then [] else J.L x,J.B⟩
theorem ZT (hrel:Rel N w0 F0 J a w s) {t k n:Nat} (ht:t<N) {frz L':List Nat} (hk:k∉frz) {w':World} {u:Value} {l':List (List PV)} {d:Bool} (hB:w0.Keeps w') (hsz:w.heap.size<=w'.heap.size)
 (hS:∀b,b<w.heap.size->b∉J.L k->w'.heap[b]? =w.heap[b]?) (hn:L'.Nodup) (hL':∀b,b∈L'->b<w'.heap.size/\(w.heap.size<=b\/b∈J.L k)) (hv:CR (P4 J w w' (64*t) k frz L') w' u (.slc (.own d (64*t)) n l')):
 Rel N w0 F0 (P4 J w w' (64*t) k frz L') (a.put (some t) u) w' (s.step (some t) ⟨.one (.slc (.own d (64*t)) n l'),(64*t,none)::(k,none)::Xo frz,none,none⟩):=by
 have hget:∀x,get ((64*t,none)::(k,none)::Xo frz) x=if x=64*t\/x=k then some none else if x∈frz then some (some .sh) else none:=fun x=>by
  by_cases h1:x=64*t
  . rw[if_pos (.inl h1)];simp[get,h1]
  rw[Zx h1];by_cases h2:x=k
  . rw[if_pos (.inr h2)];simp[get,h2]
  rw[Zx h2,if_neg (by simp[h1,h2])];exact Ko
 have hself:(P4 J w w' (64*t) k frz L').L (64*t)=L':=if_pos rfl;refine hrel.grab3 (some t) (fun d e=>by cases e;exact ht) _ u (64*t) (k::frz) rfl rfl hB hsz rfl (fun x hx=>if_neg hx) (fun b hb=> .inl hb) (fun b hb=> ?_) (fun x hx hx'=> ?_) (fun _=> ?_) (fun x hx=> ?_) (fun b hb hn=>hS b hb (hn k List.mem_cons_self)) (by rw[hself];exact hn) (fun b hb=> ?_) (fun _=>hv)
 . rcases hb with hb | ⟨y,hy,hb⟩ | ⟨h1,h2,h3⟩
   . exact .inl hb
   rotate_left
   . rcases h1 with h1 | h1
     . exact .inr (.inr ⟨h1,h2,by rw[hself];exact h3⟩)
     exact .inr (.inl ⟨⟨k,List.mem_cons_self ..,h1⟩,by rw[hself];exact h3⟩)
   refine .inr (.inl ⟨⟨y,List.mem_cons_of_mem _ hy,hb⟩,fun hm=> ?_⟩);rw[hself] at hm;have:=(hrel.lo y b hb).2.1;rcases (hL' b hm).2 with h | h
   . omega
   exact hk (hrel.dj y k b hb h▸hy)
 . show get ((64*t,none)::(k,none)::Xo frz) x=none;rw[hget,if_neg,if_neg]
   . exact fun h=>hx (List.mem_cons_of_mem _ h)
   rintro (h | h)
   . exact hx' h
   exact hx (h▸List.mem_cons_self)
 . show get ((64*t,none)::(k,none)::Xo frz) (64*t)=some none;rw[hget,if_pos (.inl rfl)]
 . show get ((64*t,none)::(k,none)::Xo frz) x=_\/(get ((64*t,none)::(k,none)::Xo frz) x=_/\_)\/(get ((64*t,none)::(k,none)::Xo frz) x=_/\_);rw[hget];by_cases h1:x=64*t\/x=k
   . rw[if_pos h1];exact .inl rfl
   have hxf:x∈frz:=(List.mem_cons.1 hx).resolve_left fun e=>h1 (.inr e)
   rw[if_neg h1,if_pos hxf];refine .inr (.inl ⟨rfl,fun b hb=>⟨.inr (.inl ⟨x,hxf,hb⟩),hS b (hrel.lo x b hb).2.1 fun hm=> ?_⟩⟩);exact h1 (.inr (hrel.dj x k b hb hm))
 rw[hself] at hb;obtain ⟨h1,h2⟩:=hL' b hb;exact ⟨h1,h2.imp id fun h=>⟨k,List.mem_cons_self,h⟩⟩
theorem OB {orc:Orc} {bn:List (Nat×List C)} {o:Oper} {avs:List AV} {r:Res} {obs:List Ob} (h:Qag orc bn o.dst o.op avs=some (r,obs)) (hob:AllOb (X9 P w0) (Z8 P w0) obs) (hdst:∀d,o.dst=some d->d<N)
 (hrel:Rel N w0 F0 J a w s) (hops:All2 (fun x v=>Pp s x=some v) o.op.operands.toList avs) (hbn:∀k c,get bn k=some c->get s.bx k=some c) {K:Act->World->Prop} {Q:Exit->Act->World->Prop}
 (hK:∀J' a' w',Rel N w0 F0 J' a' w' (s.step o.dst r)->K a' w'):o.wp P a w K Q:=by
 have hv:=Un hrel hops;generalize ho:o.op=op at h hv;generalize hd:o.dst=dst at h;unfold Qag at h;split at h
 rotate_left
 . cases h
 rename_i x args tys f dp k n l avs';split at h
 rotate_left
 . cases h
 rename_i mix turn l' eas heas;cases hc:(!(C9 k (Ql (X5 avs')))&& !(C9 k (P3 bn))&&(!mix|| Vm Pw (X5 avs'))) with
 | false=>rw[hc] at h;cases h
 | true =>
   rw[hc] at h;simp only[cond_true] at h;simp only[Bool.and_eq_true,Bool.not_eq_true',Bool.or_eq_true] at hc;obtain ⟨⟨c1,c2⟩,c3⟩:=hc;have c1:=Mr c1;have c2:=Mr c2;have hv':All2 (fun x v=>AR J w (a.eval x) v) (x::args.toList) (.one (.fn f []):: .one (.slc (.own dp k) n l)::avs'):=by simpa [Op.operands,Call.operands] using hv
   obtain ⟨args⟩:=args;have hv':All2 (fun x v=>AR J w (a.eval x) v) (x::args) (.one (.fn f []):: .one (.slc (.own dp k) n l)::avs'):=hv';cases hv' with
   | cons hx hv1=>
   cases hv1 with
   | @cons px _ rest _ hrow hrest=>
   have hx:a.eval x= .func (.func f) #[] #[]:=by simpa [AR,CR] using hx
   have hlo:=hrel.lo k;have h0:=hrel.below.size
   let frz:=Ql (X5 avs')
   have hG:∃G:Nat->Prop,(∀b,J.F b->G b)/\(mix=true->∀b,G b->J.F b\/∃y,y∈frz/\b∈J.L y)/\(∀b,G b->b<w.heap.size)/\(∀b,b∈J.L k->¬G b)/\(∀y,y∈frz->∀b,b∈J.L y->G b)/\All2 (AR (ZK G) w) (rest.map a.eval) eas:=by
    by_cases hm:mix=true
    . have c3:Vm Pw (X5 avs')=true:=c3.resolve_left (by rw[hm];simp);refine ⟨fun b=>J.F b\/∃y,y∈frz/\b∈J.L y,fun b hb=> .inl hb,fun _ b hb=>hb,fun b hb=>hb.elim (fun hb=>(hrel.fl b hb).1) fun ⟨y,_,hb⟩=>(hrel.lo y b hb).2.1,fun b hb hg=> ?_,fun y hy b hb=> .inr ⟨y,hy,hb⟩, ?_⟩
      . rcases hg with hg | ⟨y,hy,hg⟩
        . exact (hlo b hb).2.2 hg
        exact c1 (hrel.dj y k b hg hb▸hy)
      exact Ey (fun b hb=> .inl hb) (All2.of_map _ hrest) heas (fun y hy b hb=> .inr ⟨y,hy,hb⟩) (.inl c3)
    refine ⟨fun b=>b<w.heap.size/\b∉J.L k,fun b hb=>⟨(hrel.fl b hb).1,fun hk=>(hlo b hk).2.2 hb⟩,fun e=>absurd e hm,fun b hb=>hb.1,fun b hb hg=>hg.2 hb,fun y hy b hb=>⟨(hrel.lo y b hb).2.1,fun hk=>c1 (hrel.dj y k b hb hk▸hy)⟩, ?_⟩;refine Ey (fun b hb=>⟨(hrel.fl b hb).1,fun hk=>(hlo b hk).2.2 hb⟩) (All2.of_map _ hrest) heas (fun y hy b hb=>⟨(hrel.lo y b hb).2.1,fun hk=>c1 (hrel.dj y k b hb hk▸hy)⟩) (.inr fun y c hy=> ?_);obtain ⟨_,_,hnL,arr,e,hheap,hall⟩:=hrel.bo y c (hbn y c hy);refine ⟨⟨Q2 hheap,hnL k⟩,fun z hz b hb=>⟨(hrel.lo z b hb).2.1,fun hk=> ?_⟩,arr,e,hheap,hall⟩;exact c2 (hrel.dj z k b hb hk▸AI hy z hz)
   obtain ⟨G,g1,g2,g3,g4,g5,hargs⟩:=hG
   have hvals:(({toList:=px::rest}:Array Operand).map a.eval++ #[])=(a.eval px::rest.map a.eval).toArray:=by
    apply Array.ext';simp
   cases turn with
   | true =>
     cases hdm:(!dp&& !mix) with
     | false=>rw[hdm] at h;cases h
     | true =>
       rw[hdm] at h;simp only[cond_true,Option.some.injEq,Prod.mk.injEq] at h;obtain ⟨rfl,rfl⟩:=h;simp only[Bool.and_eq_true,Bool.not_eq_true'] at hdm;obtain ⟨rfl,rfl⟩:=hdm;obtain ⟨hfn,hcall⟩:XB P w0 f n l eas false true l':=hob;have hC:=hcall w hrel.below J.F G (J.L k) (a.eval px) _ (fun x hx=>(hlo x hx).1) g1 (fun e=>by cases e) g3 (hrel.nd k) (fun b hb=>⟨(hlo b hb).2.1,g4 b hb⟩) hrow hargs;refine Cm ho hx hfn ?_;rw[hvals];refine hC.mono fun e w' hret=> ?_
       obtain ⟨u,rfl,hB,hS,rfl,hT⟩:=hret;have hB0:=hB 0 (Nat.zero_le _) fun _ _=>Nat.zero_le _
       have hbelow:w0.Keeps w':=hrel.below.step hB0.os hB0.tape hB0.output hB0.size fun b hb hnl=>hS b hb fun hm=>hnl (hlo b hm).1
       have hsz:=hB0.size
       have hget:∀x y,get [(k,some (Tok.put false n 0 4294967296 l'.flatten))] x=y->(x=k/\y=some (some (.put false n 0 4294967296 l'.flatten)))\/(x≠k/\y=none):=fun x y hy=>by
        by_cases hxk:x=k
        . subst hxk;exact .inl ⟨rfl,by rw[←hy];simp[get]⟩
        rw[Zx hxk] at hy;exact .inr ⟨hxk,hy.symm⟩
       have hLx:∀x,x≠k->∀b,b∈J.L x->w'.heap[b]? =w.heap[b]? :=fun x hx b hb=>hS b (hrel.lo x b hb).2.1 fun hm=>hx (hrel.dj x k b hb hm)
       show K (a.put o.dst _) w'
       refine hK J _ w' (hrel.upd (J':=J) (w':=w') o.dst hdst ⟨.tup [], [(k,some (.put false n 0 4294967296 l'.flatten))],none,none⟩ _ hbelow ⟨fun b hb=>⟨hb,hS b (hrel.fl b hb).1 fun hm=>(hlo b hm).2.2 hb⟩,fun x hx=> ?_,fun x hx=> ?_,fun x x' hx=> ?_,fun x t hx=> ?_,fun _ _=>rfl,fun x d1 m i1 o1 cs1 hx=> ?_⟩
        ⟨fun b hb=>⟨by have:=(hrel.fl b hb).1;omega,(hrel.fl b hb).2⟩,hrel.f0,hrel.nd,fun x b hb=> ?_,hrel.dj⟩ (fun _=>⟨[],rfl, .nil⟩) (fun x c hx _=> ?_) (fun x c hx=>by cases hx))
       . rcases hget x _ hx with ⟨_,e⟩ | ⟨h1,_⟩
         . cases e
         exact ⟨rfl,hLx x h1⟩
       . rcases hget x _ hx with ⟨_,e⟩ | ⟨_,e⟩<;>cases e
       . rcases hget x _ hx with ⟨_,e⟩ | ⟨_,e⟩<;>cases e
       . rcases hget x _ hx with ⟨_,e⟩ | ⟨_,e⟩
         . cases e;exact .inr (.inr ⟨_,_,_,_,_,rfl⟩)
         cases e
       . rcases hget x _ hx with ⟨rfl,e⟩ | ⟨_,e⟩
         . cases e
           exact ⟨fun v2 l2 hcr=>hT v2 l2 hcr,fun e=>by cases e⟩
         cases e
       . obtain ⟨h1,h2,h3⟩:=hrel.lo x b hb;exact ⟨h1,by omega,h3⟩
       obtain ⟨_,h3,h4,arr',e',h5,_⟩:=hrel.bo x c hx;exact ⟨by simp,h3,h4,hS _ (Q2 h5) (h4 k)⟩
   | false =>
     cases dst with
     | none=>cases h
     | some t=>
       simp only at h;cases hm:C9 (64*t) (Ql (X5 avs')) with
       | true=>rw[hm] at h;cases h
       | false=>
         rw[hm] at h;simp only[Bool.not_false,cond_true,Option.some.injEq,Prod.mk.injEq] at h;obtain ⟨rfl,rfl⟩:=h;have hm:=Mr hm;have ht:=hdst t hd;obtain ⟨hob1,hob2⟩:=AllOb.cons hob;obtain ⟨hfn,hcall⟩:XB P w0 f n l eas mix false l':=hob1;cases dp with
         | true=>
           obtain ⟨hf1,hf2⟩:Bj l/\Bj l':=hob2;obtain ⟨L0,hL0,hsub,hnd0⟩:=OA hrow hf1 G;have hC:=hcall w hrel.below G G L0 (a.eval px) _ (fun x hx=>(hlo x (hsub x hx)).1) (fun _ h=>h) (fun _ _ h=>h) g3 hnd0 (fun b hb=>⟨(hlo b (hsub b hb)).2.1,g4 b (hsub b hb)⟩) hL0 hargs;refine Cm ho hx hfn ?_;rw[hvals];refine hC.mono fun e w' hret=> ?_
           obtain ⟨u,rfl,hB,hS,L',hn',hL',hT⟩:=hret;have hB0:=hB 0 (Nat.zero_le _) fun _ _=>Nat.zero_le _
           show K (a.put o.dst _) w';rw[hd] at hK⊢
           have hres:CR (P4 J w w' (64*t) k [] L') w' u (.slc (.own true (64*t)) n l'):=by
            show OwnDeep ((P4 J w w' (64*t) k [] L').L (64*t)) w' u n l';rw[show (P4 J w w' (64*t) k [] L').L (64*t)=L' from if_pos rfl];exact FJ hT hf2
           have:=ZT hrel (t:=t) (k:=k) (frz:= []) ht (by simp) (hrel.below.step hB0.os hB0.tape hB0.output hB0.size fun b hb hnl=>hS b hb fun hm=>hnl (hlo b (hsub b hm)).1) hB0.size (fun b hb hm=>hS b hb fun h=>hm (hsub b h)) hn' (fun b hb=>⟨(hL' b hb).1,(hL' b hb).2.imp id (hsub b)⟩) hres;refine hK (P4 J w w' (64*t) k [] L') _ w' ?_;rw[show (bif mix&& !true then Xo (Ql (X5 avs')) else [])=Xo [] by cases mix<;>rfl];exact this
         | false=>
           have key:∀frz',(frz'= []/\mix=false\/frz'=frz/\mix=true)->∀J1:Inj,J1.F=(fun b=>J.F b\/∃y,y∈frz'/\b∈J.L y)->∃F:Nat->Prop,(∀b,J.F b->F b)/\(∀b,F b->J1.F b)/\(∀b,F b->G b)/\(mix=true->∀b,G b->F b):=fun frz' hz J1 hJ1=>by
            rcases hz with ⟨rfl,hmx⟩ | ⟨rfl,hmx⟩
            . exact ⟨J.F,fun _ h=>h,fun b hb=>by rw[hJ1];exact .inl hb,g1,fun e=>by rw[hmx] at e;cases e⟩
            exact ⟨G,g1,fun b hb=>by rw[hJ1];exact g2 hmx b hb,fun _ h=>h,fun _ _ h=>h⟩
           obtain ⟨frz',hz,hfz⟩:∃frz',(frz'= []/\mix=false\/frz'=frz/\mix=true)/\(bif mix&& !false then Xo (Ql (X5 avs')) else [])=Xo frz':=by
            cases mix with
            | true=>exact ⟨frz, .inr ⟨rfl,rfl⟩,rfl⟩
            | false=>exact ⟨[], .inl ⟨rfl,rfl⟩,rfl⟩
           have hsubf:∀y,y∈frz'->y∈frz:=fun y hy=>by
            rcases hz with ⟨rfl,_⟩ | ⟨rfl,_⟩
            . simp at hy
            exact hy
           obtain ⟨F,f1,f2,f3,f4⟩:=key frz' hz ⟨fun b=>J.F b\/∃y,y∈frz'/\b∈J.L y,fun _=> [],fun _=>0⟩ rfl;have hC:=hcall w hrel.below F G (J.L k) (a.eval px) _ (fun x hx=>(hlo x hx).1) f3 f4 g3 (hrel.nd k) (fun b hb=>⟨(hlo b hb).2.1,g4 b hb⟩) (OwnTop.keep hrow (fun b hb=>⟨f1 b hb,rfl⟩) fun _ _=>rfl) hargs;refine Cm ho hx hfn ?_;rw[hvals];refine hC.mono fun e w' hret=> ?_
           obtain ⟨u,rfl,hB,hS,L',hn',hL',hT⟩:=hret;have hB0:=hB 0 (Nat.zero_le _) fun _ _=>Nat.zero_le _
           show K (a.put o.dst _) w';rw[hd] at hK⊢
           have hres:CR (P4 J w w' (64*t) k frz' L') w' u (.slc (.own false (64*t)) n l'):=by
            show OwnTop _ ((P4 J w w' (64*t) k frz' L').L (64*t)) w' u n l';rw[show (P4 J w w' (64*t) k frz' L').L (64*t)=L' from if_pos rfl];exact OwnTop.keep hT (fun b hb=>⟨hb.elim (fun h=>(f2 b h).imp id .inl) fun h=> .inr (.inr h),rfl⟩) fun _ _=>rfl
           have:=ZT hrel (t:=t) (k:=k) (frz:=frz') ht (fun h=>c1 (hsubf _ h)) (hrel.below.step hB0.os hB0.tape hB0.output hB0.size fun b hb hnl=>hS b hb fun hm=>hnl (hlo b hm).1) hB0.size hS hn' hL' hres;refine hK (P4 J w w' (64*t) k frz' L') _ w' ?_;rw[hfz];exact this
end
end
section
open Go.RowKit
def Qct (i:Nat):C->C
 | .slc (.own true _) n l=> .slc (.own true i) n l
 | c=>c
def WP:Nat->List C->List C
 | _, []=> []
 | i,c::r=>Qct i c::WP (i+1) r
def ZU:C->Option Nat
 | .slc (.own true k) _ _=>some k
 | _=>none
def Nu (J:Inj):Nat->List C->Nat->List Nat
 | _, [],_=> []
 | i,c::r,j=>if j=i then (match ZU c with
   | some k=>J.L k
   | none=> []) else Nu J (i+1) r j
def Qah (orc:Orc) (bn:List (Nat×List C)) (dst:Option Nat):Op->List AV->Option (Res×List Ob)
 | .call ⟨.value _,_,_⟩, .one (.fn f []):: .one (.ptr b 0)::avs=>
   (match orc,dst,get bn b with
   | .give _ r cs',some d,some cs=>
     bif Vm NG cs&&Vy (Ql cs)&&Vm NG cs'&&Vm Pv cs'&&Vy (Ql cs')&&Vm Sq r.cells&&Vm Sq (X5 avs) then
      some (⟨r,Z7 (Yf d (Ql cs'))++Z7 (Ql cs),none,some (b,cs'.map (Pu d))⟩, [.give f (WP 40 cs) avs r cs'])
     else none
   | _,_,_=>none)
 | _,_=>none
def NH:List Nat->Nat->Nat->Nat
 | [],_,i=>i
 | x::r,k,i=>if x=k then i else NH r k (i+1)
def Qcu (ks:List Nat):C->C
 | .slc (.own true k) n l=>bif C9 k ks then .slc (.own true (NH ks k 40)) n l else .slc .sh n l
 | .slc _ n l=> .slc .sh n l
 | c=>c
def CP (ks:List Nat):C->Bool
 | .int _ _=>true
 | .bool _=>true
 | .str _=>true
 | .slc .sh _ _=>true
 | .slc .emp _ _=>true
 | .slc (.own true _) _ _=>true
 | .slc (.own false k) _ _=> !(C9 k ks)
 | .slc (.vw k) _ _=> !(C9 k ks)
 | _=>false
def ZV (J:Inj):List Nat->Nat->Nat->List Nat
 | [],_,_=> []
 | x::r,i,j=>if j=i then J.L x else ZV J r (i+1) j
def Qai (orc:Orc) (dst:Option Nat):Op->List AV->Option (Res×List Ob)
 | .call ⟨.value _,_,_⟩, .one (.fn f [])::avs=>
   (match orc,dst with
   | .giv ks r,some d=>
    bif Vy ks&&Vm (CP ks) (X5 avs)&&Vm Qcr r.cells&&Vm Pv r.cells&&Vy (Ql r.cells) then
     some (⟨r.map (Pu d),Z7 (Yf d (Ql r.cells))++Z7 ks,none,none⟩, [.val f (avs.map (AV.map (Qcu ks))) r])
    else none
   | _,_=>none)
 | _,_=>none
section
variable {P:Program} {N:Nat} {w0:Base} {F0:Nat->Prop} {J:Inj} {a:Act} {w:World} {s:St}
theorem OD {J J':Inj} {w w':World} {v:Value} {c:C} (h:CR J w v c) (hp:Sq c=true):CR J' w' v c:=by
 cases c with
 | int | bool | str=>exact h
 | _=>cases hp
theorem FK {J J':Inj} {w w':World} {v:Value} {x:AV} (h:AR J w v x) (hp:Vm Sq x.cells=true):AR J' w' v x:=by
 have:=AR.map (J':=J') (w':=w') id h fun u c hc hcr=>OD hcr (K6 hp c hc)
 rwa [show x.map id=x by cases x<;>simp[AV.map]] at this
theorem AJ (f:C->Bool) (cs cs':List C):Vm f (cs++cs')=(Vm f cs&&Vm f cs'):=by
 induction cs with
 | nil=>rfl
 | cons c cs ih=>simp[Vm,ih,Bool.and_assoc]
theorem WQ {J J':Inj} {w w':World}:∀{vs:List Value} {xs:List AV},All2 (AR J w) vs xs->Vm Sq (X5 xs)=true->All2 (AR J' w') vs xs
 | _,_, .nil,_=> .nil
 | _,_, .cons h1 h2,hp=>by
   simp only[X5,AJ,Bool.and_eq_true] at hp;exact .cons (FK h1 hp.1) (WQ h2 hp.2)
theorem Om {J:Inj}:∀{cs:List C} {i j x:Nat},x∈Nu J i cs j->∃k,k∈Ql cs/\x∈J.L k
 | [],i,j,x,h=>by simp[Nu] at h
 | c :: r, i,j,x,h=>by
   simp only[Nu] at h;simp only[Ql,List.mem_append];split at h
   . split at h
     . rename_i k hk
       have:c.key=some k:=by
        cases c with
        | slc t n l=>cases t with
          | own d k'=>cases d<;>simp_all [ZU,C.key,Tok.key]
          | _=>cases hk
        | _=>cases hk
       exact ⟨k, .inl (by rw[this];simp),h⟩
     simp at h
   obtain ⟨k,h1,h2⟩:=Om h;exact ⟨k, .inr h1,h2⟩
theorem FL {J:Inj}:∀{cs:List C} {i j:Nat},j<i->Nu J i cs j= []
 | [],i,j,_=>rfl
 | c::r,i,j,h=>by
   simp only[Nu];rw[if_neg (by omega)];exact FL (by omega)
theorem AK {J:Inj}:∀{cs:List C} {i k x:Nat},Vm NG cs=true->k∈Ql cs->x∈J.L k->∃j,x∈Nu J i cs j
 | [],i,k,x,_,h,_=>by simp[Ql] at h
 | c :: r, i,k,x,hb,h,hx=>by
   simp only[Vm,Bool.and_eq_true] at hb;simp only[Ql,List.mem_append] at h;rcases h with h | h
   . refine ⟨i, ?_⟩;simp only[Nu,if_true];cases c with
     | slc t n l=>cases t with
       | own d k'=>cases d with
         | true=>
           obtain rfl:k=k':=by simpa [C.key,Tok.key] using h
           exact hx
         | false=>cases hb.1
       | sh=>simp[C.key,Tok.key] at h
       | _=>cases hb.1
     | int | bool | str=>simp[C.key] at h
     | _=>cases hb.1
   obtain ⟨j,hj⟩:=AK (i:=i+1) hb.2 h hx;refine ⟨j, ?_⟩;simp only[Nu];split
   . rename_i e;rw[e,FL (by omega)] at hj;simp at hj
   exact hj
theorem WR (hrel:Rel N w0 F0 J a w s):∀(cs:List C) (i j:Nat),(Nu J i cs j).Nodup
 | [],i,j=>List.nodup_nil
 | c ::r,i,j=>by
   simp only[Nu];split
   . split
     . exact hrel.nd _
     exact List.nodup_nil
   exact WR hrel r (i+1) j
theorem WS (hrel:Rel N w0 F0 J a w s):∀{cs:List C} {i j j' x:Nat},(Ql cs).Nodup->x∈Nu J i cs j->x∈Nu J i cs j'->j=j'
 | [],i,j,j',x,_,h,_=>by simp[Nu] at h
 | c :: r,i,j,j',x,hn,h,h'=>by
   have hsep:∀k,ZU c=some k->x∈J.L k->∀q,x∉Nu J (i+1) r q:=fun k hk hx q hq=>by
    have hck:c.key=some k:=by
     cases c with
     | slc t n l=>cases t with
       | own d k'=>cases d<;>simp_all [ZU,C.key,Tok.key]
       | _=>cases hk
     | _=>cases hk
    obtain ⟨k2,h1,h2⟩:=Om hq;have e:=hrel.dj k k2 x hx h2;subst e;simp only[Ql,hck] at hn;exact (List.nodup_cons.1 hn).1 h1
   have hn':(Ql r).Nodup:=by
    simp only[Ql] at hn;exact (List.nodup_append.1 hn).2.1
   simp only[Nu] at h h';split at h
   . rename_i e;split at h'
     . rename_i e';exact e.trans e'.symm
     split at h
     . rename_i k hk;exact (hsep k hk h _ h').elim
     simp at h
   split at h'
   . split at h'
     . rename_i k hk;exact (hsep k hk h' _ h).elim
     simp at h'
   exact WS hrel hn' h h'
theorem XD {F:Nat->Prop} {b:Nat} (hF:∀x,J.F x->F x) {L:Nat->List Nat}:∀{vs:List Value} {cs:List C} {i:Nat},All2 (CR J w) vs cs->Vm NG cs=true->(∀j,i<=j->L j=Nu J i cs j)->All2 (CR (NV F L b) w) vs (WP i cs)
 | _,_,_, .nil,_,_=> .nil
 | _, _, i, .cons (b:=c) (m:=r) h1 h2,hb,hL=>by
   simp only[Vm,Bool.and_eq_true] at hb;refine .cons ?_ (XD hF h2 hb.2 fun j hj=>by rw[hL j (by omega)];simp only[Nu];rw[if_neg (by omega)]);cases c with
   | int | bool | str=>exact h1
   | slc t n l=>
     cases t with
     | sh=>exact VV.keep (X:=J.F) (fun x hx=>⟨hF x hx,rfl⟩) h1
     | own d k=>
       cases d with
       | true=>
         show OwnDeep (L i) w _ n l;rw[hL i (Nat.le_refl _)];simp only[Nu,if_true,ZU];exact h1
       | false=>cases hb.1
     | _=>cases hb.1
   | _=>cases hb.1
theorem FM:∀(ks:List Nat) (k i:Nat),i<=NH ks k i
 | [],_,_=>Nat.le_refl _
 | x::r,k,i=>by
   simp only[NH];split
   . exact Nat.le_refl _
   have:=FM r k (i+1);omega
theorem WT {J:Inj}:∀{ks:List Nat} {k i:Nat},k∈ks->ZV J ks i (NH ks k i)=J.L k
 | x::r,k,i,h=>by
   by_cases e:x=k
   . subst e;have e1:NH (x::r) x i=i:=if_pos rfl;rw[e1];exact if_pos rfl
   have e1:NH (x::r) k i=NH r k (i+1):=if_neg e;have:=FM r k (i+1);rw[e1];exact (if_neg (by omega)).trans (WT ((List.mem_cons.1 h).resolve_left fun e'=>e e'.symm))
theorem XE {J:Inj}:∀{ks:List Nat} {i j x:Nat},x∈ZV J ks i j->∃k,k∈ks/\x∈J.L k
 | [],i,j,x,h=>by simp[ZV] at h
 | y::r,i,j,x,h=>by
   simp only[ZV] at h;split at h
   . exact ⟨y,List.mem_cons_self ..,h⟩
   obtain ⟨k,h1,h2⟩:=XE h;exact ⟨k,List.mem_cons_of_mem _ h1,h2⟩
theorem FN (hrel:Rel N w0 F0 J a w s):∀(ks:List Nat) (i j:Nat),(ZV J ks i j).Nodup
 | [],_,_=>List.nodup_nil
 | y::r,i,j=>by
   simp only[ZV];split
   . exact hrel.nd y
   exact FN hrel r (i+1) j
theorem FO (hrel:Rel N w0 F0 J a w s):∀{ks:List Nat} {i j j' x:Nat},ks.Nodup->x∈ZV J ks i j->x∈ZV J ks i j'->j=j'
 | [],i,j,j',x,_,h,_=>by simp[ZV] at h
 | y ::r,i,j,j',x,hn,h,h'=>by
   obtain ⟨n1,n2⟩:=List.nodup_cons.1 hn
   have hsep:x∈J.L y->∀q,x∉ZV J r (i+1) q:=fun hx q hq=>by
    obtain ⟨k2,h1,h2⟩:=XE hq;exact n1 (by rw[hrel.dj y k2 x hx h2];exact h1)
   simp only[ZV] at h h';split at h
   . rename_i e;split at h'
     . rename_i e';exact e.trans e'.symm
     exact (hsep h _ h').elim
   split at h'
   . exact (hsep h' _ h).elim
   exact FO hrel n2 h h'
theorem Qaj (hrel:Rel N w0 F0 J a w s) {ks:List Nat} {F:Nat->Prop} (hF:∀b,J.F b->F b) (hK:∀k b,k∉ks->b∈J.L k->F b) {v:Value} {c:C} (h:CR J w v c) (hc:CP ks c=true):CR (Qd3 F (ZV J ks 40)) w v (Qcu ks c):=by
 cases c with
 | int | bool | str=>exact h
 | slc t n l =>
   cases t with
   | sh=>exact VV.keep (X:=J.F) (fun b hb=>⟨hF b hb,rfl⟩) h
   | emp => obtain ⟨rfl,oa,rfl⟩:=h
            exact .emp oa n (Nat.zero_le _)
   | own d k=>
     cases d with
     | true=>
       show CR _ w v (bif C9 k ks then .slc (.own true (NH ks k 40)) n l else .slc .sh n l);cases hm:C9 k ks with
       | true=>
         show OwnDeep (ZV J ks 40 (NH ks k 40)) w v n l;rw[WT (Ul.1 hm)];exact h
       | false=>exact OwnDeep.vv h fun b hb=>⟨hK k b (Mr hm) hb,rfl⟩
     | false=>
       have hm:C9 k ks=false:=by simpa [CP] using hc
       exact OwnTop.vv h (fun b hb=>⟨hF b hb,rfl⟩) fun b hb=>⟨hK k b (Mr hm) hb,rfl⟩
   | vw k=>
     have hm:C9 k ks=false:=by simpa [CP] using hc
     exact VV.keep (X:=J.X (.vw k)) (fun b hb=>⟨hb.elim (hK k b (Mr hm)) (hF b),rfl⟩) h
   | put=>exact h.elim
 | _=>cases hc
theorem ZW (hrel:Rel N w0 F0 J a w s) {ks:List Nat} {F:Nat->Prop} (hF:∀b,J.F b->F b) (hK:∀k b,k∉ks->b∈J.L k->F b):∀{vs:List Value} {xs:List AV},All2 (AR J w) vs xs->Vm (CP ks) (X5 xs)=true->All2 (AR (Qd3 F (ZV J ks 40)) w) vs (xs.map (AV.map (Qcu ks)))
 | _,_, .nil,_=> .nil
 | _,_, .cons h1 h2,hp=>by
   simp only[X5,AJ,Bool.and_eq_true] at hp;exact .cons (AR.map (Qcu ks) h1 fun u c hc hcr=>Qaj hrel hF hK hcr (K6 hp.1 c hc)) (ZW hrel hF hK h2 hp.2)
theorem Ar {d:Nat} {ks gs:List Nat} (x:Nat):get (Z7 (Yf d ks)++Z7 gs) x=if x∈Yf d ks\/x∈gs then some none else none:=by
 rw[Mo,V3];by_cases h1:x∈Yf d ks
 . rw[if_pos h1,if_pos (Or.inl h1)]
 rw[if_neg h1];show get (Z7 gs) x=_;rw[V3];by_cases h2:x∈gs
 . rw[if_pos h2,if_pos (Or.inr h2)]
 rw[if_neg h2,if_neg (by simp[h1,h2])]
theorem FP (hrel:Rel N w0 F0 J a w s) (d:Nat) (hd:d<N) {r:AV} {gs:List Nat} {L:Nat->List Nat} {kb:Nat} {cs cs':List C} (hbk:get s.bx kb=some cs) (hr0:Vm Sq r.cells=true) (hbox':Vm NG cs'=true) (hback:Vm Pv cs'=true)
 (hL:∀b,(∃j,b∈L j)↔∃k,k∈gs/\b∈J.L k) {e:Ending} {w':World} (hret:Qed J.F L (J.B kb) w r cs' e w'):
 ∃v J',e= .returned v/\Rel N w0 F0 J' (a.put (some d) v) w' (s.step (some d) ⟨r,Z7 (Yf d (Ql cs'))++Z7 gs,none,some (kb,cs'.map (Pu d))⟩):=by
 obtain ⟨v,L',rfl,hos,hta,hou,hsz,hS,hnd,hlo,hdj,hr,hbox⟩:=hret;obtain ⟨hb1,hb2,hb3,arr0,e0,hb4,_⟩:=hrel.bo kb cs hbk;have hblt:=Q2 hb4;have h0:=hrel.below.size
 let IL:Nat->Prop:=fun b=>∃j,b∈L j
 let J':Inj:=⟨fun b=>J.F b\/((w.heap.size<=b\/IL b)/\b<w'.heap.size/\∀k,b∉L' k),fun x=>if x∈Yf d (Ql cs') then L' (x-64*d) else if x∈gs then [] else J.L x,J.B⟩
 have hLlt:∀b,IL b->b<w.heap.size/\w0.lo b/\¬J.F b/\b≠J.B kb:=fun b hb=>by
  obtain ⟨k,hk,hm⟩:=(hL b).1 hb;obtain ⟨g1,g2,g3⟩:=hrel.lo k b hm;exact ⟨g2,g1,g3,fun e=>hb3 k (e▸hm)⟩
 have hFlt:∀b,J.F b->b<w.heap.size/\b≠J.B kb/\¬IL b:=fun b hb=>
  ⟨(hrel.fl b hb).1,fun e=>hb2 (e▸hb),fun hm=>(hLlt b hm).2.2.1 hb⟩
 have hS':∀b,b<w.heap.size->b≠J.B kb->¬IL b->w'.heap[b]? =w.heap[b]? :=fun b h1 h2 h3=>hS b h1 h2 fun j hj=>h3 ⟨j,hj⟩
 have hsame:∀b,J.F b->w'.heap[b]? =w.heap[b]? :=fun b hb=>hS' b (hFlt b hb).1 (hFlt b hb).2.1 (hFlt b hb).2.2
 have hkeep:∀k,k∉gs->∀b,b∈J.L k->w'.heap[b]? =w.heap[b]? :=fun k hk b hm=>hS' b (hrel.lo k b hm).2.1 (fun e=>hb3 k (e▸hm)) fun hl=>by
  obtain ⟨k',hk',hm'⟩:=(hL b).1 hl;exact hk (hrel.dj k k' b hm hm'▸hk')
 have hLL:∀k b,b∈J'.L k->(k∈Yf d (Ql cs')/\b∈L' (k-64*d))\/(k∉Yf d (Ql cs')/\k∉gs/\b∈J.L k):=fun k b hm=>by
  have hm:b∈(if k∈Yf d (Ql cs') then L' (k-64*d) else if k∈gs then [] else J.L k):=hm;split at hm
  . rename_i h1;exact .inl ⟨h1,hm⟩
  split at hm
  . simp at hm
  rename_i h1 h2;exact .inr ⟨h1,h2,hm⟩
 have hnew:∀k b,b∈L' k->b<w'.heap.size/\w0.lo b/\b≠J.B kb/\¬J'.F b/\∀k',k'∉gs->b∉J.L k':=fun k b hm=>by
  obtain ⟨g1,g2⟩:=hlo k b hm;have hne:¬J.F b:=fun hF=>g2.elim (fun h=>by have:=(hFlt b hF).1;omega) fun h=>(hFlt b hF).2.2 h
  refine ⟨g1,g2.elim (fun h=> .inl (by omega)) fun h=>(hLlt b h).2.1, ?_,fun hF=> ?_,fun k' hk' hm'=> ?_⟩
  . rintro rfl
    rcases g2 with h | h
    . omega
    exact (hLlt _ h).2.2.2 rfl
  . rcases hF with hF | ⟨_,_,hn⟩
    . exact hne hF
    exact hn k hm
  rcases g2 with h | h
  . have:=(hrel.lo k' b hm').2.1;omega
  obtain ⟨k2,hk2,hm2⟩:=(hL b).1 h;exact hk' (hrel.dj k2 k' b hm2 hm'▸hk2)
 refine ⟨v,J',rfl,hrel.upd (some d) (fun d' e=>by cases e;exact hd) _ v (hrel.below.step hos hta hou hsz fun b hb hn=>hS' b hb (fun e=>hn (e▸hb1)) fun hm=>hn (hLlt b hm).2.1)
  ⟨fun b hb=>⟨.inl hb,hsame b hb⟩,fun k hk=> ?_,fun k hk b hm=> ?_,fun k k' hk=> ?_,fun k t hk=> ?_,(fun _ _=>rfl),fun k d1 m i o cs1 hk=>by
   rw[Ar] at hk;split at hk<;>cases hk⟩
  ⟨fun b hb=> ?_,fun b hb=> .inl (hrel.f0 b hb),fun k=> ?_,fun k b hm=> ?_,fun k k' b hm hm'=> ?_⟩ (fun _=>FK hr hr0) (fun k c hk hne=> ?_) (fun k c hk=> ?_)⟩
 . rw[Ar] at hk;split at hk
   . cases hk
   rename_i h1;have h3:k∉Yf d (Ql cs'):=fun h=>h1 (.inl h)
   have h4:k∉gs:=fun h=>h1 (.inr h)
   exact ⟨by show (if _ then _ else _)=_;rw[if_neg h3,if_neg h4],hkeep k h4⟩
 . rw[Ar] at hk;split at hk<;>cases hk
 . rw[Ar] at hk;split at hk<;>cases hk
 . rw[Ar] at hk;split at hk<;>cases hk
 . rcases hb with hb | ⟨h1,h2,_⟩
   . exact ⟨by have:=(hFlt b hb).1;omega,(hrel.fl b hb).2⟩
   exact ⟨h2, .inr (h1.elim (fun h=> .inl (by omega)) fun h=>(hLlt b h).2.1)⟩
 . show (if _ then _ else _:List Nat).Nodup;split
   . exact hnd _
   split
   . simp
   exact hrel.nd k
 . rcases hLL k b hm with ⟨_,hm⟩ | ⟨_,h2,hm⟩
   . obtain ⟨g1,g2,_,g4,_⟩:=hnew _ b hm;exact ⟨g2,g1,g4⟩
   obtain ⟨g1,g2,g3⟩:=hrel.lo k b hm;refine ⟨g1,by omega,fun hF=> ?_⟩;rcases hF with hF | ⟨hF,_,_⟩
   . exact g3 hF
   rcases hF with hF | hF
   . omega
   obtain ⟨k',hk',hm'⟩:=(hL b).1 hF;exact h2 (hrel.dj k k' b hm hm'▸hk')
 . rcases hLL k b hm with ⟨h1,hm1⟩ | ⟨h1,h2,hm1⟩<;>rcases hLL k' b hm' with ⟨h3,hm3⟩ | ⟨h3,h4,hm3⟩
   . have:=hdj _ _ b hm1 hm3;obtain ⟨j,_,rfl⟩:=Wu.1 h1;obtain ⟨j',_,rfl⟩:=Wu.1 h3;omega
   . exact ((hnew _ b hm1).2.2.2.2 k' h4 hm3).elim
   . exact ((hnew _ b hm3).2.2.2.2 k h2 hm1).elim
   exact hrel.dj k k' b hm1 hm3
 . have hkk:kb≠k:=hne (kb,cs'.map (Pu d)) rfl;obtain ⟨_,g2,g3,arr,e,g4,_⟩:=hrel.bo k c hk;have hlt:=Q2 g4;have hBne:J.B k≠J.B kb:=fun e=>hkk (hrel.bi k kb c cs hk hbk e).symm
   have hnL:¬IL (J.B k):=fun hm=>by obtain ⟨k',_,hm'⟩:=(hL _).1 hm;exact g3 k' hm'
   refine ⟨by simp,fun hF=> ?_,fun k' hm=> ?_,hS' _ hlt hBne hnL⟩
   . rcases hF with hF | ⟨hF,_,_⟩
     . exact g2 hF
     rcases hF with hF | hF
     . omega
     exact hnL hF
   rcases hLL k' _ hm with ⟨_,hm⟩ | ⟨_,_,hm⟩
   . rcases (hlo _ _ hm).2 with h | h
     . omega
     exact hnL h
   exact g3 k' hm
 simp only[Option.some.injEq,Prod.mk.injEq] at hk;obtain ⟨rfl,rfl⟩:=hk;refine ⟨hb1,fun hF=> ?_,fun k' hm=> ?_, ?_,fun k' c' hk' hne' hB=>hne' (hrel.bi k' kb c' cs hk' hbk hB)⟩
 . rcases hF with hF | ⟨hF,_,_⟩
   . exact (hFlt _ hF).2.1 rfl
   rcases hF with hF | hF
   . have hF:w.heap.size<=J.B kb:=hF;omega
   exact (hLlt _ hF).2.2.2 rfl
 . rcases hLL k' _ hm with ⟨_,hm⟩ | ⟨_,_,hm⟩
   . exact (hnew _ _ hm).2.2.1 rfl
   exact hb3 k' hm
 obtain ⟨arr,e,g1,g2⟩:=hbox;refine ⟨arr,e,g1,g2.map (Pu d) fun u c hc hcr=> ?_⟩;have hbk':=K6 hbox' c hc;cases c with
 | int | bool | str=>exact hcr
 | slc t n l=>
   cases t with
   | sh=>exact VV.keep (X:=(FD J.F L w w' L').F) (fun b hb=>⟨hb,rfl⟩) hcr
   | own b k=>
     cases b with
     | false=>cases hbk'
     | true=>
       show OwnDeep (if 64*d+k∈Yf d (Ql cs') then L' (64*d+k-64*d) else _) w' u _ _;rw[if_pos (Wu.2 ⟨k,Dt hc rfl,rfl⟩),Nat.add_sub_cancel_left];exact hcr
   | _=>cases hbk'
 | _=>cases hbk'
theorem OE {orc:Orc} {bn:List (Nat×List C)} {o:Oper} {avs:List AV} {r:Res} {obs:List Ob} (h:Qah orc bn o.dst o.op avs=some (r,obs)) (hob:AllOb (X9 P w0) (Z8 P w0) obs) (hdst:∀d,o.dst=some d->d<N)
 (hrel:Rel N w0 F0 J a w s) (hops:All2 (fun x v=>Pp s x=some v) o.op.operands.toList avs) (hbn:∀k c,get bn k=some c->get s.bx k=some c) {K:Act->World->Prop} {Q:Exit->Act->World->Prop}
 (hK:∀J' a' w',Rel N w0 F0 J' a' w' (s.step o.dst r)->K a' w'):o.wp P a w K Q:=by
 have hv:=Un hrel hops;generalize ho:o.op=op at h hv;generalize hd:o.dst=dst at h;unfold Qah at h;split at h
 rotate_left
 . cases h
 rename_i x args tys f b avs;have hv':All2 (fun x v=>AR J w (a.eval x) v) (x::args.toList) (.one (.fn f []):: .one (.ptr b 0)::avs):=by simpa [Op.operands,Call.operands] using hv
 obtain ⟨args⟩:=args;have hv':All2 (fun x v=>AR J w (a.eval x) v) (x::args) (.one (.fn f []):: .one (.ptr b 0)::avs):=hv';cases hv' with
 | cons hx hrest=>
 have hx:a.eval x= .func (.func f) #[] #[]:=by simpa [AR,CR] using hx
 have hvals:(({toList:=args}:Array Operand).map a.eval++ #[])=(args.map a.eval).toArray:=by
  apply Array.ext';simp
 split at h
 rotate_left
 . cases h
 rename_i g r' cs' d cs hcs;cases hc:(Vm NG cs&&Vy (Ql cs)&&Vm NG cs'&&Vm Pv cs'&&Vy (Ql cs')&&Vm Sq r'.cells&&Vm Sq (X5 avs)) with
 | false=>rw[hc] at h;cases h
 | true=>
   rw[hc] at h;simp only[cond_true,Option.some.injEq,Prod.mk.injEq] at h;obtain ⟨rfl,rfl⟩:=h;simp only[Bool.and_eq_true] at hc;obtain ⟨⟨⟨⟨⟨⟨c1,c2⟩,c3⟩,c4⟩,_⟩,c6⟩,c7⟩:=hc;have c2:=Um.1 c2;obtain ⟨hfn,hcall⟩:WM P w0 f (WP 40 cs) avs r' cs':=hob;cases hrest with
   | @cons px _ rest _ hptr hrest=>
   have hptr:a.eval px= .pointer (some ⟨J.B b,0,none⟩):=hptr;have hbk:=hbn b cs hcs;obtain ⟨hb1,hb2,hb3,arr0,e0,hb4,hb5⟩:=hrel.bo b cs hbk;have hLm:∀j x,x∈Nu J 40 cs j->∃k,k∈Ql cs/\x∈J.L k:=fun j x hx=>Om hx
   have hC:=hcall w hrel.below J.F (Nu J 40 cs) (J.B b) (rest.map a.eval) (fun z hz=>hz.elim (fun e=>e▸hb1) fun ⟨j,hm⟩=>by obtain ⟨k,_,hm⟩:=hLm j z hm;exact (hrel.lo k z hm).1)
    ⟨fun z hz=>(hrel.fl z hz).1,fun k=>WR hrel cs 40 k,fun j z hz=>by obtain ⟨k,_,hm⟩:=hLm j z hz;exact (hrel.lo k z hm).2,fun j j' z h1 h2=>WS hrel c2 h1 h2,hb2,fun j hm=>by obtain ⟨k,_,hm⟩:=hLm j _ hm;exact hb3 k hm⟩
    ⟨arr0,e0,hb4,XD (fun _ h=>h) hb5 c1 fun _ _=>rfl⟩ (WQ (All2.of_map _ hrest) c7)
   refine Cm ho hx hfn ?_;rw[hvals,List.map_cons,hptr];refine hC.mono fun e w' hret=> ?_
   obtain ⟨v,J',rfl,hR⟩:=FP hrel d (hdst d hd) (gs:=Ql cs) hbk c6 c3 c4 (fun z=>⟨fun ⟨j,hm⟩=>hLm j z hm,fun ⟨k,h1,h2⟩=>AK c1 h1 h2⟩) hret;rw[hd] at hK⊢;exact hK J' _ _ hR
theorem OF (hrel:Rel N w0 F0 J a w s) (d:Nat) (hd:d<N) {r:AV} {ks:List Nat} {L:Nat->List Nat} (hL:∀b,(∃j,b∈L j)↔∃k,k∈ks/\b∈J.L k) (hown:Vm Qcr r.cells=true) (hback:Vm Pv r.cells=true) {e:Ending} {w':World} (hret:Qee L w r e w'):
 ∃v J',e= .returned v/\Rel N w0 F0 J' (a.put (some d) v) w' (s.step (some d) ⟨r.map (Pu d),Z7 (Yf d (Ql r.cells))++Z7 ks,none,none⟩):=by
 obtain ⟨v,L',rfl,hos,hta,hou,hsz,hS,hnd,hlo,hdj,hr⟩:=hret;have h0:=hrel.below.size
 let J':Inj:=⟨fun b=>J.F b,fun x=>if x∈Yf d (Ql r.cells) then L' (x-64*d) else if x∈ks then [] else J.L x,J.B⟩
 have hin:∀b j,b∈L j->∃k,k∈ks/\b∈J.L k:=fun b j h=>(hL b).1 ⟨j,h⟩
 have hsame:∀b,J.F b->w'.heap[b]? =w.heap[b]? :=fun b hb=>hS b (hrel.fl b hb).1 fun j hm=>by
  obtain ⟨k,_,hm⟩:=hin b j hm;exact (hrel.lo k b hm).2.2 hb
 have hkeep:∀k,k∉ks->∀b,b∈J.L k->w'.heap[b]? =w.heap[b]? :=fun k hk b hm=>hS b (hrel.lo k b hm).2.1 fun j hl=>by
  obtain ⟨k2,h2,hl⟩:=hin b j hl;exact hk (by rw[hrel.dj k k2 b hm hl];exact h2)
 have hLL:∀k b,b∈J'.L k->(k∈Yf d (Ql r.cells)/\b∈L' (k-64*d))\/(k∉Yf d (Ql r.cells)/\k∉ks/\b∈J.L k):=fun k b hm=>by
  have hm:b∈(if k∈Yf d (Ql r.cells) then L' (k-64*d) else if k∈ks then [] else J.L k):=hm;split at hm
  . rename_i h1;exact .inl ⟨h1,hm⟩
  split at hm
  . simp at hm
  rename_i h1 h2;exact .inr ⟨h1,h2,hm⟩
 have hnew:∀k b,b∈L' k->b<w'.heap.size/\w0.lo b/\¬J.F b/\(∀k',k'∉ks->b∉J.L k')/\∀kb c,get s.bx kb=some c->b≠J.B kb:=fun k b hm=>by
  obtain ⟨g1,g2⟩:=hlo k b hm;have g2:w.heap.size<=b\/∃k,k∈ks/\b∈J.L k:=g2.imp id fun h=>(hL b).1 h
  refine ⟨g1,g2.elim (fun h=> .inl (by omega)) fun ⟨k,_,h⟩=>(hrel.lo k b h).1,fun hF=> ?_,fun k' hk' hm'=> ?_,fun kb c hkb e=> ?_⟩
  . rcases g2 with h | ⟨k,_,h⟩
    . have:=(hrel.fl b hF).1;omega
    exact (hrel.lo k b h).2.2 hF
  . rcases g2 with h | ⟨k,hk,h⟩
    . have:=(hrel.lo k' b hm').2.1;omega
    exact hk' (by rw[hrel.dj k' k b hm' h];exact hk)
  obtain ⟨_,_,h3,arr,ty,h4,_⟩:=hrel.bo kb c hkb;subst e;rcases g2 with h | ⟨k,_,h⟩
  . have:=Q2 h4;omega
  exact h3 k h
 refine ⟨v,J',rfl,hrel.upd (some d) (fun d' e=>by cases e;exact hd) _ v (hrel.below.step hos hta hou hsz fun b hb hn=>hS b hb fun j hm=>by
  obtain ⟨k,_,hm⟩:=hin b j hm;exact hn (hrel.lo k b hm).1)
  ⟨fun b hb=>⟨hb,hsame b hb⟩,fun k hk=> ?_,fun k hk b hm=> ?_,fun k k' hk=> ?_,fun k t hk=> ?_,(fun _ _=>rfl),fun k d1 m i o cs1 hk=>by
   rw[Ar] at hk;split at hk<;>cases hk⟩
  ⟨fun b hb=>⟨by have:=(hrel.fl b hb).1;omega,(hrel.fl b hb).2⟩,fun b hb=>hrel.f0 b hb,fun k=> ?_,fun k b hm=> ?_,fun k k' b hm hm'=> ?_⟩ (fun _=> ?_) (fun k c hk hne=> ?_) (fun k c hk=>by cases hk)⟩
 . rw[Ar] at hk;split at hk
   . cases hk
   rename_i h1;have h3:k∉Yf d (Ql r.cells):=fun h=>h1 (.inl h)
   have h4:k∉ks:=fun h=>h1 (.inr h)
   exact ⟨by show (if _ then _ else _)=_;rw[if_neg h3,if_neg h4],hkeep k h4⟩
 . rw[Ar] at hk;split at hk<;>cases hk
 . rw[Ar] at hk;split at hk<;>cases hk
 . rw[Ar] at hk;split at hk<;>cases hk
 . show (if _ then _ else _:List Nat).Nodup;split
   . exact hnd _
   split
   . simp
   exact hrel.nd k
 . rcases hLL k b hm with ⟨_,hm⟩ | ⟨_,h2,hm⟩
   . obtain ⟨g1,g2,g4,_⟩:=hnew _ b hm;exact ⟨g2,g1,g4⟩
   obtain ⟨g1,g2,g3⟩:=hrel.lo k b hm;exact ⟨g1,by omega,g3⟩
 . rcases hLL k b hm with ⟨h1,hm1⟩ | ⟨h1,h2,hm1⟩<;>rcases hLL k' b hm' with ⟨h3,hm3⟩ | ⟨h3,h4,hm3⟩
   . have:=hdj _ _ b hm1 hm3;obtain ⟨j,_,rfl⟩:=Wu.1 h1;obtain ⟨j',_,rfl⟩:=Wu.1 h3;omega
   . exact ((hnew _ b hm1).2.2.2.1 k' h4 hm3).elim
   . exact ((hnew _ b hm3).2.2.2.1 k h2 hm1).elim
   exact hrel.dj k k' b hm1 hm3
 . refine AR.map (Pu d) hr fun u c hc hcr=> ?_
   have hbk':=K6 hown c hc;cases c with
   | int | bool | str=>exact hcr
   | slc t n l=>
     cases t with
     | own b k=>
       cases b with
       | false=>cases hbk'
       | true=>
         show OwnDeep (if 64*d+k∈Yf d (Ql r.cells) then L' (64*d+k-64*d) else _) w' u _ _;rw[if_pos (Wu.2 ⟨k,Dt hc rfl,rfl⟩),Nat.add_sub_cancel_left];exact hcr
     | _=>cases hbk'
   | _=>cases hbk'
 obtain ⟨_,g2,g3,arr,e,g4,_⟩:=hrel.bo k c hk
 refine ⟨by simp,g2,fun k' hm=> ?_,hS _ (Q2 g4) fun j hm=>by
  obtain ⟨k',_,hm⟩:=hin _ j hm;exact g3 k' hm⟩
 rcases hLL k' _ hm with ⟨_,hm⟩ | ⟨_,_,hm⟩
 . exact (hnew _ _ hm).2.2.2.2 k c hk rfl
 exact g3 k' hm
theorem OG {orc:Orc} {o:Oper} {avs:List AV} {r:Res} {obs:List Ob} (h:Qai orc o.dst o.op avs=some (r,obs)) (hob:AllOb (X9 P w0) (Z8 P w0) obs) (hdst:∀d,o.dst=some d->d<N)
 (hrel:Rel N w0 F0 J a w s) (hops:All2 (fun x v=>Pp s x=some v) o.op.operands.toList avs) {K:Act->World->Prop} {Q:Exit->Act->World->Prop}
 (hK:∀J' a' w',Rel N w0 F0 J' a' w' (s.step o.dst r)->K a' w'):o.wp P a w K Q:=by
 have hv:=Un hrel hops;generalize ho:o.op=op at h hv;generalize hd:o.dst=dst at h;unfold Qai at h;split at h
 rotate_left
 . cases h
 rename_i x args tys f avs;have hv':All2 (fun x v=>AR J w (a.eval x) v) (x::args.toList) (.one (.fn f [])::avs):=by simpa [Op.operands,Call.operands] using hv
 obtain ⟨args⟩:=args;have hv':All2 (fun x v=>AR J w (a.eval x) v) (x::args) (.one (.fn f [])::avs):=hv';cases hv' with
 | cons hx hrest=>
 have hx:a.eval x= .func (.func f) #[] #[]:=by simpa [AR,CR] using hx
 have hvals:(({toList:=args}:Array Operand).map a.eval++ #[])=(args.map a.eval).toArray:=by
  apply Array.ext';simp
 split at h
 rotate_left
 . cases h
 rename_i ks r' d;cases hc:(Vy ks&&Vm (CP ks) (X5 avs)&&Vm Qcr r'.cells&&Vm Pv r'.cells&&Vy (Ql r'.cells)) with
 | false=>rw[hc] at h;cases h
 | true=>
   rw[hc] at h;simp only[cond_true,Option.some.injEq,Prod.mk.injEq] at h;obtain ⟨rfl,rfl⟩:=h;simp only[Bool.and_eq_true] at hc;obtain ⟨⟨⟨⟨c0,c5⟩,c1⟩,c2⟩,_⟩:=hc;have c0:=Um.1 c0;obtain ⟨hfn,hcall⟩:FE P w0 f (avs.map (AV.map (Qcu ks))) r':=hob
   let F:Nat->Prop:=fun z=>J.F z\/∃k,k∉ks/\z∈J.L k
   have hLm:∀j x,x∈ZV J ks 40 j->∃k,k∈ks/\x∈J.L k:=fun j x hx=>XE hx
   have hC:=hcall w hrel.below F (ZV J ks 40) (args.map a.eval) (fun z ⟨j,hz⟩=>by obtain ⟨k,_,hm⟩:=hLm j z hz;exact (hrel.lo k z hm).1)
    ⟨fun z (hz:J.F z\/_)=>hz.elim (fun h=>(hrel.fl z h).1) fun ⟨k,_,hm⟩=>(hrel.lo k z hm).2.1,fun k=>FN hrel ks 40 k,fun j z hz=>by
     obtain ⟨k,hk,hm⟩:=hLm j z hz;exact ⟨(hrel.lo k z hm).2.1,fun (hF:J.F z\/_)=>hF.elim (hrel.lo k z hm).2.2 fun ⟨k',hn,hm'⟩=>hn (by rw[hrel.dj k' k z hm' hm];exact hk)⟩,fun j j' z h1 h2=>FO hrel c0 h1 h2⟩
    (ZW hrel (F:=F) (fun z hz=>Or.inl hz) (fun k z hn hm=>Or.inr ⟨k,hn,hm⟩) (All2.of_map _ hrest) c5)
   refine Cm ho hx hfn ?_;rw[hvals];refine hC.mono fun e w' hret=> ?_
   obtain ⟨v,J',rfl,hR⟩:=OF hrel d (hdst d hd) (fun z=>⟨fun ⟨j,hm⟩=>hLm j z hm,fun ⟨k,h1,h2⟩=>⟨_,by rw[WT h1];exact h2⟩⟩) c1 c2 hret;rw[hd] at hK⊢;exact hK J' _ _ hR
end
end
section
open Go.RowKit
def P5 (tt : List (Nat × TI)) (orc : Orc) : Op → List AV → Option (AV × List Ob)
  | .slice t _ none hi none, .one (.slc (.own false k) n l) :: r =>
    (match orc, get tt t with
    | .cut l', some ⟨.sli e, _, _, _⟩ => (match get tt e, Dq l.length hi r with
      | some ei, some (b, []) => bif Nat.beq ei.size n then some (.one (.slc (.own false k) n l'), [.eq (.one (.slc (.own false k) n ((l.take b.toNat).drop (Int.toNat 0)))) (.one (.slc (.own false k) n l')), .rng 0 b l.length]) else none
      | _, _ => none)
    | _, _ => none)
  | _, _ => none
section
variable {P : Program} {A : Nat → List AV → AV → Prop} {T : TakeT} {J : Inj} {w : World}
theorem OwnTop.cut {F : Nat → Prop} {L : List Nat} {oa : Option Addr} {m cap n b : Nat} {l : List (List PV)} (h : OwnTop F L w (.slice oa m cap) n l) (hb : b ≤ l.length) (hm : m = l.length) :
    OwnTop F L w (.slice oa b cap) n (l.take b) := by
  rcases h with ⟨rfl, oa', e⟩ | ⟨g, c, cur, e, hL, e1, hg, hs, hr, h1, h2⟩
  · have hb0 : b = 0 := by simpa using hb
    have := (Value.slice.inj e)
    obtain ⟨e1, e2, e3⟩ := this
    subst hb0
    exact .inl ⟨by simp, oa, by rw [e3]⟩
  obtain ⟨e1, e2, e3⟩ := Value.slice.inj e1
  subst e1 e3
  have hlb : (l.take b).length = b := by simp; omega
  refine .inr ⟨g, cap, cur, e, hL, by rw [hlb], hg, hs, ?_, by omega, ⟨h2.1, by have := h2.2; omega⟩⟩
  have := hr.take b
  rw [hlb]
  rwa [List.take_take, Nat.min_eq_left (Nat.mul_le_mul_right n hb)] at this
theorem CQ {tt : List (Nat × TI)} (htt : Aq P tt = true) {orc : Orc} {op : Op} {avs : List AV} {v : AV} {obs : List Ob} (h : P5 tt orc op avs = some (v, obs)) (hob : AllOb A T obs)
    {o : Oper} (ho : o.op = op) {ρ : Operand → Value} (hv : All2 (fun x v => AR J w (ρ x) v) op.operands.toList avs) :
    ∃ u, (execOp ρ o).run P w = .ok (.value u) w ∧ AR J w u v := by
  unfold P5 at h
  split at h
  · rename_i t px hi k n l r
    split at h
    · rename_i l' e n' z q hg
      split at h
      · rename_i ei b hge hhi
        cases hsz : Nat.beq ei.size n with
        | false => rw [hsz] at h; cases h
        | true =>
          rw [hsz] at h
          obtain ⟨rfl, rfl⟩ : AV.one (.slc (.own false k) n l') = v ∧ [Ob.eq (.one (.slc (.own false k) n ((l.take b.toNat).drop (Int.toNat 0)))) (.one (.slc (.own false k) n l')), Ob.rng 0 b l.length] = obs := by simpa using h
          obtain ⟨heq, hob⟩ := AllOb.cons hob
          have heq : AV.one (.slc (.own false k) n ((l.take b.toNat).drop (Int.toNat 0))) = .one (.slc (.own false k) n l') := heq
          obtain ⟨_, hab, hbl⟩ : (0 : Int) ≤ 0 ∧ 0 ≤ b ∧ b ≤ l.length := hob
          have hu := (Zb htt hg).sli
          have hs := Ac (P := P) (Zb htt hge) w
          have hn : ei.size = n := by simpa using hsz
          have hv' : All2 (fun x v => AR J w (ρ x) v) (px :: (hi.toArray.toList ++ [])) (.one (.slc (.own false k) n l) :: r) := by simpa [Op.operands] using hv
          cases hv' with
          | cons h1 h2 =>
            obtain ⟨_, hhic⟩ := B0 hhi h2
            have h1 : CR J w (ρ px) (.slc (.own false k) n l) := h1
            obtain ⟨oa, cap, e1, hlc, hcm, hemp⟩ := Iv h1
            have hsb : (Instr.sliceBounds true l.length cap none (hi.map ρ) none).run P w = .ok (0, b.toNat, cap) w := by
              have e3 : ∀ c, (match (hi.map ρ) with | some v => Instr.sliceBound v cap c | none => (pure l.length : Sem Nat)).run P w = .ok b.toNat w := by
                intro c
                rcases hhic with ⟨rfl, rfl⟩ | ⟨x, k, rfl, hx⟩
                · simp
                simp only [Option.map_some, hx]
                exact Iw (by omega) (by omega)
              unfold Instr.sliceBounds
              simp only [Sem.run_bind, Sem.run_pure, Result.andThen_ok]
              have e3' := e3 .sliceAcap
              revert e3'
              cases hi.map ρ <;> simp <;> intro e3' <;> simp_all
            have hrun : (execOp ρ o).run P w = .ok (.value (.slice oa b.toNat cap)) w := by
              have e4 : (if cap = 0 then oa else oa.map (·.add (0 * n))) = oa := by
                split
                · rfl
                cases oa <;> simp [Addr.add]
              simp [execOp, ho, e1, Instr.sliceAt, run_underlying hu, Instr.slice, hsb, hs, hn]
              simpa using e4
            refine ⟨_, hrun, ?_⟩
            rw [← heq]
            have h1 : OwnTop J.F (J.L k) w (ρ px) n l := h1
            rw [e1] at h1
            have h3 := h1.cut (b := b.toNat) (by omega) rfl
            show OwnTop J.F (J.L k) w _ n ((l.take b.toNat).drop (Int.toNat 0))
            simpa using h3
      cases h
    cases h
  cases h
end
end
section
open Go.RowKit
def B2 (k : Nat) : C → Option (Nat × List (List PV))
  | .slc (.own true k') n l => bif Nat.beq k k' then some (n, l) else none
  | _ => none
def P6 (k : Nat) : List C → List (Nat × List (List PV))
  | [] => []
  | c :: r => match B2 k c with
    | some x => x :: P6 k r
    | none => P6 k r
def Gi (k : Nat) : List (Nat × AV) → List (Nat × List (List PV))
  | [] => []
  | p :: r => P6 k p.2.cells ++ Gi k r
def Te (k : Nat) : List (Nat × List C) → List (Nat × List (List PV))
  | [] => []
  | p :: r => P6 k p.2 ++ Te k r
def P7 (s : St) (k : Nat) : List (Nat × List (List PV)) := Gi k s.tm ++ Te k s.bx
def XF (t q th : Nat) (r : List PV) (s : St) : Option (Res × List Ob) :=
  match get s.tm t, get s.tm q, get s.tm th with
  | some (.one (.raw v)), some (.one (.ept true k n i o (.raw v' :: _))), some (.one (.slc (.own true k') n' l)) =>
    (match r.drop o, P7 s k with
    | .slc n2 l2 :: _, [_] => bif Nat.beq n n' && Nat.beq k k' && Nat.blt o 4294967296 && !(Nat.beq k (64 * t)) then
        some (⟨.one (.slc (.own true (64 * t)) n2 l2), [(k, some (.put true n i o [.any])), (64 * t, none)], none, none⟩, [.elem l (i : Int) r, .eq (.one (.raw v)) (.one (.raw v'))]) else none
    | _, _ => none)
  | _, _, _ => none
theorem Db {k : Nat} {x : Nat × List (List PV)} {c : C} (hc : B2 k c = some x) : ∀ {cs : List C}, c ∈ cs → x ∈ P6 k cs
  | [], h => by cases h
  | b :: r, h => by
    simp only [P6]
    rcases List.mem_cons.1 h with rfl | h
    · rw [hc]; exact List.mem_cons_self
    cases B2 k b with
    | some y => exact List.mem_cons_of_mem _ (Db hc h)
    | none => exact Db hc h
theorem Dc {k : Nat} {x : Nat × List (List PV)} {c : C} (hc : B2 k c = some x) {t : Nat} {v : AV} : ∀ {tm : List (Nat × AV)}, get tm t = some v → c ∈ v.cells → x ∈ Gi k tm
  | [], h, _ => by cases h
  | (u, a) :: r, h, hm => by
    simp only [get] at h
    simp only [Gi, List.mem_append]
    split at h
    · obtain rfl := Option.some.inj h
      exact .inl (Db hc hm)
    exact .inr (Dc hc h hm)
theorem Ms {k : Nat} {x : Nat × List (List PV)} {c : C} (hc : B2 k c = some x) {t : Nat} {v : List C} : ∀ {tm : List (Nat × List C)}, get tm t = some v → c ∈ v → x ∈ Te k tm
  | [], h, _ => by cases h
  | (u, a) :: r, h, hm => by
    simp only [get] at h
    simp only [Te, List.mem_append]
    split at h
    · obtain rfl := Option.some.inj h
      exact .inl (Db hc hm)
    exact .inr (Ms hc h hm)
def St.has (s : St) (c : C) : Prop := (∃ t v, get s.tm t = some v ∧ c ∈ v.cells) ∨ ∃ t v, get s.bx t = some v ∧ c ∈ v
theorem St.has.hold {s : St} {c : C} (h : s.has c) {k : Nat} {x : Nat × List (List PV)} (hc : B2 k c = some x) : x ∈ P7 s k := by
  rcases h with ⟨t, v, h1, h2⟩ | ⟨t, v, h1, h2⟩
  · exact List.mem_append_left _ (Dc hc h1 h2)
  exact List.mem_append_right _ (Ms hc h1 h2)
def Uniq (s : St) (k th : Nat) : Prop := (∀ t v c x, get s.tm t = some v → c ∈ v.cells → B2 k c = some x → t = th) ∧ ∀ t v c x, get s.bx t = some v → c ∈ v → B2 k c ≠ some x
theorem Uniq.eqv {s s' : St} {k th : Nat} (h : Uniq s k th) (he : s.eqv s') : Uniq s' k th := ⟨fun t v c x h1 => h.1 t v c x ((he.1 t).trans h1), fun t v c x h1 => h.2 t v c x ((he.2 t).trans h1)⟩
theorem Tf {k : Nat} {x y : Nat × List (List PV)} {c d : C} (hc : B2 k c = some x) (hd : B2 k d = some y) {t u : Nat} (htu : t ≠ u) {v w : AV} : ∀ {tm : List (Nat × AV)}, get tm t = some v → c ∈ v.cells → get tm u = some w → d ∈ w.cells → 2 ≤ (Gi k tm).length
  | [], h, _, _, _ => by cases h
  | (z, a) :: r, h, hm, h', hm' => by
    simp only [get] at h h'
    simp only [Gi, List.length_append]
    have pos : ∀ {c : C} {x : Nat × List (List PV)} {cs : List C}, B2 k c = some x → c ∈ cs → 1 ≤ (P6 k cs).length := fun h1 h2 => List.length_pos_of_mem (Db h1 h2)
    by_cases h1 : z = t
    · subst h1
      rw [if_pos rfl] at h
      obtain rfl := Option.some.inj h
      rw [if_neg htu] at h'
      have e1 := pos hc hm
      have e2 : 1 ≤ (Gi k r).length := List.length_pos_of_mem (Dc hd h' hm')
      omega
    rw [if_neg h1] at h
    by_cases h2 : z = u
    · subst h2
      rw [if_pos rfl] at h'
      obtain rfl := Option.some.inj h'
      have e1 := pos hd hm'
      have e2 : 1 ≤ (Gi k r).length := List.length_pos_of_mem (Dc hc h hm)
      omega
    rw [if_neg h2] at h'
    have := Tf hc hd htu h hm h' hm'
    omega
theorem Qak {s : St} {k th : Nat} {c : C} {x : Nat × List (List PV)} (hc : B2 k c = some x) (hth : get s.tm th = some (.one c)) (h1 : (P7 s k).length = 1) : Uniq s k th := by
  have e1 : 1 ≤ (Gi k s.tm).length := List.length_pos_of_mem (Dc hc hth (by simp [AV.cells]))
  have e2 : (P7 s k).length = (Gi k s.tm).length + (Te k s.bx).length := by simp [P7]
  refine ⟨fun t v c' x' g1 g2 g3 => Classical.byContradiction fun hne => ?_, fun t v c' x' g1 g2 g3 => ?_⟩
  · have := Tf hc g3 (fun e => hne e.symm) hth (by simp [AV.cells]) g1 g2
    omega
  have : 1 ≤ (Te k s.bx).length := List.length_pos_of_mem (Ms g3 g1 g2)
  omega
/-! ### the blocks of an owned value are those that memory says -/
section
variable {w w' : World}
mutual
theorem OV.least : ∀ {L : List Nat} {v : Value} {p : PV}, OV w L v p → ∃ M, OV w M v p ∧ M.Sublist L ∧ ∀ L', OV w L' v p → ∀ b, b ∈ M → b ∈ L'
  | _, _, _, .int h => ⟨[], .int h, List.Sublist.refl _, fun _ _ _ hb => by cases hb⟩
  | _, _, _, .bool b => ⟨[], .bool b, List.Sublist.refl _, fun _ _ _ hb => by cases hb⟩
  | _, _, _, .str h => ⟨[], .str h, List.Sublist.refl _, fun _ _ _ hb => by cases hb⟩
  | _, _, _, .emp oa n => ⟨[], .emp oa n, List.Sublist.refl _, fun _ _ _ hb => by cases hb⟩
  | _, _, _, .any h1 h2 => ⟨[], .any h1 h2, List.Sublist.refl _, fun _ _ _ hb => by cases hb⟩
  | _, _, _, .raw h1 h2 => ⟨[], .raw h1 h2, List.Sublist.refl _, fun _ _ _ hb => by cases hb⟩
  | _, _, _, @OV.slc _ g cap n cur e L l hg hs hr h1 h2 => by
    by_cases hc : cap = 0
    · subst hc
      obtain rfl : l = [] := List.length_eq_zero_iff.1 (by omega)
      exact ⟨[], .emp _ n, by simp, fun _ _ _ hb => by cases hb⟩
    obtain ⟨M, m1, m2, m3⟩ := OR.least hr
    refine ⟨g :: M, .slc hg hs m1 h1 h2, m2.cons_cons g, fun L' h b hb => ?_⟩
    generalize hv : Value.slice (some ⟨g, 0, none⟩) l.length cap = v at h
    generalize hp : PV.slc n l = p at h
    cases h with
    | emp => injection hv with _ _ e; exact absurd e hc
    | int | bool | str | any | raw => cases hp
    | @slc g9 cap9 n9 cur9 e9 L9 l9 hg' hs' hr' h1' h2' =>
      cases hp
      obtain ⟨rfl, rfl⟩ : g = g9 ∧ cap = cap9 := by simpa using hv
      obtain ⟨rfl, rfl⟩ : _ ∧ _ := by simpa using Option.some.inj (hg.symm.trans hg')
      rcases List.mem_cons.1 hb with rfl | hb
      · exact List.mem_cons_self
      exact List.mem_cons_of_mem _ (m3 _ hr' b hb)
theorem OC.least : ∀ {L : List Nat} {vs : List Value} {ps : List PV}, OC w L vs ps → ∃ M, OC w M vs ps ∧ M.Sublist L ∧ ∀ L', OC w L' vs ps → ∀ b, b ∈ M → b ∈ L'
  | _, _, _, .nil => ⟨[], .nil, List.Sublist.refl _, fun _ _ _ hb => by cases hb⟩
  | _, _, _, .cons h1 h2 => by
    obtain ⟨M1, a1, a2, a3⟩ := OV.least h1
    obtain ⟨M2, b1, b2, b3⟩ := OC.least h2
    refine ⟨M1 ++ M2, .cons a1 b1, a2.append b2, fun L' h b hb => ?_⟩
    cases h with
    | cons h1' h2' =>
      rcases List.mem_append.1 hb with hb | hb
      · exact List.mem_append_left _ (a3 _ h1' b hb)
      exact List.mem_append_right _ (b3 _ h2' b hb)
theorem OR.least : ∀ {n : Nat} {L : List Nat} {cs : List Value} {l : List (List PV)}, OR w n L cs l → ∃ M, OR w n M cs l ∧ M.Sublist L ∧ ∀ L', OR w n L' cs l → ∀ b, b ∈ M → b ∈ L'
  | _, _, _, _, .nil n => ⟨[], .nil n, List.Sublist.refl _, fun _ _ _ hb => by cases hb⟩
  | _, _, _, _, .cons (ce := ce) (cs := cs) (r := r) (l := l) h1 h2 h3 => by
    obtain ⟨M1, a1, a2, a3⟩ := OC.least h1
    obtain ⟨M2, b1, b2, b3⟩ := OR.least h3
    refine ⟨M1 ++ M2, .cons a1 h2 b1, a2.append b2, fun L' h b hb => ?_⟩
    generalize hq : ce ++ cs = q at h
    cases h with
    | @cons n' L1' L2' ce' cs' r' l' h1' h2' h3' =>
      obtain ⟨rfl, rfl⟩ := List.append_inj hq (by rw [OC.length h1, OC.length h1'])
      rcases List.mem_append.1 hb with hb | hb
      · exact List.mem_append_left _ (a3 _ h1' b hb)
      exact List.mem_append_right _ (b3 _ h3' b hb)
end
theorem OV.anyOf {L : List Nat} {v : Value} {p : PV} (h : OV w L v p) : OV w' [] v .any := by
  cases h with
  | any h1 h2 => exact .any h1 h2
  | raw h1 h2 => exact .any h1 h2
  | _ => exact .any rfl rfl
theorem OC.hole : ∀ (o : Nat) {L : List Nat} {vs : List Value} {ps : List PV} {p : PV}, OC w L vs ps → ps[o]? = some p → ∃ v A M B, vs[o]? = some v ∧ L = A ++ (M ++ B) ∧ OV w M v p ∧ OC w (A ++ B) vs (ps.take o ++ [.any] ++ ps.drop (o + 1))
  | _, _, _, _, _, .nil, h => by simp at h
  | 0, _, _, _, _, .cons (L1 := L1) (L2 := L2) (v := v) h1 h2, h => by
    obtain rfl := Option.some.inj h
    exact ⟨v, [], L1, L2, rfl, rfl, h1, OC.cons (L1 := []) h1.anyOf h2⟩
  | o + 1, _, _, _, _, .cons (L1 := L1) (L2 := L2) h1 h2, h => by
    obtain ⟨v, A, M, B, e1, rfl, h3, h4⟩ := OC.hole o h2 (by simpa using h)
    refine ⟨v, L1 ++ A, M, B, by simpa using e1, by simp, h3, ?_⟩
    rw [List.append_assoc]
    exact OC.cons h1 h4
theorem OR.hole : ∀ {n : Nat} {L : List Nat} {cs : List Value} {l : List (List PV)}, OR w n L cs l → ∀ {i o : Nat} {r : List PV} {p : PV}, l[i]? = some r → r[o]? = some p → ∃ v A M B, cs[i * n + o]? = some v ∧ L = A ++ (M ++ B) ∧ OV w M v p ∧ OR w n (A ++ B) cs (setRow l i o [.any])
  | _, _, _, _, .nil _, i, _, _, _, h, _ => by simp at h
  | n, _, _, _, .cons (ce := ce) (cs := cs) (L1 := L1) (L2 := L2) h1 h2 h3, 0, o, _, p, h, hp => by
    obtain rfl := Option.some.inj h
    obtain ⟨v, A, M, B, e1, rfl, h4, h5⟩ := OC.hole o h1 hp
    have hlt := (List.getElem?_eq_some_iff.1 e1).1
    have hlt2 := (List.getElem?_eq_some_iff.1 hp).1
    refine ⟨v, A, M, B ++ L2, ?_, by simp, h4, ?_⟩
    · rw [Nat.zero_mul, Nat.zero_add, List.getElem?_append_left hlt]; exact e1
    rw [← List.append_assoc]
    refine .cons h5 ?_ h3
    simp; omega
  | n, _, _, _, .cons (ce := ce) (cs := cs) (L1 := L1) (L2 := L2) h1 h2 h3, i + 1, o, _, p, h, hp => by
    obtain ⟨v, A, M, B, e1, rfl, h4, h5⟩ := OR.hole h3 (i := i) (by simpa using h) hp
    have hl := OC.length h1
    refine ⟨v, L1 ++ A, M, B, ?_, by simp, h4, ?_⟩
    · have : (i + 1) * n + o = ce.length + (i * n + o) := by rw [hl, h2, Nat.add_mul, Nat.one_mul]; omega
      rw [this, List.getElem?_append_right (by omega)]
      simpa using e1
    rw [List.append_assoc]
    exact .cons h1 h2 h5
theorem OwnDeep.hole {L : List Nat} {v : Value} {n : Nat} {l : List (List PV)} (h : OwnDeep L w v n l) {i o : Nat} {r : List PV} {p : PV} (hi : l[i]? = some r) (ho : r[o]? = some p) :
    ∃ g rest cur e u M, L = g :: rest ∧ w.heap[g]? = some (.cells cur e (0, 0)) ∧ cur.toList[i * n + o]? = some u ∧ OV w M u p ∧ M.Nodup ∧ g ∉ M ∧ (∀ b, b ∈ M → b ∈ rest) ∧
      ∀ v', OwnDeep L w v' n l → ∀ K, (∀ b, b ∈ L → b ∉ M → b ∈ K) → (∃ r', K = g :: r') → OwnDeep K w v' n (setRow l i o [.any]) := by
  have key : ∀ v', OwnDeep L w v' n l → ∃ g rest cap cur e u A M B, v' = .slice (some ⟨g, 0, none⟩) l.length cap ∧ L = g :: rest ∧ w.heap[g]? = some (.cells cur e (0, 0)) ∧ cur.size = cap * n ∧ l.length ≤ cap ∧ Cap l.length cap ∧ (cur.toList.take (l.length * n))[i * n + o]? = some u ∧ OV w M u p ∧
      OR w n (A ++ (M ++ B)) (cur.toList.take (l.length * n)) l ∧ (g :: (A ++ (M ++ B))).Nodup ∧ (∀ b, b ∈ A ++ (M ++ B) → b ∈ L) ∧ OR w n (A ++ B) (cur.toList.take (l.length * n)) (setRow l i o [.any]) := by
    intro v' h
    obtain ⟨L', h1, h2, h3, h4⟩ := h
    generalize hp : PV.slc n l = q at h1
    cases h1 with
    | int | bool | str | any | raw => cases hp
    | emp => cases hp; simp at hi
    | @slc g cap n' cur e L1 l' hg hs hr h5 h6 =>
      cases hp
      rcases h4 with h4 | ⟨g2, q1, q2, e3, e4⟩
      · cases h4
      cases e3
      obtain ⟨u, A, M, B, e1, rfl, h7, h8⟩ := hr.hole hi ho
      exact ⟨g, q2, cap, cur, e, u, A, M, B, rfl, e4, hg, hs, h5, h6, e1, h7, hr, h2, fun b hb => h3 b (List.mem_cons_of_mem _ hb), h8⟩
  obtain ⟨g, rest, cap, cur, e, u, A, M, B, rfl, rfl, hg, hs, h5, h6, e1, h7, hr, hnd, hsub, h8⟩ := key v h
  obtain ⟨n1, n2⟩ := List.nodup_cons.1 hnd
  obtain ⟨M0, k1, k2, k3⟩ := h7.least
  have hgM : g ∉ M0 := fun hm => n1 (by simp [k2.subset hm])
  obtain ⟨_, m2, _⟩ := List.nodup_append.1 n2
  have m1 : M0.Nodup := k2.nodup (List.nodup_append.1 m2).1
  refine ⟨g, rest, cur, e, u, M0, rfl, hg, ?_, k1, m1, hgM, fun b hb => ?_, fun v' hv' K hK hKg => ?_⟩
  · rw [List.getElem?_take] at e1
    split at e1
    · exact e1
    cases e1
  · rcases List.mem_cons.1 (hsub b (by simp [k2.subset hb])) with rfl | h
    · exact absurd hb hgM
    exact h
  obtain ⟨g', rest', cap', cur', e', u', A', M', B', rfl, hL', hg', hs', h5', h6', e1', h7', hr', hnd', hsub', h8'⟩ := key v' hv'
  obtain ⟨rfl, rfl⟩ : g = g' ∧ rest = rest' := by simpa using hL'
  obtain ⟨rfl, rfl⟩ : cur = cur' ∧ e = e' := by simpa using Option.some.inj (hg.symm.trans hg')
  obtain rfl : u = u' := Option.some.inj (e1.symm.trans e1')
  have hin : ∀ b, b ∈ M0 → b ∈ M' := fun b hb => k3 _ h7' b hb
  obtain ⟨n1', n2'⟩ := List.nodup_cons.1 hnd'
  obtain ⟨a1, a2, a3⟩ := List.nodup_append.1 n2'
  obtain ⟨_, a4, a5⟩ := List.nodup_append.1 a2
  have hl2 := Fv o [.any] l i
  obtain ⟨r', rfl⟩ := hKg
  refine ⟨g :: (A' ++ B'), ?_, List.nodup_cons.2 ⟨fun hm => n1' ?_, ?_⟩, fun b hb => ?_, .inr ⟨g, _, r', rfl, rfl⟩⟩
  · have := OV.slc (n := n) (cap := cap') (l := setRow l i o [.any]) hg hs' (by rw [hl2]; exact h8') (by rw [hl2]; exact h5') (by rw [hl2]; exact h6')
    rw [hl2] at this
    exact this
  · rcases List.mem_append.1 hm with hm | hm
    · exact List.mem_append_left _ hm
    exact List.mem_append_right _ (List.mem_append_right _ hm)
  · exact List.nodup_append.2 ⟨a1, a4, fun x hx y hy => a3 x hx y (List.mem_append_right _ hy)⟩
  rcases List.mem_cons.1 hb with rfl | hb
  · exact List.mem_cons_self
  refine hK b ?_ fun hm => ?_
  · rcases List.mem_append.1 hb with hb | hb
    · exact hsub' b (List.mem_append_left _ hb)
    exact hsub' b (List.mem_append_right _ (List.mem_append_right _ hb))
  rcases List.mem_append.1 hb with hb | hb
  · exact a3 b hb b (List.mem_append_left _ (hin b hm)) rfl
  exact a5 b (hin b hm) b hb rfl
end
/-! ### a step whose cells are turned one by one -/
section
variable {P : Program} {N : Nat} {w0 : Base} {F0 : Nat → Prop} {J J' : Inj} {a : Act} {w w' : World} {s : St}
theorem Rel.turn (h : Rel N w0 F0 J a w s) (d : Nat) (av : AV) (rl : List (Nat × Option Tok)) (hrl : rl ≠ []) (hB : J'.B = J.B) (hF : ∀ b, J'.F b ↔ J.F b)
    (hm : ∀ c, s.has c → ∀ u, CR J w u c → CR J' w u (Jq rl none c)) (hn : Names w0 F0 J' w) (hv : AR J' w (a.tmps.getD d undef) av) (hbx : ∀ k c, get s.bx k = some c → ∀ k', J.B k ∉ J'.L k') :
    Rel N w0 F0 J' a w (s.step (some d) ⟨av, rl, none, none⟩) := by
  have hst : s.step (some d) ⟨av, rl, none, none⟩ = ⟨ins d av (s.map (Jq rl none)).tm, (s.map (Jq rl none)).bx⟩ := by
    cases rl with
    | nil => exact absurd rfl hrl
    | cons x r => rfl
  rw [hst]
  refine { below := h.below, nodef := h.nodef, size := h.size, fl := hn.fl, f0 := hn.f0, nd := hn.nd, lo := hn.lo, dj := hn.dj, bo := ?_, nb := h.nb, cb := fun b hb => by rw [hB]; exact h.cb b hb, bi := ?_, tm := ?_ }
  · intro k c hk
    simp only [St.map, Ho (List.map _)] at hk
    obtain ⟨y, hy, rfl⟩ := Option.map_eq_some_iff.1 hk
    obtain ⟨h4, h5, _, arr, e, h6, h7⟩ := h.bo k y hy
    rw [hB]
    exact ⟨h4, fun hf => h5 ((hF _).1 hf), hbx k y hy, arr, e, h6, h7.map _ fun u c hc hr => hm c (.inr ⟨k, y, hy, hc⟩) u hr⟩
  · intro k k' c c' hk hk' e
    simp only [St.map, Ho (List.map _)] at hk hk'
    obtain ⟨y, hy, rfl⟩ := Option.map_eq_some_iff.1 hk
    obtain ⟨y', hy', rfl⟩ := Option.map_eq_some_iff.1 hk'
    rw [hB] at e
    exact h.bi k k' y y' hy hy' e
  intro t x hx
  simp only [Mk] at hx
  by_cases hdt : d = t
  · rw [if_pos hdt] at hx
    obtain rfl := Option.some.inj hx
    exact hdt ▸ hv
  rw [if_neg hdt] at hx
  simp only [St.map, Ho (AV.map _)] at hx
  obtain ⟨y, hy, rfl⟩ := Option.map_eq_some_iff.1 hx
  exact AR.map _ (h.tm t y hy) fun u c hc hr => hm c (.inl ⟨t, y, hy, hc⟩) u hr
structure Ghost (t q th : Nat) (r : List PV) (s : St) (g : Res) (obs : List Ob) : Prop where
  ok : ∃ v k n i o v' cs l n2 l2 tl, get s.tm t = some (.one (.raw v)) ∧ get s.tm q = some (.one (.ept true k n i o (.raw v' :: cs))) ∧ get s.tm th = some (.one (.slc (.own true k) n l)) ∧ r.drop o = .slc n2 l2 :: tl ∧ Uniq s k th ∧ o < 4294967296 ∧ k ≠ 64 * t ∧
    g = ⟨.one (.slc (.own true (64 * t)) n2 l2), [(k, some (.put true n i o [.any])), (64 * t, none)], none, none⟩ ∧ obs = [.elem l (i : Int) r, .eq (.one (.raw v)) (.one (.raw v'))]
theorem OH {t q th : Nat} {r : List PV} {g : Res} {obs : List Ob} (h : XF t q th r s = some (g, obs)) : Ghost t q th r s g obs := by
  unfold XF at h
  split at h
  rotate_left
  · cases h
  rename_i v k n i o v' cs k' n' l h1 h2 h3
  split at h
  rotate_left
  · cases h
  rename_i n2 l2 tl x hdr hh
  cases hc : (Nat.beq n n' && Nat.beq k k' && Nat.blt o 4294967296 && !(Nat.beq k (64 * t))) with
  | false => rw [hc] at h; cases h
  | true =>
    rw [hc] at h
    simp only [cond_true, Option.some.injEq, Prod.mk.injEq] at h
    obtain ⟨rfl, rfl⟩ := h
    simp only [Bool.and_eq_true, Bool.not_eq_true', Nat.beq_eq, Nat.blt_eq] at hc
    obtain ⟨⟨⟨c1, c0⟩, c2⟩, c3⟩ := hc
    subst c1
    subst c0
    exact ⟨v, k, n, i, o, v', cs, l, n2, l2, tl, h1, h2, h3, hdr, Qak (c := .slc (.own true k) n l) (x := (n, l)) (by simp [B2]) h3 (by rw [hh]; rfl), c2, fun e => by rw [← e] at c3; simp at c3, rfl, rfl⟩
theorem Ghost.eqv {t q th : Nat} {r : List PV} {g : Res} {obs : List Ob} {s' : St} (h : Ghost t q th r s g obs) (he : s.eqv s') : Ghost t q th r s' g obs := by
  obtain ⟨v, k, n, i, o, v', cs, l, n2, l2, tl, h1, h2, h3, h4, h5, h6⟩ := h.ok
  exact ⟨v, k, n, i, o, v', cs, l, n2, l2, tl, (he.1 t).symm.trans h1, (he.1 q).symm.trans h2, (he.1 th).symm.trans h3, h4, h5.eqv he, h6⟩
theorem OI {t q th : Nat} {rr : List PV} {g : Res} {obs : List Ob} {A : Nat → List AV → AV → Prop} {T : TakeT} (h : Ghost t q th rr s g obs) (hob : AllOb A T obs) (hrel : Rel N w0 F0 J a w s) : ∃ J', Rel N w0 F0 J' a w (s.step (some t) g) := by
    obtain ⟨v, k, n, i, o', v', pcs, l, n2, l2, tl, ht, hq, hgt, hdr, hU, c2, hkd, rfl, rfl⟩ := h.ok
    obtain ⟨hob1, hob2⟩ := AllOb.cons hob
    obtain ⟨_, hl⟩ : 0 ≤ (i : Int) ∧ l[(i : Int).toNat]? = some rr := hob1
    have hl : l[i]? = some rr := hl
    have hvv : AV.one (.raw v) = AV.one (.raw v') := hob2
    obtain rfl : v = v' := by simpa using hvv
    have hro : rr[o']? = some (.slc n2 l2) := by
      have := congrArg (·[0]?) hdr
      simpa using this
    have huniq : ∀ c x, s.has c → B2 k c = some x → c = .slc (.own true k) n l := fun c x hc hx => by
      rcases hc with ⟨t', v', h1, h2⟩ | ⟨t', v', h1, h2⟩
      · have e := hU.1 t' v' c x h1 h2 hx
        subst e
        rw [hgt] at h1
        obtain rfl := Option.some.inj h1
        simpa [AV.cells] using h2
      exact absurd hx (hU.2 t' v' c x h1 h2)
    have hput : NF l i o' [.any] = setRow l i o' [.any] := by
      unfold NF
      cases hb : Nat.beq o' 4294967296 with
      | false => rfl
      | true => have := Nat.eq_of_beq_eq_true hb; omega
    have hheld : OwnDeep (J.L k) w _ n l := hrel.tm th _ hgt
    obtain ⟨g, rest, cur, e, u, M, hL, hheap, hu, hM, hMn, hgM, hMs, hhole⟩ := hheld.hole hl hro
    have h1 : CR J w _ (.ept true k n i o' (.raw v :: pcs)) := hrel.tm q _ hq
    obtain ⟨g', rest', vs, hL', e1, hvc, hcell, _⟩ := h1
    have hva : a.tmps.getD t undef = v := (show CR J w _ (.raw v) from hrel.tm t _ ht).1
    obtain ⟨rfl, rfl⟩ : g = g' ∧ rest = rest' := by rw [hL] at hL'; simpa using hL'
    have hMk : ∀ b, b ∈ M → b ∈ J.L k := fun b hb => by rw [hL]; exact List.mem_cons_of_mem _ (hMs b hb)
    let K2 := (J.L k).filter fun b => decide (b ∉ M)
    have hK2 : ∀ b, b ∈ K2 ↔ b ∈ J.L k ∧ b ∉ M := fun b => by simp [K2]
    have hK2g : ∃ r', K2 = g :: r' := ⟨rest.filter fun b => decide (b ∉ M), by simp [K2, hL, hgM]⟩
    let J' : Inj := ⟨J.F, fun x => if x = 64 * t then M else if x = k then K2 else J.L x, J.B⟩
    have hJd : J'.L (64 * t) = M := if_pos rfl
    have hJk : J'.L k = K2 := (if_neg hkd).trans (if_pos rfl)
    have hJx : ∀ x, x ≠ 64 * t → x ≠ k → J'.L x = J.L x := fun x h1 h2 => (if_neg h1).trans (if_neg h2)
    have hget : ∀ x, get [(k, some (Tok.put true n i o' [.any])), (64 * t, none)] x = if x = k then some (some (.put true n i o' [.any])) else if x = 64 * t then some none else none := fun x => by
      by_cases h1 : x = k
      · rw [if_pos h1]; simp [get, h1]
      rw [if_neg h1, Zx h1]
      by_cases h2 : x = 64 * t
      · rw [if_pos h2]; simp [get, h2]
      rw [if_neg h2, Zx h2]; rfl
    have hnew : CR J' w u (.slc (.own true (64 * t)) n2 l2) := by
      show OwnDeep (J'.L (64 * t)) w u n2 l2
      rw [hJd]
      exact .of hM hMn
    have huv : u = v := by
      cases hvc with
      | @cons y _ ys _ g1 g2 =>
        cases g1
        have hc := hcell 0 v rfl
        simp only [World.cell?, hheap] at hc
        have hc : cur[i * n + o' + 0]? = some v := by simpa using hc
        have : cur[i * n + o']? = some u := by simpa using hu
        rw [Nat.add_zero] at hc
        exact Option.some.inj (this.symm.trans hc)
    subst huv
    have stay : ∀ x, x ≠ k → x ≠ 64 * t → J'.L x = J.L x := fun x h1 h2 => hJx x h2 h1
    refine ⟨J', hrel.turn t _ _ (by simp) rfl (fun b => Iff.rfl) (fun c hc u' hcr => ?_) ⟨hrel.fl, hrel.f0, fun x => ?_, fun x b hb => ?_, fun x x' b hb hb' => ?_⟩ (by rw [hva]; exact hnew) fun x c hx y hy => ?_⟩
    ·
      cases c with
      | int | bool | str | raw | dead => exact hcr
      | slc t n' l' =>
        cases t with
        | sh => exact hcr
        | emp => exact hcr
        | put => exact hcr.elim
        | own dd x =>
          simp only [Jq, A7, Tok.key, hget]
          by_cases h1 : x = k
          · subst h1
            rw [if_pos rfl]
            show CR J' w u' (bif WE dd true && Nat.beq n' n then .slc (.own dd x) n' (NF l' i o' [.any]) else .dead)
            cases hb : WE dd true && Nat.beq n' n with
            | false => trivial
            | true =>
              simp only [Bool.and_eq_true] at hb
              obtain rfl := AB hb.1
              have := huniq _ (n', l') hc (by simp [B2])
              obtain ⟨rfl, rfl⟩ : n' = n ∧ l' = l := by simpa using this
              show OwnDeep (J'.L x) w u' n' _
              rw [hJk, hput]
              exact hhole u' hcr K2 (fun b h1 h2 => (hK2 b).2 ⟨h1, h2⟩) hK2g
          rw [if_neg h1]
          by_cases h2 : x = 64 * t
          · rw [if_pos h2]; trivial
          rw [if_neg h2]
          cases dd with
          | true => show OwnDeep (J'.L x) w u' n' l'; rw [stay x h1 h2]; exact hcr
          | false => show OwnTop J.F (J'.L x) w u' n' l'; rw [stay x h1 h2]; exact hcr
        | vw x =>
          simp only [Jq, A7, Tok.key, hget]
          by_cases h1 : x = k
          · rw [if_pos h1]; trivial
          rw [if_neg h1]
          by_cases h2 : x = 64 * t
          · rw [if_pos h2]; trivial
          rw [if_neg h2]
          exact VV.keep (fun b hb => ⟨hb.imp (fun hb => by rw [stay x h1 h2]; exact hb) id, rfl⟩) hcr
      | ptr x off => exact hcr
      | rptr t cs =>
        cases t with
        | sh => exact hcr
        | emp => exact hcr
        | put => obtain ⟨_, _, _, _, hf, _⟩ := hcr; exact hf.elim
        | own dd x => obtain ⟨_, _, _, _, hf, _⟩ := hcr; exact hf.elim
        | vw x =>
          simp only [Jq, A7, Tok.key, hget]
          by_cases h1 : x = k
          · rw [if_pos h1]; trivial
          rw [if_neg h1]
          by_cases h2 : x = 64 * t
          · rw [if_pos h2]; trivial
          rw [if_neg h2]
          exact Reads.keep hcr fun b hb => ⟨hb.imp (fun hb => by rw [stay x h1 h2]; exact hb) id, rfl⟩
      | ept dd x n' i' o1 cs =>
        simp only [Jq, hget]
        obtain ⟨g1, r1, vs1, q1, q2, q3, q4, arr, ty, q5⟩ := hcr
        by_cases h1 : x = k
        · subst h1
          rw [if_pos rfl]
          obtain ⟨rfl, rfl⟩ : g = g1 ∧ rest = r1 := by rw [hL] at q1; simpa using q1
          obtain ⟨r', hr'⟩ := hK2g
          exact ⟨g, r', vs1, hJk.trans hr', q2, q3.anys, q4, arr, ty, q5⟩
        rw [if_neg h1]
        by_cases h2 : x = 64 * t
        · rw [if_pos h2]; trivial
        rw [if_neg h2]
        refine ⟨g1, r1, vs1, (stay x h1 h2).trans q1, q2, q3.keep fun b hb => ⟨?_, rfl⟩, q4, arr, ty, q5⟩
        cases dd with
        | true => exact hb.imp (fun hb => by rw [stay x h1 h2]; exact hb) id
        | false => exact hb
      | fn f caps => exact hcr
      | fnr f caps => exact hcr
    · show (J'.L x).Nodup
      by_cases h2 : x = 64 * t
      · rw [h2, hJd]; exact hMn
      by_cases h1 : x = k
      · rw [h1, hJk]; exact (hrel.nd k).filter _
      rw [hJx x h2 h1]; exact hrel.nd x
    · have hb : b ∈ J'.L x := hb
      by_cases h2 : x = 64 * t
      · rw [h2, hJd] at hb; exact hrel.lo k b (hMk b hb)
      by_cases h1 : x = k
      · rw [h1, hJk] at hb; exact hrel.lo k b ((hK2 b).1 hb).1
      rw [hJx x h2 h1] at hb; exact hrel.lo x b hb
    · have own : ∀ y, b ∈ J'.L y → (y = 64 * t ∧ b ∈ M) ∨ (y = k ∧ y ≠ 64 * t ∧ b ∈ J.L k ∧ b ∉ M) ∨ (y ≠ 64 * t ∧ y ≠ k ∧ b ∈ J.L y) := fun y hy => by
        by_cases h2 : y = 64 * t
        · rw [h2, hJd] at hy; exact .inl ⟨h2, hy⟩
        by_cases h1 : y = k
        · rw [h1, hJk] at hy
          exact .inr (.inl ⟨h1, h2, (hK2 b).1 hy⟩)
        rw [hJx y h2 h1] at hy
        exact .inr (.inr ⟨h2, h1, hy⟩)
      rcases own x hb with ⟨h1, h2⟩ | ⟨h1, _, h2, h3⟩ | ⟨h1, h2, h3⟩ <;> rcases own x' hb' with ⟨h1', h2'⟩ | ⟨h1', _, h2', h3'⟩ | ⟨h1', h2', h3'⟩
      · rw [h1, h1']
      · exact absurd h2 h3'
      · exact absurd (hrel.dj x' k b h3' (hMk b h2)) h2'
      · exact absurd h2' h3
      · rw [h1, h1']
      · exact absurd (hrel.dj x' k b h3' h2) h2'
      · exact absurd (hrel.dj x k b h3 (hMk b h2')) h2
      · exact absurd (hrel.dj x k b h3 h2') h2
      exact hrel.dj x x' b h3 h3'
    have hy : J.B x ∈ J'.L y := hy
    obtain ⟨_, _, hnl, _⟩ := hrel.bo x c hx
    by_cases h2 : y = 64 * t
    · rw [h2, hJd] at hy; exact hnl k (hMk _ hy)
    by_cases h1 : y = k
    · rw [h1, hJk] at hy; exact hnl k ((hK2 _).1 hy).1
    rw [hJx y h2 h1] at hy; exact hnl y hy
end
end
section
open Go.RowKit
def Qal (orc : Orc) (dst : Option Nat) : Op → List AV → Option (Res × List Ob)
  | .call ⟨.value _, _, _⟩, [.one (.fn f []), .one (.slc (.own true k) n l), .one (.int .i64 i), .one (.slc (.own true k2) n2 [x])] =>
    (match orc, dst with
    | .ins l', some t => bif Nat.beq n n2 && !(Nat.beq k k2) && !(Nat.beq k (64 * t)) && !(Nat.beq k2 (64 * t)) then
        some (⟨.one (.slc (.own true (64 * t)) n l'), [(64 * t, none), (k, none), (k2, none)], none, none⟩,
          [.ins f n, .rng 0 i l.length, .len (l.length + 1), .eq (.one (.slc .sh n l')) (.one (.slc .sh n (l.take i.toNat ++ [x] ++ l.drop i.toNat)))]) else none
    | _, _ => none)
  | _, _ => none
section
variable {w w' : World}
theorem OR.split : ∀ (j : Nat) {n : Nat} {L : List Nat} {cs : List Value} {l : List (List PV)}, OR w n L cs l → ∃ A B, L = A ++ B ∧ OR w n A (cs.take (j * n)) (l.take j) ∧ OR w n B (cs.drop (j * n)) (l.drop j)
  | 0, n, L, cs, l, h => ⟨[], L, rfl, by simpa using OR.nil n, by simpa using h⟩
  | _ + 1, _, _, _, _, .nil n => ⟨[], [], rfl, by simpa using OR.nil n, by simpa using OR.nil n⟩
  | j + 1, n, _, _, _, .cons (ce := ce) (cs := cs) (L1 := L1) h1 h2 h3 => by
    obtain ⟨A, B, rfl, h4, h5⟩ := OR.split j h3
    have hl : (j + 1) * n = ce.length + j * n := by rw [OC.length h1, h2, Nat.add_mul, Nat.one_mul, Nat.add_comm]
    refine ⟨L1 ++ A, B, by simp, ?_, ?_⟩
    · rw [hl, List.take_length_add_append, List.take_succ_cons]
      exact .cons h1 h2 h4
    rw [hl, List.drop_length_add_append, List.drop_succ_cons]
    exact h5
end
section
variable {P : Program} {N : Nat} {w0 : Base} {F0 : Nat → Prop} {J : Inj} {a : Act} {w : World} {s : St}
theorem FQ {L : List Nat} {v : Value} {n : Nat} {l : List (List PV)} (h : OwnDeep L w v n l) (hl : l.length < 1073741824) :
    ∃ oa cap olds L1, v = .slice oa l.length cap ∧ RowAt w n oa l.length cap olds ∧ OR w n L1 olds l ∧ L1.Nodup ∧ (∀ b, b ∈ L1 → b ∈ L) ∧ (0 < cap → ∃ g, oa = some ⟨g, 0, none⟩ ∧ g ∈ L ∧ g ∉ L1 ∧ ∃ r, L = g :: r) := by
  obtain ⟨L', h1, h2, h3, h4⟩ := h
  generalize hp : PV.slc n l = q at h1
  cases h1 with
  | int | bool | str | any | raw => cases hp
  | emp oa n' =>
    cases hp
    exact ⟨oa, 0, [], [], rfl, ⟨by simp, .inl ⟨rfl, rfl, rfl⟩, Nat.le_refl _, Nat.zero_le _, by simp, by simp⟩, .nil n, List.nodup_nil, fun b hb => (by simp at hb), fun h => by omega⟩
  | @slc g cap n' cur e L1 l' hg hs hr h5 h6 =>
    cases hp
    obtain ⟨n1, n2⟩ := List.nodup_cons.1 h2
    refine ⟨some ⟨g, 0, none⟩, cap, _, L1, rfl, ⟨hr.length, .inr ⟨g, cur, e, rfl, hg, hs, rfl⟩, h5, h6.1, hl, (OR.vr (X := fun _ => True) hr fun _ _ => trivial).ones⟩, hr, n2, fun b hb => h3 b (List.mem_cons_of_mem _ hb), fun _ => ⟨g, rfl, h3 g List.mem_cons_self, n1, ?_⟩⟩
    rcases h4 with h4 | ⟨g2, q1, q2, e3, e4⟩
    · cases h4
    obtain ⟨rfl, rfl⟩ : g = g2 ∧ L1 = q1 := by simpa using e3
    exact ⟨q2, e4⟩
theorem OJ {orc : Orc} {o : Oper} {avs : List AV} {r : Res} {obs : List Ob} (h : Qal orc o.dst o.op avs = some (r, obs)) (hob : AllOb (X9 P w0) (Z8 P w0) obs) (hdst : ∀ d, o.dst = some d → d < N)
    (hrel : Rel N w0 F0 J a w s) (hops : All2 (fun x v => Pp s x = some v) o.op.operands.toList avs) {K : Act → World → Prop} {Q : Exit → Act → World → Prop}
    (hK : ∀ J' a' w', Rel N w0 F0 J' a' w' (s.step o.dst r) → K a' w') : o.wp P a w K Q := by
  have hv := Un hrel hops
  generalize ho : o.op = op at h hv
  generalize hd : o.dst = dst at h
  unfold Qal at h
  split at h
  rotate_left
  · cases h
  rename_i px args tys f k n l i k2 n2 x
  split at h
  rotate_left
  · cases h
  rename_i l' t
  cases hc : (Nat.beq n n2 && !(Nat.beq k k2) && !(Nat.beq k (64 * t)) && !(Nat.beq k2 (64 * t))) with
  | false => rw [hc] at h; cases h
  | true =>
    rw [hc] at h
    simp only [cond_true, Option.some.injEq, Prod.mk.injEq] at h
    obtain ⟨rfl, rfl⟩ := h
    simp only [Bool.and_eq_true, Bool.not_eq_true', Nat.beq_eq] at hc
    obtain ⟨⟨⟨c1, c2⟩, c3⟩, c4⟩ := hc
    subst c1
    have hne : ∀ {x y : Nat}, Nat.beq x y = false → x ≠ y := fun h e => by rw [e] at h; simp at h
    have c2 := hne c2
    have c3 := hne c3
    have c4 := hne c4
    obtain ⟨⟨hfn, hn0, hcall⟩, hob⟩ := AllOb.cons hob
    obtain ⟨⟨i0, _, i1⟩, hob⟩ := AllOb.cons hob
    obtain ⟨hlen, hob⟩ := AllOb.cons hob
    have hlen : l.length + 1 ≤ 1073741824 := hlen
    have hl' : l' = l.take i.toNat ++ [x] ++ l.drop i.toNat := by
      have hob : AV.one (.slc .sh n l') = AV.one (.slc .sh n _) := hob
      simpa using hob
    obtain ⟨j, rfl⟩ : ∃ j : Nat, i = (j : Int) := ⟨i.toNat, by omega⟩
    rw [Int.toNat_natCast] at hl'
    have hj : j ≤ l.length := by omega
    obtain ⟨args⟩ := args
    have hv : All2 (fun x v => AR J w (a.eval x) v) (px :: args) [.one (.fn f []), .one (.slc (.own true k) n l), .one (.int .i64 (j : Int)), .one (.slc (.own true k2) n [x])] := by simpa [Op.operands, Call.operands] using hv
    cases hv with
    | cons hx hv =>
    cases hv with
    | @cons p1 _ _ _ hrow hv =>
    cases hv with
    | @cons p2 _ _ _ hint hv =>
    cases hv with
    | @cons p3 _ _ _ harg hv =>
    cases hv
    have hx : a.eval px = .func (.func f) #[] #[] := by simpa [AR, CR] using hx
    obtain ⟨hint, _⟩ : a.eval p2 = .int .i64 (j : Int) ∧ InR .i64 (j : Int) := hint
    obtain ⟨oa, cap, olds, L1, hrv, hR, hOR, hn1, hs1, hg1⟩ := FQ hrow (by omega)
    obtain ⟨ob, vc, vs0, Lx, hav, hRx, hORx, hnx, hsx, hgx⟩ := FQ harg (by simp)
    have hvc : 0 < vc := by have h9 : 1 ≤ vc := hRx.le; omega
    obtain ⟨vb, rfl, hvb, hvbx, _⟩ := hgx hvc
    have hlo := hrel.lo k
    have hlo2 := hrel.lo k2
    have hdj : ∀ b, b ∈ J.L k → b ∉ J.L k2 := fun b h1 h2 => c2 (hrel.dj k k2 b h1 h2)
    have hvl : vs0.length = n := by rw [hRx.len]; simp
    have hOne : OneAt w n oa cap vb 0 vs0 := by
      refine ⟨hvl, fun j' u hj' => ?_, hRx.ones, fun g hg hcap e => ?_⟩
      · rcases hRx.row with ⟨_, h0, _⟩ | ⟨g, cur, e, h1, h2, h3, h4⟩
        · simp at h0
        obtain rfl : vb = g := by simpa using h1
        rw [← h4, List.getElem?_take] at hj'
        split at hj'
        · have : cur[j']? = some u := by simpa using hj'
          simp [World.cell?, h2, this]
        cases hj'
      obtain ⟨g', h5, h6, _⟩ := hg1 hcap
      rw [hg] at h5
      obtain rfl : g = g' := by simpa using h5
      exact hdj g h6 (e ▸ hvb)
    have hC := hcall w oa l.length cap olds j vb 0 vc vs0 hR hOne hj
    refine Cm ho hx hfn ?_
    have hvals : (({ toList := [p1, p2, p3] } : Array Operand).map a.eval ++ #[]) = #[.slice oa l.length cap, .int .i64 (j : Int), .slice (some ⟨vb, 0, none⟩) 1 vc] := by
      have hav : a.eval p3 = .slice (some ⟨vb, 0, none⟩) 1 vc := hav
      simp [hrv, hint, hav]
    rw [hvals]
    refine hC.mono fun e w' hret => ?_
    obtain ⟨u, rfl, hT⟩ := hret
    obtain ⟨g', cap', cur', e', rfl, hg, hs, ht, h1, h2, h3⟩ := hT.row
    have hszw := hT.size
    have hsame : ∀ b, b < w.heap.size → b ∉ J.L k ∨ b ∈ L1 → w'.heap[b]? = w.heap[b]? := fun b hb hnb => by
      rcases h3 with ⟨h3, hcp, h4⟩ | ⟨_, _, h4⟩
      · obtain ⟨g, h5, h6, h7, _⟩ := hg1 hcp
        rw [h3] at h5
        obtain rfl : g' = g := by simpa using h5
        exact h4 b fun e => hnb.elim (fun h => h (e ▸ h6)) fun h => h7 (e ▸ h)
      exact h4 b hb
    have hglt := Q2 hg
    have hgc : (g' ∈ J.L k ∧ g' ∉ L1) ∨ w.heap.size ≤ g' := by
      rcases h3 with ⟨h3, hcp, h4⟩ | ⟨h3, _, h4⟩
      · obtain ⟨g, h5, h6, h7, _⟩ := hg1 hcp
        rw [h3] at h5
        obtain rfl : g' = g := by simpa using h5
        exact .inl ⟨h6, h7⟩
      exact .inr h3
    have hx2 : ∀ b, b ∈ Lx → b ∈ J.L k2 := hsx
    have hgx : g' ∉ Lx := fun hm => hgc.elim (fun h => hdj g' h.1 (hx2 _ hm)) fun h => by have := (hlo2 g' (hx2 _ hm)).2.1; omega
    have hgl : g' ∉ L1 := fun hm => hgc.elim (fun h => h.2 hm) fun h => by have := (hlo g' (hs1 _ hm)).2.1; omega
    obtain ⟨A, B, rfl, hA, hB⟩ := OR.split j hOR
    obtain ⟨nA, nB, nAB⟩ := List.nodup_append.1 hn1
    let L' := g' :: (A ++ (Lx ++ B))
    have hL'n : L'.Nodup := by
      refine List.nodup_cons.2 ⟨fun hm => ?_, List.nodup_append.2 ⟨nA, List.nodup_append.2 ⟨hnx, nB, fun p hp q hq e => ?_⟩, fun p hp q hq e => ?_⟩⟩
      · simp only [List.mem_append] at hm
        rcases hm with hm | hm | hm
        · exact hgl (List.mem_append_left _ hm)
        · exact hgx hm
        exact hgl (List.mem_append_right _ hm)
      · exact hdj q (hs1 q (List.mem_append_right _ hq)) (hx2 q (e ▸ hp))
      subst e
      rcases List.mem_append.1 hq with hq | hq
      · exact hdj p (hs1 p (List.mem_append_left _ hp)) (hx2 p hq)
      exact nAB p hp p hq rfl
    have hL's : ∀ b, b ∈ L' → b = g' ∨ b ∈ A ++ B ∨ b ∈ Lx := fun b hb => by
      simp only [L', List.mem_cons, List.mem_append] at hb ⊢
      rcases hb with hb | hb | hb | hb
      · exact .inl hb
      · exact .inr (.inl (.inl hb))
      · exact .inr (.inr hb)
      exact .inr (.inl (.inr hb))
    let J' : Inj := ⟨J.F, fun y => if y = 64 * t then L' else if y = k then [] else if y = k2 then [] else J.L y, J.B⟩
    have hJt : J'.L (64 * t) = L' := if_pos rfl
    have hJ : ∀ y b, b ∈ J'.L y → (y = 64 * t ∧ b ∈ L') ∨ (y ≠ 64 * t ∧ y ≠ k ∧ y ≠ k2 ∧ b ∈ J.L y) := fun y b hb => by
      have hb : b ∈ (if y = 64 * t then L' else if y = k then [] else if y = k2 then [] else J.L y) := hb
      split at hb
      · rename_i h; exact .inl ⟨h, hb⟩
      rename_i h
      split at hb
      · simp at hb
      rename_i h'
      split at hb
      · simp at hb
      rename_i h''; exact .inr ⟨h, h', h'', hb⟩
    have hget : ∀ y, get [(64 * t, (none : Option Tok)), (k, none), (k2, none)] y = if y = 64 * t ∨ y = k ∨ y = k2 then some none else none := fun y => by
      by_cases e1 : y = 64 * t
      · rw [if_pos (.inl e1)]; simp [get, e1]
      rw [Zx e1]
      by_cases e2 : y = k
      · rw [if_pos (.inr (.inl e2))]; simp [get, e2]
      rw [Zx e2]
      by_cases e3 : y = k2
      · rw [if_pos (.inr (.inr e3))]; simp [get, e3]
      rw [Zx e3, if_neg (by simp [e1, e2, e3])]; rfl
    have hLy : ∀ y, y ≠ k → ∀ b, b ∈ J.L y → w'.heap[b]? = w.heap[b]? := fun y hy b hb => hsame b (hrel.lo y b hb).2.1 (.inl fun hm => hy (hrel.dj y k b hb hm))
    have hF : ∀ b, J.F b → w'.heap[b]? = w.heap[b]? := fun b hb => hsame b (hrel.fl b hb).1 (.inl fun hm => (hlo b hm).2.2 hb)
    have hbelow : w0.Keeps w' := hrel.below.step hT.os hT.tape hT.output hszw fun b hb hnl => hsame b hb (.inl fun hm => hnl (hlo b hm).1)
    have hORn : OR w' n (A ++ (Lx ++ B)) (olds.take (j * n) ++ vs0 ++ olds.drop (j * n)) (l.take j ++ [x] ++ l.drop j) := by
      rw [List.append_assoc, List.append_assoc]
      refine OR.append (OR.append (hB.keep fun b hb => ?_) (hORx.keep fun b hb => ?_)) (hA.keep fun b hb => ?_)
      · exact hsame b (hlo b (hs1 b (List.mem_append_right _ hb))).2.1 (.inr (List.mem_append_right _ hb))
      · exact hLy k2 (fun e => c2 e.symm) b (hx2 b hb)
      exact hsame b (hlo b (hs1 b (List.mem_append_left _ hb))).2.1 (.inr (List.mem_append_left _ hb))
    have hlen' : (l.take j ++ [x] ++ l.drop j).length = l.length + 1 := by simp; omega
    have hres : CR J' w' (.slice (some ⟨g', 0, none⟩) (l.length + 1) cap') (.slc (.own true (64 * t)) n l') := by
      show OwnDeep (J'.L (64 * t)) w' _ n l'
      rw [hJt, hl']
      refine .of ?_ hL'n
      have := OV.slc (n := n) (cap := cap') (l := l.take j ++ [x] ++ l.drop j) (L := A ++ (Lx ++ B)) hg hs (by rw [hlen', ht]; exact hORn) (by rw [hlen']; exact h1) ⟨h2, by rw [hlen']; exact hlen⟩
      rw [hlen'] at this
      exact this
    show K (a.put o.dst _) w'
    rw [hd] at hK ⊢
    have htN := hdst t hd
    refine hK J' _ w' (hrel.upd (J' := J') (w' := w') (some t) (fun d e => by cases e; exact htN) ⟨.one (.slc (.own true (64 * t)) n l'), [(64 * t, none), (k, none), (k2, none)], none, none⟩ _ hbelow
      ⟨fun b hb => ⟨hb, hF b hb⟩, fun y hy => ?_, fun y hy => ?_, fun y y' hy => ?_, fun y tk hy => ?_, fun _ _ => rfl, fun y d1 m i1 o1 cs1 hy => ?_⟩
      ⟨fun b hb => ⟨by have := (hrel.fl b hb).1; omega, (hrel.fl b hb).2⟩, hrel.f0, fun y => ?_, fun y b hb => ?_, fun y y' b hb hb' => ?_⟩ (fun _ => hres) (fun y c hy _ => ?_) (fun y c hy => by cases hy))
    · rw [hget] at hy
      split at hy
      · cases hy
      rename_i h
      simp only [not_or] at h
      exact ⟨by show (if _ then _ else _) = _; rw [if_neg h.1, if_neg h.2.1, if_neg h.2.2], hLy y h.2.1⟩
    · rw [hget] at hy; split at hy <;> cases hy
    · rw [hget] at hy; split at hy <;> cases hy
    · rw [hget] at hy; split at hy <;> cases hy
    · rw [hget] at hy; split at hy <;> cases hy
    · show (if y = 64 * t then L' else if y = k then [] else if y = k2 then [] else J.L y : List Nat).Nodup
      split
      · exact hL'n
      split
      · simp
      split
      · simp
      exact hrel.nd y
    · rcases hJ y b hb with ⟨_, hb⟩ | ⟨_, _, _, hb⟩
      · rcases hL's b hb with rfl | hb | hb
        · rcases hgc with ⟨hg1, _⟩ | hg1
          · have := hlo b hg1; exact ⟨this.1, hglt, this.2.2⟩
          exact ⟨.inl (Nat.le_trans hrel.below.size hg1), hglt, fun hf => by have := (hrel.fl b hf).1; omega⟩
        · have := hlo b (hs1 b hb); exact ⟨this.1, by omega, this.2.2⟩
        have := hlo2 b (hx2 b hb); exact ⟨this.1, by omega, this.2.2⟩
      have := hrel.lo y b hb; exact ⟨this.1, by omega, this.2.2⟩
    · have own : ∀ z, z ≠ k → z ≠ k2 → b ∈ J.L z → b ∉ L' := fun z z1 z2 hz hm => by
        rcases hL's b hm with rfl | hm | hm
        · rcases hgc with ⟨hg1, _⟩ | hg1
          · exact z1 (hrel.dj z k b hz hg1)
          have := (hrel.lo z b hz).2.1; omega
        · exact z1 (hrel.dj z k b hz (hs1 b hm))
        exact z2 (hrel.dj z k2 b hz (hx2 b hm))
      rcases hJ y b hb with ⟨e1, hb⟩ | ⟨e1, e2, e3, hb⟩ <;> rcases hJ y' b hb' with ⟨e1', hb'⟩ | ⟨e1', e2', e3', hb'⟩
      · rw [e1, e1']
      · exact absurd hb (own y' e2' e3' hb')
      · exact absurd hb' (own y e2 e3 hb)
      exact hrel.dj y y' b hb hb'
    obtain ⟨_, q1, q2, arr', e', q3, _⟩ := hrel.bo y c hy
    have hlt := Q2 q3
    refine ⟨by simp, q1, fun z hm => ?_, hsame _ hlt (.inl (q2 k))⟩
    rcases hJ z _ hm with ⟨_, hm⟩ | ⟨_, _, _, hm⟩
    · rcases hL's _ hm with e | hm | hm
      · rcases hgc with ⟨hg1, _⟩ | hg1
        · exact q2 k (e ▸ hg1)
        omega
      · exact q2 k (hs1 _ hm)
      exact q2 k2 (hx2 _ hm)
    exact q2 z hm
end
end
end Go.Proofs.YtkbmchfkaibelaaGreatDoor
