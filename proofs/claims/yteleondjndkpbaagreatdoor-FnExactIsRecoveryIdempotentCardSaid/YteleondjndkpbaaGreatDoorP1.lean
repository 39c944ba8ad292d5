/- Texts of this proof, put together by a program: Za, Rd, Reg. -/
import Derived.WalkKit
import Derived.ProofKit
import Derived.OpenShut
import Derived.Lib.QuietBelow
import Derived.Lib.Hide
import Derived.WalkLawsBesides
import Derived.WalkSpells
import Derived.Deep.Slices
import Derived.Laws.IdiomCopy
import Derived.OwnWalk
import Derived.Handy
import Derived.Deep.Light
import Derived.Deep.DeepMust
import Derived.IntWalk
import Derived.Calls
import Derived.Laws.StructEq
import Derived.ChangeArms
import Derived.ChangeSlices
import Derived.WideShapes
import Derived.Carry
import Derived.Below
import Derived.Still
import Derived.Deep.QuietTactic
set_option linter.unusedVariables false
set_option linter.unusedSimpArgs false
namespace Go.Proofs.YteleondjndkpbaaGreatDoor
open _root_ renaming List → U, Nat → S, Bool → uB, Option → uC, Int → uE, Array → uG, if_neg → uK, if_pos → uL, ByteArray → uM, cond_true → uN, congrArg → uO, cond_false → uP, decide_eq_true_eq → uQ
open _root_.Bool renaming true → uA, false → uD
open _root_.Go renaming Value → I, World → E, Program → uF, TypeId → uH, maxLen → uI, IntKind → uJ
open _root_.Option renaming some → O, none → G
open _root_.Array renaming getElem?_toList → zG, getElem?_setIfInBounds → zU, getD_eq_getD_getElem? → yJ, getElem?_modify → yU
open _root_.BitVec renaming ofInt → yR
open _root_.Bool renaming and_eq_true → zH
open _root_.Classical renaming byContradiction → yL
open _root_.List renaming getElem?_eq_getElem → zD, getElem?_take → zK, mem_cons_self → zL, mem_cons_of_mem → zM, getElem?_eq_some_iff → zN, getElem?_append_right → zQ, getElem?_append_left → zR, append_assoc → zS, eq_nil_of_length_eq_zero → zT, mem_append_right → zV, mem_append_left → zW, getElem?_drop → zY, getElem?_eq_none → yC, mem_cons → yD, mem_append → yG, getElem_of_mem → yI, drop_eq_getElem_cons → yK, ext_getElem? → yM, map_cons → yN, mem_flatten → yP, drop_drop → yV, flatten_append → yW, map_congr_left → yX
open _root_.Nat renaming beq → zF, mul_le_mul_right → zJ, le_refl → zP, zero_le → zZ, le_trans → yA, add_comm → yB, add_mul → yE, one_mul → yF, zero_lt_one → yH, le_max_right → yO, ble → yQ, lt_or_ge → yS, le_max_left → yT, le_succ → yY, mul_add → yZ
open _root_.Option renaming map_eq_some_iff → zO, map_some → zX
open _root_.Option.some renaming inj → zE
section
open Go.RowKit
def I64 (n:uE):Prop:= -9223372036854775808<=n/\n<=9223372036854775807
def Qqw:S->S->U UInt8
 | 0,_=> []
 | f+1,k=>if k=0 then [] else Qqw f (k / 10)++ [UInt8.ofNat (48+k % 10)]
def Qp1 (k:S):uM:=⟨(109::(if k=0 then [48] else Qqw k k)).toArray⟩
class GoD (α:Type) where
 n:S
 rd:E->U I->α->Prop
 own:U S->E->U I->α->Prop
 size:α->S
 mark:α->S->α×S
 markT:α->S->α×S
 rd_len:∀{w cs a},rd w cs a->cs.length=n
 rd_same:∀{w w':E} {cs a},rd w cs a->(∀b,b<w.heap.size->w'.heap[b]? =w.heap[b]?)->rd w' cs a
 own_same:∀{L} {w w':E} {cs a},own L w cs a->(∀b,b∈L->w'.heap[b]? =w.heap[b]?)->own L w' cs a
 own_rd:∀{L w cs a},own L w cs a->rd w cs a
 own_lt:∀{L} {w:E} {cs a},own L w cs a->∀b,b∈L->b<w.heap.size
 own_nd:∀{L w cs a},own L w cs a->L.Nodup
 deq:DecidableEq α
 mk_le:∀(a:α) (k:S),k<=(mark a k).2
 mkT_le:∀(a:α) (k:S),k<=(markT a k).2
 lv:S
 lvm:S
 mk_bd:∀(a:α) (k:S),(mark a k).2<=k+lv+lvm*size a
 mkT_bd:∀(a:α) (k:S),(markT a k).2<=k+lvm*size a
open GoD (rd own)
theorem Jb {α:Type} [GoD α] {w w':E} {cs:U I} {a:α} (h:rd w cs a) (hb:Below w.heap.size w w'):rd w' cs a:=
 GoD.rd_same h hb.block
theorem Qcx {α:Type} [GoD α] {L:U S} {w w':E} {cs:U I} {a:α} (h:own L w cs a) (hb:Below w.heap.size w w'):own L w' cs a:=
 GoD.own_same h (λb hb'=>hb.block b (GoD.own_lt h b hb'))
instance instGoDInt:GoD uE where
 n:=1
 rd _ cs a:=cs= [.int .i64 a]/\I64 a
 own L _ cs a:=L= []/\cs= [.int .i64 a]/\I64 a
 size _:=0
 mark _ k:=((k:uE),k+1)
 markT a k:=(a,k)
 rd_len h:=by rw[h.1];rfl
 rd_same h _:=h
 own_same h _:=h
 own_rd h:=h.2
 own_lt h:=by rw[h.1];simp
 own_nd h:=by rw[h.1];simp
 deq:=inferInstance
 mk_le _ k:=yY k
 mkT_le _ k:=zP k
 lv:=1
 lvm:=0
 mk_bd _ k:=by simp
 mkT_bd _ k:=by simp
instance instGoDBool:GoD uB where
 n:=1
 rd _ cs a:=cs= [.bool a]
 own L _ cs a:=L= []/\cs= [.bool a]
 size _:=0
 mark _ k:=(k % 3==0,k+1)
 markT a k:=(a,k)
 rd_len h:=by rw[h];rfl
 rd_same h _:=h
 own_same h _:=h
 own_rd h:=h.2
 own_lt h:=by rw[h.1];simp
 own_nd h:=by rw[h.1];simp
 deq:=inferInstance
 mk_le _ k:=yY k
 mkT_le _ k:=zP k
 lv:=1
 lvm:=0
 mk_bd _ k:=by simp
 mkT_bd _ k:=by simp
instance instGoDStr:GoD uM where
 n:=1
 rd _ cs a:=cs= [.string a]/\a.size<=uI
 own L _ cs a:=L= []/\cs= [.string a]/\a.size<=uI
 size a:=a.size
 mark _ k:=(Qp1 k,k+1)
 markT a k:=(a,k)
 rd_len h:=by rw[h.1];rfl
 rd_same h _:=h
 own_same h _:=h
 own_rd h:=h.2
 own_lt h:=by rw[h.1];simp
 own_nd h:=by rw[h.1];simp
 deq:=inferInstance
 mk_le _ k:=yY k
 mkT_le _ k:=zP k
 lv:=1
 lvm:=0
 mk_bd _ k:=by simp
 mkT_bd _ k:=by simp
section
variable {α β:Type} [GoD α] [GoD β]
def rdP (w:E) (cs:U I) (p:α×β):Prop:=∃c1 c2,cs=c1++c2/\rd w c1 p.1/\rd w c2 p.2
def Qq7 (L:U S) (w:E) (cs:U I) (p:α×β):Prop:=L.Nodup/\∃c1 c2 L1 L2,cs=c1++c2/\L=L1++L2/\own L1 w c1 p.1/\own L2 w c2 p.2
instance instGoDProd:GoD (α×β) where
 n:=GoD.n α+GoD.n β
 rd:=rdP
 own:=Qq7
 size p:=GoD.size p.1+GoD.size p.2
 mark p k:=(((GoD.mark p.1 k).1,(GoD.mark p.2 (GoD.mark p.1 k).2).1),(GoD.mark p.2 (GoD.mark p.1 k).2).2)
 markT p k:=(((GoD.markT p.1 k).1,(GoD.markT p.2 (GoD.markT p.1 k).2).1),(GoD.markT p.2 (GoD.markT p.1 k).2).2)
 rd_len:=by
  rintro w cs a ⟨c1,c2,rfl,h1,h2⟩
  simp[GoD.rd_len h1,GoD.rd_len h2]
 rd_same:=by
  rintro w w' cs a ⟨c1,c2,rfl,h1,h2⟩ hb
  exact ⟨c1,c2,rfl,GoD.rd_same h1 hb,GoD.rd_same h2 hb⟩
 own_same:=by
  rintro L w w' cs a ⟨hn,c1,c2,L1,L2,rfl,rfl,h1,h2⟩ hb
  exact ⟨hn,c1,c2,L1,L2,rfl,rfl,GoD.own_same h1 (λb hm=>hb b (by simp[hm])),GoD.own_same h2 (λb hm=>hb b (by simp[hm]))⟩
 own_rd:=by
  rintro L w cs a ⟨hn,c1,c2,L1,L2,rfl,rfl,h1,h2⟩
  exact ⟨c1,c2,rfl,GoD.own_rd h1,GoD.own_rd h2⟩
 own_lt:=by
  rintro L w cs a ⟨hn,c1,c2,L1,L2,rfl,rfl,h1,h2⟩ b hb
  rcases yG.1 hb with h | h
  . exact GoD.own_lt h1 b h
  exact GoD.own_lt h2 b h
 own_nd h:=h.1
 deq:= @instDecidableEqProd _ _ GoD.deq GoD.deq
 mk_le _ _:=yA (GoD.mk_le _ _) (GoD.mk_le _ _)
 mkT_le _ _:=yA (GoD.mkT_le _ _) (GoD.mkT_le _ _)
 lv:=GoD.lv α+GoD.lv β
 lvm:=max (GoD.lvm α) (GoD.lvm β)
 mk_bd p k:=by
  have h1:=GoD.mk_bd p.1 k;have h2:=GoD.mk_bd p.2 (GoD.mark p.1 k).2;have e1:=zJ (GoD.size p.1) (yT (GoD.lvm α) (GoD.lvm β));have e2:=zJ (GoD.size p.2) (yO (GoD.lvm α) (GoD.lvm β));rw[yZ];omega
 mkT_bd p k:=by
  have h1:=GoD.mkT_bd p.1 k;have h2:=GoD.mkT_bd p.2 (GoD.markT p.1 k).2;have e1:=zJ (GoD.size p.1) (yT (GoD.lvm α) (GoD.lvm β));have e2:=zJ (GoD.size p.2) (yO (GoD.lvm α) (GoD.lvm β));rw[yZ];omega
def rdS (w:E) (cs:U I) (l:U α):Prop:=
 ∃ oa cap,cs= [.slice oa l.length cap]/\l.length<=cap/\cap<=uI/\
   ∀ i a,l[i]? =O a->∃b off ce,oa=O ⟨b,off,G⟩/\ce.length=GoD.n α/\
     (∀j v,ce[j]? =O v->w.cell? ⟨b,off+i*GoD.n α+j,G⟩=O v)/\rd w ce a
def Qn2 (L:U S) (w:E) (cs:U I) (l:U α):Prop:=
 L.Nodup/\((l= []/\L= []/\∃oa,cs= [.slice oa 0 0])\/
 ∃ (g cap:S) (cur:uG I) (e:uH) (Ls:U (U S)),cs= [.slice (O ⟨g,0,G⟩) l.length cap]/\w.heap[g]? =O (.cells cur e (0,0))/\l.length<=cap/\cap<=uI/\
   cur.size=cap*GoD.n α/\L=g::Ls.flatten/\Ls.length=l.length/\
   ∀i Li a,Ls[i]? =O Li->l[i]? =O a->own Li w ((cur.toList.drop (i*GoD.n α)).take (GoD.n α)) a)
def Sm:U α->S->U α×S
 | [],k=>([],k)
 | a::l,k=>((GoD.mark a k).1::(Sm l (GoD.mark a k).2).1,(Sm l (GoD.mark a k).2).2)
theorem DA:∀(l:U α) (k:S),k<=(Sm l k).2
 | [],k=>zP k
 | a::l,k=>yA (GoD.mk_le a k) (DA l _)
theorem DB:∀(l:U α) (k:S),(Sm l k).2<=k+max (GoD.lv α) (GoD.lvm α)*(l.length+(l.map GoD.size).sum)
 | [],k=>by simp[Sm]
 | a ::l,k=>by
   have h1:=GoD.mk_bd a k;have h2:=DB l (GoD.mark a k).2;have e1:=yT (GoD.lv α) (GoD.lvm α);have e2:=zJ (GoD.size a) (yO (GoD.lv α) (GoD.lvm α))
   have e3:max (GoD.lv α) (GoD.lvm α)*((a::l).length+((a::l).map GoD.size).sum)=max (GoD.lv α) (GoD.lvm α)*(l.length+(l.map GoD.size).sum)+max (GoD.lv α) (GoD.lvm α)*GoD.size a+max (GoD.lv α) (GoD.lvm α):=by
    simp only[List.length_cons,yN,List.sum_cons];rw[←yZ,←Nat.mul_succ]
    congr 1
    omega
   rw[e3];simp only[Sm];omega
theorem Xe {w:E} {g:S} {o:Obj} (h:w.heap[g]? =O o):g<w.heap.size:=(Array.getElem?_eq_some_iff.1 h).1
theorem RW {L:U S} {w:E} {cs:U I} {l:U α} (h:Qn2 L w cs l):rdS w cs l:=by
 obtain ⟨_,⟨rfl,rfl,oa,rfl⟩ | ⟨g,cap,cur,e,Ls,rfl,hg,hl,hm,hs,rfl,hLs,hel⟩⟩:=h
 . exact ⟨oa,0,rfl,zP _,zZ _,λi a hi=>by simp at hi⟩
 refine ⟨_,cap,rfl,hl,hm,λi a hi=>⟨g,0,(cur.toList.drop (i*GoD.n α)).take (GoD.n α),rfl, ?_, ?_, ?_⟩⟩
 . have hi':i<l.length:=(zN.1 hi).1;simp only[List.length_take,List.length_drop,Array.length_toList,hs]
   have:i*GoD.n α+GoD.n α<=cap*GoD.n α:=by
    have:=zJ (GoD.n α) (show i+1<=cap by omega)
    rwa [yE,yF] at this
   omega
 . intro j v hj;rw[zK] at hj;split at hj
   . rw[zY] at hj;simp only[World.cell?,hg];simpa [yB] using hj
   cases hj
 obtain ⟨Li,hLi⟩:∃Li,Ls[i]? =O Li:=by
  have hi':i<l.length:=(zN.1 hi).1;exact ⟨_,zD (by omega)⟩
 exact GoD.own_rd (hel i Li a hLi hi)
theorem Ef {Ls:U (U S)} {i:S} {Li:U S} (h:Ls[i]? =O Li) {b:S} (hb:b∈Li):b∈Ls.flatten:=
 yP.2 ⟨Li,List.mem_of_getElem? h,hb⟩
instance instGoDList:GoD (U α) where
 n:=1
 rd:=rdS
 own:=Qn2
 size l:=l.length+(l.map GoD.size).sum
 mark:=Sm
 markT:=Sm
 rd_len:=by
  rintro w cs a ⟨oa,cap,rfl,_⟩
  rfl
 rd_same:=by
  rintro w w' cs l ⟨oa,cap,rfl,hl,hm,hel⟩ hb
  refine ⟨oa,cap,rfl,hl,hm,λi a hi=> ?_⟩;obtain ⟨b,off,ce,rfl,hlen,hc,hr⟩:=hel i a hi;refine ⟨b,off,ce,rfl,hlen,λj v hj=> ?_,GoD.rd_same hr hb⟩;have h1:=hc j v hj;rw[World.cell?_of_block (hb b (World.block_lt_of_cell? _ _ h1))];exact h1
 own_same:=by
  rintro L w w' cs l ⟨hn,h⟩ hb
  refine ⟨hn, ?_⟩;rcases h with h | ⟨g,cap,cur,e,Ls,rfl,hg,hl,hm,hs,rfl,hLs,hel⟩
  . exact .inl h
  refine .inr ⟨g,cap,cur,e,Ls,rfl,(hb g (by simp)).trans hg,hl,hm,hs,rfl,hLs,λi Li a hLi hi=> ?_⟩;exact GoD.own_same (hel i Li a hLi hi) (λb hm=>hb b (zM _ (Ef hLi hm)))
 own_rd:=RW
 own_lt:=by
  rintro L w cs l ⟨hn,h⟩ b hb
  rcases h with ⟨_,rfl,_⟩ | ⟨g,cap,cur,e,Ls,rfl,hg,hl,hm,hs,rfl,hLs,hel⟩
  . simp at hb
  rcases yD.1 hb with rfl | hb
  . exact Xe hg
  obtain ⟨Li,hLi,hm⟩:=yP.1 hb;obtain ⟨i,hi,rfl⟩:=yI hLi;exact GoD.own_lt (hel i _ _ (zD hi) (zD (by omega:i<l.length))) b hm
 own_nd h:=h.1
 deq:= @instDecidableEqList _ GoD.deq
 mk_le:=DA
 mkT_le:=DA
 lv:=0
 lvm:=max (GoD.lv α) (GoD.lvm α)
 mk_bd:=DB
 mkT_bd:=DB
end
def Ret (w:E) (v:I) (e:Ending) (w':E):Prop:=e= .returned v/\Below w.heap.size w w'
end
section
open Go.RowKit
open GoD (rd own)
theorem Ir {W w1:E} (hb:Below W.heap.size W w1):∀b o,b<W.heap.size->w1.cell? ⟨b,o,G⟩=W.cell? ⟨b,o,G⟩:=λb o h=>hb.cell (p:=⟨b,o,G⟩) h
theorem F7 {w W w':E} (h1:Below w.heap.size w W) (hb:Below W.heap.size W w'):Below w.heap.size w w':=h1.trans (hb.mono h1.size)
structure Back (w W w':E):Prop where
 here:Below W.heap.size W w'
 all:Below w.heap.size w w'
theorem P8 {P:uF} {f:FuncId} {args:uG I} {W w:E} {v:I} {R:Ending->E->Prop} (hc:Calls P f args W (Ret W v)) (h0:Below w.heap.size w W)
 (k:∀w',Below w.heap.size w w'->Below W.heap.size W w'->w.heap.size<=w'.heap.size->W.heap.size<=w'.heap.size->R (.returned v) w'):Calls P f args W R:=
 hc.mono λe w' ⟨he,hb⟩=>by
  subst he;have h1:=F7 h0 hb;exact k w' h1 hb h1.size hb.size
section
variable {α β:Type} [GoD α] [GoD β]
def RetA (w:E) (a:α) (e:Ending) (w':E):Prop:=∃cs L,e= .returned (.agg cs.toArray)/\Below w.heap.size w w'/\own L w' cs a/\∀b,b∈L->w.heap.size<=b
def RetS (w:E) (a:α) (e:Ending) (w':E):Prop:=∃v L,e= .returned v/\Below w.heap.size w w'/\own L w' [v] a/\∀b,b∈L->w.heap.size<=b
def Qp2 (w:E) (a:α) (e:Ending) (w':E):Prop:=∃cs,e= .returned (.agg cs.toArray)/\Below w.heap.size w w'/\rd w' cs a
def Qp3 (w:E) (a:α) (e:Ending) (w':E):Prop:=∃v,e= .returned v/\Below w.heap.size w w'/\rd w' [v] a
theorem RetA.rd {w:E} {a:α} {e:Ending} {w':E} (h:RetA w a e w'):Qp2 w a e w':=
 let ⟨cs,_,he,hb,ho,_⟩:=h
 ⟨cs,he,hb,GoD.own_rd ho⟩
theorem RetS.rd {w:E} {a:α} {e:Ending} {w':E} (h:RetS w a e w'):Qp3 w a e w':=
 let ⟨v,_,he,hb,ho,_⟩:=h
 ⟨v,he,hb,GoD.own_rd ho⟩
theorem Oq (w:E) (g o:S) (v:I) {cur:uG I} {e:uH} {fr:S×S} (h:w.heap[g]? =O (.cells cur e fr)):
 (w.setCell ⟨g,o,G⟩ v).heap[g]? =O (.cells (cur.setIfInBounds o v) e fr):=by
 simp[World.setCell,yU,h]
theorem Ot (w:E) (g o:S) (v:I) {b:S} (h:b≠g):(w.setCell ⟨g,o,G⟩ v).heap[b]? =w.heap[b]? :=by
 simp only[World.setCell,yU];rw[uK (by omega)]
def putCells (cur:uG I):S->U I->uG I
 | _, []=>cur
 | o,v::r=>putCells (cur.setIfInBounds o v) (o+1) r
theorem Gn (g:S):∀(vs:U I) (o:S) (w:E) {cur:uG I} {e:uH} {fr:S×S},w.heap[g]? =O (.cells cur e fr)->
 (w.setCells g o vs).heap[g]? =O (.cells (putCells cur o vs) e fr)
 | [],_,_,_,_,_,h=>h
 | v::r,o,w,_,_,_,h=>Gn g r (o+1) _ (Oq w g o v h)
theorem Gp (g:S) {b:S} (hb:b≠g):∀(vs:U I) (o:S) (w:E),(w.setCells g o vs).heap[b]? =w.heap[b]?
 | [],_,_=>rfl
 | v::r,o,w=>(Gp g hb r (o+1) _).trans (Ot w g o v hb)
theorem Th (g:S):∀(vs:U I) (o:S) (w:E),(w.setCells g o vs).heap.size=w.heap.size
 | [],_,_=>rfl
 | v::r,o,w=>(Th g r (o+1) _).trans (World.size_setCell ..)
theorem G6:∀(vs:U I) (o:S) (cur:uG I),(putCells cur o vs).size=cur.size
 | [],_,_=>rfl
 | v::r,o,cur=>(G6 r (o+1) _).trans (by simp)
theorem F8:∀(vs:U I) (o:S) (cur:uG I) (j:S),(j<o\/o+vs.length<=j)->(putCells cur o vs)[j]? =cur[j]?
 | [],_,_,_,_=>rfl
 | v::r,o,cur,j,h=>by
   rw[putCells,F8 r (o+1) _ j (by simp at h;omega),zU,uK (by simp at h;omega)]
theorem Sn:∀(vs:U I) (o:S) (cur:uG I) (j:S),o+vs.length<=cur.size->j<vs.length->(putCells cur o vs)[o+j]? =vs[j]?
 | v::r,o,cur,0,h,_=>by
   rw[putCells,F8 r (o+1) _ _ (by omega),zU,uL (by omega),uL (by simp at h;omega)];rfl
 | v::r,o,cur,j+1,h,hj=>by
   rw[putCells,show o+(j+1)=o+1+j by omega,Sn r (o+1) _ j (by simp at h⊢;omega) (by simpa using hj)];simp
theorem Eg {l:U I} {o n j:S} (hj:j<n):((l.drop o).take n)[j]? =l[o+j]? :=by
 rw[zK,uL hj,zY]
theorem Qcy {cur:uG I} {o:S} {vs:U I} (h:o+vs.length<=cur.size):((putCells cur o vs).toList.drop o).take vs.length=vs:=by
 apply yM;intro j;by_cases hj:j<vs.length
 . rw[Eg hj,zG,Sn vs o cur j h hj]
 rw[zK,uK hj,yC (by omega)]
theorem GI {cur:uG I} {o o' n:S} {vs:U I} (h:o'+n<=o\/o+vs.length<=o'):((putCells cur o vs).toList.drop o').take n=(cur.toList.drop o').take n:=by
 apply yM;intro j;by_cases hj:j<n
 . rw[Eg hj,Eg hj,zG,zG,F8 vs o cur _ (by omega)]
 rw[zK,uK hj,zK,uK hj]
theorem DC {L:U S} {B g:S} (h:∀b,b∈L->B<=b) (hg:g<B):g∉L:=λhm=>by have:=h g hm;omega
theorem Qhi {L1 L2:U S} {w:E} {c1 c2:U I} {a:α} {b:β} (h1:own L1 w c1 a) (h2:own L2 w c2 b) (hd:∀x,x∈L1->x∉L2):own (L1++L2) w (c1++c2) (a,b):=
 ⟨List.nodup_append.2 ⟨GoD.own_nd h1,GoD.own_nd h2,λx hx y hy e=>hd x hx (e▸hy)⟩,c1,c2,L1,L2,rfl,rfl,h1,h2⟩
def Part (w:E) (g cap:S) (e:uH) (l:U α) (k:S):Prop:=
 ∃ (cur:uG I) (Ls:U (U S)),w.heap[g]? =O (.cells cur e (0,0))/\cur.size=cap*GoD.n α/\Ls.length=k/\Ls.flatten.Nodup/\(∀b,b∈Ls.flatten->g<b)/\
   ∀i Li a,Ls[i]? =O Li->l[i]? =O a->own Li w ((cur.toList.drop (i*GoD.n α)).take (GoD.n α)) a
theorem Part.start {w:E} {g cap:S} {e:uH} {cur:uG I} (h:w.heap[g]? =O (.cells cur e (0,0))) (hs:cur.size=cap*GoD.n α) (l:U α):Part w g cap e l 0:=
 ⟨cur, [],h,hs,rfl,by simp,by simp,by simp⟩
theorem Part.block {w:E} {g cap:S} {e:uH} {l:U α} {k:S} (h:Part w g cap e l k):∃cur,w.heap[g]? =O (.cells cur e (0,0))/\cur.size=cap*GoD.n α:=
 let ⟨cur,_,h1,h2,_⟩:=h;⟨cur,h1,h2⟩
theorem Part.lt {w:E} {g cap:S} {e:uH} {l:U α} {k:S} (h:Part w g cap e l k):g<w.heap.size:=by
 obtain ⟨cur,h1,_⟩:=h.block;exact Xe h1
theorem Part.step {wr w2:E} {g cap:S} {e:uH} {l:U α} {k:S} {L:U S} {ce:U I} {a:α} (h:Part wr g cap e l k) (hb:Below wr.heap.size wr w2) (hk:k<cap) (hl:k<=l.length)
 (ha:l[k]? =O a) (ho:own L w2 ce a) (hL:∀b,b∈L->wr.heap.size<=b):Part (w2.setCells g (k*GoD.n α) ce) g cap e l (k+1):=by
 obtain ⟨cur,Ls,hg,hs,hlen,hnd,hgt,hel⟩:=h;have hglt:g<wr.heap.size:=Xe hg
 have hin:∀b,b∈Ls.flatten->b<wr.heap.size:=λb hb'=>by
  obtain ⟨Li,hLi,hm⟩:=yP.1 hb';obtain ⟨i,hi,rfl⟩:=yI hLi;exact GoD.own_lt (hel i _ _ (zD hi) (zD (by omega:i<l.length))) b hm
 have hcl:ce.length=GoD.n α:=GoD.rd_len (GoD.own_rd ho)
 have hroom:k*GoD.n α+GoD.n α<=cap*GoD.n α:=by
  have:=zJ (GoD.n α) (show k+1<=cap by omega)
  rwa [yE,yF] at this
 refine ⟨putCells cur (k*GoD.n α) ce,Ls++ [L],Gn g ce _ _ ((hb.block g hglt).trans hg),by rw[G6];exact hs,by simp[hlen], ?_, ?_, ?_⟩
 . rw[yW];simp only[List.flatten_cons,List.flatten_nil,List.append_nil];exact List.nodup_append.2 ⟨hnd,GoD.own_nd ho,λx hx y hy e=>by have:=hin x hx;have:=hL y hy;omega⟩
 . intro b hb';rw[yW] at hb';simp only[List.flatten_cons,List.flatten_nil,List.append_nil,yG] at hb';rcases hb' with hb' | hb'
   . exact hgt b hb'
   have:=hL b hb';omega
 intro i Li x hi hx
 have keep:∀{M:U S} {cs:U I} {y:α},own M w2 cs y->g∉M->own M (w2.setCells g (k*GoD.n α) ce) cs y:=λh hg'=>
  GoD.own_same h λb hb'=>Gp g (λe=>hg' (e▸hb')) _ _ _
 by_cases hik:i<k
 . rw[zR (by omega)] at hi
   rw[GI (.inl (by
    have:=zJ (GoD.n α) (show i+1<=k by omega)
    rwa [yE,yF] at this))]
   refine keep (GoD.own_same (hel i Li x hi hx) λb hb'=>hb.block b (hin b (Ef hi hb'))) (λhm=> ?_);have:=hgt g (Ef hi hm);omega
 have hile:i<(Ls++ [L]).length:=(zN.1 hi).1;simp[hlen] at hile;obtain rfl:i=k:=by omega
 rw[zQ (by omega),hlen] at hi;simp at hi;subst hi;rw[ha] at hx;obtain rfl:a=x:=by simpa using hx
 rw[show GoD.n α=ce.length from hcl.symm] at hroom⊢;rw[Qcy (by rw[hs,←hcl];exact hroom)];rw[hcl];exact keep ho (DC hL hglt)
theorem Part.done {w:E} {g:S} {e:uH} {l:U α} (h:Part w g l.length e l l.length) (hm:l.length<=uI):∃L,own L w [.slice (O ⟨g,0,G⟩) l.length l.length] l/\∀b,b∈L->g<=b:=by
 obtain ⟨cur,Ls,hg,hs,hlen,hnd,hgt,hel⟩:=h;refine ⟨g::Ls.flatten,⟨List.nodup_cons.2 ⟨λhm=>by have:=hgt g hm;omega,hnd⟩,.inr ⟨g,l.length,cur,e,Ls,rfl,hg,zP _,hm,hs,rfl,hlen,hel⟩⟩,λb hb=> ?_⟩;rcases yD.1 hb with rfl | hb
 . exact zP _
 exact Nat.le_of_lt (hgt b hb)
end
theorem KX {α:Type} [GoD α] {w:E} {v:I} {l:U α} (h:rd w [v] l):∃oa cap,v= .slice oa l.length cap:=by
 obtain ⟨oa,cap,e,_⟩:=h;exact ⟨oa,cap,by simpa using e⟩
theorem GJ {α:Type} [GoD α] {L:U S} {w:E} {v:I} {l:U α} (h:own L w [v] l):∃oa cap,v= .slice oa l.length cap:=KX (GoD.own_rd h)
def szq (t:S) (left r:uE):Prop:=(r=left-t/\0<=left-t)\/(r= -1/\left-t<0)
def Fe (w:E) (t:S) (left:uE) (e:Ending) (w':E):Prop:=∃r,e= .returned (.int .i64 r)/\szq t left r/\Below w.heap.size w w'
theorem K9 {P:uF} {f:FuncId} {args:uG I} {W w:E} {t:S} {left:uE} {R:Ending->E->Prop} (hc:Calls P f args W (Fe W t left)) (h0:Below w.heap.size w W)
 (k:∀w' r,Below w.heap.size w w'->Below W.heap.size W w'->w.heap.size<=w'.heap.size->W.heap.size<=w'.heap.size->szq t left r->(-1<=r/\(r<=left\/r<0))->R (.returned (.int .i64 r)) w'):Calls P f args W R:=
 hc.mono λe w' ⟨r,he,hr,hb⟩=>by
  subst he;have h1:=F7 h0 hb;exact k w' r h1 hb h1.size hb.size hr (by unfold szq at hr;omega)
section
variable {α:Type} [GoD α]
theorem Ml (l:U α):GoD.size l=l.length+(l.map GoD.size).sum:=rfl
theorem DD (l:U α):l.length<=GoD.size l:=by rw[Ml];omega
theorem Ft {l:U α} {i:S} {a:α} (h:l[i]? =O a):((l.take (i+1)).map GoD.size).sum=((l.take i).map GoD.size).sum+GoD.size a:=by
 rw[List.take_add_one,h];simp
theorem GK (l:U α) (i:S):((l.take i).map GoD.size).sum<=(l.map GoD.size).sum:=by
 have h:(l.map GoD.size).sum=((l.take i).map GoD.size).sum+((l.drop i).map GoD.size).sum:=by
  rw[←List.sum_append_nat,←List.map_append,List.take_append_drop]
 omega
theorem Hv {l:U α} {i:S} {a:α} (h:l[i]? =O a):((l.take i).map GoD.size).sum+GoD.size a<=(l.map GoD.size).sum:=by
 rw[←Ft h];exact GK l _
theorem DE {l:U α} {i:S} {a:α} (h:l[i]? =O a):GoD.size a<=GoD.size l:=by
 have:=Hv h;rw[Ml];omega
theorem RX (l:U α) (h:∀a:α,GoD.size a=0):(l.map GoD.size).sum=0:=by
 induction l with
 | nil=>rfl
 | cons a l ih=>simp[h a,ih]
end
theorem Qk7 {P:uF} {e:uH} {n:S} (h:(P.info? e).map (λi=>(i.zero.map (·.cells.size),i.size,decide (i.bytes<=1000)))=O (O n,n,uA)):
 ∃i z,P.info? e=O i/\i.zero=O z/\i.size=n/\z.cells.size=n/\i.bytes<=1000:=by
 obtain ⟨i,hi,h⟩:=zO.1 h;simp only[Prod.mk.injEq,uQ] at h;obtain ⟨h1,h2,h3⟩:=h;obtain ⟨z,hz,hzn⟩:=zO.1 h1;exact ⟨i,z,hi,hz,h2,hzn,h3⟩
end
section
open Go.RowKit
def Cap (m cap:S):Prop:=cap<=uI/\m<=1073741824
inductive PV where
 | int (k:uJ) (n:uE)
 | bool (b:uB)
 | str (s:uM)
 | slc (n:S) (l:U (U PV))
 | any
 | raw (v:I)
def InR (k:uJ) (n:uE):Prop:=k.min<=n/\n<=k.max
theorem P9 (k:uJ) (n:uE):InR k (k.wrap n):=by
 cases k<;>simp[InR,IntKind.wrap,IntKind.min,IntKind.max,IntKind.bits,IntKind.signed]<;>(try split)<;>omega
theorem So (n:uE):InR .i64 n↔I64 n:=by
 simp[InR,I64,IntKind.min,IntKind.max,IntKind.bits,IntKind.signed]
section
variable (X:S->Prop) (w:E)
mutual
inductive VV:I->PV->Prop
 | int {k:uJ} {n:uE}:InR k n->VV (.int k n) (.int k n)
 | bool (b:uB):VV (.bool b) (.bool b)
 | str {s:uM}:s.size<=uI->VV (.string s) (.str s)
 | emp (oa:uC Addr) {cap:S} (n:S):cap<=uI->VV (.slice oa 0 cap) (.slc n [])
 | any {v:I}:v.cells= #[v]->v.oneCell'=uA->VV v .any
 | raw {v:I}:v.cells= #[v]->v.oneCell'=uA->VV v (.raw v)
 | slc {b off cap n:S} {cs:U I} {l:U (U PV)}:X b->(∀j u,cs[j]? =O u->w.cell? ⟨b,off+j,G⟩=O u)->VR n cs l->l.length<=cap->Cap l.length cap->
  VV (.slice (O ⟨b,off,G⟩) l.length cap) (.slc n l)
inductive VC:U I->U PV->Prop
 | nil:VC [] []
 | cons {v:I} {p:PV} {vs:U I} {ps:U PV}:VV v p->VC vs ps->VC (v::vs) (p::ps)
inductive VR:S->U I->U (U PV)->Prop
 | nil (n:S):VR n [] []
 | cons {n:S} {ce cs:U I} {r:U PV} {l:U (U PV)}:VC ce r->r.length=n->VR n cs l->VR n (ce++cs) (r::l)
end
mutual
inductive OV:U S->I->PV->Prop
 | int {k:uJ} {n:uE}:InR k n->OV [] (.int k n) (.int k n)
 | bool (b:uB):OV [] (.bool b) (.bool b)
 | str {s:uM}:s.size<=uI->OV [] (.string s) (.str s)
 | emp (oa:uC Addr) (n:S):OV [] (.slice oa 0 0) (.slc n [])
 | any {v:I}:v.cells= #[v]->v.oneCell'=uA->OV [] v .any
 | raw {v:I}:v.cells= #[v]->v.oneCell'=uA->OV [] v (.raw v)
 | slc {g cap n:S} {cur:uG I} {e:uH} {L:U S} {l:U (U PV)}:w.heap[g]? =O (.cells cur e (0,0))->cur.size=cap*n->OR n L (cur.toList.take (l.length*n)) l->l.length<=cap->Cap l.length cap->
  OV (g::L) (.slice (O ⟨g,0,G⟩) l.length cap) (.slc n l)
inductive OC:U S->U I->U PV->Prop
 | nil:OC [] [] []
 | cons {L1 L2:U S} {v:I} {p:PV} {vs:U I} {ps:U PV}:OV L1 v p->OC L2 vs ps->OC (L1++L2) (v::vs) (p::ps)
inductive OR:S->U S->U I->U (U PV)->Prop
 | nil (n:S):OR n [] [] []
 | cons {n:S} {L1 L2:U S} {ce cs:U I} {r:U PV} {l:U (U PV)}:OC L1 ce r->r.length=n->OR n L2 cs l->OR n (L1++L2) (ce++cs) (r::l)
end
end
section
variable {X X':S->Prop} {w w':E}
mutual
theorem VV.keep (hX:∀b,X b->X' b/\w'.heap[b]? =w.heap[b]?):∀{v:I} {p:PV},VV X w v p->VV X' w' v p
 | _,_,.int h=> .int h
 | _,_,.bool b=> .bool b
 | _,_,.str h=> .str h
 | _,_,.emp oa n h=> .emp oa n h
 | _,_,.any h1 h2=> .any h1 h2
 | _,_,.raw h1 h2=> .raw h1 h2
 | _,_,.slc hb hc hr h1 h2=> .slc (hX _ hb).1 (λj u hj=>by rw[World.cell?_of_block (hX _ hb).2];exact hc j u hj) (VR.keep hX hr) h1 h2
theorem VC.keep (hX:∀b,X b->X' b/\w'.heap[b]? =w.heap[b]?):∀{vs:U I} {ps:U PV},VC X w vs ps->VC X' w' vs ps
 | _,_,.nil=> .nil
 | _,_,.cons h1 h2=> .cons (VV.keep hX h1) (VC.keep hX h2)
theorem VR.keep (hX:∀b,X b->X' b/\w'.heap[b]? =w.heap[b]?):∀{n:S} {cs:U I} {l:U (U PV)},VR X w n cs l->VR X' w' n cs l
 | _,_,_,.nil n=> .nil n
 | _,_,_,.cons h1 h2 h3=> .cons (VC.keep hX h1) h2 (VR.keep hX h3)
end
theorem VV.anyOf {v:I} {p:PV} (h:VV X w v p):VV X' w' v .any:=by
 cases h with
 | any h1 h2=>exact .any h1 h2
 | raw h1 h2=>exact .any h1 h2
 | _=>exact .any rfl rfl
theorem VC.anys:∀{vs:U I} {ps:U PV},VC X w vs ps->VC X' w' vs (ps.map λ_=> .any)
 | _,_,.nil=> .nil
 | _,_,.cons h1 h2=> .cons h1.anyOf (VC.anys h2)
theorem VC.length {vs:U I} {ps:U PV}:VC X w vs ps->vs.length=ps.length
 | .nil=>rfl
 | .cons _ h=>uO (· +1) (VC.length h)
theorem VR.length:∀{n:S} {cs:U I} {l:U (U PV)},VR X w n cs l->cs.length=l.length*n
 | _,_,_,.nil n=>by simp
 | _,_,_,.cons h1 h2 h3=>by rw[List.length_append,VC.length h1,VR.length h3,h2,List.length_cons,yE,yF,yB]
theorem VC.append {vs vs':U I} {ps ps':U PV} (h':VC X w vs' ps'):VC X w vs ps->VC X w (vs++vs') (ps++ps')
 | .nil=>h'
 | .cons h1 h2=> .cons h1 (VC.append h' h2)
theorem VR.append {cs':U I} {l':U (U PV)}:∀{n:S} {cs:U I} {l:U (U PV)},VR X w n cs' l'->VR X w n cs l->VR X w n (cs++cs') (l++l')
 | _,_,_,h',.nil _=>h'
 | _,_,_,h',.cons h1 h2 h3=>by rw[zS];exact .cons h1 h2 (VR.append h' h3)
theorem VC.drop:∀(k:S) {vs:U I} {ps:U PV},VC X w vs ps->VC X w (vs.drop k) (ps.drop k)
 | 0,_,_,h=>h
 | _+1,_,_,.nil=> .nil
 | k+1,_,_,.cons _ h=>VC.drop k h
theorem VC.take:∀(k:S) {vs:U I} {ps:U PV},VC X w vs ps->VC X w (vs.take k) (ps.take k)
 | 0,_,_,_=> .nil
 | _+1,_,_,.nil=> .nil
 | k+1,_,_,.cons h1 h=> .cons h1 (VC.take k h)
theorem VR.drop:∀(k:S) {n:S} {cs:U I} {l:U (U PV)},VR X w n cs l->VR X w n (cs.drop (k*n)) (l.drop k)
 | 0,_,_,_,h=>by simpa using h
 | _+1,_,_,_,.nil n=>by simpa using VR.nil n
 | k+1,_,_,_,.cons (n:=n) (ce:=ce) (cs:=cs) h1 h2 h3=>by
   have hl:(k+1)*n=ce.length+k*n:=by rw[VC.length h1,h2,yE,yF,yB]
   rw[hl,List.drop_length_add_append,List.drop_succ_cons];exact VR.drop k h3
theorem VR.take:∀(k:S) {n:S} {cs:U I} {l:U (U PV)},VR X w n cs l->VR X w n (cs.take (k*n)) (l.take k)
 | 0,_,_,_,_=>by simpa using VR.nil _
 | _+1,_,_,_,.nil n=>by simpa using VR.nil n
 | k+1,_,_,_,.cons (n:=n) (ce:=ce) (cs:=cs) h1 h2 h3=>by
   have hl:(k+1)*n=ce.length+k*n:=by rw[VC.length h1,h2,yE,yF,yB]
   rw[hl,List.take_length_add_append,List.take_succ_cons];exact .cons h1 h2 (VR.take k h3)
theorem VR.get {n:S} {cs:U I} {l:U (U PV)} (h:VR X w n cs l) {i:S} {r:U PV} (hi:l[i]? =O r):VC X w ((cs.drop (i*n)).take n) r/\r.length=n:=by
 have hd:=VR.drop i h;obtain ⟨hlt,rfl⟩:=zN.1 hi;rw[yK hlt] at hd;generalize hr:l[i]=r at hd⊢;generalize hc:cs.drop (i*n)=c at hd⊢;cases hd with
 | cons h1 h2 h3=>
   have hl:=VC.length h1;rw[h2] at hl;rw[←hl,List.take_left];exact ⟨h1,h2.trans hl.symm⟩
end
section
variable {w w':E}
mutual
theorem OV.keep:∀{L:U S} {v:I} {p:PV},OV w L v p->(∀b,b∈L->w'.heap[b]? =w.heap[b]?)->OV w' L v p
 | _,_,_,.int h,_=> .int h
 | _,_,_,.bool b,_=> .bool b
 | _,_,_,.str h,_=> .str h
 | _,_,_,.emp oa n,_=> .emp oa n
 | _,_,_,.any h1 h2,_=> .any h1 h2
 | _,_,_,.raw h1 h2,_=> .raw h1 h2
 | _,_,_,.slc hg hs hr h1 h2,hL=> .slc ((hL _ (zL)).trans hg) hs (OR.keep hr λb hb=>hL b (zM _ hb)) h1 h2
theorem OC.keep:∀{L:U S} {vs:U I} {ps:U PV},OC w L vs ps->(∀b,b∈L->w'.heap[b]? =w.heap[b]?)->OC w' L vs ps
 | _,_,_,.nil,_=> .nil
 | _,_,_,.cons h1 h2,hL=> .cons (OV.keep h1 λb hb=>hL b (zW _ hb)) (OC.keep h2 λb hb=>hL b (zV _ hb))
theorem OR.keep:∀{n:S} {L:U S} {cs:U I} {l:U (U PV)},OR w n L cs l->(∀b,b∈L->w'.heap[b]? =w.heap[b]?)->OR w' n L cs l
 | _,_,_,_,.nil n,_=> .nil n
 | _,_,_,_,.cons h1 h2 h3,hL=> .cons (OC.keep h1 λb hb=>hL b (zW _ hb)) h2 (OR.keep h3 λb hb=>hL b (zV _ hb))
end
mutual
theorem OV.vv {X:S->Prop}:∀{L:U S} {v:I} {p:PV},OV w L v p->(∀b,b∈L->X b)->VV X w v p
 | _,_,_,.int h,_=> .int h
 | _,_,_,.bool b,_=> .bool b
 | _,_,_,.str h,_=> .str h
 | _,_,_,.emp oa n,_=> .emp oa n (zZ _)
 | _,_,_,.any h1 h2,_=> .any h1 h2
 | _,_,_,.raw h1 h2,_=> .raw h1 h2
 | _,_,_,.slc hg hs hr h1 h2,hL=> .slc (hL _ (zL)) (λj u hj=>by
  rw[zK] at hj;split at hj
  . rw[zG] at hj;simp[World.cell?,hg,hj]
  cases hj) (OR.vr hr λb hb=>hL b (zM _ hb)) h1 h2
theorem OC.vc {X:S->Prop}:∀{L:U S} {vs:U I} {ps:U PV},OC w L vs ps->(∀b,b∈L->X b)->VC X w vs ps
 | _,_,_,.nil,_=> .nil
 | _,_,_,.cons h1 h2,hL=> .cons (OV.vv h1 λb hb=>hL b (zW _ hb)) (OC.vc h2 λb hb=>hL b (zV _ hb))
theorem OR.vr {X:S->Prop}:∀{n:S} {L:U S} {cs:U I} {l:U (U PV)},OR w n L cs l->(∀b,b∈L->X b)->VR X w n cs l
 | _,_,_,_,.nil n,_=> .nil n
 | _,_,_,_,.cons h1 h2 h3,hL=> .cons (OC.vc h1 λb hb=>hL b (zW _ hb)) h2 (OR.vr h3 λb hb=>hL b (zV _ hb))
end
mutual
theorem OV.lt:∀{L:U S} {v:I} {p:PV},OV w L v p->∀b,b∈L->b<w.heap.size
 | _,_,_,.int _,b,hb=>by simp at hb
 | _,_,_,.bool _,b,hb=>by simp at hb
 | _,_,_,.str _,b,hb=>by simp at hb
 | _,_,_,.emp _ _,b,hb=>by simp at hb
 | _,_,_,.any _ _,b,hb=>by simp at hb
 | _,_,_,.raw _ _,b,hb=>by simp at hb
 | _,_,_,.slc hg hs hr h1 h2,b,hb=>by
   rcases yD.1 hb with rfl | hb
   . exact Xe hg
   exact OR.lt hr b hb
theorem OC.lt:∀{L:U S} {vs:U I} {ps:U PV},OC w L vs ps->∀b,b∈L->b<w.heap.size
 | _,_,_,.nil,b,hb=>by simp at hb
 | _,_,_,.cons h1 h2,b,hb=>(yG.1 hb).elim (OV.lt h1 b) (OC.lt h2 b)
theorem OR.lt:∀{n:S} {L:U S} {cs:U I} {l:U (U PV)},OR w n L cs l->∀b,b∈L->b<w.heap.size
 | _,_,_,_,.nil n,b,hb=>by simp at hb
 | _,_,_,_,.cons h1 h2 h3,b,hb=>(yG.1 hb).elim (OC.lt h1 b) (OR.lt h3 b)
end
theorem OC.append {L':U S} {vs':U I} {ps':U PV} (h':OC w L' vs' ps'):∀{L:U S} {vs:U I} {ps:U PV},OC w L vs ps->OC w (L++L') (vs++vs') (ps++ps')
 | _,_,_,.nil=>h'
 | _,_,_,.cons h1 h2=>by rw[zS];exact .cons h1 (OC.append h' h2)
theorem OR.append {L':U S} {cs':U I} {l':U (U PV)}:∀{n:S} {L:U S} {cs:U I} {l:U (U PV)},OR w n L' cs' l'->OR w n L cs l->OR w n (L++L') (cs++cs') (l++l')
 | _,_,_,_,h',.nil _=>h'
 | _,_,_,_,h',.cons h1 h2 h3=>by rw[zS,zS];exact .cons h1 h2 (OR.append h' h3)
def PV.flat:PV->Prop
 | .slc _ _=>False
 | .any=>False
 | .raw _=>False
 | _=>True
theorem VV.ov {X:S->Prop} {v:I} {p:PV} (h:VV X w v p) (hp:p.flat):OV w' [] v p:=by
 cases h with
 | int h=>exact .int h
 | bool b=>exact .bool b
 | str h=>exact .str h
 | emp oa n h=>exact hp.elim
 | any=>exact hp.elim
 | raw=>exact hp.elim
 | slc=>exact hp.elim
theorem VC.oc {X:S->Prop}:∀{vs:U I} {ps:U PV},VC X w vs ps->(∀p,p∈ps->p.flat)->OC w' [] vs ps
 | _,_,.nil,_=> .nil
 | _,_,.cons h1 h2,hp=>OC.cons (L1:= []) (L2:= []) (VV.ov h1 (hp _ zL)) (VC.oc h2 λp hm=>hp p (zM _ hm))
theorem VR.orr {X:S->Prop}:∀{n:S} {cs:U I} {l:U (U PV)},VR X w n cs l->(∀r,r∈l->∀p,p∈r->p.flat)->OR w' n [] cs l
 | _,_,_,.nil n,_=> .nil n
 | _,_,_,.cons h1 h2 h3,hp=>OR.cons (L1:= []) (L2:= []) (VC.oc h1 (hp _ zL)) h2 (VR.orr h3 λr hm=>hp r (zM _ hm))
theorem OR.length {n:S} {L:U S} {cs:U I} {l:U (U PV)} (h:OR w n L cs l):cs.length=l.length*n:=VR.length (X:=λb=>b∈L) (OR.vr h λ_ hb=>hb)
theorem OC.length {L:U S} {vs:U I} {ps:U PV} (h:OC w L vs ps):vs.length=ps.length:=VC.length (X:=λb=>b∈L) (OC.vc h λ_ hb=>hb)
end
end
section
open Go.RowKit
inductive Tok where
 | sh
 | emp
 | own (d:uB) (k:S)
 | vw (k:S)
 | put (d:uB) (m i o:S) (cs:U PV)
inductive C where
 | int (k:uJ) (n:uE)
 | bool (b:uB)
 | str (s:uM)
 | slc (t:Tok) (n:S) (l:U (U PV))
 | ptr (k off:S)
 | rptr (t:Tok) (cs:U PV)
 | ept (d:uB) (k n i o:S) (cs:U PV)
 | fn (f:S) (caps:U (S×S))
 | fnr (f:S) (caps:U (U PV))
 | raw (v:I)
 | dead
inductive AV where
 | one (c:C)
 | agg (cs:U C)
 | tup (vs:U (uB×U C))
structure Inj where
 F:S->Prop
 L:S->U S
 B:S->S
def Tok.key:Tok->uC S
 | .own _ k=>O k
 | .vw k=>O k
 | _=>G
def C.key:C->uC S
 | .slc t _ _=>t.key
 | .rptr t _=>t.key
 | .ept _ k _ _ _ _=>O k
 | _=>G
def C.bkeys:C->U S
 | .ptr k _=> [k]
 | .fn _ caps=>caps.map (·.1)
 | _=> []
def Rx:uB->S->Tok
 | true,k=> .vw k
 | false,_=> .sh
def Inj.X (J:Inj):Tok->S->Prop
 | .sh,b=>J.F b
 | .vw k,b=>b∈J.L k\/J.F b
 | _,_=>False
def OwnTop (F:S->Prop) (L:U S) (w:E) (v:I) (n:S) (l:U (U PV)):Prop:=
 (l= []/\∃oa,v= .slice oa 0 0)\/∃(g cap:S) (cur:uG I) (e:uH),L= [g]/\v= .slice (O ⟨g,0,G⟩) l.length cap/\w.heap[g]? =O (.cells cur e (0,0))/\cur.size=cap*n/\VR F w n (cur.toList.take (l.length*n)) l/\l.length<=cap/\Cap l.length cap
def OwnDeep (L:U S) (w:E) (v:I) (n:S) (l:U (U PV)):Prop:=
 ∃L',OV w L' v (.slc n l)/\L'.Nodup/\(∀b,b∈L'->b∈L)/\(L'= []\/∃g r r',L'=g::r/\L=g::r')
theorem OwnDeep.of {L:U S} {w:E} {v:I} {n:S} {l:U (U PV)} (h:OV w L v (.slc n l)) (hn:L.Nodup):OwnDeep L w v n l:=by
 refine ⟨L,h,hn,λ_ h=>h, ?_⟩;cases L with
 | nil=>exact .inl rfl
 | cons g r=>exact .inr ⟨g,r,r,rfl,rfl⟩
theorem OwnDeep.keep {L:U S} {w w':E} {v:I} {n:S} {l:U (U PV)} (h:OwnDeep L w v n l) (hL:∀b,b∈L->w'.heap[b]? =w.heap[b]?):OwnDeep L w' v n l:=by
 obtain ⟨L',h1,h2,h3,h4⟩:=h;exact ⟨L',OV.keep h1 λb hb=>hL b (h3 b hb),h2,h3,h4⟩
theorem OwnDeep.vv {X:S->Prop} {L:U S} {w w':E} {v:I} {n:S} {l:U (U PV)} (h:OwnDeep L w v n l) (hL:∀b,b∈L->X b/\w'.heap[b]? =w.heap[b]?):VV X w' v (.slc n l):=by
 obtain ⟨L',h1,_,h3,_⟩:=h;exact (OV.keep h1 λb hb=>(hL b (h3 b hb)).2).vv λb hb=>(hL b (h3 b hb)).1
def Reads (X:S->Prop) (w:E) (v:I) (cs:U PV):Prop:=
 ∃b off vs,v= .pointer (O ⟨b,off,G⟩)/\X b/\VC X w vs cs/\∀(j:S) (u:I),vs[j]? =O u->w.cell? ⟨b,off+j,G⟩=O u
inductive All2 {α β:Type} (R:α->β->Prop):U α->U β->Prop
 | nil:All2 R [] []
 | cons {a:α} {b:β} {l:U α} {m:U β}:R a b->All2 R l m->All2 R (a::l) (b::m)
def CR (J:Inj) (w:E) (v:I):C->Prop
 | .int k n=>v= .int k n/\InR k n
 | .bool b=>v= .bool b
 | .str s=>v= .string s/\s.size<=uI
 | .slc .sh n l=>VV J.F w v (.slc n l)
 | .slc .emp _ l=>l= []/\∃oa,v= .slice oa 0 0
 | .slc (.own uA k) n l=>OwnDeep (J.L k) w v n l
 | .slc (.own uD k) n l=>OwnTop J.F (J.L k) w v n l
 | .slc (.vw k) n l=>VV (J.X (.vw k)) w v (.slc n l)
 | .slc (.put _ _ _ _ _) _ _=>False
 | .ptr k off=>v= .pointer (O ⟨J.B k,off,G⟩)
 | .rptr t cs=>Reads (J.X t) w v cs
 | .ept d k n i o cs=>∃g r vs,J.L k=g::r/\v= .pointer (O ⟨g,i*n+o,G⟩)/\VC (J.X (Rx d k)) w vs cs/\(∀(j:S) (u:I),vs[j]? =O u->w.cell? ⟨g,i*n+o+j,G⟩=O u)/\∃arr e,w.heap[g]? =O (.cells arr e (0,0))
 | .fn f caps=>v= .func (.func f) #[] (caps.map λc=> .pointer (O ⟨J.B c.1,c.2,G⟩)).toArray
 | .fnr f caps=>∃vs:U I,v= .func (.func f) #[] vs.toArray/\All2 (Reads J.F w) vs caps
 | .raw u=>v=u/\v.cells= #[v]/\v.oneCell'=uA
 | .dead=>True
def VA (J:Inj) (w:E) (v:I):uB×U C->Prop
 | (uA,cs)=>∃vs:U I,v= .agg vs.toArray/\All2 (CR J w) vs cs
 | (uD,cs)=>∃c,cs= [c]/\CR J w v c
def AR (J:Inj) (w:E) (v:I):AV->Prop
 | .one c=>CR J w v c
 | .agg cs=>∃vs:U I,v= .agg vs.toArray/\All2 (CR J w) vs cs
 | .tup l=>∃vs:U I,v= .tuple vs.toArray/\All2 (VA J w) vs l
def AV.cells:AV->U C
 | .one c=> [c]
 | .agg cs=>cs
 | .tup l=>l.flatMap (·.2)
def AV.map (f:C->C):AV->AV
 | .one c=> .one (f c)
 | .agg cs=> .agg (cs.map f)
 | .tup l=> .tup (l.map λp=>(p.1,p.2.map f))
section
variable {α β:Type} {R R':α->β->Prop}
theorem All2.imp {l:U α} {m:U β} (h:All2 R l m) (hi:∀a b,b∈m->R a b->R' a b):All2 R' l m:=by
 induction h with
 | nil=>exact .nil
 | cons h1 _ ih=>exact .cons (hi _ _ zL h1) (ih λa b hb=>hi a b (zM _ hb))
theorem All2.length {l:U α} {m:U β} (h:All2 R l m):l.length=m.length:=by
 induction h with
 | nil=>rfl
 | cons _ _ ih=>simp[ih]
theorem All2.append {l l':U α} {m m':U β} (h:All2 R l m) (h':All2 R l' m'):All2 R (l++l') (m++m'):=by
 induction h with
 | nil=>exact h'
 | cons h1 _ ih=>exact .cons h1 ih
theorem All2.drop {l:U α} {m:U β} (h:All2 R l m):∀k,All2 R (l.drop k) (m.drop k):=by
 induction h with
 | nil=>intro k;simp;exact .nil
 | cons h1 h2 ih=>intro k;cases k with
   | zero=>exact .cons h1 h2
   | succ k=>exact ih k
theorem All2.take {l:U α} {m:U β} (h:All2 R l m):∀k,All2 R (l.take k) (m.take k):=by
 induction h with
 | nil=>intro k;simp;exact .nil
 | cons h1 h2 ih=>intro k;cases k with
   | zero=>exact .nil
   | succ k=>exact .cons h1 (ih k)
theorem All2.get {l:U α} {m:U β} (h:All2 R l m):∀{i:S} {a:α},l[i]? =O a->∃b,m[i]? =O b/\R a b:=by
 induction h with
 | nil=>intro i a h;simp at h
 | cons h1 h2 ih=>intro i a h;cases i with
   | zero=>exact ⟨_,rfl,by simp at h;exact h▸h1⟩
   | succ i=>exact ih (by simpa using h)
theorem All2.get' {l:U α} {m:U β} (h:All2 R l m):∀{i:S} {b:β},m[i]? =O b->∃a,l[i]? =O a/\R a b:=by
 induction h with
 | nil=>intro i a h;simp at h
 | cons h1 h2 ih=>intro i a h;cases i with
   | zero=>exact ⟨_,rfl,by simp at h;exact h▸h1⟩
   | succ i=>exact ih (by simpa using h)
theorem All2.map {γ:Type} {Q:α->γ->Prop} (f:β->γ) {l:U α} {m:U β} (h:All2 R l m) (hi:∀a b,b∈m->R a b->Q a (f b)):All2 Q l (m.map f):=by
 induction h with
 | nil=>exact .nil
 | cons h1 _ ih=>exact .cons (hi _ _ zL h1) (ih λa b hb=>hi a b (zM _ hb))
end
theorem VC.all2 {X:S->Prop} {w:E}:∀{vs:U I} {ps:U PV},VC X w vs ps->All2 (VV X w) vs ps
 | _,_,.nil=> .nil
 | _,_,.cons h1 h2=> .cons h1 (VC.all2 h2)
theorem Reads.keep {X X':S->Prop} {w w':E} {v:I} {cs:U PV} (h:Reads X w v cs) (hX:∀b,X b->X' b/\w'.heap[b]? =w.heap[b]?):Reads X' w' v cs:=by
 obtain ⟨b,off,vs,rfl,hb,hv,hc⟩:=h;exact ⟨b,off,vs,rfl,(hX b hb).1,hv.keep hX,λj u hj=>by rw[World.cell?_of_block (hX b hb).2];exact hc j u hj⟩
theorem OwnTop.keep {F F':S->Prop} {L:U S} {w w':E} {v:I} {n:S} {l:U (U PV)} (h:OwnTop F L w v n l) (hF:∀b,F b->F' b/\w'.heap[b]? =w.heap[b]?) (hL:∀b,b∈L->w'.heap[b]? =w.heap[b]?):OwnTop F' L w' v n l:=by
 rcases h with h | ⟨g,cap,cur,e,rfl,hv,hg,hs,hr,h1,h2⟩
 . exact .inl h
 exact .inr ⟨g,cap,cur,e,rfl,hv,(hL g (by simp)).trans hg,hs,hr.keep hF,h1,h2⟩
structure Keeps (J J':Inj) (w w':E) (c:C):Prop where
 F:∀b,J.F b->J'.F b/\w'.heap[b]? =w.heap[b]?
 L:∀k,c.key=O k->J'.L k=J.L k/\∀b,b∈J.L k->w'.heap[b]? =w.heap[b]?
 B:∀k,k∈c.bkeys->J'.B k=J.B k
theorem Keeps.X {J J':Inj} {w w':E} {t:Tok} (hF:∀b,J.F b->J'.F b/\w'.heap[b]? =w.heap[b]?) (hL:∀k,t.key=O k->J'.L k=J.L k/\∀b,b∈J.L k->w'.heap[b]? =w.heap[b]?):
 ∀b,J.X t b->J'.X t b/\w'.heap[b]? =w.heap[b]? :=by
 intro b hb;cases t with
 | sh=>exact hF b hb
 | emp=>exact hb.elim
 | own d k=>exact hb.elim
 | put=>exact hb.elim
 | vw k=>
   obtain ⟨h1,h2⟩:=hL k rfl;rcases hb with hb | hb
   . exact ⟨.inl (by rw[h1];exact hb),h2 b hb⟩
   exact ⟨.inr (hF b hb).1,(hF b hb).2⟩
theorem CR.keep {J J':Inj} {w w':E} {v:I} {c:C} (h:CR J w v c) (hk:Keeps J J' w w' c):CR J' w' v c:=by
 cases c with
 | int | bool | str | raw | dead=>exact h
 | slc t n l=>
   cases t with
   | sh=>exact VV.keep hk.F h
   | emp=>exact h
   | own d k=>
     obtain ⟨h1,h2⟩:=hk.L k rfl;cases d with
     | true=>show OwnDeep (J'.L k) w' v n l;rw[h1];exact OwnDeep.keep h h2
     | false=>show OwnTop J'.F (J'.L k) w' v n l;rw[h1];exact OwnTop.keep h hk.F h2
   | vw k=>exact VV.keep (Keeps.X (t:= .vw k) hk.F hk.L) h
   | put=>exact h.elim
 | ept d k n i o cs=>
   obtain ⟨g,r,vs,h1,h2,h3,h4,arr,ty,h5⟩:=h;obtain ⟨e,hs⟩:=hk.L k rfl;have hg:=hs g (by rw[h1];exact zL);refine ⟨g,r,vs,e.trans h1,h2,h3.keep (Keeps.X (t:=Rx d k) hk.F λk' hk'=> ?_),λj u hj=>by rw[World.cell?_of_block hg];exact h4 j u hj,arr,ty,hg.trans h5⟩;cases d with
   | true => obtain rfl:k=k':=by simpa [Rx,Tok.key] using hk'
             exact ⟨e,hs⟩
   | false=>cases hk'
 | ptr k off=>show v=_;rw[hk.B k (by simp[C.bkeys])];exact h
 | rptr t cs=>exact Reads.keep h (Keeps.X (t:=t) hk.F hk.L)
 | fn f caps=>
   have:caps.map (λc=>Value.pointer (O ⟨J'.B c.1,c.2,G⟩))=caps.map (λc=>Value.pointer (O ⟨J.B c.1,c.2,G⟩)):=
    yX λc hc=>by rw[hk.B c.1 (by simp[C.bkeys];exact ⟨_,hc⟩)]
   show v=_;rw[this];exact h
 | fnr f caps=>
   obtain ⟨vs,rfl,ha⟩:=h;exact ⟨vs,rfl,ha.imp λa b _ h=>h.keep hk.F⟩
theorem VA.keep {J J':Inj} {w w':E} {v:I} {x:uB×U C} (h:VA J w v x) (hk:∀c,c∈x.2->Keeps J J' w w' c):VA J' w' v x:=by
 obtain ⟨b,cs⟩:=x;cases b with
 | true=>obtain ⟨vs,rfl,ha⟩:=h;exact ⟨vs,rfl,ha.imp λa c hc h=>h.keep (hk c hc)⟩
 | false=>obtain ⟨c,rfl,hc⟩:=h;exact ⟨c,rfl,hc.keep (hk c (by simp))⟩
theorem AR.keep {J J':Inj} {w w':E} {v:I} {x:AV} (h:AR J w v x) (hk:∀c,c∈x.cells->Keeps J J' w w' c):AR J' w' v x:=by
 cases x with
 | one c=>exact CR.keep h (hk c (by simp[AV.cells]))
 | agg cs=>obtain ⟨vs,rfl,ha⟩:=h;exact ⟨vs,rfl,ha.imp λa c hc h=>h.keep (hk c hc)⟩
 | tup l=>
   obtain ⟨vs,rfl,ha⟩:=h;exact ⟨vs,rfl,ha.imp λa x hx h=>h.keep λc hc=>hk c (by simp only[AV.cells,List.mem_flatMap];exact ⟨x,hx,hc⟩)⟩
theorem VA.map {J J':Inj} {w w':E} {v:I} {x:uB×U C} (f:C->C) (h:VA J w v x) (hk:∀u c,c∈x.2->CR J w u c->CR J' w' u (f c)):VA J' w' v (x.1,x.2.map f):=by
 obtain ⟨b,cs⟩:=x;cases b with
 | true=>obtain ⟨vs,rfl,ha⟩:=h;exact ⟨vs,rfl,ha.map f λa c hc h=>hk a c hc h⟩
 | false=>obtain ⟨c,rfl,hc⟩:=h;exact ⟨f c,rfl,hk v c (by simp) hc⟩
theorem AR.map {J J':Inj} {w w':E} {v:I} {x:AV} (f:C->C) (h:AR J w v x) (hk:∀u c,c∈x.cells->CR J w u c->CR J' w' u (f c)):AR J' w' v (x.map f):=by
 cases x with
 | one c=>exact hk v c (by simp[AV.cells]) h
 | agg cs=>obtain ⟨vs,rfl,ha⟩:=h;exact ⟨vs,rfl,ha.map f λa c hc h=>hk a c hc h⟩
 | tup l=>
   obtain ⟨vs,rfl,ha⟩:=h;exact ⟨vs,rfl,ha.map (λp=>(p.1,p.2.map f)) λa x hx h=>h.map f λu c hc=>hk u c (by simp only[AV.cells,List.mem_flatMap];exact ⟨x,hx,hc⟩)⟩
structure St where
 tm:U (S×AV)
 bx:U (S×U C)
def get {α:Type}:U (S×α)->S->uC α
 | [],_=>G
 | (k,a)::r,t=>if k=t then O a else get r t
def ins {α:Type} (t:S) (x:α):U (S×α)->U (S×α)
 | []=> [(t,x)]
 | (k,a)::r=>if k=t then (t,x)::r else (k,a)::ins t x r
theorem Sp {α:Type} (t:S) (x:α) (u:S):∀l:U (S×α),get (ins t x l) u=if t=u then O x else get l u
 | []=>by simp[ins,get]
 | (k,a)::r=>by
   simp only[ins];by_cases hk:k=t
   . subst hk;rw[uL rfl];simp only[get];split<;>rfl
   rw[uK hk];simp only[get,Sp t x u r];by_cases hu:k=u
   . subst hu;rw[uL rfl,uL rfl,uK (λe=>hk e.symm)]
   rw[uK hu,uK hu]
theorem Is {α β:Type} (f:α->β) (u:S):∀l:U (S×α),get (l.map λp=>(p.1,f p.2)) u=(get l u).map f
 | []=>rfl
 | (k,a)::r=>by
   simp only[yN,get,Is f u r];split<;>rfl
def St.map (f:C->C) (s:St):St:=⟨s.tm.map λp=>(p.1,p.2.map f),s.bx.map λp=>(p.1,p.2.map f)⟩
structure Base where
 w:E
 X:S->Prop
 c:uC S
abbrev bxK:S:=60000
def Base.lo (b:Base) (k:S):Prop:=b.w.heap.size<=k\/b.X k
structure Base.Keeps (b:Base) (w:E):Prop where
 os:w.os=b.w.os
 tape:w.tape=b.w.tape
 output:w.output=b.w.output
 size:b.w.heap.size<=w.heap.size
 block:∀k,k<b.w.heap.size->¬b.X k->w.heap[k]? =b.w.heap[k]?
theorem Base.Keeps.refl (b:Base):b.Keeps b.w:=⟨rfl,rfl,rfl,Nat.le_refl _,λ_ _ _=>rfl⟩
theorem Base.Keeps.trans {b:Base} {w w':E} (h:b.Keeps w) (k:Below b.w.heap.size w w'):b.Keeps w':=
 ⟨k.os.trans h.os,k.tape.trans h.tape,k.output.trans h.output,yA h.size k.size,λi hi hx=>(k.block i hi).trans (h.block i hi hx)⟩
theorem Base.Keeps.step {b:Base} {w w':E} (h:b.Keeps w) (ho:w'.os=w.os) (ht:w'.tape=w.tape) (hu:w'.output=w.output) (hs:w.heap.size<=w'.heap.size) (hb:∀k,k<w.heap.size->¬b.lo k->w'.heap[k]? =w.heap[k]?):b.Keeps w':=
 ⟨ho.trans h.os,ht.trans h.tape,hu.trans h.output,yA h.size hs,λk hk hx=>(hb k (Nat.lt_of_lt_of_le hk h.size) (λhl=>hl.elim (λhl=>by omega) hx)).trans (h.block k hk hx)⟩
theorem Base.Keeps.alloc {b:Base} {w:E} (h:b.Keeps w) (_:b.w.heap.size<=w.heap.size) (o:Obj):b.Keeps (w.alloc o):=h.trans ((Below.refl _ _).alloc h.size o)
structure Rel (N:S) (w0:Base) (F0:S->Prop) (J:Inj) (a:Act) (w:E) (s:St):Prop where
 below:w0.Keeps w
 nodef:a.defers= []
 size:a.tmps.size=N
 fl:∀b,J.F b->b<w.heap.size/\(F0 b\/w0.lo (b))
 f0:∀b,F0 b->J.F b
 nd:∀k,(J.L k).Nodup
 lo:∀k b,b∈J.L k->w0.lo (b)/\b<w.heap.size/\¬J.F b
 dj:∀k k' b,b∈J.L k->b∈J.L k'->k=k'
 bo:∀k c,get s.bx k=O c->w0.lo (J.B k)/\¬J.F (J.B k)/\(∀k',J.B k∉J.L k')/\∃arr e,w.heap[J.B k]? =O (.cells arr e (0,0))/\All2 (CR J w) arr.toList c
 nb:w0.c=G\/N<=bxK
 cb:∀b,w0.c=O b->J.B bxK=b
 bi:∀k k' c c',get s.bx k=O c->get s.bx k'=O c'->J.B k=J.B k'->k=k'
 tm:∀t v,get s.tm t=O v->AR J w (a.tmps.getD t undef) v
def St.eqv (s s':St):Prop:=(∀t,get s.tm t=get s'.tm t)/\∀k,get s.bx k=get s'.bx k
theorem Rel.eqv {N:S} {w0:Base} {F0:S->Prop} {J:Inj} {a:Act} {w:E} {s s':St} (h:Rel N w0 F0 J a w s) (he:s.eqv s'):Rel N w0 F0 J a w s':=
 {h with bo:=λk c hc=>h.bo k c ((he.2 k).trans hc),bi:=λk k' c c' h1 h2=>h.bi k k' c c' ((he.2 k).trans h1) ((he.2 k').trans h2),tm:=λt v hv=>h.tm t v ((he.1 t).trans hv)}
theorem Rel.less {N:S} {w0:Base} {F0:S->Prop} {J:Inj} {a:Act} {w:E} {s s':St} (h:Rel N w0 F0 J a w s) (h1:∀t v,get s'.tm t=O v->get s.tm t=O v) (h2:∀k c,get s'.bx k=O c->get s.bx k=O c):Rel N w0 F0 J a w s':=
 {h with bo:=λk c hc=>h.bo k c (h2 k c hc),bi:=λk k' c c' e1 e2=>h.bi k k' c c' (h2 _ _ e1) (h2 _ _ e2),tm:=λt v hv=>h.tm t v (h1 t v hv)}
end
section
open Go.RowKit
def G7 (rl:U (S×uC Tok)) (t:Tok):uC Tok:=
 match t.key with
 | none=>O t
 | some k=>match get rl k with
   | none=>O t
   | some x=>x
def Mm (k:S):U (S×S)->uB
 | []=>uD
 | c::r=>zF c.1 k|| Mm k r
def setRow:U (U PV)->S->S->U PV->U (U PV)
 | [],_,_,_=> []
 | r::l,0,o,cs=>(r.take o++cs++r.drop (o+cs.length))::l
 | r::l,i+1,o,cs=>r::setRow l i o cs
def KY (l:U (U PV)) (cs:U PV):U (U PV):=(cs.take l.length).map (λc=> [c])++l.drop cs.length
def Qj7 (l:U (U PV)) (i o:S) (cs:U PV):U (U PV):=bif zF o 4294967296 then KY l cs else setRow l i o cs
def Qcz:uB->uB->uB
 | true,uA=>uA
 | false,uD=>uA
 | _,_=>uD
theorem Qhj {a b:uB} (h:Qcz a b=uA):a=b:=by cases a<;>cases b<;>first | rfl | cases h
def KZ (t:Tok) (n:S) (l:U (U PV)):Tok->C
 | .put d m i o cs=>(match t with
   | .own d0 k=>bif Qcz d0 d&&zF n m then .slc (.own d0 k) n (Qj7 l i o cs) else .dead
   | .put _ _ _ _ _=> .slc t n l
   | _=> .dead)
 | t'=> .slc t' n l
def NW (t:Tok) (cs:U PV):Tok->C
 | .put _ _ _ _ _=>(match t with
   | .put _ _ _ _ _=> .rptr t cs
   | _=> .dead)
 | t'=> .rptr t' cs
def Wn (rl:U (S×uC Tok)) (kb:uC S):C->C
 | .slc t n l=>match G7 rl t with
   | some t'=>KZ t n l t'
   | none=> .dead
 | .rptr t cs=>match G7 rl t with
   | some t'=>NW t cs t'
   | none=> .dead
 | .ept d k n i o cs=>match get rl k with
   | none=> .ept d k n i o cs
   | some (O t')=>(match t' with
     | .sh=> .rptr .sh cs
     | .vw k'=> .rptr (.vw k') cs
     | .put uA _ _ _ [.any]=> .ept d k n i o (cs.map λ_=> .any)
     | _=> .dead)
   | some G=> .dead
 | .ptr k off=>match kb with
   | none=> .ptr k off
   | some k'=>bif zF k k' then .dead else .ptr k off
 | .fn f caps=>match kb with
   | none=> .fn f caps
   | some k'=>bif Mm k' caps then .dead else .fn f caps
 | c=>c
structure Res where
 av:AV
 rl:U (S×uC Tok)
 kb:uC S
 bx:uC (S×U C)
def St.step (s:St) (dst:uC S) (r:Res):St:=
 let s':=match r.rl,r.kb with
  | [],G=>s
  | rl,kb=>s.map (Wn rl kb)
 ⟨match dst with
  | some d=>ins d r.av s'.tm
  | none=>s'.tm,
  match r.bx with
   | some (k,cs)=>ins k cs s'.bx
   | none=>s'.bx⟩
structure Turns (J J':Inj) (w w':E) (rl:U (S×uC Tok)) (kb:uC S):Prop where
 F:∀b,J.F b->J'.F b/\w'.heap[b]? =w.heap[b]?
 stay:∀k,get rl k=G->J'.L k=J.L k/\∀b,b∈J.L k->w'.heap[b]? =w.heap[b]?
 sh:∀k,get rl k=O (O .sh)->∀b,b∈J.L k->J'.F b/\w'.heap[b]? =w.heap[b]?
 vw:∀k k',get rl k=O (O (.vw k'))->∀b,b∈J.L k->(b∈J'.L k'\/J'.F b)/\w'.heap[b]? =w.heap[b]?
 no:∀k t,get rl k=O (O t)->t= .sh\/(∃k',t= .vw k')\/∃d m i o cs,t= .put d m i o cs
 B:∀k,kb≠O k->J'.B k=J.B k
 put:∀k d m i o cs,get rl k=O (O (.put d m i o cs))->(∀v l,CR J w v (.slc (.own d k) m l)->CR J' w' v (.slc (.own d k) m (Qj7 l i o cs)))/\(d=uA->cs= [.any]->(∀g r,J.L k=g::r->∃r',J'.L k=g::r')/\∀b,b∈J.L k->w'.heap[b]? =w.heap[b]?)
theorem Turns.refl (J:Inj) (w:E):Turns J J w w [] G:=
 ⟨λ_ h=>⟨h,rfl⟩,λ_ _=>⟨rfl,λ_ _=>rfl⟩,(λ_ h=>by cases h),(λ_ _ h=>by cases h),(λ_ _ h=>by cases h),(λ_ _=>rfl),(λ_ _ _ _ _ _ h=>by cases h)⟩
theorem Turns.X {J J':Inj} {w w':E} {rl:U (S×uC Tok)} {kb:uC S} (h:Turns J J' w w' rl kb) {t t':Tok} (ht:G7 rl t=O t') (hp:∀d m i o cs,t'≠ .put d m i o cs):∀b,J.X t b->J'.X t' b/\w'.heap[b]? =w.heap[b]? :=by
 intro b hb;cases t with
 | sh => obtain rfl:Tok.sh=t':=by simpa [G7,Tok.key] using ht
         exact h.F b hb
 | emp=>exact hb.elim
 | own d k=>exact hb.elim
 | put=>exact hb.elim
 | vw k =>
   simp only[G7,Tok.key] at ht;cases hg:get rl k with
   | none=>
     rw[hg] at ht;obtain rfl:Tok.vw k=t':=by simpa using ht
     obtain ⟨e,hs⟩:=h.stay k hg;rcases hb with hb | hb
     . exact ⟨.inl (by rw[e];exact hb),hs b hb⟩
     exact ⟨.inr (h.F b hb).1,(h.F b hb).2⟩
   | some x=>
     rw[hg] at ht;obtain rfl:x=O t':=ht;rcases h.no k t' hg with rfl | ⟨k',rfl⟩ | ⟨d,m,i,o,cs,rfl⟩
     . rcases hb with hb | hb
       . exact h.sh k hg b hb
       exact h.F b hb
     . rcases hb with hb | hb
       . exact h.vw k k' hg b hb
       exact ⟨.inr (h.F b hb).1,(h.F b hb).2⟩
     exact absurd rfl (hp d m i o cs)
theorem OwnTop.vv {F X:S->Prop} {L:U S} {w w':E} {v:I} {n:S} {l:U (U PV)} (h:OwnTop F L w v n l) (hF:∀b,F b->X b/\w'.heap[b]? =w.heap[b]?) (hL:∀b,b∈L->X b/\w'.heap[b]? =w.heap[b]?):VV X w' v (.slc n l):=by
 rcases h with ⟨rfl,oa,rfl⟩ | ⟨g,cap,cur,e,rfl,rfl,hg,hs,hr,h1,h2⟩
 . exact .emp oa n (zZ _)
 refine .slc (hL g (by simp)).1 (λj u hj=> ?_) (hr.keep hF) h1 h2;rw[zK] at hj;split at hj
 . rw[zG] at hj;simp[World.cell?,(hL g (by simp)).2.trans hg,hj]
 cases hj
theorem ZU {k:S}:∀{caps:U (S×S)},Mm k caps=uD->∀c,c∈caps->c.1≠k
 | [],_,c,hc=>by simp at hc
 | x::r,h,c,hc=>by
   simp only[Mm,Bool.or_eq_false_iff] at h;rcases yD.1 hc with rfl | hc
   . exact λe=>by simp[e] at h
   exact ZU h.2 c hc
theorem Qc0 {J J':Inj} {w w':E} {rl:U (S×uC Tok)} {kb:uC S} (h:Turns J J' w w' rl kb) {v:I} {c:C} (hc:CR J w v c):CR J' w' v (Wn rl kb c):=by
 cases c with
 | int | bool | str | raw | dead=>exact hc
 | slc t n l =>
   simp only[Wn];cases ht:G7 rl t with
   | none=>trivial
   | some t' =>
     show CR J' w' v (KZ t n l t');cases t with
     | put=>exact hc.elim
     | sh => obtain rfl:Tok.sh=t':=by simpa [G7,Tok.key] using ht
             exact VV.keep h.F hc
     | emp => obtain rfl:Tok.emp=t':=by simpa [G7,Tok.key] using ht
              exact hc
     | vw k=>
       have hX:=h.X ht;simp only[G7,Tok.key] at ht;cases hg:get rl k with
       | none=>
         rw[hg] at ht;obtain rfl:Tok.vw k=t':=by simpa using ht
         exact VV.keep (hX (by simp)) hc
       | some x=>
         rw[hg] at ht;obtain rfl:x=O t':=ht;rcases h.no k t' hg with rfl | ⟨k',rfl⟩ | ⟨d,m,i,o,cs,rfl⟩
         . exact VV.keep (hX (by simp)) hc
         . exact VV.keep (hX (by simp)) hc
         trivial
     | own d k=>
       simp only[G7,Tok.key] at ht;cases hg:get rl k with
       | none=>
         rw[hg] at ht;obtain rfl:Tok.own d k=t':=by simpa using ht
         obtain ⟨e,hs⟩:=h.stay k hg;cases d with
         | true=>show OwnDeep (J'.L k) w' v n l;rw[e];exact OwnDeep.keep hc hs
         | false=>show OwnTop J'.F (J'.L k) w' v n l;rw[e];exact OwnTop.keep hc h.F hs
       | some x=>
         rw[hg] at ht;obtain rfl:x=O t':=ht;rcases h.no k t' hg with rfl | ⟨k',rfl⟩ | ⟨d1,m,i,o,cs,rfl⟩
         . have hs:=h.sh k hg;cases d with
           | true=>exact OwnDeep.vv hc hs
           | false=>exact OwnTop.vv hc h.F hs
         . have hs:=h.vw k k' hg;cases d with
           | true=>exact OwnDeep.vv (X:=J'.X (.vw k')) hc hs
           | false=>exact OwnTop.vv hc (λb hb=>⟨.inr (h.F b hb).1,(h.F b hb).2⟩) hs
         show CR J' w' v (bif Qcz d d1&&zF n m then .slc (.own d k) n (Qj7 l i o cs) else .dead);cases hb:Qcz d d1&&zF n m with
         | false=>trivial
         | true=>
           simp only[zH] at hb;obtain rfl:=Qhj hb.1;obtain rfl:=Nat.eq_of_beq_eq_true hb.2;exact (h.put k d n i o cs hg).1 v l hc
 | ptr k off=>
   simp only[Wn];cases kb with
   | none=>show v=_;rw[h.B k (by simp)];exact hc
   | some k'=>
     simp only[];cases hk:zF k k' with
     | true=>trivial
     | false=>
       show v=_;rw[h.B k (λe=>by simp at e;simp[e] at hk)];exact hc
 | rptr t cs=>
   simp only[Wn];cases ht:G7 rl t with
   | none=>trivial
   | some t'=>
     show CR J' w' v (NW t cs t');cases t' with
     | put=>cases t with
       | put=>exact absurd hc (λ⟨_,_,_,_,h,_⟩=>h)
       | sh | emp | own | vw=>trivial
     | sh | emp | own | vw=>exact Reads.keep hc (h.X ht (by simp))
 | ept d k n i o cs=>
   simp only[Wn];obtain ⟨g,r,vs,h1,h2,h3,h4,arr,ty,h5⟩:=hc;have hgm:g∈J.L k:=by rw[h1];exact zL
   have hrd:∀(X:S->Prop),(∀b,b∈J.L k\/J.F b->X b/\w'.heap[b]? =w.heap[b]?)->Reads X w' v cs:=λX hX=>by
    have hg:=hX g (.inl hgm);refine ⟨g,i*n+o,vs,h2,hg.1,h3.keep (X':=X) λb hb=>hX b ?_,λj u hj=>by rw[World.cell?_of_block hg.2];exact h4 j u hj⟩;cases d with
    | true=>exact hb
    | false=>exact .inr hb
   cases hk:get rl k with
   | none=>
     obtain ⟨e,hs⟩:=h.stay k hk;refine ⟨g,r,vs,e.trans h1,h2,h3.keep λb hb=> ?_,λj u hj=>by rw[World.cell?_of_block (hs g hgm)];exact h4 j u hj,arr,ty,(hs g hgm).trans h5⟩;cases d with
     | true=>exact hb.elim (λhb=>⟨.inl (by rw[e];exact hb),hs b hb⟩) λhb=>⟨.inr (h.F b hb).1,(h.F b hb).2⟩
     | false=>exact h.F b hb
   | some x=>
     cases x with
     | none=>trivial
     | some t'=>
       rcases h.no k t' hk with rfl | ⟨k',rfl⟩ | ⟨d1,m,i1,o1,cs1,rfl⟩
       . exact hrd J'.F λb hb=>hb.elim (h.sh k hk b) (h.F b)
       . exact hrd (J'.X (.vw k')) λb hb=>hb.elim (h.vw k k' hk b) λhb=>⟨.inr (h.F b hb).1,(h.F b hb).2⟩
       by_cases hq:d1=uA/\cs1= [.any]
       . obtain ⟨rfl,rfl⟩:=hq;obtain ⟨q1,q2⟩:=(h.put k uA m i1 o1 _ hk).2 rfl rfl;obtain ⟨r',e⟩:=q1 g r h1;exact ⟨g,r',vs,e,h2,h3.anys,λj u hj=>by rw[World.cell?_of_block (q2 g hgm)];exact h4 j u hj,arr,ty,(q2 g hgm).trans h5⟩
       cases d1 with
       | false=>trivial
       | true=>match cs1,hq with
         | [],_=>trivial
         | [.any],hq=>exact (hq ⟨rfl,rfl⟩).elim
         | [.int _ _],_=>trivial
         | [.bool _],_=>trivial
         | [.str _],_=>trivial
         | [.slc _ _],_=>trivial
         | [.raw _],_=>trivial
         | x::_::_,_=>cases x<;>trivial
 | fn f caps=>
   have key:(∀c,c∈caps->kb≠O c.1)->CR J' w' v (.fn f caps):=λhb=>by
    have:caps.map (λc=>Value.pointer (O ⟨J'.B c.1,c.2,G⟩))=caps.map (λc=>Value.pointer (O ⟨J.B c.1,c.2,G⟩)):=
     yX λc hc=>by rw[h.B c.1 (hb c hc)]
    show v=_;rw[this];exact hc
   simp only[Wn];cases kb with
   | none=>exact key (by simp)
   | some k'=>
     simp only[];cases hk:Mm k' caps with
     | true=>trivial
     | false=>exact key λc hc' e=>by simp at e;exact ZU hk c hc' e.symm
 | fnr f caps=>
   obtain ⟨vs,rfl,ha⟩:=hc;exact ⟨vs,rfl,ha.imp λa b _ h'=>h'.keep h.F⟩
structure Names (w0:Base) (F0:S->Prop) (J:Inj) (w:E):Prop where
 fl:∀b,J.F b->b<w.heap.size/\(F0 b\/w0.lo (b))
 f0:∀b,F0 b->J.F b
 nd:∀k,(J.L k).Nodup
 lo:∀k b,b∈J.L k->w0.lo (b)/\b<w.heap.size/\¬J.F b
 dj:∀k k' b,b∈J.L k->b∈J.L k'->k=k'
theorem Rel.names {N:S} {w0:Base} {F0:S->Prop} {J:Inj} {a:Act} {w:E} {s:St} (h:Rel N w0 F0 J a w s):Names w0 F0 J w:=⟨h.fl,h.f0,h.nd,h.lo,h.dj⟩
theorem Qhk (a:Act) (dst:uC S) (v:I):(a.put dst v).tmps.size=a.tmps.size:=by
 cases dst<;>simp[Act.put]
theorem Qav (a:Act) (dst:uC S) (v:I):(a.put dst v).defers=a.defers:=by
 cases dst<;>rfl
theorem Qk8 (a:Act) (d:S) (v:I) (t:S) (hd:d<a.tmps.size):(a.put (O d) v).tmps.getD t undef=if d=t then v else a.tmps.getD t undef:=by
 simp only[Act.put,yJ,zU];by_cases h:d=t
 . subst h;simp[hd]
 simp[h]
theorem Rel.upd {N:S} {w0:Base} {F0:S->Prop} {J J':Inj} {a:Act} {w w':E} {s:St} (h:Rel N w0 F0 J a w s) (dst:uC S) (hdst:∀d,dst=O d->d<N) (r:Res) (v:I)
 (hb:w0.Keeps w') (ht:Turns J J' w w' r.rl r.kb) (hn:Names w0 F0 J' w') (hv:dst≠G->AR J' w' v r.av)
 (hbx:∀k c,get s.bx k=O c->(∀p,r.bx=O p->p.1≠k)->r.kb≠O k/\¬J'.F (J.B k)/\(∀k',J.B k∉J'.L k')/\w'.heap[J.B k]? =w.heap[J.B k]?)
 (hnew:∀k c,r.bx=O (k,c)->w0.lo (J'.B k)/\¬J'.F (J'.B k)/\(∀k',J'.B k∉J'.L k')/\(∃arr e,w'.heap[J'.B k]? =O (.cells arr e (0,0))/\All2 (CR J' w') arr.toList c)/\∀k' c',get s.bx k'=O c'->k'≠k->J.B k'≠J'.B k)
 (hkb:∀k,r.kb=O k->k<N:=by intro _ h;cases h):
 Rel N w0 F0 J' (a.put dst v) w' (s.step dst r):=by
 have hmap:∀(u:I) (x:AV),AR J w u x->AR J' w' u (match r.rl,r.kb with | [],G=>x | rl,kb=>x.map (Wn rl kb)):=by
  intro u x hx;split
  . rename_i e1 e2
    have hid:∀c,Wn r.rl r.kb c=c:=λc=>by
     rw[e1,e2];cases c with
     | slc t n l=>cases t<;>rfl
     | rptr t cs=>cases t<;>rfl
     | _=>rfl
    have:=AR.map (Wn r.rl r.kb) hx λu c _ hc=>Qc0 ht hc
    rw[show x.map (Wn r.rl r.kb)=x by
     have:(Wn r.rl r.kb)=id:=funext hid;rw[this];cases x<;>simp[AV.map]] at this
    exact this
  exact AR.map _ hx λu c _ hc=>Qc0 ht hc
 have hcm:∀(us:U I) (cs:U C),All2 (CR J w) us cs->All2 (CR J' w') us (match r.rl,r.kb with | [],G=>cs | rl,kb=>cs.map (Wn rl kb)):=by
  intro us cs hx;have:=hmap (.agg us.toArray) (.agg cs) ⟨us,rfl,hx⟩;split at this
  . obtain ⟨vs,e,h2⟩:=this;rw[show us=vs by simpa using uO Array.toList (Value.agg.inj e)];exact h2
  obtain ⟨vs,e,h2⟩:=this;rw[show us=vs by simpa using uO Array.toList (Value.agg.inj e)];exact h2
 have gtm:∀t x,get (match r.rl,r.kb with | [],G=>s | rl,kb=>s.map (Wn rl kb)).tm t=O x->∃y,get s.tm t=O y/\x=(match r.rl,r.kb with | [],G=>y | rl,kb=>y.map (Wn rl kb)):=by
  intro t x hx;split at hx
  . exact ⟨x,hx,by simp⟩
  simp only[St.map,Is (AV.map _)] at hx;obtain ⟨y,hy,rfl⟩:=zO.1 hx;exact ⟨y,hy,by simp⟩
 have gbx:∀k x,get (match r.rl,r.kb with | [],G=>s | rl,kb=>s.map (Wn rl kb)).bx k=O x->∃y,get s.bx k=O y/\x=(match r.rl,r.kb with | [],G=>y | rl,kb=>y.map (Wn rl kb)):=by
  intro k x hx;split at hx
  . exact ⟨x,hx,by simp⟩
  simp only[St.map,Is (List.map _)] at hx;obtain ⟨y,hy,rfl⟩:=zO.1 hx;exact ⟨y,hy,by simp⟩
 have gb:∀k x,get (s.step dst r).bx k=O x->(r.bx=O (k,x))\/((∀p,r.bx=O p->p.1≠k)/\∃y,get s.bx k=O y/\x=(match r.rl,r.kb with | [],G=>y | rl,kb=>y.map (Wn rl kb))):=by
  intro k x hx;simp only[St.step] at hx;cases hr:r.bx with
  | none=>rw[hr] at hx;exact .inr ⟨(λp hp=>by cases hp),gbx k x hx⟩
  | some p=>
    obtain ⟨k1,c1⟩:=p;rw[hr] at hx;simp only[Sp] at hx;by_cases hk:k1=k
    . subst hk;rw[uL rfl] at hx;obtain rfl:=zE hx;exact .inl rfl
    rw[uK hk] at hx;exact .inr ⟨(λp hp=>by cases hp;exact hk),gbx k x hx⟩
 refine {below:=hb,nodef:=(Qav a dst v).trans h.nodef,size:=(Qhk a dst v).trans h.size,fl:=hn.fl,f0:=hn.f0,nd:=hn.nd,lo:=hn.lo,dj:=hn.dj,bo:= ?_,nb:=h.nb,cb:=λb hb=>(ht.B bxK λe=>by
  have:=hkb _ e;rcases h.nb with hn | hn
  . rw[hn] at hb;cases hb
  omega).trans (h.cb b hb),bi:= ?_,tm:= ?_}
 . intro k c hk;rcases gb k c hk with hr | ⟨hne,y,hy,rfl⟩
   . obtain ⟨h1,h2,h3,h4,_⟩:=hnew k c hr;exact ⟨h1,h2,h3,h4⟩
   obtain ⟨hkb,h1,h2,h3⟩:=hbx k y hy hne;obtain ⟨h4,_,_,arr,e,h5,h6⟩:=h.bo k y hy;rw[ht.B k hkb];exact ⟨h4,h1,h2,arr,e,h3.trans h5,hcm _ _ h6⟩
 . intro k k' c c' hk hk' hB;rcases gb k c hk with hr | ⟨hne,y,hy,rfl⟩<;>rcases gb k' c' hk' with hr' | ⟨hne',y',hy',rfl⟩
   . have:=hr.symm.trans hr';simp at this;exact this.1
   . refine yL λhkk=> ?_
     obtain ⟨hkb,_⟩:=hbx k' y' hy' hne';rw[ht.B k' hkb] at hB;exact (hnew k c hr).2.2.2.2 k' y' hy' (λe=>hkk e.symm) hB.symm
   . refine yL λhkk=> ?_
     obtain ⟨hkb,_⟩:=hbx k y hy hne;rw[ht.B k hkb] at hB;exact (hnew k' c' hr').2.2.2.2 k y hy hkk hB
   rw[ht.B k (hbx k y hy hne).1,ht.B k' (hbx k' y' hy' hne').1] at hB;exact h.bi k k' y y' hy hy' hB
 intro t x hx;cases dst with
 | none=>
   simp only[St.step] at hx;obtain ⟨y,hy,rfl⟩:=gtm t x hx;exact hmap _ _ (h.tm t y hy)
 | some d=>
   have hd:=hdst d rfl;simp only[St.step,Sp] at hx;rw[Qk8 a d v t (by rw[h.size];exact hd)];by_cases hdt:d=t
   . rw[uL hdt] at hx⊢;obtain rfl:=zE hx;exact hv (by simp)
   rw[uK hdt] at hx⊢;obtain ⟨y,hy,rfl⟩:=gtm t x hx;exact hmap _ _ (h.tm t y hy)
theorem Rel.pure {N:S} {w0:Base} {F0:S->Prop} {J:Inj} {a:Act} {w:E} {s:St} (h:Rel N w0 F0 J a w s) (dst:uC S) (hdst:∀d,dst=O d->d<N) (av:AV) (v:I) (hv:dst≠G->AR J w v av):
 Rel N w0 F0 J (a.put dst v) w (s.step dst ⟨av, [],G,G⟩):=
 h.upd dst hdst _ v h.below (Turns.refl J w) h.names hv (λk c hc _=>by
  obtain ⟨_,h2,h3,_⟩:=h.bo k c hc;exact ⟨by simp,h2,h3,rfl⟩) (λk c hc=>by cases hc)
end
section
open Go.RowKit
inductive TK where
 | int (k:uJ)
 | bool
 | str
 | sli (e:S)
 | struct (fs:U (S×S×uB))
 | other
inductive LK where
 | int
 | bool
 | str
structure TI where
 kind:TK
 size:S
 zero:U C
 eq:U LK
def TI.agg (i:TI):uB:=match i.kind with
 | .struct _=>uA
 | _=>uD
def Ti:I->C->uB
 | .int k n,.int k' m=>decide (k=k')&&decide (n=0)&&decide (m=0)
 | .bool b,.bool c=> !b&& !c
 | .string s,.str t=>zF s.size 0&&zF t.size 0
 | .slice G 0 0,.slc .emp _ []=>uA
 | _,_=>uD
def A4:U I->U C->uB
 | [], []=>uA
 | v::vs,c::cs=>Ti v c&&A4 vs cs
 | _,_=>uD
def VB:TypeDesc->uB
 | .struct _=>uA
 | .array _ _=>uA
 | _=>uD
def Eh (P:uF):U Field->U (S×S×uB)->uB
 | [], []=>uA
 | f ::fs,g::gs=>zF f.offset g.1&&(match P.info? f.type with
     | some i=>zF i.size g.2.1
     | none=>uD)&&(match P.underlying f.type with
     | some d=>(match g.2.2,VB d with | true,uA=>uA | false,uD=>uA | _,_=>uD)
     | none=>uD)&&Eh P fs gs
 | _,_=>uD
def Tj (P:uF):TypeDesc->TK->uB
 | .int k,.int k'=>decide (k=k')
 | .bool,.bool=>uA
 | .string,.str=>uA
 | .slice e,.sli e'=>zF e e'
 | .struct fs,.struct gs=>Eh P fs.toList gs
 | .struct _,.other=>uD
 | .array _ _,.other=>uD
 | _,.other=>uA
 | _,_=>uD
def Qn3 (P:uF) (f:S->uC (U LK)):U Field->S->uC (U LK)
 | [],_=>O []
 | g :: r, off => bif decide (g.name = "_") then none else bif Nat.beq g.offset off then
     (match f g.type,P.info? g.type with
     | some l,O inf=>bif zF inf.size l.length&&Nat.blt 0 l.length then
      (match Qn3 P f r (off+l.length) with
      | some m=>O (l++m)
      | none=>G) else G
     | _,_=>G)
   else G
def AX (P:uF):S->S->uC (U LK)
 | 0,_=>G
 | n+1,t=>match P.underlying t with
   | some (.int _)=>O [.int]
   | some .bool=>O [.bool]
   | some .string=>O [.str]
   | some (.struct fs)=>bif P.stoodInHeld t then G else Qn3 P (AX P n) fs.toList 0
   | _=>G
def AY:U LK->U LK->uB
 | [], []=>uA
 | .int::r,.int::r'=>AY r r'
 | .bool::r,.bool::r'=>AY r r'
 | .str::r,.str::r'=>AY r r'
 | _,_=>uD
def Qp4 (P:uF) (t:S) (i:TI):uB:=match i.eq with
 | []=>uA
 | l=> !(P.eqGuardType P.depth t)&&(match P.underlying t with
   | some (.struct _)=>uA
   | _=>uD)&&(match AX P 9 t with
   | some m=>AY l m
   | none=>uD)
def VD:LK->C->C->uC uB
 | .int,.int k a,.int k' b=>bif decide (k=k') then O (a==b) else G
 | .str,.str a,.str b=>O (a.toList==b.toList)
 | .bool,.bool a,.bool b=>O (a==b)
 | _,_,_=>G
def Bg:U LK->U C->U C->uC uB
 | [], [], []=>O uA
 | l::ls,x::xs,y::ys=>match VD l x y,Bg ls xs ys with
   | some a,O b=>O (a&&b)
   | _,_=>G
 | _,_,_=>G
def Qp5 (P:uF) (t:S) (i:TI):uB:=
 match P.underlying t,P.info? t with
 | some d,O inf=>Tj P d i.kind&&zF inf.size i.size&&yQ inf.bytes 1000&&(match inf.zero with
   | some z=>zF z.cells.size i.size&&A4 z.cells.toList i.zero
   | none=>uD)&&Qp4 P t i
 | _,_=>uD
def Fb (P:uF):U (S×TI)->uB
 | []=>uA
 | p::r=>Qp5 P p.1 p.2&&Fb P r
def NX:I->uC AV
 | .int k n=>bif decide (k.min<=n)&&decide (n<=k.max) then O (.one (.int k n)) else G
 | .bool b=>O (.one (.bool b))
 | .string s=>bif yQ s.size 1000000 then O (.one (.str s)) else G
 | .slice G 0 0=>O (.one (.slc .emp 0 []))
 | .pointer G=>O (.one .dead)
 | _=>G
def AA (s:St):Operand->uC AV
 | .tmp t=>get s.tm t
 | .const v=>NX v
 | .func f=>O (.one (.fn f []))
 | .global _=>G
structure TakeT where
 take:S->S->U (U PV)->U AV->uB->uB->U (U PV)->Prop
 give:S->U C->U AV->AV->U C->Prop
 val:S->U AV->AV->Prop
 ins:S->S->Prop
inductive Ob where
 | call (f:S) (args:U AV) (r:AV)
 | eq (a b:AV)
 | elem (l:U (U PV)) (i:uE) (r:U PV)
 | rng (lo hi:uE) (n:S)
 | idx (i:uE) (n:S)
 | flat (l:U (U PV))
 | len (n:S)
 | slen (n:S)
 | nz (n:uE)
 | inr (k:uJ) (n:uE)
 | take (f n:S) (l:U (U PV)) (args:U AV) (mix turn:uB) (l':U (U PV))
 | give (f:S) (cs:U C) (args:U AV) (r:AV) (cs':U C)
 | val (f:S) (args:U AV) (r:AV)
 | ins (f n:S)
inductive Orc where
 | no
 | val (v:AV)
 | row (r:U PV)
 | flat
 | rowE (r:U PV)
 | take (mix turn:uB) (l:U (U PV))
 | give (g:uC S) (r:AV) (cs:U C)
 | giv (ks:U S) (r:AV)
 | cut (l:U (U PV))
 | gh (t q th:S) (r:U PV) (o:Orc)
 | ins (l:U (U PV))
def Qp6 (k:uJ) (a b:uE):uE:=k.wrap (yR k.bits a &&& yR k.bits b).toNat
def Qp7 (k:uJ) (a b:uE):uE:=k.wrap (yR k.bits a ^^^ yR k.bits b).toNat
def Qnx (k:uJ) (a b:uE):uE:=a.fdiv (2^(min b.toNat k.bits))
def Qj8 (op:BinOp) (k:uJ) (a b:uE):uC (C×U Ob):=
 match op with
 | .add=>O (.int k (k.wrap (a+b)), [])
 | .sub=>O (.int k (k.wrap (a-b)), [])
 | .mul=>O (.int k (k.wrap (a*b)), [])
 | .quo=>O (.int k (k.wrap (a.tdiv b)), [.nz b])
 | .rem=>O (.int k (a.tmod b), [.nz b,.inr k (a.tmod b)])
 | .eql=>O (.bool (a==b), [])
 | .neq=>O (.bool (a !=b), [])
 | .lss=>O (.bool (decide (a<b)), [])
 | .leq=>O (.bool (decide (a<=b)), [])
 | .gtr=>O (.bool (decide (a>b)), [])
 | .geq=>O (.bool (decide (a>=b)), [])
 | .and=>O (.int k (Qp6 k a b), [])
 | .xor=>O (.int k (Qp7 k a b), [])
 | _=>G
def Qj9 (op:BinOp) (a b:uM):uC (C×U Ob):=
 match op with
 | .add=>O (.str (a++b), [.slen (a.size+b.size)])
 | .eql=>O (.bool (a.toList==b.toList), [])
 | .neq=>O (.bool (!(a.toList==b.toList)), [])
 | .lss=>O (.bool (Op.bytesLess a.toList b.toList), [])
 | .leq=>O (.bool (Op.bytesLess a.toList b.toList|| a.toList==b.toList), [])
 | .gtr=>O (.bool (!(Op.bytesLess a.toList b.toList|| a.toList==b.toList)), [])
 | .geq=>O (.bool (!(Op.bytesLess a.toList b.toList)), [])
 | _=>G
def Qn4:BinOp->uB
 | .shr=>uA
 | _=>uD
def Qp8 (op:BinOp):C->C->uC (C×U Ob)
 | .int k a,.int k' b=>bif Qn4 op then (bif decide (0<=b) then O (.int k (Qnx k a b), []) else G) else bif decide (k=k') then Qj8 op k a b else G
 | .str a,.str b=>Qj9 op a b
 | _,_=>G
def NY (tt:U (S×TI)) (op:BinOp) (t:S) (a b:uB):uC (C×U Ob):=
 match get tt t with
 | some ⟨.bool,_,_,_⟩=>(match op with
   | .eql=>O (.bool (a==b), [])
   | .neq=>O (.bool (!(a==b)), [])
   | _=>G)
 | _=>G
def Qn5:C->uB
 | .dead=>uD
 | _=>uA
def A7:U C->uB
 | []=>uA
 | c::r=>Qn5 c&&A7 r
def AV.flatCells:AV->uC (U C)
 | .one c=>O [c]
 | .agg cs=>O cs
 | .tup _=>G
def Qny:C->uC PV
 | .int k n=>O (.int k n)
 | .bool b=>O (.bool b)
 | .str s=>O (.str s)
 | .slc _ n l=>O (.slc n l)
 | .raw v=>O (.raw v)
 | _=>G
def Gq:U C->uC (U PV)
 | []=>O []
 | c::r=>match Qny c,Gq r with
   | some p,O ps=>O (p::ps)
   | _,_=>G
def Tk:Tok->uC Tok
 | .sh=>O .sh
 | .own _ k=>O (.vw k)
 | .vw k=>O (.vw k)
 | .emp=>G
 | .put _ _ _ _ _=>G
def AC (t:Tok):PV->C
 | .int k n=> .int k n
 | .bool b=> .bool b
 | .str s=> .str s
 | .slc n l=> .slc t n l
 | .any=> .dead
 | .raw v=> .raw v
def Qaw (i:TI) (cs:U C):uC AV:=
 match i.agg with
 | true=>bif zF cs.length i.size then O (.agg cs) else G
 | false=>(match cs with
   | [c]=>O (.one c)
   | _=>G)
def Z9 (s:uM) (i:uE):uE:=((s.data.toList.getD i.toNat 0).toNat:uE)
def G8 (tt:U (S×TI)) (t f:S):uC (S×S×uB):=
 match get tt t with
 | some ⟨.struct fs,_,_,_⟩=>fs[f]?
 | _=>G
def Qc1 (fs:U (S×S×uB)):U C->U (S×AV)->uC (U C)
 | cells, []=>O cells
 | cells,(i,v)::r=>match fs[i]?,v.flatCells with
   | some (o,sz,_),O cs=>bif zF cs.length sz&&yQ (o+sz) cells.length&&A7 cs then Qc1 fs (cells.take o++cs++cells.drop (o+sz)) r else G
   | _,_=>G
def M3 (d:uE):uC Operand->U AV->uC (uE×U AV)
 | none,r=>O (d,r)
 | some _,.one (.int _ n)::r=>O (n,r)
 | _,_=>G
def Qka:Tok->Tok
 | .own _ k=> .vw k
 | t=>t
def Qv:U C->U S
 | []=> []
 | c::r=>(match c.key with
   | some k=> [k]
   | none=> [])++Qv r
def VE:U AV->uC (U (S×S))
 | []=>O []
 | .one (.ptr k o)::r=>(VE r).map ((k,o):: ·)
 | _::_=>G
def M2 (k:S):U S->uB
 | []=>uD
 | x::r=>zF x k|| M2 k r
def Ae:U S->uB
 | []=>uA
 | x::r=> !(M2 x r)&&Ae r
def Qk9:C->uB
 | .slc (.own uA _) _ _=>uA
 | .slc .emp _ _=>uA
 | .slc _ _ _=>uD
 | _=>uA
def Lu:U C->uB
 | []=>uA
 | c::r=>Qk9 c&&Lu r
def Sq:S->U (S×Operand)->U AV->uC (U (U C))
 | _, [], []=>O []
 | i,(j,_)::ps,v::vs=>bif zF i j then (match v.flatCells,Sq (i+1) ps vs with
   | some cs,O r=>O (cs::r)
   | _,_=>G) else G
 | _,_,_=>G
def VF (n:S):U (U C)->uB
 | []=>uA
 | cs::r=>zF cs.length n&&A7 cs&&VF n r
def GL:U (U C)->uC (U (U PV))
 | []=>O []
 | cs::r=>match Gq cs,GL r with
   | some p,O ps=>O (p::ps)
   | _,_=>G
def Qhl (bx:U (S×U C)) (k off:S):uC (U PV):=
 match get bx k with
 | some cs=>Gq (cs.drop off)
 | none=>G
def Ry (bx:U (S×U C)):U (S×S)->uC (U (U PV))
 | []=>O []
 | (k,o)::r=>match Qhl bx k o,Ry bx r with
   | some p,O ps=>O (p::ps)
   | _,_=>G
def RY (bx:U (S×U C)):C->uC C
 | .int k n=>O (.int k n)
 | .bool b=>O (.bool b)
 | .str s=>O (.str s)
 | .slc _ n l=>O (.slc .sh n l)
 | .ptr k off=>(Qhl bx k off).map (.rptr .sh)
 | .rptr _ cs=>O (.rptr .sh cs)
 | .ept _ _ _ _ _ cs=>O (.rptr .sh cs)
 | .fn f caps=>(Ry bx caps).map (.fnr f)
 | .fnr f caps=>O (.fnr f caps)
 | .raw v=>O (.raw v)
 | .dead=>G
def VG (bx:U (S×U C)):U C->uC (U C)
 | []=>O []
 | c::r=>match RY bx c,VG bx r with
   | some p,O ps=>O (p::ps)
   | _,_=>G
def Qla (bx:U (S×U C)):AV->uC AV
 | .one c=>(RY bx c).map .one
 | .agg cs=>(VG bx cs).map .agg
 | .tup _=>G
def Ra (bx:U (S×U C)):U AV->uC (U AV)
 | []=>O []
 | c::r=>match Qla bx c,Ra bx r with
   | some p,O ps=>O (p::ps)
   | _,_=>G
def VH (d:S):C->C
 | .slc (.own b k) n l=> .slc (.own b (64*d+k)) n l
 | c=>c
def VI:C->uB
 | .slc (.own _ k) _ _=>Nat.blt k 64
 | .slc (.vw _) _ _=>uD
 | .ptr _ _=>uD
 | .rptr _ _=>uD
 | .ept _ _ _ _ _ _=>uD
 | .fn _ _=>uD
 | .fnr _ _=>uD
 | .dead=>uD
 | _=>uA
def XS:C->uB
 | .slc .sh _ _=>uA
 | .slc (.own uD _) _ _=>uA
 | _=>uD
def VJ:C->uB
 | .ptr _ _=>uD
 | .fn _ []=>uA
 | .fn _ _=>uD
 | .fnr _ _=>uD
 | .rptr _ _=>uD
 | .ept _ _ _ _ _ _=>uD
 | _=>uA
def Ou:C->uB
 | .ptr _ _=>uD
 | .fn _ _=>uD
 | .fnr _ _=>uD
 | .rptr _ _=>uD
 | .ept _ _ _ _ _ _=>uD
 | _=>uA
def H3 (f:C->uB):U C->uB
 | []=>uA
 | c::r=>f c&&H3 f r
def Y6:U AV->U C
 | []=> []
 | v::r=>v.cells++Y6 r
def Va:U S->U (S×uC Tok)
 | []=> []
 | k::r=>(k,G)::Va r
def X5:U S->U (S×uC Tok)
 | []=> []
 | k::r=>(k,O .sh)::X5 r
def XT (n:S):U S->U (S×uC Tok)
 | []=> []
 | k::r=>(k,O (.vw n))::XT n r
end
section
open Go.RowKit
def Qc2 (tt:U (S×TI)) (orc:Orc) (bn:U (S×U C)):Op->U AV->uC (AV×U Ob)
 | .move _, [v]=>O (v, [])
 | .assign _, [v]=>O (v, [])
 | .pick _ _ _, [.one (.bool c),a,b]=>O (bif c then a else b, [])
 | .binOp op t _ _ _, [.one x,.one y]=>
   match Qp8 op x y with
   | some (c,obs)=>O (.one c,obs)
   | none=>(match x,y with
     | .bool a,.bool b=>(match NY tt op t a b with
       | some (c,obs)=>O (.one c,obs)
       | none=>G)
     | _,_=>G)
 | .binOp op t _ _ _, [.agg xs,.agg ys]=>
   (match get tt t with
   | some ⟨_,_,_,l::ls⟩=>(match op,Bg (l::ls) xs ys with
     | .eql,O b=>O (.one (.bool b), [])
     | .neq,O b=>O (.one (.bool (!b)), [])
     | _,_=>G)
   | _=>G)
 | .unOp op _ _, [.one x]=>
   (match op,x with
   | .not,.bool b=>O (.one (.bool (!b)), [])
   | .neg,.int k n=>O (.one (.int k (k.wrap (0-n))), [])
   | _,_=>G)
 | .field t _ f, [.agg cs]=>
   (match G8 tt t f with
   | some (o,sz,uA)=>bif yQ (o+sz) cs.length then O (.agg ((cs.drop o).take sz), []) else G
   | some (o,_,uD)=>(match cs[o]? with
     | some c=>O (.one c, [])
     | none=>G)
   | none=>G)
 | .extract _ i, [.tup l]=>
   (match l[i]? with
   | some (uA,cs)=>O (.agg cs, [])
   | some (uD, [c])=>O (.one c, [])
   | _=>G)
 | .fieldAddr t _ f, [.one (.ptr k off)]=>
   (match G8 tt t f with
   | some (o,sz,_)=>bif zF sz 0 then G else O (.one (.ptr k (off+o)), [])
   | none=>G)
 | .fieldAddr t _ f, [.one (.rptr tok cs)]=>
   (match G8 tt t f with
   | some (o,sz,_)=>bif zF sz 0 then G else O (.one (.rptr tok (cs.drop o)), [])
   | none=>G)
 | .nilCheck _, [.one (.ptr k off)]=>O (.one (.ptr k off), [])
 | .nilCheck _, [.one (.rptr t cs)]=>O (.one (.rptr t cs), [])
 | .build t ps,avs=>
   (match get tt t with
   | some ⟨.struct fs,_,zero,_⟩=>bif zF ps.size avs.length then (match Qc1 fs zero ((ps.toList.map (·.1)).zip avs) with
     | some cs=>O (.agg cs, [])
     | none=>G) else G
   | _=>G)
 | .makeFunc (.func f) first _,avs=>
   bif zF first.size 0 then (match VE avs with
    | some caps=>O (.one (.fn f caps), [])
    | none=>G) else G
 | .convert s d _, [.one (.int _ n)]=>
   (match get tt s,get tt d with
   | some _,O ⟨.int k,_,_,_⟩=>O (.one (.int k (k.wrap n)), [])
   | _,_=>G)
 | .call ⟨.builtin .len,_,tys⟩, [.one x]=>
   (match tys[0]? with
   | some t=>(match get tt t,x with
     | some ⟨.sli _,_,_,_⟩,.slc _ _ l=>O (.one (.int .i64 l.length), [])
     | some ⟨.str,_,_,_⟩,.str s=>O (.one (.int .i64 s.size), [])
     | _,_=>G)
   | none=>G)
 | .index t _ _, [.one (.str s),.one (.int _ i)]=>
   (match get tt t with
   | some ⟨.str,_,_,_⟩=>O (.one (.int .u8 (Z9 s i)), [.idx i s.size])
   | _=>G)
 | .indexAddr t _ _, [.one (.slc tok n l),.one (.int _ i)]=>
   (match get tt t,orc,Tk tok with
   | some ⟨.sli e,_,_,_⟩,.row r,O tok'=>(match get tt e with
     | some ei=>bif zF ei.size n then O (.one (.rptr tok' r), [.elem l i r]) else G
     | none=>G)
   | _,_,_=>G)
 | .slice t _ lo hi G,.one (.slc tok n l)::r=>
   (match get tt t with
   | some ⟨.sli e,_,_,_⟩=>(match get tt e,M3 0 lo r with
     | some ei,O (a,r1)=>(match M3 l.length hi r1 with
       | some (b, [])=>bif zF ei.size n then O (.one (.slc (Qka tok) n ((l.take b.toNat).drop a.toNat)), [.rng a b l.length]) else G
       | _=>G)
     | _,_=>G)
   | _=>G)
 | .slice t _ lo hi G,.one (.str s)::r=>
   (match get tt t with
   | some ⟨.str,_,_,_⟩=>(match M3 0 lo r with
     | some (a,r1)=>(match M3 s.size hi r1 with
       | some (b, [])=>O (.one (.str (s.extract a.toNat b.toNat)), [.rng a b s.size])
       | _=>G)
     | _=>G)
   | _=>G)
 | .load t _, [.one (.ptr k off)]=>
   (match get tt t,get bn k with
   | some ti,O cells=>(match Qaw ti ((cells.drop off).take ti.size) with
     | some v=>O (v, [])
     | none=>G)
   | _,_=>G)
 | .load t _, [.one (.rptr tok cs)]=>
   (match get tt t with
   | some ti=>bif yQ ti.size cs.length then (match Qaw ti ((cs.take ti.size).map (AC tok)) with
     | some v=>O (v, [])
     | none=>G) else G
   | none=>G)
 | _,_=>G
def Da (l:U (U PV)):Prop:=∀r,r∈l->∀p,p∈r->p.flat
structure TiOk (P:uF) (t:S) (i:TI):Prop where
 und:∃d,P.underlying t=O d/\Tj P d i.kind=uA
 eqs:Qp4 P t i=uA
 info:∃inf z,P.info? t=O inf/\inf.size=i.size/\inf.bytes<=1000/\inf.zero=O z/\z.cells.size=i.size/\A4 z.cells.toList i.zero=uA
theorem Qc3 {P:uF} {t:S} {i:TI} (h:Qp5 P t i=uA):TiOk P t i:=by
 unfold Qp5 at h;split at h
 . rename_i d inf hd hi;simp only[zH] at h;obtain ⟨⟨⟨⟨h1,h2⟩,h3⟩,h4⟩,h5⟩:=h;split at h4
   . rename_i z hz;simp only[zH] at h4;exact ⟨⟨d,hd,h1⟩,h5,inf,z,hi,by simpa using h2,by simpa using h3,hz,by simpa using h4.1,h4.2⟩
   cases h4
 cases h
theorem Z8 {P:uF}:∀{tt:U (S×TI)} {t:S} {i:TI},Fb P tt=uA->get tt t=O i->TiOk P t i
 | [],_,_,_,h=>by cases h
 | (k,a)::r,t,i,h,hg=>by
   simp only[Fb,zH] at h;simp only[get] at hg;split at hg
   . rename_i hk;obtain rfl:=zE hg;exact hk▸Qc3 h.1
   exact Z8 h.2 hg
theorem TiOk.sli {P:uF} {q:U LK} {t e n:S} {z:U C} (h:TiOk P t ⟨.sli e,n,z,q⟩):P.underlying t=O (.slice e):=by
 obtain ⟨d,hd,hk⟩:=h.und;cases d<;>simp[Tj] at hk
 rw[hd,hk]
theorem TiOk.str {P:uF} {q:U LK} {t n:S} {z:U C} (h:TiOk P t ⟨.str,n,z,q⟩):P.underlying t=O .string:=by
 obtain ⟨d,hd,hk⟩:=h.und;cases d<;>simp[Tj] at hk
 exact hd
theorem TiOk.bool {P:uF} {q:U LK} {t n:S} {z:U C} (h:TiOk P t ⟨.bool,n,z,q⟩):P.underlying t=O .bool:=by
 obtain ⟨d,hd,hk⟩:=h.und;cases d<;>simp[Tj] at hk
 exact hd
theorem TiOk.int {P:uF} {q:U LK} {t n:S} {k:uJ} {z:U C} (h:TiOk P t ⟨.int k,n,z,q⟩):P.underlying t=O (.int k):=by
 obtain ⟨d,hd,hk⟩:=h.und;cases d<;>simp[Tj] at hk
 rw[hd,hk]
theorem TiOk.struct {P:uF} {q:U LK} {t n:S} {fs:U (S×S×uB)} {z:U C} (h:TiOk P t ⟨.struct fs,n,z,q⟩):∃gs:uG Field,P.underlying t=O (.struct gs)/\Eh P gs.toList fs=uA:=by
 obtain ⟨d,hd,hk⟩:=h.und;cases d with
 | struct gs=>exact ⟨gs,hd,by simpa [Tj] using hk⟩
 | _=>simp[Tj] at hk
theorem TiOk.agg {P:uF} {t:S} {i:TI} (h:TiOk P t i):∃d,P.underlying t=O d/\VB d=i.agg:=by
 obtain ⟨d,hd,hk⟩:=h.und;refine ⟨d,hd, ?_⟩;obtain ⟨kind,_,_,_⟩:=i;cases d<;>cases kind<;>simp_all [Tj,TI.agg,VB]
theorem D6 {P:uF} {t:S} {d:TypeDesc} (h:P.underlying t=O d) (w:E):(isAgg t).run P w= .ok (VB d) w:=by
 unfold isAgg;simp only[Sem.run_bind,run_underlying h,Result.andThen_ok];cases d<;>rfl
theorem Rb {P:uF}:∀{gs:U Field} {fs:U (S×S×uB)} {f o sz:S} {ag:uB},Eh P gs fs=uA->fs[f]? =O (o,sz,ag)->
 ∃g inf d,gs[f]? =O g/\g.offset=o/\P.info? g.type=O inf/\inf.size=sz/\P.underlying g.type=O d/\VB d=ag
 | [], [],_,_,_,_,_,h=>by simp at h
 | [],_::_,_,_,_,_,h,_=>by simp[Eh] at h
 | _::_, [],_,_,_,_,h,_=>by simp[Eh] at h
 | g :: gs,(o',sz',ag')::fs,f,o,sz,ag,h,hf=>by
   simp only[Eh,zH] at h;obtain ⟨⟨⟨h1,h2⟩,h3⟩,h4⟩:=h;cases f with
   | succ f=>
     obtain ⟨g',inf,d,k1,k2⟩:=Rb (gs:=gs) (fs:=fs) h4 (f:=f) (by simpa using hf);exact ⟨g',inf,d,by simpa using k1,k2⟩
   | zero=>
     simp at hf;obtain ⟨rfl,rfl,rfl⟩:=hf;split at h2
     . rename_i inf hi;split at h3
       . rename_i d hd;refine ⟨g,inf,d,rfl,by simpa using h1,hi,by simpa using h2,hd, ?_⟩;revert h3;generalize VB d=x;cases x<;>cases ag'<;>simp
       cases h3
     cases h2
end
section
open Go.RowKit
def Ob.holds (A:S->U AV->AV->Prop) (T:TakeT):Ob->Prop
 | .call f args r=>A f args r
 | .eq a b=>a=b
 | .elem l i r=>0<=i/\l[i.toNat]? =O r
 | .rng lo hi n=>0<=lo/\lo<=hi/\hi<=n
 | .idx i n=>0<=i/\i<n
 | .flat l=>Da l
 | .len n=>n<=1073741824
 | .slen n=>n<=uI
 | .nz n=>n≠0
 | .inr k n=>InR k n
 | .take f n l args mix turn l'=>T.take f n l args mix turn l'
 | .give f cs args r cs'=>T.give f cs args r cs'
 | .val f args r=>T.val f args r
 | .ins f n=>T.ins f n
def AllOb (A:S->U AV->AV->Prop) (T:TakeT):U Ob->Prop
 | []=>True
 | [x]=>x.holds A T
 | x::r=>x.holds A T/\AllOb A T r
theorem AllOb.cons {A:S->U AV->AV->Prop} {T:TakeT} {x:Ob} {r:U Ob} (h:AllOb A T (x::r)):x.holds A T/\AllOb A T r:=by
 cases r with
 | nil=>exact ⟨h,trivial⟩
 | cons y r=>exact h
theorem AllOb.append {A:S->U AV->AV->Prop} {T:TakeT}:∀{x y:U Ob},AllOb A T (x++y)->AllOb A T x/\AllOb A T y
 | [],y,h=>⟨trivial,h⟩
 | [a],y,h=>AllOb.cons h
 | a::b::r,y,h=>by
   obtain ⟨h1,h2⟩:=AllOb.cons h;obtain ⟨h3,h4⟩:=AllOb.append (x:=b::r) h2;exact ⟨⟨h1,h3⟩,h4⟩
section
variable {P:uF} {A:S->U AV->AV->Prop} {T:TakeT} {J:Inj} {w:E}
theorem Qlb {k:uJ} {a b:uE} (h:InR k a):InR k (Qnx k a b):=by
 have hp:(0:uE)<2^(min b.toNat k.bits):=Int.pow_pos (by decide);have e:Qnx k a b=a / 2^(min b.toNat k.bits):=by unfold Qnx;exact Int.fdiv_eq_ediv_of_nonneg _ (by omega)
 rw[e];generalize (2:uE)^(min b.toNat k.bits)=p at hp;have h0:k.min<=0/\0<=k.max:=by cases k<;>decide
 obtain ⟨h1,h2⟩:=h;constructor
 . by_cases ha:0<=a
   . have:=Int.ediv_nonneg ha (by omega:0<=p);omega
   have:a<=a / p:=(Int.le_ediv_iff_mul_le hp).2 (by
    have:a*p<=a*1:=Int.mul_le_mul_of_nonpos_left (by omega) (by omega);omega)
   omega
 have:a / p<=k.max:=(Int.ediv_le_iff_le_mul hp).2 (by
  have:k.max*1<=k.max*p:=Int.mul_le_mul_of_nonneg_left (by omega) h0.2;omega)
 exact this
theorem Qlc {op:BinOp} {x y c:C} {obs:U Ob} {vx vy:I} (h:Qp8 op x y=O (c,obs)) (hob:AllOb A T obs) (hx:CR J w vx x) (hy:CR J w vy y) (t:uH) (px py:Operand):
 ∃u,(do eqGuard op t px py vx vy;binOp op t vx vy:Sem I).run P w= .ok u w/\CR J w u c:=by
 unfold Qp8 at h;split at h
 . rename_i k a k' b;obtain ⟨rfl,ha⟩:=hx;obtain ⟨rfl,hb⟩:=hy;cases hs:Qn4 op with
   | true=>
     rw[hs] at h;simp only[uN] at h;cases op<;>try cases hs
     by_cases hb0:0<=b
     . simp only[hb0,decide_true,uN,Option.some.injEq,Prod.mk.injEq] at h;obtain ⟨rfl,rfl⟩:=h;have hb1:¬b<0:=by omega
       exact ⟨.int k (Qnx k a b),by simp[eqGuard,binOp,Op.shift,hb1,Qnx],rfl,Qlb ha⟩
     simp[hb0] at h
   | false=>
   rw[hs] at h;simp only[uP] at h;by_cases hk:k=k'
   . subst hk;simp only[decide_true,uN] at h;cases op<;>simp[Qj8] at h<;>obtain ⟨rfl,rfl⟩:=h
     case quo=>
      have hz:¬(b=0):=hob;exact ⟨_,by simp[eqGuard,binOp,Op.intDiv,hz],rfl,P9 _ _⟩
     case rem=>
      have hz:¬(b=0):=hob.1;exact ⟨_,by simp[eqGuard,binOp,Op.intDiv,hz],rfl,hob.2⟩
     case and=>exact ⟨.int k (Qp6 k a b),by simp[eqGuard,binOp,Op.intBits,Qp6],rfl,P9 _ _⟩
     case xor=>exact ⟨.int k (Qp7 k a b),by simp[eqGuard,binOp,Op.intBits,Qp7],rfl,P9 _ _⟩
     all_goals first
      | exact ⟨_,by simp[eqGuard,binOp,Op.intArith],rfl,P9 _ _⟩
      | exact ⟨_,by simp[eqGuard,binOp,Op.intCmp],rfl⟩
   simp[hk] at h
 . rename_i a b;obtain ⟨rfl,ha⟩:=hx;obtain ⟨rfl,hb⟩:=hy;cases op<;>simp[Qj9] at h<;>obtain ⟨rfl,rfl⟩:=h
   case add=>
    have hz:a.size+b.size<=uI:=hob;have hz':¬(((a.size+b.size:S):uE)>IntKind.i64.max):=by unfold uI at hz;simp[IntKind.max,IntKind.bits,IntKind.signed];omega
    refine ⟨.string (a++b), ?_,rfl,by simpa using hz⟩;simp only[eqGuard,binOp,Op.stringOp,uK hz'];rfl
   all_goals exact ⟨_,by simp[eqGuard,binOp,Op.stringOp],rfl⟩
 cases h
theorem Qax {tt:U (S×TI)} (htt:Fb P tt=uA) {op:BinOp} {t:S} {a b:uB} {c:C} {obs:U Ob} (h:NY tt op t a b=O (c,obs)) (px py:Operand):
 ∃u,(do eqGuard op t px py (.bool a) (.bool b);binOp op t (.bool a) (.bool b):Sem I).run P w= .ok u w/\CR J w u c:=by
 unfold NY at h;split at h
 . rename_i n z hg;have hu:=(Z8 htt hg).bool;have he:(Op.equal t (.bool a) (.bool b)).run P w= .ok (a==b) w:=run_equalIn_bool w 9999 t a b hu;cases op<;>simp at h<;>obtain ⟨rfl,rfl⟩:=h
   . exact ⟨_,by simp[eqGuard,binOp,he],rfl⟩
   exact ⟨_,by simp[eqGuard,binOp,he],rfl⟩
 cases h
theorem Um {t:S} {inf:TypeInfo} (h:P.info? t=O inf) (w:E):(typeInfo t).run P w= .ok inf w:=by simp[typeInfo,h]
theorem D7 {t:S} {i:TI} (h:TiOk P t i) (w:E):(sizeOf t).run P w= .ok i.size w:=by
 obtain ⟨inf,z,h1,h2,_⟩:=h.info;simp[sizeOf,Um h1,h2]
theorem JZ {ti:TI} {t:S} (hti:TiOk P t ti) {vs:U I} {cs:U C} {v:AV} (hall:All2 (CR J w) vs cs) (hv:Qaw ti cs=O v) {b off:S} (hc:∀(j:S) (u:I),vs[j]? =O u->w.cell? ⟨b,off+j,G⟩=O u):
 ∃u,(loadVar t ⟨b,off,G⟩).run P w= .ok u w/\AR J w u v:=by
 obtain ⟨d,hd,hagg⟩:=hti.agg;unfold Qaw at hv;cases ha:ti.agg with
 | true=>
   rw[ha] at hv;simp only[] at hv;cases hl:zF cs.length ti.size with
   | false=>rw[hl] at hv;cases hv
   | true=>
     rw[hl] at hv;obtain rfl:=zE hv;have hlen:vs.length=ti.size:=by rw[hall.length];simpa using hl
     have hld:=run_loadCells_list (P:=P) w ⟨b,off,G⟩ vs (λj u hj=>by rw[Addr.add_lit];exact hc j u hj);refine ⟨.agg vs.toArray, ?_,vs,rfl,hall⟩;rw[hlen] at hld;simp[loadVar,D6 hd,hagg,ha,D7 hti,hld]
 | false=>
   rw[ha] at hv;simp only[] at hv;split at hv
   . obtain rfl:=zE hv;cases hall with
     | cons h1 h2=>
       cases h2
       rename_i u;refine ⟨u, ?_,h1⟩;have:=hc 0 u rfl;rw[Nat.add_zero] at this;simp[loadVar,D6 hd,hagg,ha,load,Sem.run,this]
   cases hv
theorem DF {tok:Tok} {X:S->Prop} (hX:∀c n l,VV X w c (.slc n l)->CR J w c (.slc tok n l)) {v:I} {p:PV} (h:VV X w v p):CR J w v (AC tok p):=by
 cases p with
 | int k n=>cases h;exact ⟨rfl,‹_›⟩
 | bool b=>cases h;rfl
 | str s=>cases h;exact ⟨rfl,‹_›⟩
 | slc n l=>exact hX v n l h
 | any=>exact trivial
 | raw u=>cases h;exact ⟨rfl,‹_›,‹_›⟩
theorem Ce {vs:U I} {b off k:S} (hc:∀(j:S) (u:I),vs[j]? =O u->w.cell? ⟨b,off+j,G⟩=O u):∀(j:S) (u:I),(vs.drop k)[j]? =O u->w.cell? ⟨b,off+k+j,G⟩=O u:=by
 intro j u hj;rw[zY] at hj;rw[Nat.add_assoc];exact hc _ u hj
theorem D8 {vs:U I} {b off k:S} (hc:∀(j:S) (u:I),vs[j]? =O u->w.cell? ⟨b,off+j,G⟩=O u):∀(j:S) (u:I),(vs.take k)[j]? =O u->w.cell? ⟨b,off+j,G⟩=O u:=by
 intro j u hj;rw[zK] at hj;split at hj
 . exact hc _ u hj
 cases hj
theorem Qhm {tok tok':Tok} {n:S} {l:U (U PV)} {v:I} (h:CR J w v (.slc tok n l)) (ht:Tk tok=O tok') {i:S} {r:U PV} (hi:l[i]? =O r):
 ∃b off cap vs,v= .slice (O ⟨b,off,G⟩) l.length cap/\J.X tok' b/\VC (J.X tok') w vs r/\r.length=n/\∀(j:S) (u:I),vs[j]? =O u->w.cell? ⟨b,off+i*n+j,G⟩=O u:=by
 have key:∀X:S->Prop,VV X w v (.slc n l)->∃b off cap vs,v= .slice (O ⟨b,off,G⟩) l.length cap/\X b/\VC X w vs r/\r.length=n/\∀(j:S) (u:I),vs[j]? =O u->w.cell? ⟨b,off+i*n+j,G⟩=O u:=by
  intro X hv;generalize hp:PV.slc n l=p at hv;cases hv with
  | int | bool | str | any | raw=>cases hp
  | emp oa n' hcap=>cases hp;simp at hi
  | slc hb hc hr h1 h2=>
    cases hp
    obtain ⟨h3,h4⟩:=hr.get hi;refine ⟨_,_,_,_,rfl,hb,h3,h4, ?_⟩;exact D8 (Ce hc)
 cases tok with
 | sh => obtain rfl:Tok.sh=tok':=by simpa [Tk] using ht
         exact key _ h
 | emp=>cases ht
 | put=>cases ht
 | vw k => obtain rfl:Tok.vw k=tok':=by simpa [Tk] using ht
           exact key _ h
 | own d k=>
   obtain rfl:Tok.vw k=tok':=by simpa [Tk] using ht
   cases d with
   | true=>exact key _ (OwnDeep.vv h λb hb=>⟨Or.inl hb,rfl⟩)
   | false=>exact key _ (OwnTop.vv h (λb hb=>⟨.inr hb,rfl⟩) λb hb=>⟨.inl hb,rfl⟩)
theorem Tl {tok:Tok} {n:S} {l:U (U PV)} {v:I} (h:CR J w v (.slc tok n l)):∃oa cap,v= .slice oa l.length cap/\l.length<=cap/\cap<=uI/\(tok= .emp->cap=0):=by
 have key:∀X:S->Prop,VV X w v (.slc n l)->∃oa cap,v= .slice oa l.length cap/\l.length<=cap/\cap<=uI:=by
  intro X hv;generalize hp:PV.slc n l=p at hv;cases hv with
  | int | bool | str | any | raw=>cases hp
  | emp oa n' hcap=>cases hp;exact ⟨oa,_,rfl,zZ _,hcap⟩
  | slc hb hc hr h1 h2=>cases hp;exact ⟨_,_,rfl,h1,h2.1⟩
 cases tok with
 | sh=>obtain ⟨a,b,c,d,e⟩:=key _ h;exact ⟨a,b,c,d,e,by simp⟩
 | emp=>obtain ⟨rfl,oa,rfl⟩:=h;exact ⟨oa,0,rfl,zP _,zZ _,λ_=>rfl⟩
 | vw k=>obtain ⟨a,b,c,d,e⟩:=key _ h;exact ⟨a,b,c,d,e,by simp⟩
 | put=>exact h.elim
 | own d k=>
   cases d with
   | true=>obtain ⟨a,b,c,d,e⟩:=key (λ_=>True) (OwnDeep.vv h λb hb=>⟨trivial,rfl⟩);exact ⟨a,b,c,d,e,by simp⟩
   | false=>obtain ⟨a,b,c,d,e⟩:=key (λ_=>True) (OwnTop.vv h (λb hb=>⟨trivial,rfl⟩) λb hb=>⟨trivial,rfl⟩);exact ⟨a,b,c,d,e,by simp⟩
theorem VV.sub {X:S->Prop} {n lo hi cap:S} {l:U (U PV)} {oa:uC Addr} (h:VV X w (.slice oa l.length cap) (.slc n l)) (h1:lo<=hi) (h2:hi<=l.length) (m:S) (hm:hi-lo<=m/\m<=uI):
 VV X w (.slice (oa.map (·.add (lo*n))) (hi-lo) m) (.slc n ((l.take hi).drop lo)):=by
 have hlen:((l.take hi).drop lo).length=hi-lo:=by simp[Nat.min_eq_left h2]
 generalize hp:PV.slc n l=p at h;generalize hv:Value.slice oa l.length cap=v at h;cases h with
 | int | bool | str | any | raw=>cases hp
 | emp oa' n' hcap=>
   cases hp
   simp at h2;subst h2;have:lo=0:=by omega
   subst this;simpa using VV.emp (X:=X) (w:=w) (oa.map (·.add (0*n))) n hm.2
 | @slc b off cap' n' cs l' hb hc hr h3 h4=>
   cases hp
   cases hv
   rw[←hlen];simp only[zX,Addr.add_lit];refine .slc (cs:=(cs.take (hi*n)).drop (lo*n)) hb ?_ ((hr.take hi).drop lo) (by rw[hlen];exact hm.1) ⟨hm.2,by have:=h4.2;omega⟩;exact Ce (D8 hc)
end
end
section
open Go.RowKit
section
variable {P:uF} {A:S->U AV->AV->Prop} {T:TakeT} {J:Inj} {w:E}
theorem Qc4 {n:S} (h:n<=uI):InR .i64 (n:uE):=by
 unfold uI at h;exact (So _).2 ⟨by omega,by omega⟩
theorem Qhn (b:UInt8):InR .u8 (b.toNat:uE):=by
 have:=b.toNat_lt;simp[InR,IntKind.min,IntKind.max,IntKind.bits,IntKind.signed];omega
theorem DG:∀{vs:U I} {cs:U C},A4 vs cs=uA->All2 (CR J w) vs cs
 | [], [],_=> .nil
 | [],_::_,h=>by simp[A4] at h
 | _::_, [],h=>by simp[A4] at h
 | v::vs,c::cs,h=>by
   simp only[A4,zH] at h;refine .cons ?_ (DG h.2);have h1:=h.1;unfold Ti at h1;split at h1
   . simp at h1;obtain ⟨⟨rfl,rfl⟩,rfl⟩:=h1;refine ⟨rfl, ?_⟩;cases ‹uJ›<;>simp[InR,IntKind.min,IntKind.max,IntKind.bits,IntKind.signed]
   . simp at h1;obtain ⟨rfl,rfl⟩:=h1;rfl
   . rename_i s t;simp at h1;obtain ⟨rfl,rfl⟩:=h1;exact ⟨rfl,zZ _⟩
   . exact ⟨rfl,G,rfl⟩
   cases h1
theorem VK:∀(us:U I) (o k:S) (cells:uG I),o+k+us.length<=cells.size->
 (us.zipIdx k).foldl (λcs (c,j)=>cs.setIfInBounds (o+j) c) cells=putCells cells (o+k) us
 | [],_,_,_,_=>rfl
 | u::us,o,k,cells,h=>by
   simp only[List.zipIdx_cons,List.foldl_cons,putCells];rw[VK us o (k+1) _ (by simp at h⊢;omega)];rfl
theorem M4 {us:U I} {o:S} {cells:uG I} (h:o+us.length<=cells.size):(putCells cells o us).toList=cells.toList.take o++us++cells.toList.drop (o+us.length):=by
 apply yM;intro j;rw[zG];by_cases h1:j<o
 . rw[F8 us o cells j (.inl h1),zS,zR (by simp;omega),zK,uL h1,zG]
 by_cases h2:j<o+us.length
 . obtain ⟨k,rfl⟩:∃k,j=o+k:=⟨j-o,by omega⟩;have hl:(cells.toList.take o).length=o:=by simp;omega
   rw[Sn us o cells k h (by omega),zS,zQ (by omega),hl,zR (by omega)]
   congr 1
   omega
 rw[F8 us o cells j (.inr (by omega))];have hl:(cells.toList.take o++us).length=o+us.length:=by simp;omega
 rw[zQ (by omega),hl,zY,zG]
 congr 1
 omega
theorem VL {v:I} {c:C} (h:CR J w v c) (ha:Qn5 c=uA):v.cells= #[v]/\v.oneCell'=uA:=by
 have key:∀n l X,VV X w v (.slc n l)->v.cells= #[v]/\v.oneCell'=uA:=by
  intro n l X hv;generalize PV.slc n l=p at hv;cases hv with
  | any h1 h2=>exact ⟨h1,h2⟩
  | raw h1 h2=>exact ⟨h1,h2⟩
  | _=>exact ⟨rfl,rfl⟩
 cases c with
 | int=>obtain ⟨rfl,_⟩:=h;exact ⟨rfl,rfl⟩
 | bool=>obtain rfl:=h;exact ⟨rfl,rfl⟩
 | str=>obtain ⟨rfl,_⟩:=h;exact ⟨rfl,rfl⟩
 | slc t n l=>obtain ⟨oa,cap,rfl,_⟩:=Tl h;exact ⟨rfl,rfl⟩
 | ptr k o=>obtain rfl:=h;exact ⟨rfl,rfl⟩
 | rptr t cs=>obtain ⟨b,off,vs,rfl,_⟩:=h;exact ⟨rfl,rfl⟩
 | ept d k n i o cs=>obtain ⟨g,r,vs,_,rfl,_⟩:=h;exact ⟨rfl,rfl⟩
 | fn f caps=>obtain rfl:=h;exact ⟨rfl,rfl⟩
 | fnr f caps=>obtain ⟨vs,rfl,_⟩:=h;exact ⟨rfl,rfl⟩
 | raw u=>exact h.2
 | dead=>cases ha
theorem Ov:∀{vs:U I} {cs:U C},All2 (CR J w) vs cs->A7 cs=uA->∀u,u∈vs->u.oneCell'=uA
 | _,_,.nil,_,u,hu=>by simp at hu
 | _,_,.cons h1 h2,h,u,hu=>by
   simp only[A7,zH] at h;rcases yD.1 hu with rfl | hu
   . exact (VL h1 h.1).2
   exact Ov h2 h.2 u hu
theorem Mn {v:I} {x:AV} {cs:U C} (h:AR J w v x) (hf:x.flatCells=O cs) (ha:A7 cs=uA):All2 (CR J w) v.cells.toList cs:=by
 cases x with
 | one c=>
   obtain rfl: [c]=cs:=by simpa [AV.flatCells] using hf
   simp only[A7,Bool.and_true] at ha;have:=(VL (v:=v) (c:=c) h ha).1;rw[this];exact .cons h .nil
 | agg l=>
   obtain rfl:l=cs:=by simpa [AV.flatCells] using hf
   obtain ⟨vs,rfl,h2⟩:=h;exact h2
 | tup l=>cases hf
theorem Qld (place:S->uC (S×S)) {fs:U (S×S×uB)} (hp:∀i o sz ag,fs[i]? =O (o,sz,ag)->place i=O (o,sz)):
 ∀ (l:U (S×AV)) (vs:U I) (cells:uG I) (cs cs':U C),All2 (CR J w) cells.toList cs->All2 (λv p=>AR J w v p.2) vs l->Qc1 fs cs l=O cs'->
   ∃out,Instr.fill place cells ((l.map (·.1)).zip vs)=O out/\All2 (CR J w) out.toList cs':=by
 intro l
 induction l with
 | nil=>
   intro vs cells cs cs' hc hv h;cases hv
   obtain rfl:cs=cs':=by simpa [Qc1] using h
   exact ⟨cells,rfl,hc⟩
 | cons p l ih=>
   intro vs cells cs cs' hc hv h;obtain ⟨i,x⟩:=p;cases hv with
   | cons h1 h2=>
     rename_i v vs;simp only[Qc1] at h;split at h
     . rename_i o sz ag ys hi hy;cases hb:(zF ys.length sz&&yQ (o+sz) cs.length&&A7 ys) with
       | false=>rw[hb] at h;cases h
       | true=>
         rw[hb] at h;simp only[zH,Nat.beq_eq,Nat.ble_eq] at hb;obtain ⟨⟨e1,e2⟩,e3⟩:=hb;have hcl:=Mn h1 hy e3;have hn:v.cells.size=sz:=by have:=hcl.length;simp at this;omega
         have hcs:=hc.length;simp at hcs;have hput:=VK v.cells.toList o 0 cells (by simp;omega)
         have hput':v.cells.zipIdx.foldl (λcs x=>cs.setIfInBounds (o+x.2) x.1) cells=putCells cells o v.cells.toList:=by
          rw[Nat.add_zero] at hput;rw[←hput,←Array.foldl_toList];simp
         have hc':All2 (CR J w) (putCells cells o v.cells.toList).toList (cs.take o++ys++cs.drop (o+sz)):=by
          rw[M4 (by simp;omega)];refine ((hc.take o).append hcl).append ?_;rw[show o+v.cells.toList.length=o+sz by simp;omega];exact hc.drop _
         obtain ⟨out,ho,ha⟩:=ih vs _ _ cs' hc' h2 h;refine ⟨out, ?_,ha⟩;simp only[yN,List.zip_cons_cons,Instr.fill,hp i o sz ag hi];rw[uK (by simp[hn];omega)];exact (uO (λz=>Instr.fill place z _) hput').trans ho
     cases h
theorem M5:∀{ls:U LK} {xs ys:U C} {b:uB},Bg ls xs ys=O b->xs.length=ls.length/\ys.length=ls.length
 | [], [], [],_,_=>⟨rfl,rfl⟩
 | [], [],_::_,_,h=>by cases h
 | [],_::_,_,_,h=>by cases h
 | _::_, [],_,_,h=>by cases h
 | _::_,_::_, [],_,h=>by cases h
 | l::ls,x::xs,y::ys,b,h=>by
   simp only[Bg] at h;split at h
   . rename_i e1 e2;have:=M5 e2;exact ⟨by simp[this.1],by simp[this.2]⟩
   cases h
theorem VM:∀{ls ls':U LK} {xs ys:U C} {b:uB},Bg (ls++ls') xs ys=O b->∃p q,Bg ls (xs.take ls.length) (ys.take ls.length)=O p/\Bg ls' (xs.drop ls.length) (ys.drop ls.length)=O q/\b=(p&&q)
 | [],ls',xs,ys,b,h=>⟨uA,b,by simp[Bg],by simpa using h,rfl⟩
 | l::ls,ls', [],ys,b,h=>by cases h
 | l::ls,ls',x::xs, [],b,h=>by cases h
 | l::ls,ls',x::xs,y::ys,b,h=>by
   simp only[List.cons_append,Bg] at h;split at h
   . rename_i p0 q0 e1 e2;obtain rfl:=zE h;obtain ⟨p,q,h1,h2,rfl⟩:=VM e2;exact ⟨p0&&p,q,by simp[Bg,e1,h1],by simpa using h2,by rw[Bool.and_assoc]⟩
   cases h
def asV (P:uF) (t:S) (vs:U I):I:=match P.underlying t with
 | some (.struct _)=> .agg vs.toArray
 | _=>vs.headD undef
theorem Sr {t:S} {dd:TypeDesc} (h:P.underlying t=O dd) (hag:VB dd=uD) (v:I):asV P t [v]=v:=by
 unfold asV;rw[h];cases dd<;>first | rfl | cases hag
theorem Qc5 {f :S->uC (U LK)} {d:S} (hf:∀t l,f t=O l->∀{vs us:U I} {xs ys:U C} {b:uB},All2 (CR J w) vs xs->All2 (CR J w) us ys->Bg l xs ys=O b->(Op.equalIn d t (asV P t vs) (asV P t us)).run P w= .ok b w)
 (hk:∀t l,f t=O l->(∃fs,P.underlying t=O (.struct fs))\/(l.length=1/\∃dd,P.underlying t=O dd/\VB dd=uD)):∀(gs:U Field) (off:S) (l:U LK),Qn3 P f gs off=O l->∀{VS US:U I} {xs ys:U C} {b:uB},All2 (CR J w) (VS.drop off) xs->All2 (CR J w) (US.drop off) ys->
  Bg l xs ys=O b->(Op.eqFields d VS.toArray US.toArray gs).run P w= .ok b w
 | [],off,l,h,VS,US,xs,ys,b,h1,h2,he=>by
   obtain rfl: []=l:=by simpa [Qn3] using h
   have hl:=M5 he;obtain rfl:xs= []:=zT (by simpa using hl.1);obtain rfl:ys= []:=zT (by simpa using hl.2);obtain rfl:uA=b:=by simpa [Bg] using he
   simp[Op.eqFields]
 | g :: gs, off,l,h,VS,US,xs,ys,b,h1,h2,he=>by
   simp only [Qn3] at h;cases hn : decide (g.name = "_") with
   | true=>rw[hn] at h;cases h
   | false =>
     rw[hn] at h;cases hb:zF g.offset off with
     | false=>rw[hb] at h;cases h
     | true =>
       rw[hb] at h;simp only[uN,uP] at h;have hoff:g.offset=off:=by simpa using hb
       split at h
       . rename_i l1 inf hsz hi;cases hc:(zF inf.size l1.length&&Nat.blt 0 l1.length) with
         | false=>rw[hc] at h;cases h
         | true =>
           rw[hc] at h;simp only[zH,Nat.beq_eq,Nat.blt_eq] at hc;obtain ⟨hc1,hc2⟩:=hc;simp only[uN] at h;split at h
           . rename_i m hm;obtain rfl:=zE h;obtain ⟨p,q,e1,e2,rfl⟩:=VM he;have hle:=M5 he;have hlv:=h1.length;have hlu:=h2.length;simp only[List.length_drop,List.length_append] at hlv hlu hle;have r1:=hf g.type l1 hsz (h1.take l1.length) (h2.take l1.length) e1;have hd1:All2 (CR J w) (VS.drop (off+l1.length)) (xs.drop l1.length):=by rw[←yV];exact h1.drop _
             have hd2:All2 (CR J w) (US.drop (off+l1.length)) (ys.drop l1.length):=by rw[←yV];exact h2.drop _
             have r2:=Qc5 hf hk gs (off+l1.length) m hm hd1 hd2 e2
             have hpart:∀(VS:U I),off+l1.length<=VS.length->(part g.type VS.toArray g.offset).run P w= .ok (asV P g.type ((VS.drop off).take l1.length)) w:=by
              intro VS hV;rw[hoff];rcases hk g.type l1 hsz with ⟨fs,hfs⟩ | ⟨h1l,dd,hdd,hag⟩
              . unfold part asV;rw[hfs];simp only[Sem.run_bind,D6 hfs,Result.andThen_ok,VB];simp[sizeOf,Um hi,hc1,List.take_drop,yB]
              have hh:VS[off]? =O VS[off]:=zD (by omega)
              have hv:asV P g.type ((VS.drop off).take l1.length)=VS[off]:=by
               rw[h1l,yK (by omega)];exact Sr hdd hag _
              unfold part;simp only[Sem.run_bind,D6 hdd,Result.andThen_ok,hag];rw[hv];simp[hh]
             have hn' : ¬ g.name = "_" := by simpa using hn
             simp only[Op.eqFields,ne_eq,hn',not_false_eq_true,if_true,Sem.run_bind,hpart VS (by omega),hpart US (by omega),Result.andThen_ok,r1];cases p
             . simp
             simp[r2]
           cases h
       cases h
theorem OA:∀{n t:S} {l:U LK},AX P n t=O l->(∃fs,P.underlying t=O (.struct fs))\/(l.length=1/\∃dd,P.underlying t=O dd/\VB dd=uD)
 | 0,t,l,h=>by cases h
 | n+1,t,l,h=>by
   simp only[AX] at h;split at h
   . rename_i hu;obtain rfl:=zE h;exact .inr ⟨rfl,_,hu,rfl⟩
   . rename_i hu;obtain rfl:=zE h;exact .inr ⟨rfl,_,hu,rfl⟩
   . rename_i hu;obtain rfl:=zE h;exact .inr ⟨rfl,_,hu,rfl⟩
   . rename_i hu;exact .inl ⟨_,hu⟩
   cases h
theorem DH {l:LK} {vs us:U I} {xs ys:U C} {b:uB} (h1:All2 (CR J w) vs xs) (h2:All2 (CR J w) us ys) (he:Bg [l] xs ys=O b):∃x y v u,vs= [v]/\us= [u]/\CR J w v x/\CR J w u y/\VD l x y=O b:=by
 have hl:=M5 he
 match xs,ys,hl with
 | [x], [y],_=>
   cases h1 with
   | cons g1 g1'=>
     cases g1'
     cases h2 with
     | cons g2 g2'=>
       cases g2'
       refine ⟨x,y,_,_,rfl,rfl,g1,g2, ?_⟩;simp only[Bg] at he;split at he
       . rename_i p q e1 e2;obtain rfl:uA=q:=by simpa using e2
         rw[e1];simpa using he
       cases he
theorem Qay {x y:C} {b:uB} (h:VD .int x y=O b):∃k a a2,x= .int k a/\y= .int k a2/\(a==a2)=b:=by
 cases x with
 | int k a=>cases y with
   | int k2 a2=>
     by_cases hk:k=k2
     . subst hk;simp only[VD,decide_true,uN,Option.some.injEq] at h;exact ⟨k,a,a2,rfl,rfl,h⟩
     simp[VD,hk] at h
   | _=>cases h
 | _=>cases h
theorem OB {x y:C} {b:uB} (h:VD .bool x y=O b):∃a a2,x= .bool a/\y= .bool a2/\(a==a2)=b:=by
 cases x with
 | bool a=>cases y with
   | bool a2=>exact ⟨a,a2,rfl,rfl,zE h⟩
   | _=>cases h
 | _=>cases h
theorem Qaz {x y:C} {b:uB} (h:VD .str x y=O b):∃a a2,x= .str a/\y= .str a2/\(a.toList==a2.toList)=b:=by
 cases x with
 | str a=>cases y with
   | str a2=>exact ⟨a,a2,rfl,rfl,zE h⟩
   | _=>cases h
 | _=>cases h
theorem GM:∀(n t:S) (l:U LK),AX P n t=O l->∀(d:S),n<=d->∀{vs us:U I} {xs ys:U C} {b:uB},All2 (CR J w) vs xs->All2 (CR J w) us ys->Bg l xs ys=O b->(Op.equalIn d t (asV P t vs) (asV P t us)).run P w= .ok b w
 | 0,t,l,h=>by cases h
 | n + 1,t,l,h=>by
   intro d hd vs us xs ys b h1 h2 he;obtain ⟨d,rfl⟩:∃k,d=k+1:=⟨d-1,by omega⟩;simp only[AX] at h;split at h
   . rename_i k hu;obtain rfl:=zE h;obtain ⟨x,y,v,u,rfl,rfl,c1,c2,hc⟩:=DH h1 h2 he;rw[Sr hu rfl,Sr hu rfl];obtain ⟨k1,a,a2,rfl,rfl,rfl⟩:=Qay hc;obtain ⟨rfl,_⟩:=c1;obtain ⟨rfl,_⟩:=c2;exact run_equalIn_int w d t k1 k a a2 hu
   . rename_i hu;obtain rfl:=zE h;obtain ⟨x,y,v,u,rfl,rfl,c1,c2,hc⟩:=DH h1 h2 he;rw[Sr hu rfl,Sr hu rfl];obtain ⟨a,a2,rfl,rfl,rfl⟩:=OB hc;obtain rfl:=c1;obtain rfl:=c2;exact run_equalIn_bool w d t _ _ hu
   . rename_i hu;obtain rfl:=zE h;obtain ⟨x,y,v,u,rfl,rfl,c1,c2,hc⟩:=DH h1 h2 he;rw[Sr hu rfl,Sr hu rfl];obtain ⟨a,a2,rfl,rfl,rfl⟩:=Qaz hc;obtain ⟨rfl,_⟩:=c1;obtain ⟨rfl,_⟩:=c2;exact run_equalIn_string w d t _ _ hu
   . rename_i fs hu;cases hs:P.stoodInHeld t with
     | true=>rw[hs] at h;cases h
     | false=>
       rw[hs] at h;simp only[uP] at h;have hfo:P.fieldsOf t=fs:=by unfold Program.fieldsOf;rw[hu]
       have ev:∀vs,asV P t vs= .agg vs.toArray:=λvs=>by unfold asV;rw[hu]
       rw[ev,ev,run_equalIn_agg w d t _ _ (by rw[hfo];exact hu) hs,hfo];exact Qc5 (λt' l' h'=>GM n t' l' h' d (by omega)) (λt' l' h'=>OA h') fs.toList 0 l h (VS:=vs) (US:=us) (by simpa using h1) (by simpa using h2) he
   cases h
theorem GN:∀{l m:U LK},AY l m=uA->l=m
 | [], [],_=>rfl
 | [],_::_,h=>by cases h
 | x::_, [],h=>by cases x<;>cases h
 | x::l,y::m,h=>by
   cases x<;>cases y<;>simp only[AY] at h<;>first | cases h | rw[GN h]
theorem OD {t:S} {i:TI} (hti:TiOk P t i) {x:LK} {ls:U LK} (hl:i.eq=x::ls) (op:BinOp) (px py:Operand) {vs us:U I} {xs ys:U C} {b:uB} (h1:All2 (CR J w) vs xs) (h2:All2 (CR J w) us ys) (he:Bg (x::ls) xs ys=O b):
 (eqGuard op t px py (.agg vs.toArray) (.agg us.toArray)).run P w= .ok () w/\(Op.equalIn 10000 t (.agg vs.toArray) (.agg us.toArray)).run P w= .ok b w:=by
 have h:=hti.eqs;unfold Qp4 at h;rw[hl] at h;simp only[zH,Bool.not_eq_true'] at h;obtain ⟨⟨hg,hs⟩,ht⟩:=h;refine ⟨run_eqGuard_agg w op t px py _ _ hg, ?_⟩;split at hs
 . rename_i fs hu;split at ht
   . rename_i m hm;have:=GN ht;have ev:∀vs,asV P t vs= .agg vs.toArray:=λvs=>by unfold asV;rw[hu]
     rw[←ev,←ev];exact GM 9 t m hm 10000 (by decide) h1 h2 (by rw[←this];exact he)
   cases ht
 cases hs
end
end
section
open Go.RowKit
section
variable {P:uF} {A:S->U AV->AV->Prop} {T:TakeT} {J:Inj} {w:E}
theorem Rc {Y:BoundsCode} {lo:uE} {y:S} {k:uJ} (h1:0<=lo) (h2:lo<=y):(Instr.sliceBound (.int k lo) y Y).run P w= .ok lo.toNat w:=by
 simp[Instr.sliceBound,asIntOf,h1,h2]
theorem It {ρ:Operand->I} {d:uE} {lo:uC Operand} {r r':U AV} {a:uE} {xs:U Operand} (h:M3 d lo r=O (a,r')) (hv:All2 (λx v=>AR J w (ρ x) v) (lo.toArray.toList++xs) r):
 All2 (λx v=>AR J w (ρ x) v) xs r'/\((lo=G/\a=d)\/∃x k,lo=O x/\ρ x= .int k a):=by
 unfold M3 at h;split at h
 . obtain ⟨rfl,rfl⟩:_=a/\_=r':=by simpa using h
   exact ⟨by simpa using hv,.inl ⟨rfl,rfl⟩⟩
 . obtain ⟨rfl,rfl⟩:_=a/\_=r':=by simpa using h
   simp only[Option.toArray,List.cons_append,List.nil_append] at hv;cases hv with
   | cons h1 h2=>exact ⟨h2,.inr ⟨_,_,rfl,h1.1⟩⟩
 cases h
set_option maxHeartbeats 2000000 in
theorem Qho {tt :U (S×TI)} (htt:Fb P tt=uA) {orc:Orc} {bn:U (S×U C)} {op:Op} {avs:U AV} {v:AV} {obs:U Ob} (h:Qc2 tt orc bn op avs=O (v,obs)) (hob:AllOb A T obs)
 {o:Oper} (ho:o.op=op) {ρ:Operand->I} (hf:∀f,ρ (.func f)= .func (.func f) #[] #[]) (hv:All2 (λx v=>AR J w (ρ x) v) op.operands.toList avs)
 (hbx:∀k c,get bn k=O c->∃arr e,w.heap[J.B k]? =O (.cells arr e (0,0))/\All2 (CR J w) arr.toList c):
 ∃u,(execOp ρ o).run P w= .ok (.value u) w/\AR J w u v:=by
 unfold Qc2 at h;split at h
 ·rename_i x v';obtain ⟨rfl,rfl⟩:v'=v/\ []=obs:=by simpa using h
  cases hv with
  | cons h1 _=>exact ⟨_,by simp[execOp,ho],h1⟩
 ·rename_i x v';obtain ⟨rfl,rfl⟩:v'=v/\ []=obs:=by simpa using h
  cases hv with
  | cons h1 _=>exact ⟨_,by simp[execOp,ho],h1⟩
 ·rename_i xc xa xb c a b;obtain ⟨rfl,rfl⟩:(bif c then a else b)=v/\ []=obs:=by simpa using h
  cases hv with
  | cons h1 h2=>
    cases h2 with
    | cons h2 h3=>
      cases h3 with
      | cons h3 _=>
        have h1:ρ xc= .bool c:=h1;refine ⟨if c then ρ xa else ρ xb,by simp[execOp,ho,h1,asBool], ?_⟩;cases c
        . exact h3
        exact h2
 ·rename_i op t px py ty x y;cases hv with
  | cons h1 h2=>
    cases h2 with
    | cons h2 _=>
      split at h
      . rename_i c obs' hb;obtain ⟨rfl,rfl⟩:AV.one c=v/\obs'=obs:=by simpa using h
        obtain ⟨u,hu,hc⟩:=Qlc (P:=P) hb hob h1 h2 t px py;exact ⟨u,by simp only[execOp,ho,Sem.run_bind,hu] at hu⊢;simp[hu],hc⟩
      split at h
      . rename_i a b _;split at h
        . rename_i c obs' hb;obtain ⟨rfl,rfl⟩:AV.one c=v/\obs'=obs:=by simpa using h
          have e1:ρ px= .bool a:=h1;have e2:ρ py= .bool b:=h2;obtain ⟨u,hu,hc⟩:=Qax (J:=J) (w:=w) htt hb px py;exact ⟨u,by simp only[execOp,ho,e1,e2,Sem.run_bind] at hu⊢;simp[hu],hc⟩
        cases h
      cases h
 ·rename_i op t px py ty xs ys;cases hv with
  | cons h1 h2=>
    cases h2 with
    | cons h2 _=>
      obtain ⟨vs,e1,hvs⟩:=h1;obtain ⟨us,e2,hus⟩:=h2;split at h
      . rename_i k0 n0 z0 l0 ls0 hg;have heq:=λ{vs us:U I} {xs ys:U C} {b:uB} h1 h2 h3=>OD (P:=P) (J:=J) (w:=w) (vs:=vs) (us:=us) (xs:=xs) (ys:=ys) (b:=b) (Z8 htt hg) rfl op px py h1 h2 h3
        split at h
        . rename_i b hb;obtain ⟨rfl,rfl⟩:AV.one (.bool b)=v/\ []=obs:=by simpa using h
          obtain ⟨g,hr⟩:=heq hvs hus hb;exact ⟨.bool b,by simp[execOp,ho,e1,e2,g,run_eql_struct,hr,Result.andThen],rfl⟩
        . rename_i b hb;obtain ⟨rfl,rfl⟩:AV.one (.bool (!b))=v/\ []=obs:=by simpa using h
          obtain ⟨g,hr⟩:=heq hvs hus hb;exact ⟨.bool (!b),by simp[execOp,ho,e1,e2,g,run_neq_struct,hr,Result.andThen],rfl⟩
        cases h
      cases h
 ·rename_i op t px x;cases hv with
  | cons h1 _=>
    split at h
    . rename_i b;obtain ⟨rfl,rfl⟩:AV.one (.bool (!b))=v/\ []=obs:=by simpa using h
      have e1:ρ px= .bool b:=h1;exact ⟨_,by simp[execOp,ho,e1,Op.unary],rfl⟩
    . rename_i k n;obtain ⟨rfl,rfl⟩:AV.one (.int k (k.wrap (0-n)))=v/\ []=obs:=by simpa using h
      have e1:ρ px= .int k n:=h1.1;exact ⟨.int k (k.wrap (0-n)),by simp[execOp,ho,e1,Op.unary,Op.intArith],rfl,P9 _ _⟩
    cases h
 ·rename_i t px f cs;cases hv with
  | cons h1 _=>
    obtain ⟨vs,e1,hvs⟩:=h1
    have hfield:∀o sz ag,G8 tt t f=O (o,sz,ag)->∃gs g inf d,P.underlying t=O (.struct gs)/\gs[f]? =O g/\g.offset=o/\P.info? g.type=O inf/\inf.size=sz/\P.underlying g.type=O d/\VB d=ag:=by
     intro o sz ag hfa;unfold G8 at hfa;split at hfa
     . rename_i fs n z hg;obtain ⟨gs,hu,hfo⟩:=(Z8 htt hg).struct;obtain ⟨g,inf,d,k1,k2⟩:=Rb hfo hfa;exact ⟨gs,g,inf,d,hu,by simpa using k1,k2⟩
     cases hfa
    split at h
    . rename_i o' sz hfa;obtain ⟨gs,g,inf,d,hu,hg,rfl,hi,rfl,hd,hag⟩:=hfield _ _ _ hfa;cases hle:yQ (g.offset+inf.size) cs.length with
      | false=>rw[hle] at h;cases h
      | true=>
        rw[hle] at h;obtain ⟨rfl,rfl⟩:AV.agg _=v/\ []=obs:=by simpa using h
        refine ⟨.agg (vs.toArray.extract g.offset (g.offset+inf.size)), ?_,(vs.drop g.offset).take inf.size, ?_,(hvs.drop _).take _⟩
        . simp[execOp,ho,e1,Instr.field,run_underlying hu,hg,asAgg,part,D6 hd,hag,sizeOf,Um hi]
        simp[List.take_drop,yB]
    . rename_i o' sz hfa;obtain ⟨gs,g,inf,d,hu,hg,rfl,hi,rfl,hd,hag⟩:=hfield _ _ _ hfa;split at h
      . rename_i c hc;obtain ⟨rfl,rfl⟩:AV.one c=v/\ []=obs:=by simpa using h
        obtain ⟨u,hu',hcr⟩:=hvs.get' hc;exact ⟨u,by simp[execOp,ho,e1,Instr.field,run_underlying hu,hg,asAgg,part,D6 hd,hag,hu'],hcr⟩
      cases h
    cases h
 ·rename_i px i l;cases hv with
  | cons h1 _=>
    obtain ⟨vs,e1,hvs⟩:=h1;split at h
    . rename_i cs hc;obtain ⟨rfl,rfl⟩:AV.agg cs=v/\ []=obs:=by simpa using h
      obtain ⟨u,hu,hcr⟩:=hvs.get' hc;exact ⟨u,by simp[execOp,ho,e1,Instr.extract,hu],hcr⟩
    . rename_i c hc;obtain ⟨rfl,rfl⟩:AV.one c=v/\ []=obs:=by simpa using h
      obtain ⟨u,hu,c',e,hcr⟩:=hvs.get' hc;obtain rfl:c=c':=by simpa using e
      exact ⟨u,by simp[execOp,ho,e1,Instr.extract,hu],hcr⟩
    cases h
 ·rename_i t px f k off;cases hv with
  | cons h1 _=>
    have e1:ρ px= .pointer (O ⟨J.B k,off,G⟩):=h1;split at h
    . rename_i o' sz ag hfa;cases hz:zF sz 0 with
      | true=>rw[hz] at h;cases h
      | false=>
        rw[hz] at h;obtain ⟨rfl,rfl⟩:AV.one (.ptr k (off+o'))=v/\ []=obs:=by simpa using h
        unfold G8 at hfa;split at hfa
        . rename_i fs n z hg;obtain ⟨gs,hu,hfo⟩:=(Z8 htt hg).struct;obtain ⟨g,inf,d,k1,rfl,hi,rfl,hd,hag⟩:=Rb hfo hfa;have k1':gs[f]? =O g:=by simpa using k1
          refine ⟨.pointer (O ⟨J.B k,off+g.offset,G⟩), ?_,rfl⟩;have hsz:inf.size≠0:=λe=>by rw[e] at hz;cases hz
          simp[execOp,ho,e1,Instr.fieldAt,run_underlying hu,k1',Instr.sureAddr,fieldPlace,sizeOf,Um hi,hsz,Addr.add_lit]
        cases hfa
    cases h
 ·rename_i t px f tok cs;cases hv with
  | cons h1 _=>
    obtain ⟨b,off,vs,e1,hb,hvs,hc⟩:=h1;split at h
    . rename_i o' sz ag hfa;cases hz:zF sz 0 with
      | true=>rw[hz] at h;cases h
      | false=>
        rw[hz] at h;obtain ⟨rfl,rfl⟩:AV.one (.rptr tok (cs.drop o'))=v/\ []=obs:=by simpa using h
        unfold G8 at hfa;split at hfa
        . rename_i fs n z hg;obtain ⟨gs,hu,hfo⟩:=(Z8 htt hg).struct;obtain ⟨g,inf,d,k1,rfl,hi,rfl,hd,hag⟩:=Rb hfo hfa;have k1':gs[f]? =O g:=by simpa using k1
          refine ⟨.pointer (O ⟨b,off+g.offset,G⟩), ?_,b,off+g.offset,vs.drop g.offset,rfl,hb,hvs.drop _,Ce hc⟩;have hsz:inf.size≠0:=λe=>by rw[e] at hz;cases hz
          simp[execOp,ho,e1,Instr.fieldAt,run_underlying hu,k1',Instr.sureAddr,fieldPlace,sizeOf,Um hi,hsz,Addr.add_lit]
        cases hfa
    cases h
 ·rename_i px k off;obtain ⟨rfl,rfl⟩:AV.one (.ptr k off)=v/\ []=obs:=by simpa using h
  cases hv with
  | cons h1 _=>
    have e1:ρ px= .pointer (O ⟨J.B k,off,G⟩):=h1;exact ⟨_,by simp[execOp,ho,e1],rfl⟩
 . rename_i px t cs;obtain ⟨rfl,rfl⟩:AV.one (.rptr t cs)=v/\ []=obs:=by simpa using h
   cases hv with
   | cons h1 _=>
     obtain ⟨b,off,vs,e1,hr⟩:=h1;exact ⟨_,by simp[execOp,ho,e1],b,off,vs,rfl,hr⟩
 ·rename_i t ps;split at h
  . rename_i fs n zero q hg;cases hsz:zF ps.size avs.length with
    | false=>rw[hsz] at h;cases h
    | true =>
      rw[hsz] at h;simp only[uN] at h;split at h
      . rename_i cs hfill;obtain ⟨rfl,rfl⟩:AV.agg cs=v/\ []=obs:=by simpa using h
        have hti:=Z8 htt hg;obtain ⟨gs,hu,hfo⟩:=hti.struct;obtain ⟨inf,z,hi,_,_,hz,hzs,hzo⟩:=hti.info
        have hops:All2 (λv p=>AR J w v p.2) (ps.toList.map λp=>ρ p.2) ((ps.toList.map (·.1)).zip avs):=by
         have hv':All2 (λx v=>AR J w (ρ x) v) (ps.toList.map (·.2)) avs:=by simpa [Op.operands] using hv
         clear hv hsz hfill h;generalize ps.toList=l at hv'⊢
         induction l generalizing avs with
         | nil=>cases hv';exact .nil
         | cons p l ih=>
           cases hv' with
           | cons h1 h2=>exact .cons h1 (ih h2)
        have hplaces:∀(i o sz:S) (ag:uB),fs[i]? =O (o,sz,ag)->((fs.map λx=>(x.1,x.2.1)).toArray)[i]? =O (o,sz):=by
         intro i o sz ag hi';simp[hi']
        obtain ⟨out,ho',hall⟩:=Qld (J:=J) (w:=w) (λi=>((fs.map λx=>(x.1,x.2.1)).toArray)[i]?) hplaces _ _ z.cells zero cs (DG hzo) hops hfill
        have hpl:∀(gs:U Field) (fs:U (S×S×uB)),Eh P gs fs=uA->gs.mapM (λf=>(P.info? f.type).map λi=>(f.offset,i.size))=O (fs.map λx=>(x.1,x.2.1)):=by
         intro gs
         induction gs with
         | nil=>intro fs h;cases fs<;>simp_all [Eh]
         | cons g gs ih=>
           intro fs h;cases fs with
           | nil=>simp[Eh] at h
           | cons x fs=>
             have h':=h;simp only[Eh,zH] at h';obtain ⟨g',inf',d',k1,k2,k3,k4,_⟩:=Rb (f:=0) (o:=x.1) (sz:=x.2.1) (ag:=x.2.2) h rfl;obtain rfl:g=g':=by simpa using k1
             simp[k3,k2,k4,ih fs h'.2]
        have hb:P.built t (ps.toList.map λp=>(p.1,ρ p.2))=O out:=by
         have hzip:(((ps.toList.map (·.1)).zip avs).map (·.1)).zip (ps.toList.map λp=>ρ p.2)=ps.toList.map λp=>(p.1,ρ p.2):=by
          have hl:ps.toList.length=avs.length:=by simpa using hsz
          rw[List.map_fst_zip (by simp[hl])];generalize ps.toList=l
          induction l with
          | nil=>rfl
          | cons p l ih=>simp[ih]
         rw[hzip] at ho';simp only[Program.built,hi,hu,hz,hpl _ _ hfo];exact ho'
        refine ⟨.agg out, ?_,out.toList,by simp,hall⟩;have:=run_build w t (ps.map λp=>(p.1,ρ p.2)) out (by simpa using hb);simp[execOp,ho,this]
      cases h
  cases h
 ·rename_i f first caps;cases hsz:zF first.size 0 with
  | false=>rw[hsz] at h;cases h
  | true =>
    rw[hsz] at h;simp only[uN] at h;have hfe:first= #[]:=Array.eq_empty_of_size_eq_zero (by simpa using hsz);subst hfe;split at h
    . rename_i cps hp;obtain ⟨rfl,rfl⟩:AV.one (.fn f cps)=v/\ []=obs:=by simpa using h
      have key:∀(xs:U Operand) (avs:U AV) (cps:U (S×S)),All2 (λx v=>AR J w (ρ x) v) xs avs->VE avs=O cps->xs.map ρ=cps.map λc=> .pointer (O ⟨J.B c.1,c.2,G⟩):=by
       intro xs avs cps hv
       induction hv generalizing cps with
       | nil=>intro h;simp[VE] at h;subst h;rfl
       | cons h1 _ ih=>
         intro h;unfold VE at h;split at h
         . rename_i e;cases e
         . rename_i e;cases e
           obtain ⟨r,hr,rfl⟩:=zO.1 h;simp only[yN,ih r hr];rw[show _=_ from h1]
         cases h
      have hx:=key caps.toList avs cps (by simpa [Op.operands] using hv) hp;refine ⟨.func (.func f) #[] (caps.map ρ),by simp[execOp,ho,Instr.makeFunc], ?_⟩;show _=_;rw[←hx,←Array.toList_map]
    cases h
 ·rename_i s d px k0 n;split at h
  . rename_i i0 k z1 z2 q hs hd;obtain ⟨rfl,rfl⟩:AV.one (.int k (k.wrap n))=v/\ []=obs:=by simpa using h
    cases hv with
    | cons h1 _=>
      obtain ⟨e1,_⟩:=h1;obtain ⟨d',hd',_⟩:=(Z8 htt hs).und;have hk:=(Z8 htt hd).int;exact ⟨.int k (k.wrap n),by simp[execOp,ho,e1,convert,run_underlying hd',run_underlying hk,Conv.intToInt],rfl,P9 _ _⟩
  cases h
 ·rename_i args tys x;split at h
  . rename_i t ht;split at h
    . rename_i i0 n z q tok n' l hg;obtain ⟨rfl,rfl⟩:AV.one (.int .i64 l.length)=v/\ []=obs:=by simpa using h
      cases hv':args.toList with
      | nil=>simp[Op.operands,Call.operands,hv'] at hv;cases hv
      | cons a0 r0=>
        simp[Op.operands,Call.operands,hv'] at hv;cases hv with
        | cons h1 h2=>
          cases h2
          have hargs:args= #[a0]:=by apply Array.ext';simpa using hv'
          subst hargs;obtain ⟨oa,cap,e1,hlc,hcm,_⟩:=Tl h1;have hu:=(Z8 htt hg).sli;refine ⟨.int .i64 l.length, ?_,rfl,Qc4 (yA hlc hcm)⟩;simp[execOp,ho,resolve,invoke,builtin,Builtin.len_,ht,e1,run_underlying hu,goInt]
    . rename_i i0 n z q s hg;obtain ⟨rfl,rfl⟩:AV.one (.int .i64 s.size)=v/\ []=obs:=by simpa using h
      cases hv':args.toList with
      | nil=>simp[Op.operands,Call.operands,hv'] at hv;cases hv
      | cons a0 r0=>
        simp[Op.operands,Call.operands,hv'] at hv;cases hv with
        | cons h1 h2=>
          cases h2
          have hargs:args= #[a0]:=by apply Array.ext';simpa using hv'
          subst hargs;obtain ⟨e1,hs⟩:=h1;have hu:=(Z8 htt hg).str;refine ⟨.int .i64 s.size, ?_,rfl,Qc4 hs⟩;simp[execOp,ho,resolve,invoke,builtin,Builtin.len_,ht,e1,run_underlying hu,goInt]
    cases h
  cases h
 ·rename_i t px pi s k i;split at h
  . rename_i n z hg;obtain ⟨rfl,rfl⟩:AV.one (.int .u8 (Z9 s i))=v/\ [Ob.idx i s.size]=obs:=by simpa using h
    have hu:=(Z8 htt hg).str;obtain ⟨h0,hlt⟩:0<=i/\i<s.size:=hob;cases hv with
    | cons h1 h2=>
      cases h2 with
      | cons h2 _=>
        obtain ⟨e1,_⟩:=h1;obtain ⟨e2,_⟩:=h2;have hlt':i.toNat<s.size:=by omega
        have hstr:Z9 s i=(s[i.toNat].toNat:uE):=by
         have hl:i.toNat<s.data.toList.length:=by simpa using hlt'
         simp only[Z9,List.getD_eq_getElem?_getD,zD hl];rfl
        refine ⟨.int .u8 (Z9 s i), ?_,rfl,by rw[hstr];exact Qhn _⟩;rw[hstr];simp[execOp,ho,e1,e2,Instr.index,asIntOf,run_underlying hu,h0,hlt']
  cases h
 ·rename_i t px pi tok n l k i;split at h
  . rename_i e n' z q r tok' hg hct;split at h
    . rename_i ei hge;cases hsz:zF ei.size n with
      | false=>rw[hsz] at h;cases h
      | true =>
        rw[hsz] at h;obtain ⟨rfl,rfl⟩:AV.one (.rptr tok' r)=v/\ [Ob.elem l i r]=obs:=by simpa using h
        obtain ⟨h0,hl⟩:0<=i/\l[i.toNat]? =O r:=hob;have hu:=(Z8 htt hg).sli;have hs:=D7 (P:=P) (Z8 htt hge) w;have hn:ei.size=n:=by simpa using hsz
        cases hv with
        | cons h1 h2=>
          cases h2 with
          | cons h2 _=>
            obtain ⟨e2,_⟩:=h2;obtain ⟨b,off,cap,vs,e1,hX,hvc,hrn,hc⟩:=Qhm h1 hct hl;have hlt:i.toNat<l.length:=(zN.1 hl).1;have hlt':i<(l.length:uE):=by omega
            refine ⟨.pointer (O ⟨b,off+i.toNat*n,G⟩), ?_,b,off+i.toNat*n,vs,rfl,hX,hvc,hc⟩;simp[execOp,ho,e1,e2,Instr.indexAt,asIntOf,run_underlying hu,h0,hlt',hs,hn,Addr.add_lit]
    cases h
  cases h
 ·rename_i t px lo hi tok n l r;split at h
  . rename_i e n' z q hg;split at h
    . rename_i ei a r1 hge hlo;split at h
      . rename_i b hhi;cases hsz:zF ei.size n with
        | false=>rw[hsz] at h;cases h
        | true =>
          rw[hsz] at h;obtain ⟨rfl,rfl⟩:AV.one (.slc (Qka tok) n ((l.take b.toNat).drop a.toNat))=v/\ [Ob.rng a b l.length]=obs:=by simpa using h
          obtain ⟨h0,hab,hbl⟩:0<=a/\a<=b/\b<=l.length:=hob;have hu:=(Z8 htt hg).sli;have hs:=D7 (P:=P) (Z8 htt hge) w;have hn:ei.size=n:=by simpa using hsz
          have hv':All2 (λx v=>AR J w (ρ x) v) (px::(lo.toArray.toList++(hi.toArray.toList++ []))) (.one (.slc tok n l)::r):=by simpa [Op.operands] using hv
          cases hv' with
          | cons h1 h2=>
            obtain ⟨h3,hloc⟩:=It hlo h2;obtain ⟨_,hhic⟩:=It hhi h3;obtain ⟨oa,cap,e1,hlc,hcm,hemp⟩:=Tl h1
            have hsb:(Instr.sliceBounds uA l.length cap (lo.map ρ) (hi.map ρ) G).run P w= .ok (a.toNat,b.toNat,cap) w:=by
             have e3:∀c,(match (hi.map ρ) with | some v=>Instr.sliceBound v cap c | none=>(pure l.length:Sem S)).run P w= .ok b.toNat w:=by
              intro c;rcases hhic with ⟨rfl,rfl⟩ | ⟨x,k,rfl,hx⟩
              . simp
              simp only[zX,hx];exact Rc (by omega) (by omega)
             have e4:∀c,(match (lo.map ρ) with | some v=>Instr.sliceBound v b.toNat c | none=>(pure 0:Sem S)).run P w= .ok a.toNat w:=by
              intro c;rcases hloc with ⟨rfl,rfl⟩ | ⟨x,k,rfl,hx⟩
              . simp
              simp only[zX,hx];exact Rc (by omega) (by omega)
             unfold Instr.sliceBounds;simp only[Sem.run_bind,Sem.run_pure,Result.andThen_ok];have e3':=e3 .sliceAcap;have e4':=e4 .sliceB;revert e3' e4';cases lo.map ρ<;>cases hi.map ρ<;>simp<;>intro e3' e4'<;>simp_all
            have hrun:(execOp ρ o).run P w= .ok (.value (.slice (if cap=a.toNat then oa else oa.map (·.add (a.toNat*n))) (b.toNat-a.toNat) (cap-a.toNat))) w:=by
             simp[execOp,ho,e1,Instr.sliceAt,run_underlying hu,Instr.slice,hsb,hs,hn]
            refine ⟨_,hrun, ?_⟩;have hlen:((l.take b.toNat).drop a.toNat).length=b.toNat-a.toNat:=by simp;omega
            have key:∀X:S->Prop,VV X w (ρ px) (.slc n l)->VV X w (.slice (if cap=a.toNat then oa else oa.map (·.add (a.toNat*n))) (b.toNat-a.toNat) (cap-a.toNat)) (.slc n ((l.take b.toNat).drop a.toNat)):=by
             intro X hX;by_cases hca:cap=a.toNat
             . rw[uL hca];have h9:b.toNat-a.toNat=0:=by omega
               have h10:(l.take b.toNat).drop a.toNat= []:=zT (by omega);rw[h9,h10];exact .emp _ n (by omega)
             rw[uK hca];rw[e1] at hX;exact hX.sub (by omega) (by omega) _ ⟨by omega,by omega⟩
            cases tok with
            | sh=>exact key _ h1
            | put=>exact h1.elim
            | vw k=>exact key _ h1
            | emp=>
              have hc0:=hemp rfl;obtain ⟨hl,_⟩:=h1;subst hl;refine ⟨by simp,if cap=a.toNat then oa else oa.map (·.add (a.toNat*n)), ?_⟩;have h9:b.toNat-a.toNat=0:=by simp at hbl;omega
              rw[h9,hc0];simp
            | own d k=>
              cases d with
              | true=>exact key _ (OwnDeep.vv h1 λb hb=>⟨Or.inl hb,rfl⟩)
              | false=>exact key _ (OwnTop.vv h1 (λb hb=>⟨.inr hb,rfl⟩) λb hb=>⟨.inl hb,rfl⟩)
      cases h
    cases h
  cases h
 ·rename_i t px lo hi s r;split at h
  . rename_i n' z hg;split at h
    . rename_i a r1 hlo;split at h
      . rename_i b hhi;obtain ⟨rfl,rfl⟩:AV.one (.str (s.extract a.toNat b.toNat))=v/\ [Ob.rng a b s.size]=obs:=by simpa using h
        obtain ⟨h0,hab,hbl⟩:0<=a/\a<=b/\b<=s.size:=hob;have hu:=(Z8 htt hg).str;have hv':All2 (λx v=>AR J w (ρ x) v) (px::(lo.toArray.toList++(hi.toArray.toList++ []))) (.one (.str s)::r):=by simpa [Op.operands] using hv
        cases hv' with
        | cons h1 h2=>
          obtain ⟨h3,hloc⟩:=It hlo h2;obtain ⟨_,hhic⟩:=It hhi h3;obtain ⟨e1,hsm⟩:=h1
          have hsb:(Instr.sliceBounds uD s.size s.size (lo.map ρ) (hi.map ρ) G).run P w= .ok (a.toNat,b.toNat,s.size) w:=by
           have e3:∀c,(match (hi.map ρ) with | some v=>Instr.sliceBound v s.size c | none=>(pure s.size:Sem S)).run P w= .ok b.toNat w:=by
            intro c;rcases hhic with ⟨rfl,rfl⟩ | ⟨x,k,rfl,hx⟩
            . simp
            simp only[zX,hx];exact Rc (by omega) (by omega)
           have e4:∀c,(match (lo.map ρ) with | some v=>Instr.sliceBound v b.toNat c | none=>(pure 0:Sem S)).run P w= .ok a.toNat w:=by
            intro c;rcases hloc with ⟨rfl,rfl⟩ | ⟨x,k,rfl,hx⟩
            . simp
            simp only[zX,hx];exact Rc (by omega) (by omega)
           unfold Instr.sliceBounds;simp only[Sem.run_bind,Sem.run_pure,Result.andThen_ok];have e3':=e3 .sliceAlen;have e4':=e4 .sliceB;revert e3' e4';cases lo.map ρ<;>cases hi.map ρ<;>simp<;>intro e3' e4'<;>simp_all
          refine ⟨.string (s.extract a.toNat b.toNat), ?_,rfl, ?_⟩
          . simp[execOp,ho,e1,Instr.sliceAt,run_underlying hu,Instr.slice,hsb]
          simp only[ByteArray.size_extract];omega
      cases h
    cases h
  cases h
 ·rename_i t px k off;split at h
  . rename_i ti cells hg hk;split at h
    . rename_i v' hval;obtain ⟨rfl,rfl⟩:v'=v/\ []=obs:=by simpa using h
      cases hv with
      | cons h1 _=>
        have e1:ρ px= .pointer (O ⟨J.B k,off,G⟩):=h1;obtain ⟨arr,e,hheap,hall⟩:=hbx k cells hk
        have hc:∀(j:S) (u:I),((arr.toList.drop off).take ti.size)[j]? =O u->w.cell? ⟨J.B k,off+j,G⟩=O u:=by
         have:=D8 (k:=ti.size) (Ce (w:=w) (vs:=arr.toList) (b:=J.B k) (off:=0) (k:=off) (λj u hj=>by
          rw[zG] at hj;simp[World.cell?,hheap,hj]))
         simpa using this
        obtain ⟨u,hu,hr⟩:=JZ (P:=P) (Z8 htt hg) ((hall.drop off).take ti.size) hval hc;exact ⟨u,by simp[execOp,ho,e1,Instr.loadAt,Instr.sureAddr,hu],hr⟩
    cases h
  cases h
 ·rename_i t px tok cs;split at h
  . rename_i ti hg;cases hle:yQ ti.size cs.length with
    | false=>rw[hle] at h;cases h
    | true =>
      rw[hle] at h;simp only[uN] at h;split at h
      . rename_i v' hval;obtain ⟨rfl,rfl⟩:v'=v/\ []=obs:=by simpa using h
        cases hv with
        | cons h1 _=>
          obtain ⟨b,off,vs,e1,hX,hvc,hc⟩:=h1
          have hlift:∀v p,VV (J.X tok) w v p->CR J w v (AC tok p):=by
           intro v p hp;refine DF (X:=J.X tok) (λc n l hc=> ?_) hp;cases tok with
           | sh=>exact hc
           | vw k=>exact hc
           | emp=>exact hX.elim
           | put=>exact hX.elim
           | own d k=>exact hX.elim
          have hall:All2 (CR J w) (vs.take ti.size) ((cs.take ti.size).map (AC tok)):=(VC.all2 (hvc.take ti.size)).map (AC tok) λa p _ hp=>hlift a p hp
          obtain ⟨u,hu,hr⟩:=JZ (P:=P) (Z8 htt hg) hall hval (D8 hc);exact ⟨u,by simp[execOp,ho,e1,Instr.loadAt,Instr.sureAddr,hu],hr⟩
      cases h
  cases h
 cases h
end
end
section
open Go.RowKit Go.ChangeShapes Go.WideShapes
open GoD (rd own)
def Opens (P:uF) (t:uH) (α:Type) [GoD α]:Prop:=
 P.cellsOf t=GoD.n α/\0<GoD.n α/\∀{H:Type} {enc:uH×I->H} {w:E} {base:S} {spare:S->uB} {held:uB} {fuel:S} {cs:U I} {x:DataW H×U MemPlace},
  DataW.trod enc P w base spare held fuel t cs=O x->∃a:α,rd w cs a
def OpensFs (P:uF) (fs:U Field) (off:S) (α:Type) [GoD α]:Prop:=
 0 <GoD.n α/\∀{H:Type} {enc:uH×I->H} {w:E} {base:S} {spare:S->uB} {held:uB} {fuel:S} {cs:U I},
   (∀f,f∈fs->∃x,DataW.trod enc P w base spare held fuel f.type ((cs.drop f.offset).take (P.cellsOf f.type))=O x)->∃a:α,rd w ((cs.drop off).take (GoD.n α)) a
section
variable {P:uF} {t e:uH}
theorem Opens.int (ht:P.underlying t=O (.int .i64)) (hc:P.cellsOf t=1):Opens P t uE:=by
 refine ⟨hc,yH,λh=> ?_⟩;obtain ⟨n,rfl,_,hw⟩:=DataW.trod_int ht h;refine ⟨n,rfl, ?_⟩;simp only[Lit.wf,zH,uQ] at hw;exact hw
theorem Opens.bool (ht:P.underlying t=O .bool) (hc:P.cellsOf t=1):Opens P t uB:=by
 refine ⟨hc,yH,λh=> ?_⟩;obtain ⟨b,rfl,_⟩:=DataW.trod_bool ht h;exact ⟨b,rfl⟩
theorem Opens.str (ht:P.underlying t=O .string) (hc:P.cellsOf t=1):Opens P t uM:=by
 refine ⟨hc,yH,λh=> ?_⟩;obtain ⟨s,rfl,_,hs⟩:=DataW.trod_string ht h;exact ⟨s,rfl,hs⟩
theorem OpensFs.one {f:Field} {off:S} {α:Type} [GoD α] (ho:f.offset=off) (h:Opens P f.type α):OpensFs P [f] off α:=by
 refine ⟨h.2.1,λhf=> ?_⟩;obtain ⟨x,hx⟩:=hf f (by simp);rw[ho,h.1] at hx;exact h.2.2 hx
theorem OpensFs.cons {f:Field} {fs:U Field} {off:S} {α β:Type} [GoD α] [GoD β] (ho:f.offset=off) (h:Opens P f.type α) (k:OpensFs P fs (off+GoD.n α) β):OpensFs P (f::fs) off (α×β):=by
 refine ⟨Nat.lt_of_lt_of_le h.2.1 (Nat.le_add_right _ _),λhf=> ?_⟩;obtain ⟨x,hx⟩:=hf f (by simp);rw[ho,h.1] at hx;obtain ⟨a,ha⟩:=h.2.2 hx;obtain ⟨b,hb⟩:=k.2 (λg hg=>hf g (by simp[hg]));refine ⟨(a,b),_,_, ?_,ha,hb⟩;rw[←yV];exact List.take_add
theorem Opens.struct {fs:uG Field} {α:Type} [GoD α] (ht:P.underlying t=O (.struct fs)) (hc:P.cellsOf t=GoD.n α) (h:OpensFs P fs.toList 0 α):Opens P t α:=by
 refine ⟨hc,h.1,λ{H enc w base spare held fuel cs x} hx=> ?_⟩;obtain ⟨xs,n,_,_,hl,hlen,hf⟩:=DataW.trod_struct ht hx
 obtain ⟨a,ha⟩:=h.2 (enc:=enc) (w:=w) (base:=base) (spare:=spare) (held:=held) (fuel:=n) (cs:=cs) (λf hm=>by
  obtain ⟨i,hi,rfl⟩:=yI hm;have hi':i<fs.size:=by simpa using hi
  refine ⟨xs[i]'(by omega), ?_⟩;rw[hf i fs.toList[i] (by simp[hi']),zD (by omega)])
 refine ⟨a, ?_⟩;rw[List.drop_zero,List.take_of_length_le (by omega)] at ha;exact ha
theorem Opens.slice {α:Type} [GoD α] (ht:P.underlying t=O (.slice e)) (hc:P.cellsOf t=1) (h:Opens P e α):Opens P t (U α):=by
 refine ⟨hc,yH,λ{H enc w base spare held fuel cs x} hx=> ?_⟩;rcases Deep.open_slice ht hx with ⟨rfl,_⟩ | ⟨a,len,cap,m,n,D,Pl,rfl,hb,hl,hm,hmm,rfl,hel⟩
 . exact ⟨[],G,0,rfl,zP _,zZ _,by simp⟩
 have hlm:len<=m:=by rw[hmm];split<;>omega
 have hex:∀i,i<len->∃x:α,∃ce,ce.length=GoD.n α/\(∀j,j<GoD.n α->w.cell? ((a.add (i*GoD.n α)).add j)=ce[j]?)/\rd w ce x:=λi hi=>by
  obtain ⟨ce,h1,h2⟩:=hel i (by omega);obtain ⟨x,hx⟩:=h.2.2 h2;rw[h.1] at h1;obtain ⟨_,hlen,hcell⟩:=World.cells?_some h1;exact ⟨x,ce,hlen,hcell,hx⟩
 have hl':∀k,k<=len->∃l:U α,l.length=k/\∀i x,l[i]? =O x->∃ce,ce.length=GoD.n α/\(∀j,j<GoD.n α->w.cell? ((a.add (i*GoD.n α)).add j)=ce[j]?)/\rd w ce x:=by
  intro k
  induction k with
  | zero=>intro _;exact ⟨[],rfl,by simp⟩
  | succ k ih=>
    intro hk;obtain ⟨l,hll,hle⟩:=ih (by omega);obtain ⟨x,hx⟩:=hex k (by omega);refine ⟨l++ [x],by simp[hll],λi y hy=> ?_⟩;rcases yS i l.length with hi | hi
    . rw[zR hi] at hy;exact hle i y hy
    rw[zQ hi] at hy
    have:i=l.length:=by
     rcases yS (i-l.length) 1 with h' | h'
     . omega
     rw[yC (by simpa using h')] at hy;cases hy
    subst this;rw[Nat.sub_self] at hy;obtain rfl:x=y:=by simpa using hy
    rw[hll];exact hx
 obtain ⟨l,hll,hle⟩:=hl' len (zP _);refine ⟨l,O a,cap,by rw[hll],by omega,hm,λi x hx=> ?_⟩;obtain ⟨ce,h1,h2,h3⟩:=hle i x hx;have hn:=h.2.1
 obtain ⟨x0,V⟩:∃x0,l[0]? =O x0:=by
  cases l with
  | nil=>simp at hx
  | cons y ys=>exact ⟨y,rfl⟩
 obtain ⟨c0,k1,k2,_⟩:=hle 0 x0 V;have h0:=k2 0 hn;rw[zD (by omega)] at h0;have hsp:=World.cell?_spot h0
 have hspot:a.spot=G:=by
  rw[Deep.add_add] at hsp;unfold Addr.add at hsp;simpa using hsp
 obtain ⟨b,off,spot⟩:=a;obtain rfl:spot=G:=hspot;refine ⟨b,off,ce,rfl,h1,λj v hj=> ?_,h3⟩
 have hjn:j<GoD.n α:=by
  rcases yS j ce.length with h' | h'
  . omega
  rw[yC h'] at hj;cases hj
 have h2':=h2 j hjn;rw[hj] at h2';rw[Deep.add_add] at h2';rw[←h2'];unfold Addr.add;by_cases hz:i*GoD.n α+j=0
 . simp[show i*GoD.n α=0 by omega,show j=0 by omega]
 rw[uK hz,Nat.add_assoc]
end
section
variable {P:uF} {w:E} {r:Reach} {b0:S} {t:uH} {v:I} {H:Type} {enc:uH×I->H} {base:S} {spare:S->uB} {held:uB} {d:DataW H} {ps:U MemPlace} {α:Type} [GoD α]
theorem Qc6 {fs:uG Field} (ht:P.underlying t=O (.struct fs)) (ho:Opens P t α) (hv:Value.okWide P w r b0 t v) (h:DataW.Trod enc P w base spare held t v d ps):∃(c:U I) (a:α),v= .agg c.toArray/\rd w c a:=by
 obtain ⟨cs,rfl,_⟩:=okWide_struct ht hv;obtain ⟨f,hf⟩:=h;obtain ⟨a,ha⟩:=ho.2.2 hf;exact ⟨cs.toList,a,by simp,by simpa [Value.cells] using ha⟩
theorem Qhp (h:DataW.Trod enc P w base spare held t v d ps):∀x∈ps,x.block<w.heap.size:=by
 obtain ⟨m,hm⟩:=h;exact DataW.trod_lt m _ _ _ hm
end
end
section
open Go.RowKit Go.Sort
def Ext (w w':E):Prop:=Below w.heap.size w w'
theorem Ext.refl (w:E):Ext w w:=Below.refl _ _
theorem Ext.trans {a b c:E} (h:Ext a b) (k:Ext b c):Ext a c:=F7 h k
section
variable {P:uF} {ops:uG Oper} {Q:Exit->Act->E->Prop} {md:Region.Mode}
def YieldsE (P:uF) (ops:uG Oper) (o:Oper) (v:I) (a:Act) (w:E):Prop:=
 (Region.wanted o (yielded ops a.tmps)=uA/\∀w',Ext w w'->(execOp a.eval o).run P w'= .ok (.value v) w')\/
 (Region.wanted o (yielded ops a.tmps)=uD/\v=undef)
theorem YieldsE.later {o:Oper} {v:I} {a:Act} {w w':E} (hy:YieldsE P ops o v a w) (h:Ext w w'):YieldsE P ops o v a w':=by
 rcases hy with ⟨h1,h2⟩ | h1
 . exact .inl ⟨h1,λw'' h'=>h2 w'' (h.trans h')⟩
 exact .inr h1
theorem YieldsE.wpOp {i:S} {o:Oper} {v:I} {a:Act} {w:E} (hi:ops[i]? =O o) (hy:YieldsE P ops o v a w) {K:Act->E->Prop} (h:K (a.put o.dst v) w):wpOp P ops Q i K a w:=by
 unfold Go.wpOp;simp only[hi];rcases hy with ⟨hw,hv⟩ | ⟨hw,rfl⟩
 . simp only[hw,if_true,Oper.wp,hv w (Ext.refl w),Oper.upon];exact .inl h
 simp only[hw,Bool.false_eq_true,if_false];exact h
def Closed (md:Region.Mode) (ops:uG Oper) (listed:uG uB):Prop:=∀k o,ops[k]? =O o->listed.getD k uD=uA->∀e∈o.after,Region.binds md e=uA->listed.getD e.on uD=uA
theorem Closed.set {listed:uG uB} (hc:Closed md ops listed) {i:S} (hi:i∈Region.ready md ops listed):Closed md ops (listed.setIfInBounds i uA):=by
 have mono:∀k,listed.getD k uD=uA->(listed.setIfInBounds i uA).getD k uD=uA:=λk hk=>by
  by_cases hik:i=k
  . subst hik;rcases yS i listed.size with h' | h'
    . simp[h']
    simp[Array.getElem?_eq_none h'] at hk
  rw[getD_set_ne uD hik];exact hk
 intro k o ho hk e he hb;by_cases hik:i=k
 . subst hik;obtain ⟨_,o',ho',hall⟩:=mem_ready.1 hi;rw[ho] at ho';obtain rfl:o=o':=by simpa using ho'
   exact mono _ (hall e he hb)
 rw[getD_set_ne uD hik] at hk;exact mono _ (hc k o ho hk e he hb)
def Same (dst:S->Tmp) (H:U S) (a a':Act):Prop:=a'.defers=a.defers/\a'.tmps.size=a.tmps.size/\∀t,(∀i∈H,dst i≠t)->a'.tmps[t]? =a.tmps[t]?
theorem Same.eval {dst:S->Tmp} {H:U S} {a a':Act} (h:Same dst H a a') (t:Tmp) (ht:∀i∈H,dst i≠t):a'.tmps.getD t undef=a.tmps.getD t undef:=by
 simp[yJ,h.2.2 t ht]
structure ForkOk (P:uF) (ops:uG Oper) (Q:Exit->Act->E->Prop) (md:Region.Mode) (H:U S) (dst:S->Tmp) (dep:S->U S) (R:S->I->U S->E->Prop) (a:Act) (W:E):Prop where
 nd:(H.map dst).Nodup
 lt:∀i∈H,dst i<a.tmps.size
 dep_ok:∀i∈H,∀j∈dep i,j∈H/\∃o e,ops[i]? =O o/\e∈o.after/\Region.binds md e=uA/\e.on=j
 stable:∀i∈H,∀v L w w',R i v L w->Ext w w'->R i v L w'
 run:∀i∈H,∃o,ops[i]? =O o/\o.dst=O (dst i)/\∀a' w,Same dst H a a'->Ext W w->(∀j∈dep i,∃v L,a'.tmps.getD (dst j) undef=v/\R j v L w)->
  Region.wanted o (yielded ops a'.tmps)=uA/\∀K:Act->E->Prop,(∀v L w',Ext w w'->R i v L w'->(∀b∈L,w.heap.size<=b/\b<w'.heap.size)->K (a'.put (O (dst i)) v) w')->o.wp P a' w K Q
structure ForkInv (dst:S->Tmp) (H:U S) (R:S->I->U S->E->Prop) (a:Act) (W:E) (D:U S) (v:S->I) (Ls:S->U S) (a':Act) (w:E):Prop where
 same:Same dst H a a'
 ext:Ext W w
 val:∀i∈D,a'.tmps[dst i]? =O (v i)
 rel:∀i∈D,R i (v i) (Ls i) w
 bd:∀i∈D,∀b∈Ls i,W.heap.size<=b/\b<w.heap.size
 dis:∀i∈D,∀j∈D,i≠j->∀b∈Ls i,b∉Ls j
inductive Pl where
 | look (i:S)
 | step (i:S)
 | free (i:S)
 | fork (H:U S)
def Pl.len:U Pl->S
 | []=>0
 | .fork H::r=>Pl.len r+H.length
 | _::r=>Pl.len r+1
end
end
end Go.Proofs.YteleondjndkpbaaGreatDoor
