/- A part. -/
import Derived.WalkKit
import Derived.ProofKit
import Derived.OpenShut
import Derived.Lib.QuietBelow
import Derived.Lib.Hide
import Derived.WalkLawsBesides
import Derived.WalkSpells
import Derived.Deep.Slices
import Derived.Laws.IdiomCopy
import Derived.OwnWalk
import Derived.Handy
import Derived.Deep.Light
import Derived.Deep.DeepMust
import Derived.IntWalk
import Derived.Calls
import Derived.Laws.StructEq
import Derived.ChangeArms
import Derived.ChangeSlices
import Derived.WideShapes
import Derived.Carry
import Derived.Below
import Derived.Test.YtlipbhahenojhaaGreatDoorRows
import Derived.LaidByTextLater
import Derived.SevenTiedAt
import Derived.LaidSub
import Derived.LaidOnce
import Derived.KernelRfl
import Derived.Still
import Derived.Deep.QuietTactic
set_option linter.unusedVariables false
set_option linter.unusedSimpArgs false
namespace Go.Proofs.YtlipbhahenojhaaGreatDoor
open _root_ renaming List → U, Nat → S, Bool → uB, Option → uC, Int → uE, Array → uG, if_neg → uK, if_pos → uL, ByteArray → uM, cond_true → uN, congrArg → uO, cond_false → uP, decide_eq_true_eq → uQ
open _root_.Bool renaming true → uA, false → uD
open _root_.Go renaming Value → I, World → E, Program → uF, TypeId → uH, maxLen → uI, IntKind → uJ
open _root_.Option renaming some → O, none → G
open _root_.Array renaming getElem?_toList → zG, getElem?_setIfInBounds → zU, getD_eq_getD_getElem? → yJ, getElem?_modify → yU
open _root_.BitVec renaming ofInt → yR
open _root_.Bool renaming and_eq_true → zH
open _root_.Classical renaming byContradiction → yL
open _root_.List renaming getElem?_eq_getElem → zD, getElem?_take → zK, mem_cons_self → zL, mem_cons_of_mem → zM, getElem?_eq_some_iff → zN, getElem?_append_right → zQ, getElem?_append_left → zR, append_assoc → zS, eq_nil_of_length_eq_zero → zT, mem_append_right → zV, mem_append_left → zW, mem_cons → zX, getElem?_drop → zZ, getElem?_eq_none → yD, mem_append → yG, getElem_of_mem → yI, drop_eq_getElem_cons → yK, ext_getElem? → yM, map_cons → yN, mem_flatten → yP, drop_drop → yV, flatten_append → yW, map_congr_left → yX
open _root_.Nat renaming beq → zF, mul_le_mul_right → zJ, le_refl → zP, zero_le → yA, le_trans → yB, add_comm → yC, add_mul → yE, one_mul → yF, zero_lt_one → yH, le_max_right → yO, ble → yQ, lt_or_ge → yS, le_max_left → yT, le_succ → yY, mul_add → yZ
open _root_.Option renaming map_eq_some_iff → zO, map_some → zY
open _root_.Option.some renaming inj → zE
section
open Go.RowKit
def I64(n:uE):Prop:= -9223372036854775808<=n/\n<=9223372036854775807
def Qyp:S->S->U UInt8
 | 0,_=> []
 | f+1,k=>if k=0 then [] else Qyp f (k / 10)++ [UInt8.ofNat (48+k % 10)]
def Qxs(k:S):uM:=⟨(109::(if k=0 then [48] else Qyp k k)).toArray⟩
class GoD (α:Type) where
 n:S
 rd:E->U I->α->Prop
 own:U S->E->U I->α->Prop
 size:α->S
 mark:α->S->α×S
 markT:α->S->α×S
 rd_len:∀{w cs a},rd w cs a->cs.length=n
 rd_same:∀{w w':E} {cs a},rd w cs a->(∀b,b<w.heap.size->w'.heap[b]? =w.heap[b]?)->rd w' cs a
 own_same:∀{L} {w w':E} {cs a},own L w cs a->(∀b,b∈L->w'.heap[b]? =w.heap[b]?)->own L w' cs a
 own_rd:∀{L w cs a},own L w cs a->rd w cs a
 own_lt:∀{L} {w:E} {cs a},own L w cs a->∀b,b∈L->b<w.heap.size
 own_nd:∀{L w cs a},own L w cs a->L.Nodup
 deq:DecidableEq α
 mk_le:∀(a:α) (k:S),k<=(mark a k).2
 mkT_le:∀(a:α) (k:S),k<=(markT a k).2
 lv:S
 lvm:S
 mk_bd:∀(a:α) (k:S),(mark a k).2<=k+lv+lvm*size a
 mkT_bd:∀(a:α) (k:S),(markT a k).2<=k+lvm*size a
open GoD (rd own)
theorem J4{α:Type}[GoD α]{w w':E}{cs:U I}{a:α}(h:rd w cs a)(b:Below w.heap.size w w'):rd w' cs a:=
 GoD.rd_same h b.block
theorem Qjr{α:Type}[GoD α]{L:U S}{w w':E}{cs:U I}{a:α}(h:own L w cs a)(d:Below w.heap.size w w'):own L w' cs a:=
 GoD.own_same h (λb c=>d.block b (GoD.own_lt h b c))
instance instGoDInt:GoD uE where
 n:=1
 rd _ cs a:=cs= [.int .i64 a]/\I64 a
 own L _ cs a:=L= []/\cs= [.int .i64 a]/\I64 a
 size _:=0
 mark _ k:=((k:uE),k+1)
 markT a k:=(a,k)
 rd_len h:=by rw[h.1];rfl
 rd_same h _:=h
 own_same h _:=h
 own_rd h:=h.2
 own_lt h:=by rw[h.1];simp
 own_nd h:=by rw[h.1];simp
 deq:=inferInstance
 mk_le _ k:=yY k
 mkT_le _ k:=zP k
 lv:=1
 lvm:=0
 mk_bd _ k:=by simp
 mkT_bd _ k:=by simp
instance instGoDBool:GoD uB where
 n:=1
 rd _ cs a:=cs= [.bool a]
 own L _ cs a:=L= []/\cs= [.bool a]
 size _:=0
 mark _ k:=(k % 3==0,k+1)
 markT a k:=(a,k)
 rd_len h:=by rw[h];rfl
 rd_same h _:=h
 own_same h _:=h
 own_rd h:=h.2
 own_lt h:=by rw[h.1];simp
 own_nd h:=by rw[h.1];simp
 deq:=inferInstance
 mk_le _ k:=yY k
 mkT_le _ k:=zP k
 lv:=1
 lvm:=0
 mk_bd _ k:=by simp
 mkT_bd _ k:=by simp
instance instGoDStr:GoD uM where
 n:=1
 rd _ cs a:=cs= [.string a]/\a.size<=uI
 own L _ cs a:=L= []/\cs= [.string a]/\a.size<=uI
 size a:=a.size
 mark _ k:=(Qxs k,k+1)
 markT a k:=(a,k)
 rd_len h:=by rw[h.1];rfl
 rd_same h _:=h
 own_same h _:=h
 own_rd h:=h.2
 own_lt h:=by rw[h.1];simp
 own_nd h:=by rw[h.1];simp
 deq:=inferInstance
 mk_le _ k:=yY k
 mkT_le _ k:=zP k
 lv:=1
 lvm:=0
 mk_bd _ k:=by simp
 mkT_bd _ k:=by simp
section
variable {α β:Type} [GoD α] [GoD β]
def rdP(w:E)(cs:U I)(p:α×β):Prop:=∃a b,cs=a++b/\rd w a p.1/\rd w b p.2
def Qyy(L:U S)(w:E)(cs:U I)(p:α×β):Prop:=L.Nodup/\∃a b L1 L2,cs=a++b/\L=L1++L2/\own L1 w a p.1/\own L2 w b p.2
instance instGoDProd:GoD (α×β) where
 n:=GoD.n α+GoD.n β
 rd:=rdP
 own:=Qyy
 size p:=GoD.size p.1+GoD.size p.2
 mark p k:=(((GoD.mark p.1 k).1,(GoD.mark p.2 (GoD.mark p.1 k).2).1),(GoD.mark p.2 (GoD.mark p.1 k).2).2)
 markT p k:=(((GoD.markT p.1 k).1,(GoD.markT p.2 (GoD.markT p.1 k).2).1),(GoD.markT p.2 (GoD.markT p.1 k).2).2)
 rd_len:=by
  rintro w cs a ⟨e,f,rfl,c,d⟩
  simp[GoD.rd_len c,GoD.rd_len d]
 rd_same:=by
  rintro w w' cs a ⟨e,f,rfl,c,d⟩ hb
  exact⟨e,f,rfl,GoD.rd_same c hb,GoD.rd_same d hb⟩
 own_same:=by
  rintro L w w' cs a ⟨g,e,f,L1,L2,rfl,rfl,c,d⟩ hb
  exact⟨g,e,f,L1,L2,rfl,rfl,GoD.own_same c (λb i=>hb b (by simp[i])),GoD.own_same d (λb i=>hb b (by simp[i]))⟩
 own_rd:=by
  rintro L w cs a ⟨g,e,f,L1,L2,rfl,rfl,c,d⟩
  exact⟨e,f,rfl,GoD.own_rd c,GoD.own_rd d⟩
 own_lt:=by
  rintro L w cs a ⟨g,e,f,L1,L2,rfl,rfl,c,d⟩ b hb
  rcases yG.1 hb with h | h
  . exact GoD.own_lt c b h
  exact GoD.own_lt d b h
 own_nd h:=h.1
 deq:= @instDecidableEqProd _ _ GoD.deq GoD.deq
 mk_le _ _:=yB (GoD.mk_le _ _) (GoD.mk_le _ _)
 mkT_le _ _:=yB (GoD.mkT_le _ _) (GoD.mkT_le _ _)
 lv:=GoD.lv α+GoD.lv β
 lvm:=max (GoD.lvm α) (GoD.lvm β)
 mk_bd p k:=by
  have c:=GoD.mk_bd p.1 k;have d:=GoD.mk_bd p.2 (GoD.mark p.1 k).2;have j:=zJ (GoD.size p.1) (yT (GoD.lvm α) (GoD.lvm β));have l:=zJ (GoD.size p.2) (yO (GoD.lvm α) (GoD.lvm β));rw[yZ];omega
 mkT_bd p k:=by
  have c:=GoD.mkT_bd p.1 k;have d:=GoD.mkT_bd p.2 (GoD.markT p.1 k).2;have j:=zJ (GoD.size p.1) (yT (GoD.lvm α) (GoD.lvm β));have l:=zJ (GoD.size p.2) (yO (GoD.lvm α) (GoD.lvm β));rw[yZ];omega
def rdS(w:E)(cs:U I)(l:U α):Prop:=
 ∃ oa cap,cs= [.slice oa l.length cap]/\l.length<=cap/\cap<=uI/\
   ∀ i a,l[i]? =O a->∃b off ce,oa=O ⟨b,off,G⟩/\ce.length=GoD.n α/\
     (∀j v,ce[j]? =O v->w.cell? ⟨b,off+i*GoD.n α+j,G⟩=O v)/\rd w ce a
def Qv0(L:U S)(w:E)(cs:U I)(l:U α):Prop:=
 L.Nodup/\((l= []/\L= []/\∃oa,cs= [.slice oa 0 0])\/
 ∃(g cap:S) (cur:uG I) (e:uH) (b:U (U S)),cs= [.slice (O ⟨g,0,G⟩) l.length cap]/\w.heap[g]? =O (.cells cur e (0,0))/\l.length<=cap/\cap<=uI/\
   cur.size=cap*GoD.n α/\L=g::b.flatten/\b.length=l.length/\
   ∀i c a,b[i]? =O c->l[i]? =O a->own c w ((cur.toList.drop (i*GoD.n α)).take (GoD.n α)) a)
def JG:U α->S->U α×S
 | [],k=>([],k)
 | a::l,k=>((GoD.mark a k).1::(JG l (GoD.mark a k).2).1,(JG l (GoD.mark a k).2).2)
theorem OP:∀(l:U α) (k:S),k<=(JG l k).2
 | [],k=>zP k
 | a::l,k=>yB (GoD.mk_le a k) (OP l _)
theorem OQ:∀(l:U α) (k:S),(JG l k).2<=k+max (GoD.lv α) (GoD.lvm α)*(l.length+(l.map GoD.size).sum)
 | [],k=>by simp[JG]
 | a ::l,k=>by
   have c:=GoD.mk_bd a k;have d:=OQ l (GoD.mark a k).2;have e:=yT (GoD.lv α) (GoD.lvm α);have f:=zJ (GoD.size a) (yO (GoD.lv α) (GoD.lvm α))
   have b:max (GoD.lv α) (GoD.lvm α)*((a::l).length+((a::l).map GoD.size).sum)=max (GoD.lv α) (GoD.lvm α)*(l.length+(l.map GoD.size).sum)+max (GoD.lv α) (GoD.lvm α)*GoD.size a+max (GoD.lv α) (GoD.lvm α):=by
    simp only[List.length_cons,yN,List.sum_cons];rw[←yZ,←Nat.mul_succ]
    congr 1
    omega
   rw[b];simp only[JG];omega
theorem Xy{w:E}{g:S}{o:Obj}(h:w.heap[g]? =O o):g<w.heap.size:=(Array.getElem?_eq_some_iff.1 h).1
theorem Qfj{L:U S}{w:E}{cs:U I}{l:U α}(h:Qv0 L w cs l):rdS w cs l:=by
 obtain⟨_,⟨rfl,rfl,oa,rfl⟩ | ⟨g,cap,cur,e,k,rfl,m,n,o,p,rfl,q,d⟩⟩:=h
 . exact⟨oa,0,rfl,zP _,yA _,λi a b=>by simp at b⟩
 refine⟨_,cap,rfl,n,o,λi a b=>⟨g,0,(cur.toList.drop (i*GoD.n α)).take (GoD.n α),rfl, ?_, ?_, ?_⟩⟩
 . have f:i<l.length:=(zN.1 b).1;simp only[List.length_take,List.length_drop,Array.length_toList,p]
   have:i*GoD.n α+GoD.n α<=cap*GoD.n α:=by
    have:=zJ (GoD.n α) (show i+1<=cap by omega)
    rwa [yE,yF] at this
   omega
 . intro j v c;rw[zK] at c;split at c
   . rw[zZ] at c;simp only[World.cell?,m];simpa [yC] using c
   cases c
 obtain⟨Li,hLi⟩:∃Li,k[i]? =O Li:=by
  have f:i<l.length:=(zN.1 b).1;exact⟨_,zD (by omega)⟩
 exact GoD.own_rd (d i Li a hLi b)
theorem Iz{c:U (U S)}{i:S}{a:U S}(h:c[i]? =O a){b:S}(d:b∈a):b∈c.flatten:=
 yP.2 ⟨a,List.mem_of_getElem? h,d⟩
instance instGoDList:GoD (U α) where
 n:=1
 rd:=rdS
 own:=Qv0
 size l:=l.length+(l.map GoD.size).sum
 mark:=JG
 markT:=JG
 rd_len:=by
  rintro w cs a ⟨oa,cap,rfl,_⟩
  rfl
 rd_same:=by
  rintro w w' cs l ⟨oa,cap,rfl,p,f,c⟩ hb
  refine⟨oa,cap,rfl,p,f,λi a k=>?_⟩;obtain⟨b,off,ce,rfl,m,y,z⟩:=c i a k;refine⟨b,off,ce,rfl,m,λj v hj=>?_,GoD.rd_same z hb⟩;have r:=y j v hj;rw[World.cell?_of_block (hb b (World.block_lt_of_cell? _ _ r))];exact r
 own_same:=by
  rintro L w w' cs l ⟨s,h⟩ hb
  refine⟨s, ?_⟩;rcases h with h | ⟨g,cap,cur,e,t,rfl,q,p,f,u,rfl,o,c⟩
  . exact .inl h
  refine .inr ⟨g,cap,cur,e,t,rfl,(hb g (by simp)).trans q,p,f,u,rfl,o,λi x a d k=>?_⟩;exact GoD.own_same (c i x a d k) (λb f=>hb b (zM _ (Iz d f)))
 own_rd:=Qfj
 own_lt:=by
  rintro L w cs l ⟨s,h⟩ b hb
  rcases h with⟨_,rfl,_⟩ | ⟨g,cap,cur,e,t,rfl,q,p,f,u,rfl,o,c⟩
  . simp at hb
  rcases zX.1 hb with rfl | hb
  . exact Xy q
  obtain⟨x,d,f⟩:=yP.1 hb;obtain⟨i,k,rfl⟩:=yI d;exact GoD.own_lt (c i _ _ (zD k) (zD (by omega:i<l.length))) b f
 own_nd h:=h.1
 deq:= @instDecidableEqList _ GoD.deq
 mk_le:=OP
 mkT_le:=OP
 lv:=0
 lvm:=max (GoD.lv α) (GoD.lvm α)
 mk_bd:=OQ
 mkT_bd:=OQ
end
def Ret(w:E)(v:I)(e:Ending)(w':E):Prop:=e= .returned v/\Below w.heap.size w w'
end
section
open Go.RowKit
open GoD (rd own)
theorem M7{W a:E}(c:Below W.heap.size W a):∀b o,b<W.heap.size->a.cell? ⟨b,o,G⟩=W.cell? ⟨b,o,G⟩:=λb o h=>c.cell (p:=⟨b,o,G⟩) h
theorem M8{w W w':E}(a:Below w.heap.size w W)(b:Below W.heap.size W w'):Below w.heap.size w w':=a.trans (b.mono a.size)
structure Back (w W w':E):Prop where
 here:Below W.heap.size W w'
 all:Below w.heap.size w w'
theorem YP{P:uF}{f:FuncId}{args:uG I}{W w:E}{v:I}{R:Ending->E->Prop}(b:Calls P f args W (Ret W v))(c:Below w.heap.size w W)
 (k:∀w',Below w.heap.size w w'->Below W.heap.size W w'->w.heap.size<=w'.heap.size->W.heap.size<=w'.heap.size->R (.returned v) w'):Calls P f args W R:=
 b.mono λe w' ⟨d,hb⟩=>by
  subst d;have a:=M8 c hb;exact k w' a hb a.size hb.size
section
variable {α β:Type} [GoD α] [GoD β]
def RetA(w:E)(a:α)(e:Ending)(w':E):Prop:=∃cs L,e= .returned (.agg cs.toArray)/\Below w.heap.size w w'/\own L w' cs a/\∀b,b∈L->w.heap.size<=b
def RetS(w:E)(a:α)(e:Ending)(w':E):Prop:=∃v L,e= .returned v/\Below w.heap.size w w'/\own L w' [v] a/\∀b,b∈L->w.heap.size<=b
def Qxt(w:E)(a:α)(e:Ending)(w':E):Prop:=∃cs,e= .returned (.agg cs.toArray)/\Below w.heap.size w w'/\rd w' cs a
def Qxu(w:E)(a:α)(e:Ending)(w':E):Prop:=∃v,e= .returned v/\Below w.heap.size w w'/\rd w' [v] a
theorem RetA.rd{w:E}{a:α}{e:Ending}{w':E}(h:RetA w a e w'):Qxt w a e w':=
 let ⟨cs,_,b,hb,c,_⟩:=h
 ⟨cs,b,hb,GoD.own_rd c⟩
theorem RetS.rd{w:E}{a:α}{e:Ending}{w':E}(h:RetS w a e w'):Qxu w a e w':=
 let ⟨v,_,b,hb,c,_⟩:=h
 ⟨v,b,hb,GoD.own_rd c⟩
theorem QZ(w:E)(g o:S)(v:I){a:uG I}{e:uH}{b:S×S}(h:w.heap[g]? =O (.cells a e b)):
 (w.setCell ⟨g,o,G⟩ v).heap[g]? =O (.cells (a.setIfInBounds o v) e b):=by
 simp[World.setCell,yU,h]
theorem XA(w:E)(g o:S)(v:I){b:S}(h:b≠g):(w.setCell ⟨g,o,G⟩ v).heap[b]? =w.heap[b]? :=by
 simp only[World.setCell,yU];rw[uK (by omega)]
def putCells(a:uG I):S->U I->uG I
 | _, []=>a
 | o,v::r=>putCells (a.setIfInBounds o v) (o+1) r
theorem Hb(g:S):∀(vs:U I) (o:S) (w:E) {cur:uG I} {e:uH} {a:S×S},w.heap[g]? =O (.cells cur e a)->
 (w.setCells g o vs).heap[g]? =O (.cells (putCells cur o vs) e a)
 | [],_,_,_,_,_,h=>h
 | v::r,o,w,_,_,_,h=>Hb g r (o+1) _ (QZ w g o v h)
theorem Wp(g:S){b:S}(a:b≠g):∀(vs:U I) (o:S) (w:E),(w.setCells g o vs).heap[b]? =w.heap[b]?
 | [],_,_=>rfl
 | v::r,o,w=>(Wp g a r (o+1) _).trans (XA w g o v a)
theorem Db(g:S):∀(vs:U I) (o:S) (w:E),(w.setCells g o vs).heap.size=w.heap.size
 | [],_,_=>rfl
 | v::r,o,w=>(Db g r (o+1) _).trans (World.size_setCell ..)
theorem Us:∀(vs:U I) (o:S) (cur:uG I),(putCells cur o vs).size=cur.size
 | [],_,_=>rfl
 | v::r,o,cur=>(Us r (o+1) _).trans (by simp)
theorem M9:∀(vs:U I) (o:S) (cur:uG I) (j:S),(j<o\/o+vs.length<=j)->(putCells cur o vs)[j]? =cur[j]?
 | [],_,_,_,_=>rfl
 | v::r,o,cur,j,h=>by
   rw[putCells,M9 r (o+1) _ j (by simp at h;omega),zU,uK (by simp at h;omega)]
theorem JH:∀(vs:U I) (o:S) (cur:uG I) (j:S),o+vs.length<=cur.size->j<vs.length->(putCells cur o vs)[o+j]? =vs[j]?
 | v::r,o,cur,0,h,_=>by
   rw[putCells,M9 r (o+1) _ _ (by omega),zU,uL (by omega),uL (by simp at h;omega)];rfl
 | v::r,o,cur,j+1,h,hj=>by
   rw[putCells,show o+(j+1)=o+1+j by omega,JH r (o+1) _ j (by simp at h⊢;omega) (by simpa using hj)];simp
theorem I0{l:U I}{o n j:S}(a:j<n):((l.drop o).take n)[j]? =l[o+j]? :=by
 rw[zK,uL a,zZ]
theorem Qjs{a:uG I}{o:S}{vs:U I}(h:o+vs.length<=a.size):((putCells a o vs).toList.drop o).take vs.length=vs:=by
 apply yM;intro j;by_cases b:j<vs.length
 . rw[I0 b,zG,JH vs o a j h b]
 rw[zK,uK b,yD (by omega)]
theorem SZ{a:uG I}{o b n:S}{d:U I}(h:b+n<=o\/o+d.length<=b):((putCells a o d).toList.drop b).take n=(a.toList.drop b).take n:=by
 apply yM;intro j;by_cases c:j<n
 . rw[I0 c,I0 c,zG,zG,M9 d o a _ (by omega)]
 rw[zK,uK c,zK,uK c]
theorem OS{L:U S}{B g:S}(h:∀b,b∈L->B<=b)(c:g<B):g∉L:=λa=>by have:=h g a;omega
theorem Qov{L1 L2:U S}{w:E}{c d:U I}{a:α}{b:β}(f:own L1 w c a)(g:own L2 w d b)(hd:∀x,x∈L1->x∉L2):own (L1++L2) w (c++d) (a,b):=
 ⟨List.nodup_append.2 ⟨GoD.own_nd f,GoD.own_nd g,λx h y i e=>hd x h (e▸i)⟩,c,d,L1,L2,rfl,rfl,f,g⟩
def Part(w:E)(g d:S)(e:uH)(l:U α)(k:S):Prop:=
 ∃(cur:uG I) (c:U (U S)),w.heap[g]? =O (.cells cur e (0,0))/\cur.size=d*GoD.n α/\c.length=k/\c.flatten.Nodup/\(∀b,b∈c.flatten->g<b)/\
   ∀i f a,c[i]? =O f->l[i]? =O a->own f w ((cur.toList.drop (i*GoD.n α)).take (GoD.n α)) a
theorem Part.start{w:E}{g b:S}{e:uH}{a:uG I}(h:w.heap[g]? =O (.cells a e (0,0)))(c:a.size=b*GoD.n α)(l:U α):Part w g b e l 0:=
 ⟨a, [],h,c,rfl,by simp,by simp,by simp⟩
theorem Part.block{w:E}{g a:S}{e:uH}{l:U α}{k:S}(h:Part w g a e l k):∃cur,w.heap[g]? =O (.cells cur e (0,0))/\cur.size=a*GoD.n α:=
 let ⟨cur,_,b,c,_⟩:=h;⟨cur,b,c⟩
theorem Part.lt{w:E}{g a:S}{e:uH}{l:U α}{k:S}(h:Part w g a e l k):g<w.heap.size:=by
 obtain⟨cur,b,_⟩:=h.block;exact Xy b
theorem Part.step{o p:E}{g c:S}{e:uH}{l:U α}{k:S}{L:U S}{ce:U I}{a:α}(h:Part o g c e l k)(hb:Below o.heap.size o p)(hk:k<c)(hl:k<=l.length)
 (ha:l[k]? =O a) (v:own L p ce a) (w:∀b,b∈L->o.heap.size<=b):Part (p.setCells g (k*GoD.n α) ce) g c e l (k+1):=by
 obtain⟨cur,z,hg,hs,d,a1,q,r⟩:=h;have m:g<o.heap.size:=Xy hg
 have s:∀b,b∈z.flatten->b<o.heap.size:=λb hb'=>by
  obtain⟨Li,a2,hm⟩:=yP.1 hb';obtain⟨i,j,rfl⟩:=yI a2;exact GoD.own_lt (r i _ _ (zD j) (zD (by omega:i<l.length))) b hm
 have n:ce.length=GoD.n α:=GoD.rd_len (GoD.own_rd v)
 have f:k*GoD.n α+GoD.n α<=c*GoD.n α:=by
  have:=zJ (GoD.n α) (show k+1<=c by omega)
  rwa [yE,yF] at this
 refine⟨putCells cur (k*GoD.n α) ce,z++ [L],Hb g ce _ _ ((hb.block g m).trans hg),by rw[Us];exact hs,by simp[d], ?_, ?_, ?_⟩
 . rw[yW];simp only[List.flatten_cons,List.flatten_nil,List.append_nil];exact List.nodup_append.2 ⟨a1,GoD.own_nd v,λx t y hy e=>by have:=s x t;have:=w y hy;omega⟩
 . intro b hb';rw[yW] at hb';simp only[List.flatten_cons,List.flatten_nil,List.append_nil,yG] at hb';rcases hb' with hb' | hb'
   . exact q b hb'
   have:=w b hb';omega
 intro i Li x j t
 have keep:∀{M:U S} {cs:U I} {y:α},own M p cs y->g∉M->own M (p.setCells g (k*GoD.n α) ce) cs y:=λh a3=>
  GoD.own_same h λb hb'=>Wp g (λe=>a3 (e▸hb')) _ _ _
 by_cases a4:i<k
 . rw[zR (by omega)] at j
   rw[SZ (.inl (by
    have:=zJ (GoD.n α) (show i+1<=k by omega)
    rwa [yE,yF] at this))]
   refine keep (GoD.own_same (r i Li x j t) λb hb'=>hb.block b (s b (Iz j hb'))) (λhm=>?_);have:=q g (Iz j hm);omega
 have u:i<(z++ [L]).length:=(zN.1 j).1;simp[d] at u;obtain rfl:i=k:=by omega
 rw[zQ (by omega),d] at j;simp at j;subst j;rw[ha] at t;obtain rfl:a=x:=by simpa using t
 rw[show GoD.n α=ce.length from n.symm] at f⊢;rw[Qjs (by rw[hs,←n];exact f)];rw[n];exact keep v (OS w m)
theorem Part.done{w:E}{g:S}{e:uH}{l:U α}(h:Part w g l.length e l l.length)(d:l.length<=uI):∃L,own L w [.slice (O ⟨g,0,G⟩) l.length l.length] l/\∀b,b∈L->g<=b:=by
 obtain⟨cur,j,k,m,a,f,c,i⟩:=h;refine⟨g::j.flatten,⟨List.nodup_cons.2 ⟨λd=>by have:=c g d;omega,f⟩,.inr ⟨g,l.length,cur,e,j,rfl,k,zP _,d,m,rfl,a,i⟩⟩,λb hb=>?_⟩;rcases zX.1 hb with rfl | hb
 . exact zP _
 exact Nat.le_of_lt (c b hb)
end
theorem JI{α:Type}[GoD α]{w:E}{v:I}{l:U α}(h:rd w [v] l):∃oa cap,v= .slice oa l.length cap:=by
 obtain⟨oa,cap,e,_⟩:=h;exact⟨oa,cap,by simpa using e⟩
theorem TA{α:Type}[GoD α]{L:U S}{w:E}{v:I}{l:U α}(h:own L w [v] l):∃oa cap,v= .slice oa l.length cap:=JI (GoD.own_rd h)
def szq(t:S)(left r:uE):Prop:=(r=left-t/\0<=left-t)\/(r= -1/\left-t<0)
def Iw(w:E)(t:S)(left:uE)(e:Ending)(w':E):Prop:=∃r,e= .returned (.int .i64 r)/\szq t left r/\Below w.heap.size w w'
theorem Wh{P:uF}{f:FuncId}{args:uG I}{W w:E}{t:S}{left:uE}{R:Ending->E->Prop}(b:Calls P f args W (Iw W t left))(c:Below w.heap.size w W)
 (k:∀w' r,Below w.heap.size w w'->Below W.heap.size W w'->w.heap.size<=w'.heap.size->W.heap.size<=w'.heap.size->szq t left r->(-1<=r/\(r<=left\/r<0))->R (.returned (.int .i64 r)) w'):Calls P f args W R:=
 b.mono λe w' ⟨r,he,hr,hb⟩=>by
  subst he;have a:=M8 c hb;exact k w' r a hb a.size hb.size hr (by unfold szq at hr;omega)
section
variable {α:Type} [GoD α]
theorem TB(l:U α):GoD.size l=l.length+(l.map GoD.size).sum:=rfl
theorem OT(l:U α):l.length<=GoD.size l:=by rw[TB];omega
theorem I1{l:U α}{i:S}{a:α}(h:l[i]? =O a):((l.take (i+1)).map GoD.size).sum=((l.take i).map GoD.size).sum+GoD.size a:=by
 rw[List.take_add_one,h];simp
theorem TC(l:U α)(i:S):((l.take i).map GoD.size).sum<=(l.map GoD.size).sum:=by
 have h:(l.map GoD.size).sum=((l.take i).map GoD.size).sum+((l.drop i).map GoD.size).sum:=by
  rw[←List.sum_append_nat,←List.map_append,List.take_append_drop]
 omega
theorem Bh{l:U α}{i:S}{a:α}(h:l[i]? =O a):((l.take i).map GoD.size).sum+GoD.size a<=(l.map GoD.size).sum:=by
 rw[←I1 h];exact TC l _
theorem OU{l:U α}{i:S}{a:α}(h:l[i]? =O a):GoD.size a<=GoD.size l:=by
 have:=Bh h;rw[TB];omega
theorem Qow(l:U α)(h:∀a:α,GoD.size a=0):(l.map GoD.size).sum=0:=by
 induction l with
 | nil=>rfl
 | cons a l b=>simp[h a,b]
end
theorem Qs4{P:uF}{e:uH}{n:S}(h:(P.info? e).map (λi=>(i.zero.map (·.cells.size),i.size,decide (i.bytes<=1000)))=O (O n,n,uA)):
 ∃i z,P.info? e=O i/\i.zero=O z/\i.size=n/\z.cells.size=n/\i.bytes<=1000:=by
 obtain⟨i,b,h⟩:=zO.1 h;simp only[Prod.mk.injEq,uQ] at h;obtain⟨c,d,f⟩:=h;obtain⟨z,g,a⟩:=zO.1 c;exact⟨i,z,b,g,d,a,f⟩
end
section
open Go.RowKit
def Cap(m a:S):Prop:=a<=uI/\m<=1073741824
inductive PV where
 | int (k:uJ) (n:uE)
 | bool (b:uB)
 | str (s:uM)
 | slc (n:S) (l:U (U PV))
 | any
 | raw (v:I)
def InR(k:uJ)(n:uE):Prop:=k.min<=n/\n<=k.max
theorem YQ(k:uJ)(n:uE):InR k (k.wrap n):=by
 cases k<;>simp[InR,IntKind.wrap,IntKind.min,IntKind.max,IntKind.bits,IntKind.signed]<;>(try split)<;>omega
theorem XB(n:uE):InR .i64 n↔I64 n:=by
 simp[InR,I64,IntKind.min,IntKind.max,IntKind.bits,IntKind.signed]
section
variable (X:S->Prop) (w:E)
mutual
inductive VV:I->PV->Prop
 | int {k:uJ} {n:uE}:InR k n->VV (.int k n) (.int k n)
 | bool (b:uB):VV (.bool b) (.bool b)
 | str {s:uM}:s.size<=uI->VV (.string s) (.str s)
 | emp (oa:uC Addr) {cap:S} (n:S):cap<=uI->VV (.slice oa 0 cap) (.slc n [])
 | any {v:I}:v.cells= #[v]->v.oneCell'=uA->VV v .any
 | raw {v:I}:v.cells= #[v]->v.oneCell'=uA->VV v (.raw v)
 | slc {b off cap n:S} {cs:U I} {l:U (U PV)}:X b->(∀j u,cs[j]? =O u->w.cell? ⟨b,off+j,G⟩=O u)->VR n cs l->l.length<=cap->Cap l.length cap->
  VV (.slice (O ⟨b,off,G⟩) l.length cap) (.slc n l)
inductive VC:U I->U PV->Prop
 | nil:VC [] []
 | cons {v:I} {p:PV} {vs:U I} {ps:U PV}:VV v p->VC vs ps->VC (v::vs) (p::ps)
inductive VR:S->U I->U (U PV)->Prop
 | nil (n:S):VR n [] []
 | cons {n:S} {ce cs:U I} {r:U PV} {l:U (U PV)}:VC ce r->r.length=n->VR n cs l->VR n (ce++cs) (r::l)
end
mutual
inductive OV:U S->I->PV->Prop
 | int {k:uJ} {n:uE}:InR k n->OV [] (.int k n) (.int k n)
 | bool (b:uB):OV [] (.bool b) (.bool b)
 | str {s:uM}:s.size<=uI->OV [] (.string s) (.str s)
 | emp (oa:uC Addr) (n:S):OV [] (.slice oa 0 0) (.slc n [])
 | any {v:I}:v.cells= #[v]->v.oneCell'=uA->OV [] v .any
 | raw {v:I}:v.cells= #[v]->v.oneCell'=uA->OV [] v (.raw v)
 | slc {g cap n:S} {cur:uG I} {e:uH} {L:U S} {l:U (U PV)}:w.heap[g]? =O (.cells cur e (0,0))->cur.size=cap*n->OR n L (cur.toList.take (l.length*n)) l->l.length<=cap->Cap l.length cap->
  OV (g::L) (.slice (O ⟨g,0,G⟩) l.length cap) (.slc n l)
inductive OC:U S->U I->U PV->Prop
 | nil:OC [] [] []
 | cons {L1 L2:U S} {v:I} {p:PV} {vs:U I} {ps:U PV}:OV L1 v p->OC L2 vs ps->OC (L1++L2) (v::vs) (p::ps)
inductive OR:S->U S->U I->U (U PV)->Prop
 | nil (n:S):OR n [] [] []
 | cons {n:S} {L1 L2:U S} {ce cs:U I} {r:U PV} {l:U (U PV)}:OC L1 ce r->r.length=n->OR n L2 cs l->OR n (L1++L2) (ce++cs) (r::l)
end
end
section
variable {X X':S->Prop} {w w':E}
mutual
theorem VV.keep(a:∀b,X b->X' b/\w'.heap[b]? =w.heap[b]?):∀{v:I} {p:PV},VV X w v p->VV X' w' v p
 | _,_,.int h=> .int h
 | _,_,.bool b=> .bool b
 | _,_,.str h=> .str h
 | _,_,.emp oa n h=> .emp oa n h
 | _,_,.any h1 h2=> .any h1 h2
 | _,_,.raw h1 h2=> .raw h1 h2
 | _,_,.slc hb hc hr h1 h2=> .slc (a _ hb).1 (λj u c=>by rw[World.cell?_of_block (a _ hb).2];exact hc j u c) (VR.keep a hr) h1 h2
theorem VC.keep(a:∀b,X b->X' b/\w'.heap[b]? =w.heap[b]?):∀{vs:U I} {ps:U PV},VC X w vs ps->VC X' w' vs ps
 | _,_,.nil=> .nil
 | _,_,.cons h1 h2=> .cons (VV.keep a h1) (VC.keep a h2)
theorem VR.keep(a:∀b,X b->X' b/\w'.heap[b]? =w.heap[b]?):∀{n:S} {cs:U I} {l:U (U PV)},VR X w n cs l->VR X' w' n cs l
 | _,_,_,.nil n=> .nil n
 | _,_,_,.cons h1 h2 h3=> .cons (VC.keep a h1) h2 (VR.keep a h3)
end
theorem VV.anyOf{v:I}{p:PV}(h:VV X w v p):VV X' w' v .any:=by
 cases h with
 | any a b=>exact .any a b
 | raw a b=>exact .any a b
 | _=>exact .any rfl rfl
theorem VC.anys:∀{vs:U I} {ps:U PV},VC X w vs ps->VC X' w' vs (ps.map λ_=> .any)
 | _,_,.nil=> .nil
 | _,_,.cons h1 h2=> .cons h1.anyOf (VC.anys h2)
theorem VC.length{a:U I}{ps:U PV}:VC X w a ps->a.length=ps.length
 | .nil=>rfl
 | .cons _ h=>uO (· +1) (VC.length h)
theorem VR.length:∀{n:S} {cs:U I} {l:U (U PV)},VR X w n cs l->cs.length=l.length*n
 | _,_,_,.nil n=>by simp
 | _,_,_,.cons h1 h2 h3=>by rw[List.length_append,VC.length h1,VR.length h3,h2,List.length_cons,yE,yF,yC]
theorem VC.append{c a:U I}{ps b:U PV}(d:VC X w a b):VC X w c ps->VC X w (c++a) (ps++b)
 | .nil=>d
 | .cons e f=> .cons e (VC.append d f)
theorem VR.append{a:U I}{b:U (U PV)}:∀{n:S} {cs:U I} {l:U (U PV)},VR X w n a b->VR X w n cs l->VR X w n (cs++a) (l++b)
 | _,_,_,h',.nil _=>h'
 | _,_,_,h',.cons h1 h2 h3=>by rw[zS];exact .cons h1 h2 (VR.append h' h3)
theorem VC.drop:∀(k:S) {vs:U I} {ps:U PV},VC X w vs ps->VC X w (vs.drop k) (ps.drop k)
 | 0,_,_,h=>h
 | _+1,_,_,.nil=> .nil
 | k+1,_,_,.cons _ h=>VC.drop k h
theorem VC.take:∀(k:S) {vs:U I} {ps:U PV},VC X w vs ps->VC X w (vs.take k) (ps.take k)
 | 0,_,_,_=> .nil
 | _+1,_,_,.nil=> .nil
 | k+1,_,_,.cons h1 h=> .cons h1 (VC.take k h)
theorem VR.drop:∀(k:S) {n:S} {cs:U I} {l:U (U PV)},VR X w n cs l->VR X w n (cs.drop (k*n)) (l.drop k)
 | 0,_,_,_,h=>by simpa using h
 | _+1,_,_,_,.nil n=>by simpa using VR.nil n
 | k+1,_,_,_,.cons (n:=n) (ce:=ce) (cs:=cs) h1 h2 h3=>by
   have a:(k+1)*n=ce.length+k*n:=by rw[VC.length h1,h2,yE,yF,yC]
   rw[a,List.drop_length_add_append,List.drop_succ_cons];exact VR.drop k h3
theorem VR.take:∀(k:S) {n:S} {cs:U I} {l:U (U PV)},VR X w n cs l->VR X w n (cs.take (k*n)) (l.take k)
 | 0,_,_,_,_=>by simpa using VR.nil _
 | _+1,_,_,_,.nil n=>by simpa using VR.nil n
 | k+1,_,_,_,.cons (n:=n) (ce:=ce) (cs:=cs) h1 h2 h3=>by
   have a:(k+1)*n=ce.length+k*n:=by rw[VC.length h1,h2,yE,yF,yC]
   rw[a,List.take_length_add_append,List.take_succ_cons];exact .cons h1 h2 (VR.take k h3)
theorem VR.get{n:S}{cs:U I}{l:U (U PV)}(h:VR X w n cs l){i:S}{r:U PV}(f:l[i]? =O r):VC X w ((cs.drop (i*n)).take n) r/\r.length=n:=by
 have hd:=VR.drop i h;obtain⟨a,rfl⟩:=zN.1 f;rw[yK a] at hd;generalize g:l[i]=r at hd⊢;generalize j:cs.drop (i*n)=c at hd⊢;cases hd with
 | cons d e k=>
   have b:=VC.length d;rw[e] at b;rw[←b,List.take_left];exact⟨d,e.trans b.symm⟩
end
section
variable {w w':E}
mutual
theorem OV.keep:∀{L:U S} {v:I} {p:PV},OV w L v p->(∀b,b∈L->w'.heap[b]? =w.heap[b]?)->OV w' L v p
 | _,_,_,.int h,_=> .int h
 | _,_,_,.bool b,_=> .bool b
 | _,_,_,.str h,_=> .str h
 | _,_,_,.emp oa n,_=> .emp oa n
 | _,_,_,.any h1 h2,_=> .any h1 h2
 | _,_,_,.raw h1 h2,_=> .raw h1 h2
 | _,_,_,.slc hg hs hr h1 h2,hL=> .slc ((hL _ (zL)).trans hg) hs (OR.keep hr λb hb=>hL b (zM _ hb)) h1 h2
theorem OC.keep:∀{L:U S} {vs:U I} {ps:U PV},OC w L vs ps->(∀b,b∈L->w'.heap[b]? =w.heap[b]?)->OC w' L vs ps
 | _,_,_,.nil,_=> .nil
 | _,_,_,.cons h1 h2,hL=> .cons (OV.keep h1 λb hb=>hL b (zW _ hb)) (OC.keep h2 λb hb=>hL b (zV _ hb))
theorem OR.keep:∀{n:S} {L:U S} {cs:U I} {l:U (U PV)},OR w n L cs l->(∀b,b∈L->w'.heap[b]? =w.heap[b]?)->OR w' n L cs l
 | _,_,_,_,.nil n,_=> .nil n
 | _,_,_,_,.cons h1 h2 h3,hL=> .cons (OC.keep h1 λb hb=>hL b (zW _ hb)) h2 (OR.keep h3 λb hb=>hL b (zV _ hb))
end
mutual
theorem OV.vv{X:S->Prop}:∀{L:U S} {v:I} {p:PV},OV w L v p->(∀b,b∈L->X b)->VV X w v p
 | _,_,_,.int h,_=> .int h
 | _,_,_,.bool b,_=> .bool b
 | _,_,_,.str h,_=> .str h
 | _,_,_,.emp oa n,_=> .emp oa n (yA _)
 | _,_,_,.any h1 h2,_=> .any h1 h2
 | _,_,_,.raw h1 h2,_=> .raw h1 h2
 | _,_,_,.slc hg hs hr h1 h2,hL=> .slc (hL _ (zL)) (λj u a=>by
  rw[zK] at a;split at a
  . rw[zG] at a;simp[World.cell?,hg,a]
  cases a) (OR.vr hr λb hb=>hL b (zM _ hb)) h1 h2
theorem OC.vc{X:S->Prop}:∀{L:U S} {vs:U I} {ps:U PV},OC w L vs ps->(∀b,b∈L->X b)->VC X w vs ps
 | _,_,_,.nil,_=> .nil
 | _,_,_,.cons h1 h2,hL=> .cons (OV.vv h1 λb hb=>hL b (zW _ hb)) (OC.vc h2 λb hb=>hL b (zV _ hb))
theorem OR.vr{X:S->Prop}:∀{n:S} {L:U S} {cs:U I} {l:U (U PV)},OR w n L cs l->(∀b,b∈L->X b)->VR X w n cs l
 | _,_,_,_,.nil n,_=> .nil n
 | _,_,_,_,.cons h1 h2 h3,hL=> .cons (OC.vc h1 λb hb=>hL b (zW _ hb)) h2 (OR.vr h3 λb hb=>hL b (zV _ hb))
end
mutual
theorem OV.lt:∀{L:U S} {v:I} {p:PV},OV w L v p->∀b,b∈L->b<w.heap.size
 | _,_,_,.int _,b,hb=>by simp at hb
 | _,_,_,.bool _,b,hb=>by simp at hb
 | _,_,_,.str _,b,hb=>by simp at hb
 | _,_,_,.emp _ _,b,hb=>by simp at hb
 | _,_,_,.any _ _,b,hb=>by simp at hb
 | _,_,_,.raw _ _,b,hb=>by simp at hb
 | _,_,_,.slc hg hs hr h1 h2,b,hb=>by
   rcases zX.1 hb with rfl | hb
   . exact Xy hg
   exact OR.lt hr b hb
theorem OC.lt:∀{L:U S} {vs:U I} {ps:U PV},OC w L vs ps->∀b,b∈L->b<w.heap.size
 | _,_,_,.nil,b,hb=>by simp at hb
 | _,_,_,.cons h1 h2,b,hb=>(yG.1 hb).elim (OV.lt h1 b) (OC.lt h2 b)
theorem OR.lt:∀{n:S} {L:U S} {cs:U I} {l:U (U PV)},OR w n L cs l->∀b,b∈L->b<w.heap.size
 | _,_,_,_,.nil n,b,hb=>by simp at hb
 | _,_,_,_,.cons h1 h2 h3,b,hb=>(yG.1 hb).elim (OC.lt h1 b) (OR.lt h3 b)
end
theorem OC.append{c:U S}{a:U I}{b:U PV}(d:OC w c a b):∀{L:U S} {vs:U I} {ps:U PV},OC w L vs ps->OC w (L++c) (vs++a) (ps++b)
 | _,_,_,.nil=>d
 | _,_,_,.cons h1 h2=>by rw[zS];exact .cons h1 (OC.append d h2)
theorem OR.append{b:U S}{a:U I}{c:U (U PV)}:∀{n:S} {L:U S} {cs:U I} {l:U (U PV)},OR w n b a c->OR w n L cs l->OR w n (L++b) (cs++a) (l++c)
 | _,_,_,_,h',.nil _=>h'
 | _,_,_,_,h',.cons h1 h2 h3=>by rw[zS,zS];exact .cons h1 h2 (OR.append h' h3)
def PV.flat:PV->Prop
 | .slc _ _=>False
 | .any=>False
 | .raw _=>False
 | _=>True
theorem VV.ov{X:S->Prop}{v:I}{p:PV}(h:VV X w v p)(a:p.flat):OV w' [] v p:=by
 cases h with
 | int h=>exact .int h
 | bool b=>exact .bool b
 | str h=>exact .str h
 | emp oa n h=>exact a.elim
 | any=>exact a.elim
 | raw=>exact a.elim
 | slc=>exact a.elim
theorem VC.oc{X:S->Prop}:∀{vs:U I} {ps:U PV},VC X w vs ps->(∀p,p∈ps->p.flat)->OC w' [] vs ps
 | _,_,.nil,_=> .nil
 | _,_,.cons h1 h2,hp=>OC.cons (L1:= []) (L2:= []) (VV.ov h1 (hp _ zL)) (VC.oc h2 λp a=>hp p (zM _ a))
theorem VR.orr{X:S->Prop}:∀{n:S} {cs:U I} {l:U (U PV)},VR X w n cs l->(∀r,r∈l->∀p,p∈r->p.flat)->OR w' n [] cs l
 | _,_,_,.nil n,_=> .nil n
 | _,_,_,.cons h1 h2 h3,hp=>OR.cons (L1:= []) (L2:= []) (VC.oc h1 (hp _ zL)) h2 (VR.orr h3 λr a=>hp r (zM _ a))
theorem OR.length{n:S}{L:U S}{cs:U I}{l:U (U PV)}(h:OR w n L cs l):cs.length=l.length*n:=VR.length (X:=λb=>b∈L) (OR.vr h λ_ hb=>hb)
theorem OC.length{L:U S}{a:U I}{ps:U PV}(h:OC w L a ps):a.length=ps.length:=VC.length (X:=λb=>b∈L) (OC.vc h λ_ hb=>hb)
end
end
section
open Go.RowKit
inductive Tok where
 | sh
 | emp
 | own (d:uB) (k:S)
 | vw (k:S)
 | put (d:uB) (m i o:S) (cs:U PV)
inductive C where
 | int (k:uJ) (n:uE)
 | bool (b:uB)
 | str (s:uM)
 | slc (t:Tok) (n:S) (l:U (U PV))
 | ptr (k off:S)
 | rptr (t:Tok) (cs:U PV)
 | ept (d:uB) (k n i o:S) (cs:U PV)
 | fn (f:S) (caps:U (S×S))
 | fnr (f:S) (caps:U (U PV))
 | raw (v:I)
 | dead
inductive AV where
 | one (c:C)
 | agg (cs:U C)
 | tup (vs:U (uB×U C))
structure Inj where
 F:S->Prop
 L:S->U S
 B:S->S
def Tok.key:Tok->uC S
 | .own _ k=>O k
 | .vw k=>O k
 | _=>G
def C.key:C->uC S
 | .slc t _ _=>t.key
 | .rptr t _=>t.key
 | .ept _ k _ _ _ _=>O k
 | _=>G
def C.bkeys:C->U S
 | .ptr k _=> [k]
 | .fn _ a=>a.map (·.1)
 | _=> []
def ZL:uB->S->Tok
 | true,k=> .vw k
 | false,_=> .sh
def Inj.X(J:Inj):Tok->S->Prop
 | .sh,b=>J.F b
 | .vw k,b=>b∈J.L k\/J.F b
 | _,_=>False
def OwnTop(F:S->Prop)(L:U S)(w:E)(v:I)(n:S)(l:U (U PV)):Prop:=
 (l= []/\∃oa,v= .slice oa 0 0)\/∃(g cap:S) (cur:uG I) (e:uH),L= [g]/\v= .slice (O ⟨g,0,G⟩) l.length cap/\w.heap[g]? =O (.cells cur e (0,0))/\cur.size=cap*n/\VR F w n (cur.toList.take (l.length*n)) l/\l.length<=cap/\Cap l.length cap
def OwnDeep(L:U S)(w:E)(v:I)(n:S)(l:U (U PV)):Prop:=
 ∃a,OV w a v (.slc n l)/\a.Nodup/\(∀b,b∈a->b∈L)/\(a= []\/∃g r c,a=g::r/\L=g::c)
theorem OwnDeep.of{L:U S}{w:E}{v:I}{n:S}{l:U (U PV)}(h:OV w L v (.slc n l))(a:L.Nodup):OwnDeep L w v n l:=by
 refine⟨L,h,a,λ_ h=>h, ?_⟩;cases L with
 | nil=>exact .inl rfl
 | cons g r=>exact .inr ⟨g,r,r,rfl,rfl⟩
theorem OwnDeep.keep{L:U S}{w w':E}{v:I}{n:S}{l:U (U PV)}(h:OwnDeep L w v n l)(c:∀b,b∈L->w'.heap[b]? =w.heap[b]?):OwnDeep L w' v n l:=by
 obtain⟨d,e,f,a,g⟩:=h;exact⟨d,OV.keep e λb hb=>c b (a b hb),f,a,g⟩
theorem OwnDeep.vv{X:S->Prop}{L:U S}{w w':E}{v:I}{n:S}{l:U (U PV)}(h:OwnDeep L w v n l)(a:∀b,b∈L->X b/\w'.heap[b]? =w.heap[b]?):VV X w' v (.slc n l):=by
 obtain⟨e,d,_,c,_⟩:=h;exact(OV.keep d λb hb=>(a b (c b hb)).2).vv λb hb=>(a b (c b hb)).1
def Reads(X:S->Prop)(w:E)(v:I)(cs:U PV):Prop:=
 ∃b off vs,v= .pointer (O ⟨b,off,G⟩)/\X b/\VC X w vs cs/\∀(j:S) (u:I),vs[j]? =O u->w.cell? ⟨b,off+j,G⟩=O u
inductive All2 {α β:Type} (R:α->β->Prop):U α->U β->Prop
 | nil:All2 R [] []
 | cons {a:α} {b:β} {l:U α} {m:U β}:R a b->All2 R l m->All2 R (a::l) (b::m)
def CR(J:Inj)(w:E)(v:I):C->Prop
 | .int k n=>v= .int k n/\InR k n
 | .bool b=>v= .bool b
 | .str s=>v= .string s/\s.size<=uI
 | .slc .sh n l=>VV J.F w v (.slc n l)
 | .slc .emp _ l=>l= []/\∃oa,v= .slice oa 0 0
 | .slc (.own uA k) n l=>OwnDeep (J.L k) w v n l
 | .slc (.own uD k) n l=>OwnTop J.F (J.L k) w v n l
 | .slc (.vw k) n l=>VV (J.X (.vw k)) w v (.slc n l)
 | .slc (.put _ _ _ _ _) _ _=>False
 | .ptr k off=>v= .pointer (O ⟨J.B k,off,G⟩)
 | .rptr t cs=>Reads (J.X t) w v cs
 | .ept d k n i o cs=>∃g r vs,J.L k=g::r/\v= .pointer (O ⟨g,i*n+o,G⟩)/\VC (J.X (ZL d k)) w vs cs/\(∀(j:S) (u:I),vs[j]? =O u->w.cell? ⟨g,i*n+o+j,G⟩=O u)/\∃h e,w.heap[g]? =O (.cells h e (0,0))
 | .fn f a=>v= .func (.func f) #[] (a.map λc=> .pointer (O ⟨J.B c.1,c.2,G⟩)).toArray
 | .fnr f a=>∃vs:U I,v= .func (.func f) #[] vs.toArray/\All2 (Reads J.F w) vs a
 | .raw u=>v=u/\v.cells= #[v]/\v.oneCell'=uA
 | .dead=>True
def VA(J:Inj)(w:E)(v:I):uB×U C->Prop
 | (uA,cs)=>∃vs:U I,v= .agg vs.toArray/\All2 (CR J w) vs cs
 | (uD,cs)=>∃c,cs= [c]/\CR J w v c
def AR(J:Inj)(w:E)(v:I):AV->Prop
 | .one c=>CR J w v c
 | .agg cs=>∃vs:U I,v= .agg vs.toArray/\All2 (CR J w) vs cs
 | .tup l=>∃vs:U I,v= .tuple vs.toArray/\All2 (VA J w) vs l
def AV.cells:AV->U C
 | .one c=> [c]
 | .agg cs=>cs
 | .tup l=>l.flatMap (·.2)
def AV.map(f:C->C):AV->AV
 | .one c=> .one (f c)
 | .agg cs=> .agg (cs.map f)
 | .tup l=> .tup (l.map λp=>(p.1,p.2.map f))
section
variable {α β:Type} {R R':α->β->Prop}
theorem All2.imp{l:U α}{m:U β}(h:All2 R l m)(c:∀a b,b∈m->R a b->R' a b):All2 R' l m:=by
 induction h with
 | nil=>exact .nil
 | cons d _ e=>exact .cons (c _ _ zL d) (e λa b hb=>c a b (zM _ hb))
theorem All2.length{l:U α}{m:U β}(h:All2 R l m):l.length=m.length:=by
 induction h with
 | nil=>rfl
 | cons _ _ a=>simp[a]
theorem All2.append{l a:U α}{m b:U β}(h:All2 R l m)(c:All2 R a b):All2 R (l++a) (m++b):=by
 induction h with
 | nil=>exact c
 | cons d _ e=>exact .cons d e
theorem All2.drop{l:U α}{m:U β}(h:All2 R l m):∀k,All2 R (l.drop k) (m.drop k):=by
 induction h with
 | nil=>intro k;simp;exact .nil
 | cons a b c=>intro k;cases k with
   | zero=>exact .cons a b
   | succ k=>exact c k
theorem All2.take{l:U α}{m:U β}(h:All2 R l m):∀k,All2 R (l.take k) (m.take k):=by
 induction h with
 | nil=>intro k;simp;exact .nil
 | cons a c b=>intro k;cases k with
   | zero=>exact .nil
   | succ k=>exact .cons a (b k)
theorem All2.get{l:U α}{m:U β}(h:All2 R l m):∀{i:S} {a:α},l[i]? =O a->∃b,m[i]? =O b/\R a b:=by
 induction h with
 | nil=>intro i a h;simp at h
 | cons c e d=>intro i a h;cases i with
   | zero=>exact⟨_,rfl,by simp at h;exact h▸c⟩
   | succ i=>exact d (by simpa using h)
theorem All2.get' {l:U α} {m:U β} (h:All2 R l m):∀{i:S} {b:β},m[i]? =O b->∃a,l[i]? =O a/\R a b:=by
 induction h with
 | nil=>intro i a h;simp at h
 | cons c e d=>intro i a h;cases i with
   | zero=>exact⟨_,rfl,by simp at h;exact h▸c⟩
   | succ i=>exact d (by simpa using h)
theorem All2.map{γ:Type}{Q:α->γ->Prop}(f:β->γ){l:U α}{m:U β}(h:All2 R l m)(c:∀a b,b∈m->R a b->Q a (f b)):All2 Q l (m.map f):=by
 induction h with
 | nil=>exact .nil
 | cons d _ e=>exact .cons (c _ _ zL d) (e λa b hb=>c a b (zM _ hb))
end
theorem VC.all2{X:S->Prop}{w:E}:∀{vs:U I} {ps:U PV},VC X w vs ps->All2 (VV X w) vs ps
 | _,_,.nil=> .nil
 | _,_,.cons h1 h2=> .cons h1 (VC.all2 h2)
theorem Reads.keep{X X':S->Prop}{w w':E}{v:I}{cs:U PV}(h:Reads X w v cs)(a:∀b,X b->X' b/\w'.heap[b]? =w.heap[b]?):Reads X' w' v cs:=by
 obtain⟨b,off,vs,rfl,hb,c,d⟩:=h;exact⟨b,off,vs,rfl,(a b hb).1,c.keep a,λj u e=>by rw[World.cell?_of_block (a b hb).2];exact d j u e⟩
theorem OwnTop.keep{F a:S->Prop}{L:U S}{w w':E}{v:I}{n:S}{l:U (U PV)}(h:OwnTop F L w v n l)(c:∀b,F b->a b/\w'.heap[b]? =w.heap[b]?)(d:∀b,b∈L->w'.heap[b]? =w.heap[b]?):OwnTop a L w' v n l:=by
 rcases h with h | ⟨g,cap,cur,e,rfl,f,i,j,k,m,o⟩
 . exact .inl h
 exact .inr ⟨g,cap,cur,e,rfl,f,(d g (by simp)).trans i,j,k.keep c,m,o⟩
structure Keeps (J J':Inj) (w w':E) (c:C):Prop where
 F:∀b,J.F b->J'.F b/\w'.heap[b]? =w.heap[b]?
 L:∀k,c.key=O k->J'.L k=J.L k/\∀b,b∈J.L k->w'.heap[b]? =w.heap[b]?
 B:∀k,k∈c.bkeys->J'.B k=J.B k
theorem Keeps.X{J J':Inj}{w w':E}{t:Tok}(a:∀b,J.F b->J'.F b/\w'.heap[b]? =w.heap[b]?)(c:∀k,t.key=O k->J'.L k=J.L k/\∀b,b∈J.L k->w'.heap[b]? =w.heap[b]?):
 ∀b,J.X t b->J'.X t b/\w'.heap[b]? =w.heap[b]? :=by
 intro b hb;cases t with
 | sh=>exact a b hb
 | emp=>exact hb.elim
 | own d k=>exact hb.elim
 | put=>exact hb.elim
 | vw k=>
   obtain⟨e,f⟩:=c k rfl;rcases hb with hb | hb
   . exact⟨.inl (by rw[e];exact hb),f b hb⟩
   exact⟨.inr (a b hb).1,(a b hb).2⟩
theorem CR.keep{J J':Inj}{w w':E}{v:I}{c:C}(h:CR J w v c)(m:Keeps J J' w w' c):CR J' w' v c:=by
 cases c with
 | int | bool | str | raw | dead=>exact h
 | slc t n l=>
   cases t with
   | sh=>exact VV.keep m.F h
   | emp=>exact h
   | own d k=>
     obtain⟨q,x⟩:=m.L k rfl;cases d with
     | true=>show OwnDeep (J'.L k) w' v n l;rw[q];exact OwnDeep.keep h x
     | false=>show OwnTop J'.F (J'.L k) w' v n l;rw[q];exact OwnTop.keep h m.F x
   | vw k=>exact VV.keep (Keeps.X (t:= .vw k) m.F m.L) h
   | put=>exact h.elim
 | ept d k n i o cs=>
   obtain⟨g,r,vs,q,x,h3,h4,y,ty,h5⟩:=h;obtain⟨e,z⟩:=m.L k rfl;have hg:=z g (by rw[q];exact zL);refine⟨g,r,vs,e.trans q,x,h3.keep (Keeps.X (t:=ZL d k) m.F λk' s=>?_),λj u hj=>by rw[World.cell?_of_block hg];exact h4 j u hj,y,ty,hg.trans h5⟩;cases d with
   | true => obtain rfl:k=k':=by simpa [ZL,Tok.key] using s
             exact⟨e,z⟩
   | false=>cases s
 | ptr k off=>show v=_;rw[m.B k (by simp[C.bkeys])];exact h
 | rptr t cs=>exact Reads.keep h (Keeps.X (t:=t) m.F m.L)
 | fn f p=>
   have:p.map (λc=>Value.pointer (O ⟨J'.B c.1,c.2,G⟩))=p.map (λc=>Value.pointer (O ⟨J.B c.1,c.2,G⟩)):=
    yX λc hc=>by rw[m.B c.1 (by simp[C.bkeys];exact⟨_,hc⟩)]
   show v=_;rw[this];exact h
 | fnr f p=>
   obtain⟨vs,rfl,ha⟩:=h;exact⟨vs,rfl,ha.imp λa b _ h=>h.keep m.F⟩
theorem VA.keep{J J':Inj}{w w':E}{v:I}{x:uB×U C}(h:VA J w v x)(e:∀c,c∈x.2->Keeps J J' w w' c):VA J' w' v x:=by
 obtain⟨b,cs⟩:=x;cases b with
 | true=>obtain⟨vs,rfl,ha⟩:=h;exact⟨vs,rfl,ha.imp λa c d h=>h.keep (e c d)⟩
 | false=>obtain⟨c,rfl,d⟩:=h;exact⟨c,rfl,d.keep (e c (by simp))⟩
theorem AR.keep{J J':Inj}{w w':E}{v:I}{x:AV}(h:AR J w v x)(b:∀c,c∈x.cells->Keeps J J' w w' c):AR J' w' v x:=by
 cases x with
 | one c=>exact CR.keep h (b c (by simp[AV.cells]))
 | agg cs=>obtain⟨vs,rfl,ha⟩:=h;exact⟨vs,rfl,ha.imp λa c d h=>h.keep (b c d)⟩
 | tup l=>
   obtain⟨vs,rfl,ha⟩:=h;exact⟨vs,rfl,ha.imp λa x e h=>h.keep λc d=>b c (by simp only[AV.cells,List.mem_flatMap];exact⟨x,e,d⟩)⟩
theorem VA.map{J J':Inj}{w w':E}{v:I}{x:uB×U C}(f:C->C)(h:VA J w v x)(e:∀u c,c∈x.2->CR J w u c->CR J' w' u (f c)):VA J' w' v (x.1,x.2.map f):=by
 obtain⟨b,cs⟩:=x;cases b with
 | true=>obtain⟨vs,rfl,ha⟩:=h;exact⟨vs,rfl,ha.map f λa c d h=>e a c d h⟩
 | false=>obtain⟨c,rfl,d⟩:=h;exact⟨f c,rfl,e v c (by simp) d⟩
theorem AR.map{J J':Inj}{w w':E}{v:I}{x:AV}(f:C->C)(h:AR J w v x)(b:∀u c,c∈x.cells->CR J w u c->CR J' w' u (f c)):AR J' w' v (x.map f):=by
 cases x with
 | one c=>exact b v c (by simp[AV.cells]) h
 | agg cs=>obtain⟨vs,rfl,ha⟩:=h;exact⟨vs,rfl,ha.map f λa c d h=>b a c d h⟩
 | tup l=>
   obtain⟨vs,rfl,ha⟩:=h;exact⟨vs,rfl,ha.map (λp=>(p.1,p.2.map f)) λa x e h=>h.map f λu c d=>b u c (by simp only[AV.cells,List.mem_flatMap];exact⟨x,e,d⟩)⟩
structure St where
 tm:U (S×AV)
 bx:U (S×U C)
def get{α:Type}:U (S×α)->S->uC α
 | [],_=>G
 | (k,a)::r,t=>if k=t then O a else get r t
def ins{α:Type}(t:S)(x:α):U (S×α)->U (S×α)
 | []=> [(t,x)]
 | (k,a)::r=>if k=t then(t,x)::r else(k,a)::ins t x r
theorem JJ{α:Type}(t:S)(x:α)(u:S):∀l:U (S×α),get (ins t x l) u=if t=u then O x else get l u
 | []=>by simp[ins,get]
 | (k,a)::r=>by
   simp only[ins];by_cases b:k=t
   . subst b;rw[uL rfl];simp only[get];split<;>rfl
   rw[uK b];simp only[get,JJ t x u r];by_cases c:k=u
   . subst c;rw[uL rfl,uL rfl,uK (λe=>b e.symm)]
   rw[uK c,uK c]
theorem Oy{α β:Type}(f:α->β)(u:S):∀l:U (S×α),get (l.map λp=>(p.1,f p.2)) u=(get l u).map f
 | []=>rfl
 | (k,a)::r=>by
   simp only[yN,get,Oy f u r];split<;>rfl
def St.map(f:C->C)(s:St):St:=⟨s.tm.map λp=>(p.1,p.2.map f),s.bx.map λp=>(p.1,p.2.map f)⟩
structure Base where
 w:E
 X:S->Prop
 c:uC S
abbrev bxK:S:=60000
def Base.lo(b:Base)(k:S):Prop:=b.w.heap.size<=k\/b.X k
structure Base.Keeps (b:Base) (w:E):Prop where
 os:w.os=b.w.os
 tape:w.tape=b.w.tape
 output:w.output=b.w.output
 size:b.w.heap.size<=w.heap.size
 block:∀k,k<b.w.heap.size->¬b.X k->w.heap[k]? =b.w.heap[k]?
theorem Base.Keeps.refl(b:Base):b.Keeps b.w:=⟨rfl,rfl,rfl,Nat.le_refl _,λ_ _ _=>rfl⟩
theorem Base.Keeps.trans{b:Base}{w w':E}(h:b.Keeps w)(k:Below b.w.heap.size w w'):b.Keeps w':=
 ⟨k.os.trans h.os,k.tape.trans h.tape,k.output.trans h.output,yB h.size k.size,λi a c=>(k.block i a).trans (h.block i a c)⟩
theorem Base.Keeps.step{b:Base}{w w':E}(h:b.Keeps w)(e:w'.os=w.os)(f:w'.tape=w.tape)(g:w'.output=w.output)(i:w.heap.size<=w'.heap.size)(j:∀k,k<w.heap.size->¬b.lo k->w'.heap[k]? =w.heap[k]?):b.Keeps w':=
 ⟨e.trans h.os,f.trans h.tape,g.trans h.output,yB h.size i,λk a c=>(j k (Nat.lt_of_lt_of_le a h.size) (λd=>d.elim (λd=>by omega) c)).trans (h.block k a c)⟩
theorem Base.Keeps.alloc{b:Base}{w:E}(h:b.Keeps w)(_:b.w.heap.size<=w.heap.size)(o:Obj):b.Keeps (w.alloc o):=h.trans ((Below.refl _ _).alloc h.size o)
structure Rel (N:S) (w0:Base) (F0:S->Prop) (J:Inj) (a:Act) (w:E) (s:St):Prop where
 below:w0.Keeps w
 nodef:a.defers= []
 size:a.tmps.size=N
 fl:∀b,J.F b->b<w.heap.size/\(F0 b\/w0.lo (b))
 f0:∀b,F0 b->J.F b
 nd:∀k,(J.L k).Nodup
 lo:∀k b,b∈J.L k->w0.lo (b)/\b<w.heap.size/\¬J.F b
 dj:∀k k' b,b∈J.L k->b∈J.L k'->k=k'
 bo:∀k c,get s.bx k=O c->w0.lo (J.B k)/\¬J.F (J.B k)/\(∀k',J.B k∉J.L k')/\∃arr e,w.heap[J.B k]? =O (.cells arr e (0,0))/\All2 (CR J w) arr.toList c
 nb:w0.c=G\/N<=bxK
 cb:∀b,w0.c=O b->J.B bxK=b
 bi:∀k k' c c',get s.bx k=O c->get s.bx k'=O c'->J.B k=J.B k'->k=k'
 tm:∀t v,get s.tm t=O v->AR J w (a.tmps.getD t undef) v
def St.eqv(s s':St):Prop:=(∀t,get s.tm t=get s'.tm t)/\∀k,get s.bx k=get s'.bx k
theorem Rel.eqv{N:S}{d:Base}{e:S->Prop}{J:Inj}{a:Act}{w:E}{s s':St}(h:Rel N d e J a w s)(b:s.eqv s'):Rel N d e J a w s':=
 {h with bo:=λk c g=>h.bo k c ((b.2 k).trans g),bi:=λk f c i j l=>h.bi k f c i ((b.2 k).trans j) ((b.2 f).trans l),tm:=λt v m=>h.tm t v ((b.1 t).trans m)}
theorem Rel.less{N:S}{d:Base}{e:S->Prop}{J:Inj}{a:Act}{w:E}{s s':St}(h:Rel N d e J a w s)(f:∀t v,get s'.tm t=O v->get s.tm t=O v)(b:∀k c,get s'.bx k=O c->get s.bx k=O c):Rel N d e J a w s':=
 {h with bo:=λk c g=>h.bo k c (b k c g),bi:=λk i c j l m=>h.bi k i c j (b _ _ l) (b _ _ m),tm:=λt v n=>h.tm t v (f t v n)}
end
section
open Go.RowKit
def N6(a:U (S×uC Tok))(t:Tok):uC Tok:=
 match t.key with
 | none=>O t
 | some k=>match get a k with
   | none=>O t
   | some x=>x
def Sf(k:S):U (S×S)->uB
 | []=>uD
 | c::r=>zF c.1 k|| Sf k r
def setRow:U (U PV)->S->S->U PV->U (U PV)
 | [],_,_,_=> []
 | r::l,0,o,cs=>(r.take o++cs++r.drop (o+cs.length))::l
 | r::l,i+1,o,cs=>r::setRow l i o cs
def DU(l:U (U PV))(cs:U PV):U (U PV):=(cs.take l.length).map (λc=> [c])++l.drop cs.length
def Qs5(l:U (U PV))(i o:S)(cs:U PV):U (U PV):=bif zF o 4294967296 then DU l cs else setRow l i o cs
def Qjt:uB->uB->uB
 | true,uA=>uA
 | false,uD=>uA
 | _,_=>uD
theorem Qox{a b:uB}(h:Qjt a b=uA):a=b:=by cases a<;>cases b<;>first | rfl | cases h
def DV(t:Tok)(n:S)(l:U (U PV)):Tok->C
 | .put d m i o cs=>(match t with
   | .own a k=>bif Qjt a d&&zF n m then .slc (.own a k) n (Qs5 l i o cs) else .dead
   | .put _ _ _ _ _=> .slc t n l
   | _=> .dead)
 | t'=> .slc t' n l
def Qc4(t:Tok)(cs:U PV):Tok->C
 | .put _ _ _ _ _=>(match t with
   | .put _ _ _ _ _=> .rptr t cs
   | _=> .dead)
 | t'=> .rptr t' cs
def Ht(g:U (S×uC Tok))(h:uC S):C->C
 | .slc t n l=>match N6 g t with
   | some b=>DV t n l b
   | none=> .dead
 | .rptr t cs=>match N6 g t with
   | some b=>Qc4 t cs b
   | none=> .dead
 | .ept d k n i o cs=>match get g k with
   | none=> .ept d k n i o cs
   | some (O b)=>(match b with
     | .sh=> .rptr .sh cs
     | .vw e=> .rptr (.vw e) cs
     | .put uA _ _ _ [.any]=> .ept d k n i o (cs.map λ_=> .any)
     | _=> .dead)
   | some G=> .dead
 | .ptr k off=>match h with
   | none=> .ptr k off
   | some e=>bif zF k e then .dead else .ptr k off
 | .fn f a=>match h with
   | none=> .fn f a
   | some e=>bif Sf e a then .dead else .fn f a
 | c=>c
structure Res where
 av:AV
 rl:U (S×uC Tok)
 kb:uC S
 bx:uC (S×U C)
def St.step(s:St)(a:uC S)(r:Res):St:=
 let s':=match r.rl,r.kb with
  | [],G=>s
  | rl,kb=>s.map (Ht rl kb)
 ⟨match a with
  | some d=>ins d r.av s'.tm
  | none=>s'.tm,
  match r.bx with
   | some (k,cs)=>ins k cs s'.bx
   | none=>s'.bx⟩
structure Turns (J J':Inj) (w w':E) (rl:U (S×uC Tok)) (kb:uC S):Prop where
 F:∀b,J.F b->J'.F b/\w'.heap[b]? =w.heap[b]?
 stay:∀k,get rl k=G->J'.L k=J.L k/\∀b,b∈J.L k->w'.heap[b]? =w.heap[b]?
 sh:∀k,get rl k=O (O .sh)->∀b,b∈J.L k->J'.F b/\w'.heap[b]? =w.heap[b]?
 vw:∀k k',get rl k=O (O (.vw k'))->∀b,b∈J.L k->(b∈J'.L k'\/J'.F b)/\w'.heap[b]? =w.heap[b]?
 no:∀k t,get rl k=O (O t)->t= .sh\/(∃k',t= .vw k')\/∃d m i o cs,t= .put d m i o cs
 B:∀k,kb≠O k->J'.B k=J.B k
 put:∀k d m i o cs,get rl k=O (O (.put d m i o cs))->(∀v l,CR J w v (.slc (.own d k) m l)->CR J' w' v (.slc (.own d k) m (Qs5 l i o cs)))/\(d=uA->cs= [.any]->(∀g r,J.L k=g::r->∃r',J'.L k=g::r')/\∀b,b∈J.L k->w'.heap[b]? =w.heap[b]?)
theorem Turns.refl(J:Inj)(w:E):Turns J J w w [] G:=
 ⟨λ_ h=>⟨h,rfl⟩,λ_ _=>⟨rfl,λ_ _=>rfl⟩,(λ_ h=>by cases h),(λ_ _ h=>by cases h),(λ_ _ h=>by cases h),(λ_ _=>rfl),(λ_ _ _ _ _ _ h=>by cases h)⟩
theorem Turns.X{J J':Inj}{w w':E}{f:U (S×uC Tok)}{g:uC S}(h:Turns J J' w w' f g){t t':Tok}(a:N6 f t=O t')(j:∀d m i o cs,t'≠ .put d m i o cs):∀b,J.X t b->J'.X t' b/\w'.heap[b]? =w.heap[b]? :=by
 intro b hb;cases t with
 | sh => obtain rfl:Tok.sh=t':=by simpa [N6,Tok.key] using a
         exact h.F b hb
 | emp=>exact hb.elim
 | own d k=>exact hb.elim
 | put=>exact hb.elim
 | vw k =>
   simp only[N6,Tok.key] at a;cases c:get f k with
   | none=>
     rw[c] at a;obtain rfl:Tok.vw k=t':=by simpa using a
     obtain⟨e,l⟩:=h.stay k c;rcases hb with hb | hb
     . exact⟨.inl (by rw[e];exact hb),l b hb⟩
     exact⟨.inr (h.F b hb).1,(h.F b hb).2⟩
   | some x=>
     rw[c] at a;obtain rfl:x=O t':=a;rcases h.no k t' c with rfl | ⟨n,rfl⟩ | ⟨d,m,i,o,cs,rfl⟩
     . rcases hb with hb | hb
       . exact h.sh k c b hb
       exact h.F b hb
     . rcases hb with hb | hb
       . exact h.vw k n c b hb
       exact⟨.inr (h.F b hb).1,(h.F b hb).2⟩
     exact absurd rfl (j d m i o cs)
theorem OwnTop.vv{F X:S->Prop}{L:U S}{w w':E}{v:I}{n:S}{l:U (U PV)}(h:OwnTop F L w v n l)(d:∀b,F b->X b/\w'.heap[b]? =w.heap[b]?)(c:∀b,b∈L->X b/\w'.heap[b]? =w.heap[b]?):VV X w' v (.slc n l):=by
 rcases h with⟨rfl,oa,rfl⟩ | ⟨g,cap,cur,e,rfl,rfl,f,o,i,k,m⟩
 . exact .emp oa n (yA _)
 refine .slc (c g (by simp)).1 (λj u a=>?_) (i.keep d) k m;rw[zK] at a;split at a
 . rw[zG] at a;simp[World.cell?,(c g (by simp)).2.trans f,a]
 cases a
theorem BA{k:S}:∀{caps:U (S×S)},Sf k caps=uD->∀c,c∈caps->c.1≠k
 | [],_,c,hc=>by simp at hc
 | x::r,h,c,hc=>by
   simp only[Sf,Bool.or_eq_false_iff] at h;rcases zX.1 hc with rfl | hc
   . exact λe=>by simp[e] at h
   exact BA h.2 c hc
theorem Qju{J J':Inj}{w w':E}{rl:U (S×uC Tok)}{kb:uC S}(h:Turns J J' w w' rl kb){v:I}{c:C}(p:CR J w v c):CR J' w' v (Ht rl kb c):=by
 cases c with
 | int | bool | str | raw | dead=>exact p
 | slc t n l =>
   simp only[Ht];cases s:N6 rl t with
   | none=>trivial
   | some t' =>
     show CR J' w' v (DV t n l t');cases t with
     | put=>exact p.elim
     | sh => obtain rfl:Tok.sh=t':=by simpa [N6,Tok.key] using s
             exact VV.keep h.F p
     | emp => obtain rfl:Tok.emp=t':=by simpa [N6,Tok.key] using s
              exact p
     | vw k=>
       have hX:=h.X s;simp only[N6,Tok.key] at s;cases y:get rl k with
       | none=>
         rw[y] at s;obtain rfl:Tok.vw k=t':=by simpa using s
         exact VV.keep (hX (by simp)) p
       | some x=>
         rw[y] at s;obtain rfl:x=O t':=s;rcases h.no k t' y with rfl | ⟨k',rfl⟩ | ⟨d,m,i,o,cs,rfl⟩
         . exact VV.keep (hX (by simp)) p
         . exact VV.keep (hX (by simp)) p
         trivial
     | own d k=>
       simp only[N6,Tok.key] at s;cases y:get rl k with
       | none=>
         rw[y] at s;obtain rfl:Tok.own d k=t':=by simpa using s
         obtain⟨e,z⟩:=h.stay k y;cases d with
         | true=>show OwnDeep (J'.L k) w' v n l;rw[e];exact OwnDeep.keep p z
         | false=>show OwnTop J'.F (J'.L k) w' v n l;rw[e];exact OwnTop.keep p h.F z
       | some x=>
         rw[y] at s;obtain rfl:x=O t':=s;rcases h.no k t' y with rfl | ⟨k',rfl⟩ | ⟨d1,m,i,o,cs,rfl⟩
         . have z:=h.sh k y;cases d with
           | true=>exact OwnDeep.vv p z
           | false=>exact OwnTop.vv p h.F z
         . have z:=h.vw k k' y;cases d with
           | true=>exact OwnDeep.vv (X:=J'.X (.vw k')) p z
           | false=>exact OwnTop.vv p (λb hb=>⟨.inr (h.F b hb).1,(h.F b hb).2⟩) z
         show CR J' w' v (bif Qjt d d1&&zF n m then .slc (.own d k) n (Qs5 l i o cs) else .dead);cases hb:Qjt d d1&&zF n m with
         | false=>trivial
         | true=>
           simp only[zH] at hb;obtain rfl:=Qox hb.1;obtain rfl:=Nat.eq_of_beq_eq_true hb.2;exact(h.put k d n i o cs y).1 v l p
 | ptr k off=>
   simp only[Ht];cases kb with
   | none=>show v=_;rw[h.B k (by simp)];exact p
   | some k'=>
     simp only[];cases hk:zF k k' with
     | true=>trivial
     | false=>
       show v=_;rw[h.B k (λe=>by simp at e;simp[e] at hk)];exact p
 | rptr t cs=>
   simp only[Ht];cases s:N6 rl t with
   | none=>trivial
   | some t'=>
     show CR J' w' v (Qc4 t cs t');cases t' with
     | put=>cases t with
       | put=>exact absurd p (λ⟨_,_,_,_,h,_⟩=>h)
       | sh | emp | own | vw=>trivial
     | sh | emp | own | vw=>exact Reads.keep p (h.X s (by simp))
 | ept d k n i o cs=>
   simp only[Ht];obtain⟨g,r,vs,h1,h2,h3,h4,a2,ty,h5⟩:=p;have a1:g∈J.L k:=by rw[h1];exact zL
   have a3:∀(X:S->Prop),(∀b,b∈J.L k\/J.F b->X b/\w'.heap[b]? =w.heap[b]?)->Reads X w' v cs:=λX hX=>by
    have y:=hX g (.inl a1);refine⟨g,i*n+o,vs,h2,y.1,h3.keep (X':=X) λb hb=>hX b ?_,λj u hj=>by rw[World.cell?_of_block y.2];exact h4 j u hj⟩;cases d with
    | true=>exact hb
    | false=>exact .inr hb
   cases hk:get rl k with
   | none=>
     obtain⟨e,z⟩:=h.stay k hk;refine⟨g,r,vs,e.trans h1,h2,h3.keep λb hb=>?_,λj u hj=>by rw[World.cell?_of_block (z g a1)];exact h4 j u hj,a2,ty,(z g a1).trans h5⟩;cases d with
     | true=>exact hb.elim (λhb=>⟨.inl (by rw[e];exact hb),z b hb⟩) λhb=>⟨.inr (h.F b hb).1,(h.F b hb).2⟩
     | false=>exact h.F b hb
   | some x=>
     cases x with
     | none=>trivial
     | some t'=>
       rcases h.no k t' hk with rfl | ⟨k',rfl⟩ | ⟨d1,m,i1,o1,a4,rfl⟩
       . exact a3 J'.F λb hb=>hb.elim (h.sh k hk b) (h.F b)
       . exact a3 (J'.X (.vw k')) λb hb=>hb.elim (h.vw k k' hk b) λhb=>⟨.inr (h.F b hb).1,(h.F b hb).2⟩
       by_cases hq:d1=uA/\a4= [.any]
       . obtain⟨rfl,rfl⟩:=hq;obtain⟨q1,q2⟩:=(h.put k uA m i1 o1 _ hk).2 rfl rfl;obtain⟨r',e⟩:=q1 g r h1;exact⟨g,r',vs,e,h2,h3.anys,λj u hj=>by rw[World.cell?_of_block (q2 g a1)];exact h4 j u hj,a2,ty,(q2 g a1).trans h5⟩
       cases d1 with
       | false=>trivial
       | true=>match a4,hq with
         | [],_=>trivial
         | [.any],hq=>exact(hq ⟨rfl,rfl⟩).elim
         | [.int _ _],_=>trivial
         | [.bool _],_=>trivial
         | [.str _],_=>trivial
         | [.slc _ _],_=>trivial
         | [.raw _],_=>trivial
         | x::_::_,_=>cases x<;>trivial
 | fn f q=>
   have key:(∀c,c∈q->kb≠O c.1)->CR J' w' v (.fn f q):=λhb=>by
    have:q.map (λc=>Value.pointer (O ⟨J'.B c.1,c.2,G⟩))=q.map (λc=>Value.pointer (O ⟨J.B c.1,c.2,G⟩)):=
     yX λc p=>by rw[h.B c.1 (hb c p)]
    show v=_;rw[this];exact p
   simp only[Ht];cases kb with
   | none=>exact key (by simp)
   | some k'=>
     simp only[];cases hk:Sf k' q with
     | true=>trivial
     | false=>exact key λc a5 e=>by simp at e;exact BA hk c a5 e.symm
 | fnr f q=>
   obtain⟨vs,rfl,ha⟩:=p;exact⟨vs,rfl,ha.imp λa b _ h'=>h'.keep h.F⟩
structure Names (w0:Base) (F0:S->Prop) (J:Inj) (w:E):Prop where
 fl:∀b,J.F b->b<w.heap.size/\(F0 b\/w0.lo (b))
 f0:∀b,F0 b->J.F b
 nd:∀k,(J.L k).Nodup
 lo:∀k b,b∈J.L k->w0.lo (b)/\b<w.heap.size/\¬J.F b
 dj:∀k k' b,b∈J.L k->b∈J.L k'->k=k'
theorem Rel.names{N:S}{b:Base}{c:S->Prop}{J:Inj}{a:Act}{w:E}{s:St}(h:Rel N b c J a w s):Names b c J w:=⟨h.fl,h.f0,h.nd,h.lo,h.dj⟩
theorem Qoy(a:Act)(b:uC S)(v:I):(a.put b v).tmps.size=a.tmps.size:=by
 cases b<;>simp[Act.put]
theorem Qhi(a:Act)(b:uC S)(v:I):(a.put b v).defers=a.defers:=by
 cases b<;>rfl
theorem Qs6(a:Act)(d:S)(v:I)(t:S)(hd:d<a.tmps.size):(a.put (O d) v).tmps.getD t undef=if d=t then v else a.tmps.getD t undef:=by
 simp only[Act.put,yJ,zU];by_cases h:d=t
 . subst h;simp[hd]
 simp[h]
theorem Rel.upd{N:S}{w0:Base}{F0:S->Prop}{J J':Inj}{a:Act}{w w':E}{s:St}(h:Rel N w0 F0 J a w s)(g:uC S)(a6:∀d,g=O d->d<N)(r:Res)(v:I)
 (hb:w0.Keeps w') (ht:Turns J J' w w' r.rl r.kb) (hn:Names w0 F0 J' w') (hv:g≠G->AR J' w' v r.av)
 (o:∀k c,get s.bx k=O c->(∀p,r.bx=O p->p.1≠k)->r.kb≠O k/\¬J'.F (J.B k)/\(∀i,J.B k∉J'.L i)/\w'.heap[J.B k]? =w.heap[J.B k]?)
 (q:∀k c,r.bx=O (k,c)->w0.lo (J'.B k)/\¬J'.F (J'.B k)/\(∀i,J'.B k∉J'.L i)/\(∃a1 e,w'.heap[J'.B k]? =O (.cells a1 e (0,0))/\All2 (CR J' w') a1.toList c)/\∀i c',get s.bx i=O c'->i≠k->J.B i≠J'.B k)
 (j:∀k,r.kb=O k->k<N:=by intro _ h;cases h):
 Rel N w0 F0 J' (a.put g v) w' (s.step g r):=by
 have z:∀(u:I) (x:AV),AR J w u x->AR J' w' u (match r.rl,r.kb with | [],G=>x | rl,kb=>x.map (Ht rl kb)):=by
  intro u x f;split
  . rename_i e1 e2
    have ab:∀c,Ht r.rl r.kb c=c:=λc=>by
     rw[e1,e2];cases c with
     | slc t n l=>cases t<;>rfl
     | rptr t cs=>cases t<;>rfl
     | _=>rfl
    have:=AR.map (Ht r.rl r.kb) f λu c _ hc=>Qju ht hc
    rw[show x.map (Ht r.rl r.kb)=x by
     have:(Ht r.rl r.kb)=id:=funext ab;rw[this];cases x<;>simp[AV.map]] at this
    exact this
  exact AR.map _ f λu c _ hc=>Qju ht hc
 have ad:∀(us:U I) (cs:U C),All2 (CR J w) us cs->All2 (CR J' w') us (match r.rl,r.kb with | [],G=>cs | rl,kb=>cs.map (Ht rl kb)):=by
  intro us cs f;have:=z (.agg us.toArray) (.agg cs) ⟨us,rfl,f⟩;split at this
  . obtain⟨vs,e,h2⟩:=this;rw[show us=vs by simpa using uO Array.toList (Value.agg.inj e)];exact h2
  obtain⟨vs,e,h2⟩:=this;rw[show us=vs by simpa using uO Array.toList (Value.agg.inj e)];exact h2
 have a7:∀t x,get (match r.rl,r.kb with | [],G=>s | rl,kb=>s.map (Ht rl kb)).tm t=O x->∃y,get s.tm t=O y/\x=(match r.rl,r.kb with | [],G=>y | rl,kb=>y.map (Ht rl kb)):=by
  intro t x f;split at f
  . exact⟨x,f,by simp⟩
  simp only[St.map,Oy (AV.map _)] at f;obtain⟨y,m,rfl⟩:=zO.1 f;exact⟨y,m,by simp⟩
 have a8:∀k x,get (match r.rl,r.kb with | [],G=>s | rl,kb=>s.map (Ht rl kb)).bx k=O x->∃y,get s.bx k=O y/\x=(match r.rl,r.kb with | [],G=>y | rl,kb=>y.map (Ht rl kb)):=by
  intro k x f;split at f
  . exact⟨x,f,by simp⟩
  simp only[St.map,Oy (List.map _)] at f;obtain⟨y,m,rfl⟩:=zO.1 f;exact⟨y,m,by simp⟩
 have gb:∀k x,get (s.step g r).bx k=O x->(r.bx=O (k,x))\/((∀p,r.bx=O p->p.1≠k)/\∃y,get s.bx k=O y/\x=(match r.rl,r.kb with | [],G=>y | rl,kb=>y.map (Ht rl kb))):=by
  intro k x f;simp only[St.step] at f;cases hr:r.bx with
  | none=>rw[hr] at f;exact .inr ⟨(λp hp=>by cases hp),a8 k x f⟩
  | some p=>
    obtain⟨k1,c1⟩:=p;rw[hr] at f;simp only[JJ] at f;by_cases hk:k1=k
    . subst hk;rw[uL rfl] at f;obtain rfl:=zE f;exact .inl rfl
    rw[uK hk] at f;exact .inr ⟨(λp hp=>by cases hp;exact hk),a8 k x f⟩
 refine {below:=hb,nodef:=(Qhi a g v).trans h.nodef,size:=(Qoy a g v).trans h.size,fl:=hn.fl,f0:=hn.f0,nd:=hn.nd,lo:=hn.lo,dj:=hn.dj,bo:= ?_,nb:=h.nb,cb:=λb hb=>(ht.B bxK λe=>by
  have:=j _ e;rcases h.nb with hn | hn
  . rw[hn] at hb;cases hb
  omega).trans (h.cb b hb),bi:= ?_,tm:= ?_}
 . intro k c hk;rcases gb k c hk with hr | ⟨a2,y,m,rfl⟩
   . obtain⟨h1,h2,h3,h4,_⟩:=q k c hr;exact⟨h1,h2,h3,h4⟩
   obtain⟨j,h1,h2,h3⟩:=o k y m a2;obtain⟨h4,_,_,a1,e,h5,h6⟩:=h.bo k y m;rw[ht.B k j];exact⟨h4,h1,h2,a1,e,h3.trans h5,ad _ _ h6⟩
 . intro k i c c' hk ae hB;rcases gb k c hk with hr | ⟨a2,y,m,rfl⟩<;>rcases gb i c' ae with a9 | ⟨a4,y',a3,rfl⟩
   . have:=hr.symm.trans a9;simp at this;exact this.1
   . refine yL λa5=>?_
     obtain⟨j,_⟩:=o i y' a3 a4;rw[ht.B i j] at hB;exact(q k c hr).2.2.2.2 i y' a3 (λe=>a5 e.symm) hB.symm
   . refine yL λa5=>?_
     obtain⟨j,_⟩:=o k y m a2;rw[ht.B k j] at hB;exact(q i c' a9).2.2.2.2 k y m a5 hB
   rw[ht.B k (o k y m a2).1,ht.B i (o i y' a3 a4).1] at hB;exact h.bi k i y y' m a3 hB
 intro t x f;cases g with
 | none=>
   simp only[St.step] at f;obtain⟨y,m,rfl⟩:=a7 t x f;exact z _ _ (h.tm t y m)
 | some d=>
   have hd:=a6 d rfl;simp only[St.step,JJ] at f;rw[Qs6 a d v t (by rw[h.size];exact hd)];by_cases aa:d=t
   . rw[uL aa] at f⊢;obtain rfl:=zE f;exact hv (by simp)
   rw[uK aa] at f⊢;obtain⟨y,m,rfl⟩:=a7 t x f;exact z _ _ (h.tm t y m)
theorem Rel.pure{N:S}{g:Base}{i:S->Prop}{J:Inj}{a:Act}{w:E}{s:St}(h:Rel N g i J a w s)(b:uC S)(e:∀d,b=O d->d<N)(j:AV)(v:I)(l:b≠G->AR J w v j):
 Rel N g i J (a.put b v) w (s.step b ⟨j, [],G,G⟩):=
 h.upd b e _ v h.below (Turns.refl J w) h.names l (λk c f _=>by
  obtain⟨_,m,n,_⟩:=h.bo k c f;exact⟨by simp,m,n,rfl⟩) (λk c f=>by cases f)
end
section
open Go.RowKit
inductive TK where
 | int (k:uJ)
 | bool
 | str
 | sli (e:S)
 | struct (fs:U (S×S×uB))
 | other
inductive LK where
 | int
 | bool
 | str
structure TI where
 kind:TK
 size:S
 zero:U C
 eq:U LK
def TI.agg(i:TI):uB:=match i.kind with
 | .struct _=>uA
 | _=>uD
def KT:I->C->uB
 | .int k n,.int k' m=>decide (k=k')&&decide (n=0)&&decide (m=0)
 | .bool b,.bool c=> !b&& !c
 | .string s,.str t=>zF s.size 0&&zF t.size 0
 | .slice G 0 0,.slc .emp _ []=>uA
 | _,_=>uD
def Du:U I->U C->uB
 | [], []=>uA
 | v::vs,c::cs=>KT v c&&Du vs cs
 | _,_=>uD
def DW:TypeDesc->uB
 | .struct _=>uA
 | .array _ _=>uA
 | _=>uD
def I2(P:uF):U Field->U (S×S×uB)->uB
 | [], []=>uA
 | f ::fs,g::gs=>zF f.offset g.1&&(match P.info? f.type with
     | some i=>zF i.size g.2.1
     | none=>uD)&&(match P.underlying f.type with
     | some d=>(match g.2.2,DW d with | true,uA=>uA | false,uD=>uA | _,_=>uD)
     | none=>uD)&&I2 P fs gs
 | _,_=>uD
def KU(P:uF):TypeDesc->TK->uB
 | .int k,.int k'=>decide (k=k')
 | .bool,.bool=>uA
 | .string,.str=>uA
 | .slice e,.sli e'=>zF e e'
 | .struct fs,.struct gs=>I2 P fs.toList gs
 | .struct _,.other=>uD
 | .array _ _,.other=>uD
 | _,.other=>uA
 | _,_=>uD
def Qv1(P:uF)(f:S->uC (U LK)):U Field->S->uC (U LK)
 | [],_=>O []
 | g :: r, off => bif decide (g.name = "_") then none else bif Nat.beq g.offset off then
     (match f g.type,P.info? g.type with
     | some l,O inf=>bif zF inf.size l.length&&Nat.blt 0 l.length then
      (match Qv1 P f r (off+l.length) with
      | some m=>O (l++m)
      | none=>G) else G
     | _,_=>G)
   else G
def MG(P:uF):S->S->uC (U LK)
 | 0,_=>G
 | n+1,t=>match P.underlying t with
   | some (.int _)=>O [.int]
   | some .bool=>O [.bool]
   | some .string=>O [.str]
   | some (.struct fs)=>bif P.stoodInHeld t then G else Qv1 P (MG P n) fs.toList 0
   | _=>G
def MH:U LK->U LK->uB
 | [], []=>uA
 | .int::r,.int::r'=>MH r r'
 | .bool::r,.bool::r'=>MH r r'
 | .str::r,.str::r'=>MH r r'
 | _,_=>uD
def Qxv(P:uF)(t:S)(i:TI):uB:=match i.eq with
 | []=>uA
 | l=> !(P.eqGuardType P.depth t)&&(match P.underlying t with
   | some (.struct _)=>uA
   | _=>uD)&&(match MG P 9 t with
   | some m=>MH l m
   | none=>uD)
def DX:LK->C->C->uC uB
 | .int,.int k a,.int k' b=>bif decide (k=k') then O (a==b) else G
 | .str,.str a,.str b=>O (a.toList==b.toList)
 | .bool,.bool a,.bool b=>O (a==b)
 | _,_,_=>G
def D7:U LK->U C->U C->uC uB
 | [], [], []=>O uA
 | l::ls,x::xs,y::ys=>match DX l x y,D7 ls xs ys with
   | some a,O b=>O (a&&b)
   | _,_=>G
 | _,_,_=>G
def Qxw(P:uF)(t:S)(i:TI):uB:=
 match P.underlying t,P.info? t with
 | some d,O inf=>KU P d i.kind&&zF inf.size i.size&&yQ inf.bytes 1000&&(match inf.zero with
   | some z=>zF z.cells.size i.size&&Du z.cells.toList i.zero
   | none=>uD)&&Qxv P t i
 | _,_=>uD
def S6(P:uF):U (S×TI)->uB
 | []=>uA
 | p::r=>Qxw P p.1 p.2&&S6 P r
def Qc5:I->uC AV
 | .int k n=>bif decide (k.min<=n)&&decide (n<=k.max) then O (.one (.int k n)) else G
 | .bool b=>O (.one (.bool b))
 | .string s=>bif yQ s.size 1000000 then O (.one (.str s)) else G
 | .slice G 0 0=>O (.one (.slc .emp 0 []))
 | .pointer G=>O (.one .dead)
 | _=>G
def IY(s:St):Operand->uC AV
 | .tmp t=>get s.tm t
 | .const v=>Qc5 v
 | .func f=>O (.one (.fn f []))
 | .global _=>G
structure TakeT where
 take:S->S->U (U PV)->U AV->uB->uB->U (U PV)->Prop
 give:S->U C->U AV->AV->U C->Prop
 val:S->U AV->AV->Prop
 ins:S->S->Prop
inductive Ob where
 | call (f:S) (args:U AV) (r:AV)
 | eq (a b:AV)
 | elem (l:U (U PV)) (i:uE) (r:U PV)
 | rng (lo hi:uE) (n:S)
 | idx (i:uE) (n:S)
 | flat (l:U (U PV))
 | len (n:S)
 | slen (n:S)
 | nz (n:uE)
 | inr (k:uJ) (n:uE)
 | take (f n:S) (l:U (U PV)) (args:U AV) (mix turn:uB) (l':U (U PV))
 | give (f:S) (cs:U C) (args:U AV) (r:AV) (cs':U C)
 | val (f:S) (args:U AV) (r:AV)
 | ins (f n:S)
inductive Orc where
 | no
 | val (v:AV)
 | row (r:U PV)
 | flat
 | rowE (r:U PV)
 | take (mix turn:uB) (l:U (U PV))
 | give (g:uC S) (r:AV) (cs:U C)
 | giv (ks:U S) (r:AV)
 | cut (l:U (U PV))
 | gh (t q th:S) (r:U PV) (o:Orc)
 | ins (l:U (U PV))
def Qxx(k:uJ)(a b:uE):uE:=k.wrap (yR k.bits a &&& yR k.bits b).toNat
def Qxy(k:uJ)(a b:uE):uE:=k.wrap (yR k.bits a ^^^ yR k.bits b).toNat
def Qvw(k:uJ)(a b:uE):uE:=a.fdiv (2^(min b.toNat k.bits))
def Qrx(c:BinOp)(k:uJ)(a b:uE):uC (C×U Ob):=
 match c with
 | .add=>O (.int k (k.wrap (a+b)), [])
 | .sub=>O (.int k (k.wrap (a-b)), [])
 | .mul=>O (.int k (k.wrap (a*b)), [])
 | .quo=>O (.int k (k.wrap (a.tdiv b)), [.nz b])
 | .rem=>O (.int k (a.tmod b), [.nz b,.inr k (a.tmod b)])
 | .eql=>O (.bool (a==b), [])
 | .neq=>O (.bool (a !=b), [])
 | .lss=>O (.bool (decide (a<b)), [])
 | .leq=>O (.bool (decide (a<=b)), [])
 | .gtr=>O (.bool (decide (a>b)), [])
 | .geq=>O (.bool (decide (a>=b)), [])
 | .and=>O (.int k (Qxx k a b), [])
 | .xor=>O (.int k (Qxy k a b), [])
 | _=>G
def Qry(c:BinOp)(a b:uM):uC (C×U Ob):=
 match c with
 | .add=>O (.str (a++b), [.slen (a.size+b.size)])
 | .eql=>O (.bool (a.toList==b.toList), [])
 | .neq=>O (.bool (!(a.toList==b.toList)), [])
 | .lss=>O (.bool (Op.bytesLess a.toList b.toList), [])
 | .leq=>O (.bool (Op.bytesLess a.toList b.toList|| a.toList==b.toList), [])
 | .gtr=>O (.bool (!(Op.bytesLess a.toList b.toList|| a.toList==b.toList)), [])
 | .geq=>O (.bool (!(Op.bytesLess a.toList b.toList)), [])
 | _=>G
def Qv2:BinOp->uB
 | .shr=>uA
 | _=>uD
def Qxz(c:BinOp):C->C->uC (C×U Ob)
 | .int k a,.int k' b=>bif Qv2 c then(bif decide (0<=b) then O (.int k (Qvw k a b), []) else G) else bif decide (k=k') then Qrx c k a b else G
 | .str a,.str b=>Qry c a b
 | _,_=>G
def Qc6(tt:U (S×TI))(c:BinOp)(t:S)(a b:uB):uC (C×U Ob):=
 match get tt t with
 | some ⟨.bool,_,_,_⟩=>(match c with
   | .eql=>O (.bool (a==b), [])
   | .neq=>O (.bool (!(a==b)), [])
   | _=>G)
 | _=>G
def Qv3:C->uB
 | .dead=>uD
 | _=>uA
def Dx:U C->uB
 | []=>uA
 | c::r=>Qv3 c&&Dx r
def AV.flatCells:AV->uC (U C)
 | .one c=>O [c]
 | .agg cs=>O cs
 | .tup _=>G
def Qvx:C->uC PV
 | .int k n=>O (.int k n)
 | .bool b=>O (.bool b)
 | .str s=>O (.str s)
 | .slc _ n l=>O (.slc n l)
 | .raw v=>O (.raw v)
 | _=>G
def Np:U C->uC (U PV)
 | []=>O []
 | c::r=>match Qvx c,Np r with
   | some p,O ps=>O (p::ps)
   | _,_=>G
def KV:Tok->uC Tok
 | .sh=>O .sh
 | .own _ k=>O (.vw k)
 | .vw k=>O (.vw k)
 | .emp=>G
 | .put _ _ _ _ _=>G
def IZ(t:Tok):PV->C
 | .int k n=> .int k n
 | .bool b=> .bool b
 | .str s=> .str s
 | .slc n l=> .slc t n l
 | .any=> .dead
 | .raw v=> .raw v
def Qhj(i:TI)(cs:U C):uC AV:=
 match i.agg with
 | true=>bif zF cs.length i.size then O (.agg cs) else G
 | false=>(match cs with
   | [c]=>O (.one c)
   | _=>G)
def Kp(s:uM)(i:uE):uE:=((s.data.toList.getD i.toNat 0).toNat:uE)
def N7(tt:U (S×TI))(t f:S):uC (S×S×uB):=
 match get tt t with
 | some ⟨.struct fs,_,_,_⟩=>fs[f]?
 | _=>G
def Qjv(a:U (S×S×uB)):U C->U (S×AV)->uC (U C)
 | cells, []=>O cells
 | cells,(i,v)::r=>match a[i]?,v.flatCells with
   | some (o,sz,_),O cs=>bif zF cs.length sz&&yQ (o+sz) cells.length&&Dx cs then Qjv a (cells.take o++cs++cells.drop (o+sz)) r else G
   | _,_=>G
def S9(d:uE):uC Operand->U AV->uC (uE×U AV)
 | none,r=>O (d,r)
 | some _,.one (.int _ n)::r=>O (n,r)
 | _,_=>G
def Qrz:Tok->Tok
 | .own _ k=> .vw k
 | t=>t
def Qy:U C->U S
 | []=> []
 | c::r=>(match c.key with
   | some k=> [k]
   | none=> [])++Qy r
def DY:U AV->uC (U (S×S))
 | []=>O []
 | .one (.ptr k o)::r=>(DY r).map ((k,o):: ·)
 | _::_=>G
def S7(k:S):U S->uB
 | []=>uD
 | x::r=>zF x k|| S7 k r
def C3:U S->uB
 | []=>uA
 | x::r=> !(S7 x r)&&C3 r
def Qs7:C->uB
 | .slc (.own uA _) _ _=>uA
 | .slc .emp _ _=>uA
 | .slc _ _ _=>uD
 | _=>uA
def Ru:U C->uB
 | []=>uA
 | c::r=>Qs7 c&&Ru r
def JK:S->U (S×Operand)->U AV->uC (U (U C))
 | _, [], []=>O []
 | i,(j,_)::ps,v::vs=>bif zF i j then(match v.flatCells,JK (i+1) ps vs with
   | some cs,O r=>O (cs::r)
   | _,_=>G) else G
 | _,_,_=>G
def DZ(n:S):U (U C)->uB
 | []=>uA
 | cs::r=>zF cs.length n&&Dx cs&&DZ n r
def TD:U (U C)->uC (U (U PV))
 | []=>O []
 | cs::r=>match Np cs,TD r with
   | some p,O ps=>O (p::ps)
   | _,_=>G
def Qoz(a:U (S×U C))(k off:S):uC (U PV):=
 match get a k with
 | some cs=>Np (cs.drop off)
 | none=>G
def ZM(a:U (S×U C)):U (S×S)->uC (U (U PV))
 | []=>O []
 | (k,o)::r=>match Qoz a k o,ZM a r with
   | some p,O ps=>O (p::ps)
   | _,_=>G
def Qfk(c:U (S×U C)):C->uC C
 | .int k n=>O (.int k n)
 | .bool b=>O (.bool b)
 | .str s=>O (.str s)
 | .slc _ n l=>O (.slc .sh n l)
 | .ptr k off=>(Qoz c k off).map (.rptr .sh)
 | .rptr _ cs=>O (.rptr .sh cs)
 | .ept _ _ _ _ _ cs=>O (.rptr .sh cs)
 | .fn f a=>(ZM c a).map (.fnr f)
 | .fnr f a=>O (.fnr f a)
 | .raw v=>O (.raw v)
 | .dead=>G
def EA(a:U (S×U C)):U C->uC (U C)
 | []=>O []
 | c::r=>match Qfk a c,EA a r with
   | some p,O ps=>O (p::ps)
   | _,_=>G
def Qs8(a:U (S×U C)):AV->uC AV
 | .one c=>(Qfk a c).map .one
 | .agg cs=>(EA a cs).map .agg
 | .tup _=>G
def YR(a:U (S×U C)):U AV->uC (U AV)
 | []=>O []
 | c::r=>match Qs8 a c,YR a r with
   | some p,O ps=>O (p::ps)
   | _,_=>G
def EB(d:S):C->C
 | .slc (.own b k) n l=> .slc (.own b (64*d+k)) n l
 | c=>c
def EC:C->uB
 | .slc (.own _ k) _ _=>Nat.blt k 64
 | .slc (.vw _) _ _=>uD
 | .ptr _ _=>uD
 | .rptr _ _=>uD
 | .ept _ _ _ _ _ _=>uD
 | .fn _ _=>uD
 | .fnr _ _=>uD
 | .dead=>uD
 | _=>uA
def UT:C->uB
 | .slc .sh _ _=>uA
 | .slc (.own uD _) _ _=>uA
 | _=>uD
def ED:C->uB
 | .ptr _ _=>uD
 | .fn _ []=>uA
 | .fn _ _=>uD
 | .fnr _ _=>uD
 | .rptr _ _=>uD
 | .ept _ _ _ _ _ _=>uD
 | _=>uA
def XC:C->uB
 | .ptr _ _=>uD
 | .fn _ _=>uD
 | .fnr _ _=>uD
 | .rptr _ _=>uD
 | .ept _ _ _ _ _ _=>uD
 | _=>uA
def Cp(f:C->uB):U C->uB
 | []=>uA
 | c::r=>f c&&Cp f r
def Z4:U AV->U C
 | []=> []
 | v::r=>v.cells++Z4 r
def W5:U S->U (S×uC Tok)
 | []=> []
 | k::r=>(k,G)::W5 r
def Yz:U S->U (S×uC Tok)
 | []=> []
 | k::r=>(k,O .sh)::Yz r
def UU(n:S):U S->U (S×uC Tok)
 | []=> []
 | k::r=>(k,O (.vw n))::UU n r
end
section
open Go.RowKit
def Qjw(tt:U (S×TI))(j:Orc)(bn:U (S×U C)):Op->U AV->uC (AV×U Ob)
 | .move _, [v]=>O (v, [])
 | .assign _, [v]=>O (v, [])
 | .pick _ _ _, [.one (.bool c),a,b]=>O (bif c then a else b, [])
 | .binOp op t _ _ _, [.one x,.one y]=>
   match Qxz op x y with
   | some (c,obs)=>O (.one c,obs)
   | none=>(match x,y with
     | .bool a,.bool b=>(match Qc6 tt op t a b with
       | some (c,obs)=>O (.one c,obs)
       | none=>G)
     | _,_=>G)
 | .binOp op t _ _ _, [.agg xs,.agg ys]=>
   (match get tt t with
   | some ⟨_,_,_,l::ls⟩=>(match op,D7 (l::ls) xs ys with
     | .eql,O b=>O (.one (.bool b), [])
     | .neq,O b=>O (.one (.bool (!b)), [])
     | _,_=>G)
   | _=>G)
 | .unOp op _ _, [.one x]=>
   (match op,x with
   | .not,.bool b=>O (.one (.bool (!b)), [])
   | .neg,.int k n=>O (.one (.int k (k.wrap (0-n))), [])
   | _,_=>G)
 | .field t _ f, [.agg cs]=>
   (match N7 tt t f with
   | some (o,sz,uA)=>bif yQ (o+sz) cs.length then O (.agg ((cs.drop o).take sz), []) else G
   | some (o,_,uD)=>(match cs[o]? with
     | some c=>O (.one c, [])
     | none=>G)
   | none=>G)
 | .extract _ i, [.tup l]=>
   (match l[i]? with
   | some (uA,cs)=>O (.agg cs, [])
   | some (uD, [c])=>O (.one c, [])
   | _=>G)
 | .fieldAddr t _ f, [.one (.ptr k off)]=>
   (match N7 tt t f with
   | some (o,sz,_)=>bif zF sz 0 then G else O (.one (.ptr k (off+o)), [])
   | none=>G)
 | .fieldAddr t _ f, [.one (.rptr tok cs)]=>
   (match N7 tt t f with
   | some (o,sz,_)=>bif zF sz 0 then G else O (.one (.rptr tok (cs.drop o)), [])
   | none=>G)
 | .nilCheck _, [.one (.ptr k off)]=>O (.one (.ptr k off), [])
 | .nilCheck _, [.one (.rptr t cs)]=>O (.one (.rptr t cs), [])
 | .build t ps,avs=>
   (match get tt t with
   | some ⟨.struct fs,_,zero,_⟩=>bif zF ps.size avs.length then(match Qjv fs zero ((ps.toList.map (·.1)).zip avs) with
     | some cs=>O (.agg cs, [])
     | none=>G) else G
   | _=>G)
 | .makeFunc (.func f) first _,avs=>
   bif zF first.size 0 then(match DY avs with
    | some h=>O (.one (.fn f h), [])
    | none=>G) else G
 | .convert s d _, [.one (.int _ n)]=>
   (match get tt s,get tt d with
   | some _,O ⟨.int k,_,_,_⟩=>O (.one (.int k (k.wrap n)), [])
   | _,_=>G)
 | .call ⟨.builtin .len,_,tys⟩, [.one x]=>
   (match tys[0]? with
   | some t=>(match get tt t,x with
     | some ⟨.sli _,_,_,_⟩,.slc _ _ l=>O (.one (.int .i64 l.length), [])
     | some ⟨.str,_,_,_⟩,.str s=>O (.one (.int .i64 s.size), [])
     | _,_=>G)
   | none=>G)
 | .index t _ _, [.one (.str s),.one (.int _ i)]=>
   (match get tt t with
   | some ⟨.str,_,_,_⟩=>O (.one (.int .u8 (Kp s i)), [.idx i s.size])
   | _=>G)
 | .indexAddr t _ _, [.one (.slc tok n l),.one (.int _ i)]=>
   (match get tt t,j,KV tok with
   | some ⟨.sli e,_,_,_⟩,.row r,O tok'=>(match get tt e with
     | some ei=>bif zF ei.size n then O (.one (.rptr tok' r), [.elem l i r]) else G
     | none=>G)
   | _,_,_=>G)
 | .slice t _ lo hi G,.one (.slc tok n l)::r=>
   (match get tt t with
   | some ⟨.sli e,_,_,_⟩=>(match get tt e,S9 0 lo r with
     | some ei,O (a,r1)=>(match S9 l.length hi r1 with
       | some (b, [])=>bif zF ei.size n then O (.one (.slc (Qrz tok) n ((l.take b.toNat).drop a.toNat)), [.rng a b l.length]) else G
       | _=>G)
     | _,_=>G)
   | _=>G)
 | .slice t _ lo hi G,.one (.str s)::r=>
   (match get tt t with
   | some ⟨.str,_,_,_⟩=>(match S9 0 lo r with
     | some (a,r1)=>(match S9 s.size hi r1 with
       | some (b, [])=>O (.one (.str (s.extract a.toNat b.toNat)), [.rng a b s.size])
       | _=>G)
     | _=>G)
   | _=>G)
 | .load t _, [.one (.ptr k off)]=>
   (match get tt t,get bn k with
   | some g,O cells=>(match Qhj g ((cells.drop off).take g.size) with
     | some v=>O (v, [])
     | none=>G)
   | _,_=>G)
 | .load t _, [.one (.rptr tok cs)]=>
   (match get tt t with
   | some g=>bif yQ g.size cs.length then(match Qhj g ((cs.take g.size).map (IZ tok)) with
     | some v=>O (v, [])
     | none=>G) else G
   | none=>G)
 | _,_=>G
def Ms(l:U (U PV)):Prop:=∀r,r∈l->∀p,p∈r->p.flat
structure TiOk (P:uF) (t:S) (i:TI):Prop where
 und:∃d,P.underlying t=O d/\KU P d i.kind=uA
 eqs:Qxv P t i=uA
 info:∃inf z,P.info? t=O inf/\inf.size=i.size/\inf.bytes<=1000/\inf.zero=O z/\z.cells.size=i.size/\Du z.cells.toList i.zero=uA
theorem Qjx{P:uF}{t:S}{i:TI}(h:Qxw P t i=uA):TiOk P t i:=by
 unfold Qxw at h;split at h
 . rename_i d b hd c;simp only[zH] at h;obtain⟨⟨⟨⟨e,f⟩,g⟩,a⟩,j⟩:=h;split at a
   . rename_i z k;simp only[zH] at a;exact⟨⟨d,hd,e⟩,j,b,z,c,by simpa using f,by simpa using g,k,by simpa using a.1,a.2⟩
   cases a
 cases h
theorem Ji{P:uF}:∀{tt:U (S×TI)} {t:S} {i:TI},S6 P tt=uA->get tt t=O i->TiOk P t i
 | [],_,_,_,h=>by cases h
 | (k,a)::r,t,i,h,hg=>by
   simp only[S6,zH] at h;simp only[get] at hg;split at hg
   . rename_i b;obtain rfl:=zE hg;exact b▸Qjx h.1
   exact Ji h.2 hg
theorem TiOk.sli{P:uF}{q:U LK}{t e n:S}{z:U C}(h:TiOk P t ⟨.sli e,n,z,q⟩):P.underlying t=O (.slice e):=by
 obtain⟨d,hd,a⟩:=h.und;cases d<;>simp[KU] at a
 rw[hd,a]
theorem TiOk.str{P:uF}{q:U LK}{t n:S}{z:U C}(h:TiOk P t ⟨.str,n,z,q⟩):P.underlying t=O .string:=by
 obtain⟨d,hd,a⟩:=h.und;cases d<;>simp[KU] at a
 exact hd
theorem TiOk.bool{P:uF}{q:U LK}{t n:S}{z:U C}(h:TiOk P t ⟨.bool,n,z,q⟩):P.underlying t=O .bool:=by
 obtain⟨d,hd,a⟩:=h.und;cases d<;>simp[KU] at a
 exact hd
theorem TiOk.int{P:uF}{q:U LK}{t n:S}{k:uJ}{z:U C}(h:TiOk P t ⟨.int k,n,z,q⟩):P.underlying t=O (.int k):=by
 obtain⟨d,hd,a⟩:=h.und;cases d<;>simp[KU] at a
 rw[hd,a]
theorem TiOk.struct{P:uF}{q:U LK}{t n:S}{b:U (S×S×uB)}{z:U C}(h:TiOk P t ⟨.struct b,n,z,q⟩):∃a:uG Field,P.underlying t=O (.struct a)/\I2 P a.toList b=uA:=by
 obtain⟨d,hd,c⟩:=h.und;cases d with
 | struct a=>exact⟨a,hd,by simpa [KU] using c⟩
 | _=>simp[KU] at c
theorem TiOk.agg{P:uF}{t:S}{i:TI}(h:TiOk P t i):∃d,P.underlying t=O d/\DW d=i.agg:=by
 obtain⟨d,hd,b⟩:=h.und;refine⟨d,hd, ?_⟩;obtain⟨a,_,_,_⟩:=i;cases d<;>cases a<;>simp_all [KU,TI.agg,DW]
theorem Ik{P:uF}{t:S}{d:TypeDesc}(h:P.underlying t=O d)(w:E):(isAgg t).run P w= .ok (DW d) w:=by
 unfold isAgg;simp only[Sem.run_bind,run_underlying h,Result.andThen_ok];cases d<;>rfl
theorem YS{P:uF}:∀{gs:U Field} {fs:U (S×S×uB)} {f o sz:S} {ag:uB},I2 P gs fs=uA->fs[f]? =O (o,sz,ag)->
 ∃g a d,gs[f]? =O g/\g.offset=o/\P.info? g.type=O a/\a.size=sz/\P.underlying g.type=O d/\DW d=ag
 | [], [],_,_,_,_,_,h=>by simp at h
 | [],_::_,_,_,_,_,h,_=>by simp[I2] at h
 | _::_, [],_,_,_,_,h,_=>by simp[I2] at h
 | g :: gs,(o',sz',ag')::fs,f,o,sz,ag,h,hf=>by
   simp only[I2,zH] at h;obtain⟨⟨⟨e,b⟩,c⟩,i⟩:=h;cases f with
   | succ f=>
     obtain⟨j,a,d,k1,k⟩:=YS (gs:=gs) (fs:=fs) i (f:=f) (by simpa using hf);exact⟨j,a,d,by simpa using k1,k⟩
   | zero=>
     simp at hf;obtain⟨rfl,rfl,rfl⟩:=hf;split at b
     . rename_i a l;split at c
       . rename_i d hd;refine⟨g,a,d,rfl,by simpa using e,l,by simpa using b,hd, ?_⟩;revert c;generalize DW d=x;cases x<;>cases ag'<;>simp
       cases c
     cases b
end
section
open Go.RowKit
def Ob.holds(A:S->U AV->AV->Prop)(T:TakeT):Ob->Prop
 | .call f args r=>A f args r
 | .eq a b=>a=b
 | .elem l i r=>0<=i/\l[i.toNat]? =O r
 | .rng lo g n=>0<=lo/\lo<=g/\g<=n
 | .idx i n=>0<=i/\i<n
 | .flat l=>Ms l
 | .len n=>n<=1073741824
 | .slen n=>n<=uI
 | .nz n=>n≠0
 | .inr k n=>InR k n
 | .take f n l args d c h=>T.take f n l args d c h
 | .give f cs args r e=>T.give f cs args r e
 | .val f args r=>T.val f args r
 | .ins f n=>T.ins f n
def AllOb(A:S->U AV->AV->Prop)(T:TakeT):U Ob->Prop
 | []=>True
 | [x]=>x.holds A T
 | x::r=>x.holds A T/\AllOb A T r
theorem AllOb.cons{A:S->U AV->AV->Prop}{T:TakeT}{x:Ob}{r:U Ob}(h:AllOb A T (x::r)):x.holds A T/\AllOb A T r:=by
 cases r with
 | nil=>exact⟨h,trivial⟩
 | cons y r=>exact h
theorem AllOb.append{A:S->U AV->AV->Prop}{T:TakeT}:∀{x y:U Ob},AllOb A T (x++y)->AllOb A T x/\AllOb A T y
 | [],y,h=>⟨trivial,h⟩
 | [a],y,h=>AllOb.cons h
 | a::b::r,y,h=>by
   obtain⟨c,d⟩:=AllOb.cons h;obtain⟨e,f⟩:=AllOb.append (x:=b::r) d;exact⟨⟨c,e⟩,f⟩
section
variable {P:uF} {A:S->U AV->AV->Prop} {T:TakeT} {J:Inj} {w:E}
theorem Qs9{k:uJ}{a b:uE}(h:InR k a):InR k (Qvw k a b):=by
 have c:(0:uE)<2^(min b.toNat k.bits):=Int.pow_pos (by decide);have e:Qvw k a b=a / 2^(min b.toNat k.bits):=by unfold Qvw;exact Int.fdiv_eq_ediv_of_nonneg _ (by omega)
 rw[e];generalize(2:uE)^(min b.toNat k.bits)=p at c;have d:k.min<=0/\0<=k.max:=by cases k<;>decide
 obtain⟨f,g⟩:=h;constructor
 . by_cases ha:0<=a
   . have:=Int.ediv_nonneg ha (by omega:0<=p);omega
   have:a<=a / p:=(Int.le_ediv_iff_mul_le c).2 (by
    have:a*p<=a*1:=Int.mul_le_mul_of_nonpos_left (by omega) (by omega);omega)
   omega
 have:a / p<=k.max:=(Int.ediv_le_iff_le_mul c).2 (by
  have:k.max*1<=k.max*p:=Int.mul_le_mul_of_nonneg_left (by omega) d.2;omega)
 exact this
theorem Qta{e:BinOp}{x y c:C}{g:U Ob}{j l:I}(h:Qxz e x y=O (c,g))(d:AllOb A T g)(p:CR J w j x)(q:CR J w l y)(t:uH)(px s:Operand):
 ∃u,(do eqGuard e t px s j l;binOp e t j l:Sem I).run P w= .ok u w/\CR J w u c:=by
 unfold Qxz at h;split at h
 . rename_i k a v b;obtain⟨rfl,ha⟩:=p;obtain⟨rfl,hb⟩:=q;cases m:Qv2 e with
   | true=>
     rw[m] at h;simp only[uN] at h;cases e<;>try cases m
     by_cases i:0<=b
     . simp only[i,decide_true,uN,Option.some.injEq,Prod.mk.injEq] at h;obtain⟨rfl,rfl⟩:=h;have n:¬b<0:=by omega
       exact⟨.int k (Qvw k a b),by simp[eqGuard,binOp,Op.shift,n,Qvw],rfl,Qs9 ha⟩
     simp[i] at h
   | false=>
   rw[m] at h;simp only[uP] at h;by_cases r:k=v
   . subst r;simp only[decide_true,uN] at h;cases e<;>simp[Qrx] at h<;>obtain⟨rfl,rfl⟩:=h
     case quo=>
      have f:¬(b=0):=d;exact⟨_,by simp[eqGuard,binOp,Op.intDiv,f],rfl,YQ _ _⟩
     case rem=>
      have f:¬(b=0):=d.1;exact⟨_,by simp[eqGuard,binOp,Op.intDiv,f],rfl,d.2⟩
     case and=>exact⟨.int k (Qxx k a b),by simp[eqGuard,binOp,Op.intBits,Qxx],rfl,YQ _ _⟩
     case xor=>exact⟨.int k (Qxy k a b),by simp[eqGuard,binOp,Op.intBits,Qxy],rfl,YQ _ _⟩
     all_goals first
      | exact⟨_,by simp[eqGuard,binOp,Op.intArith],rfl,YQ _ _⟩
      | exact⟨_,by simp[eqGuard,binOp,Op.intCmp],rfl⟩
   simp[r] at h
 . rename_i a b;obtain⟨rfl,ha⟩:=p;obtain⟨rfl,hb⟩:=q;cases e<;>simp[Qry] at h<;>obtain⟨rfl,rfl⟩:=h
   case add=>
    have f:a.size+b.size<=uI:=d;have o:¬(((a.size+b.size:S):uE)>IntKind.i64.max):=by unfold uI at f;simp[IntKind.max,IntKind.bits,IntKind.signed];omega
    refine⟨.string (a++b), ?_,rfl,by simpa using f⟩;simp only[eqGuard,binOp,Op.stringOp,uK o];rfl
   all_goals exact⟨_,by simp[eqGuard,binOp,Op.stringOp],rfl⟩
 cases h
theorem Qhk{tt:U (S×TI)}(e:S6 P tt=uA){d:BinOp}{t:S}{a b:uB}{c:C}{f:U Ob}(h:Qc6 tt d t a b=O (c,f))(px i:Operand):
 ∃u,(do eqGuard d t px i (.bool a) (.bool b);binOp d t (.bool a) (.bool b):Sem I).run P w= .ok u w/\CR J w u c:=by
 unfold Qc6 at h;split at h
 . rename_i n z j;have k:=(Ji e j).bool;have g:(Op.equal t (.bool a) (.bool b)).run P w= .ok (a==b) w:=run_equalIn_bool w 9999 t a b k;cases d<;>simp at h<;>obtain⟨rfl,rfl⟩:=h
   . exact⟨_,by simp[eqGuard,binOp,g],rfl⟩
   exact⟨_,by simp[eqGuard,binOp,g],rfl⟩
 cases h
theorem A4{t:S}{a:TypeInfo}(h:P.info? t=O a)(w:E):(typeInfo t).run P w= .ok a w:=by simp[typeInfo,h]
theorem Cu{t:S}{i:TI}(h:TiOk P t i)(w:E):(sizeOf t).run P w= .ok i.size w:=by
 obtain⟨a,z,b,c,_⟩:=h.info;simp[sizeOf,A4 b,c]
theorem CV{g:TI}{t:S}(h:TiOk P t g){f:U I}{cs:U C}{v:AV}(c:All2 (CR J w) f cs)(a:Qhj g cs=O v){b off:S}(m:∀(j:S) (u:I),f[j]? =O u->w.cell? ⟨b,off+j,G⟩=O u):
 ∃u,(loadVar t ⟨b,off,G⟩).run P w= .ok u w/\AR J w u v:=by
 obtain⟨d,hd,e⟩:=h.agg;unfold Qhj at a;cases ha:g.agg with
 | true=>
   rw[ha] at a;simp only[] at a;cases l:zF cs.length g.size with
   | false=>rw[l] at a;cases a
   | true=>
     rw[l] at a;obtain rfl:=zE a;have i:f.length=g.size:=by rw[c.length];simpa using l
     have k:=run_loadCells_list (P:=P) w ⟨b,off,G⟩ f (λj u n=>by rw[Addr.add_lit];exact m j u n);refine⟨.agg f.toArray, ?_,f,rfl,c⟩;rw[i] at k;simp[loadVar,Ik hd,e,ha,Cu h,k]
 | false=>
   rw[ha] at a;simp only[] at a;split at a
   . obtain rfl:=zE a;cases c with
     | cons o p=>
       cases p
       rename_i u;refine⟨u, ?_,o⟩;have:=m 0 u rfl;rw[Nat.add_zero] at this;simp[loadVar,Ik hd,e,ha,load,Sem.run,this]
   cases a
theorem OW{tok:Tok}{X:S->Prop}(a:∀c n l,VV X w c (.slc n l)->CR J w c (.slc tok n l)){v:I}{p:PV}(h:VV X w v p):CR J w v (IZ tok p):=by
 cases p with
 | int k n=>cases h;exact⟨rfl,‹_›⟩
 | bool b=>cases h;rfl
 | str s=>cases h;exact⟨rfl,‹_›⟩
 | slc n l=>exact a v n l h
 | any=>exact trivial
 | raw u=>cases h;exact⟨rfl,‹_›,‹_›⟩
theorem Ff{vs:U I}{b off k:S}(c:∀(j:S) (u:I),vs[j]? =O u->w.cell? ⟨b,off+j,G⟩=O u):∀(j:S) (u:I),(vs.drop k)[j]? =O u->w.cell? ⟨b,off+k+j,G⟩=O u:=by
 intro j u a;rw[zZ] at a;rw[Nat.add_assoc];exact c _ u a
theorem Il{c:U I}{b off k:S}(d:∀(j:S) (u:I),c[j]? =O u->w.cell? ⟨b,off+j,G⟩=O u):∀(j:S) (u:I),(c.take k)[j]? =O u->w.cell? ⟨b,off+j,G⟩=O u:=by
 intro j u a;rw[zK] at a;split at a
 . exact d _ u a
 cases a
theorem Qo0{a tok':Tok}{n:S}{l:U (U PV)}{v:I}(h:CR J w v (.slc a n l))(c:KV a=O tok'){i:S}{r:U PV}(f:l[i]? =O r):
 ∃b off cap vs,v= .slice (O ⟨b,off,G⟩) l.length cap/\J.X tok' b/\VC (J.X tok') w vs r/\r.length=n/\∀(j:S) (u:I),vs[j]? =O u->w.cell? ⟨b,off+i*n+j,G⟩=O u:=by
 have key:∀X:S->Prop,VV X w v (.slc n l)->∃b off cap vs,v= .slice (O ⟨b,off,G⟩) l.length cap/\X b/\VC X w vs r/\r.length=n/\∀(j:S) (u:I),vs[j]? =O u->w.cell? ⟨b,off+i*n+j,G⟩=O u:=by
  intro X g;generalize e:PV.slc n l=p at g;cases g with
  | int | bool | str | any | raw=>cases e
  | emp oa x m=>cases e;simp at f
  | slc hb o q y z=>
    cases e
    obtain⟨s,t⟩:=q.get f;refine⟨_,_,_,_,rfl,hb,s,t, ?_⟩;exact Il (Ff o)
 cases a with
 | sh => obtain rfl:Tok.sh=tok':=by simpa [KV] using c
         exact key _ h
 | emp=>cases c
 | put=>cases c
 | vw k => obtain rfl:Tok.vw k=tok':=by simpa [KV] using c
           exact key _ h
 | own d k=>
   obtain rfl:Tok.vw k=tok':=by simpa [KV] using c
   cases d with
   | true=>exact key _ (OwnDeep.vv h λb hb=>⟨Or.inl hb,rfl⟩)
   | false=>exact key _ (OwnTop.vv h (λb hb=>⟨.inr hb,rfl⟩) λb hb=>⟨.inl hb,rfl⟩)
theorem KW{f:Tok}{n:S}{l:U (U PV)}{v:I}(h:CR J w v (.slc f n l)):∃oa cap,v= .slice oa l.length cap/\l.length<=cap/\cap<=uI/\(f= .emp->cap=0):=by
 have key:∀X:S->Prop,VV X w v (.slc n l)->∃oa cap,v= .slice oa l.length cap/\l.length<=cap/\cap<=uI:=by
  intro X j;generalize i:PV.slc n l=p at j;cases j with
  | int | bool | str | any | raw=>cases i
  | emp oa q g=>cases i;exact⟨oa,_,rfl,yA _,g⟩
  | slc hb r s m o=>cases i;exact⟨_,_,rfl,m,o.1⟩
 cases f with
 | sh=>obtain⟨a,b,c,d,e⟩:=key _ h;exact⟨a,b,c,d,e,by simp⟩
 | emp=>obtain⟨rfl,oa,rfl⟩:=h;exact⟨oa,0,rfl,zP _,yA _,λ_=>rfl⟩
 | vw k=>obtain⟨a,b,c,d,e⟩:=key _ h;exact⟨a,b,c,d,e,by simp⟩
 | put=>exact h.elim
 | own d k=>
   cases d with
   | true=>obtain⟨a,b,c,d,e⟩:=key (λ_=>True) (OwnDeep.vv h λb hb=>⟨trivial,rfl⟩);exact⟨a,b,c,d,e,by simp⟩
   | false=>obtain⟨a,b,c,d,e⟩:=key (λ_=>True) (OwnTop.vv h (λb hb=>⟨trivial,rfl⟩) λb hb=>⟨trivial,rfl⟩);exact⟨a,b,c,d,e,by simp⟩
theorem VV.sub{X:S->Prop}{n lo a d:S}{l:U (U PV)}{e:uC Addr}(h:VV X w (.slice e l.length d) (.slc n l))(r:lo<=a)(f:a<=l.length)(m:S)(g:a-lo<=m/\m<=uI):
 VV X w (.slice (e.map (·.add (lo*n))) (a-lo) m) (.slc n ((l.take a).drop lo)):=by
 have c:((l.take a).drop lo).length=a-lo:=by simp[Nat.min_eq_left f]
 generalize i:PV.slc n l=p at h;generalize k:Value.slice e l.length d=v at h;cases h with
 | int | bool | str | any | raw=>cases i
 | emp o q j=>
   cases i
   simp at f;subst f;have:lo=0:=by omega
   subst this;simpa using VV.emp (X:=X) (w:=w) (e.map (·.add (0*n))) n g.2
 | @slc b off cap' q cs l' hb hc hr h3 h4=>
   cases i
   cases k
   rw[←c];simp only[zY,Addr.add_lit];refine .slc (cs:=(cs.take (a*n)).drop (lo*n)) hb ?_ ((hr.take a).drop lo) (by rw[c];exact g.1) ⟨g.2,by have:=h4.2;omega⟩;exact Ff (Il hc)
end
end
section
open Go.RowKit
section
variable {P:uF} {A:S->U AV->AV->Prop} {T:TakeT} {J:Inj} {w:E}
theorem Qjy{n:S}(h:n<=uI):InR .i64 (n:uE):=by
 unfold uI at h;exact(XB _).2 ⟨by omega,by omega⟩
theorem Qo1(b:UInt8):InR .u8 (b.toNat:uE):=by
 have:=b.toNat_lt;simp[InR,IntKind.min,IntKind.max,IntKind.bits,IntKind.signed];omega
theorem OX:∀{vs:U I} {cs:U C},Du vs cs=uA->All2 (CR J w) vs cs
 | [], [],_=> .nil
 | [],_::_,h=>by simp[Du] at h
 | _::_, [],h=>by simp[Du] at h
 | v::vs,c::cs,h=>by
   simp only[Du,zH] at h;refine .cons ?_ (OX h.2);have a:=h.1;unfold KT at a;split at a
   . simp at a;obtain⟨⟨rfl,rfl⟩,rfl⟩:=a;refine⟨rfl, ?_⟩;cases ‹uJ›<;>simp[InR,IntKind.min,IntKind.max,IntKind.bits,IntKind.signed]
   . simp at a;obtain⟨rfl,rfl⟩:=a;rfl
   . rename_i s t;simp at a;obtain⟨rfl,rfl⟩:=a;exact⟨rfl,yA _⟩
   . exact⟨rfl,G,rfl⟩
   cases a
theorem EE:∀(a:U I) (o k:S) (cells:uG I),o+k+a.length<=cells.size->
 (a.zipIdx k).foldl (λcs (c,j)=>cs.setIfInBounds (o+j) c) cells=putCells cells (o+k) a
 | [],_,_,_,_=>rfl
 | u::a,o,k,cells,h=>by
   simp only[List.zipIdx_cons,List.foldl_cons,putCells];rw[EE a o (k+1) _ (by simp at h⊢;omega)];rfl
theorem B7{a:U I}{o:S}{cells:uG I}(h:o+a.length<=cells.size):(putCells cells o a).toList=cells.toList.take o++a++cells.toList.drop (o+a.length):=by
 apply yM;intro j;rw[zG];by_cases c:j<o
 . rw[M9 a o cells j (.inl c),zS,zR (by simp;omega),zK,uL c,zG]
 by_cases d:j<o+a.length
 . obtain⟨k,rfl⟩:∃k,j=o+k:=⟨j-o,by omega⟩;have b:(cells.toList.take o).length=o:=by simp;omega
   rw[JH a o cells k h (by omega),zS,zQ (by omega),b,zR (by omega)]
   congr 1
   omega
 rw[M9 a o cells j (.inr (by omega))];have b:(cells.toList.take o++a).length=o+a.length:=by simp;omega
 rw[zQ (by omega),b,zZ,zG]
 congr 1
 omega
theorem EF{v:I}{c:C}(h:CR J w v c)(q:Qv3 c=uA):v.cells= #[v]/\v.oneCell'=uA:=by
 have key:∀n l X,VV X w v (.slc n l)->v.cells= #[v]/\v.oneCell'=uA:=by
  intro n l X m;generalize PV.slc n l=p at m;cases m with
  | any e j=>exact⟨e,j⟩
  | raw e j=>exact⟨e,j⟩
  | _=>exact⟨rfl,rfl⟩
 cases c with
 | int=>obtain⟨rfl,_⟩:=h;exact⟨rfl,rfl⟩
 | bool=>obtain rfl:=h;exact⟨rfl,rfl⟩
 | str=>obtain⟨rfl,_⟩:=h;exact⟨rfl,rfl⟩
 | slc t n l=>obtain⟨oa,cap,rfl,_⟩:=KW h;exact⟨rfl,rfl⟩
 | ptr k o=>obtain rfl:=h;exact⟨rfl,rfl⟩
 | rptr t cs=>obtain⟨b,off,vs,rfl,_⟩:=h;exact⟨rfl,rfl⟩
 | ept d k n i o cs=>obtain⟨g,r,vs,_,rfl,_⟩:=h;exact⟨rfl,rfl⟩
 | fn f a=>obtain rfl:=h;exact⟨rfl,rfl⟩
 | fnr f a=>obtain⟨vs,rfl,_⟩:=h;exact⟨rfl,rfl⟩
 | raw u=>exact h.2
 | dead=>cases q
theorem XD:∀{vs:U I} {cs:U C},All2 (CR J w) vs cs->Dx cs=uA->∀u,u∈vs->u.oneCell'=uA
 | _,_,.nil,_,u,hu=>by simp at hu
 | _,_,.cons h1 h2,h,u,hu=>by
   simp only[Dx,zH] at h;rcases zX.1 hu with rfl | hu
   . exact(EF h1 h.1).2
   exact XD h2 h.2 u hu
theorem Sg{v:I}{x:AV}{cs:U C}(h:AR J w v x)(a:x.flatCells=O cs)(b:Dx cs=uA):All2 (CR J w) v.cells.toList cs:=by
 cases x with
 | one c=>
   obtain rfl: [c]=cs:=by simpa [AV.flatCells] using a
   simp only[Dx,Bool.and_true] at b;have:=(EF (v:=v) (c:=c) h b).1;rw[this];exact .cons h .nil
 | agg l=>
   obtain rfl:l=cs:=by simpa [AV.flatCells] using a
   obtain⟨vs,rfl,d⟩:=h;exact d
 | tup l=>cases a
theorem Qtb(a:S->uC (S×S)){q:U (S×S×uB)}(r:∀i o sz g,q[i]? =O (o,sz,g)->a i=O (o,sz)):
 ∀(l:U (S×AV)) (vs:U I) (cells:uG I) (cs cs':U C),All2 (CR J w) cells.toList cs->All2 (λv p=>AR J w v p.2) vs l->Qjv q cs l=O cs'->
   ∃b,Instr.fill a cells ((l.map (·.1)).zip vs)=O b/\All2 (CR J w) b.toList cs':=by
 intro l
 induction l with
 | nil=>
   intro vs cells cs cs' e j h;cases j
   obtain rfl:cs=cs':=by simpa [Qjv] using h
   exact⟨cells,rfl,e⟩
 | cons p l s=>
   intro vs cells cs cs' e j h;obtain⟨i,x⟩:=p;cases j with
   | cons t u=>
     rename_i v vs;simp only[Qjv] at h;split at h
     . rename_i o sz g k y hy;cases hb:(zF k.length sz&&yQ (o+sz) cs.length&&Dx k) with
       | false=>rw[hb] at h;cases h
       | true=>
         rw[hb] at h;simp only[zH,Nat.beq_eq,Nat.ble_eq] at hb;obtain⟨⟨e1,e2⟩,e3⟩:=hb;have f:=Sg t hy e3;have hn:v.cells.size=sz:=by have:=f.length;simp at this;omega
         have m:=e.length;simp at m;have c:=EE v.cells.toList o 0 cells (by simp;omega)
         have d:v.cells.zipIdx.foldl (λcs x=>cs.setIfInBounds (o+x.2) x.1) cells=putCells cells o v.cells.toList:=by
          rw[Nat.add_zero] at c;rw[←c,←Array.foldl_toList];simp
         have n:All2 (CR J w) (putCells cells o v.cells.toList).toList (cs.take o++k++cs.drop (o+sz)):=by
          rw[B7 (by simp;omega)];refine((e.take o).append f).append ?_;rw[show o+v.cells.toList.length=o+sz by simp;omega];exact e.drop _
         obtain⟨b,ho,ha⟩:=s vs _ _ cs' n u h;refine⟨b, ?_,ha⟩;simp only[yN,List.zip_cons_cons,Instr.fill,r i o sz g y];rw[uK (by simp[hn];omega)];exact(uO (λz=>Instr.fill a z _) d).trans ho
     cases h
theorem Ta:∀{ls:U LK} {xs ys:U C} {b:uB},D7 ls xs ys=O b->xs.length=ls.length/\ys.length=ls.length
 | [], [], [],_,_=>⟨rfl,rfl⟩
 | [], [],_::_,_,h=>by cases h
 | [],_::_,_,_,h=>by cases h
 | _::_, [],_,_,h=>by cases h
 | _::_,_::_, [],_,h=>by cases h
 | l::ls,x::xs,y::ys,b,h=>by
   simp only[D7] at h;split at h
   . rename_i c a;have:=Ta a;exact⟨by simp[this.1],by simp[this.2]⟩
   cases h
theorem EG:∀{ls a:U LK} {xs ys:U C} {b:uB},D7 (ls++a) xs ys=O b->∃p q,D7 ls (xs.take ls.length) (ys.take ls.length)=O p/\D7 a (xs.drop ls.length) (ys.drop ls.length)=O q/\b=(p&&q)
 | [],a,xs,ys,b,h=>⟨uA,b,by simp[D7],by simpa using h,rfl⟩
 | l::ls,a, [],ys,b,h=>by cases h
 | l::ls,a,x::xs, [],b,h=>by cases h
 | l::ls,a,x::xs,y::ys,b,h=>by
   simp only[List.cons_append,D7] at h;split at h
   . rename_i p0 g c d;obtain rfl:=zE h;obtain⟨p,q,e,f,rfl⟩:=EG d;exact⟨p0&&p,q,by simp[D7,c,e],by simpa using f,by rw[Bool.and_assoc]⟩
   cases h
def asV(P:uF)(t:S)(a:U I):I:=match P.underlying t with
 | some (.struct _)=> .agg a.toArray
 | _=>a.headD undef
theorem JL{t:S}{a:TypeDesc}(h:P.underlying t=O a)(b:DW a=uD)(v:I):asV P t [v]=v:=by
 unfold asV;rw[h];cases a<;>first | rfl | cases b
theorem Qjz{f :S->uC (U LK)}{d:S}(hf:∀t l,f t=O l->∀{vs us:U I} {xs ys:U C} {b:uB},All2 (CR J w) vs xs->All2 (CR J w) us ys->D7 l xs ys=O b->(Op.equalIn d t (asV P t vs) (asV P t us)).run P w= .ok b w)
 (hk:∀t l,f t=O l->(∃fs,P.underlying t=O (.struct fs))\/(l.length=1/\∃dd,P.underlying t=O dd/\DW dd=uD)):∀(gs:U Field) (off:S) (l:U LK),Qv1 P f gs off=O l->∀{VS US:U I} {xs ys:U C} {b:uB},All2 (CR J w) (VS.drop off) xs->All2 (CR J w) (US.drop off) ys->
  D7 l xs ys=O b->(Op.eqFields d VS.toArray US.toArray gs).run P w= .ok b w
 | [],off,l,h,VS,US,xs,ys,b,h1,h2,he=>by
   obtain rfl: []=l:=by simpa [Qv1] using h
   have hl:=Ta he;obtain rfl:xs= []:=zT (by simpa using hl.1);obtain rfl:ys= []:=zT (by simpa using hl.2);obtain rfl:uA=b:=by simpa [D7] using he
   simp[Op.eqFields]
 | g :: gs, off,l,h,VS,US,xs,ys,b,h1,h2,he=>by
   simp only [Qv1] at h;cases hn : decide (g.name = "_") with
   | true=>rw[hn] at h;cases h
   | false =>
     rw[hn] at h;cases hb:zF g.offset off with
     | false=>rw[hb] at h;cases h
     | true =>
       rw[hb] at h;simp only[uN,uP] at h;have hoff:g.offset=off:=by simpa using hb
       split at h
       . rename_i l1 inf hsz hi;cases hc:(zF inf.size l1.length&&Nat.blt 0 l1.length) with
         | false=>rw[hc] at h;cases h
         | true =>
           rw[hc] at h;simp only[zH,Nat.beq_eq,Nat.blt_eq] at hc;obtain⟨hc1,hc2⟩:=hc;simp only[uN] at h;split at h
           . rename_i m hm;obtain rfl:=zE h;obtain⟨p,q,e1,e2,rfl⟩:=EG he;have hle:=Ta he;have hlv:=h1.length;have hlu:=h2.length;simp only[List.length_drop,List.length_append] at hlv hlu hle;have r1:=hf g.type l1 hsz (h1.take l1.length) (h2.take l1.length) e1;have hd1:All2 (CR J w) (VS.drop (off+l1.length)) (xs.drop l1.length):=by rw[←yV];exact h1.drop _
             have hd2:All2 (CR J w) (US.drop (off+l1.length)) (ys.drop l1.length):=by rw[←yV];exact h2.drop _
             have r2:=Qjz hf hk gs (off+l1.length) m hm hd1 hd2 e2
             have hpart:∀(VS:U I),off+l1.length<=VS.length->(part g.type VS.toArray g.offset).run P w= .ok (asV P g.type ((VS.drop off).take l1.length)) w:=by
              intro VS hV;rw[hoff];rcases hk g.type l1 hsz with⟨fs,hfs⟩ | ⟨h1l,dd,hdd,hag⟩
              . unfold part asV;rw[hfs];simp only[Sem.run_bind,Ik hfs,Result.andThen_ok,DW];simp[sizeOf,A4 hi,hc1,List.take_drop,yC]
              have hh:VS[off]? =O VS[off]:=zD (by omega)
              have hv:asV P g.type ((VS.drop off).take l1.length)=VS[off]:=by
               rw[h1l,yK (by omega)];exact JL hdd hag _
              unfold part;simp only[Sem.run_bind,Ik hdd,Result.andThen_ok,hag];rw[hv];simp[hh]
             have hn' : ¬ g.name = "_" := by simpa using hn
             simp only[Op.eqFields,ne_eq,hn',not_false_eq_true,if_true,Sem.run_bind,hpart VS (by omega),hpart US (by omega),Result.andThen_ok,r1];cases p
             . simp
             simp[r2]
           cases h
       cases h
theorem Qc7:∀{n t:S} {l:U LK},MG P n t=O l->(∃fs,P.underlying t=O (.struct fs))\/(l.length=1/\∃b,P.underlying t=O b/\DW b=uD)
 | 0,t,l,h=>by cases h
 | n+1,t,l,h=>by
   simp only[MG] at h;split at h
   . rename_i a;obtain rfl:=zE h;exact .inr ⟨rfl,_,a,rfl⟩
   . rename_i a;obtain rfl:=zE h;exact .inr ⟨rfl,_,a,rfl⟩
   . rename_i a;obtain rfl:=zE h;exact .inr ⟨rfl,_,a,rfl⟩
   . rename_i a;exact .inl ⟨_,a⟩
   cases h
theorem OY{l:LK}{g h:U I}{c d:U C}{b:uB}(i:All2 (CR J w) g c)(j:All2 (CR J w) h d)(a:D7 [l] c d=O b):∃x y v u,g= [v]/\h= [u]/\CR J w v x/\CR J w u y/\DX l x y=O b:=by
 have k:=Ta a
 match c,d,k with
 | [x], [y],_=>
   cases i with
   | cons m e=>
     cases e
     cases j with
     | cons n f=>
       cases f
       refine⟨x,y,_,_,rfl,rfl,m,n, ?_⟩;simp only[D7] at a;split at a
       . rename_i p q o r;obtain rfl:uA=q:=by simpa using r
         rw[o];simpa using a
       cases a
theorem Qhl{x y:C}{b:uB}(h:DX .int x y=O b):∃k a c,x= .int k a/\y= .int k c/\(a==c)=b:=by
 cases x with
 | int k a=>cases y with
   | int e c=>
     by_cases d:k=e
     . subst d;simp only[DX,decide_true,uN,Option.some.injEq] at h;exact⟨k,a,c,rfl,rfl,h⟩
     simp[DX,d] at h
   | _=>cases h
 | _=>cases h
theorem Qc8{x y:C}{b:uB}(h:DX .bool x y=O b):∃a c,x= .bool a/\y= .bool c/\(a==c)=b:=by
 cases x with
 | bool a=>cases y with
   | bool c=>exact⟨a,c,rfl,rfl,zE h⟩
   | _=>cases h
 | _=>cases h
theorem Qhm{x y:C}{b:uB}(h:DX .str x y=O b):∃a c,x= .str a/\y= .str c/\(a.toList==c.toList)=b:=by
 cases x with
 | str a=>cases y with
   | str c=>exact⟨a,c,rfl,rfl,zE h⟩
   | _=>cases h
 | _=>cases h
theorem TE:∀(n t:S) (l:U LK),MG P n t=O l->∀(d:S),n<=d->∀{vs j:U I} {q r:U C} {b:uB},All2 (CR J w) vs q->All2 (CR J w) j r->D7 l q r=O b->(Op.equalIn d t (asV P t vs) (asV P t j)).run P w= .ok b w
 | 0,t,l,h=>by cases h
 | n + 1,t,l,h=>by
   intro d hd vs j q r b m o p;obtain⟨d,rfl⟩:∃k,d=k+1:=⟨d-1,by omega⟩;simp only[MG] at h;split at h
   . rename_i k c;obtain rfl:=zE h;obtain⟨x,y,v,u,rfl,rfl,e,f,g⟩:=OY m o p;rw[JL c rfl,JL c rfl];obtain⟨k1,a,s,rfl,rfl,rfl⟩:=Qhl g;obtain⟨rfl,_⟩:=e;obtain⟨rfl,_⟩:=f;exact run_equalIn_int w d t k1 k a s c
   . rename_i c;obtain rfl:=zE h;obtain⟨x,y,v,u,rfl,rfl,e,f,g⟩:=OY m o p;rw[JL c rfl,JL c rfl];obtain⟨a,s,rfl,rfl,rfl⟩:=Qc8 g;obtain rfl:=e;obtain rfl:=f;exact run_equalIn_bool w d t _ _ c
   . rename_i c;obtain rfl:=zE h;obtain⟨x,y,v,u,rfl,rfl,e,f,g⟩:=OY m o p;rw[JL c rfl,JL c rfl];obtain⟨a,s,rfl,rfl,rfl⟩:=Qhm g;obtain⟨rfl,_⟩:=e;obtain⟨rfl,_⟩:=f;exact run_equalIn_string w d t _ _ c
   . rename_i fs c;cases z:P.stoodInHeld t with
     | true=>rw[z] at h;cases h
     | false=>
       rw[z] at h;simp only[uP] at h;have i:P.fieldsOf t=fs:=by unfold Program.fieldsOf;rw[c]
       have ev:∀vs,asV P t vs= .agg vs.toArray:=λvs=>by unfold asV;rw[c]
       rw[ev,ev,run_equalIn_agg w d t _ _ (by rw[i];exact c) z,i];exact Qjz (λt' l' h'=>TE n t' l' h' d (by omega)) (λt' l' h'=>Qc7 h') fs.toList 0 l h (VS:=vs) (US:=j) (by simpa using m) (by simpa using o) p
   cases h
theorem TF:∀{l m:U LK},MH l m=uA->l=m
 | [], [],_=>rfl
 | [],_::_,h=>by cases h
 | x::_, [],h=>by cases x<;>cases h
 | x::l,y::m,h=>by
   cases x<;>cases y<;>simp only[MH] at h<;>first | cases h | rw[TF h]
theorem Qc9{t:S}{i:TI}(a:TiOk P t i){x:LK}{d:U LK}(k:i.eq=x::d)(e:BinOp)(px f:Operand){vs us:U I}{xs ys:U C}{b:uB}(l:All2 (CR J w) vs xs)(n:All2 (CR J w) us ys)(o:D7 (x::d) xs ys=O b):
 (eqGuard e t px f (.agg vs.toArray) (.agg us.toArray)).run P w= .ok () w/\(Op.equalIn 10000 t (.agg vs.toArray) (.agg us.toArray)).run P w= .ok b w:=by
 have h:=a.eqs;unfold Qxv at h;rw[k] at h;simp only[zH,Bool.not_eq_true'] at h;obtain⟨⟨p,g⟩,c⟩:=h;refine⟨run_eqGuard_agg w e t px f _ _ p, ?_⟩;split at g
 . rename_i fs q;split at c
   . rename_i m r;have:=TF c;have j:∀vs,asV P t vs= .agg vs.toArray:=λvs=>by unfold asV;rw[q]
     rw[←j,←j];exact TE 9 t m r 10000 (by decide) l n (by rw[←this];exact o)
   cases c
 cases g
end
end
section
open Go.RowKit
section
variable {P:uF} {A:S->U AV->AV->Prop} {T:TakeT} {J:Inj} {w:E}
theorem YT{Y:BoundsCode}{lo:uE}{y:S}{k:uJ}(a:0<=lo)(b:lo<=y):(Instr.sliceBound (.int k lo) y Y).run P w= .ok lo.toNat w:=by
 simp[Instr.sliceBound,asIntOf,a,b]
theorem Oz{ρ:Operand->I}{d:uE}{lo:uC Operand}{r r':U AV}{a:uE}{c:U Operand}(h:S9 d lo r=O (a,r'))(b:All2 (λx v=>AR J w (ρ x) v) (lo.toArray.toList++c) r):
 All2 (λx v=>AR J w (ρ x) v) c r'/\((lo=G/\a=d)\/∃x k,lo=O x/\ρ x= .int k a):=by
 unfold S9 at h;split at h
 . obtain⟨rfl,rfl⟩:_=a/\_=r':=by simpa using h
   exact⟨by simpa using b,.inl ⟨rfl,rfl⟩⟩
 . obtain⟨rfl,rfl⟩:_=a/\_=r':=by simpa using h
   simp only[Option.toArray,List.cons_append,List.nil_append] at b;cases b with
   | cons e f=>exact⟨f,.inr ⟨_,_,rfl,e.1⟩⟩
 cases h
set_option maxHeartbeats 2000000 in
theorem Qo2{tt :U (S×TI)}(a2:S6 P tt=uA){bj:Orc}{bn:U (S×U C)}{op:Op}{avs:U AV}{v:AV}{obs:U Ob}(h:Qjw tt bj bn op avs=O (v,obs))(af:AllOb A T obs)
 {o:Oper} (ho:o.op=op) {ρ:Operand->I} (hf:∀f,ρ (.func f)= .func (.func f) #[] #[]) (hv:All2 (λx v=>AR J w (ρ x) v) op.operands.toList avs)
 (bk:∀k c,get bn k=O c->∃ah e,w.heap[J.B k]? =O (.cells ah e (0,0))/\All2 (CR J w) ah.toList c):
 ∃u,(execOp ρ o).run P w= .ok (.value u) w/\AR J w u v:=by
 unfold Qjw at h;split at h
 ·rename_i x v';obtain⟨rfl,rfl⟩:v'=v/\ []=obs:=by simpa using h
  cases hv with
  | cons h1 _=>exact⟨_,by simp[execOp,ho],h1⟩
 ·rename_i x v';obtain⟨rfl,rfl⟩:v'=v/\ []=obs:=by simpa using h
  cases hv with
  | cons h1 _=>exact⟨_,by simp[execOp,ho],h1⟩
 ·rename_i xc xa xb c a b;obtain⟨rfl,rfl⟩:(bif c then a else b)=v/\ []=obs:=by simpa using h
  cases hv with
  | cons h1 h2=>
    cases h2 with
    | cons h2 h3=>
      cases h3 with
      | cons h3 _=>
        have h1:ρ xc= .bool c:=h1;refine⟨if c then ρ xa else ρ xb,by simp[execOp,ho,h1,asBool], ?_⟩;cases c
        . exact h3
        exact h2
 ·rename_i op t px py ty x y;cases hv with
  | cons h1 h2=>
    cases h2 with
    | cons h2 _=>
      split at h
      . rename_i c ai hb;obtain⟨rfl,rfl⟩:AV.one c=v/\ai=obs:=by simpa using h
        obtain⟨u,hu,hc⟩:=Qta (P:=P) hb af h1 h2 t px py;exact⟨u,by simp only[execOp,ho,Sem.run_bind,hu] at hu⊢;simp[hu],hc⟩
      split at h
      . rename_i a b _;split at h
        . rename_i c ai hb;obtain⟨rfl,rfl⟩:AV.one c=v/\ai=obs:=by simpa using h
          have m:ρ px= .bool a:=h1;have e2:ρ py= .bool b:=h2;obtain⟨u,hu,hc⟩:=Qhk (J:=J) (w:=w) a2 hb px py;exact⟨u,by simp only[execOp,ho,m,e2,Sem.run_bind] at hu⊢;simp[hu],hc⟩
        cases h
      cases h
 ·rename_i op t px py ty xs ys;cases hv with
  | cons h1 h2=>
    cases h2 with
    | cons h2 _=>
      obtain⟨vs,m,a7⟩:=h1;obtain⟨us,e2,b6⟩:=h2;split at h
      . rename_i k0 n0 z0 l0 c2 hg;have b7:=λ{vs us:U I} {xs ys:U C} {b:uB} h1 h2 h3=>Qc9 (P:=P) (J:=J) (w:=w) (vs:=vs) (us:=us) (xs:=xs) (ys:=ys) (b:=b) (Ji a2 hg) rfl op px py h1 h2 h3
        split at h
        . rename_i b hb;obtain⟨rfl,rfl⟩:AV.one (.bool b)=v/\ []=obs:=by simpa using h
          obtain⟨g,hr⟩:=b7 a7 b6 hb;exact⟨.bool b,by simp[execOp,ho,m,e2,g,run_eql_struct,hr,Result.andThen],rfl⟩
        . rename_i b hb;obtain⟨rfl,rfl⟩:AV.one (.bool (!b))=v/\ []=obs:=by simpa using h
          obtain⟨g,hr⟩:=b7 a7 b6 hb;exact⟨.bool (!b),by simp[execOp,ho,m,e2,g,run_neq_struct,hr,Result.andThen],rfl⟩
        cases h
      cases h
 ·rename_i op t px x;cases hv with
  | cons h1 _=>
    split at h
    . rename_i b;obtain⟨rfl,rfl⟩:AV.one (.bool (!b))=v/\ []=obs:=by simpa using h
      have m:ρ px= .bool b:=h1;exact⟨_,by simp[execOp,ho,m,Op.unary],rfl⟩
    . rename_i k n;obtain⟨rfl,rfl⟩:AV.one (.int k (k.wrap (0-n)))=v/\ []=obs:=by simpa using h
      have m:ρ px= .int k n:=h1.1;exact⟨.int k (k.wrap (0-n)),by simp[execOp,ho,m,Op.unary,Op.intArith],rfl,YQ _ _⟩
    cases h
 ·rename_i t px f cs;cases hv with
  | cons h1 _=>
    obtain⟨vs,m,a7⟩:=h1
    have ad:∀o sz ag,N7 tt t f=O (o,sz,ag)->∃gs g a5 d,P.underlying t=O (.struct gs)/\gs[f]? =O g/\g.offset=o/\P.info? g.type=O a5/\a5.size=sz/\P.underlying g.type=O d/\DW d=ag:=by
     intro o sz ag a3;unfold N7 at a3;split at a3
     . rename_i fs n z hg;obtain⟨gs,hu,a9⟩:=(Ji a2 hg).struct;obtain⟨g,a5,d,k1,k2⟩:=YS a9 a3;exact⟨gs,g,a5,d,hu,by simpa using k1,k2⟩
     cases a3
    split at h
    . rename_i o' sz a3;obtain⟨gs,g,a5,d,hu,hg,rfl,hi,rfl,hd,aj⟩:=ad _ _ _ a3;cases ak:yQ (g.offset+a5.size) cs.length with
      | false=>rw[ak] at h;cases h
      | true=>
        rw[ak] at h;obtain⟨rfl,rfl⟩:AV.agg _=v/\ []=obs:=by simpa using h
        refine⟨.agg (vs.toArray.extract g.offset (g.offset+a5.size)), ?_,(vs.drop g.offset).take a5.size, ?_,(a7.drop _).take _⟩
        . simp[execOp,ho,m,Instr.field,run_underlying hu,hg,asAgg,part,Ik hd,aj,sizeOf,A4 hi]
        simp[List.take_drop,yC]
    . rename_i o' sz a3;obtain⟨gs,g,a5,d,hu,hg,rfl,hi,rfl,hd,aj⟩:=ad _ _ _ a3;split at h
      . rename_i c hc;obtain⟨rfl,rfl⟩:AV.one c=v/\ []=obs:=by simpa using h
        obtain⟨u,bm,al⟩:=a7.get' hc;exact⟨u,by simp[execOp,ho,m,Instr.field,run_underlying hu,hg,asAgg,part,Ik hd,aj,bm],al⟩
      cases h
    cases h
 ·rename_i px i l;cases hv with
  | cons h1 _=>
    obtain⟨vs,m,a7⟩:=h1;split at h
    . rename_i cs hc;obtain⟨rfl,rfl⟩:AV.agg cs=v/\ []=obs:=by simpa using h
      obtain⟨u,hu,al⟩:=a7.get' hc;exact⟨u,by simp[execOp,ho,m,Instr.extract,hu],al⟩
    . rename_i c hc;obtain⟨rfl,rfl⟩:AV.one c=v/\ []=obs:=by simpa using h
      obtain⟨u,hu,c',e,al⟩:=a7.get' hc;obtain rfl:c=c':=by simpa using e
      exact⟨u,by simp[execOp,ho,m,Instr.extract,hu],al⟩
    cases h
 ·rename_i t px f k off;cases hv with
  | cons h1 _=>
    have m:ρ px= .pointer (O ⟨J.B k,off,G⟩):=h1;split at h
    . rename_i o' sz ag a3;cases hz:zF sz 0 with
      | true=>rw[hz] at h;cases h
      | false=>
        rw[hz] at h;obtain⟨rfl,rfl⟩:AV.one (.ptr k (off+o'))=v/\ []=obs:=by simpa using h
        unfold N7 at a3;split at a3
        . rename_i fs n z hg;obtain⟨gs,hu,a9⟩:=(Ji a2 hg).struct;obtain⟨g,a5,d,k1,rfl,hi,rfl,hd,aj⟩:=YS a9 a3;have ax:gs[f]? =O g:=by simpa using k1
          refine⟨.pointer (O ⟨J.B k,off+g.offset,G⟩), ?_,rfl⟩;have a1:a5.size≠0:=λe=>by rw[e] at hz;cases hz
          simp[execOp,ho,m,Instr.fieldAt,run_underlying hu,ax,Instr.sureAddr,fieldPlace,sizeOf,A4 hi,a1,Addr.add_lit]
        cases a3
    cases h
 ·rename_i t px f a6 cs;cases hv with
  | cons h1 _=>
    obtain⟨b,off,vs,m,hb,a7,hc⟩:=h1;split at h
    . rename_i o' sz ag a3;cases hz:zF sz 0 with
      | true=>rw[hz] at h;cases h
      | false=>
        rw[hz] at h;obtain⟨rfl,rfl⟩:AV.one (.rptr a6 (cs.drop o'))=v/\ []=obs:=by simpa using h
        unfold N7 at a3;split at a3
        . rename_i fs n z hg;obtain⟨gs,hu,a9⟩:=(Ji a2 hg).struct;obtain⟨g,a5,d,k1,rfl,hi,rfl,hd,aj⟩:=YS a9 a3;have ax:gs[f]? =O g:=by simpa using k1
          refine⟨.pointer (O ⟨b,off+g.offset,G⟩), ?_,b,off+g.offset,vs.drop g.offset,rfl,hb,a7.drop _,Ff hc⟩;have a1:a5.size≠0:=λe=>by rw[e] at hz;cases hz
          simp[execOp,ho,m,Instr.fieldAt,run_underlying hu,ax,Instr.sureAddr,fieldPlace,sizeOf,A4 hi,a1,Addr.add_lit]
        cases a3
    cases h
 ·rename_i px k off;obtain⟨rfl,rfl⟩:AV.one (.ptr k off)=v/\ []=obs:=by simpa using h
  cases hv with
  | cons h1 _=>
    have m:ρ px= .pointer (O ⟨J.B k,off,G⟩):=h1;exact⟨_,by simp[execOp,ho,m],rfl⟩
 . rename_i px t cs;obtain⟨rfl,rfl⟩:AV.one (.rptr t cs)=v/\ []=obs:=by simpa using h
   cases hv with
   | cons h1 _=>
     obtain⟨b,off,vs,m,hr⟩:=h1;exact⟨_,by simp[execOp,ho,m],b,off,vs,rfl,hr⟩
 ·rename_i t ps;split at h
  . rename_i fs n zero q hg;cases a1:zF ps.size avs.length with
    | false=>rw[a1] at h;cases h
    | true =>
      rw[a1] at h;simp only[uN] at h;split at h
      . rename_i cs am;obtain⟨rfl,rfl⟩:AV.agg cs=v/\ []=obs:=by simpa using h
        have b8:=Ji a2 hg;obtain⟨gs,hu,a9⟩:=b8.struct;obtain⟨a5,z,hi,_,_,hz,c3,bp⟩:=b8.info
        have b9:All2 (λv p=>AR J w v p.2) (ps.toList.map λp=>ρ p.2) ((ps.toList.map (·.1)).zip avs):=by
         have a4:All2 (λx v=>AR J w (ρ x) v) (ps.toList.map (·.2)) avs:=by simpa [Op.operands] using hv
         clear hv a1 am h;generalize ps.toList=l at a4⊢
         induction l generalizing avs with
         | nil=>cases a4;exact .nil
         | cons p l ih=>
           cases a4 with
           | cons h1 h2=>exact .cons h1 (ih h2)
        have an:∀(i o sz:S) (ag:uB),fs[i]? =O (o,sz,ag)->((fs.map λx=>(x.1,x.2.1)).toArray)[i]? =O (o,sz):=by
         intro i o sz ag bq;simp[bq]
        obtain⟨out,ba,a8⟩:=Qtb (J:=J) (w:=w) (λi=>((fs.map λx=>(x.1,x.2.1)).toArray)[i]?) an _ _ z.cells zero cs (OX bp) b9 am
        have br:∀(gs:U Field) (fs:U (S×S×uB)),I2 P gs fs=uA->gs.mapM (λf=>(P.info? f.type).map λi=>(f.offset,i.size))=O (fs.map λx=>(x.1,x.2.1)):=by
         intro gs
         induction gs with
         | nil=>intro fs h;cases fs<;>simp_all [I2]
         | cons g gs ih=>
           intro fs h;cases fs with
           | nil=>simp[I2] at h
           | cons x fs=>
             have h':=h;simp only[I2,zH] at h';obtain⟨g',bz,d',k1,k2,k3,k4,_⟩:=YS (f:=0) (o:=x.1) (sz:=x.2.1) (ag:=x.2.2) h rfl;obtain rfl:g=g':=by simpa using k1
             simp[k3,k2,k4,ih fs h'.2]
        have hb:P.built t (ps.toList.map λp=>(p.1,ρ p.2))=O out:=by
         have bb:(((ps.toList.map (·.1)).zip avs).map (·.1)).zip (ps.toList.map λp=>ρ p.2)=ps.toList.map λp=>(p.1,ρ p.2):=by
          have hl:ps.toList.length=avs.length:=by simpa using a1
          rw[List.map_fst_zip (by simp[hl])];generalize ps.toList=l
          induction l with
          | nil=>rfl
          | cons p l ih=>simp[ih]
         rw[bb] at ba;simp only[Program.built,hi,hu,hz,br _ _ a9];exact ba
        refine⟨.agg out, ?_,out.toList,by simp,a8⟩;have:=run_build w t (ps.map λp=>(p.1,ρ p.2)) out (by simpa using hb);simp[execOp,ho,this]
      cases h
  cases h
 ·rename_i f first av;cases a1:zF first.size 0 with
  | false=>rw[a1] at h;cases h
  | true =>
    rw[a1] at h;simp only[uN] at h;have bs:first= #[]:=Array.eq_empty_of_size_eq_zero (by simpa using a1);subst bs;split at h
    . rename_i aa hp;obtain⟨rfl,rfl⟩:AV.one (.fn f aa)=v/\ []=obs:=by simpa using h
      have key:∀(xs:U Operand) (avs:U AV) (aa:U (S×S)),All2 (λx v=>AR J w (ρ x) v) xs avs->DY avs=O aa->xs.map ρ=aa.map λc=> .pointer (O ⟨J.B c.1,c.2,G⟩):=by
       intro xs avs aa hv
       induction hv generalizing aa with
       | nil=>intro h;simp[DY] at h;subst h;rfl
       | cons h1 _ ih=>
         intro h;unfold DY at h;split at h
         . rename_i e;cases e
         . rename_i e;cases e
           obtain⟨r,hr,rfl⟩:=zO.1 h;simp only[yN,ih r hr];rw[show _=_ from h1]
         cases h
      have hx:=key av.toList avs aa (by simpa [Op.operands] using hv) hp;refine⟨.func (.func f) #[] (av.map ρ),by simp[execOp,ho,Instr.makeFunc], ?_⟩;show _=_;rw[←hx,←Array.toList_map]
    cases h
 ·rename_i s d px k0 n;split at h
  . rename_i i0 k z1 z2 q hs hd;obtain⟨rfl,rfl⟩:AV.one (.int k (k.wrap n))=v/\ []=obs:=by simpa using h
    cases hv with
    | cons h1 _=>
      obtain⟨m,_⟩:=h1;obtain⟨d',bt,_⟩:=(Ji a2 hs).und;have hk:=(Ji a2 hd).int;exact⟨.int k (k.wrap n),by simp[execOp,ho,m,convert,run_underlying bt,run_underlying hk,Conv.intToInt],rfl,YQ _ _⟩
  cases h
 ·rename_i args c4 x;split at h
  . rename_i t ht;split at h
    . rename_i i0 n z q a6 n' l hg;obtain⟨rfl,rfl⟩:AV.one (.int .i64 l.length)=v/\ []=obs:=by simpa using h
      cases a4:args.toList with
      | nil=>simp[Op.operands,Call.operands,a4] at hv;cases hv
      | cons a0 r0=>
        simp[Op.operands,Call.operands,a4] at hv;cases hv with
        | cons h1 h2=>
          cases h2
          have ab:args= #[a0]:=by apply Array.ext';simpa using a4
          subst ab;obtain⟨oa,cap,m,bc,bd,_⟩:=KW h1;have hu:=(Ji a2 hg).sli;refine⟨.int .i64 l.length, ?_,rfl,Qjy (yB bc bd)⟩;simp[execOp,ho,resolve,invoke,builtin,Builtin.len_,ht,m,run_underlying hu,goInt]
    . rename_i i0 n z q s hg;obtain⟨rfl,rfl⟩:AV.one (.int .i64 s.size)=v/\ []=obs:=by simpa using h
      cases a4:args.toList with
      | nil=>simp[Op.operands,Call.operands,a4] at hv;cases hv
      | cons a0 r0=>
        simp[Op.operands,Call.operands,a4] at hv;cases hv with
        | cons h1 h2=>
          cases h2
          have ab:args= #[a0]:=by apply Array.ext';simpa using a4
          subst ab;obtain⟨m,hs⟩:=h1;have hu:=(Ji a2 hg).str;refine⟨.int .i64 s.size, ?_,rfl,Qjy hs⟩;simp[execOp,ho,resolve,invoke,builtin,Builtin.len_,ht,m,run_underlying hu,goInt]
    cases h
  cases h
 ·rename_i t px pi s k i;split at h
  . rename_i n z hg;obtain⟨rfl,rfl⟩:AV.one (.int .u8 (Kp s i))=v/\ [Ob.idx i s.size]=obs:=by simpa using h
    have hu:=(Ji a2 hg).str;obtain⟨h0,bu⟩:0<=i/\i<s.size:=af;cases hv with
    | cons h1 h2=>
      cases h2 with
      | cons h2 _=>
        obtain⟨m,_⟩:=h1;obtain⟨e2,_⟩:=h2;have ae:i.toNat<s.size:=by omega
        have aw:Kp s i=(s[i.toNat].toNat:uE):=by
         have hl:i.toNat<s.data.toList.length:=by simpa using ae
         simp only[Kp,List.getD_eq_getElem?_getD,zD hl];rfl
        refine⟨.int .u8 (Kp s i), ?_,rfl,by rw[aw];exact Qo1 _⟩;rw[aw];simp[execOp,ho,m,e2,Instr.index,asIntOf,run_underlying hu,h0,ae]
  cases h
 ·rename_i t px pi a6 n l k i;split at h
  . rename_i e n' z q r be hg bv;split at h
    . rename_i ei ay;cases a1:zF ei.size n with
      | false=>rw[a1] at h;cases h
      | true =>
        rw[a1] at h;obtain⟨rfl,rfl⟩:AV.one (.rptr be r)=v/\ [Ob.elem l i r]=obs:=by simpa using h
        obtain⟨h0,hl⟩:0<=i/\l[i.toNat]? =O r:=af;have hu:=(Ji a2 hg).sli;have hs:=Cu (P:=P) (Ji a2 ay) w;have hn:ei.size=n:=by simpa using a1
        cases hv with
        | cons h1 h2=>
          cases h2 with
          | cons h2 _=>
            obtain⟨e2,_⟩:=h2;obtain⟨b,off,cap,vs,m,hX,az,c5,hc⟩:=Qo0 h1 bv hl;have bu:i.toNat<l.length:=(zN.1 hl).1;have ae:i<(l.length:uE):=by omega
            refine⟨.pointer (O ⟨b,off+i.toNat*n,G⟩), ?_,b,off+i.toNat*n,vs,rfl,hX,az,hc⟩;simp[execOp,ho,m,e2,Instr.indexAt,asIntOf,run_underlying hu,h0,ae,hs,hn,Addr.add_lit]
    cases h
  cases h
 ·rename_i t px lo hi a6 n l r;split at h
  . rename_i e n' z q hg;split at h
    . rename_i ei a r1 ay b1;split at h
      . rename_i b b2;cases a1:zF ei.size n with
        | false=>rw[a1] at h;cases h
        | true =>
          rw[a1] at h;obtain⟨rfl,rfl⟩:AV.one (.slc (Qrz a6) n ((l.take b.toNat).drop a.toNat))=v/\ [Ob.rng a b l.length]=obs:=by simpa using h
          obtain⟨h0,hab,hbl⟩:0<=a/\a<=b/\b<=l.length:=af;have hu:=(Ji a2 hg).sli;have hs:=Cu (P:=P) (Ji a2 ay) w;have hn:ei.size=n:=by simpa using a1
          have a4:All2 (λx v=>AR J w (ρ x) v) (px::(lo.toArray.toList++(hi.toArray.toList++ []))) (.one (.slc a6 n l)::r):=by simpa [Op.operands] using hv
          cases a4 with
          | cons h1 h2=>
            obtain⟨h3,ao⟩:=Oz b1 h2;obtain⟨_,ap⟩:=Oz b2 h3;obtain⟨oa,cap,m,bc,bd,bf⟩:=KW h1
            have b3:(Instr.sliceBounds uA l.length cap (lo.map ρ) (hi.map ρ) G).run P w= .ok (a.toNat,b.toNat,cap) w:=by
             have e3:∀c,(match (hi.map ρ) with | some v=>Instr.sliceBound v cap c | none=>(pure l.length:Sem S)).run P w= .ok b.toNat w:=by
              intro c;rcases ap with⟨rfl,rfl⟩ | ⟨x,k,rfl,hx⟩
              . simp
              simp only[zY,hx];exact YT (by omega) (by omega)
             have e4:∀c,(match (lo.map ρ) with | some v=>Instr.sliceBound v b.toNat c | none=>(pure 0:Sem S)).run P w= .ok a.toNat w:=by
              intro c;rcases ao with⟨rfl,rfl⟩ | ⟨x,k,rfl,hx⟩
              . simp
              simp only[zY,hx];exact YT (by omega) (by omega)
             unfold Instr.sliceBounds;simp only[Sem.run_bind,Sem.run_pure,Result.andThen_ok];have aq:=e3 .sliceAcap;have ar:=e4 .sliceB;revert aq ar;cases lo.map ρ<;>cases hi.map ρ<;>simp<;>intro aq ar<;>simp_all
            have bg:(execOp ρ o).run P w= .ok (.value (.slice (if cap=a.toNat then oa else oa.map (·.add (a.toNat*n))) (b.toNat-a.toNat) (cap-a.toNat))) w:=by
             simp[execOp,ho,m,Instr.sliceAt,run_underlying hu,Instr.slice,b3,hs,hn]
            refine⟨_,bg, ?_⟩;have c1:((l.take b.toNat).drop a.toNat).length=b.toNat-a.toNat:=by simp;omega
            have key:∀X:S->Prop,VV X w (ρ px) (.slc n l)->VV X w (.slice (if cap=a.toNat then oa else oa.map (·.add (a.toNat*n))) (b.toNat-a.toNat) (cap-a.toNat)) (.slc n ((l.take b.toNat).drop a.toNat)):=by
             intro X hX;by_cases bh:cap=a.toNat
             . rw[uL bh];have h9:b.toNat-a.toNat=0:=by omega
               have bw:(l.take b.toNat).drop a.toNat= []:=zT (by omega);rw[h9,bw];exact .emp _ n (by omega)
             rw[uK bh];rw[m] at hX;exact hX.sub (by omega) (by omega) _ ⟨by omega,by omega⟩
            cases a6 with
            | sh=>exact key _ h1
            | put=>exact h1.elim
            | vw k=>exact key _ h1
            | emp=>
              have bx:=bf rfl;obtain⟨hl,_⟩:=h1;subst hl;refine⟨by simp,if cap=a.toNat then oa else oa.map (·.add (a.toNat*n)), ?_⟩;have h9:b.toNat-a.toNat=0:=by simp at hbl;omega
              rw[h9,bx];simp
            | own d k=>
              cases d with
              | true=>exact key _ (OwnDeep.vv h1 λb hb=>⟨Or.inl hb,rfl⟩)
              | false=>exact key _ (OwnTop.vv h1 (λb hb=>⟨.inr hb,rfl⟩) λb hb=>⟨.inl hb,rfl⟩)
      cases h
    cases h
  cases h
 ·rename_i t px lo hi s r;split at h
  . rename_i n' z hg;split at h
    . rename_i a r1 b1;split at h
      . rename_i b b2;obtain⟨rfl,rfl⟩:AV.one (.str (s.extract a.toNat b.toNat))=v/\ [Ob.rng a b s.size]=obs:=by simpa using h
        obtain⟨h0,hab,hbl⟩:0<=a/\a<=b/\b<=s.size:=af;have hu:=(Ji a2 hg).str;have a4:All2 (λx v=>AR J w (ρ x) v) (px::(lo.toArray.toList++(hi.toArray.toList++ []))) (.one (.str s)::r):=by simpa [Op.operands] using hv
        cases a4 with
        | cons h1 h2=>
          obtain⟨h3,ao⟩:=Oz b1 h2;obtain⟨_,ap⟩:=Oz b2 h3;obtain⟨m,c6⟩:=h1
          have b3:(Instr.sliceBounds uD s.size s.size (lo.map ρ) (hi.map ρ) G).run P w= .ok (a.toNat,b.toNat,s.size) w:=by
           have e3:∀c,(match (hi.map ρ) with | some v=>Instr.sliceBound v s.size c | none=>(pure s.size:Sem S)).run P w= .ok b.toNat w:=by
            intro c;rcases ap with⟨rfl,rfl⟩ | ⟨x,k,rfl,hx⟩
            . simp
            simp only[zY,hx];exact YT (by omega) (by omega)
           have e4:∀c,(match (lo.map ρ) with | some v=>Instr.sliceBound v b.toNat c | none=>(pure 0:Sem S)).run P w= .ok a.toNat w:=by
            intro c;rcases ao with⟨rfl,rfl⟩ | ⟨x,k,rfl,hx⟩
            . simp
            simp only[zY,hx];exact YT (by omega) (by omega)
           unfold Instr.sliceBounds;simp only[Sem.run_bind,Sem.run_pure,Result.andThen_ok];have aq:=e3 .sliceAlen;have ar:=e4 .sliceB;revert aq ar;cases lo.map ρ<;>cases hi.map ρ<;>simp<;>intro aq ar<;>simp_all
          refine⟨.string (s.extract a.toNat b.toNat), ?_,rfl, ?_⟩
          . simp[execOp,ho,m,Instr.sliceAt,run_underlying hu,Instr.slice,b3]
          simp only[ByteArray.size_extract];omega
      cases h
    cases h
  cases h
 ·rename_i t px k off;split at h
  . rename_i ti cells hg hk;split at h
    . rename_i v' au;obtain⟨rfl,rfl⟩:v'=v/\ []=obs:=by simpa using h
      cases hv with
      | cons h1 _=>
        have m:ρ px= .pointer (O ⟨J.B k,off,G⟩):=h1;obtain⟨ah,e,b4,a8⟩:=bk k cells hk
        have hc:∀(j:S) (u:I),((ah.toList.drop off).take ti.size)[j]? =O u->w.cell? ⟨J.B k,off+j,G⟩=O u:=by
         have:=Il (k:=ti.size) (Ff (w:=w) (vs:=ah.toList) (b:=J.B k) (off:=0) (k:=off) (λj u hj=>by
          rw[zG] at hj;simp[World.cell?,b4,hj]))
         simpa using this
        obtain⟨u,hu,hr⟩:=CV (P:=P) (Ji a2 hg) ((a8.drop off).take ti.size) au hc;exact⟨u,by simp[execOp,ho,m,Instr.loadAt,Instr.sureAddr,hu],hr⟩
    cases h
  cases h
 ·rename_i t px a6 cs;split at h
  . rename_i ti hg;cases ak:yQ ti.size cs.length with
    | false=>rw[ak] at h;cases h
    | true =>
      rw[ak] at h;simp only[uN] at h;split at h
      . rename_i v' au;obtain⟨rfl,rfl⟩:v'=v/\ []=obs:=by simpa using h
        cases hv with
        | cons h1 _=>
          obtain⟨b,off,vs,m,hX,az,hc⟩:=h1
          have b5:∀v p,VV (J.X a6) w v p->CR J w v (IZ a6 p):=by
           intro v p hp;refine OW (X:=J.X a6) (λc n l hc=>?_) hp;cases a6 with
           | sh=>exact hc
           | vw k=>exact hc
           | emp=>exact hX.elim
           | put=>exact hX.elim
           | own d k=>exact hX.elim
          have a8:All2 (CR J w) (vs.take ti.size) ((cs.take ti.size).map (IZ a6)):=(VC.all2 (az.take ti.size)).map (IZ a6) λa p _ hp=>b5 a p hp
          obtain⟨u,hu,hr⟩:=CV (P:=P) (Ji a2 hg) a8 au (Il hc);exact⟨u,by simp[execOp,ho,m,Instr.loadAt,Instr.sureAddr,hu],hr⟩
      cases h
  cases h
 cases h
end
end
section
open Go.RowKit Go.ChangeShapes Go.WideShapes
open GoD (rd own)
def Opens(P:uF)(t:uH)(α:Type)[GoD α]:Prop:=
 P.cellsOf t=GoD.n α/\0<GoD.n α/\∀{H:Type} {enc:uH×I->H} {w:E} {base:S} {spare:S->uB} {held:uB} {fuel:S} {cs:U I} {x:DataW H×U MemPlace},
  DataW.trod enc P w base spare held fuel t cs=O x->∃a:α,rd w cs a
def OpensFs(P:uF)(b:U Field)(off:S)(α:Type)[GoD α]:Prop:=
 0 <GoD.n α/\∀{H:Type} {enc:uH×I->H} {w:E} {base:S} {spare:S->uB} {held:uB} {fuel:S} {cs:U I},
   (∀f,f∈b->∃x,DataW.trod enc P w base spare held fuel f.type ((cs.drop f.offset).take (P.cellsOf f.type))=O x)->∃a:α,rd w ((cs.drop off).take (GoD.n α)) a
section
variable {P:uF} {t e:uH}
theorem Opens.int(a:P.underlying t=O (.int .i64))(b:P.cellsOf t=1):Opens P t uE:=by
 refine⟨b,yH,λh=>?_⟩;obtain⟨n,rfl,_,hw⟩:=DataW.trod_int a h;refine⟨n,rfl, ?_⟩;simp only[Lit.wf,zH,uQ] at hw;exact hw
theorem Opens.bool(a:P.underlying t=O .bool)(c:P.cellsOf t=1):Opens P t uB:=by
 refine⟨c,yH,λh=>?_⟩;obtain⟨b,rfl,_⟩:=DataW.trod_bool a h;exact⟨b,rfl⟩
theorem Opens.str(a:P.underlying t=O .string)(b:P.cellsOf t=1):Opens P t uM:=by
 refine⟨b,yH,λh=>?_⟩;obtain⟨s,rfl,_,c⟩:=DataW.trod_string a h;exact⟨s,rfl,c⟩
theorem OpensFs.one{f:Field}{off:S}{α:Type}[GoD α](b:f.offset=off)(h:Opens P f.type α):OpensFs P [f] off α:=by
 refine⟨h.2.1,λc=>?_⟩;obtain⟨x,a⟩:=c f (by simp);rw[b,h.1] at a;exact h.2.2 a
theorem OpensFs.cons{f:Field}{c:U Field}{off:S}{α β:Type}[GoD α][GoD β](i:f.offset=off)(h:Opens P f.type α)(k:OpensFs P c (off+GoD.n α) β):OpensFs P (f::c) off (α×β):=by
 refine⟨Nat.lt_of_lt_of_le h.2.1 (Nat.le_add_right _ _),λd=>?_⟩;obtain⟨x,e⟩:=d f (by simp);rw[i,h.1] at e;obtain⟨a,ha⟩:=h.2.2 e;obtain⟨b,hb⟩:=k.2 (λg j=>d g (by simp[j]));refine⟨(a,b),_,_, ?_,ha,hb⟩;rw[←yV];exact List.take_add
theorem Opens.struct{b:uG Field}{α:Type}[GoD α](e:P.underlying t=O (.struct b))(g:P.cellsOf t=GoD.n α)(h:OpensFs P b.toList 0 α):Opens P t α:=by
 refine⟨g,h.1,λ{H enc w base spare held fuel cs x} hx=>?_⟩;obtain⟨j,n,_,_,o,d,k⟩:=DataW.trod_struct e hx
 obtain⟨a,ha⟩:=h.2 (enc:=enc) (w:=w) (base:=base) (spare:=spare) (held:=held) (fuel:=n) (cs:=cs) (λf l=>by
  obtain⟨i,m,rfl⟩:=yI l;have c:i<b.size:=by simpa using m
  refine⟨j[i]'(by omega), ?_⟩;rw[k i b.toList[i] (by simp[c]),zD (by omega)])
 refine⟨a, ?_⟩;rw[List.drop_zero,List.take_of_length_le (by omega)] at ha;exact ha
theorem Opens.slice{α:Type}[GoD α](ht:P.underlying t=O (.slice e))(hc:P.cellsOf t=1)(h:Opens P e α):Opens P t (U α):=by
 refine⟨hc,yH,λ{H enc w base spare held fuel cs x} f=>?_⟩;rcases Deep.open_slice ht f with⟨rfl,_⟩ | ⟨a,len,cap,m,n,D,Pl,rfl,hb,hl,hm,a1,rfl,a2⟩
 . exact⟨[],G,0,rfl,zP _,yA _,by simp⟩
 have a6:len<=m:=by rw[a1];split<;>omega
 have a3:∀i,i<len->∃x:α,∃ce,ce.length=GoD.n α/\(∀j,j<GoD.n α->w.cell? ((a.add (i*GoD.n α)).add j)=ce[j]?)/\rd w ce x:=λi hi=>by
  obtain⟨ce,z,h2⟩:=a2 i (by omega);obtain⟨x,f⟩:=h.2.2 h2;rw[h.1] at z;obtain⟨_,s,g⟩:=World.cells?_some z;exact⟨x,ce,s,g,f⟩
 have a4:∀k,k<=len->∃l:U α,l.length=k/\∀i x,l[i]? =O x->∃ce,ce.length=GoD.n α/\(∀j,j<GoD.n α->w.cell? ((a.add (i*GoD.n α)).add j)=ce[j]?)/\rd w ce x:=by
  intro k
  induction k with
  | zero=>intro _;exact⟨[],rfl,by simp⟩
  | succ k ih=>
    intro hk;obtain⟨l,c,d⟩:=ih (by omega);obtain⟨x,f⟩:=a3 k (by omega);refine⟨l++ [x],by simp[c],λi y o=>?_⟩;rcases yS i l.length with hi | hi
    . rw[zR hi] at o;exact d i y o
    rw[zQ hi] at o
    have:i=l.length:=by
     rcases yS (i-l.length) 1 with h' | h'
     . omega
     rw[yD (by simpa using h')] at o;cases o
    subst this;rw[Nat.sub_self] at o;obtain rfl:x=y:=by simpa using o
    rw[c];exact f
 obtain⟨l,c,d⟩:=a4 len (zP _);refine⟨l,O a,cap,by rw[c],by omega,hm,λi x f=>?_⟩;obtain⟨ce,z,h2,h3⟩:=d i x f;have hn:=h.2.1
 obtain⟨x0,V⟩:∃x0,l[0]? =O x0:=by
  cases l with
  | nil=>simp at f
  | cons y ys=>exact⟨y,rfl⟩
 obtain⟨c0,k1,k2,_⟩:=d 0 x0 V;have h0:=k2 0 hn;rw[zD (by omega)] at h0;have p:=World.cell?_spot h0
 have q:a.spot=G:=by
  rw[Deep.add_add] at p;unfold Addr.add at p;simpa using p
 obtain⟨b,off,u⟩:=a;obtain rfl:u=G:=q;refine⟨b,off,ce,rfl,z,λj v hj=>?_,h3⟩
 have a5:j<GoD.n α:=by
  rcases yS j ce.length with h' | h'
  . omega
  rw[yD h'] at hj;cases hj
 have r:=h2 j a5;rw[hj] at r;rw[Deep.add_add] at r;rw[←r];unfold Addr.add;by_cases hz:i*GoD.n α+j=0
 . simp[show i*GoD.n α=0 by omega,show j=0 by omega]
 rw[uK hz,Nat.add_assoc]
end
section
variable {P:uF} {w:E} {r:Reach} {b0:S} {t:uH} {v:I} {H:Type} {enc:uH×I->H} {base:S} {spare:S->uB} {held:uB} {d:DataW H} {ps:U MemPlace} {α:Type} [GoD α]
theorem Qj0{b:uG Field}(e:P.underlying t=O (.struct b))(g:Opens P t α)(i:Value.okWide P w r b0 t v)(h:DataW.Trod enc P w base spare held t v d ps):∃(c:U I) (a:α),v= .agg c.toArray/\rd w c a:=by
 obtain⟨cs,rfl,_⟩:=okWide_struct e i;obtain⟨f,j⟩:=h;obtain⟨a,ha⟩:=g.2.2 j;exact⟨cs.toList,a,by simp,by simpa [Value.cells] using ha⟩
theorem Qo3{e:uH}(b:P.underlying t=O (.slice e))(g:Opens P t α)(i:Value.okWide P w r b0 t v)(h:DataW.Trod enc P w base spare held t v d ps):∃(a:α),rd w [v] a:=by
 obtain⟨x,l,c,rfl⟩:=okWide_slice b i;obtain⟨f,j⟩:=h;obtain⟨a,ha⟩:=g.2.2 j;exact⟨a,by simpa [Value.cells] using ha⟩
theorem Qv4(b:P.underlying t=O (.int .i64))(c:P.cellsOf t=1)(e:Value.okWide P w r b0 t v)(h:DataW.Trod enc P w base spare held t v d ps):∃(a:uE),v= .int .i64 a/\I64 a:=by
 obtain⟨n,rfl⟩:=okWide_int b e;obtain⟨f,g⟩:=h;obtain⟨a,ha,i⟩:=(Opens.int b c).2.2 g;refine⟨n,rfl, ?_⟩;have:n=a:=by simpa [Value.cells] using ha
 rw[this];exact i
theorem OZ(h:DataW.Trod enc P w base spare held t v d ps):∀x∈ps,x.block<w.heap.size:=by
 obtain⟨m,a⟩:=h;exact DataW.trod_lt m _ _ _ a
end
end
section
open Go
set_option maxRecDepth 100000
set_option maxHeartbeats 20000000
theorem Qo4 : Tryz.prog.laidByTextLater [("math/bits.deBruijn32tab", Rows.laid_math_bits_deBruijn32tab), ("math/bits.deBruijn64tab", Rows.laid_math_bits_deBruijn64tab), ("internal/strconv.uint64pow10", Rows.laid_internal_strconv_uint64pow10), ("unicode/utf8.acceptRanges", Rows.laid_unicode_utf8_acceptRanges), ("strconv.ErrRange", Rows.laid_strconv_ErrRange), ("strconv.ErrSyntax", Rows.laid_strconv_ErrSyntax), ("unicode.White_Space", Rows.laid_unicode_White_Space), ("strings.asciiSpace", Rows.laid_strings_asciiSpace)] [.data, .data, .data, .data, .sentinel, .sentinel, .listed, .data] true :=
 Program.laidByTextLater_by_one 96 8 257 (by as_aux_lemma=>kernel_rfl) (by as_aux_lemma=>kernel_rfl) (by as_aux_lemma=>kernel_rfl) (by as_aux_lemma=>kernel_rfl) (by as_aux_lemma=>kernel_rfl) (by as_aux_lemma=>kernel_rfl) (λ_ _=>by kernel_rfl)
theorem O9 : Tryz.pinned.checked.prog.pinnedFits "unicode/utf8.first" = true := by as_aux_lemma => kernel_rfl
theorem Qda : Tryz.pinned.checked.prog.headLifts.contains "ownunsafe" = false := by as_aux_lemma => kernel_rfl
end
section
open Go
set_option maxRecDepth 100000
set_option maxHeartbeats 20000000
theorem tie : Tryz.prog.laidByTextLater [("math/bits.deBruijn32tab", Rows.laid_math_bits_deBruijn32tab), ("math/bits.deBruijn64tab", Rows.laid_math_bits_deBruijn64tab), ("internal/strconv.uint64pow10", Rows.laid_internal_strconv_uint64pow10), ("unicode/utf8.acceptRanges", Rows.laid_unicode_utf8_acceptRanges), ("strconv.ErrRange", Rows.laid_strconv_ErrRange), ("strconv.ErrSyntax", Rows.laid_strconv_ErrSyntax), ("unicode.White_Space", Rows.laid_unicode_White_Space), ("strings.asciiSpace", Rows.laid_strings_asciiSpace)] [.data, .data, .data, .data, .sentinel, .sentinel, .listed, .data] true :=
 Program.laidByTextLater.sub Qo4 ["math/bits.deBruijn32tab", "math/bits.deBruijn64tab", "internal/strconv.uint64pow10", "unicode/utf8.acceptRanges", "strconv.ErrRange", "strconv.ErrSyntax", "unicode.White_Space", "strings.asciiSpace"] (by as_aux_lemma => kernel_rfl) (by as_aux_lemma => kernel_rfl)
theorem Qj1{P:uF}{a:U (String×DataW Unit)}(h:a.all (λx=>x.2.funcsIn?.isNone)=uA):P.funcsFit a=uA:=by
 unfold Program.funcsFit;rw[List.all_eq_true] at h⊢;intro x b;have:=h x b;rw[Option.isNone_iff_eq_none] at this;rw[this]
theorem Qx0 : Tryz.pinned.checked.prog.listedFits [("math/bits.deBruijn32tab", Rows.laid_math_bits_deBruijn32tab), ("math/bits.deBruijn64tab", Rows.laid_math_bits_deBruijn64tab), ("internal/strconv.uint64pow10", Rows.laid_internal_strconv_uint64pow10), ("unicode/utf8.acceptRanges", Rows.laid_unicode_utf8_acceptRanges), ("strconv.ErrRange", Rows.laid_strconv_ErrRange), ("strconv.ErrSyntax", Rows.laid_strconv_ErrSyntax), ("unicode.White_Space", Rows.laid_unicode_White_Space), ("strings.asciiSpace", Rows.laid_strings_asciiSpace), ("unicode/utf8.first", Rows.laid_unicode_utf8_first)] = true := by
 unfold Program.listedFits;rw[Qda,Qj1 (by as_aux_lemma=>kernel_rfl)];rfl
theorem Rv:Rows.fnExactCommitSizeRow.laidByTextAt .later Tryz.pinned [.data,.data,.data,.data,.sentinel,.sentinel,.listed,.data,.pinned] uA:=
 OpenClaim.laidByTextAt_pinned rfl rfl tie rfl rfl rfl rfl (λy b a=>by
  simp only[Rows.fnExactCommitSizeRow,List.zip_cons_cons,List.zip_nil_right,zX,List.mem_nil_iff,or_false] at b;rcases b with rfl | rfl | rfl | rfl | rfl | rfl | rfl | rfl | rfl
  . cases a
  . cases a
  . cases a
  . cases a
  . cases a
  . cases a
  . cases a
  . cases a
  exact⟨O9,by as_aux_lemma=>kernel_rfl⟩) Qx0
end
section
open Go.RowKit Go.Sort
def Ext(w w':E):Prop:=Below w.heap.size w w'
theorem Ext.refl(w:E):Ext w w:=Below.refl _ _
theorem Ext.trans{a b c:E}(h:Ext a b)(k:Ext b c):Ext a c:=M8 h k
section
variable {P:uF} {ops:uG Oper} {Q:Exit->Act->E->Prop} {md:Region.Mode}
def YieldsE(P:uF)(b:uG Oper)(o:Oper)(v:I)(a:Act)(w:E):Prop:=
 (Region.wanted o (yielded b a.tmps)=uA/\∀w',Ext w w'->(execOp a.eval o).run P w'= .ok (.value v) w')\/
 (Region.wanted o (yielded b a.tmps)=uD/\v=undef)
theorem YieldsE.later{o:Oper}{v:I}{a:Act}{w w':E}(c:YieldsE P ops o v a w)(h:Ext w w'):YieldsE P ops o v a w':=by
 rcases c with⟨h1,d⟩ | h1
 . exact .inl ⟨h1,λb e=>d b (h.trans e)⟩
 exact .inr h1
theorem YieldsE.wpOp{i:S}{o:Oper}{v:I}{a:Act}{w:E}(b:ops[i]? =O o)(c:YieldsE P ops o v a w){K:Act->E->Prop}(h:K (a.put o.dst v) w):wpOp P ops Q i K a w:=by
 unfold Go.wpOp;simp only[b];rcases c with⟨hw,d⟩ | ⟨hw,rfl⟩
 . simp only[hw,if_true,Oper.wp,d w (Ext.refl w),Oper.upon];exact .inl h
 simp only[hw,Bool.false_eq_true,if_false];exact h
def Closed(c:Region.Mode)(b:uG Oper)(a:uG uB):Prop:=∀k o,b[k]? =O o->a.getD k uD=uA->∀e∈o.after,Region.binds c e=uA->a.getD e.on uD=uA
theorem Closed.set{a:uG uB}(j:Closed md ops a){i:S}(l:i∈Region.ready md ops a):Closed md ops (a.setIfInBounds i uA):=by
 have mono:∀k,a.getD k uD=uA->(a.setIfInBounds i uA).getD k uD=uA:=λk c=>by
  by_cases b:i=k
  . subst b;rcases yS i a.size with h' | h'
    . simp[h']
    simp[Array.getElem?_eq_none h'] at c
  rw[getD_set_ne uD b];exact c
 intro k o g c e h hb;by_cases b:i=k
 . subst b;obtain⟨_,o',d,f⟩:=mem_ready.1 l;rw[g] at d;obtain rfl:o=o':=by simpa using d
   exact mono _ (f e h hb)
 rw[getD_set_ne uD b] at c;exact mono _ (j k o g c e h hb)
def Same(b:S->Tmp)(H:U S)(a c:Act):Prop:=c.defers=a.defers/\c.tmps.size=a.tmps.size/\∀t,(∀i∈H,b i≠t)->c.tmps[t]? =a.tmps[t]?
theorem Same.eval{b:S->Tmp}{H:U S}{a c:Act}(h:Same b H a c)(t:Tmp)(d:∀i∈H,b i≠t):c.tmps.getD t undef=a.tmps.getD t undef:=by
 simp[yJ,h.2.2 t d]
structure ForkOk (P:uF) (ops:uG Oper) (Q:Exit->Act->E->Prop) (md:Region.Mode) (H:U S) (dst:S->Tmp) (dep:S->U S) (R:S->I->U S->E->Prop) (a:Act) (W:E):Prop where
 nd:(H.map dst).Nodup
 lt:∀i∈H,dst i<a.tmps.size
 dep_ok:∀i∈H,∀j∈dep i,j∈H/\∃o e,ops[i]? =O o/\e∈o.after/\Region.binds md e=uA/\e.on=j
 stable:∀i∈H,∀v L w w',R i v L w->Ext w w'->R i v L w'
 run:∀i∈H,∃o,ops[i]? =O o/\o.dst=O (dst i)/\∀a' w,Same dst H a a'->Ext W w->(∀j∈dep i,∃v L,a'.tmps.getD (dst j) undef=v/\R j v L w)->
  Region.wanted o (yielded ops a'.tmps)=uA/\∀K:Act->E->Prop,(∀v L w',Ext w w'->R i v L w'->(∀b∈L,w.heap.size<=b/\b<w'.heap.size)->K (a'.put (O (dst i)) v) w')->o.wp P a' w K Q
structure ForkInv (dst:S->Tmp) (H:U S) (R:S->I->U S->E->Prop) (a:Act) (W:E) (D:U S) (v:S->I) (Ls:S->U S) (a':Act) (w:E):Prop where
 same:Same dst H a a'
 ext:Ext W w
 val:∀i∈D,a'.tmps[dst i]? =O (v i)
 rel:∀i∈D,R i (v i) (Ls i) w
 bd:∀i∈D,∀b∈Ls i,W.heap.size<=b/\b<w.heap.size
 dis:∀i∈D,∀j∈D,i≠j->∀b∈Ls i,b∉Ls j
inductive Pl where
 | look (i:S)
 | step (i:S)
 | free (i:S)
 | fork (H:U S)
def Pl.len:U Pl->S
 | []=>0
 | .fork H::r=>Pl.len r+H.length
 | _::r=>Pl.len r+1
end
end
end Go.Proofs.YtlipbhahenojhaaGreatDoor
