/- Texts of this proof, put together by a program: LYrc, MYrc. -/
import Derived.Test.YtkdnkiggkgakmaaGreatDoorP7
import Derived.KernelRfl
import Derived.Outline
set_option linter.unusedVariables false
set_option linter.unusedSimpArgs false
namespace Go.Proofs.YtkdnkiggkgakmaaGreatDoor
open _root_ renaming List → uA, Int → uC, Nat → uD
open _root_.Bool renaming true → y, false → uB
open _root_.Go.Proofs.Tryz renaming prog → uE
open _root_.Go.Proofs.Tryz
open _root_.Nat renaming le_trans → zD
open Go.RowKit
open GoE (enc wide)
theorem Qep(a:Jy)(left:uC)(b:0<=left)(d:left<=1048576):ACalls uE 4 [Aj a,Qmu left] (Qmu (szI (GoD.size a) left)):=Qej (by unfold Fr;kernel_rfl) b d λw c e=>FC w c a left e b d
def QG(a:Y4):Y4:=a
theorem LF(a:Y4):ACalls uE 157 [.a [.s a.1,.i a.2]] (.a [.s ((QG a).1),.i ((QG a).2)]):=by
 refine en func157 λ_ _ _=>sn [1,2] [1,2] p0 ?_
 exact tn [1,2,3] [1,2,3] p0<|tu [(1,.p 1 0),(2,.p 2 0),(3,.p 3 0)] [0] [(1, [.s a.1,.i a.2]),(2, [.s ⟨#[]⟩,.i 0]),(3, [.s a.1,.i 0])] [] p0<|sn [2,3] [2,3] p0<|tn [2] [2] p0<|Qc<|pz [] (show QG a=a from rfl) (λz=> .a [.s z.1,.i z.2])
theorem Qi8(a:Y4):ACalls uE 157 [Aj a] (R9 a):=LF a
theorem Qeq(l:uA Y4):ACalls uE 112 [.h l] (LM l):=toS default Zx func112 7 (λa=> [(6,.val (R9 a))]) (λa=> [.call 157 [Aj a] (R9 a)]) (λ_ _ a _ _=>pc 6 (Qi8 a)) l
def Ox(a:Va):Va:=a
theorem LG(a:Va):ACalls uE 248 [.a [.i a.1,.i a.2.1,.s a.2.2]] (.a [.i ((Ox a).1),.i ((Ox a).2.1),.s ((Ox a).2.2)]):=by
 refine en func248 λ_ _ _=>sn [1,2] [1,2] p0 ?_
 exact tn [1,2,3] [1,2,3] p0<|tu [(1,.p 1 0),(2,.p 2 0),(3,.p 3 0)] [0] [(1, [.i a.1,.i a.2.1,.s a.2.2]),(2, [.i 0,.i 0,.s ⟨#[]⟩]),(3, [.i a.1,.i 0,.s ⟨#[]⟩])] [] p0<|sn [1,2,3] [1,2,3] p0<|tn [2,3] [2,3] p0<|tu [] [1,3] [(2, [.i a.1,.i a.2.1,.s a.2.2])] [1,2,3] p0<|Qc<|pz [] (show Ox a=a from rfl) (λz=> .a [.i z.1,.i z.2.1,.s z.2.2])
theorem RD(a:Va):ACalls uE 248 [Aj a] (R9 a):=LG a
def Np(a:Wv):Wv:=a
theorem RE(a:Wv):ACalls uE 247 [.a [.s a.1,.i a.2.1,.i a.2.2.1,.s a.2.2.2]] (.a [.s ((Np a).1),.i ((Np a).2.1),.i ((Np a).2.2.1),.s ((Np a).2.2.2)]):=by
 refine en func247 λ_ _ _=>sn [1,2] [1,2] p0 ?_
 exact tn [1,2,3] [1,2,3] p0<|tu [(1,.p 1 0),(2,.p 2 0),(3,.p 3 0)] [0] [(1, [.s a.1,.i a.2.1,.i a.2.2.1,.s a.2.2.2]),(2, [.s ⟨#[]⟩,.i 0,.i 0,.s ⟨#[]⟩]),(3, [.s a.1,.i 0,.i 0,.s ⟨#[]⟩])] [] p0<|sn [2,3] [2,3] (pc 2 (RD a.2) p0)<|tn [2] [2] p0<|Qc<|pz [] (show Np a=a from rfl) (λz=> .a [.s z.1,.i z.2.1,.i z.2.2.1,.s z.2.2.2])
theorem Ql4(a:Wv):ACalls uE 247 [Aj a] (R9 a):=RE a
theorem Qi9(l:uA Wv):ACalls uE 198 [.h l] (LM l):=toS default Zx func198 7 (λa=> [(6,.val (R9 a))]) (λa=> [.call 247 [Aj a] (R9 a)]) (λ_ _ a _ _=>pc 6 (Ql4 a)) l
def I7(a:Yn):Yn:=a
theorem RF(a:Yn):ACalls uE 158 [.a [.i a.1,.i a.2.1,.b a.2.2.1,.i a.2.2.2.1,.h a.2.2.2.2]] (.a [.i ((I7 a).1),.i ((I7 a).2.1),.b ((I7 a).2.2.1),.i ((I7 a).2.2.2.1),.o 0 ((I7 a).2.2.2.2)]):=by
 refine en func158 λ_ _ _=>sn [1,2] [1,2] p0 ?_
 exact tn [1,2,3] [1,2,3] p0<|tu [(1,.p 1 0),(2,.p 2 0),(3,.p 3 0)] [0] [(1, [.i a.1,.i a.2.1,.b a.2.2.1,.i a.2.2.2.1,.h a.2.2.2.2]),(2, [.i 0,.i 0,.b uB,.i 0,.e 4]),(3, [.i a.1,.i 0,.b uB,.i 0,.e 4])] [] p0<|sn [1,2,3] [1,2,3] p0<|tn [1,2,3] [1,2,3] p0<|tu [] [] [(3, [.i a.1,.i a.2.1,.b a.2.2.1,.i a.2.2.2.1,.e 4])] [3] p0<|sn [2,3] [2,3] (pc 2 (Qi9 a.2.2.2.2) p0)<|tn [2] [2] p0<|Qc<|pz [] (show I7 a=a from rfl) (λz=> .a [.i z.1,.i z.2.1,.b z.2.2.1,.i z.2.2.2.1,.o 0 z.2.2.2.2])
theorem Ql5(a:Yn):ACalls uE 158 [Aj a] (R9 a):=RF a
theorem Qja(l:uA Yn):ACalls uE 113 [.h l] (LM l):=toS default Zx func113 7 (λa=> [(6,.val (R9 a))]) (λa=> [.call 158 [Aj a] (R9 a)]) (λ_ _ a _ _=>pc 6 (Ql5 a)) l
def Oy(a:Yl):Yl:=a
theorem LH(a:Yl):ACalls uE 61 [.a [.h a.1,.h a.2.1,.i a.2.2]] (.a [.o 0 ((Oy a).1),.o 1 ((Oy a).2.1),.i ((Oy a).2.2)]):=by
 refine en func61 λ_ _ _=>sn [1,2] [1,2] p0 ?_
 exact tn [1,2,3] [1,2,3] p0<|tu [(1,.p 1 0),(2,.p 2 0),(3,.p 3 0)] [0] [(1, [.h a.1,.h a.2.1,.i a.2.2]),(2, [.e 2,.e 5,.i 0]),(3, [.o 384 a.1,.e 5,.i 0])] [] (pc 2 (Qeq a.1) p0)<|sn [1,2,3] [1,2,3] (pc 2 (Qja a.2.1) p0)<|tn [2,3] [2,3] p0<|tu [] [1,3] [(2, [.o 384 a.1,.o 640 a.2.1,.i a.2.2])] [1,2,3] p0<|Qc<|pz [] (show Oy a=a from rfl) (λz=> .a [.o 0 z.1,.o 1 z.2.1,.i z.2.2])
theorem RG(a:Yl):ACalls uE 61 [Aj a] (R9 a):=LH a
def Eu(a:Q9):Q9:=a
theorem RH(a:Q9):ACalls uE 199 [.a [.i a.1,.i a.2.1,.i a.2.2.1,.s a.2.2.2.1,.i a.2.2.2.2.1,.i a.2.2.2.2.2.1,.s a.2.2.2.2.2.2]] (.a [.i ((Eu a).1),.i ((Eu a).2.1),.i ((Eu a).2.2.1),.s ((Eu a).2.2.2.1),.i ((Eu a).2.2.2.2.1),.i ((Eu a).2.2.2.2.2.1),.s ((Eu a).2.2.2.2.2.2)]):=by
 refine en func199 λ_ _ _=>sn [1,2] [1,2] p0 ?_
 exact tn [1,2,3] [1,2,3] p0<|tu [(1,.p 1 0),(2,.p 2 0),(3,.p 3 0)] [0] [(1, [.i a.1,.i a.2.1,.i a.2.2.1,.s a.2.2.2.1,.i a.2.2.2.2.1,.i a.2.2.2.2.2.1,.s a.2.2.2.2.2.2]),(2, [.i 0,.i 0,.i 0,.s ⟨#[]⟩,.i 0,.i 0,.s ⟨#[]⟩]),(3, [.i a.1,.i 0,.i 0,.s ⟨#[]⟩,.i 0,.i 0,.s ⟨#[]⟩])] [] p0<|sn [1,2,3] [1,2,3] p0<|tn [1,2,3] [1,2,3] p0<|tu [] [] [(3, [.i a.1,.i a.2.1,.i a.2.2.1,.s a.2.2.2.1,.i 0,.i 0,.s ⟨#[]⟩])] [3] p0<|sn [2,3] [2,3] (pc 2 (RD a.2.2.2.2) p0)<|tn [2] [2] p0<|Qc<|pz [] (show Eu a=a from rfl) (λz=> .a [.i z.1,.i z.2.1,.i z.2.2.1,.s z.2.2.2.1,.i z.2.2.2.2.1,.i z.2.2.2.2.2.1,.s z.2.2.2.2.2.2])
theorem Ql6(a:Q9):ACalls uE 199 [Aj a] (R9 a):=RH a
theorem Qjb(l:uA Q9):ACalls uE 159 [.h l] (LM l):=toS default Zx func159 7 (λa=> [(6,.val (R9 a))]) (λa=> [.call 199 [Aj a] (R9 a)]) (λ_ _ a _ _=>pc 6 (Ql6 a)) l
def BW(a:Zo):Zo:=a
theorem Qas(a:Zo):ACalls uE 114 [.a [.s a.1,.h a.2]] (.a [.s ((BW a).1),.o 0 ((BW a).2)]):=by
 refine en func114 λ_ _ _=>sn [1,2] [1,2] p0 ?_
 exact tn [1,2,3] [1,2,3] p0<|tu [(1,.p 1 0),(2,.p 2 0),(3,.p 3 0)] [0] [(1, [.s a.1,.h a.2]),(2, [.s ⟨#[]⟩,.e 7]),(3, [.s a.1,.e 7])] [] p0<|sn [2,3] [2,3] (pc 2 (Qjb a.2) p0)<|tn [2] [2] p0<|Qc<|pz [] (show BW a=a from rfl) (λz=> .a [.s z.1,.o 0 z.2])
theorem Qps(a:Zo):ACalls uE 114 [Aj a] (R9 a):=Qas a
theorem Qc1(l:uA Zo):ACalls uE 62 [.h l] (LM l):=toS default Zx func62 7 (λa=> [(6,.val (R9 a))]) (λa=> [.call 114 [Aj a] (R9 a)]) (λ_ _ a _ _=>pc 6 (Qps a)) l
theorem ZE(l:uA uC):ACalls uE 25 [.h l] (LM l):=toS default Zx func25 6 (λ_=> []) (λ_=> []) (λ_ _ _ _ _ h=>h) l
def R0(a:Qo):Qo:=a
theorem CY(a:Qo):ACalls uE 115 [.a [.s a.1,.h a.2]] (.a [.s ((R0 a).1),.o 0 ((R0 a).2)]):=by
 refine en func115 λ_ _ _=>sn [1,2] [1,2] p0 ?_
 exact tn [1,2,3] [1,2,3] p0<|tu [(1,.p 1 0),(2,.p 2 0),(3,.p 3 0)] [0] [(1, [.s a.1,.h a.2]),(2, [.s ⟨#[]⟩,.e 1]),(3, [.s a.1,.e 1])] [] p0<|sn [2,3] [2,3] (pc 2 (ZE a.2) p0)<|tn [2] [2] p0<|Qc<|pz [] (show R0 a=a from rfl) (λz=> .a [.s z.1,.o 0 z.2])
theorem Qer(a:Qo):ACalls uE 115 [Aj a] (R9 a):=CY a
theorem Qat(l:uA Qo):ACalls uE 63 [.h l] (LM l):=toS default Zx func63 7 (λa=> [(6,.val (R9 a))]) (λa=> [.call 115 [Aj a] (R9 a)]) (λ_ _ a _ _=>pc 6 (Qer a)) l
def Da(a:Wq):Wq:=a
theorem BX(a:Wq):ACalls uE 21 [.a [.h a.1.1,.h a.1.2.1,.i a.1.2.2,.h a.2.1,.h a.2.2]] (.a [.o 0 ((Da a).1.1),.o 1 ((Da a).1.2.1),.i ((Da a).1.2.2),.o 2 ((Da a).2.1),.o 3 ((Da a).2.2)]):=by
 refine en func21 λ_ _ _=>sn [1,2] [1,2] p0 ?_
 exact tn [1,2,3] [1,2,3] p0<|tu [(1,.p 1 0),(2,.p 2 0),(3,.p 3 0)] [0] [(1, [.h a.1.1,.h a.1.2.1,.i a.1.2.2,.h a.2.1,.h a.2.2]),(2, [.e 2,.e 5,.i 0,.e 2,.e 2]),(3, [.o 384 a.1.1,.o 385 a.1.2.1,.i a.1.2.2,.e 2,.e 2])] [] (pc 2 (RG a.1) p0)<|sn [1,2,3] [1,2,3] (pc 2 (Qc1 a.2.1) p0)<|tn [2,3] [2,3] (pc 2 (Qat a.2.2) p0)<|tu [] [1,3] [(2, [.o 384 a.1.1,.o 385 a.1.2.1,.i a.1.2.2,.o 640 a.2.1,.o 896 a.2.2])] [1,2,3] p0<|Qc<|pz [] (show Da a=a from rfl) (λz=> .a [.o 0 z.1.1,.o 1 z.1.2.1,.i z.1.2.2,.o 2 z.2.1,.o 3 z.2.2])
theorem Qau(a:Wq):ACalls uE 21 [Aj a] (R9 a):=BX a
def KF(a:N6):N6:=a
theorem RI(a:N6):ACalls uE 22 [.a [.s a.1,.s a.2]] (.a [.s ((KF a).1),.s ((KF a).2)]):=by
 refine en func22 λ_ _ _=>sn [1,2] [1,2] p0 ?_
 exact tn [1,2,3] [1,2,3] p0<|tu [(1,.p 1 0),(2,.p 2 0),(3,.p 3 0)] [0] [(1, [.s a.1,.s a.2]),(2, [.s ⟨#[]⟩,.s ⟨#[]⟩]),(3, [.s a.1,.s ⟨#[]⟩])] [] p0<|sn [2,3] [2,3] p0<|tn [2] [2] p0<|Qc<|pz [] (show KF a=a from rfl) (λz=> .a [.s z.1,.s z.2])
theorem Ql7(a:N6):ACalls uE 22 [Aj a] (R9 a):=RI a
def Dr(a:Qw):Qw:=a
theorem VO(a:Qw):ACalls uE 116 [.a [.h a.1.1,.h a.1.2.1,.i a.1.2.2,.h a.2]] (.a [.o 0 ((Dr a).1.1),.o 1 ((Dr a).1.2.1),.i ((Dr a).1.2.2),.o 2 ((Dr a).2)]):=by
 refine en func116 λ_ _ _=>sn [1,2] [1,2] p0 ?_
 exact tn [1,2,3] [1,2,3] p0<|tu [(1,.p 1 0),(2,.p 2 0),(3,.p 3 0)] [0] [(1, [.h a.1.1,.h a.1.2.1,.i a.1.2.2,.h a.2]),(2, [.e 2,.e 5,.i 0,.e 2]),(3, [.o 384 a.1.1,.o 385 a.1.2.1,.i a.1.2.2,.e 2])] [] (pc 2 (RG a.1) p0)<|sn [2,3] [2,3] (pc 2 (Qc1 a.2) p0)<|tn [2] [2] p0<|Qc<|pz [] (show Dr a=a from rfl) (λz=> .a [.o 0 z.1.1,.o 1 z.1.2.1,.i z.1.2.2,.o 2 z.2])
theorem RJ(a:Qw):ACalls uE 116 [Aj a] (R9 a):=VO a
def Bc(a:Ya):Ya:=a
theorem BY(a:Ya):ACalls uE 64 [.a [.i a.1,.h a.2.1.1.1,.h a.2.1.1.2.1,.i a.2.1.1.2.2,.h a.2.1.2,.i a.2.2]] (.a [.i ((Bc a).1),.o 0 ((Bc a).2.1.1.1),.o 1 ((Bc a).2.1.1.2.1),.i ((Bc a).2.1.1.2.2),.o 2 ((Bc a).2.1.2),.i ((Bc a).2.2)]):=by
 refine en func64 λ_ _ _=>sn [1,2] [1,2] p0 ?_
 exact tn [1,2,3] [1,2,3] p0<|tu [(1,.p 1 0),(2,.p 2 0),(3,.p 3 0)] [0] [(1, [.i a.1,.h a.2.1.1.1,.h a.2.1.1.2.1,.i a.2.1.1.2.2,.h a.2.1.2,.i a.2.2]),(2, [.i 0,.e 2,.e 5,.i 0,.e 2,.i 0]),(3, [.i a.1,.e 2,.e 5,.i 0,.e 2,.i 0])] [] p0<|sn [1,2,3] [1,2,3] (pc 2 (RJ a.2.1) p0)<|tn [2,3] [2,3] p0<|tu [] [1,3] [(2, [.i a.1,.o 576 a.2.1.1.1,.o 577 a.2.1.1.2.1,.i a.2.1.1.2.2,.o 578 a.2.1.2,.i a.2.2])] [1,2,3] p0<|Qc<|pz [] (show Bc a=a from rfl) (λz=> .a [.i z.1,.o 0 z.2.1.1.1,.o 1 z.2.1.1.2.1,.i z.2.1.1.2.2,.o 2 z.2.1.2,.i z.2.2])
theorem Qav(a:Ya):ACalls uE 64 [Aj a] (R9 a):=BY a
theorem RK(l:uA Ya):ACalls uE 23 [.h l] (LM l):=toS default Zx func23 7 (λa=> [(6,.val (R9 a))]) (λa=> [.call 64 [Aj a] (R9 a)]) (λ_ _ a _ _=>pc 6 (Qav a)) l
def Oz(a:Kn):Kn:=a
theorem LI(a:Kn):ACalls uE 160 [.a [.i a.1,.h a.2.1,.h a.2.2]] (.a [.i ((Oz a).1),.o 0 ((Oz a).2.1),.o 1 ((Oz a).2.2)]):=by
 refine en func160 λ_ _ _=>sn [1,2] [1,2] p0 ?_
 exact tn [1,2,3] [1,2,3] p0<|tu [(1,.p 1 0),(2,.p 2 0),(3,.p 3 0)] [0] [(1, [.i a.1,.h a.2.1,.h a.2.2]),(2, [.i 0,.e 1,.e 1]),(3, [.i a.1,.e 1,.e 1])] [] p0<|sn [1,2,3] [1,2,3] (pc 2 (ZE a.2.1) p0)<|tn [2,3] [2,3] (pc 2 (ZE a.2.2) p0)<|tu [] [1,3] [(2, [.i a.1,.o 576 a.2.1,.o 832 a.2.2])] [1,2,3] p0<|Qc<|pz [] (show Oz a=a from rfl) (λz=> .a [.i z.1,.o 0 z.2.1,.o 1 z.2.2])
theorem Qjc(a:Kn):ACalls uE 160 [Aj a] (R9 a):=LI a
theorem Qes(l:uA Kn):ACalls uE 117 [.h l] (LM l):=toS default Zx func117 7 (λa=> [(6,.val (R9 a))]) (λa=> [.call 160 [Aj a] (R9 a)]) (λ_ _ a _ _=>pc 6 (Qjc a)) l
def L8(a:Zz):Zz:=a
theorem LJ(a:Zz):ACalls uE 65 [.a [.i a.1,.s a.2.1,.h a.2.2.1,.h a.2.2.2]] (.a [.i ((L8 a).1),.s ((L8 a).2.1),.o 0 ((L8 a).2.2.1),.o 1 ((L8 a).2.2.2)]):=by
 refine en func65 λ_ _ _=>sn [1,2] [1,2] p0 ?_
 exact tn [1,2,3] [1,2,3] p0<|tu [(1,.p 1 0),(2,.p 2 0),(3,.p 3 0)] [0] [(1, [.i a.1,.s a.2.1,.h a.2.2.1,.h a.2.2.2]),(2, [.i 0,.s ⟨#[]⟩,.e 1,.e 3]),(3, [.i a.1,.s ⟨#[]⟩,.e 1,.e 3])] [] p0<|sn [1,2,3] [1,2,3] p0<|tn [1,2,3] [1,2,3] (pc 2 (ZE a.2.2.1) p0)<|tu [] [1] [(3, [.i a.1,.s a.2.1,.o 768 a.2.2.1,.o 1024 a.2.2.2])] [1,3] (pc 2 (Qes a.2.2.2) p0)<|sn [2] [2] p0<|Qc<|pz [] (show L8 a=a from rfl) (λz=> .a [.i z.1,.s z.2.1,.o 0 z.2.2.1,.o 1 z.2.2.2])
theorem Qjd(a:Zz):ACalls uE 65 [Aj a] (R9 a):=LJ a
theorem Qet(l:uA Zz):ACalls uE 24 [.h l] (LM l):=toS default Zx func24 7 (λa=> [(6,.val (R9 a))]) (λa=> [.call 65 [Aj a] (R9 a)]) (λ_ _ a _ _=>pc 6 (Qjd a)) l
def Wp(a:Jy):Jy:=a
theorem CZ(a:Jy):ACalls uE 6 [.a [.h a.1.1.1,.h a.1.1.2.1,.i a.1.1.2.2,.h a.1.2.1,.h a.1.2.2,.s a.2.1.1,.s a.2.1.2,.i a.2.2.1,.h a.2.2.2.1,.h a.2.2.2.2.1,.h a.2.2.2.2.2]] (.a [.o 0 ((Wp a).1.1.1),.o 1 ((Wp a).1.1.2.1),.i ((Wp a).1.1.2.2),.o 2 ((Wp a).1.2.1),.o 3 ((Wp a).1.2.2),.s ((Wp a).2.1.1),.s ((Wp a).2.1.2),.i ((Wp a).2.2.1),.o 4 ((Wp a).2.2.2.1),.o 5 ((Wp a).2.2.2.2.1),.o 6 ((Wp a).2.2.2.2.2)]):=by
 refine en func6 λ_ _ _=>sn [1,2] [1,2] p0 ?_
 exact tn [1,2,3] [1,2,3] p0<|tu [(1,.p 1 0),(2,.p 2 0),(3,.p 3 0)] [0] [(1, [.h a.1.1.1,.h a.1.1.2.1,.i a.1.1.2.2,.h a.1.2.1,.h a.1.2.2,.s a.2.1.1,.s a.2.1.2,.i a.2.2.1,.h a.2.2.2.1,.h a.2.2.2.2.1,.h a.2.2.2.2.2]),(2, [.e 2,.e 5,.i 0,.e 2,.e 2,.s ⟨#[]⟩,.s ⟨#[]⟩,.i 0,.e 6,.e 4,.e 1]),(3, [.o 384 a.1.1.1,.o 385 a.1.1.2.1,.i a.1.1.2.2,.o 386 a.1.2.1,.o 387 a.1.2.2,.s ⟨#[]⟩,.s ⟨#[]⟩,.i 0,.e 6,.e 4,.e 1])] [] (pc 2 (Qau a.1) p0)<|sn [1,2,3] [1,2,3] (pc 2 (Ql7 a.2.1) p0)<|tn [1,2,3] [1,2,3] p0<|tu [] [] [(3, [.o 384 a.1.1.1,.o 385 a.1.1.2.1,.i a.1.1.2.2,.o 386 a.1.2.1,.o 387 a.1.2.2,.s a.2.1.1,.s a.2.1.2,.i a.2.2.1,.o 1088 a.2.2.2.1,.e 4,.e 1])] [3] (pc 2 (RK a.2.2.2.1) p0)<|sn [1,2,3] [1,2,3] (pc 2 (Qet a.2.2.2.2.1) p0)<|tn [2,3] [2,3] (pc 2 (ZE a.2.2.2.2.2) p0)<|tu [] [1,3] [(2, [.o 384 a.1.1.1,.o 385 a.1.1.2.1,.i a.1.1.2.2,.o 386 a.1.2.1,.o 387 a.1.2.2,.s a.2.1.1,.s a.2.1.2,.i a.2.2.1,.o 1088 a.2.2.2.1,.o 1344 a.2.2.2.2.1,.o 1600 a.2.2.2.2.2])] [1,2,3] p0<|Qc<|pz [] (show Wp a=a from rfl) (λz=> .a [.o 0 z.1.1.1,.o 1 z.1.1.2.1,.i z.1.1.2.2,.o 2 z.1.2.1,.o 3 z.1.2.2,.s z.2.1.1,.s z.2.1.2,.i z.2.2.1,.o 4 z.2.2.2.1,.o 5 z.2.2.2.2.1,.o 6 z.2.2.2.2.2])
theorem Qeu(a:Jy):ACalls uE 6 [Aj a] (R9 a):=CZ a
theorem Sp(a:Jy)(h:GoD.size a<=1048576):ACalls uE 6 [Aj a] (R9 a):=Qeu a
theorem Qje(a:Y4):ACalls uE 179 [Aj a,Aj a] (.b y):=eqA Zx func179 a λ_ _ _=>eqT Zx a.1<|eqI Zx a.2<|eqE Zx
theorem Qev(l:uA Y4):ACalls uE 131 [.h l,.h l] (.b y):=eqS Zx XF func131 y (λa=> .call 179 [Aj a,Aj a] (.b y)) (λ_ _ a=>Mm (Qje a)) l
theorem RL(a:Va):ACalls uE 274 [Aj a,Aj a] (.b y):=eqA Zx func274 a λ_ _ _=>eqI Zx a.1<|eqI Zx a.2.1<|eqT Zx a.2.2<|eqE Zx
theorem Ql8(a:Wv):ACalls uE 273 [Aj a,Aj a] (.b y):=eqA Zx func273 a λ_ _ _=>eqT Zx a.1<|eqG Zx (RL a.2)<|eqE Zx
theorem Qjf(l:uA Wv):ACalls uE 225 [.h l,.h l] (.b y):=eqS Zx XF func225 y (λa=> .call 273 [Aj a,Aj a] (.b y)) (λ_ _ a=>Mm (Ql8 a)) l
theorem Ql9(a:Yn):ACalls uE 180 [Aj a,Aj a] (.b y):=eqA Zx func180 a λ_ _ _=>eqI Zx a.1<|eqI Zx a.2.1<|eqB Zx a.2.2.1<|eqI Zx a.2.2.2.1<|eqG Zx (Qjf a.2.2.2.2)<|eqE Zx
theorem Qjg(l:uA Yn):ACalls uE 132 [.h l,.h l] (.b y):=eqS Zx XF func132 y (λa=> .call 180 [Aj a,Aj a] (.b y)) (λ_ _ a=>Mm (Ql9 a)) l
theorem RM(a:Yl):ACalls uE 77 [Aj a,Aj a] (.b y):=eqA Zx func77 a λ_ _ _=>eqG Zx (Qev a.1)<|eqG Zx (Qjg a.2.1)<|eqI Zx a.2.2<|eqE Zx
theorem Qma(a:Q9):ACalls uE 226 [Aj a,Aj a] (.b y):=eqA Zx func226 a λ_ _ _=>eqI Zx a.1<|eqI Zx a.2.1<|eqI Zx a.2.2.1<|eqT Zx a.2.2.2.1<|eqG Zx (RL a.2.2.2.2)<|eqE Zx
theorem Qjh(l:uA Q9):ACalls uE 181 [.h l,.h l] (.b y):=eqS Zx XF func181 y (λa=> .call 226 [Aj a,Aj a] (.b y)) (λ_ _ a=>Mm (Qma a)) l
theorem Qpt(a:Zo):ACalls uE 133 [Aj a,Aj a] (.b y):=eqA Zx func133 a λ_ _ _=>eqT Zx a.1<|eqG Zx (Qjh a.2)<|eqE Zx
theorem Qc2(l:uA Zo):ACalls uE 78 [.h l,.h l] (.b y):=eqS Zx XF func78 y (λa=> .call 133 [Aj a,Aj a] (.b y)) (λ_ _ a=>Mm (Qpt a)) l
theorem ZF(l:uA uC):ACalls uE 35 [.h l,.h l] (.b y):=eqS Zx XF func35 uB (λa=> .eq (.b (a !=a)) (.b uB)) (λ_ _ a=>Qn (by simp)) l
theorem Qew(a:Qo):ACalls uE 134 [Aj a,Aj a] (.b y):=eqA Zx func134 a λ_ _ _=>eqT Zx a.1<|eqG Zx (ZF a.2)<|eqE Zx
theorem Qaw(l:uA Qo):ACalls uE 79 [.h l,.h l] (.b y):=eqS Zx XF func79 y (λa=> .call 134 [Aj a,Aj a] (.b y)) (λ_ _ a=>Mm (Qew a)) l
theorem Qax(a:Wq):ACalls uE 31 [Aj a,Aj a] (.b y):=eqA Zx func31 a λ_ _ _=>eqG Zx (RM a.1)<|eqG Zx (Qc2 a.2.1)<|eqG Zx (Qaw a.2.2)<|eqE Zx
theorem Qmb(a:N6):ACalls uE 32 [Aj a,Aj a] (.b y):=eqA Zx func32 a λ_ _ _=>eqT Zx a.1<|eqT Zx a.2<|eqE Zx
theorem RN(a:Qw):ACalls uE 135 [Aj a,Aj a] (.b y):=eqA Zx func135 a λ_ _ _=>eqG Zx (RM a.1)<|eqG Zx (Qc2 a.2)<|eqE Zx
theorem Qay(a:Ya):ACalls uE 80 [Aj a,Aj a] (.b y):=eqA Zx func80 a λ_ _ _=>eqI Zx a.1<|eqG Zx (RN a.2.1)<|eqI Zx a.2.2<|eqE Zx
theorem RO(l:uA Ya):ACalls uE 33 [.h l,.h l] (.b y):=eqS Zx XF func33 y (λa=> .call 80 [Aj a,Aj a] (.b y)) (λ_ _ a=>Mm (Qay a)) l
theorem Qji(a:Kn):ACalls uE 182 [Aj a,Aj a] (.b y):=eqA Zx func182 a λ_ _ _=>eqI Zx a.1<|eqG Zx (ZF a.2.1)<|eqG Zx (ZF a.2.2)<|eqE Zx
theorem Qex(l:uA Kn):ACalls uE 136 [.h l,.h l] (.b y):=eqS Zx XF func136 y (λa=> .call 182 [Aj a,Aj a] (.b y)) (λ_ _ a=>Mm (Qji a)) l
theorem Qjj(a:Zz):ACalls uE 81 [Aj a,Aj a] (.b y):=eqA Zx func81 a λ_ _ _=>eqI Zx a.1<|eqT Zx a.2.1<|eqG Zx (ZF a.2.2.1)<|eqG Zx (Qex a.2.2.2)<|eqE Zx
theorem Qey(l:uA Zz):ACalls uE 34 [.h l,.h l] (.b y):=eqS Zx XF func34 y (λa=> .call 81 [Aj a,Aj a] (.b y)) (λ_ _ a=>Mm (Qjj a)) l
theorem Qez(a:Jy):ACalls uE 8 [Aj a,Aj a] (.b y):=eqA Zx func8 a λ_ _ _=>eqG Zx (Qax a.1)<|eqG Zx (Qmb a.2.1)<|eqI Zx a.2.2.1<|eqG Zx (RO a.2.2.2.1)<|eqG Zx (Qey a.2.2.2.2.1)<|eqG Zx (ZF a.2.2.2.2.2)<|eqE Zx
theorem Sq{a b:Jy}(h:a=b):ACalls uE 8 [Aj a,Aj b] (Qqo y):=h▸Qez a
theorem KY(a:Jy)(K:uC)(k:uD)(b:K=k)(d:1<=k)(g:k<=1152921504606846976)(e:GoD.size a<=1073741824):Qrx uE 9 a K (GoD.markT a k):=⟨(by unfold Fr;kernel_rfl),λw L c f=>PR w c a L K k b d (by have:=bdT (a:=a) (k:=k) (by decide) e;omega) f⟩
theorem KZ(a:Jy)(b:GoD.size a<=1073741824):ACalls uE 10 [Aj (GoD.markT a 1).1,Qmu 1] (Qmu ((GoD.markT a 1).2:uD)):=Qek (by unfold Fr;kernel_rfl) (by have:=bdT (a:=a) (k:=1) (by decide) b;rw[Mj];unfold I64;omega) λw c d=>PU w c a _ 1 1 rfl (by omega) (by have:=bdT (a:=a) (k:=1) (by decide) b;omega) rfl d
def Fq(a:Jy):Bool:=(bif decide ((szI (GoD.size a) 1048576)<(0:uC)) then y else y)
theorem Sz(c:Jy):ACalls uE 3 [.a [.h c.1.1.1,.h c.1.1.2.1,.i c.1.1.2.2,.h c.1.2.1,.h c.1.2.2,.s c.2.1.1,.s c.2.1.2,.i c.2.2.1,.h c.2.2.2.1,.h c.2.2.2.2.1,.h c.2.2.2.2.2]] (.b (Fq c)):=by
 refine en func3 λ_ _ _=>sn [1,2] [1] p0 ?_
 refine tn [1,2,3] [1] p0 ?_;have f:=Qrv (GoD.size c) 1048576;refine tu [(1,.p 1 0),(2,.b uB),(3,.i (szI (GoD.size c) 1048576))] [0] [(1, [.h c.1.1.1,.h c.1.1.2.1,.i c.1.1.2.2,.h c.1.2.1,.h c.1.2.2,.s c.2.1.1,.s c.2.1.2,.i c.2.2.1,.h c.2.2.2.1,.h c.2.2.2.2.1,.h c.2.2.2.2.2])] [] (pc 2 (Qep c 1048576 (by omega) (by omega)) p0)<|Qa<|sn [1,2,18] [1] p0<|ck (decide ((szI (GoD.size c) 1048576)<(0:uC))) (λe=>?_) (λe=>?_)
 ·exact tn [1,2] [1] p0<|Qc<|pb [] (Xg e rfl)
 have g:=of_decide_eq_false e;refine Qd ?_;have d:GoD.size c<=1048576:=by omega
 refine tn [1,2,4,5] [1,4] (pc 1 (Sp c d) (pc 2 ((Qei c (zD d (by decide)))▸(LA c (zD d (by decide)) (zD (S6 (S6 (M8 d))) (by decide)) (zD (M8 (S6 (M8 d))) (by decide)))) p0))<|tu [(4,.p 4 0),(5,.b (((Qk c)).2)),(6,.p 6 0)] [3] [(4, [.o 1408 ((((Qk c)).1).1.1.1),.o 1409 ((((Qk c)).1).1.1.2.1),.i ((((Qk c)).1).1.1.2.2),.o 1410 ((((Qk c)).1).1.2.1),.o 1411 ((((Qk c)).1).1.2.2),.s ((((Qk c)).1).2.1.1),.s ((((Qk c)).1).2.1.2),.i ((((Qk c)).1).2.2.1),.o 1412 ((((Qk c)).1).2.2.2.1),.o 1413 ((((Qk c)).1).2.2.2.2.1),.o 1414 ((((Qk c)).1).2.2.2.2.2)]),(6, [.o 1664 c.1.1.1,.o 1665 c.1.1.2.1,.i c.1.1.2.2,.o 1666 c.1.2.1,.o 1667 c.1.2.2,.s c.2.1.1,.s c.2.1.2,.i c.2.2.1,.o 1668 c.2.2.2.1,.o 1669 c.2.2.2.2.1,.o 1670 c.2.2.2.2.2])] [] (pc 1 (Sp c d) p0)<|sn [1,2,4,5,6,7,8] [1,4,6,7] (pc 1 (ZA c (zD d (by decide)) (zD (S6 (S6 (M8 d))) (by decide)) (zD (M8 (S6 (M8 d))) (by decide))) p0)<|Qa<|tn [1,2,4,5,6,7,8,40] [1,4,6,7] (pc 2 (Sq (a:=((Qk c)).1) (b:=((Qk c)).1) rfl) (pe 3 (show .b (!y)= .b uB from rfl) (pe 7 (show .b (!((((Qk c)).2)==(((Qk c)).2)))= .b uB from Qn (by simp)) p0)))<|ckF<|Qd<|Qa<|tU [(7,.p 7 0),(8,.b (((Qk c)).2)),(45,.b uB)] [] [(7, [.o 1856 ((((Qk c)).1).1.1.1),.o 1857 ((((Qk c)).1).1.1.2.1),.i ((((Qk c)).1).1.1.2.2),.o 1858 ((((Qk c)).1).1.2.1),.o 1859 ((((Qk c)).1).1.2.2),.s ((((Qk c)).1).2.1.1),.s ((((Qk c)).1).2.1.2),.i ((((Qk c)).1).2.2.1),.o 1860 ((((Qk c)).1).2.2.2.1),.o 1861 ((((Qk c)).1).2.2.2.2.1),.o 1862 ((((Qk c)).1).2.2.2.2.2)])] [] (pc 2 (Sp c d) (pc 3 (Sq (a:=c) (b:=c) rfl) (pe 4 (show .b (!y)= .b uB from rfl) p0)))<|ckF<|Qd<|su [(9,.i 1)] [45] [] [] p0<|Qa ?_
 have h:=bdT (a:=c) (k:=1) (by decide) (zD d (by decide));have i:=GoD.mkT_le c 1;refine PY Zx (KY c 1 1 rfl (by omega) (by omega) ((zD d (by decide)))) (by rw[Mj];unfold I64;omega) GoM.mkT [1664,1665,1666,1667,1668,1669,1670] [1,2,4,5,7,8,9] [1,4,7] (s':=⟨[(1,.p 1 0),(2,.b uB),(4,.p 4 0),(5,.b (((Qk c)).2)),(7,.p 7 0),(8,.b (((Qk c)).2)),(9,.i (((GoD.markT c 1).2:uD):uC))], [(1, [.h c.1.1.1,.h c.1.1.2.1,.i c.1.1.2.2,.h c.1.2.1,.h c.1.2.2,.s c.2.1.1,.s c.2.1.2,.i c.2.2.1,.h c.2.2.2.1,.h c.2.2.2.2.1,.h c.2.2.2.2.2]),(4, [.o 1408 ((((Qk c)).1).1.1.1),.o 1409 ((((Qk c)).1).1.1.2.1),.i ((((Qk c)).1).1.1.2.2),.o 1410 ((((Qk c)).1).1.2.1),.o 1411 ((((Qk c)).1).1.2.2),.s ((((Qk c)).1).2.1.1),.s ((((Qk c)).1).2.1.2),.i ((((Qk c)).1).2.2.1),.o 1412 ((((Qk c)).1).2.2.2.1),.o 1413 ((((Qk c)).1).2.2.2.2.1),.o 1414 ((((Qk c)).1).2.2.2.2.2)]),(7, [.o 1856 ((((Qk c)).1).1.1.1),.o 1857 ((((Qk c)).1).1.1.2.1),.i ((((Qk c)).1).1.1.2.2),.o 1858 ((((Qk c)).1).1.2.1),.o 1859 ((((Qk c)).1).1.2.2),.s ((((Qk c)).1).2.1.1),.s ((((Qk c)).1).2.1.2),.i ((((Qk c)).1).2.2.1),.o 1860 ((((Qk c)).1).2.2.2.1),.o 1861 ((((Qk c)).1).2.2.2.2.1),.o 1862 ((((Qk c)).1).2.2.2.2.2)])]⟩) rfl rfl rfl rfl rfl rfl rfl rfl rfl rfl rfl rfl (by kernel_rfl) rfl rfl (by kernel_rfl) rfl rfl (by kernel_rfl) (by kernel_rfl) rfl (by kernel_rfl) ?_;refine Qa<|su [(61,.b uB)] [8,9] [] [] (pe 1 (Qoj (p:=(((GoD.markT c 1).2:uD):uC)<(0:uC)) (by omega)) (pc 5 (Sq (a:=((Qk c)).1) (b:=((Qk c)).1) rfl) (pe 6 (show .b (!y)= .b uB from rfl) (pe 11 (show .b (!((((Qk c)).2)==(((Qk c)).2)))= .b uB from Qn (by simp)) p0))))<|ckF<|Qd<|su [(10,.i 1)] [61] [] [] p0<|Qa ?_
 have j:=bdT (a:=(((Qk c)).1)) (k:=1) (by decide) (Mi c (by omega));have l:=GoD.mkT_le (((Qk c)).1) 1;refine PY Zx (KY (((Qk c)).1) 1 1 rfl (by omega) (by omega) ((Mi c (by omega)))) (by rw[Mj];unfold I64;omega) GoM.mkT [1856,1857,1858,1859,1860,1861,1862] [1,2,4,5,7,10] [1,4,7] (s':=⟨[(1,.p 1 0),(2,.b uB),(4,.p 4 0),(5,.b (((Qk c)).2)),(7,.p 7 0),(10,.i (((GoD.markT (((Qk c)).1) 1).2:uD):uC))], [(1, [.h c.1.1.1,.h c.1.1.2.1,.i c.1.1.2.2,.h c.1.2.1,.h c.1.2.2,.s c.2.1.1,.s c.2.1.2,.i c.2.2.1,.h c.2.2.2.1,.h c.2.2.2.2.1,.h c.2.2.2.2.2]),(4, [.o 1408 ((((Qk c)).1).1.1.1),.o 1409 ((((Qk c)).1).1.1.2.1),.i ((((Qk c)).1).1.1.2.2),.o 1410 ((((Qk c)).1).1.2.1),.o 1411 ((((Qk c)).1).1.2.2),.s ((((Qk c)).1).2.1.1),.s ((((Qk c)).1).2.1.2),.i ((((Qk c)).1).2.2.1),.o 1412 ((((Qk c)).1).2.2.2.1),.o 1413 ((((Qk c)).1).2.2.2.2.1),.o 1414 ((((Qk c)).1).2.2.2.2.2)]),(7, [.h (((GoD.markT (((Qk c)).1) 1).1).1.1.1),.h (((GoD.markT (((Qk c)).1) 1).1).1.1.2.1),.i (((GoD.markT (((Qk c)).1) 1).1).1.1.2.2),.h (((GoD.markT (((Qk c)).1) 1).1).1.2.1),.h (((GoD.markT (((Qk c)).1) 1).1).1.2.2),.s (((GoD.markT (((Qk c)).1) 1).1).2.1.1),.s (((GoD.markT (((Qk c)).1) 1).1).2.1.2),.i (((GoD.markT (((Qk c)).1) 1).1).2.2.1),.h (((GoD.markT (((Qk c)).1) 1).1).2.2.2.1),.h (((GoD.markT (((Qk c)).1) 1).1).2.2.2.2.1),.h (((GoD.markT (((Qk c)).1) 1).1).2.2.2.2.2)])]⟩) rfl rfl rfl rfl rfl rfl rfl rfl rfl rfl rfl rfl (by kernel_rfl) rfl rfl (by kernel_rfl) rfl rfl (by kernel_rfl) (by kernel_rfl) rfl (by kernel_rfl) ?_;exact su [(11,.i 1)] [] [] [] p0<|sn [1,2,4,5,7,10,11] [1,4,7] (pc 2 (KZ (((Qk c)).1) (Mi c (by omega))) p0)<|Qa<|tn [1,2,4,5,7,10,11,69] [1,4,7] (pe 1 (Qoj (p:=(((GoD.markT (((Qk c)).1) 1).2:uD):uC)<(0:uC)) (by omega)) p0)<|ckF<|Qd<|Qa<|tu [(11,.i (((GoD.markT (((Qk c)).1) 1).2:uD):uC)),(72,.b uB)] [11] [] [] (pe 2 (show .b ((((GoD.markT (((Qk c)).1) 1).2:uD):uC) !=(((GoD.markT (((Qk c)).1) 1).2:uD):uC))= .b uB from Qn (by simp)) p0)<|ckF<|Qd<|sn [2,4,5,7,10,11,12,13] [4,7,12] (pc 1 (Sp c d) (pc 2 (ZA c (zD d (by decide)) (zD (S6 (S6 (M8 d))) (by decide)) (zD (M8 (S6 (M8 d))) (by decide))) p0))<|Qa<|tn [2,7,10,11,87] [7] (pc 2 (Sq (a:=((Qk c)).1) (b:=((Qk c)).1) rfl) (pe 3 (show .b (!y)= .b uB from rfl) (pe 7 (show .b (!((((Qk c)).2)==(((Qk c)).2)))= .b uB from Qn (by simp)) p0)))<|ckF<|Qd<|tu [(11,.i 1)] [1,4,5,11,72] [] [1,4] p0<|sn [2,10,11] [] (pc 2 (KZ (((Qk c)).1) (Mi c (by omega))) p0)<|Qa<|tn [2,10,11,92] [] (pe 1 (Qoj (p:=(((GoD.markT (((Qk c)).1) 1).2:uD):uC)<(0:uC)) (by omega)) p0)<|ckF<|Qd<|Qa<|tu [(95,.b uB)] [7,10,11] [] [7] (pe 2 (show .b ((((GoD.markT (((Qk c)).1) 1).2:uD):uC) !=(((GoD.markT (((Qk c)).1) 1).2:uD):uC))= .b uB from Qn (by simp)) p0)<|ckF<|Qd<|sn [2] [] p0<|Qc<|pb [] (Qi e rfl)
open GoD (rd own)
set_option maxRecDepth 100000 in
set_option maxHeartbeats 1000000 in
theorem Qe0(w:World)(x:uA Value)(a:Jy)(t:rd w x a)(s:¬(GoD.size a<=1048576)):Calls uE 3 #[.agg x.toArray] w (Ret w (.bool y)):=by
 obtain⟨b,c,d,e,f,g,h,i,j,k,l,m,n,p,rfl⟩:=MY t;have u:=Lib.hid t;clear t;have q:True:=trivial;go_enter func3,ntmps3
 go_wp2_with (first | (go_at_call 4;have tk:=q;clear q;refine Vi (w:=w) (FC _ [.slice b a.1.1.1.length c,.slice d a.1.1.2.1.length e,.int .i64 a.1.1.2.2,.slice f a.1.2.1.length g,.slice h a.1.2.2.length i,.string a.2.1.1,.string a.2.1.2,.int .i64 a.2.2.1,.slice j a.2.2.2.1.length k,.slice l a.2.2.2.2.1.length m,.slice n a.2.2.2.2.2.length p] a _ (Yv u.out (by repeat (first | (with_reducible exact Below.refl _ _) | (with_reducible refine Below.alloc ?_ (by go_size) _) | (with_reducible refine Below.drew ?_)))) (by omega) (by omega)) (by repeat (first | (with_reducible exact Below.refl _ _) | (with_reducible refine Below.alloc ?_ (by go_size) _) | (with_reducible refine Below.drew ?_))) ?_;intro w1 r1 a2 hb a3 _ z a4;have v:=Lib.hid z;clear z;have r:=hb.size;(repeat (first | rewrite [World.size_alloc] at r | rewrite [World.size_setCell] at r | rewrite [World.size_drew] at r));have V:=λo=>Ax hb (w.heap.size) o (by go_size);have a1:w.heap.size<w1.heap.size:=(by go_size);have a5:=Lib.hid hb;clear hb) | (exfalso;have q1:=v.out;apply s;unfold szq at*;omega))
 all_goals
  go_ret
  refine⟨rfl, ?_⟩;first | (with_reducible assumption) | go_grown
theorem O9(a:Jy):Fq a=y:=by
 unfold Fq;simp
theorem Qe1(w:World)(c:uA Value)(a:Jy)(d:rd w c a)(e:Good uE w):Calls uE 3 #[.agg c.toArray] w (Ret w (.bool y)):=by
 by_cases b:GoD.size a<=1048576
 . haveI:Good uE w:=e
   have h:=(Sz a).run (.cons (Qn7 d (GoE.wide_size (show GoD.size a<=1073741824 by omega))) .nil);rw[O9] at h;exact h.mono λ_ _ h=>Qkk h
 exact Qe0 w c a d b
end Go.Proofs.YtkdnkiggkgakmaaGreatDoor
