/- Texts of this proof, put together by a program: LYrc, MYrc. -/
import Derived.Test.YtkdnkiggkgakmaaGreatDoorP7
import Derived.KernelRfl
import Derived.Outline
set_option linter.unusedVariables false
set_option linter.unusedSimpArgs false
namespace Go.Proofs.YtkdnkiggkgakmaaGreatDoor
open _root_ renaming List → uA, Int → uC, Nat → uD
open _root_.Bool renaming true → y, false → uB
open Tryz renaming prog → uE
open Tryz
open _root_.Nat renaming le_trans → zD
open Go.RowKit
open GoE (enc wide)
theorem Qem(a:Jy)(left:uC)(b:0<=left)(d:left<=1048576):ACalls uE 4 [Aj a,Qmp left] (Qmp (szI (GoD.size a) left)):=Qeg (by unfold Fr;kernel_rfl) b d λw c e=>FA w c a left e b d
def QE(a:Y4):Y4:=a
theorem LD(a:Y4):ACalls uE 157 [.a [.s a.1,.i a.2]] (.a [.s ((QE a).1),.i ((QE a).2)]):=by
 refine en func157 λ_ _ _=>sn [1,2] [1,2] p0 ?_
 exact tn [1,2,3] [1,2,3] p0<|tu [(1,.p 1 0),(2,.p 2 0),(3,.p 3 0)] [0] [(1, [.s a.1,.i a.2]),(2, [.s ⟨#[]⟩,.i 0]),(3, [.s a.1,.i 0])] [] p0<|sn [2,3] [2,3] p0<|tn [2] [2] p0<|Qc<|pz [] (show QE a=a from rfl) (λz=> .a [.s z.1,.i z.2])
theorem Qi4(a:Y4):ACalls uE 157 [Aj a] (R7 a):=LD a
theorem Qen(l:uA Y4):ACalls uE 112 [.h l] (LJ l):=toS default Zx func112 7 (λa=> [(6,.val (R7 a))]) (λa=> [.call 157 [Aj a] (R7 a)]) (λ_ _ a _ _=>pc 6 (Qi4 a)) l
def Ow(a:Va):Va:=a
theorem LE(a:Va):ACalls uE 248 [.a [.i a.1,.i a.2.1,.s a.2.2]] (.a [.i ((Ow a).1),.i ((Ow a).2.1),.s ((Ow a).2.2)]):=by
 refine en func248 λ_ _ _=>sn [1,2] [1,2] p0 ?_
 exact tn [1,2,3] [1,2,3] p0<|tu [(1,.p 1 0),(2,.p 2 0),(3,.p 3 0)] [0] [(1, [.i a.1,.i a.2.1,.s a.2.2]),(2, [.i 0,.i 0,.s ⟨#[]⟩]),(3, [.i a.1,.i 0,.s ⟨#[]⟩])] [] p0<|sn [1,2,3] [1,2,3] p0<|tn [2,3] [2,3] p0<|tu [] [1,3] [(2, [.i a.1,.i a.2.1,.s a.2.2])] [1,2,3] p0<|Qc<|pz [] (show Ow a=a from rfl) (λz=> .a [.i z.1,.i z.2.1,.s z.2.2])
theorem RB(a:Va):ACalls uE 248 [Aj a] (R7 a):=LE a
def Nn(a:Wv):Wv:=a
theorem RC(a:Wv):ACalls uE 247 [.a [.s a.1,.i a.2.1,.i a.2.2.1,.s a.2.2.2]] (.a [.s ((Nn a).1),.i ((Nn a).2.1),.i ((Nn a).2.2.1),.s ((Nn a).2.2.2)]):=by
 refine en func247 λ_ _ _=>sn [1,2] [1,2] p0 ?_
 exact tn [1,2,3] [1,2,3] p0<|tu [(1,.p 1 0),(2,.p 2 0),(3,.p 3 0)] [0] [(1, [.s a.1,.i a.2.1,.i a.2.2.1,.s a.2.2.2]),(2, [.s ⟨#[]⟩,.i 0,.i 0,.s ⟨#[]⟩]),(3, [.s a.1,.i 0,.i 0,.s ⟨#[]⟩])] [] p0<|sn [2,3] [2,3] (pc 2 (RB a.2) p0)<|tn [2] [2] p0<|Qc<|pz [] (show Nn a=a from rfl) (λz=> .a [.s z.1,.i z.2.1,.i z.2.2.1,.s z.2.2.2])
theorem Qlz(a:Wv):ACalls uE 247 [Aj a] (R7 a):=RC a
theorem Qi5(l:uA Wv):ACalls uE 198 [.h l] (LJ l):=toS default Zx func198 7 (λa=> [(6,.val (R7 a))]) (λa=> [.call 247 [Aj a] (R7 a)]) (λ_ _ a _ _=>pc 6 (Qlz a)) l
def I7(a:Yn):Yn:=a
theorem RD(a:Yn):ACalls uE 158 [.a [.i a.1,.i a.2.1,.b a.2.2.1,.i a.2.2.2.1,.h a.2.2.2.2]] (.a [.i ((I7 a).1),.i ((I7 a).2.1),.b ((I7 a).2.2.1),.i ((I7 a).2.2.2.1),.o 0 ((I7 a).2.2.2.2)]):=by
 refine en func158 λ_ _ _=>sn [1,2] [1,2] p0 ?_
 exact tn [1,2,3] [1,2,3] p0<|tu [(1,.p 1 0),(2,.p 2 0),(3,.p 3 0)] [0] [(1, [.i a.1,.i a.2.1,.b a.2.2.1,.i a.2.2.2.1,.h a.2.2.2.2]),(2, [.i 0,.i 0,.b uB,.i 0,.e 4]),(3, [.i a.1,.i 0,.b uB,.i 0,.e 4])] [] p0<|sn [1,2,3] [1,2,3] p0<|tn [1,2,3] [1,2,3] p0<|tu [] [] [(3, [.i a.1,.i a.2.1,.b a.2.2.1,.i a.2.2.2.1,.e 4])] [3] p0<|sn [2,3] [2,3] (pc 2 (Qi5 a.2.2.2.2) p0)<|tn [2] [2] p0<|Qc<|pz [] (show I7 a=a from rfl) (λz=> .a [.i z.1,.i z.2.1,.b z.2.2.1,.i z.2.2.2.1,.o 0 z.2.2.2.2])
theorem Ql0(a:Yn):ACalls uE 158 [Aj a] (R7 a):=RD a
theorem Qi6(l:uA Yn):ACalls uE 113 [.h l] (LJ l):=toS default Zx func113 7 (λa=> [(6,.val (R7 a))]) (λa=> [.call 158 [Aj a] (R7 a)]) (λ_ _ a _ _=>pc 6 (Ql0 a)) l
def Ox(a:Yl):Yl:=a
theorem LF(a:Yl):ACalls uE 61 [.a [.h a.1,.h a.2.1,.i a.2.2]] (.a [.o 0 ((Ox a).1),.o 1 ((Ox a).2.1),.i ((Ox a).2.2)]):=by
 refine en func61 λ_ _ _=>sn [1,2] [1,2] p0 ?_
 exact tn [1,2,3] [1,2,3] p0<|tu [(1,.p 1 0),(2,.p 2 0),(3,.p 3 0)] [0] [(1, [.h a.1,.h a.2.1,.i a.2.2]),(2, [.e 2,.e 5,.i 0]),(3, [.o 384 a.1,.e 5,.i 0])] [] (pc 2 (Qen a.1) p0)<|sn [1,2,3] [1,2,3] (pc 2 (Qi6 a.2.1) p0)<|tn [2,3] [2,3] p0<|tu [] [1,3] [(2, [.o 384 a.1,.o 640 a.2.1,.i a.2.2])] [1,2,3] p0<|Qc<|pz [] (show Ox a=a from rfl) (λz=> .a [.o 0 z.1,.o 1 z.2.1,.i z.2.2])
theorem RE(a:Yl):ACalls uE 61 [Aj a] (R7 a):=LF a
def Eu(a:Q9):Q9:=a
theorem RF(a:Q9):ACalls uE 199 [.a [.i a.1,.i a.2.1,.i a.2.2.1,.s a.2.2.2.1,.i a.2.2.2.2.1,.i a.2.2.2.2.2.1,.s a.2.2.2.2.2.2]] (.a [.i ((Eu a).1),.i ((Eu a).2.1),.i ((Eu a).2.2.1),.s ((Eu a).2.2.2.1),.i ((Eu a).2.2.2.2.1),.i ((Eu a).2.2.2.2.2.1),.s ((Eu a).2.2.2.2.2.2)]):=by
 refine en func199 λ_ _ _=>sn [1,2] [1,2] p0 ?_
 exact tn [1,2,3] [1,2,3] p0<|tu [(1,.p 1 0),(2,.p 2 0),(3,.p 3 0)] [0] [(1, [.i a.1,.i a.2.1,.i a.2.2.1,.s a.2.2.2.1,.i a.2.2.2.2.1,.i a.2.2.2.2.2.1,.s a.2.2.2.2.2.2]),(2, [.i 0,.i 0,.i 0,.s ⟨#[]⟩,.i 0,.i 0,.s ⟨#[]⟩]),(3, [.i a.1,.i 0,.i 0,.s ⟨#[]⟩,.i 0,.i 0,.s ⟨#[]⟩])] [] p0<|sn [1,2,3] [1,2,3] p0<|tn [1,2,3] [1,2,3] p0<|tu [] [] [(3, [.i a.1,.i a.2.1,.i a.2.2.1,.s a.2.2.2.1,.i 0,.i 0,.s ⟨#[]⟩])] [3] p0<|sn [2,3] [2,3] (pc 2 (RB a.2.2.2.2) p0)<|tn [2] [2] p0<|Qc<|pz [] (show Eu a=a from rfl) (λz=> .a [.i z.1,.i z.2.1,.i z.2.2.1,.s z.2.2.2.1,.i z.2.2.2.2.1,.i z.2.2.2.2.2.1,.s z.2.2.2.2.2.2])
theorem Ql1(a:Q9):ACalls uE 199 [Aj a] (R7 a):=RF a
theorem Qi7(l:uA Q9):ACalls uE 159 [.h l] (LJ l):=toS default Zx func159 7 (λa=> [(6,.val (R7 a))]) (λa=> [.call 199 [Aj a] (R7 a)]) (λ_ _ a _ _=>pc 6 (Ql1 a)) l
def BU(a:Zo):Zo:=a
theorem Qap(a:Zo):ACalls uE 114 [.a [.s a.1,.h a.2]] (.a [.s ((BU a).1),.o 0 ((BU a).2)]):=by
 refine en func114 λ_ _ _=>sn [1,2] [1,2] p0 ?_
 exact tn [1,2,3] [1,2,3] p0<|tu [(1,.p 1 0),(2,.p 2 0),(3,.p 3 0)] [0] [(1, [.s a.1,.h a.2]),(2, [.s ⟨#[]⟩,.e 7]),(3, [.s a.1,.e 7])] [] p0<|sn [2,3] [2,3] (pc 2 (Qi7 a.2) p0)<|tn [2] [2] p0<|Qc<|pz [] (show BU a=a from rfl) (λz=> .a [.s z.1,.o 0 z.2])
theorem Qpn(a:Zo):ACalls uE 114 [Aj a] (R7 a):=Qap a
theorem Qcy(l:uA Zo):ACalls uE 62 [.h l] (LJ l):=toS default Zx func62 7 (λa=> [(6,.val (R7 a))]) (λa=> [.call 114 [Aj a] (R7 a)]) (λ_ _ a _ _=>pc 6 (Qpn a)) l
theorem ZC(l:uA uC):ACalls uE 25 [.h l] (LJ l):=toS default Zx func25 6 (λ_=> []) (λ_=> []) (λ_ _ _ _ _ h=>h) l
def Ry(a:Qo):Qo:=a
theorem CW(a:Qo):ACalls uE 115 [.a [.s a.1,.h a.2]] (.a [.s ((Ry a).1),.o 0 ((Ry a).2)]):=by
 refine en func115 λ_ _ _=>sn [1,2] [1,2] p0 ?_
 exact tn [1,2,3] [1,2,3] p0<|tu [(1,.p 1 0),(2,.p 2 0),(3,.p 3 0)] [0] [(1, [.s a.1,.h a.2]),(2, [.s ⟨#[]⟩,.e 1]),(3, [.s a.1,.e 1])] [] p0<|sn [2,3] [2,3] (pc 2 (ZC a.2) p0)<|tn [2] [2] p0<|Qc<|pz [] (show Ry a=a from rfl) (λz=> .a [.s z.1,.o 0 z.2])
theorem Qeo(a:Qo):ACalls uE 115 [Aj a] (R7 a):=CW a
theorem Qaq(l:uA Qo):ACalls uE 63 [.h l] (LJ l):=toS default Zx func63 7 (λa=> [(6,.val (R7 a))]) (λa=> [.call 115 [Aj a] (R7 a)]) (λ_ _ a _ _=>pc 6 (Qeo a)) l
def Da(a:Wq):Wq:=a
theorem BV(a:Wq):ACalls uE 21 [.a [.h a.1.1,.h a.1.2.1,.i a.1.2.2,.h a.2.1,.h a.2.2]] (.a [.o 0 ((Da a).1.1),.o 1 ((Da a).1.2.1),.i ((Da a).1.2.2),.o 2 ((Da a).2.1),.o 3 ((Da a).2.2)]):=by
 refine en func21 λ_ _ _=>sn [1,2] [1,2] p0 ?_
 exact tn [1,2,3] [1,2,3] p0<|tu [(1,.p 1 0),(2,.p 2 0),(3,.p 3 0)] [0] [(1, [.h a.1.1,.h a.1.2.1,.i a.1.2.2,.h a.2.1,.h a.2.2]),(2, [.e 2,.e 5,.i 0,.e 2,.e 2]),(3, [.o 384 a.1.1,.o 385 a.1.2.1,.i a.1.2.2,.e 2,.e 2])] [] (pc 2 (RE a.1) p0)<|sn [1,2,3] [1,2,3] (pc 2 (Qcy a.2.1) p0)<|tn [2,3] [2,3] (pc 2 (Qaq a.2.2) p0)<|tu [] [1,3] [(2, [.o 384 a.1.1,.o 385 a.1.2.1,.i a.1.2.2,.o 640 a.2.1,.o 896 a.2.2])] [1,2,3] p0<|Qc<|pz [] (show Da a=a from rfl) (λz=> .a [.o 0 z.1.1,.o 1 z.1.2.1,.i z.1.2.2,.o 2 z.2.1,.o 3 z.2.2])
theorem Qar(a:Wq):ACalls uE 21 [Aj a] (R7 a):=BV a
def KD(a:N5):N5:=a
theorem RG(a:N5):ACalls uE 22 [.a [.s a.1,.s a.2]] (.a [.s ((KD a).1),.s ((KD a).2)]):=by
 refine en func22 λ_ _ _=>sn [1,2] [1,2] p0 ?_
 exact tn [1,2,3] [1,2,3] p0<|tu [(1,.p 1 0),(2,.p 2 0),(3,.p 3 0)] [0] [(1, [.s a.1,.s a.2]),(2, [.s ⟨#[]⟩,.s ⟨#[]⟩]),(3, [.s a.1,.s ⟨#[]⟩])] [] p0<|sn [2,3] [2,3] p0<|tn [2] [2] p0<|Qc<|pz [] (show KD a=a from rfl) (λz=> .a [.s z.1,.s z.2])
theorem Ql2(a:N5):ACalls uE 22 [Aj a] (R7 a):=RG a
def Dr(a:Qw):Qw:=a
theorem VM(a:Qw):ACalls uE 116 [.a [.h a.1.1,.h a.1.2.1,.i a.1.2.2,.h a.2]] (.a [.o 0 ((Dr a).1.1),.o 1 ((Dr a).1.2.1),.i ((Dr a).1.2.2),.o 2 ((Dr a).2)]):=by
 refine en func116 λ_ _ _=>sn [1,2] [1,2] p0 ?_
 exact tn [1,2,3] [1,2,3] p0<|tu [(1,.p 1 0),(2,.p 2 0),(3,.p 3 0)] [0] [(1, [.h a.1.1,.h a.1.2.1,.i a.1.2.2,.h a.2]),(2, [.e 2,.e 5,.i 0,.e 2]),(3, [.o 384 a.1.1,.o 385 a.1.2.1,.i a.1.2.2,.e 2])] [] (pc 2 (RE a.1) p0)<|sn [2,3] [2,3] (pc 2 (Qcy a.2) p0)<|tn [2] [2] p0<|Qc<|pz [] (show Dr a=a from rfl) (λz=> .a [.o 0 z.1.1,.o 1 z.1.2.1,.i z.1.2.2,.o 2 z.2])
theorem RH(a:Qw):ACalls uE 116 [Aj a] (R7 a):=VM a
def Bc(a:Ya):Ya:=a
theorem BW(a:Ya):ACalls uE 64 [.a [.i a.1,.h a.2.1.1.1,.h a.2.1.1.2.1,.i a.2.1.1.2.2,.h a.2.1.2,.i a.2.2]] (.a [.i ((Bc a).1),.o 0 ((Bc a).2.1.1.1),.o 1 ((Bc a).2.1.1.2.1),.i ((Bc a).2.1.1.2.2),.o 2 ((Bc a).2.1.2),.i ((Bc a).2.2)]):=by
 refine en func64 λ_ _ _=>sn [1,2] [1,2] p0 ?_
 exact tn [1,2,3] [1,2,3] p0<|tu [(1,.p 1 0),(2,.p 2 0),(3,.p 3 0)] [0] [(1, [.i a.1,.h a.2.1.1.1,.h a.2.1.1.2.1,.i a.2.1.1.2.2,.h a.2.1.2,.i a.2.2]),(2, [.i 0,.e 2,.e 5,.i 0,.e 2,.i 0]),(3, [.i a.1,.e 2,.e 5,.i 0,.e 2,.i 0])] [] p0<|sn [1,2,3] [1,2,3] (pc 2 (RH a.2.1) p0)<|tn [2,3] [2,3] p0<|tu [] [1,3] [(2, [.i a.1,.o 576 a.2.1.1.1,.o 577 a.2.1.1.2.1,.i a.2.1.1.2.2,.o 578 a.2.1.2,.i a.2.2])] [1,2,3] p0<|Qc<|pz [] (show Bc a=a from rfl) (λz=> .a [.i z.1,.o 0 z.2.1.1.1,.o 1 z.2.1.1.2.1,.i z.2.1.1.2.2,.o 2 z.2.1.2,.i z.2.2])
theorem Qas(a:Ya):ACalls uE 64 [Aj a] (R7 a):=BW a
theorem RI(l:uA Ya):ACalls uE 23 [.h l] (LJ l):=toS default Zx func23 7 (λa=> [(6,.val (R7 a))]) (λa=> [.call 64 [Aj a] (R7 a)]) (λ_ _ a _ _=>pc 6 (Qas a)) l
def Oy(a:Kn):Kn:=a
theorem LG(a:Kn):ACalls uE 160 [.a [.i a.1,.h a.2.1,.h a.2.2]] (.a [.i ((Oy a).1),.o 0 ((Oy a).2.1),.o 1 ((Oy a).2.2)]):=by
 refine en func160 λ_ _ _=>sn [1,2] [1,2] p0 ?_
 exact tn [1,2,3] [1,2,3] p0<|tu [(1,.p 1 0),(2,.p 2 0),(3,.p 3 0)] [0] [(1, [.i a.1,.h a.2.1,.h a.2.2]),(2, [.i 0,.e 1,.e 1]),(3, [.i a.1,.e 1,.e 1])] [] p0<|sn [1,2,3] [1,2,3] (pc 2 (ZC a.2.1) p0)<|tn [2,3] [2,3] (pc 2 (ZC a.2.2) p0)<|tu [] [1,3] [(2, [.i a.1,.o 576 a.2.1,.o 832 a.2.2])] [1,2,3] p0<|Qc<|pz [] (show Oy a=a from rfl) (λz=> .a [.i z.1,.o 0 z.2.1,.o 1 z.2.2])
theorem Qi8(a:Kn):ACalls uE 160 [Aj a] (R7 a):=LG a
theorem Qep(l:uA Kn):ACalls uE 117 [.h l] (LJ l):=toS default Zx func117 7 (λa=> [(6,.val (R7 a))]) (λa=> [.call 160 [Aj a] (R7 a)]) (λ_ _ a _ _=>pc 6 (Qi8 a)) l
def L7(a:Zz):Zz:=a
theorem LH(a:Zz):ACalls uE 65 [.a [.i a.1,.s a.2.1,.h a.2.2.1,.h a.2.2.2]] (.a [.i ((L7 a).1),.s ((L7 a).2.1),.o 0 ((L7 a).2.2.1),.o 1 ((L7 a).2.2.2)]):=by
 refine en func65 λ_ _ _=>sn [1,2] [1,2] p0 ?_
 exact tn [1,2,3] [1,2,3] p0<|tu [(1,.p 1 0),(2,.p 2 0),(3,.p 3 0)] [0] [(1, [.i a.1,.s a.2.1,.h a.2.2.1,.h a.2.2.2]),(2, [.i 0,.s ⟨#[]⟩,.e 1,.e 3]),(3, [.i a.1,.s ⟨#[]⟩,.e 1,.e 3])] [] p0<|sn [1,2,3] [1,2,3] p0<|tn [1,2,3] [1,2,3] (pc 2 (ZC a.2.2.1) p0)<|tu [] [1] [(3, [.i a.1,.s a.2.1,.o 768 a.2.2.1,.o 1024 a.2.2.2])] [1,3] (pc 2 (Qep a.2.2.2) p0)<|sn [2] [2] p0<|Qc<|pz [] (show L7 a=a from rfl) (λz=> .a [.i z.1,.s z.2.1,.o 0 z.2.2.1,.o 1 z.2.2.2])
theorem Qi9(a:Zz):ACalls uE 65 [Aj a] (R7 a):=LH a
theorem Qeq(l:uA Zz):ACalls uE 24 [.h l] (LJ l):=toS default Zx func24 7 (λa=> [(6,.val (R7 a))]) (λa=> [.call 65 [Aj a] (R7 a)]) (λ_ _ a _ _=>pc 6 (Qi9 a)) l
def Wp(a:Jy):Jy:=a
theorem CX(a:Jy):ACalls uE 6 [.a [.h a.1.1.1,.h a.1.1.2.1,.i a.1.1.2.2,.h a.1.2.1,.h a.1.2.2,.s a.2.1.1,.s a.2.1.2,.i a.2.2.1,.h a.2.2.2.1,.h a.2.2.2.2.1,.h a.2.2.2.2.2]] (.a [.o 0 ((Wp a).1.1.1),.o 1 ((Wp a).1.1.2.1),.i ((Wp a).1.1.2.2),.o 2 ((Wp a).1.2.1),.o 3 ((Wp a).1.2.2),.s ((Wp a).2.1.1),.s ((Wp a).2.1.2),.i ((Wp a).2.2.1),.o 4 ((Wp a).2.2.2.1),.o 5 ((Wp a).2.2.2.2.1),.o 6 ((Wp a).2.2.2.2.2)]):=by
 refine en func6 λ_ _ _=>sn [1,2] [1,2] p0 ?_
 exact tn [1,2,3] [1,2,3] p0<|tu [(1,.p 1 0),(2,.p 2 0),(3,.p 3 0)] [0] [(1, [.h a.1.1.1,.h a.1.1.2.1,.i a.1.1.2.2,.h a.1.2.1,.h a.1.2.2,.s a.2.1.1,.s a.2.1.2,.i a.2.2.1,.h a.2.2.2.1,.h a.2.2.2.2.1,.h a.2.2.2.2.2]),(2, [.e 2,.e 5,.i 0,.e 2,.e 2,.s ⟨#[]⟩,.s ⟨#[]⟩,.i 0,.e 6,.e 4,.e 1]),(3, [.o 384 a.1.1.1,.o 385 a.1.1.2.1,.i a.1.1.2.2,.o 386 a.1.2.1,.o 387 a.1.2.2,.s ⟨#[]⟩,.s ⟨#[]⟩,.i 0,.e 6,.e 4,.e 1])] [] (pc 2 (Qar a.1) p0)<|sn [1,2,3] [1,2,3] (pc 2 (Ql2 a.2.1) p0)<|tn [1,2,3] [1,2,3] p0<|tu [] [] [(3, [.o 384 a.1.1.1,.o 385 a.1.1.2.1,.i a.1.1.2.2,.o 386 a.1.2.1,.o 387 a.1.2.2,.s a.2.1.1,.s a.2.1.2,.i a.2.2.1,.o 1088 a.2.2.2.1,.e 4,.e 1])] [3] (pc 2 (RI a.2.2.2.1) p0)<|sn [1,2,3] [1,2,3] (pc 2 (Qeq a.2.2.2.2.1) p0)<|tn [2,3] [2,3] (pc 2 (ZC a.2.2.2.2.2) p0)<|tu [] [1,3] [(2, [.o 384 a.1.1.1,.o 385 a.1.1.2.1,.i a.1.1.2.2,.o 386 a.1.2.1,.o 387 a.1.2.2,.s a.2.1.1,.s a.2.1.2,.i a.2.2.1,.o 1088 a.2.2.2.1,.o 1344 a.2.2.2.2.1,.o 1600 a.2.2.2.2.2])] [1,2,3] p0<|Qc<|pz [] (show Wp a=a from rfl) (λz=> .a [.o 0 z.1.1.1,.o 1 z.1.1.2.1,.i z.1.1.2.2,.o 2 z.1.2.1,.o 3 z.1.2.2,.s z.2.1.1,.s z.2.1.2,.i z.2.2.1,.o 4 z.2.2.2.1,.o 5 z.2.2.2.2.1,.o 6 z.2.2.2.2.2])
theorem Qer(a:Jy):ACalls uE 6 [Aj a] (R7 a):=CX a
theorem Sn(a:Jy)(h:GoD.size a<=1048576):ACalls uE 6 [Aj a] (R7 a):=Qer a
theorem Qja(a:Y4):ACalls uE 179 [Aj a,Aj a] (.b y):=eqA Zx func179 a λ_ _ _=>eqT Zx a.1<|eqI Zx a.2<|eqE Zx
theorem Qes(l:uA Y4):ACalls uE 131 [.h l,.h l] (.b y):=eqS Zx XD func131 y (λa=> .call 179 [Aj a,Aj a] (.b y)) (λ_ _ a=>Ml (Qja a)) l
theorem RJ(a:Va):ACalls uE 274 [Aj a,Aj a] (.b y):=eqA Zx func274 a λ_ _ _=>eqI Zx a.1<|eqI Zx a.2.1<|eqT Zx a.2.2<|eqE Zx
theorem Ql3(a:Wv):ACalls uE 273 [Aj a,Aj a] (.b y):=eqA Zx func273 a λ_ _ _=>eqT Zx a.1<|eqG Zx (RJ a.2)<|eqE Zx
theorem Qjb(l:uA Wv):ACalls uE 225 [.h l,.h l] (.b y):=eqS Zx XD func225 y (λa=> .call 273 [Aj a,Aj a] (.b y)) (λ_ _ a=>Ml (Ql3 a)) l
theorem Ql4(a:Yn):ACalls uE 180 [Aj a,Aj a] (.b y):=eqA Zx func180 a λ_ _ _=>eqI Zx a.1<|eqI Zx a.2.1<|eqB Zx a.2.2.1<|eqI Zx a.2.2.2.1<|eqG Zx (Qjb a.2.2.2.2)<|eqE Zx
theorem Qjc(l:uA Yn):ACalls uE 132 [.h l,.h l] (.b y):=eqS Zx XD func132 y (λa=> .call 180 [Aj a,Aj a] (.b y)) (λ_ _ a=>Ml (Ql4 a)) l
theorem RK(a:Yl):ACalls uE 77 [Aj a,Aj a] (.b y):=eqA Zx func77 a λ_ _ _=>eqG Zx (Qes a.1)<|eqG Zx (Qjc a.2.1)<|eqI Zx a.2.2<|eqE Zx
theorem Ql5(a:Q9):ACalls uE 226 [Aj a,Aj a] (.b y):=eqA Zx func226 a λ_ _ _=>eqI Zx a.1<|eqI Zx a.2.1<|eqI Zx a.2.2.1<|eqT Zx a.2.2.2.1<|eqG Zx (RJ a.2.2.2.2)<|eqE Zx
theorem Qjd(l:uA Q9):ACalls uE 181 [.h l,.h l] (.b y):=eqS Zx XD func181 y (λa=> .call 226 [Aj a,Aj a] (.b y)) (λ_ _ a=>Ml (Ql5 a)) l
theorem Qpo(a:Zo):ACalls uE 133 [Aj a,Aj a] (.b y):=eqA Zx func133 a λ_ _ _=>eqT Zx a.1<|eqG Zx (Qjd a.2)<|eqE Zx
theorem Qcz(l:uA Zo):ACalls uE 78 [.h l,.h l] (.b y):=eqS Zx XD func78 y (λa=> .call 133 [Aj a,Aj a] (.b y)) (λ_ _ a=>Ml (Qpo a)) l
theorem ZD(l:uA uC):ACalls uE 35 [.h l,.h l] (.b y):=eqS Zx XD func35 uB (λa=> .eq (.b (a !=a)) (.b uB)) (λ_ _ a=>Qn (by simp)) l
theorem Qet(a:Qo):ACalls uE 134 [Aj a,Aj a] (.b y):=eqA Zx func134 a λ_ _ _=>eqT Zx a.1<|eqG Zx (ZD a.2)<|eqE Zx
theorem Qat(l:uA Qo):ACalls uE 79 [.h l,.h l] (.b y):=eqS Zx XD func79 y (λa=> .call 134 [Aj a,Aj a] (.b y)) (λ_ _ a=>Ml (Qet a)) l
theorem Qau(a:Wq):ACalls uE 31 [Aj a,Aj a] (.b y):=eqA Zx func31 a λ_ _ _=>eqG Zx (RK a.1)<|eqG Zx (Qcz a.2.1)<|eqG Zx (Qat a.2.2)<|eqE Zx
theorem Ql6(a:N5):ACalls uE 32 [Aj a,Aj a] (.b y):=eqA Zx func32 a λ_ _ _=>eqT Zx a.1<|eqT Zx a.2<|eqE Zx
theorem RL(a:Qw):ACalls uE 135 [Aj a,Aj a] (.b y):=eqA Zx func135 a λ_ _ _=>eqG Zx (RK a.1)<|eqG Zx (Qcz a.2)<|eqE Zx
theorem Qav(a:Ya):ACalls uE 80 [Aj a,Aj a] (.b y):=eqA Zx func80 a λ_ _ _=>eqI Zx a.1<|eqG Zx (RL a.2.1)<|eqI Zx a.2.2<|eqE Zx
theorem RM(l:uA Ya):ACalls uE 33 [.h l,.h l] (.b y):=eqS Zx XD func33 y (λa=> .call 80 [Aj a,Aj a] (.b y)) (λ_ _ a=>Ml (Qav a)) l
theorem Qje(a:Kn):ACalls uE 182 [Aj a,Aj a] (.b y):=eqA Zx func182 a λ_ _ _=>eqI Zx a.1<|eqG Zx (ZD a.2.1)<|eqG Zx (ZD a.2.2)<|eqE Zx
theorem Qeu(l:uA Kn):ACalls uE 136 [.h l,.h l] (.b y):=eqS Zx XD func136 y (λa=> .call 182 [Aj a,Aj a] (.b y)) (λ_ _ a=>Ml (Qje a)) l
theorem Qjf(a:Zz):ACalls uE 81 [Aj a,Aj a] (.b y):=eqA Zx func81 a λ_ _ _=>eqI Zx a.1<|eqT Zx a.2.1<|eqG Zx (ZD a.2.2.1)<|eqG Zx (Qeu a.2.2.2)<|eqE Zx
theorem Qev(l:uA Zz):ACalls uE 34 [.h l,.h l] (.b y):=eqS Zx XD func34 y (λa=> .call 81 [Aj a,Aj a] (.b y)) (λ_ _ a=>Ml (Qjf a)) l
theorem Qew(a:Jy):ACalls uE 8 [Aj a,Aj a] (.b y):=eqA Zx func8 a λ_ _ _=>eqG Zx (Qau a.1)<|eqG Zx (Ql6 a.2.1)<|eqI Zx a.2.2.1<|eqG Zx (RM a.2.2.2.1)<|eqG Zx (Qev a.2.2.2.2.1)<|eqG Zx (ZD a.2.2.2.2.2)<|eqE Zx
theorem So{a b:Jy}(h:a=b):ACalls uE 8 [Aj a,Aj b] (Qqj y):=h▸Qew a
theorem KW(a:Jy)(K:uC)(k:uD)(b:K=k)(d:1<=k)(g:k<=1152921504606846976)(e:GoD.size a<=1073741824):Qrs uE 9 a K (GoD.markT a k):=⟨(by unfold Fr;kernel_rfl),λw L c f=>PP w c a L K k b d (by have:=bdT (a:=a) (k:=k) (by decide) e;omega) f⟩
theorem KX(a:Jy)(b:GoD.size a<=1073741824):ACalls uE 10 [Aj (GoD.markT a 1).1,Qmp 1] (Qmp ((GoD.markT a 1).2:uD)):=Qeh (by unfold Fr;kernel_rfl) (by have:=bdT (a:=a) (k:=1) (by decide) b;rw[Mi];unfold I64;omega) λw c d=>PS w c a _ 1 1 rfl (by omega) (by have:=bdT (a:=a) (k:=1) (by decide) b;omega) rfl d
def Fq(a:Jy):Bool:=(bif decide ((szI (GoD.size a) 1048576)<(0:uC)) then y else y)
theorem Sx(c:Jy):ACalls uE 3 [.a [.h c.1.1.1,.h c.1.1.2.1,.i c.1.1.2.2,.h c.1.2.1,.h c.1.2.2,.s c.2.1.1,.s c.2.1.2,.i c.2.2.1,.h c.2.2.2.1,.h c.2.2.2.2.1,.h c.2.2.2.2.2]] (.b (Fq c)):=by
 refine en func3 λ_ _ _=>sn [1,2] [1] p0 ?_
 refine tn [1,2,3] [1] p0 ?_;have f:=Qrq (GoD.size c) 1048576;refine tu [(1,.p 1 0),(2,.b uB),(3,.i (szI (GoD.size c) 1048576))] [0] [(1, [.h c.1.1.1,.h c.1.1.2.1,.i c.1.1.2.2,.h c.1.2.1,.h c.1.2.2,.s c.2.1.1,.s c.2.1.2,.i c.2.2.1,.h c.2.2.2.1,.h c.2.2.2.2.1,.h c.2.2.2.2.2])] [] (pc 2 (Qem c 1048576 (by omega) (by omega)) p0)<|Qa<|sn [1,2,18] [1] p0<|ck (decide ((szI (GoD.size c) 1048576)<(0:uC))) (λe=>?_) (λe=>?_)
 ·exact tn [1,2] [1] p0<|Qc<|pb [] (Xg e rfl)
 have g:=of_decide_eq_false e;refine Qd ?_;have d:GoD.size c<=1048576:=by omega
 refine tn [1,2,4,5] [1,4] (pc 1 (Sn c d) (pc 2 ((Qef c (zD d (by decide)))▸(IY c (zD d (by decide)) (zD (S4 (S4 (M7 d))) (by decide)) (zD (M7 (S4 (M7 d))) (by decide)))) p0))<|tu [(4,.p 4 0),(5,.b (((Qk c)).2)),(6,.p 6 0)] [3] [(4, [.o 1408 ((((Qk c)).1).1.1.1),.o 1409 ((((Qk c)).1).1.1.2.1),.i ((((Qk c)).1).1.1.2.2),.o 1410 ((((Qk c)).1).1.2.1),.o 1411 ((((Qk c)).1).1.2.2),.s ((((Qk c)).1).2.1.1),.s ((((Qk c)).1).2.1.2),.i ((((Qk c)).1).2.2.1),.o 1412 ((((Qk c)).1).2.2.2.1),.o 1413 ((((Qk c)).1).2.2.2.2.1),.o 1414 ((((Qk c)).1).2.2.2.2.2)]),(6, [.o 1664 c.1.1.1,.o 1665 c.1.1.2.1,.i c.1.1.2.2,.o 1666 c.1.2.1,.o 1667 c.1.2.2,.s c.2.1.1,.s c.2.1.2,.i c.2.2.1,.o 1668 c.2.2.2.1,.o 1669 c.2.2.2.2.1,.o 1670 c.2.2.2.2.2])] [] (pc 1 (Sn c d) p0)<|sn [1,2,4,5,6,7,8] [1,4,6,7] (pc 1 (YY c (zD d (by decide)) (zD (S4 (S4 (M7 d))) (by decide)) (zD (M7 (S4 (M7 d))) (by decide))) p0)<|Qa<|tn [1,2,4,5,6,7,8,40] [1,4,6,7] (pc 2 (So (a:=((Qk c)).1) (b:=((Qk c)).1) rfl) (pe 3 (show .b (!y)= .b uB from rfl) (pe 7 (show .b (!((((Qk c)).2)==(((Qk c)).2)))= .b uB from Qn (by simp)) p0)))<|ckF<|Qd<|Qa<|tU [(7,.p 7 0),(8,.b (((Qk c)).2)),(45,.b uB)] [] [(7, [.o 1856 ((((Qk c)).1).1.1.1),.o 1857 ((((Qk c)).1).1.1.2.1),.i ((((Qk c)).1).1.1.2.2),.o 1858 ((((Qk c)).1).1.2.1),.o 1859 ((((Qk c)).1).1.2.2),.s ((((Qk c)).1).2.1.1),.s ((((Qk c)).1).2.1.2),.i ((((Qk c)).1).2.2.1),.o 1860 ((((Qk c)).1).2.2.2.1),.o 1861 ((((Qk c)).1).2.2.2.2.1),.o 1862 ((((Qk c)).1).2.2.2.2.2)])] [] (pc 2 (Sn c d) (pc 3 (So (a:=c) (b:=c) rfl) (pe 4 (show .b (!y)= .b uB from rfl) p0)))<|ckF<|Qd<|su [(9,.i 1)] [45] [] [] p0<|Qa ?_
 have h:=bdT (a:=c) (k:=1) (by decide) (zD d (by decide));have i:=GoD.mkT_le c 1;refine PW Zx (KW c 1 1 rfl (by omega) (by omega) ((zD d (by decide)))) (by rw[Mi];unfold I64;omega) GoM.mkT [1664,1665,1666,1667,1668,1669,1670] [1,2,4,5,7,8,9] [1,4,7] (s':=⟨[(1,.p 1 0),(2,.b uB),(4,.p 4 0),(5,.b (((Qk c)).2)),(7,.p 7 0),(8,.b (((Qk c)).2)),(9,.i (((GoD.markT c 1).2:uD):uC))], [(1, [.h c.1.1.1,.h c.1.1.2.1,.i c.1.1.2.2,.h c.1.2.1,.h c.1.2.2,.s c.2.1.1,.s c.2.1.2,.i c.2.2.1,.h c.2.2.2.1,.h c.2.2.2.2.1,.h c.2.2.2.2.2]),(4, [.o 1408 ((((Qk c)).1).1.1.1),.o 1409 ((((Qk c)).1).1.1.2.1),.i ((((Qk c)).1).1.1.2.2),.o 1410 ((((Qk c)).1).1.2.1),.o 1411 ((((Qk c)).1).1.2.2),.s ((((Qk c)).1).2.1.1),.s ((((Qk c)).1).2.1.2),.i ((((Qk c)).1).2.2.1),.o 1412 ((((Qk c)).1).2.2.2.1),.o 1413 ((((Qk c)).1).2.2.2.2.1),.o 1414 ((((Qk c)).1).2.2.2.2.2)]),(7, [.o 1856 ((((Qk c)).1).1.1.1),.o 1857 ((((Qk c)).1).1.1.2.1),.i ((((Qk c)).1).1.1.2.2),.o 1858 ((((Qk c)).1).1.2.1),.o 1859 ((((Qk c)).1).1.2.2),.s ((((Qk c)).1).2.1.1),.s ((((Qk c)).1).2.1.2),.i ((((Qk c)).1).2.2.1),.o 1860 ((((Qk c)).1).2.2.2.1),.o 1861 ((((Qk c)).1).2.2.2.2.1),.o 1862 ((((Qk c)).1).2.2.2.2.2)])]⟩) rfl rfl rfl rfl rfl rfl rfl rfl rfl rfl rfl rfl (by kernel_rfl) rfl rfl (by kernel_rfl) rfl rfl (by kernel_rfl) (by kernel_rfl) rfl (by kernel_rfl) ?_;refine Qa<|su [(61,.b uB)] [8,9] [] [] (pe 1 (Qoe (p:=(((GoD.markT c 1).2:uD):uC)<(0:uC)) (by omega)) (pc 5 (So (a:=((Qk c)).1) (b:=((Qk c)).1) rfl) (pe 6 (show .b (!y)= .b uB from rfl) (pe 11 (show .b (!((((Qk c)).2)==(((Qk c)).2)))= .b uB from Qn (by simp)) p0))))<|ckF<|Qd<|su [(10,.i 1)] [61] [] [] p0<|Qa ?_
 have j:=bdT (a:=(((Qk c)).1)) (k:=1) (by decide) (Mh c (by omega));have l:=GoD.mkT_le (((Qk c)).1) 1;refine PW Zx (KW (((Qk c)).1) 1 1 rfl (by omega) (by omega) ((Mh c (by omega)))) (by rw[Mi];unfold I64;omega) GoM.mkT [1856,1857,1858,1859,1860,1861,1862] [1,2,4,5,7,10] [1,4,7] (s':=⟨[(1,.p 1 0),(2,.b uB),(4,.p 4 0),(5,.b (((Qk c)).2)),(7,.p 7 0),(10,.i (((GoD.markT (((Qk c)).1) 1).2:uD):uC))], [(1, [.h c.1.1.1,.h c.1.1.2.1,.i c.1.1.2.2,.h c.1.2.1,.h c.1.2.2,.s c.2.1.1,.s c.2.1.2,.i c.2.2.1,.h c.2.2.2.1,.h c.2.2.2.2.1,.h c.2.2.2.2.2]),(4, [.o 1408 ((((Qk c)).1).1.1.1),.o 1409 ((((Qk c)).1).1.1.2.1),.i ((((Qk c)).1).1.1.2.2),.o 1410 ((((Qk c)).1).1.2.1),.o 1411 ((((Qk c)).1).1.2.2),.s ((((Qk c)).1).2.1.1),.s ((((Qk c)).1).2.1.2),.i ((((Qk c)).1).2.2.1),.o 1412 ((((Qk c)).1).2.2.2.1),.o 1413 ((((Qk c)).1).2.2.2.2.1),.o 1414 ((((Qk c)).1).2.2.2.2.2)]),(7, [.h (((GoD.markT (((Qk c)).1) 1).1).1.1.1),.h (((GoD.markT (((Qk c)).1) 1).1).1.1.2.1),.i (((GoD.markT (((Qk c)).1) 1).1).1.1.2.2),.h (((GoD.markT (((Qk c)).1) 1).1).1.2.1),.h (((GoD.markT (((Qk c)).1) 1).1).1.2.2),.s (((GoD.markT (((Qk c)).1) 1).1).2.1.1),.s (((GoD.markT (((Qk c)).1) 1).1).2.1.2),.i (((GoD.markT (((Qk c)).1) 1).1).2.2.1),.h (((GoD.markT (((Qk c)).1) 1).1).2.2.2.1),.h (((GoD.markT (((Qk c)).1) 1).1).2.2.2.2.1),.h (((GoD.markT (((Qk c)).1) 1).1).2.2.2.2.2)])]⟩) rfl rfl rfl rfl rfl rfl rfl rfl rfl rfl rfl rfl (by kernel_rfl) rfl rfl (by kernel_rfl) rfl rfl (by kernel_rfl) (by kernel_rfl) rfl (by kernel_rfl) ?_;exact su [(11,.i 1)] [] [] [] p0<|sn [1,2,4,5,7,10,11] [1,4,7] (pc 2 (KX (((Qk c)).1) (Mh c (by omega))) p0)<|Qa<|tn [1,2,4,5,7,10,11,69] [1,4,7] (pe 1 (Qoe (p:=(((GoD.markT (((Qk c)).1) 1).2:uD):uC)<(0:uC)) (by omega)) p0)<|ckF<|Qd<|Qa<|tu [(11,.i (((GoD.markT (((Qk c)).1) 1).2:uD):uC)),(72,.b uB)] [11] [] [] (pe 2 (show .b ((((GoD.markT (((Qk c)).1) 1).2:uD):uC) !=(((GoD.markT (((Qk c)).1) 1).2:uD):uC))= .b uB from Qn (by simp)) p0)<|ckF<|Qd<|sn [2,4,5,7,10,11,12,13] [4,7,12] (pc 1 (Sn c d) (pc 2 (YY c (zD d (by decide)) (zD (S4 (S4 (M7 d))) (by decide)) (zD (M7 (S4 (M7 d))) (by decide))) p0))<|Qa<|tn [2,7,10,11,87] [7] (pc 2 (So (a:=((Qk c)).1) (b:=((Qk c)).1) rfl) (pe 3 (show .b (!y)= .b uB from rfl) (pe 7 (show .b (!((((Qk c)).2)==(((Qk c)).2)))= .b uB from Qn (by simp)) p0)))<|ckF<|Qd<|tu [(11,.i 1)] [1,4,5,11,72] [] [1,4] p0<|sn [2,10,11] [] (pc 2 (KX (((Qk c)).1) (Mh c (by omega))) p0)<|Qa<|tn [2,10,11,92] [] (pe 1 (Qoe (p:=(((GoD.markT (((Qk c)).1) 1).2:uD):uC)<(0:uC)) (by omega)) p0)<|ckF<|Qd<|Qa<|tu [(95,.b uB)] [7,10,11] [] [7] (pe 2 (show .b ((((GoD.markT (((Qk c)).1) 1).2:uD):uC) !=(((GoD.markT (((Qk c)).1) 1).2:uD):uC))= .b uB from Qn (by simp)) p0)<|ckF<|Qd<|sn [2] [] p0<|Qc<|pb [] (Qi e rfl)
open GoD (rd own)
set_option maxRecDepth 100000 in
set_option maxHeartbeats 1000000 in
theorem Qex(w:World)(x:uA Value)(a:Jy)(t:rd w x a)(s:¬(GoD.size a<=1048576)):Calls uE 3 #[.agg x.toArray] w (Ret w (.bool y)):=by
 obtain⟨b,c,d,e,f,g,h,i,j,k,l,m,n,p,rfl⟩:=MW t;have u:=Lib.hid t;clear t;have q:True:=trivial;go_enter func3,ntmps3
 go_wp2_with (first | (go_at_call 4;have tk:=q;clear q;refine Vi (w:=w) (FA _ [.slice b a.1.1.1.length c,.slice d a.1.1.2.1.length e,.int .i64 a.1.1.2.2,.slice f a.1.2.1.length g,.slice h a.1.2.2.length i,.string a.2.1.1,.string a.2.1.2,.int .i64 a.2.2.1,.slice j a.2.2.2.1.length k,.slice l a.2.2.2.2.1.length m,.slice n a.2.2.2.2.2.length p] a _ (Yv u.out (by repeat (first | (with_reducible exact Below.refl _ _) | (with_reducible refine Below.alloc ?_ (by go_size) _) | (with_reducible refine Below.drew ?_)))) (by omega) (by omega)) (by repeat (first | (with_reducible exact Below.refl _ _) | (with_reducible refine Below.alloc ?_ (by go_size) _) | (with_reducible refine Below.drew ?_))) ?_;intro w1 r1 a2 hb a3 _ z a4;have v:=Lib.hid z;clear z;have r:=hb.size;(repeat (first | rewrite [World.size_alloc] at r | rewrite [World.size_setCell] at r | rewrite [World.size_drew] at r));have V:=λo=>Ax hb (w.heap.size) o (by go_size);have a1:w.heap.size<w1.heap.size:=(by go_size);have a5:=Lib.hid hb;clear hb) | (exfalso;have q1:=v.out;apply s;unfold szq at*;omega))
 all_goals
  go_ret
  refine⟨rfl, ?_⟩;first | (with_reducible assumption) | go_grown
theorem Oz(a:Jy):Fq a=y:=by
 unfold Fq;simp
theorem Qey(w:World)(c:uA Value)(a:Jy)(d:rd w c a)(e:Good uE w):Calls uE 3 #[.agg c.toArray] w (Ret w (.bool y)):=by
 by_cases b:GoD.size a<=1048576
 . haveI:Good uE w:=e
   have h:=(Sx a).run (.cons (Qn2 d (GoE.wide_size (show GoD.size a<=1073741824 by omega))) .nil);rw[Oz] at h;exact h.mono λ_ _ h=>Qkf h
 exact Qex w c a d b
end Go.Proofs.YtkdnkiggkgakmaaGreatDoor
