/- Texts of this proof, put together by a program: Sz, Eq, To, LPi, MPi. -/
import Derived.Test.YtkekndahbiefaaaGreatDoorP6
import Derived.Test.YtkekndahbiefaaaGreatDoorProg
import Derived.KernelRfl
import Derived.Outline
set_option linter.unusedVariables false
set_option linter.unusedSimpArgs false
namespace Go.Proofs.YtkekndahbiefaaaGreatDoor
open Go.RowKit
open GoD (rd own)
set_option maxRecDepth 100000 in
set_option maxHeartbeats 1000000 in
theorem Qcz (w:World) (ca:List Value) (a:Kt) (left:Int) (ha:rd w ca a) (h0:0<=left) (h1:left<=1048576):Calls Tryz.prog 116 #[.agg ca.toArray, .int .i64 left] w (Ny w (GoD.size a) left):=by
 obtain ⟨a1,a2⟩:=a;obtain ⟨ac1,at1,rfl,ar1,ar2⟩:=ha;obtain ⟨rfl,ar1⟩:=ar1;obtain ⟨rfl,ar2⟩:=ar2;dsimp only[List.cons_append,List.nil_append] at*;unfold maxLen at ar1;have ar1:a1.size<=9223372036854775807:=by omega
 clear ar2;have hsz:GoD.size (a1,a2)=(a1.size+0):=rfl;have HSZ:=Lib.hid hsz;clear hsz;go_enter Tryz.func116,Tryz.ntmps116
 go_wp2
 all_goals
  go_ret
  refine ⟨_,rfl, ?_,by go_grown⟩;rw[HSZ.out];unfold szq
  (try unfold szq at*)
  go_light
  omega
set_option maxRecDepth 100000 in
set_option maxHeartbeats 1000000 in
theorem SR (w:World) (v:Value) (l:List Kt) (left:Int) (ha:rd w [v] l) (h0:0<=left) (h1:left<=1048576):Calls Tryz.prog 54 #[v, .int .i64 left] w (Ny w (GoD.size l) left):=by
 obtain ⟨oa,cap,e1,hl,hm,hel⟩:=ha;obtain rfl:v=_:=by simpa using e1
 clear e1;have HE:=Lib.hid hel;clear hel;unfold maxLen at hm;have hlm:l.length<=9223372036854775807:=by omega
 have hsz:GoD.size l=l.length+(l.map GoD.size).sum:=rfl;have HSZ:=Lib.hid hsz;clear hsz;by_cases hneg:left-l.length<0
 . go_enter Tryz.func54,Tryz.ntmps54
   go_wp2
   go_ret
   refine ⟨_,rfl, ?_,Below.refl _ _⟩;rw[HSZ.out];unfold szq;omega
 go_enter Tryz.func54,Tryz.ntmps54
 go_wp2
 go_loopw [1,5] (fun q i wr=>∃(k:Nat) (r:Int),k<=l.length/\i= .int .i64 k/\q= .int .i64 r/\0<=r/\r<=1048576/\Hid (r=left-l.length-((l.take k).map GoD.size).sum)/\Below w.heap.size w wr) (fun _ i _=>l.length-(intOf i).toNat)
 case atStart=>exact ⟨0,_,Nat.zero_le _,rfl,rfl,by omega,by omega,by show _=_;simp,Below.refl _ _⟩
 case round=>
  obtain ⟨k,r,hk,rfl,rfl,hr0,hr1,HR,hB⟩:=hrel;by_cases hkl:k<l.length
  . have hx:=List.getElem?_eq_getElem hkl;obtain ⟨eb,eo,ee,rfl,hcl,hcc,hxr⟩:=HE.out k _ hx;have HT:=Lib.hid (Nz hx);have HU:=Lib.hid (D7 hx);clear hx;generalize l[k]=x at*;obtain ⟨x0,x1,rfl⟩:=Ry (show _=2 from hcl);have p0:wr.cell? ⟨eb,eo+k*2,none⟩=some x0:=(hB.cell (World.block_lt_of_cell? w _ (hcc 0 _ rfl))).trans (hcc 0 _ rfl);have p1:wr.cell? ⟨eb,eo+k*2+1,none⟩=some x1:=(hB.cell (World.block_lt_of_cell? w _ (hcc 1 _ rfl))).trans (hcc 1 _ rfl);have HXR:=Lib.hid hxr;clear hxr hcc hcl;go_wp2_with (go_at_call 116;refine Aw (w:=w) (Qcz _ [x0,x1] x _ (Xg HXR.out hB) (by omega) (by omega)) (by go_grown) ?_;intro w2 r2 hB2 hb hz hz2 hr2 hs;have HR2:=Lib.hid hr2;clear hr2 hb)
    . go_ret
      refine ⟨_,rfl, ?_,by go_grown⟩;have u1:=HU.out;have u2:=HR2.out;have u3:=HR.out;rw[HSZ.out];unfold szq at*;go_light
      omega
    go_roundw
    case rel=>exact ⟨k+1,_,by omega,by go_num,rfl,by omega,by omega,by
    show _=_;have u1:=HT.out;have u2:=HR2.out;have u3:=HR.out;unfold szq at*;rw[u1];omega,by go_grown⟩
    case measure=>simp[intOf];omega
  obtain rfl:k=l.length:=by omega
  go_wp2
  go_ret
  refine ⟨_,rfl, ?_,hB⟩;have u3:=HR.out;rw[List.take_length] at u3;rw[HSZ.out];unfold szq;omega
set_option maxRecDepth 100000 in
set_option maxHeartbeats 1000000 in
theorem IK (w:World) (ca:List Value) (a:De) (left:Int) (ha:rd w ca a) (h0:0<=left) (h1:left<=1048576):Calls Tryz.prog 182 #[.agg ca.toArray, .int .i64 left] w (Ny w (GoD.size a) left):=by
 obtain ⟨a1,a2,a3⟩:=a;obtain ⟨ac1,at1,rfl,ar1,ac2,at2,rfl,ar2,ar3⟩:=ha;obtain ⟨rfl,ar1⟩:=ar1;obtain ⟨rfl,ar2⟩:=ar2;obtain ⟨rfl,ar3⟩:=ar3;dsimp only[List.cons_append,List.nil_append] at*;clear ar1;clear ar2;unfold maxLen at ar3;have ar3:a3.size<=9223372036854775807:=by omega
 have hsz:GoD.size (a1,a2,a3)=(0+(0+a3.size)):=rfl;have HSZ:=Lib.hid hsz;clear hsz;go_enter Tryz.func182,Tryz.ntmps182
 go_wp2
 all_goals
  go_ret
  refine ⟨_,rfl, ?_,by go_grown⟩;rw[HSZ.out];unfold szq
  (try unfold szq at*)
  go_light
  omega
set_option maxRecDepth 100000 in
set_option maxHeartbeats 1000000 in
theorem Qf4 (w:World) (ca:List Value) (a:E6) (left:Int) (ha:rd w ca a) (h0:0<=left) (h1:left<=1048576):Calls Tryz.prog 118 #[.agg ca.toArray, .int .i64 left] w (Ny w (GoD.size a) left):=by
 obtain ⟨a1,a2⟩:=a;obtain ⟨ac1,at1,rfl,ar1,ar2⟩:=ha;obtain ⟨rfl,ar1⟩:=ar1;obtain ⟨ax2_0,ax2_1,ax2_2,rfl⟩:=TB (show _=3 from GoD.rd_len ar2);dsimp only[List.cons_append,List.nil_append] at*;unfold maxLen at ar1;have ar1:a1.size<=9223372036854775807:=by omega
 have AR2H:=Lib.hid ar2;clear ar2;have tok1:True:=trivial;have hsz:GoD.size (a1,a2)=(a1.size+GoD.size a2):=rfl;have HSZ:=Lib.hid hsz;clear hsz;go_enter Tryz.func118,Tryz.ntmps118
 go_wp2_with (first | (go_at_call 182;have tk:=tok1;clear tok1;refine Aw (w:=w) (IK _ [ax2_0,ax2_1,ax2_2] a2 _ (Xg AR2H.out (by go_grown)) (by omega) (by omega)) (by go_grown) ?_;intro w1 r1 hB hb hz hz2 hr hs;have HR1:=Lib.hid hr;clear hr;(repeat (first | rewrite [World.size_alloc] at hz2 | rewrite [World.size_setCell] at hz2 | rewrite [World.size_drew] at hz2));have c0:=fun o=>Km hb (w.heap.size) o (by go_size);clear hb))
 all_goals
  go_ret
  refine ⟨_,rfl, ?_,by go_grown⟩;rw[HSZ.out];unfold szq
  (try have u1:=HR1.out)
  (try unfold szq at*)
  go_light
  omega
set_option maxRecDepth 100000 in
set_option maxHeartbeats 1000000 in
theorem Qc0 (w:World) (v:Value) (l:List E6) (left:Int) (ha:rd w [v] l) (h0:0<=left) (h1:left<=1048576):Calls Tryz.prog 57 #[v, .int .i64 left] w (Ny w (GoD.size l) left):=by
 obtain ⟨oa,cap,e1,hl,hm,hel⟩:=ha;obtain rfl:v=_:=by simpa using e1
 clear e1;have HE:=Lib.hid hel;clear hel;unfold maxLen at hm;have hlm:l.length<=9223372036854775807:=by omega
 have hsz:GoD.size l=l.length+(l.map GoD.size).sum:=rfl;have HSZ:=Lib.hid hsz;clear hsz;by_cases hneg:left-l.length<0
 . go_enter Tryz.func57,Tryz.ntmps57
   go_wp2
   go_ret
   refine ⟨_,rfl, ?_,Below.refl _ _⟩;rw[HSZ.out];unfold szq;omega
 go_enter Tryz.func57,Tryz.ntmps57
 go_wp2
 go_loopw [1,5] (fun q i wr=>∃(k:Nat) (r:Int),k<=l.length/\i= .int .i64 k/\q= .int .i64 r/\0<=r/\r<=1048576/\Hid (r=left-l.length-((l.take k).map GoD.size).sum)/\Below w.heap.size w wr) (fun _ i _=>l.length-(intOf i).toNat)
 case atStart=>exact ⟨0,_,Nat.zero_le _,rfl,rfl,by omega,by omega,by show _=_;simp,Below.refl _ _⟩
 case round=>
  obtain ⟨k,r,hk,rfl,rfl,hr0,hr1,HR,hB⟩:=hrel;by_cases hkl:k<l.length
  . have hx:=List.getElem?_eq_getElem hkl;obtain ⟨eb,eo,ee,rfl,hcl,hcc,hxr⟩:=HE.out k _ hx;have HT:=Lib.hid (Nz hx);have HU:=Lib.hid (D7 hx);clear hx;generalize l[k]=x at*;obtain ⟨x0,x1,x2,x3,rfl⟩:=Qkx (show _=4 from hcl);have p0:wr.cell? ⟨eb,eo+k*4,none⟩=some x0:=(hB.cell (World.block_lt_of_cell? w _ (hcc 0 _ rfl))).trans (hcc 0 _ rfl);have p1:wr.cell? ⟨eb,eo+k*4+1,none⟩=some x1:=(hB.cell (World.block_lt_of_cell? w _ (hcc 1 _ rfl))).trans (hcc 1 _ rfl);have p2:wr.cell? ⟨eb,eo+k*4+2,none⟩=some x2:=(hB.cell (World.block_lt_of_cell? w _ (hcc 2 _ rfl))).trans (hcc 2 _ rfl);have p3:wr.cell? ⟨eb,eo+k*4+3,none⟩=some x3:=(hB.cell (World.block_lt_of_cell? w _ (hcc 3 _ rfl))).trans (hcc 3 _ rfl);have HXR:=Lib.hid hxr;clear hxr hcc hcl;go_wp2_with (go_at_call 118;refine Aw (w:=w) (Qf4 _ [x0,x1,x2,x3] x _ (Xg HXR.out hB) (by omega) (by omega)) (by go_grown) ?_;intro w2 r2 hB2 hb hz hz2 hr2 hs;have HR2:=Lib.hid hr2;clear hr2 hb)
    . go_ret
      refine ⟨_,rfl, ?_,by go_grown⟩;have u1:=HU.out;have u2:=HR2.out;have u3:=HR.out;rw[HSZ.out];unfold szq at*;go_light
      omega
    go_roundw
    case rel=>exact ⟨k+1,_,by omega,by go_num,rfl,by omega,by omega,by
    show _=_;have u1:=HT.out;have u2:=HR2.out;have u3:=HR.out;unfold szq at*;rw[u1];omega,by go_grown⟩
    case measure=>simp[intOf];omega
  obtain rfl:k=l.length:=by omega
  go_wp2
  go_ret
  refine ⟨_,rfl, ?_,hB⟩;have u3:=HR.out;rw[List.take_length] at u3;rw[HSZ.out];unfold szq;omega
set_option maxRecDepth 100000 in
set_option maxHeartbeats 1000000 in
theorem PN (w:World) (ca:List Value) (a:Xc) (left:Int) (ha:rd w ca a) (h0:0<=left) (h1:left<=1048576):Calls Tryz.prog 21 #[.agg ca.toArray, .int .i64 left] w (Ny w (GoD.size a) left):=by
 obtain ⟨a1,a2,a3,a4,a5⟩:=a;obtain ⟨ac1,at1,rfl,ar1,ac2,at2,rfl,ar2,ac3,at3,rfl,ar3,ac4,at4,rfl,ar4,ar5⟩:=ha;obtain ⟨rfl,ar1⟩:=ar1;obtain ⟨rfl,ar2⟩:=ar2;obtain rfl:=ar3;obtain ⟨rfl,ar4⟩:=ar4;obtain ⟨ax5_0,rfl⟩:=Gb (show _=1 from GoD.rd_len ar5);dsimp only[List.cons_append,List.nil_append] at*;clear ar1;clear ar2;clear ar4;have AR5H:=Lib.hid ar5;clear ar5;have tok1:True:=trivial;have hsz:GoD.size (a1,a2,a3,a4,a5)=(0+(0+(0+(0+GoD.size a5)))):=rfl;have HSZ:=Lib.hid hsz;clear hsz;go_enter Tryz.func21,Tryz.ntmps21
 go_wp2_with (first | (go_at_call 57;have tk:=tok1;clear tok1;refine Aw (w:=w) (Qc0 _ ax5_0 a5 _ (Xg AR5H.out (by go_grown)) (by omega) (by omega)) (by go_grown) ?_;intro w1 r1 hB hb hz hz2 hr hs;have HR1:=Lib.hid hr;clear hr;(repeat (first | rewrite [World.size_alloc] at hz2 | rewrite [World.size_setCell] at hz2 | rewrite [World.size_drew] at hz2));have c0:=fun o=>Km hb (w.heap.size) o (by go_size);clear hb))
 all_goals
  go_ret
  refine ⟨_,rfl, ?_,by go_grown⟩;rw[HSZ.out];unfold szq
  (try have u1:=HR1.out)
  (try unfold szq at*)
  go_light
  omega
set_option maxRecDepth 100000 in
set_option maxHeartbeats 1000000 in
theorem Qc1 (w:World) (v:Value) (l:List Xc) (left:Int) (ha:rd w [v] l) (h0:0<=left) (h1:left<=1048576):Calls Tryz.prog 55 #[v, .int .i64 left] w (Ny w (GoD.size l) left):=by
 obtain ⟨oa,cap,e1,hl,hm,hel⟩:=ha;obtain rfl:v=_:=by simpa using e1
 clear e1;have HE:=Lib.hid hel;clear hel;unfold maxLen at hm;have hlm:l.length<=9223372036854775807:=by omega
 have hsz:GoD.size l=l.length+(l.map GoD.size).sum:=rfl;have HSZ:=Lib.hid hsz;clear hsz;by_cases hneg:left-l.length<0
 . go_enter Tryz.func55,Tryz.ntmps55
   go_wp2
   go_ret
   refine ⟨_,rfl, ?_,Below.refl _ _⟩;rw[HSZ.out];unfold szq;omega
 go_enter Tryz.func55,Tryz.ntmps55
 go_wp2
 go_loopw [1,5] (fun q i wr=>∃(k:Nat) (r:Int),k<=l.length/\i= .int .i64 k/\q= .int .i64 r/\0<=r/\r<=1048576/\Hid (r=left-l.length-((l.take k).map GoD.size).sum)/\Below w.heap.size w wr) (fun _ i _=>l.length-(intOf i).toNat)
 case atStart=>exact ⟨0,_,Nat.zero_le _,rfl,rfl,by omega,by omega,by show _=_;simp,Below.refl _ _⟩
 case round=>
  obtain ⟨k,r,hk,rfl,rfl,hr0,hr1,HR,hB⟩:=hrel;by_cases hkl:k<l.length
  . have hx:=List.getElem?_eq_getElem hkl;obtain ⟨eb,eo,ee,rfl,hcl,hcc,hxr⟩:=HE.out k _ hx;have HT:=Lib.hid (Nz hx);have HU:=Lib.hid (D7 hx);clear hx;generalize l[k]=x at*;obtain ⟨x0,x1,x2,x3,x4,rfl⟩:=Qg2 (show _=5 from hcl);have p0:wr.cell? ⟨eb,eo+k*5,none⟩=some x0:=(hB.cell (World.block_lt_of_cell? w _ (hcc 0 _ rfl))).trans (hcc 0 _ rfl);have p1:wr.cell? ⟨eb,eo+k*5+1,none⟩=some x1:=(hB.cell (World.block_lt_of_cell? w _ (hcc 1 _ rfl))).trans (hcc 1 _ rfl);have p2:wr.cell? ⟨eb,eo+k*5+2,none⟩=some x2:=(hB.cell (World.block_lt_of_cell? w _ (hcc 2 _ rfl))).trans (hcc 2 _ rfl);have p3:wr.cell? ⟨eb,eo+k*5+3,none⟩=some x3:=(hB.cell (World.block_lt_of_cell? w _ (hcc 3 _ rfl))).trans (hcc 3 _ rfl);have p4:wr.cell? ⟨eb,eo+k*5+4,none⟩=some x4:=(hB.cell (World.block_lt_of_cell? w _ (hcc 4 _ rfl))).trans (hcc 4 _ rfl);have HXR:=Lib.hid hxr;clear hxr hcc hcl;go_wp2_with (go_at_call 21;refine Aw (w:=w) (PN _ [x0,x1,x2,x3,x4] x _ (Xg HXR.out hB) (by omega) (by omega)) (by go_grown) ?_;intro w2 r2 hB2 hb hz hz2 hr2 hs;have HR2:=Lib.hid hr2;clear hr2 hb)
    . go_ret
      refine ⟨_,rfl, ?_,by go_grown⟩;have u1:=HU.out;have u2:=HR2.out;have u3:=HR.out;rw[HSZ.out];unfold szq at*;go_light
      omega
    go_roundw
    case rel=>exact ⟨k+1,_,by omega,by go_num,rfl,by omega,by omega,by
    show _=_;have u1:=HT.out;have u2:=HR2.out;have u3:=HR.out;unfold szq at*;rw[u1];omega,by go_grown⟩
    case measure=>simp[intOf];omega
  obtain rfl:k=l.length:=by omega
  go_wp2
  go_ret
  refine ⟨_,rfl, ?_,hB⟩;have u3:=HR.out;rw[List.take_length] at u3;rw[HSZ.out];unfold szq;omega
set_option maxRecDepth 100000 in
set_option maxHeartbeats 1000000 in
theorem Qc2 (w:World) (ca:List Value) (a:Qz) (left:Int) (ha:rd w ca a) (h0:0<=left) (h1:left<=1048576):Calls Tryz.prog 18 #[.agg ca.toArray, .int .i64 left] w (Ny w (GoD.size a) left):=by
 obtain ⟨a1,a2,a3⟩:=a;obtain ⟨ac1,at1,rfl,ar1,ac2,at2,rfl,ar2,ar3⟩:=ha;obtain ⟨ax1_0,rfl⟩:=Gb (show _=1 from GoD.rd_len ar1);obtain ⟨ax2_0,rfl⟩:=Gb (show _=1 from GoD.rd_len ar2);obtain ⟨rfl,ar3⟩:=ar3;dsimp only[List.cons_append,List.nil_append] at*;have AR1H:=Lib.hid ar1;clear ar1;have AR2H:=Lib.hid ar2;clear ar2;clear ar3;have tok1:True:=trivial;have tok2:True:=trivial;have hsz:GoD.size (a1,a2,a3)=(GoD.size a1+(GoD.size a2+0)):=rfl;have HSZ:=Lib.hid hsz;clear hsz;go_enter Tryz.func18,Tryz.ntmps18
 go_wp2_with (first | (go_at_call 54;have tk:=tok1;clear tok1;refine Aw (w:=w) (SR _ ax1_0 a1 _ (Xg AR1H.out (by go_grown)) (by omega) (by omega)) (by go_grown) ?_;intro w1 r1 hB hb hz hz2 hr hs;have HR1:=Lib.hid hr;clear hr;(repeat (first | rewrite [World.size_alloc] at hz2 | rewrite [World.size_setCell] at hz2 | rewrite [World.size_drew] at hz2));have c0:=fun o=>Km hb (w.heap.size) o (by go_size);clear hb) | (go_at_call 55;have tk:=tok2;clear tok2;refine Aw (w:=w) (Qc1 _ ax2_0 a2 _ (Xg AR2H.out (by go_grown)) (by omega) (by omega)) (by go_grown) ?_;intro w2 r2 hB hb hz hz2 hr hs;have HR2:=Lib.hid hr;clear hr;(repeat (first | rewrite [World.size_alloc] at hz2 | rewrite [World.size_setCell] at hz2 | rewrite [World.size_drew] at hz2));have c0:=fun o=>Km hb (w.heap.size) o (by go_size);clear hb))
 all_goals
  go_ret
  refine ⟨_,rfl, ?_,by go_grown⟩;rw[HSZ.out];unfold szq
  (try have u1:=HR1.out)
  (try have u2:=HR2.out)
  (try unfold szq at*)
  go_light
  omega
set_option maxRecDepth 100000 in
set_option maxHeartbeats 1000000 in
theorem Qf5 (w:World) (ca:List Value) (a:Yu) (left:Int) (ha:rd w ca a) (h0:0<=left) (h1:left<=1048576):Calls Tryz.prog 119 #[.agg ca.toArray, .int .i64 left] w (Ny w (GoD.size a) left):=by
 obtain ⟨a1,a2,a3,a4,a5⟩:=a;obtain ⟨ac1,at1,rfl,ar1,ac2,at2,rfl,ar2,ac3,at3,rfl,ar3,ac4,at4,rfl,ar4,ar5⟩:=ha;obtain ⟨rfl,ar1⟩:=ar1;obtain ⟨rfl,ar2⟩:=ar2;obtain ⟨rfl,ar3⟩:=ar3;obtain ⟨rfl,ar4⟩:=ar4;obtain ⟨ax5_0,ax5_1,ax5_2,rfl⟩:=TB (show _=3 from GoD.rd_len ar5);dsimp only[List.cons_append,List.nil_append] at*;clear ar1;clear ar2;clear ar3;unfold maxLen at ar4;have ar4:a4.size<=9223372036854775807:=by omega
 have AR5H:=Lib.hid ar5;clear ar5;have tok1:True:=trivial;have hsz:GoD.size (a1,a2,a3,a4,a5)=(0+(0+(0+(a4.size+GoD.size a5)))):=rfl;have HSZ:=Lib.hid hsz;clear hsz;go_enter Tryz.func119,Tryz.ntmps119
 go_wp2_with (first | (go_at_call 182;have tk:=tok1;clear tok1;refine Aw (w:=w) (IK _ [ax5_0,ax5_1,ax5_2] a5 _ (Xg AR5H.out (by go_grown)) (by omega) (by omega)) (by go_grown) ?_;intro w1 r1 hB hb hz hz2 hr hs;have HR1:=Lib.hid hr;clear hr;(repeat (first | rewrite [World.size_alloc] at hz2 | rewrite [World.size_setCell] at hz2 | rewrite [World.size_drew] at hz2));have c0:=fun o=>Km hb (w.heap.size) o (by go_size);clear hb))
 all_goals
  go_ret
  refine ⟨_,rfl, ?_,by go_grown⟩;rw[HSZ.out];unfold szq
  (try have u1:=HR1.out)
  (try unfold szq at*)
  go_light
  omega
set_option maxRecDepth 100000 in
set_option maxHeartbeats 1000000 in
theorem Qc3 (w:World) (v:Value) (l:List Yu) (left:Int) (ha:rd w [v] l) (h0:0<=left) (h1:left<=1048576):Calls Tryz.prog 58 #[v, .int .i64 left] w (Ny w (GoD.size l) left):=by
 obtain ⟨oa,cap,e1,hl,hm,hel⟩:=ha;obtain rfl:v=_:=by simpa using e1
 clear e1;have HE:=Lib.hid hel;clear hel;unfold maxLen at hm;have hlm:l.length<=9223372036854775807:=by omega
 have hsz:GoD.size l=l.length+(l.map GoD.size).sum:=rfl;have HSZ:=Lib.hid hsz;clear hsz;by_cases hneg:left-l.length<0
 . go_enter Tryz.func58,Tryz.ntmps58
   go_wp2
   go_ret
   refine ⟨_,rfl, ?_,Below.refl _ _⟩;rw[HSZ.out];unfold szq;omega
 go_enter Tryz.func58,Tryz.ntmps58
 go_wp2
 go_loopw [1,5] (fun q i wr=>∃(k:Nat) (r:Int),k<=l.length/\i= .int .i64 k/\q= .int .i64 r/\0<=r/\r<=1048576/\Hid (r=left-l.length-((l.take k).map GoD.size).sum)/\Below w.heap.size w wr) (fun _ i _=>l.length-(intOf i).toNat)
 case atStart=>exact ⟨0,_,Nat.zero_le _,rfl,rfl,by omega,by omega,by show _=_;simp,Below.refl _ _⟩
 case round=>
  obtain ⟨k,r,hk,rfl,rfl,hr0,hr1,HR,hB⟩:=hrel;by_cases hkl:k<l.length
  . have hx:=List.getElem?_eq_getElem hkl;obtain ⟨eb,eo,ee,rfl,hcl,hcc,hxr⟩:=HE.out k _ hx;have HT:=Lib.hid (Nz hx);have HU:=Lib.hid (D7 hx);clear hx;generalize l[k]=x at*;obtain ⟨x0,x1,x2,x3,x4,x5,x6,rfl⟩:=Qky (show _=7 from hcl);have p0:wr.cell? ⟨eb,eo+k*7,none⟩=some x0:=(hB.cell (World.block_lt_of_cell? w _ (hcc 0 _ rfl))).trans (hcc 0 _ rfl);have p1:wr.cell? ⟨eb,eo+k*7+1,none⟩=some x1:=(hB.cell (World.block_lt_of_cell? w _ (hcc 1 _ rfl))).trans (hcc 1 _ rfl);have p2:wr.cell? ⟨eb,eo+k*7+2,none⟩=some x2:=(hB.cell (World.block_lt_of_cell? w _ (hcc 2 _ rfl))).trans (hcc 2 _ rfl);have p3:wr.cell? ⟨eb,eo+k*7+3,none⟩=some x3:=(hB.cell (World.block_lt_of_cell? w _ (hcc 3 _ rfl))).trans (hcc 3 _ rfl);have p4:wr.cell? ⟨eb,eo+k*7+4,none⟩=some x4:=(hB.cell (World.block_lt_of_cell? w _ (hcc 4 _ rfl))).trans (hcc 4 _ rfl);have p5:wr.cell? ⟨eb,eo+k*7+5,none⟩=some x5:=(hB.cell (World.block_lt_of_cell? w _ (hcc 5 _ rfl))).trans (hcc 5 _ rfl);have p6:wr.cell? ⟨eb,eo+k*7+6,none⟩=some x6:=(hB.cell (World.block_lt_of_cell? w _ (hcc 6 _ rfl))).trans (hcc 6 _ rfl);have HXR:=Lib.hid hxr;clear hxr hcc hcl;go_wp2_with (go_at_call 119;refine Aw (w:=w) (Qf5 _ [x0,x1,x2,x3,x4,x5,x6] x _ (Xg HXR.out hB) (by omega) (by omega)) (by go_grown) ?_;intro w2 r2 hB2 hb hz hz2 hr2 hs;have HR2:=Lib.hid hr2;clear hr2 hb)
    . go_ret
      refine ⟨_,rfl, ?_,by go_grown⟩;have u1:=HU.out;have u2:=HR2.out;have u3:=HR.out;rw[HSZ.out];unfold szq at*;go_light
      omega
    go_roundw
    case rel=>exact ⟨k+1,_,by omega,by go_num,rfl,by omega,by omega,by
    show _=_;have u1:=HT.out;have u2:=HR2.out;have u3:=HR.out;unfold szq at*;rw[u1];omega,by go_grown⟩
    case measure=>simp[intOf];omega
  obtain rfl:k=l.length:=by omega
  go_wp2
  go_ret
  refine ⟨_,rfl, ?_,hB⟩;have u3:=HR.out;rw[List.take_length] at u3;rw[HSZ.out];unfold szq;omega
set_option maxRecDepth 100000 in
set_option maxHeartbeats 1000000 in
theorem Qc4 (w:World) (ca:List Value) (a:Xw) (left:Int) (ha:rd w ca a) (h0:0<=left) (h1:left<=1048576):Calls Tryz.prog 22 #[.agg ca.toArray, .int .i64 left] w (Ny w (GoD.size a) left):=by
 obtain ⟨a1,a2⟩:=a;obtain ⟨ac1,at1,rfl,ar1,ar2⟩:=ha;obtain ⟨rfl,ar1⟩:=ar1;obtain ⟨ax2_0,rfl⟩:=Gb (show _=1 from GoD.rd_len ar2);dsimp only[List.cons_append,List.nil_append] at*;unfold maxLen at ar1;have ar1:a1.size<=9223372036854775807:=by omega
 have AR2H:=Lib.hid ar2;clear ar2;have tok1:True:=trivial;have hsz:GoD.size (a1,a2)=(a1.size+GoD.size a2):=rfl;have HSZ:=Lib.hid hsz;clear hsz;go_enter Tryz.func22,Tryz.ntmps22
 go_wp2_with (first | (go_at_call 58;have tk:=tok1;clear tok1;refine Aw (w:=w) (Qc3 _ ax2_0 a2 _ (Xg AR2H.out (by go_grown)) (by omega) (by omega)) (by go_grown) ?_;intro w1 r1 hB hb hz hz2 hr hs;have HR1:=Lib.hid hr;clear hr;(repeat (first | rewrite [World.size_alloc] at hz2 | rewrite [World.size_setCell] at hz2 | rewrite [World.size_drew] at hz2));have c0:=fun o=>Km hb (w.heap.size) o (by go_size);clear hb))
 all_goals
  go_ret
  refine ⟨_,rfl, ?_,by go_grown⟩;rw[HSZ.out];unfold szq
  (try have u1:=HR1.out)
  (try unfold szq at*)
  go_light
  omega
set_option maxRecDepth 100000 in
set_option maxHeartbeats 1000000 in
theorem BO (w:World) (ca:List Value) (a:Hh) (left:Int) (ha:rd w ca a) (h0:0<=left) (h1:left<=1048576):Calls Tryz.prog 6 #[.agg ca.toArray, .int .i64 left] w (Ny w (GoD.size a) left):=by
 obtain ⟨a1,a2,a3,a4⟩:=a;obtain ⟨ac1,at1,rfl,ar1,ac2,at2,rfl,ar2,ac3,at3,rfl,ar3,ar4⟩:=ha;obtain ⟨rfl,ar1⟩:=ar1;obtain ⟨ax2_0,ax2_1,ax2_2,ax2_3,ax2_4,rfl⟩:=Qg2 (show _=5 from GoD.rd_len ar2);obtain ⟨rfl,ar3⟩:=ar3;obtain ⟨ax4_0,ax4_1,rfl⟩:=Ry (show _=2 from GoD.rd_len ar4);dsimp only[List.cons_append,List.nil_append] at*;clear ar1;have AR2H:=Lib.hid ar2;clear ar2;clear ar3;have AR4H:=Lib.hid ar4;clear ar4;have tok1:True:=trivial;have tok2:True:=trivial;have hsz:GoD.size (a1,a2,a3,a4)=(0+(GoD.size a2+(0+GoD.size a4))):=rfl;have HSZ:=Lib.hid hsz;clear hsz;go_enter Tryz.func6,Tryz.ntmps6
 go_wp2_with (first | (go_at_call 21;have tk:=tok1;clear tok1;refine Aw (w:=w) (PN _ [ax2_0,ax2_1,ax2_2,ax2_3,ax2_4] a2 _ (Xg AR2H.out (by go_grown)) (by omega) (by omega)) (by go_grown) ?_;intro w1 r1 hB hb hz hz2 hr hs;have HR1:=Lib.hid hr;clear hr;(repeat (first | rewrite [World.size_alloc] at hz2 | rewrite [World.size_setCell] at hz2 | rewrite [World.size_drew] at hz2));have c0:=fun o=>Km hb (w.heap.size) o (by go_size);clear hb) | (go_at_call 22;have tk:=tok2;clear tok2;refine Aw (w:=w) (Qc4 _ [ax4_0,ax4_1] a4 _ (Xg AR4H.out (by go_grown)) (by omega) (by omega)) (by go_grown) ?_;intro w2 r2 hB hb hz hz2 hr hs;have HR2:=Lib.hid hr;clear hr;(repeat (first | rewrite [World.size_alloc] at hz2 | rewrite [World.size_setCell] at hz2 | rewrite [World.size_drew] at hz2));have c0:=fun o=>Km hb (w.heap.size) o (by go_size);clear hb))
 all_goals
  go_ret
  refine ⟨_,rfl, ?_,by go_grown⟩;rw[HSZ.out];unfold szq
  (try have u1:=HR1.out)
  (try have u2:=HR2.out)
  (try unfold szq at*)
  go_light
  omega
set_option maxRecDepth 100000 in
set_option maxHeartbeats 1000000 in
theorem Qf6 (w:World) (v:Value) (l:List Int) (left:Int) (ha:rd w [v] l) (h0:0<=left) (h1:left<=1048576):Calls Tryz.prog 117 #[v, .int .i64 left] w (Ny w (GoD.size l) left):=by
 obtain ⟨oa,cap,e1,hl,hm,hel⟩:=ha;obtain rfl:v=_:=by simpa using e1
 clear e1;have HE:=Lib.hid hel;clear hel;unfold maxLen at hm;have hlm:l.length<=9223372036854775807:=by omega
 have hsz:GoD.size l=l.length+(l.map GoD.size).sum:=rfl;have HSZ:=Lib.hid hsz;clear hsz;have hz0:(l.map GoD.size).sum=0:=Qdn l (fun _=>rfl);have HZ0:=Lib.hid hz0;clear hz0;go_enter Tryz.func117,Tryz.ntmps117
 go_wp2
 all_goals
  go_ret
  refine ⟨_,rfl, ?_,by go_grown⟩;rw[HSZ.out,HZ0.out];unfold szq;go_light
  omega
set_option maxRecDepth 100000 in
set_option maxHeartbeats 1000000 in
theorem SS (w:World) (ca:List Value) (a:Qh) (left:Int) (ha:rd w ca a) (h0:0<=left) (h1:left<=1048576):Calls Tryz.prog 56 #[.agg ca.toArray, .int .i64 left] w (Ny w (GoD.size a) left):=by
 obtain ⟨a1,a2⟩:=a;obtain ⟨ac1,at1,rfl,ar1,ar2⟩:=ha;obtain ⟨rfl,ar1⟩:=ar1;obtain ⟨ax2_0,rfl⟩:=Gb (show _=1 from GoD.rd_len ar2);dsimp only[List.cons_append,List.nil_append] at*;unfold maxLen at ar1;have ar1:a1.size<=9223372036854775807:=by omega
 have AR2H:=Lib.hid ar2;clear ar2;have tok1:True:=trivial;have hsz:GoD.size (a1,a2)=(a1.size+GoD.size a2):=rfl;have HSZ:=Lib.hid hsz;clear hsz;go_enter Tryz.func56,Tryz.ntmps56
 go_wp2_with (first | (go_at_call 117;have tk:=tok1;clear tok1;refine Aw (w:=w) (Qf6 _ ax2_0 a2 _ (Xg AR2H.out (by go_grown)) (by omega) (by omega)) (by go_grown) ?_;intro w1 r1 hB hb hz hz2 hr hs;have HR1:=Lib.hid hr;clear hr;(repeat (first | rewrite [World.size_alloc] at hz2 | rewrite [World.size_setCell] at hz2 | rewrite [World.size_drew] at hz2));have c0:=fun o=>Km hb (w.heap.size) o (by go_size);clear hb))
 all_goals
  go_ret
  refine ⟨_,rfl, ?_,by go_grown⟩;rw[HSZ.out];unfold szq
  (try have u1:=HR1.out)
  (try unfold szq at*)
  go_light
  omega
set_option maxRecDepth 100000 in
set_option maxHeartbeats 1000000 in
theorem NB (w:World) (v:Value) (l:List Qh) (left:Int) (ha:rd w [v] l) (h0:0<=left) (h1:left<=1048576):Calls Tryz.prog 20 #[v, .int .i64 left] w (Ny w (GoD.size l) left):=by
 obtain ⟨oa,cap,e1,hl,hm,hel⟩:=ha;obtain rfl:v=_:=by simpa using e1
 clear e1;have HE:=Lib.hid hel;clear hel;unfold maxLen at hm;have hlm:l.length<=9223372036854775807:=by omega
 have hsz:GoD.size l=l.length+(l.map GoD.size).sum:=rfl;have HSZ:=Lib.hid hsz;clear hsz;by_cases hneg:left-l.length<0
 . go_enter Tryz.func20,Tryz.ntmps20
   go_wp2
   go_ret
   refine ⟨_,rfl, ?_,Below.refl _ _⟩;rw[HSZ.out];unfold szq;omega
 go_enter Tryz.func20,Tryz.ntmps20
 go_wp2
 go_loopw [1,5] (fun q i wr=>∃(k:Nat) (r:Int),k<=l.length/\i= .int .i64 k/\q= .int .i64 r/\0<=r/\r<=1048576/\Hid (r=left-l.length-((l.take k).map GoD.size).sum)/\Below w.heap.size w wr) (fun _ i _=>l.length-(intOf i).toNat)
 case atStart=>exact ⟨0,_,Nat.zero_le _,rfl,rfl,by omega,by omega,by show _=_;simp,Below.refl _ _⟩
 case round=>
  obtain ⟨k,r,hk,rfl,rfl,hr0,hr1,HR,hB⟩:=hrel;by_cases hkl:k<l.length
  . have hx:=List.getElem?_eq_getElem hkl;obtain ⟨eb,eo,ee,rfl,hcl,hcc,hxr⟩:=HE.out k _ hx;have HT:=Lib.hid (Nz hx);have HU:=Lib.hid (D7 hx);clear hx;generalize l[k]=x at*;obtain ⟨x0,x1,rfl⟩:=Ry (show _=2 from hcl);have p0:wr.cell? ⟨eb,eo+k*2,none⟩=some x0:=(hB.cell (World.block_lt_of_cell? w _ (hcc 0 _ rfl))).trans (hcc 0 _ rfl);have p1:wr.cell? ⟨eb,eo+k*2+1,none⟩=some x1:=(hB.cell (World.block_lt_of_cell? w _ (hcc 1 _ rfl))).trans (hcc 1 _ rfl);have HXR:=Lib.hid hxr;clear hxr hcc hcl;go_wp2_with (go_at_call 56;refine Aw (w:=w) (SS _ [x0,x1] x _ (Xg HXR.out hB) (by omega) (by omega)) (by go_grown) ?_;intro w2 r2 hB2 hb hz hz2 hr2 hs;have HR2:=Lib.hid hr2;clear hr2 hb)
    . go_ret
      refine ⟨_,rfl, ?_,by go_grown⟩;have u1:=HU.out;have u2:=HR2.out;have u3:=HR.out;rw[HSZ.out];unfold szq at*;go_light
      omega
    go_roundw
    case rel=>exact ⟨k+1,_,by omega,by go_num,rfl,by omega,by omega,by
    show _=_;have u1:=HT.out;have u2:=HR2.out;have u3:=HR.out;unfold szq at*;rw[u1];omega,by go_grown⟩
    case measure=>simp[intOf];omega
  obtain rfl:k=l.length:=by omega
  go_wp2
  go_ret
  refine ⟨_,rfl, ?_,hB⟩;have u3:=HR.out;rw[List.take_length] at u3;rw[HSZ.out];unfold szq;omega
set_option maxRecDepth 100000 in
set_option maxHeartbeats 1000000 in
theorem Qf7 (w:World) (v:Value) (l:List Xw) (left:Int) (ha:rd w [v] l) (h0:0<=left) (h1:left<=1048576):Calls Tryz.prog 19 #[v, .int .i64 left] w (Ny w (GoD.size l) left):=by
 obtain ⟨oa,cap,e1,hl,hm,hel⟩:=ha;obtain rfl:v=_:=by simpa using e1
 clear e1;have HE:=Lib.hid hel;clear hel;unfold maxLen at hm;have hlm:l.length<=9223372036854775807:=by omega
 have hsz:GoD.size l=l.length+(l.map GoD.size).sum:=rfl;have HSZ:=Lib.hid hsz;clear hsz;by_cases hneg:left-l.length<0
 . go_enter Tryz.func19,Tryz.ntmps19
   go_wp2
   go_ret
   refine ⟨_,rfl, ?_,Below.refl _ _⟩;rw[HSZ.out];unfold szq;omega
 go_enter Tryz.func19,Tryz.ntmps19
 go_wp2
 go_loopw [1,5] (fun q i wr=>∃(k:Nat) (r:Int),k<=l.length/\i= .int .i64 k/\q= .int .i64 r/\0<=r/\r<=1048576/\Hid (r=left-l.length-((l.take k).map GoD.size).sum)/\Below w.heap.size w wr) (fun _ i _=>l.length-(intOf i).toNat)
 case atStart=>exact ⟨0,_,Nat.zero_le _,rfl,rfl,by omega,by omega,by show _=_;simp,Below.refl _ _⟩
 case round=>
  obtain ⟨k,r,hk,rfl,rfl,hr0,hr1,HR,hB⟩:=hrel;by_cases hkl:k<l.length
  . have hx:=List.getElem?_eq_getElem hkl;obtain ⟨eb,eo,ee,rfl,hcl,hcc,hxr⟩:=HE.out k _ hx;have HT:=Lib.hid (Nz hx);have HU:=Lib.hid (D7 hx);clear hx;generalize l[k]=x at*;obtain ⟨x0,x1,rfl⟩:=Ry (show _=2 from hcl);have p0:wr.cell? ⟨eb,eo+k*2,none⟩=some x0:=(hB.cell (World.block_lt_of_cell? w _ (hcc 0 _ rfl))).trans (hcc 0 _ rfl);have p1:wr.cell? ⟨eb,eo+k*2+1,none⟩=some x1:=(hB.cell (World.block_lt_of_cell? w _ (hcc 1 _ rfl))).trans (hcc 1 _ rfl);have HXR:=Lib.hid hxr;clear hxr hcc hcl;go_wp2_with (go_at_call 22;refine Aw (w:=w) (Qc4 _ [x0,x1] x _ (Xg HXR.out hB) (by omega) (by omega)) (by go_grown) ?_;intro w2 r2 hB2 hb hz hz2 hr2 hs;have HR2:=Lib.hid hr2;clear hr2 hb)
    . go_ret
      refine ⟨_,rfl, ?_,by go_grown⟩;have u1:=HU.out;have u2:=HR2.out;have u3:=HR.out;rw[HSZ.out];unfold szq at*;go_light
      omega
    go_roundw
    case rel=>exact ⟨k+1,_,by omega,by go_num,rfl,by omega,by omega,by
    show _=_;have u1:=HT.out;have u2:=HR2.out;have u3:=HR.out;unfold szq at*;rw[u1];omega,by go_grown⟩
    case measure=>simp[intOf];omega
  obtain rfl:k=l.length:=by omega
  go_wp2
  go_ret
  refine ⟨_,rfl, ?_,hB⟩;have u3:=HR.out;rw[List.take_length] at u3;rw[HSZ.out];unfold szq;omega
set_option maxRecDepth 100000 in
set_option maxHeartbeats 1000000 in
theorem UK (w:World) (ca:List Value) (a:Xq) (left:Int) (ha:rd w ca a) (h0:0<=left) (h1:left<=1048576):Calls Tryz.prog 5 #[.agg ca.toArray, .int .i64 left] w (Ny w (GoD.size a) left):=by
 obtain ⟨a1,a2,a3⟩:=a;obtain ⟨ac1,at1,rfl,ar1,ac2,at2,rfl,ar2,ar3⟩:=ha;obtain ⟨ax1_0,ax1_1,ax1_2,rfl⟩:=TB (show _=3 from GoD.rd_len ar1);obtain ⟨ax2_0,rfl⟩:=Gb (show _=1 from GoD.rd_len ar2);obtain ⟨ax3_0,rfl⟩:=Gb (show _=1 from GoD.rd_len ar3);dsimp only[List.cons_append,List.nil_append] at*;have AR1H:=Lib.hid ar1;clear ar1;have AR2H:=Lib.hid ar2;clear ar2;have AR3H:=Lib.hid ar3;clear ar3;have tok1:True:=trivial;have tok2:True:=trivial;have tok3:True:=trivial;have hsz:GoD.size (a1,a2,a3)=(GoD.size a1+(GoD.size a2+GoD.size a3)):=rfl;have HSZ:=Lib.hid hsz;clear hsz;go_enter Tryz.func5,Tryz.ntmps5
 go_wp2_with (first | (go_at_call 18;have tk:=tok1;clear tok1;refine Aw (w:=w) (Qc2 _ [ax1_0,ax1_1,ax1_2] a1 _ (Xg AR1H.out (by go_grown)) (by omega) (by omega)) (by go_grown) ?_;intro w1 r1 hB hb hz hz2 hr hs;have HR1:=Lib.hid hr;clear hr;(repeat (first | rewrite [World.size_alloc] at hz2 | rewrite [World.size_setCell] at hz2 | rewrite [World.size_drew] at hz2));have c0:=fun o=>Km hb (w.heap.size) o (by go_size);clear hb) | (go_at_call 19;have tk:=tok2;clear tok2;refine Aw (w:=w) (Qf7 _ ax2_0 a2 _ (Xg AR2H.out (by go_grown)) (by omega) (by omega)) (by go_grown) ?_;intro w2 r2 hB hb hz hz2 hr hs;have HR2:=Lib.hid hr;clear hr;(repeat (first | rewrite [World.size_alloc] at hz2 | rewrite [World.size_setCell] at hz2 | rewrite [World.size_drew] at hz2));have c0:=fun o=>Km hb (w.heap.size) o (by go_size);clear hb) | (go_at_call 20;have tk:=tok3;clear tok3;refine Aw (w:=w) (NB _ ax3_0 a3 _ (Xg AR3H.out (by go_grown)) (by omega) (by omega)) (by go_grown) ?_;intro w3 r3 hB hb hz hz2 hr hs;have HR3:=Lib.hid hr;clear hr;(repeat (first | rewrite [World.size_alloc] at hz2 | rewrite [World.size_setCell] at hz2 | rewrite [World.size_drew] at hz2));have c0:=fun o=>Km hb (w.heap.size) o (by go_size);clear hb))
 all_goals
  go_ret
  refine ⟨_,rfl, ?_,by go_grown⟩;rw[HSZ.out];unfold szq
  (try have u1:=HR1.out)
  (try have u2:=HR2.out)
  (try have u3:=HR3.out)
  (try unfold szq at*)
  go_light
  omega
end Go.Proofs.YtkekndahbiefaaaGreatDoor
namespace Go.Proofs.YtkekndahbiefaaaGreatDoor
open Go.RowKit
open GoD (rd own)
set_option maxHeartbeats 1000000 in
theorem IL (w:World) (ca cb:List Value) (a b:De) (ha:rd w ca a) (hb:rd w cb b):Calls Tryz.prog 219 #[.agg ca.toArray, .agg cb.toArray] w (Ret w (.bool (eqb a b))):=by
 obtain ⟨a1,a2,a3⟩:=a;obtain ⟨ac1,at1,rfl,ar1,ac2,at2,rfl,ar2,ar3⟩:=ha;obtain ⟨rfl,ar1⟩:=ar1;obtain ⟨rfl,ar2⟩:=ar2;obtain ⟨rfl,ar3⟩:=ar3;obtain ⟨b1,b2,b3⟩:=b;obtain ⟨bc1,bt1,rfl,br1,bc2,bt2,rfl,br2,br3⟩:=hb;obtain ⟨rfl,br1⟩:=br1;obtain ⟨rfl,br2⟩:=br2;obtain ⟨rfl,br3⟩:=br3;dsimp only[List.cons_append,List.nil_append] at*;generalize hr:eqb (a1,a2,a3) (b1,b2,b3)=r;have Hr:=Lib.hid hr;clear hr;have es:=Cb;clear ar1 br1;clear ar2 br2;clear ar3 br3;go_enter Tryz.func219,Tryz.ntmps219
 go_wp2
 all_goals
  go_ret
  refine ⟨?_,by go_grown⟩;rw[←Hr.out];go_light
  clear es
  simp_all [G0,Uy,V4]
set_option maxHeartbeats 1000000 in
theorem Qf8 (w:World) (ca cb:List Value) (a b:E6) (ha:rd w ca a) (hb:rd w cb b):Calls Tryz.prog 157 #[.agg ca.toArray, .agg cb.toArray] w (Ret w (.bool (eqb a b))):=by
 obtain ⟨a1,a2⟩:=a;obtain ⟨ac1,at1,rfl,ar1,ar2⟩:=ha;obtain ⟨rfl,ar1⟩:=ar1;obtain ⟨ax2_0,ax2_1,ax2_2,rfl⟩:=TB (show _=3 from GoD.rd_len ar2);obtain ⟨b1,b2⟩:=b;obtain ⟨bc1,bt1,rfl,br1,br2⟩:=hb;obtain ⟨rfl,br1⟩:=br1;obtain ⟨bx2_0,bx2_1,bx2_2,rfl⟩:=TB (show _=3 from GoD.rd_len br2);dsimp only[List.cons_append,List.nil_append] at*;generalize hr:eqb (a1,a2) (b1,b2)=r;have Hr:=Lib.hid hr;clear hr;have es:=Cb;clear ar1 br1;have AR2H:=Lib.hid ar2;clear ar2;have BR2H:=Lib.hid br2;clear br2;have tok1:True:=trivial;go_enter Tryz.func157,Tryz.ntmps157
 go_wp2_with (first | (go_at_call 219;have tk:=tok1;clear tok1;(refine Cs (w:=w) (IL _ [ax2_0,ax2_1,ax2_2] [bx2_0,bx2_1,bx2_2] a2 b2 (Xg AR2H.out (by go_grown)) (Xg BR2H.out (by go_grown))) (by go_grown) ?_;intro w' hB hb hz hz2;(repeat (first | rewrite [World.size_alloc] at hz2 | rewrite [World.size_setCell] at hz2 | rewrite [World.size_drew] at hz2));have c0:=fun o=>Km hb (w.heap.size) o (by go_size);have c1:=fun o=>Km hb (w.heap.size+1) o (by go_size))))
 all_goals
  go_ret
  refine ⟨?_,by go_grown⟩;rw[←Hr.out];go_light
  clear es
  simp_all [G0,Uy,V4]
set_option maxHeartbeats 1000000 in
theorem Qc5 (w:World) (sa sb:Value) (la lb:List E6) (ha:rd w [sa] la) (hb:rd w [sb] lb):Calls Tryz.prog 83 #[sa,sb] w (Ret w (.bool (eqb la lb))):=by
 obtain ⟨oa,capa,e1,hl1,hm1,hel1⟩:=ha;obtain ⟨ob,capb,e2,hl2,hm2,hel2⟩:=hb;obtain rfl:sa=_:=by simpa using e1
 obtain rfl:sb=_:=by simpa using e2
 clear e1 e2;have HE1:=Lib.hid hel1;clear hel1;have HE2:=Lib.hid hel2;clear hel2;unfold maxLen at hm1 hm2;have hma:la.length<=9223372036854775807:=by omega
 have hmb:lb.length<=9223372036854775807:=by omega
 by_cases hlen:la.length=lb.length
 . have hne:((la.length:Int) !=(lb.length:Int))=false:=by simp[hlen]
   generalize hr:eqb la lb=r;have Hr:=Lib.hid hr;clear hr;have Hlen:=Lib.hid hlen;clear hlen;have es:=Cb;go_enter Tryz.func83,Tryz.ntmps83
   go_wp2
   go_loopw [5] (fun i wr=>∃k:Nat,k<=la.length/\i= .int .i64 k/\Hid (la.take k=lb.take k)/\Below w.heap.size w wr) (fun i _=>la.length-(intOf i).toNat)
   case atStart=>exact ⟨0,Nat.zero_le _,rfl,rfl,Below.refl _ _⟩
   case round=>
    obtain ⟨k,hk,rfl,htk,hB⟩:=hrel;by_cases hlt:k<la.length
    . have hltb:k<lb.length:=by have:=Hlen.out;omega
      obtain ⟨ba,fa,ea,rfl,hla,hca,hra⟩:=HE1.out k _ (List.getElem?_eq_getElem hlt);obtain ⟨bb,fb,eb,rfl,hlb,hcb,hrb⟩:=HE2.out k _ (List.getElem?_eq_getElem hltb);have Hno:=Lib.hid (VG (List.getElem?_eq_getElem hlt) (List.getElem?_eq_getElem hltb));have Hyes:=Lib.hid (Oe htk.out (List.getElem?_eq_getElem hlt) (List.getElem?_eq_getElem hltb));generalize la[k]=xa at*;generalize lb[k]=xb at*;obtain ⟨x0,x1,x2,x3,rfl⟩:=Qkx (show _=4 from hla);obtain ⟨y0,y1,y2,y3,rfl⟩:=Qkx (show _=4 from hlb);have qba0:w.cell? ⟨ba,fa+k*4,none⟩=some _:=hca 0 _ rfl;have pba0:=fun d os=>cell_regrown ((hB.cell (World.block_lt_of_cell? w _ qba0)).trans qba0) d os
      clear qba0;have qba1:w.cell? ⟨ba,fa+k*4+1,none⟩=some _:=hca 1 _ rfl;have pba1:=fun d os=>cell_regrown ((hB.cell (World.block_lt_of_cell? w _ qba1)).trans qba1) d os
      clear qba1;have qba2:w.cell? ⟨ba,fa+k*4+2,none⟩=some _:=hca 2 _ rfl;have pba2:=fun d os=>cell_regrown ((hB.cell (World.block_lt_of_cell? w _ qba2)).trans qba2) d os
      clear qba2;have qba3:w.cell? ⟨ba,fa+k*4+3,none⟩=some _:=hca 3 _ rfl;have pba3:=fun d os=>cell_regrown ((hB.cell (World.block_lt_of_cell? w _ qba3)).trans qba3) d os
      clear qba3;have qbb0:w.cell? ⟨bb,fb+k*4,none⟩=some _:=hcb 0 _ rfl;have pbb0:=fun d os=>cell_regrown ((hB.cell (World.block_lt_of_cell? w _ qbb0)).trans qbb0) d os
      clear qbb0;have qbb1:w.cell? ⟨bb,fb+k*4+1,none⟩=some _:=hcb 1 _ rfl;have pbb1:=fun d os=>cell_regrown ((hB.cell (World.block_lt_of_cell? w _ qbb1)).trans qbb1) d os
      clear qbb1;have qbb2:w.cell? ⟨bb,fb+k*4+2,none⟩=some _:=hcb 2 _ rfl;have pbb2:=fun d os=>cell_regrown ((hB.cell (World.block_lt_of_cell? w _ qbb2)).trans qbb2) d os
      clear qbb2;have qbb3:w.cell? ⟨bb,fb+k*4+3,none⟩=some _:=hcb 3 _ rfl;have pbb3:=fun d os=>cell_regrown ((hB.cell (World.block_lt_of_cell? w _ qbb3)).trans qbb3) d os
      clear qbb3;have ra:=fun d os=>Xg (Xg hra hB) (below_regrown wr d os)
      have rb:=fun d os=>Xg (Xg hrb hB) (below_regrown wr d os)
      have Ra:=Lib.hid ra;have Rb:=Lib.hid rb;clear ra rb;clear hca hcb hra hrb hla hlb;go_wp2
      refine wp_region_quiet_below (by kernel_rfl) (by kernel_rfl) ?_
      repeat (quiet_step (exact Calls.regrown_of (Qf8 _ [x0,x1,x2,x3] [y0,y1,y2,y3] xa xb (Ra.out _ _) (Rb.out _ _))))
      refine wpQuiet_nil ?_;intro _ hw';obtain ⟨⟨dq,osq⟩,hw''⟩:=hw';subst hw'';have hB2:=hB.trans ((below_regrown wr dq osq).mono hB.size);go_wp2
      . go_ret
        obtain rfl:r=false:=Hr.out.symm.trans (Hno.out (by go_light;clear es;simp_all [Uy,V4]));exact ⟨rfl,hB2⟩
      go_roundw
      case rel=>exact ⟨k+1,by omega,by go_num,Hyes.out (by go_light;clear es;simp_all [Uy,V4]),hB2⟩
      case measure=>simp[intOf];omega
    obtain rfl:k=la.length:=by omega
    have Hy:=Lib.hid (Sw htk.out (by have:=Hlen.out;omega));go_wp2
    go_ret
    obtain rfl:r=true:=Hr.out.symm.trans Hy.out;exact ⟨rfl,hB⟩
 have hne:((la.length:Int) !=(lb.length:Int))=true:=by simp;omega
 generalize hr:eqb la lb=r;have Hr:=Lib.hid hr;clear hr;have Hn:=Lib.hid (Sx hlen);clear hlen;go_enter Tryz.func83,Tryz.ntmps83
 go_wp2
 go_ret
 obtain rfl:r=false:=Hr.out.symm.trans Hn.out;exact ⟨rfl,Below.refl _ _⟩
set_option maxHeartbeats 1000000 in
theorem PO (w:World) (ca cb:List Value) (a b:Xc) (ha:rd w ca a) (hb:rd w cb b):Calls Tryz.prog 36 #[.agg ca.toArray, .agg cb.toArray] w (Ret w (.bool (eqb a b))):=by
 obtain ⟨a1,a2,a3,a4,a5⟩:=a;obtain ⟨ac1,at1,rfl,ar1,ac2,at2,rfl,ar2,ac3,at3,rfl,ar3,ac4,at4,rfl,ar4,ar5⟩:=ha;obtain ⟨rfl,ar1⟩:=ar1;obtain ⟨rfl,ar2⟩:=ar2;obtain rfl:=ar3;obtain ⟨rfl,ar4⟩:=ar4;obtain ⟨ax5_0,rfl⟩:=Gb (show _=1 from GoD.rd_len ar5);obtain ⟨b1,b2,b3,b4,b5⟩:=b;obtain ⟨bc1,bt1,rfl,br1,bc2,bt2,rfl,br2,bc3,bt3,rfl,br3,bc4,bt4,rfl,br4,br5⟩:=hb;obtain ⟨rfl,br1⟩:=br1;obtain ⟨rfl,br2⟩:=br2;obtain rfl:=br3;obtain ⟨rfl,br4⟩:=br4;obtain ⟨bx5_0,rfl⟩:=Gb (show _=1 from GoD.rd_len br5);dsimp only[List.cons_append,List.nil_append] at*;generalize hr:eqb (a1,a2,a3,a4,a5) (b1,b2,b3,b4,b5)=r;have Hr:=Lib.hid hr;clear hr;have es:=Cb;clear ar1 br1;clear ar2 br2;clear ar4 br4;have AR5H:=Lib.hid ar5;clear ar5;have BR5H:=Lib.hid br5;clear br5;have tok1:True:=trivial;go_enter Tryz.func36,Tryz.ntmps36
 go_wp2_with (first | (go_at_call 83;have tk:=tok1;clear tok1;(refine Cs (w:=w) (Qc5 _ ax5_0 bx5_0 a5 b5 (Xg AR5H.out (by go_grown)) (Xg BR5H.out (by go_grown))) (by go_grown) ?_;intro w' hB hb hz hz2;(repeat (first | rewrite [World.size_alloc] at hz2 | rewrite [World.size_setCell] at hz2 | rewrite [World.size_drew] at hz2));have c0:=fun o=>Km hb (w.heap.size) o (by go_size);have c1:=fun o=>Km hb (w.heap.size+1) o (by go_size))))
 all_goals
  go_ret
  refine ⟨?_,by go_grown⟩;rw[←Hr.out];go_light
  clear es
  simp_all [G0,Uy,V4]
set_option maxHeartbeats 1000000 in
theorem Qf9 (w:World) (ca cb:List Value) (a b:Yu) (ha:rd w ca a) (hb:rd w cb b):Calls Tryz.prog 158 #[.agg ca.toArray, .agg cb.toArray] w (Ret w (.bool (eqb a b))):=by
 obtain ⟨a1,a2,a3,a4,a5⟩:=a;obtain ⟨ac1,at1,rfl,ar1,ac2,at2,rfl,ar2,ac3,at3,rfl,ar3,ac4,at4,rfl,ar4,ar5⟩:=ha;obtain ⟨rfl,ar1⟩:=ar1;obtain ⟨rfl,ar2⟩:=ar2;obtain ⟨rfl,ar3⟩:=ar3;obtain ⟨rfl,ar4⟩:=ar4;obtain ⟨ax5_0,ax5_1,ax5_2,rfl⟩:=TB (show _=3 from GoD.rd_len ar5);obtain ⟨b1,b2,b3,b4,b5⟩:=b;obtain ⟨bc1,bt1,rfl,br1,bc2,bt2,rfl,br2,bc3,bt3,rfl,br3,bc4,bt4,rfl,br4,br5⟩:=hb;obtain ⟨rfl,br1⟩:=br1;obtain ⟨rfl,br2⟩:=br2;obtain ⟨rfl,br3⟩:=br3;obtain ⟨rfl,br4⟩:=br4;obtain ⟨bx5_0,bx5_1,bx5_2,rfl⟩:=TB (show _=3 from GoD.rd_len br5);dsimp only[List.cons_append,List.nil_append] at*;generalize hr:eqb (a1,a2,a3,a4,a5) (b1,b2,b3,b4,b5)=r;have Hr:=Lib.hid hr;clear hr;have es:=Cb;clear ar1 br1;clear ar2 br2;clear ar3 br3;clear ar4 br4;have AR5H:=Lib.hid ar5;clear ar5;have BR5H:=Lib.hid br5;clear br5;have tok1:True:=trivial;go_enter Tryz.func158,Tryz.ntmps158
 go_wp2_with (first | (go_at_call 219;have tk:=tok1;clear tok1;(refine Cs (w:=w) (IL _ [ax5_0,ax5_1,ax5_2] [bx5_0,bx5_1,bx5_2] a5 b5 (Xg AR5H.out (by go_grown)) (Xg BR5H.out (by go_grown))) (by go_grown) ?_;intro w' hB hb hz hz2;(repeat (first | rewrite [World.size_alloc] at hz2 | rewrite [World.size_setCell] at hz2 | rewrite [World.size_drew] at hz2));have c0:=fun o=>Km hb (w.heap.size) o (by go_size);have c1:=fun o=>Km hb (w.heap.size+1) o (by go_size))))
 all_goals
  go_ret
  refine ⟨?_,by go_grown⟩;rw[←Hr.out];go_light
  clear es
  simp_all [G0,Uy,V4]
set_option maxHeartbeats 1000000 in
theorem Qc6 (w:World) (sa sb:Value) (la lb:List Yu) (ha:rd w [sa] la) (hb:rd w [sb] lb):Calls Tryz.prog 84 #[sa,sb] w (Ret w (.bool (eqb la lb))):=by
 obtain ⟨oa,capa,e1,hl1,hm1,hel1⟩:=ha;obtain ⟨ob,capb,e2,hl2,hm2,hel2⟩:=hb;obtain rfl:sa=_:=by simpa using e1
 obtain rfl:sb=_:=by simpa using e2
 clear e1 e2;have HE1:=Lib.hid hel1;clear hel1;have HE2:=Lib.hid hel2;clear hel2;unfold maxLen at hm1 hm2;have hma:la.length<=9223372036854775807:=by omega
 have hmb:lb.length<=9223372036854775807:=by omega
 by_cases hlen:la.length=lb.length
 . have hne:((la.length:Int) !=(lb.length:Int))=false:=by simp[hlen]
   generalize hr:eqb la lb=r;have Hr:=Lib.hid hr;clear hr;have Hlen:=Lib.hid hlen;clear hlen;have es:=Cb;go_enter Tryz.func84,Tryz.ntmps84
   go_wp2
   go_loopw [5] (fun i wr=>∃k:Nat,k<=la.length/\i= .int .i64 k/\Hid (la.take k=lb.take k)/\Below w.heap.size w wr) (fun i _=>la.length-(intOf i).toNat)
   case atStart=>exact ⟨0,Nat.zero_le _,rfl,rfl,Below.refl _ _⟩
   case round=>
    obtain ⟨k,hk,rfl,htk,hB⟩:=hrel;by_cases hlt:k<la.length
    . have hltb:k<lb.length:=by have:=Hlen.out;omega
      obtain ⟨ba,fa,ea,rfl,hla,hca,hra⟩:=HE1.out k _ (List.getElem?_eq_getElem hlt);obtain ⟨bb,fb,eb,rfl,hlb,hcb,hrb⟩:=HE2.out k _ (List.getElem?_eq_getElem hltb);have Hno:=Lib.hid (VG (List.getElem?_eq_getElem hlt) (List.getElem?_eq_getElem hltb));have Hyes:=Lib.hid (Oe htk.out (List.getElem?_eq_getElem hlt) (List.getElem?_eq_getElem hltb));generalize la[k]=xa at*;generalize lb[k]=xb at*;obtain ⟨x0,x1,x2,x3,x4,x5,x6,rfl⟩:=Qky (show _=7 from hla);obtain ⟨y0,y1,y2,y3,y4,y5,y6,rfl⟩:=Qky (show _=7 from hlb);have qba0:w.cell? ⟨ba,fa+k*7,none⟩=some _:=hca 0 _ rfl;have pba0:=fun d os=>cell_regrown ((hB.cell (World.block_lt_of_cell? w _ qba0)).trans qba0) d os
      clear qba0;have qba1:w.cell? ⟨ba,fa+k*7+1,none⟩=some _:=hca 1 _ rfl;have pba1:=fun d os=>cell_regrown ((hB.cell (World.block_lt_of_cell? w _ qba1)).trans qba1) d os
      clear qba1;have qba2:w.cell? ⟨ba,fa+k*7+2,none⟩=some _:=hca 2 _ rfl;have pba2:=fun d os=>cell_regrown ((hB.cell (World.block_lt_of_cell? w _ qba2)).trans qba2) d os
      clear qba2;have qba3:w.cell? ⟨ba,fa+k*7+3,none⟩=some _:=hca 3 _ rfl;have pba3:=fun d os=>cell_regrown ((hB.cell (World.block_lt_of_cell? w _ qba3)).trans qba3) d os
      clear qba3;have qba4:w.cell? ⟨ba,fa+k*7+4,none⟩=some _:=hca 4 _ rfl;have pba4:=fun d os=>cell_regrown ((hB.cell (World.block_lt_of_cell? w _ qba4)).trans qba4) d os
      clear qba4;have qba5:w.cell? ⟨ba,fa+k*7+5,none⟩=some _:=hca 5 _ rfl;have pba5:=fun d os=>cell_regrown ((hB.cell (World.block_lt_of_cell? w _ qba5)).trans qba5) d os
      clear qba5;have qba6:w.cell? ⟨ba,fa+k*7+6,none⟩=some _:=hca 6 _ rfl;have pba6:=fun d os=>cell_regrown ((hB.cell (World.block_lt_of_cell? w _ qba6)).trans qba6) d os
      clear qba6;have qbb0:w.cell? ⟨bb,fb+k*7,none⟩=some _:=hcb 0 _ rfl;have pbb0:=fun d os=>cell_regrown ((hB.cell (World.block_lt_of_cell? w _ qbb0)).trans qbb0) d os
      clear qbb0;have qbb1:w.cell? ⟨bb,fb+k*7+1,none⟩=some _:=hcb 1 _ rfl;have pbb1:=fun d os=>cell_regrown ((hB.cell (World.block_lt_of_cell? w _ qbb1)).trans qbb1) d os
      clear qbb1;have qbb2:w.cell? ⟨bb,fb+k*7+2,none⟩=some _:=hcb 2 _ rfl;have pbb2:=fun d os=>cell_regrown ((hB.cell (World.block_lt_of_cell? w _ qbb2)).trans qbb2) d os
      clear qbb2;have qbb3:w.cell? ⟨bb,fb+k*7+3,none⟩=some _:=hcb 3 _ rfl;have pbb3:=fun d os=>cell_regrown ((hB.cell (World.block_lt_of_cell? w _ qbb3)).trans qbb3) d os
      clear qbb3;have qbb4:w.cell? ⟨bb,fb+k*7+4,none⟩=some _:=hcb 4 _ rfl;have pbb4:=fun d os=>cell_regrown ((hB.cell (World.block_lt_of_cell? w _ qbb4)).trans qbb4) d os
      clear qbb4;have qbb5:w.cell? ⟨bb,fb+k*7+5,none⟩=some _:=hcb 5 _ rfl;have pbb5:=fun d os=>cell_regrown ((hB.cell (World.block_lt_of_cell? w _ qbb5)).trans qbb5) d os
      clear qbb5;have qbb6:w.cell? ⟨bb,fb+k*7+6,none⟩=some _:=hcb 6 _ rfl;have pbb6:=fun d os=>cell_regrown ((hB.cell (World.block_lt_of_cell? w _ qbb6)).trans qbb6) d os
      clear qbb6;have ra:=fun d os=>Xg (Xg hra hB) (below_regrown wr d os)
      have rb:=fun d os=>Xg (Xg hrb hB) (below_regrown wr d os)
      have Ra:=Lib.hid ra;have Rb:=Lib.hid rb;clear ra rb;clear hca hcb hra hrb hla hlb;go_wp2
      refine wp_region_quiet_below (by kernel_rfl) (by kernel_rfl) ?_
      repeat (quiet_step (exact Calls.regrown_of (Qf9 _ [x0,x1,x2,x3,x4,x5,x6] [y0,y1,y2,y3,y4,y5,y6] xa xb (Ra.out _ _) (Rb.out _ _))))
      refine wpQuiet_nil ?_;intro _ hw';obtain ⟨⟨dq,osq⟩,hw''⟩:=hw';subst hw'';have hB2:=hB.trans ((below_regrown wr dq osq).mono hB.size);go_wp2
      . go_ret
        obtain rfl:r=false:=Hr.out.symm.trans (Hno.out (by go_light;clear es;simp_all [Uy,V4]));exact ⟨rfl,hB2⟩
      go_roundw
      case rel=>exact ⟨k+1,by omega,by go_num,Hyes.out (by go_light;clear es;simp_all [Uy,V4]),hB2⟩
      case measure=>simp[intOf];omega
    obtain rfl:k=la.length:=by omega
    have Hy:=Lib.hid (Sw htk.out (by have:=Hlen.out;omega));go_wp2
    go_ret
    obtain rfl:r=true:=Hr.out.symm.trans Hy.out;exact ⟨rfl,hB⟩
 have hne:((la.length:Int) !=(lb.length:Int))=true:=by simp;omega
 generalize hr:eqb la lb=r;have Hr:=Lib.hid hr;clear hr;have Hn:=Lib.hid (Sx hlen);clear hlen;go_enter Tryz.func84,Tryz.ntmps84
 go_wp2
 go_ret
 obtain rfl:r=false:=Hr.out.symm.trans Hn.out;exact ⟨rfl,Below.refl _ _⟩
set_option maxHeartbeats 1000000 in
theorem Qc7 (w:World) (ca cb:List Value) (a b:Xw) (ha:rd w ca a) (hb:rd w cb b):Calls Tryz.prog 37 #[.agg ca.toArray, .agg cb.toArray] w (Ret w (.bool (eqb a b))):=by
 obtain ⟨a1,a2⟩:=a;obtain ⟨ac1,at1,rfl,ar1,ar2⟩:=ha;obtain ⟨rfl,ar1⟩:=ar1;obtain ⟨ax2_0,rfl⟩:=Gb (show _=1 from GoD.rd_len ar2);obtain ⟨b1,b2⟩:=b;obtain ⟨bc1,bt1,rfl,br1,br2⟩:=hb;obtain ⟨rfl,br1⟩:=br1;obtain ⟨bx2_0,rfl⟩:=Gb (show _=1 from GoD.rd_len br2);dsimp only[List.cons_append,List.nil_append] at*;generalize hr:eqb (a1,a2) (b1,b2)=r;have Hr:=Lib.hid hr;clear hr;have es:=Cb;clear ar1 br1;have AR2H:=Lib.hid ar2;clear ar2;have BR2H:=Lib.hid br2;clear br2;have tok1:True:=trivial;go_enter Tryz.func37,Tryz.ntmps37
 go_wp2_with (first | (go_at_call 84;have tk:=tok1;clear tok1;(refine Cs (w:=w) (Qc6 _ ax2_0 bx2_0 a2 b2 (Xg AR2H.out (by go_grown)) (Xg BR2H.out (by go_grown))) (by go_grown) ?_;intro w' hB hb hz hz2;(repeat (first | rewrite [World.size_alloc] at hz2 | rewrite [World.size_setCell] at hz2 | rewrite [World.size_drew] at hz2));have c0:=fun o=>Km hb (w.heap.size) o (by go_size);have c1:=fun o=>Km hb (w.heap.size+1) o (by go_size))))
 all_goals
  go_ret
  refine ⟨?_,by go_grown⟩;rw[←Hr.out];go_light
  clear es
  simp_all [G0,Uy,V4]
set_option maxHeartbeats 1000000 in
theorem ST (w:World) (ca cb:List Value) (a b:Hh) (ha:rd w ca a) (hb:rd w cb b):Calls Tryz.prog 12 #[.agg ca.toArray, .agg cb.toArray] w (Ret w (.bool (eqb a b))):=by
 obtain ⟨a1,a2,a3,a4⟩:=a;obtain ⟨ac1,at1,rfl,ar1,ac2,at2,rfl,ar2,ac3,at3,rfl,ar3,ar4⟩:=ha;obtain ⟨rfl,ar1⟩:=ar1;obtain ⟨ax2_0,ax2_1,ax2_2,ax2_3,ax2_4,rfl⟩:=Qg2 (show _=5 from GoD.rd_len ar2);obtain ⟨rfl,ar3⟩:=ar3;obtain ⟨ax4_0,ax4_1,rfl⟩:=Ry (show _=2 from GoD.rd_len ar4);obtain ⟨b1,b2,b3,b4⟩:=b;obtain ⟨bc1,bt1,rfl,br1,bc2,bt2,rfl,br2,bc3,bt3,rfl,br3,br4⟩:=hb;obtain ⟨rfl,br1⟩:=br1;obtain ⟨bx2_0,bx2_1,bx2_2,bx2_3,bx2_4,rfl⟩:=Qg2 (show _=5 from GoD.rd_len br2);obtain ⟨rfl,br3⟩:=br3;obtain ⟨bx4_0,bx4_1,rfl⟩:=Ry (show _=2 from GoD.rd_len br4);dsimp only[List.cons_append,List.nil_append] at*;generalize hr:eqb (a1,a2,a3,a4) (b1,b2,b3,b4)=r;have Hr:=Lib.hid hr;clear hr;have es:=Cb;clear ar1 br1;have AR2H:=Lib.hid ar2;clear ar2;have BR2H:=Lib.hid br2;clear br2;clear ar3 br3;have AR4H:=Lib.hid ar4;clear ar4;have BR4H:=Lib.hid br4;clear br4;have tok1:True:=trivial;have tok2:True:=trivial;go_enter Tryz.func12,Tryz.ntmps12
 go_wp2_with (first | (go_at_call 36;have tk:=tok1;clear tok1;(refine Cs (w:=w) (PO _ [ax2_0,ax2_1,ax2_2,ax2_3,ax2_4] [bx2_0,bx2_1,bx2_2,bx2_3,bx2_4] a2 b2 (Xg AR2H.out (by go_grown)) (Xg BR2H.out (by go_grown))) (by go_grown) ?_;intro w' hB hb hz hz2;(repeat (first | rewrite [World.size_alloc] at hz2 | rewrite [World.size_setCell] at hz2 | rewrite [World.size_drew] at hz2));have c0:=fun o=>Km hb (w.heap.size) o (by go_size);have c1:=fun o=>Km hb (w.heap.size+1) o (by go_size))) | (go_at_call 37;have tk:=tok2;clear tok2;(refine Cs (w:=w) (Qc7 _ [ax4_0,ax4_1] [bx4_0,bx4_1] a4 b4 (Xg AR4H.out (by go_grown)) (Xg BR4H.out (by go_grown))) (by go_grown) ?_;intro w' hB hb hz hz2;(repeat (first | rewrite [World.size_alloc] at hz2 | rewrite [World.size_setCell] at hz2 | rewrite [World.size_drew] at hz2));have c0:=fun o=>Km hb (w.heap.size) o (by go_size);have c1:=fun o=>Km hb (w.heap.size+1) o (by go_size))))
 all_goals
  go_ret
  refine ⟨?_,by go_grown⟩;rw[←Hr.out];go_light
  clear es
  simp_all [G0,Uy,V4]
set_option maxHeartbeats 1000000 in
theorem Qga (w:World) (sa sb:Value) (la lb:List Int) (ha:rd w [sa] la) (hb:rd w [sb] lb):Calls Tryz.prog 156 #[sa,sb] w (Ret w (.bool (eqb la lb))):=by
 obtain ⟨oa,capa,e1,hl1,hm1,hel1⟩:=ha;obtain ⟨ob,capb,e2,hl2,hm2,hel2⟩:=hb;obtain rfl:sa=_:=by simpa using e1
 obtain rfl:sb=_:=by simpa using e2
 clear e1 e2;have HE1:=Lib.hid hel1;clear hel1;have HE2:=Lib.hid hel2;clear hel2;unfold maxLen at hm1 hm2;have hma:la.length<=9223372036854775807:=by omega
 have hmb:lb.length<=9223372036854775807:=by omega
 by_cases hlen:la.length=lb.length
 . have hne:((la.length:Int) !=(lb.length:Int))=false:=by simp[hlen]
   generalize hr:eqb la lb=r;have Hr:=Lib.hid hr;clear hr;have Hlen:=Lib.hid hlen;clear hlen;have es:=Cb;go_enter Tryz.func156,Tryz.ntmps156
   go_wp2
   go_loopw [5] (fun i wr=>∃k:Nat,k<=la.length/\i= .int .i64 k/\Hid (la.take k=lb.take k)/\Below w.heap.size w wr) (fun i _=>la.length-(intOf i).toNat)
   case atStart=>exact ⟨0,Nat.zero_le _,rfl,rfl,Below.refl _ _⟩
   case round=>
    obtain ⟨k,hk,rfl,htk,hB⟩:=hrel;by_cases hlt:k<la.length
    . have hltb:k<lb.length:=by have:=Hlen.out;omega
      obtain ⟨ba,fa,ea,rfl,hla,hca,hra⟩:=HE1.out k _ (List.getElem?_eq_getElem hlt);obtain ⟨bb,fb,eb,rfl,hlb,hcb,hrb⟩:=HE2.out k _ (List.getElem?_eq_getElem hltb);have Hno:=Lib.hid (VG (List.getElem?_eq_getElem hlt) (List.getElem?_eq_getElem hltb));have Hyes:=Lib.hid (Oe htk.out (List.getElem?_eq_getElem hlt) (List.getElem?_eq_getElem hltb));generalize la[k]=xa at*;generalize lb[k]=xb at*;obtain ⟨x0,rfl⟩:=Gb (show _=1 from hla);obtain ⟨y0,rfl⟩:=Gb (show _=1 from hlb);have e3:x0= .int .i64 xa:=by rcases hra with ⟨e,_⟩;simpa using e
      have e4:y0= .int .i64 xb:=by rcases hrb with ⟨e,_⟩;simpa using e
      subst e3 e4;have qba0:w.cell? ⟨ba,fa+k,none⟩=some _:=(by simpa [GoD.n] using hca 0 _ rfl);have pba0:=fun d os=>cell_regrown ((hB.cell (World.block_lt_of_cell? w _ qba0)).trans qba0) d os
      clear qba0;have qbb0:w.cell? ⟨bb,fb+k,none⟩=some _:=(by simpa [GoD.n] using hcb 0 _ rfl);have pbb0:=fun d os=>cell_regrown ((hB.cell (World.block_lt_of_cell? w _ qbb0)).trans qbb0) d os
      clear qbb0;clear hca hcb hra hrb hla hlb;go_wp2
      refine wp_region_quiet_below (by kernel_rfl) (by kernel_rfl) ?_
      repeat (quiet_step (fail))
      refine wpQuiet_nil ?_;intro _ hw';obtain ⟨⟨dq,osq⟩,hw''⟩:=hw';subst hw'';have hB2:=hB.trans ((below_regrown wr dq osq).mono hB.size);go_wp2
      . go_ret
        obtain rfl:r=false:=Hr.out.symm.trans (Hno.out (by go_light;clear es;simp_all [Uy,V4]));exact ⟨rfl,hB2⟩
      go_roundw
      case rel=>exact ⟨k+1,by omega,by go_num,Hyes.out (by go_light;clear es;simp_all [Uy,V4]),hB2⟩
      case measure=>simp[intOf];omega
    obtain rfl:k=la.length:=by omega
    have Hy:=Lib.hid (Sw htk.out (by have:=Hlen.out;omega));go_wp2
    go_ret
    obtain rfl:r=true:=Hr.out.symm.trans Hy.out;exact ⟨rfl,hB⟩
 have hne:((la.length:Int) !=(lb.length:Int))=true:=by simp;omega
 generalize hr:eqb la lb=r;have Hr:=Lib.hid hr;clear hr;have Hn:=Lib.hid (Sx hlen);clear hlen;go_enter Tryz.func156,Tryz.ntmps156
 go_wp2
 go_ret
 obtain rfl:r=false:=Hr.out.symm.trans Hn.out;exact ⟨rfl,Below.refl _ _⟩
set_option maxHeartbeats 1000000 in
theorem SU (w:World) (ca cb:List Value) (a b:Qh) (ha:rd w ca a) (hb:rd w cb b):Calls Tryz.prog 82 #[.agg ca.toArray, .agg cb.toArray] w (Ret w (.bool (eqb a b))):=by
 obtain ⟨a1,a2⟩:=a;obtain ⟨ac1,at1,rfl,ar1,ar2⟩:=ha;obtain ⟨rfl,ar1⟩:=ar1;obtain ⟨ax2_0,rfl⟩:=Gb (show _=1 from GoD.rd_len ar2);obtain ⟨b1,b2⟩:=b;obtain ⟨bc1,bt1,rfl,br1,br2⟩:=hb;obtain ⟨rfl,br1⟩:=br1;obtain ⟨bx2_0,rfl⟩:=Gb (show _=1 from GoD.rd_len br2);dsimp only[List.cons_append,List.nil_append] at*;generalize hr:eqb (a1,a2) (b1,b2)=r;have Hr:=Lib.hid hr;clear hr;have es:=Cb;clear ar1 br1;have AR2H:=Lib.hid ar2;clear ar2;have BR2H:=Lib.hid br2;clear br2;have tok1:True:=trivial;go_enter Tryz.func82,Tryz.ntmps82
 go_wp2_with (first | (go_at_call 156;have tk:=tok1;clear tok1;(refine Cs (w:=w) (Qga _ ax2_0 bx2_0 a2 b2 (Xg AR2H.out (by go_grown)) (Xg BR2H.out (by go_grown))) (by go_grown) ?_;intro w' hB hb hz hz2;(repeat (first | rewrite [World.size_alloc] at hz2 | rewrite [World.size_setCell] at hz2 | rewrite [World.size_drew] at hz2));have c0:=fun o=>Km hb (w.heap.size) o (by go_size);have c1:=fun o=>Km hb (w.heap.size+1) o (by go_size))))
 all_goals
  go_ret
  refine ⟨?_,by go_grown⟩;rw[←Hr.out];go_light
  clear es
  simp_all [G0,Uy,V4]
set_option maxHeartbeats 1000000 in
theorem Qc8 (w:World) (ca cb:List Value) (a b:Kt) (ha:rd w ca a) (hb:rd w cb b):Calls Tryz.prog 155 #[.agg ca.toArray, .agg cb.toArray] w (Ret w (.bool (eqb a b))):=by
 obtain ⟨a1,a2⟩:=a;obtain ⟨ac1,at1,rfl,ar1,ar2⟩:=ha;obtain ⟨rfl,ar1⟩:=ar1;obtain ⟨rfl,ar2⟩:=ar2;obtain ⟨b1,b2⟩:=b;obtain ⟨bc1,bt1,rfl,br1,br2⟩:=hb;obtain ⟨rfl,br1⟩:=br1;obtain ⟨rfl,br2⟩:=br2;dsimp only[List.cons_append,List.nil_append] at*;generalize hr:eqb (a1,a2) (b1,b2)=r;have Hr:=Lib.hid hr;clear hr;have es:=Cb;clear ar1 br1;clear ar2 br2;go_enter Tryz.func155,Tryz.ntmps155
 go_wp2
 all_goals
  go_ret
  refine ⟨?_,by go_grown⟩;rw[←Hr.out];go_light
  clear es
  simp_all [G0,Uy,V4]
set_option maxHeartbeats 1000000 in
theorem SV (w:World) (sa sb:Value) (la lb:List Kt) (ha:rd w [sa] la) (hb:rd w [sb] lb):Calls Tryz.prog 80 #[sa,sb] w (Ret w (.bool (eqb la lb))):=by
 obtain ⟨oa,capa,e1,hl1,hm1,hel1⟩:=ha;obtain ⟨ob,capb,e2,hl2,hm2,hel2⟩:=hb;obtain rfl:sa=_:=by simpa using e1
 obtain rfl:sb=_:=by simpa using e2
 clear e1 e2;have HE1:=Lib.hid hel1;clear hel1;have HE2:=Lib.hid hel2;clear hel2;unfold maxLen at hm1 hm2;have hma:la.length<=9223372036854775807:=by omega
 have hmb:lb.length<=9223372036854775807:=by omega
 by_cases hlen:la.length=lb.length
 . have hne:((la.length:Int) !=(lb.length:Int))=false:=by simp[hlen]
   generalize hr:eqb la lb=r;have Hr:=Lib.hid hr;clear hr;have Hlen:=Lib.hid hlen;clear hlen;have es:=Cb;go_enter Tryz.func80,Tryz.ntmps80
   go_wp2
   go_loopw [5] (fun i wr=>∃k:Nat,k<=la.length/\i= .int .i64 k/\Hid (la.take k=lb.take k)/\Below w.heap.size w wr) (fun i _=>la.length-(intOf i).toNat)
   case atStart=>exact ⟨0,Nat.zero_le _,rfl,rfl,Below.refl _ _⟩
   case round=>
    obtain ⟨k,hk,rfl,htk,hB⟩:=hrel;by_cases hlt:k<la.length
    . have hltb:k<lb.length:=by have:=Hlen.out;omega
      obtain ⟨ba,fa,ea,rfl,hla,hca,hra⟩:=HE1.out k _ (List.getElem?_eq_getElem hlt);obtain ⟨bb,fb,eb,rfl,hlb,hcb,hrb⟩:=HE2.out k _ (List.getElem?_eq_getElem hltb);have Hno:=Lib.hid (VG (List.getElem?_eq_getElem hlt) (List.getElem?_eq_getElem hltb));have Hyes:=Lib.hid (Oe htk.out (List.getElem?_eq_getElem hlt) (List.getElem?_eq_getElem hltb));generalize la[k]=xa at*;generalize lb[k]=xb at*;obtain ⟨x0,x1,rfl⟩:=Ry (show _=2 from hla);obtain ⟨y0,y1,rfl⟩:=Ry (show _=2 from hlb);have qba0:w.cell? ⟨ba,fa+k*2,none⟩=some _:=hca 0 _ rfl;have pba0:=fun d os=>cell_regrown ((hB.cell (World.block_lt_of_cell? w _ qba0)).trans qba0) d os
      clear qba0;have qba1:w.cell? ⟨ba,fa+k*2+1,none⟩=some _:=hca 1 _ rfl;have pba1:=fun d os=>cell_regrown ((hB.cell (World.block_lt_of_cell? w _ qba1)).trans qba1) d os
      clear qba1;have qbb0:w.cell? ⟨bb,fb+k*2,none⟩=some _:=hcb 0 _ rfl;have pbb0:=fun d os=>cell_regrown ((hB.cell (World.block_lt_of_cell? w _ qbb0)).trans qbb0) d os
      clear qbb0;have qbb1:w.cell? ⟨bb,fb+k*2+1,none⟩=some _:=hcb 1 _ rfl;have pbb1:=fun d os=>cell_regrown ((hB.cell (World.block_lt_of_cell? w _ qbb1)).trans qbb1) d os
      clear qbb1;have ra:=fun d os=>Xg (Xg hra hB) (below_regrown wr d os)
      have rb:=fun d os=>Xg (Xg hrb hB) (below_regrown wr d os)
      have Ra:=Lib.hid ra;have Rb:=Lib.hid rb;clear ra rb;clear hca hcb hra hrb hla hlb;go_wp2
      refine wp_region_quiet_below (by kernel_rfl) (by kernel_rfl) ?_
      repeat (quiet_step (exact Calls.regrown_of (Qc8 _ [x0,x1] [y0,y1] xa xb (Ra.out _ _) (Rb.out _ _))))
      refine wpQuiet_nil ?_;intro _ hw';obtain ⟨⟨dq,osq⟩,hw''⟩:=hw';subst hw'';have hB2:=hB.trans ((below_regrown wr dq osq).mono hB.size);go_wp2
      . go_ret
        obtain rfl:r=false:=Hr.out.symm.trans (Hno.out (by go_light;clear es;simp_all [Uy,V4]));exact ⟨rfl,hB2⟩
      go_roundw
      case rel=>exact ⟨k+1,by omega,by go_num,Hyes.out (by go_light;clear es;simp_all [Uy,V4]),hB2⟩
      case measure=>simp[intOf];omega
    obtain rfl:k=la.length:=by omega
    have Hy:=Lib.hid (Sw htk.out (by have:=Hlen.out;omega));go_wp2
    go_ret
    obtain rfl:r=true:=Hr.out.symm.trans Hy.out;exact ⟨rfl,hB⟩
 have hne:((la.length:Int) !=(lb.length:Int))=true:=by simp;omega
 generalize hr:eqb la lb=r;have Hr:=Lib.hid hr;clear hr;have Hn:=Lib.hid (Sx hlen);clear hlen;go_enter Tryz.func80,Tryz.ntmps80
 go_wp2
 go_ret
 obtain rfl:r=false:=Hr.out.symm.trans Hn.out;exact ⟨rfl,Below.refl _ _⟩
set_option maxHeartbeats 1000000 in
theorem Qc9 (w:World) (sa sb:Value) (la lb:List Xc) (ha:rd w [sa] la) (hb:rd w [sb] lb):Calls Tryz.prog 81 #[sa,sb] w (Ret w (.bool (eqb la lb))):=by
 obtain ⟨oa,capa,e1,hl1,hm1,hel1⟩:=ha;obtain ⟨ob,capb,e2,hl2,hm2,hel2⟩:=hb;obtain rfl:sa=_:=by simpa using e1
 obtain rfl:sb=_:=by simpa using e2
 clear e1 e2;have HE1:=Lib.hid hel1;clear hel1;have HE2:=Lib.hid hel2;clear hel2;unfold maxLen at hm1 hm2;have hma:la.length<=9223372036854775807:=by omega
 have hmb:lb.length<=9223372036854775807:=by omega
 by_cases hlen:la.length=lb.length
 . have hne:((la.length:Int) !=(lb.length:Int))=false:=by simp[hlen]
   generalize hr:eqb la lb=r;have Hr:=Lib.hid hr;clear hr;have Hlen:=Lib.hid hlen;clear hlen;have es:=Cb;go_enter Tryz.func81,Tryz.ntmps81
   go_wp2
   go_loopw [5] (fun i wr=>∃k:Nat,k<=la.length/\i= .int .i64 k/\Hid (la.take k=lb.take k)/\Below w.heap.size w wr) (fun i _=>la.length-(intOf i).toNat)
   case atStart=>exact ⟨0,Nat.zero_le _,rfl,rfl,Below.refl _ _⟩
   case round=>
    obtain ⟨k,hk,rfl,htk,hB⟩:=hrel;by_cases hlt:k<la.length
    . have hltb:k<lb.length:=by have:=Hlen.out;omega
      obtain ⟨ba,fa,ea,rfl,hla,hca,hra⟩:=HE1.out k _ (List.getElem?_eq_getElem hlt);obtain ⟨bb,fb,eb,rfl,hlb,hcb,hrb⟩:=HE2.out k _ (List.getElem?_eq_getElem hltb);have Hno:=Lib.hid (VG (List.getElem?_eq_getElem hlt) (List.getElem?_eq_getElem hltb));have Hyes:=Lib.hid (Oe htk.out (List.getElem?_eq_getElem hlt) (List.getElem?_eq_getElem hltb));generalize la[k]=xa at*;generalize lb[k]=xb at*;obtain ⟨x0,x1,x2,x3,x4,rfl⟩:=Qg2 (show _=5 from hla);obtain ⟨y0,y1,y2,y3,y4,rfl⟩:=Qg2 (show _=5 from hlb);have qba0:w.cell? ⟨ba,fa+k*5,none⟩=some _:=hca 0 _ rfl;have pba0:=fun d os=>cell_regrown ((hB.cell (World.block_lt_of_cell? w _ qba0)).trans qba0) d os
      clear qba0;have qba1:w.cell? ⟨ba,fa+k*5+1,none⟩=some _:=hca 1 _ rfl;have pba1:=fun d os=>cell_regrown ((hB.cell (World.block_lt_of_cell? w _ qba1)).trans qba1) d os
      clear qba1;have qba2:w.cell? ⟨ba,fa+k*5+2,none⟩=some _:=hca 2 _ rfl;have pba2:=fun d os=>cell_regrown ((hB.cell (World.block_lt_of_cell? w _ qba2)).trans qba2) d os
      clear qba2;have qba3:w.cell? ⟨ba,fa+k*5+3,none⟩=some _:=hca 3 _ rfl;have pba3:=fun d os=>cell_regrown ((hB.cell (World.block_lt_of_cell? w _ qba3)).trans qba3) d os
      clear qba3;have qba4:w.cell? ⟨ba,fa+k*5+4,none⟩=some _:=hca 4 _ rfl;have pba4:=fun d os=>cell_regrown ((hB.cell (World.block_lt_of_cell? w _ qba4)).trans qba4) d os
      clear qba4;have qbb0:w.cell? ⟨bb,fb+k*5,none⟩=some _:=hcb 0 _ rfl;have pbb0:=fun d os=>cell_regrown ((hB.cell (World.block_lt_of_cell? w _ qbb0)).trans qbb0) d os
      clear qbb0;have qbb1:w.cell? ⟨bb,fb+k*5+1,none⟩=some _:=hcb 1 _ rfl;have pbb1:=fun d os=>cell_regrown ((hB.cell (World.block_lt_of_cell? w _ qbb1)).trans qbb1) d os
      clear qbb1;have qbb2:w.cell? ⟨bb,fb+k*5+2,none⟩=some _:=hcb 2 _ rfl;have pbb2:=fun d os=>cell_regrown ((hB.cell (World.block_lt_of_cell? w _ qbb2)).trans qbb2) d os
      clear qbb2;have qbb3:w.cell? ⟨bb,fb+k*5+3,none⟩=some _:=hcb 3 _ rfl;have pbb3:=fun d os=>cell_regrown ((hB.cell (World.block_lt_of_cell? w _ qbb3)).trans qbb3) d os
      clear qbb3;have qbb4:w.cell? ⟨bb,fb+k*5+4,none⟩=some _:=hcb 4 _ rfl;have pbb4:=fun d os=>cell_regrown ((hB.cell (World.block_lt_of_cell? w _ qbb4)).trans qbb4) d os
      clear qbb4;have ra:=fun d os=>Xg (Xg hra hB) (below_regrown wr d os)
      have rb:=fun d os=>Xg (Xg hrb hB) (below_regrown wr d os)
      have Ra:=Lib.hid ra;have Rb:=Lib.hid rb;clear ra rb;clear hca hcb hra hrb hla hlb;go_wp2
      refine wp_region_quiet_below (by kernel_rfl) (by kernel_rfl) ?_
      repeat (quiet_step (exact Calls.regrown_of (PO _ [x0,x1,x2,x3,x4] [y0,y1,y2,y3,y4] xa xb (Ra.out _ _) (Rb.out _ _))))
      refine wpQuiet_nil ?_;intro _ hw';obtain ⟨⟨dq,osq⟩,hw''⟩:=hw';subst hw'';have hB2:=hB.trans ((below_regrown wr dq osq).mono hB.size);go_wp2
      . go_ret
        obtain rfl:r=false:=Hr.out.symm.trans (Hno.out (by go_light;clear es;simp_all [Uy,V4]));exact ⟨rfl,hB2⟩
      go_roundw
      case rel=>exact ⟨k+1,by omega,by go_num,Hyes.out (by go_light;clear es;simp_all [Uy,V4]),hB2⟩
      case measure=>simp[intOf];omega
    obtain rfl:k=la.length:=by omega
    have Hy:=Lib.hid (Sw htk.out (by have:=Hlen.out;omega));go_wp2
    go_ret
    obtain rfl:r=true:=Hr.out.symm.trans Hy.out;exact ⟨rfl,hB⟩
 have hne:((la.length:Int) !=(lb.length:Int))=true:=by simp;omega
 generalize hr:eqb la lb=r;have Hr:=Lib.hid hr;clear hr;have Hn:=Lib.hid (Sx hlen);clear hlen;go_enter Tryz.func81,Tryz.ntmps81
 go_wp2
 go_ret
 obtain rfl:r=false:=Hr.out.symm.trans Hn.out;exact ⟨rfl,Below.refl _ _⟩
set_option maxHeartbeats 1000000 in
theorem Qda (w:World) (ca cb:List Value) (a b:Qz) (ha:rd w ca a) (hb:rd w cb b):Calls Tryz.prog 33 #[.agg ca.toArray, .agg cb.toArray] w (Ret w (.bool (eqb a b))):=by
 obtain ⟨a1,a2,a3⟩:=a;obtain ⟨ac1,at1,rfl,ar1,ac2,at2,rfl,ar2,ar3⟩:=ha;obtain ⟨ax1_0,rfl⟩:=Gb (show _=1 from GoD.rd_len ar1);obtain ⟨ax2_0,rfl⟩:=Gb (show _=1 from GoD.rd_len ar2);obtain ⟨rfl,ar3⟩:=ar3;obtain ⟨b1,b2,b3⟩:=b;obtain ⟨bc1,bt1,rfl,br1,bc2,bt2,rfl,br2,br3⟩:=hb;obtain ⟨bx1_0,rfl⟩:=Gb (show _=1 from GoD.rd_len br1);obtain ⟨bx2_0,rfl⟩:=Gb (show _=1 from GoD.rd_len br2);obtain ⟨rfl,br3⟩:=br3;dsimp only[List.cons_append,List.nil_append] at*;generalize hr:eqb (a1,a2,a3) (b1,b2,b3)=r;have Hr:=Lib.hid hr;clear hr;have es:=Cb;have AR1H:=Lib.hid ar1;clear ar1;have BR1H:=Lib.hid br1;clear br1;have AR2H:=Lib.hid ar2;clear ar2;have BR2H:=Lib.hid br2;clear br2;clear ar3 br3;have tok1:True:=trivial;have tok2:True:=trivial;go_enter Tryz.func33,Tryz.ntmps33
 go_wp2_with (first | (go_at_call 80;have tk:=tok1;clear tok1;(refine Cs (w:=w) (SV _ ax1_0 bx1_0 a1 b1 (Xg AR1H.out (by go_grown)) (Xg BR1H.out (by go_grown))) (by go_grown) ?_;intro w' hB hb hz hz2;(repeat (first | rewrite [World.size_alloc] at hz2 | rewrite [World.size_setCell] at hz2 | rewrite [World.size_drew] at hz2));have c0:=fun o=>Km hb (w.heap.size) o (by go_size);have c1:=fun o=>Km hb (w.heap.size+1) o (by go_size))) | (go_at_call 81;have tk:=tok2;clear tok2;(refine Cs (w:=w) (Qc9 _ ax2_0 bx2_0 a2 b2 (Xg AR2H.out (by go_grown)) (Xg BR2H.out (by go_grown))) (by go_grown) ?_;intro w' hB hb hz hz2;(repeat (first | rewrite [World.size_alloc] at hz2 | rewrite [World.size_setCell] at hz2 | rewrite [World.size_drew] at hz2));have c0:=fun o=>Km hb (w.heap.size) o (by go_size);have c1:=fun o=>Km hb (w.heap.size+1) o (by go_size))))
 all_goals
  go_ret
  refine ⟨?_,by go_grown⟩;rw[←Hr.out];go_light
  clear es
  simp_all [G0,Uy,V4]
set_option maxHeartbeats 1000000 in
theorem Qgb (w:World) (sa sb:Value) (la lb:List Xw) (ha:rd w [sa] la) (hb:rd w [sb] lb):Calls Tryz.prog 34 #[sa,sb] w (Ret w (.bool (eqb la lb))):=by
 obtain ⟨oa,capa,e1,hl1,hm1,hel1⟩:=ha;obtain ⟨ob,capb,e2,hl2,hm2,hel2⟩:=hb;obtain rfl:sa=_:=by simpa using e1
 obtain rfl:sb=_:=by simpa using e2
 clear e1 e2;have HE1:=Lib.hid hel1;clear hel1;have HE2:=Lib.hid hel2;clear hel2;unfold maxLen at hm1 hm2;have hma:la.length<=9223372036854775807:=by omega
 have hmb:lb.length<=9223372036854775807:=by omega
 by_cases hlen:la.length=lb.length
 . have hne:((la.length:Int) !=(lb.length:Int))=false:=by simp[hlen]
   generalize hr:eqb la lb=r;have Hr:=Lib.hid hr;clear hr;have Hlen:=Lib.hid hlen;clear hlen;have es:=Cb;go_enter Tryz.func34,Tryz.ntmps34
   go_wp2
   go_loopw [5] (fun i wr=>∃k:Nat,k<=la.length/\i= .int .i64 k/\Hid (la.take k=lb.take k)/\Below w.heap.size w wr) (fun i _=>la.length-(intOf i).toNat)
   case atStart=>exact ⟨0,Nat.zero_le _,rfl,rfl,Below.refl _ _⟩
   case round=>
    obtain ⟨k,hk,rfl,htk,hB⟩:=hrel;by_cases hlt:k<la.length
    . have hltb:k<lb.length:=by have:=Hlen.out;omega
      obtain ⟨ba,fa,ea,rfl,hla,hca,hra⟩:=HE1.out k _ (List.getElem?_eq_getElem hlt);obtain ⟨bb,fb,eb,rfl,hlb,hcb,hrb⟩:=HE2.out k _ (List.getElem?_eq_getElem hltb);have Hno:=Lib.hid (VG (List.getElem?_eq_getElem hlt) (List.getElem?_eq_getElem hltb));have Hyes:=Lib.hid (Oe htk.out (List.getElem?_eq_getElem hlt) (List.getElem?_eq_getElem hltb));generalize la[k]=xa at*;generalize lb[k]=xb at*;obtain ⟨x0,x1,rfl⟩:=Ry (show _=2 from hla);obtain ⟨y0,y1,rfl⟩:=Ry (show _=2 from hlb);have qba0:w.cell? ⟨ba,fa+k*2,none⟩=some _:=hca 0 _ rfl;have pba0:=fun d os=>cell_regrown ((hB.cell (World.block_lt_of_cell? w _ qba0)).trans qba0) d os
      clear qba0;have qba1:w.cell? ⟨ba,fa+k*2+1,none⟩=some _:=hca 1 _ rfl;have pba1:=fun d os=>cell_regrown ((hB.cell (World.block_lt_of_cell? w _ qba1)).trans qba1) d os
      clear qba1;have qbb0:w.cell? ⟨bb,fb+k*2,none⟩=some _:=hcb 0 _ rfl;have pbb0:=fun d os=>cell_regrown ((hB.cell (World.block_lt_of_cell? w _ qbb0)).trans qbb0) d os
      clear qbb0;have qbb1:w.cell? ⟨bb,fb+k*2+1,none⟩=some _:=hcb 1 _ rfl;have pbb1:=fun d os=>cell_regrown ((hB.cell (World.block_lt_of_cell? w _ qbb1)).trans qbb1) d os
      clear qbb1;have ra:=fun d os=>Xg (Xg hra hB) (below_regrown wr d os)
      have rb:=fun d os=>Xg (Xg hrb hB) (below_regrown wr d os)
      have Ra:=Lib.hid ra;have Rb:=Lib.hid rb;clear ra rb;clear hca hcb hra hrb hla hlb;go_wp2
      refine wp_region_quiet_below (by kernel_rfl) (by kernel_rfl) ?_
      repeat (quiet_step (exact Calls.regrown_of (Qc7 _ [x0,x1] [y0,y1] xa xb (Ra.out _ _) (Rb.out _ _))))
      refine wpQuiet_nil ?_;intro _ hw';obtain ⟨⟨dq,osq⟩,hw''⟩:=hw';subst hw'';have hB2:=hB.trans ((below_regrown wr dq osq).mono hB.size);go_wp2
      . go_ret
        obtain rfl:r=false:=Hr.out.symm.trans (Hno.out (by go_light;clear es;simp_all [Uy,V4]));exact ⟨rfl,hB2⟩
      go_roundw
      case rel=>exact ⟨k+1,by omega,by go_num,Hyes.out (by go_light;clear es;simp_all [Uy,V4]),hB2⟩
      case measure=>simp[intOf];omega
    obtain rfl:k=la.length:=by omega
    have Hy:=Lib.hid (Sw htk.out (by have:=Hlen.out;omega));go_wp2
    go_ret
    obtain rfl:r=true:=Hr.out.symm.trans Hy.out;exact ⟨rfl,hB⟩
 have hne:((la.length:Int) !=(lb.length:Int))=true:=by simp;omega
 generalize hr:eqb la lb=r;have Hr:=Lib.hid hr;clear hr;have Hn:=Lib.hid (Sx hlen);clear hlen;go_enter Tryz.func34,Tryz.ntmps34
 go_wp2
 go_ret
 obtain rfl:r=false:=Hr.out.symm.trans Hn.out;exact ⟨rfl,Below.refl _ _⟩
set_option maxHeartbeats 1000000 in
theorem NC (w:World) (sa sb:Value) (la lb:List Qh) (ha:rd w [sa] la) (hb:rd w [sb] lb):Calls Tryz.prog 35 #[sa,sb] w (Ret w (.bool (eqb la lb))):=by
 obtain ⟨oa,capa,e1,hl1,hm1,hel1⟩:=ha;obtain ⟨ob,capb,e2,hl2,hm2,hel2⟩:=hb;obtain rfl:sa=_:=by simpa using e1
 obtain rfl:sb=_:=by simpa using e2
 clear e1 e2;have HE1:=Lib.hid hel1;clear hel1;have HE2:=Lib.hid hel2;clear hel2;unfold maxLen at hm1 hm2;have hma:la.length<=9223372036854775807:=by omega
 have hmb:lb.length<=9223372036854775807:=by omega
 by_cases hlen:la.length=lb.length
 . have hne:((la.length:Int) !=(lb.length:Int))=false:=by simp[hlen]
   generalize hr:eqb la lb=r;have Hr:=Lib.hid hr;clear hr;have Hlen:=Lib.hid hlen;clear hlen;have es:=Cb;go_enter Tryz.func35,Tryz.ntmps35
   go_wp2
   go_loopw [5] (fun i wr=>∃k:Nat,k<=la.length/\i= .int .i64 k/\Hid (la.take k=lb.take k)/\Below w.heap.size w wr) (fun i _=>la.length-(intOf i).toNat)
   case atStart=>exact ⟨0,Nat.zero_le _,rfl,rfl,Below.refl _ _⟩
   case round=>
    obtain ⟨k,hk,rfl,htk,hB⟩:=hrel;by_cases hlt:k<la.length
    . have hltb:k<lb.length:=by have:=Hlen.out;omega
      obtain ⟨ba,fa,ea,rfl,hla,hca,hra⟩:=HE1.out k _ (List.getElem?_eq_getElem hlt);obtain ⟨bb,fb,eb,rfl,hlb,hcb,hrb⟩:=HE2.out k _ (List.getElem?_eq_getElem hltb);have Hno:=Lib.hid (VG (List.getElem?_eq_getElem hlt) (List.getElem?_eq_getElem hltb));have Hyes:=Lib.hid (Oe htk.out (List.getElem?_eq_getElem hlt) (List.getElem?_eq_getElem hltb));generalize la[k]=xa at*;generalize lb[k]=xb at*;obtain ⟨x0,x1,rfl⟩:=Ry (show _=2 from hla);obtain ⟨y0,y1,rfl⟩:=Ry (show _=2 from hlb);have qba0:w.cell? ⟨ba,fa+k*2,none⟩=some _:=hca 0 _ rfl;have pba0:=fun d os=>cell_regrown ((hB.cell (World.block_lt_of_cell? w _ qba0)).trans qba0) d os
      clear qba0;have qba1:w.cell? ⟨ba,fa+k*2+1,none⟩=some _:=hca 1 _ rfl;have pba1:=fun d os=>cell_regrown ((hB.cell (World.block_lt_of_cell? w _ qba1)).trans qba1) d os
      clear qba1;have qbb0:w.cell? ⟨bb,fb+k*2,none⟩=some _:=hcb 0 _ rfl;have pbb0:=fun d os=>cell_regrown ((hB.cell (World.block_lt_of_cell? w _ qbb0)).trans qbb0) d os
      clear qbb0;have qbb1:w.cell? ⟨bb,fb+k*2+1,none⟩=some _:=hcb 1 _ rfl;have pbb1:=fun d os=>cell_regrown ((hB.cell (World.block_lt_of_cell? w _ qbb1)).trans qbb1) d os
      clear qbb1;have ra:=fun d os=>Xg (Xg hra hB) (below_regrown wr d os)
      have rb:=fun d os=>Xg (Xg hrb hB) (below_regrown wr d os)
      have Ra:=Lib.hid ra;have Rb:=Lib.hid rb;clear ra rb;clear hca hcb hra hrb hla hlb;go_wp2
      refine wp_region_quiet_below (by kernel_rfl) (by kernel_rfl) ?_
      repeat (quiet_step (exact Calls.regrown_of (SU _ [x0,x1] [y0,y1] xa xb (Ra.out _ _) (Rb.out _ _))))
      refine wpQuiet_nil ?_;intro _ hw';obtain ⟨⟨dq,osq⟩,hw''⟩:=hw';subst hw'';have hB2:=hB.trans ((below_regrown wr dq osq).mono hB.size);go_wp2
      . go_ret
        obtain rfl:r=false:=Hr.out.symm.trans (Hno.out (by go_light;clear es;simp_all [Uy,V4]));exact ⟨rfl,hB2⟩
      go_roundw
      case rel=>exact ⟨k+1,by omega,by go_num,Hyes.out (by go_light;clear es;simp_all [Uy,V4]),hB2⟩
      case measure=>simp[intOf];omega
    obtain rfl:k=la.length:=by omega
    have Hy:=Lib.hid (Sw htk.out (by have:=Hlen.out;omega));go_wp2
    go_ret
    obtain rfl:r=true:=Hr.out.symm.trans Hy.out;exact ⟨rfl,hB⟩
 have hne:((la.length:Int) !=(lb.length:Int))=true:=by simp;omega
 generalize hr:eqb la lb=r;have Hr:=Lib.hid hr;clear hr;have Hn:=Lib.hid (Sx hlen);clear hlen;go_enter Tryz.func35,Tryz.ntmps35
 go_wp2
 go_ret
 obtain rfl:r=false:=Hr.out.symm.trans Hn.out;exact ⟨rfl,Below.refl _ _⟩
set_option maxHeartbeats 1000000 in
theorem ND (w:World) (ca cb:List Value) (a b:Xq) (ha:rd w ca a) (hb:rd w cb b):Calls Tryz.prog 11 #[.agg ca.toArray, .agg cb.toArray] w (Ret w (.bool (eqb a b))):=by
 obtain ⟨a1,a2,a3⟩:=a;obtain ⟨ac1,at1,rfl,ar1,ac2,at2,rfl,ar2,ar3⟩:=ha;obtain ⟨ax1_0,ax1_1,ax1_2,rfl⟩:=TB (show _=3 from GoD.rd_len ar1);obtain ⟨ax2_0,rfl⟩:=Gb (show _=1 from GoD.rd_len ar2);obtain ⟨ax3_0,rfl⟩:=Gb (show _=1 from GoD.rd_len ar3);obtain ⟨b1,b2,b3⟩:=b;obtain ⟨bc1,bt1,rfl,br1,bc2,bt2,rfl,br2,br3⟩:=hb;obtain ⟨bx1_0,bx1_1,bx1_2,rfl⟩:=TB (show _=3 from GoD.rd_len br1);obtain ⟨bx2_0,rfl⟩:=Gb (show _=1 from GoD.rd_len br2);obtain ⟨bx3_0,rfl⟩:=Gb (show _=1 from GoD.rd_len br3);dsimp only[List.cons_append,List.nil_append] at*;generalize hr:eqb (a1,a2,a3) (b1,b2,b3)=r;have Hr:=Lib.hid hr;clear hr;have es:=Cb;have AR1H:=Lib.hid ar1;clear ar1;have BR1H:=Lib.hid br1;clear br1;have AR2H:=Lib.hid ar2;clear ar2;have BR2H:=Lib.hid br2;clear br2;have AR3H:=Lib.hid ar3;clear ar3;have BR3H:=Lib.hid br3;clear br3;have tok1:True:=trivial;have tok2:True:=trivial;have tok3:True:=trivial;go_enter Tryz.func11,Tryz.ntmps11
 go_wp2_with (first | (go_at_call 33;have tk:=tok1;clear tok1;(refine Cs (w:=w) (Qda _ [ax1_0,ax1_1,ax1_2] [bx1_0,bx1_1,bx1_2] a1 b1 (Xg AR1H.out (by go_grown)) (Xg BR1H.out (by go_grown))) (by go_grown) ?_;intro w' hB hb hz hz2;(repeat (first | rewrite [World.size_alloc] at hz2 | rewrite [World.size_setCell] at hz2 | rewrite [World.size_drew] at hz2));have c0:=fun o=>Km hb (w.heap.size) o (by go_size);have c1:=fun o=>Km hb (w.heap.size+1) o (by go_size))) | (go_at_call 34;have tk:=tok2;clear tok2;(refine Cs (w:=w) (Qgb _ ax2_0 bx2_0 a2 b2 (Xg AR2H.out (by go_grown)) (Xg BR2H.out (by go_grown))) (by go_grown) ?_;intro w' hB hb hz hz2;(repeat (first | rewrite [World.size_alloc] at hz2 | rewrite [World.size_setCell] at hz2 | rewrite [World.size_drew] at hz2));have c0:=fun o=>Km hb (w.heap.size) o (by go_size);have c1:=fun o=>Km hb (w.heap.size+1) o (by go_size))) | (go_at_call 35;have tk:=tok3;clear tok3;(refine Cs (w:=w) (NC _ ax3_0 bx3_0 a3 b3 (Xg AR3H.out (by go_grown)) (Xg BR3H.out (by go_grown))) (by go_grown) ?_;intro w' hB hb hz hz2;(repeat (first | rewrite [World.size_alloc] at hz2 | rewrite [World.size_setCell] at hz2 | rewrite [World.size_drew] at hz2));have c0:=fun o=>Km hb (w.heap.size) o (by go_size);have c1:=fun o=>Km hb (w.heap.size+1) o (by go_size))))
 all_goals
  go_ret
  refine ⟨?_,by go_grown⟩;rw[←Hr.out];go_light
  clear es
  simp_all [G0,Uy,V4]
end Go.Proofs.YtkekndahbiefaaaGreatDoor
namespace Go.Proofs.YtkekndahbiefaaaGreatDoor
open Go.RowKit
open GoD (rd own)
set_option maxRecDepth 100000 in
set_option maxHeartbeats 1000000 in
theorem Qgc (w:World) (v:Value) (l:List Int) (ha:rd w [v] l) (hsz:GoD.size l<=1048576):Calls Tryz.prog 124 #[v] w (RetS w l):=by
 obtain ⟨oa,cap,e1,hl,hm,hel⟩:=ha;obtain rfl:v=_:=by simpa using e1
 clear e1;have HE:=Lib.hid hel;clear hel;have hn:l.length<=1048576:=by have:=H6 l;omega
 have HS:=Lib.hid (fun i a (h:l[i]? =some a)=>Ux h);have hlm:l.length<=maxLen:=by omega
 go_enter Tryz.func124,Tryz.ntmps124
 go_wp2_with (at_make;refine Sf w (.tmp 6) (.tmp 6) 111 3 1 l.length rfl rfl Tryz.underlying111 (by kernel_rfl) rfl rfl (by omega) (by go_grown) ?_;intro w1 cur hcur hcs hB1 hb1 hlt1)
 go_loopw [4] (fun i wr=>∃k:Nat,k<=l.length/\i= .int .i64 k/\Below w.heap.size w wr/\w.heap.size<wr.heap.size/\Hid (Part wr w.heap.size l.length 3 l k)) (fun i _=>l.length-(intOf i).toNat)
 case atStart=>exact ⟨0,Nat.zero_le _,rfl,hB1,hlt1,Part.start hcur hcs l⟩
 case round=>
  obtain ⟨k,hk,rfl,hB,hlt,hP⟩:=hrel;clear hB1 hb1 hlt1 hcur hcs;by_cases hkl:k<l.length
  . have hx:=List.getElem?_eq_getElem hkl;obtain ⟨eb,eo,ee,rfl,hcl,hcc,hxr⟩:=HE.out k _ hx;have hxs:=HS.out k _ hx;have HX:=Lib.hid hx;clear hx;generalize l[k]=x at*;obtain ⟨cur2,hg,hgs⟩:=hP.out.block;have hgs2:cur2.size=l.length*1:=hgs;have hroom:=Nat.mul_le_mul_right 1 (show k+1<=l.length by omega);obtain ⟨e,hxi⟩:=hxr;obtain rfl:=e;have p0:wr.cell? ⟨eb,eo+k,none⟩=some (.int .i64 x):=by have h0:=hcc 0 _ rfl;simp only[GoD.n,Nat.mul_one,Nat.add_zero] at h0;exact (hB.cell (World.block_lt_of_cell? w _ h0)).trans h0
    have HXI:=Lib.hid hxi;clear hxi;obtain ⟨y0,q0⟩:∃y,wr.cell? ⟨w.heap.size,k,none⟩=some y:=⟨_,Zn hg k (by omega)⟩;have fz:=B7 hg;clear hcc hcl hg hgs;go_wp2
    go_roundw
    case rel=>exact ⟨k+1,by omega,by go_num,by go_grown,by simpa using hlt,by
     have h:=hP.out.step (Below.refl _ _) hkl hk HX.out (XJ wr HXI.out) (by simp);simp only[GoD.n,Nat.mul_one,World.setCells] at h;exact h⟩
    case measure=>simp[intOf];omega
  obtain rfl:k=l.length:=by omega
  go_wp2
  go_ret
  obtain ⟨L,hL,hLB⟩:=hP.out.done hlm;exact ⟨_,L,rfl,hB,hL,hLB⟩
set_option maxHeartbeats 1000000 in
theorem SW (w:World) (ca:List Value) (a:Qh) (ha:rd w ca a) (hsz:GoD.size a<=1048576):Calls Tryz.prog 63 #[.agg ca.toArray] w (RetA w a):=by
 obtain ⟨a1,a2⟩:=a;obtain ⟨ac1,at1,rfl,ar1,ar2⟩:=ha;obtain ⟨rfl,ar1⟩:=ar1;obtain ⟨ax2_0,rfl⟩:=Gb (show _=1 from GoD.rd_len ar2);dsimp only[List.cons_append,List.nil_append] at*
 replace hsz:(GoD.size a1+GoD.size a2)<=1048576:=hsz
 have AR1H:=Lib.hid ar1;clear ar1;have AR2H:=Lib.hid ar2;clear ar2;have tok1:True:=trivial;go_enter Tryz.func63,Tryz.ntmps63
 go_wp2_with (first | (go_at_call 124;have tk:=tok1;clear tok1;refine Lo (w:=w) (Qgc _ ax2_0 a2 (Xg AR2H.out (by go_grown)) (by omega)) (by go_grown) ?_;intro w1 v1 L1 hB hb hz _ ho1 hL1;obtain ⟨oa1,cp1,rfl⟩:=A6 ho1;have hz2:=hb.size;(repeat (first | rewrite [World.size_alloc] at hz2 | rewrite [World.size_setCell] at hz2 | rewrite [World.size_drew] at hz2));(repeat (first | rewrite [World.size_alloc] at hL1 | rewrite [World.size_setCell] at hL1 | rewrite [World.size_drew] at hL1));have hlt1:=GoD.own_lt ho1;have c1_0:=fun o=>Km hb (w.heap.size) o (by go_size);have f1_0:=fun o=>B3 hb (w.heap.size) o (by go_size);have c1_1:=fun o=>Km hb (w.heap.size+1) o (by go_size);have f1_1:=fun o=>B3 hb (w.heap.size+1) o (by go_size);have c1_2:=fun o=>Km hb (w.heap.size+1+1) o (by go_size);have f1_2:=fun o=>B3 hb (w.heap.size+1+1) o (by go_size);have HO1:=Lib.hid ho1;clear ho1;have HL1:=Lib.hid hL1;clear hL1;have HT1:=Lib.hid hlt1;clear hlt1;have HB1:=Lib.hid hb;clear hb) | ((with_reducible show bodyPost _ _ _ _ _ _);refine bodyPost_ret (v:= .agg #[.string a1, .slice oa1 a2.length cp1]) (by simp[results,Tryz.results63,go_sem,c1_1]) rfl ⟨[.string a1, .slice oa1 a2.length cp1],([]++L1),rfl,by go_grown, ?_, ?_⟩;(exact (Ws (PQ _ AR1H.out) (show own L1 _ [.slice oa1 a2.length cp1] a2 by (repeat (first | (with_reducible exact HO1.out) | ((with_reducible refine Uj ?_ ?_);rotate_left;exact (fun hm=>by have:=HL1.out _ hm;omega)) | (with_reducible refine Bi ?_) | (with_reducible refine Dv ?_)))) (by simp)));intro x hx;(try simp only[List.mem_append,List.not_mem_nil,List.append_nil,List.nil_append,false_or,or_false] at hx);rcases hx with hx<;>first | (have:=HL1.out x hx;omega)))
set_option maxRecDepth 100000 in
set_option maxHeartbeats 1000000 in
theorem NE (w:World) (v:Value) (l:List Qh) (ha:rd w [v] l) (hsz:GoD.size l<=1048576):Calls Tryz.prog 27 #[v] w (RetS w l):=by
 obtain ⟨oa,cap,e1,hl,hm,hel⟩:=ha;obtain rfl:v=_:=by simpa using e1
 clear e1;have HE:=Lib.hid hel;clear hel;have hn:l.length<=1048576:=by have:=H6 l;omega
 have HS:=Lib.hid (fun i a (h:l[i]? =some a)=>Ux h);have hlm:l.length<=maxLen:=by omega
 go_enter Tryz.func27,Tryz.ntmps27
 go_wp2_with (at_make;refine Sf w (.tmp 6) (.tmp 6) 46 121 2 l.length rfl rfl Tryz.underlying46 (by kernel_rfl) rfl rfl (by omega) (by go_grown) ?_;intro w1 cur hcur hcs hB1 hb1 hlt1)
 go_loopw [4] (fun i wr=>∃k:Nat,k<=l.length/\i= .int .i64 k/\Below w.heap.size w wr/\w.heap.size<wr.heap.size/\Hid (Part wr w.heap.size l.length 121 l k)) (fun i _=>l.length-(intOf i).toNat)
 case atStart=>exact ⟨0,Nat.zero_le _,rfl,hB1,hlt1,Part.start hcur hcs l⟩
 case round=>
  obtain ⟨k,hk,rfl,hB,hlt,hP⟩:=hrel;clear hB1 hb1 hlt1 hcur hcs;by_cases hkl:k<l.length
  . have hx:=List.getElem?_eq_getElem hkl;obtain ⟨eb,eo,ee,rfl,hcl,hcc,hxr⟩:=HE.out k _ hx;have hxs:=HS.out k _ hx;have HX:=Lib.hid hx;clear hx;generalize l[k]=x at*;obtain ⟨cur2,hg,hgs⟩:=hP.out.block;have hgs2:cur2.size=l.length*2:=hgs;have hroom:=Nat.mul_le_mul_right 2 (show k+1<=l.length by omega);obtain ⟨x0,x1,rfl⟩:=Ry (show _=2 from hcl);have p0:wr.cell? ⟨eb,eo+k*2,none⟩=some x0:=(hB.cell (World.block_lt_of_cell? w _ (hcc 0 _ rfl))).trans (hcc 0 _ rfl);have p1:wr.cell? ⟨eb,eo+k*2+1,none⟩=some x1:=(hB.cell (World.block_lt_of_cell? w _ (hcc 1 _ rfl))).trans (hcc 1 _ rfl);have HXR:=Lib.hid hxr;clear hxr hcc hcl;have HG:=Lib.hid hg;clear hg;go_wp2_with (go_at_call 63;refine B6 (w:=w) (SW _ [x0,x1] x (Xg HXR.out hB) (by omega)) (by go_grown) ?_;intro w2 cs L hB2 hb2 hz2 _ ho hL;obtain ⟨eoa1,ecp1,rfl⟩:=FD (GoD.own_rd ho);have hg2:=(hb2.block _ hlt).trans HG.out;obtain ⟨z0,q0⟩:∃y,w2.cell? ⟨w.heap.size,k*2,none⟩=some y:=⟨_,Zn hg2 _ (by omega)⟩;obtain ⟨z1,q1⟩:∃y,w2.cell? ⟨w.heap.size,k*2+1,none⟩=some y:=⟨_,Zn hg2 _ (by omega)⟩;have fz:=B7 hg2;clear hg2;have HO:=Lib.hid ho;clear ho;have HL:=Lib.hid hL;clear hL;have HB2:=Lib.hid hb2;clear hb2)
    go_roundw
    case rel=>exact ⟨k+1,by omega,by go_num,by go_grown,by simp only[World.size_setCell];omega,by
     have h:=hP.out.step HB2.out hkl hk HX.out HO.out HL.out;rw[show GoD.n Qh=2 from rfl] at h;simp only[World.setCells,Nat.add_assoc,Nat.reduceAdd] at h;exact h⟩
    case measure=>simp[intOf];omega
  obtain rfl:k=l.length:=by omega
  go_wp2
  go_ret
  obtain ⟨L,hL,hLB⟩:=hP.out.done hlm;exact ⟨_,L,rfl,hB,hL,hLB⟩
set_option maxHeartbeats 1000000 in
theorem IM (w:World) (ca:List Value) (a:De) (ha:rd w ca a) (hsz:GoD.size a<=1048576):Calls Tryz.prog 187 #[.agg ca.toArray] w (RetA w a):=by
 obtain ⟨a1,a2,a3⟩:=a;obtain ⟨ac1,at1,rfl,ar1,ac2,at2,rfl,ar2,ar3⟩:=ha;obtain ⟨rfl,ar1⟩:=ar1;obtain ⟨rfl,ar2⟩:=ar2;obtain ⟨rfl,ar3⟩:=ar3;dsimp only[List.cons_append,List.nil_append] at*
 replace hsz:(GoD.size a1+(GoD.size a2+GoD.size a3))<=1048576:=hsz
 have AR1H:=Lib.hid ar1;clear ar1;have AR2H:=Lib.hid ar2;clear ar2;have AR3H:=Lib.hid ar3;clear ar3;go_enter Tryz.func187,Tryz.ntmps187
 go_wp2_with (first | ((with_reducible show bodyPost _ _ _ _ _ _);refine bodyPost_ret (v:= .agg #[.int .i64 a1, .int .i64 a2, .string a3]) (by simp[results,Tryz.results187,go_sem]) rfl ⟨[.int .i64 a1, .int .i64 a2, .string a3],([]++([]++ [])),rfl,by go_grown, ?_, ?_⟩;(exact (Ws (XJ _ AR1H.out) (Ws (XJ _ AR2H.out) (PQ _ AR3H.out) (by simp)) (by simp)));simp))
set_option maxHeartbeats 1000000 in
theorem Qgd (w:World) (ca:List Value) (a:E6) (ha:rd w ca a) (hsz:GoD.size a<=1048576):Calls Tryz.prog 125 #[.agg ca.toArray] w (RetA w a):=by
 obtain ⟨a1,a2⟩:=a;obtain ⟨ac1,at1,rfl,ar1,ar2⟩:=ha;obtain ⟨rfl,ar1⟩:=ar1;obtain ⟨ax2_0,ax2_1,ax2_2,rfl⟩:=TB (show _=3 from GoD.rd_len ar2);dsimp only[List.cons_append,List.nil_append] at*
 replace hsz:(GoD.size a1+GoD.size a2)<=1048576:=hsz
 have AR1H:=Lib.hid ar1;clear ar1;have AR2H:=Lib.hid ar2;clear ar2;have tok1:True:=trivial;go_enter Tryz.func125,Tryz.ntmps125
 go_wp2_with (first | (go_at_call 187;have tk:=tok1;clear tok1;refine B6 (w:=w) (IM _ [ax2_0,ax2_1,ax2_2] a2 (Xg AR2H.out (by go_grown)) (by omega)) (by go_grown) ?_;intro w1 cs1 L1 hB hb hz _ ho1 hL1;obtain rfl:=VF (GoD.own_rd ho1);have hz2:=hb.size;(repeat (first | rewrite [World.size_alloc] at hz2 | rewrite [World.size_setCell] at hz2 | rewrite [World.size_drew] at hz2));(repeat (first | rewrite [World.size_alloc] at hL1 | rewrite [World.size_setCell] at hL1 | rewrite [World.size_drew] at hL1));have hlt1:=GoD.own_lt ho1;have c1_0:=fun o=>Km hb (w.heap.size) o (by go_size);have f1_0:=fun o=>B3 hb (w.heap.size) o (by go_size);have c1_1:=fun o=>Km hb (w.heap.size+1) o (by go_size);have f1_1:=fun o=>B3 hb (w.heap.size+1) o (by go_size);have c1_2:=fun o=>Km hb (w.heap.size+1+1) o (by go_size);have f1_2:=fun o=>B3 hb (w.heap.size+1+1) o (by go_size);have HO1:=Lib.hid ho1;clear ho1;have HL1:=Lib.hid hL1;clear hL1;have HT1:=Lib.hid hlt1;clear hlt1;have HB1:=Lib.hid hb;clear hb) | ((with_reducible show bodyPost _ _ _ _ _ _);refine bodyPost_ret (v:= .agg #[.string a1, .int .i64 a2.1, .int .i64 a2.2.1, .string a2.2.2]) (by simp[results,Tryz.results125,go_sem,c1_1]) rfl ⟨[.string a1, .int .i64 a2.1, .int .i64 a2.2.1, .string a2.2.2],([]++L1),rfl,by go_grown, ?_, ?_⟩;(exact (Ws (PQ _ AR1H.out) (show own L1 _ [.int .i64 a2.1, .int .i64 a2.2.1, .string a2.2.2] a2 by (repeat (first | (with_reducible exact HO1.out) | ((with_reducible refine Uj ?_ ?_);rotate_left;exact (fun hm=>by have:=HL1.out _ hm;omega)) | (with_reducible refine Bi ?_) | (with_reducible refine Dv ?_)))) (by simp)));intro x hx;(try simp only[List.mem_append,List.not_mem_nil,List.append_nil,List.nil_append,false_or,or_false] at hx);rcases hx with hx<;>first | (have:=HL1.out x hx;omega)))
set_option maxRecDepth 100000 in
set_option maxHeartbeats 1000000 in
theorem Qdb (w:World) (v:Value) (l:List E6) (ha:rd w [v] l) (hsz:GoD.size l<=1048576):Calls Tryz.prog 64 #[v] w (RetS w l):=by
 obtain ⟨oa,cap,e1,hl,hm,hel⟩:=ha;obtain rfl:v=_:=by simpa using e1
 clear e1;have HE:=Lib.hid hel;clear hel;have hn:l.length<=1048576:=by have:=H6 l;omega
 have HS:=Lib.hid (fun i a (h:l[i]? =some a)=>Ux h);have hlm:l.length<=maxLen:=by omega
 go_enter Tryz.func64,Tryz.ntmps64
 go_wp2_with (at_make;refine Sf w (.tmp 6) (.tmp 6) 50 183 4 l.length rfl rfl Tryz.underlying50 (by kernel_rfl) rfl rfl (by omega) (by go_grown) ?_;intro w1 cur hcur hcs hB1 hb1 hlt1)
 go_loopw [4] (fun i wr=>∃k:Nat,k<=l.length/\i= .int .i64 k/\Below w.heap.size w wr/\w.heap.size<wr.heap.size/\Hid (Part wr w.heap.size l.length 183 l k)) (fun i _=>l.length-(intOf i).toNat)
 case atStart=>exact ⟨0,Nat.zero_le _,rfl,hB1,hlt1,Part.start hcur hcs l⟩
 case round=>
  obtain ⟨k,hk,rfl,hB,hlt,hP⟩:=hrel;clear hB1 hb1 hlt1 hcur hcs;by_cases hkl:k<l.length
  . have hx:=List.getElem?_eq_getElem hkl;obtain ⟨eb,eo,ee,rfl,hcl,hcc,hxr⟩:=HE.out k _ hx;have hxs:=HS.out k _ hx;have HX:=Lib.hid hx;clear hx;generalize l[k]=x at*;obtain ⟨cur2,hg,hgs⟩:=hP.out.block;have hgs2:cur2.size=l.length*4:=hgs;have hroom:=Nat.mul_le_mul_right 4 (show k+1<=l.length by omega);obtain ⟨x0,x1,x2,x3,rfl⟩:=Qkx (show _=4 from hcl);have p0:wr.cell? ⟨eb,eo+k*4,none⟩=some x0:=(hB.cell (World.block_lt_of_cell? w _ (hcc 0 _ rfl))).trans (hcc 0 _ rfl);have p1:wr.cell? ⟨eb,eo+k*4+1,none⟩=some x1:=(hB.cell (World.block_lt_of_cell? w _ (hcc 1 _ rfl))).trans (hcc 1 _ rfl);have p2:wr.cell? ⟨eb,eo+k*4+2,none⟩=some x2:=(hB.cell (World.block_lt_of_cell? w _ (hcc 2 _ rfl))).trans (hcc 2 _ rfl);have p3:wr.cell? ⟨eb,eo+k*4+3,none⟩=some x3:=(hB.cell (World.block_lt_of_cell? w _ (hcc 3 _ rfl))).trans (hcc 3 _ rfl);have HXR:=Lib.hid hxr;clear hxr hcc hcl;have HG:=Lib.hid hg;clear hg;go_wp2_with (go_at_call 125;refine B6 (w:=w) (Qgd _ [x0,x1,x2,x3] x (Xg HXR.out hB) (by omega)) (by go_grown) ?_;intro w2 cs L hB2 hb2 hz2 _ ho hL;obtain rfl:=RL (GoD.own_rd ho);have hg2:=(hb2.block _ hlt).trans HG.out;obtain ⟨z0,q0⟩:∃y,w2.cell? ⟨w.heap.size,k*4,none⟩=some y:=⟨_,Zn hg2 _ (by omega)⟩;obtain ⟨z1,q1⟩:∃y,w2.cell? ⟨w.heap.size,k*4+1,none⟩=some y:=⟨_,Zn hg2 _ (by omega)⟩;obtain ⟨z2,q2⟩:∃y,w2.cell? ⟨w.heap.size,k*4+2,none⟩=some y:=⟨_,Zn hg2 _ (by omega)⟩;obtain ⟨z3,q3⟩:∃y,w2.cell? ⟨w.heap.size,k*4+3,none⟩=some y:=⟨_,Zn hg2 _ (by omega)⟩;have fz:=B7 hg2;clear hg2;have HO:=Lib.hid ho;clear ho;have HL:=Lib.hid hL;clear hL;have HB2:=Lib.hid hb2;clear hb2)
    go_roundw
    case rel=>exact ⟨k+1,by omega,by go_num,by go_grown,by simp only[World.size_setCell];omega,by
     have h:=hP.out.step HB2.out hkl hk HX.out HO.out HL.out;rw[show GoD.n E6=4 from rfl] at h;simp only[World.setCells,Nat.add_assoc,Nat.reduceAdd] at h;exact h⟩
    case measure=>simp[intOf];omega
  obtain rfl:k=l.length:=by omega
  go_wp2
  go_ret
  obtain ⟨L,hL,hLB⟩:=hP.out.done hlm;exact ⟨_,L,rfl,hB,hL,hLB⟩
set_option maxHeartbeats 1000000 in
theorem PP (w:World) (ca:List Value) (a:Xc) (ha:rd w ca a) (hsz:GoD.size a<=1048576):Calls Tryz.prog 28 #[.agg ca.toArray] w (RetA w a):=by
 obtain ⟨a1,a2,a3,a4,a5⟩:=a;obtain ⟨ac1,at1,rfl,ar1,ac2,at2,rfl,ar2,ac3,at3,rfl,ar3,ac4,at4,rfl,ar4,ar5⟩:=ha;obtain ⟨rfl,ar1⟩:=ar1;obtain ⟨rfl,ar2⟩:=ar2;obtain rfl:=ar3;obtain ⟨rfl,ar4⟩:=ar4;obtain ⟨ax5_0,rfl⟩:=Gb (show _=1 from GoD.rd_len ar5);dsimp only[List.cons_append,List.nil_append] at*
 replace hsz:(GoD.size a1+(GoD.size a2+(GoD.size a3+(GoD.size a4+GoD.size a5))))<=1048576:=hsz
 have AR1H:=Lib.hid ar1;clear ar1;have AR2H:=Lib.hid ar2;clear ar2;have AR4H:=Lib.hid ar4;clear ar4;have AR5H:=Lib.hid ar5;clear ar5;have tok1:True:=trivial;go_enter Tryz.func28,Tryz.ntmps28
 go_wp2_with (first | (go_at_call 64;have tk:=tok1;clear tok1;refine Lo (w:=w) (Qdb _ ax5_0 a5 (Xg AR5H.out (by go_grown)) (by omega)) (by go_grown) ?_;intro w1 v1 L1 hB hb hz _ ho1 hL1;obtain ⟨oa1,cp1,rfl⟩:=A6 ho1;have hz2:=hb.size;(repeat (first | rewrite [World.size_alloc] at hz2 | rewrite [World.size_setCell] at hz2 | rewrite [World.size_drew] at hz2));(repeat (first | rewrite [World.size_alloc] at hL1 | rewrite [World.size_setCell] at hL1 | rewrite [World.size_drew] at hL1));have hlt1:=GoD.own_lt ho1;have c1_0:=fun o=>Km hb (w.heap.size) o (by go_size);have f1_0:=fun o=>B3 hb (w.heap.size) o (by go_size);have c1_1:=fun o=>Km hb (w.heap.size+1) o (by go_size);have f1_1:=fun o=>B3 hb (w.heap.size+1) o (by go_size);have c1_2:=fun o=>Km hb (w.heap.size+1+1) o (by go_size);have f1_2:=fun o=>B3 hb (w.heap.size+1+1) o (by go_size);have HO1:=Lib.hid ho1;clear ho1;have HL1:=Lib.hid hL1;clear hL1;have HT1:=Lib.hid hlt1;clear hlt1;have HB1:=Lib.hid hb;clear hb) | ((with_reducible show bodyPost _ _ _ _ _ _);refine bodyPost_ret (v:= .agg #[.int .i64 a1, .int .i64 a2, .bool a3, .int .i64 a4, .slice oa1 a5.length cp1]) (by simp[results,Tryz.results28,go_sem,c1_1]) rfl ⟨[.int .i64 a1, .int .i64 a2, .bool a3, .int .i64 a4, .slice oa1 a5.length cp1],([]++([]++([]++([]++L1)))),rfl,by go_grown, ?_, ?_⟩;(exact (Ws (XJ _ AR1H.out) (Ws (XJ _ AR2H.out) (Ws (Qk3 _ _) (Ws (XJ _ AR4H.out) (show own L1 _ [.slice oa1 a5.length cp1] a5 by (repeat (first | (with_reducible exact HO1.out) | ((with_reducible refine Uj ?_ ?_);rotate_left;exact (fun hm=>by have:=HL1.out _ hm;omega)) | (with_reducible refine Bi ?_) | (with_reducible refine Dv ?_)))) (by simp)) (by simp)) (by simp)) (by simp)));intro x hx;(try simp only[List.mem_append,List.not_mem_nil,List.append_nil,List.nil_append,false_or,or_false] at hx);rcases hx with hx<;>first | (have:=HL1.out x hx;omega)))
set_option maxHeartbeats 1000000 in
theorem Qge (w:World) (ca:List Value) (a:Yu) (ha:rd w ca a) (hsz:GoD.size a<=1048576):Calls Tryz.prog 126 #[.agg ca.toArray] w (RetA w a):=by
 obtain ⟨a1,a2,a3,a4,a5⟩:=a;obtain ⟨ac1,at1,rfl,ar1,ac2,at2,rfl,ar2,ac3,at3,rfl,ar3,ac4,at4,rfl,ar4,ar5⟩:=ha;obtain ⟨rfl,ar1⟩:=ar1;obtain ⟨rfl,ar2⟩:=ar2;obtain ⟨rfl,ar3⟩:=ar3;obtain ⟨rfl,ar4⟩:=ar4;obtain ⟨ax5_0,ax5_1,ax5_2,rfl⟩:=TB (show _=3 from GoD.rd_len ar5);dsimp only[List.cons_append,List.nil_append] at*
 replace hsz:(GoD.size a1+(GoD.size a2+(GoD.size a3+(GoD.size a4+GoD.size a5))))<=1048576:=hsz
 have AR1H:=Lib.hid ar1;clear ar1;have AR2H:=Lib.hid ar2;clear ar2;have AR3H:=Lib.hid ar3;clear ar3;have AR4H:=Lib.hid ar4;clear ar4;have AR5H:=Lib.hid ar5;clear ar5;have tok1:True:=trivial;go_enter Tryz.func126,Tryz.ntmps126
 go_wp2_with (first | (go_at_call 187;have tk:=tok1;clear tok1;refine B6 (w:=w) (IM _ [ax5_0,ax5_1,ax5_2] a5 (Xg AR5H.out (by go_grown)) (by omega)) (by go_grown) ?_;intro w1 cs1 L1 hB hb hz _ ho1 hL1;obtain rfl:=VF (GoD.own_rd ho1);have hz2:=hb.size;(repeat (first | rewrite [World.size_alloc] at hz2 | rewrite [World.size_setCell] at hz2 | rewrite [World.size_drew] at hz2));(repeat (first | rewrite [World.size_alloc] at hL1 | rewrite [World.size_setCell] at hL1 | rewrite [World.size_drew] at hL1));have hlt1:=GoD.own_lt ho1;have c1_0:=fun o=>Km hb (w.heap.size) o (by go_size);have f1_0:=fun o=>B3 hb (w.heap.size) o (by go_size);have c1_1:=fun o=>Km hb (w.heap.size+1) o (by go_size);have f1_1:=fun o=>B3 hb (w.heap.size+1) o (by go_size);have c1_2:=fun o=>Km hb (w.heap.size+1+1) o (by go_size);have f1_2:=fun o=>B3 hb (w.heap.size+1+1) o (by go_size);have HO1:=Lib.hid ho1;clear ho1;have HL1:=Lib.hid hL1;clear hL1;have HT1:=Lib.hid hlt1;clear hlt1;have HB1:=Lib.hid hb;clear hb) | ((with_reducible show bodyPost _ _ _ _ _ _);refine bodyPost_ret (v:= .agg #[.int .i64 a1, .int .i64 a2, .int .i64 a3, .string a4, .int .i64 a5.1, .int .i64 a5.2.1, .string a5.2.2]) (by simp[results,Tryz.results126,go_sem,c1_1]) rfl ⟨[.int .i64 a1, .int .i64 a2, .int .i64 a3, .string a4, .int .i64 a5.1, .int .i64 a5.2.1, .string a5.2.2],([]++([]++([]++([]++L1)))),rfl,by go_grown, ?_, ?_⟩;(exact (Ws (XJ _ AR1H.out) (Ws (XJ _ AR2H.out) (Ws (XJ _ AR3H.out) (Ws (PQ _ AR4H.out) (show own L1 _ [.int .i64 a5.1, .int .i64 a5.2.1, .string a5.2.2] a5 by (repeat (first | (with_reducible exact HO1.out) | ((with_reducible refine Uj ?_ ?_);rotate_left;exact (fun hm=>by have:=HL1.out _ hm;omega)) | (with_reducible refine Bi ?_) | (with_reducible refine Dv ?_)))) (by simp)) (by simp)) (by simp)) (by simp)));intro x hx;(try simp only[List.mem_append,List.not_mem_nil,List.append_nil,List.nil_append,false_or,or_false] at hx);rcases hx with hx<;>first | (have:=HL1.out x hx;omega)))
set_option maxRecDepth 100000 in
set_option maxHeartbeats 1000000 in
theorem Qdc (w:World) (v:Value) (l:List Yu) (ha:rd w [v] l) (hsz:GoD.size l<=1048576):Calls Tryz.prog 65 #[v] w (RetS w l):=by
 obtain ⟨oa,cap,e1,hl,hm,hel⟩:=ha;obtain rfl:v=_:=by simpa using e1
 clear e1;have HE:=Lib.hid hel;clear hel;have hn:l.length<=1048576:=by have:=H6 l;omega
 have HS:=Lib.hid (fun i a (h:l[i]? =some a)=>Ux h);have hlm:l.length<=maxLen:=by omega
 go_enter Tryz.func65,Tryz.ntmps65
 go_wp2_with (at_make;refine Sf w (.tmp 6) (.tmp 6) 53 186 7 l.length rfl rfl Tryz.underlying53 (by kernel_rfl) rfl rfl (by omega) (by go_grown) ?_;intro w1 cur hcur hcs hB1 hb1 hlt1)
 go_loopw [4] (fun i wr=>∃k:Nat,k<=l.length/\i= .int .i64 k/\Below w.heap.size w wr/\w.heap.size<wr.heap.size/\Hid (Part wr w.heap.size l.length 186 l k)) (fun i _=>l.length-(intOf i).toNat)
 case atStart=>exact ⟨0,Nat.zero_le _,rfl,hB1,hlt1,Part.start hcur hcs l⟩
 case round=>
  obtain ⟨k,hk,rfl,hB,hlt,hP⟩:=hrel;clear hB1 hb1 hlt1 hcur hcs;by_cases hkl:k<l.length
  . have hx:=List.getElem?_eq_getElem hkl;obtain ⟨eb,eo,ee,rfl,hcl,hcc,hxr⟩:=HE.out k _ hx;have hxs:=HS.out k _ hx;have HX:=Lib.hid hx;clear hx;generalize l[k]=x at*;obtain ⟨cur2,hg,hgs⟩:=hP.out.block;have hgs2:cur2.size=l.length*7:=hgs;have hroom:=Nat.mul_le_mul_right 7 (show k+1<=l.length by omega);obtain ⟨x0,x1,x2,x3,x4,x5,x6,rfl⟩:=Qky (show _=7 from hcl);have p0:wr.cell? ⟨eb,eo+k*7,none⟩=some x0:=(hB.cell (World.block_lt_of_cell? w _ (hcc 0 _ rfl))).trans (hcc 0 _ rfl);have p1:wr.cell? ⟨eb,eo+k*7+1,none⟩=some x1:=(hB.cell (World.block_lt_of_cell? w _ (hcc 1 _ rfl))).trans (hcc 1 _ rfl);have p2:wr.cell? ⟨eb,eo+k*7+2,none⟩=some x2:=(hB.cell (World.block_lt_of_cell? w _ (hcc 2 _ rfl))).trans (hcc 2 _ rfl);have p3:wr.cell? ⟨eb,eo+k*7+3,none⟩=some x3:=(hB.cell (World.block_lt_of_cell? w _ (hcc 3 _ rfl))).trans (hcc 3 _ rfl);have p4:wr.cell? ⟨eb,eo+k*7+4,none⟩=some x4:=(hB.cell (World.block_lt_of_cell? w _ (hcc 4 _ rfl))).trans (hcc 4 _ rfl);have p5:wr.cell? ⟨eb,eo+k*7+5,none⟩=some x5:=(hB.cell (World.block_lt_of_cell? w _ (hcc 5 _ rfl))).trans (hcc 5 _ rfl);have p6:wr.cell? ⟨eb,eo+k*7+6,none⟩=some x6:=(hB.cell (World.block_lt_of_cell? w _ (hcc 6 _ rfl))).trans (hcc 6 _ rfl);have HXR:=Lib.hid hxr;clear hxr hcc hcl;have HG:=Lib.hid hg;clear hg;go_wp2_with (go_at_call 126;refine B6 (w:=w) (Qge _ [x0,x1,x2,x3,x4,x5,x6] x (Xg HXR.out hB) (by omega)) (by go_grown) ?_;intro w2 cs L hB2 hb2 hz2 _ ho hL;obtain rfl:=RM (GoD.own_rd ho);have hg2:=(hb2.block _ hlt).trans HG.out;obtain ⟨z0,q0⟩:∃y,w2.cell? ⟨w.heap.size,k*7,none⟩=some y:=⟨_,Zn hg2 _ (by omega)⟩;obtain ⟨z1,q1⟩:∃y,w2.cell? ⟨w.heap.size,k*7+1,none⟩=some y:=⟨_,Zn hg2 _ (by omega)⟩;obtain ⟨z2,q2⟩:∃y,w2.cell? ⟨w.heap.size,k*7+2,none⟩=some y:=⟨_,Zn hg2 _ (by omega)⟩;obtain ⟨z3,q3⟩:∃y,w2.cell? ⟨w.heap.size,k*7+3,none⟩=some y:=⟨_,Zn hg2 _ (by omega)⟩;obtain ⟨z4,q4⟩:∃y,w2.cell? ⟨w.heap.size,k*7+4,none⟩=some y:=⟨_,Zn hg2 _ (by omega)⟩;obtain ⟨z5,q5⟩:∃y,w2.cell? ⟨w.heap.size,k*7+5,none⟩=some y:=⟨_,Zn hg2 _ (by omega)⟩;obtain ⟨z6,q6⟩:∃y,w2.cell? ⟨w.heap.size,k*7+6,none⟩=some y:=⟨_,Zn hg2 _ (by omega)⟩;have fz:=B7 hg2;clear hg2;have HO:=Lib.hid ho;clear ho;have HL:=Lib.hid hL;clear hL;have HB2:=Lib.hid hb2;clear hb2)
    go_roundw
    case rel=>exact ⟨k+1,by omega,by go_num,by go_grown,by simp only[World.size_setCell];omega,by
     have h:=hP.out.step HB2.out hkl hk HX.out HO.out HL.out;rw[show GoD.n Yu=7 from rfl] at h;simp only[World.setCells,Nat.add_assoc,Nat.reduceAdd] at h;exact h⟩
    case measure=>simp[intOf];omega
  obtain rfl:k=l.length:=by omega
  go_wp2
  go_ret
  obtain ⟨L,hL,hLB⟩:=hP.out.done hlm;exact ⟨_,L,rfl,hB,hL,hLB⟩
set_option maxHeartbeats 1000000 in
theorem Qdd (w:World) (ca:List Value) (a:Kt) (ha:rd w ca a) (hsz:GoD.size a<=1048576):Calls Tryz.prog 123 #[.agg ca.toArray] w (RetA w a):=by
 obtain ⟨a1,a2⟩:=a;obtain ⟨ac1,at1,rfl,ar1,ar2⟩:=ha;obtain ⟨rfl,ar1⟩:=ar1;obtain ⟨rfl,ar2⟩:=ar2;dsimp only[List.cons_append,List.nil_append] at*
 replace hsz:(GoD.size a1+GoD.size a2)<=1048576:=hsz
 have AR1H:=Lib.hid ar1;clear ar1;have AR2H:=Lib.hid ar2;clear ar2;go_enter Tryz.func123,Tryz.ntmps123
 go_wp2_with (first | ((with_reducible show bodyPost _ _ _ _ _ _);refine bodyPost_ret (v:= .agg #[.string a1, .int .i64 a2]) (by simp[results,Tryz.results123,go_sem]) rfl ⟨[.string a1, .int .i64 a2],([]++ []),rfl,by go_grown, ?_, ?_⟩;(exact (Ws (PQ _ AR1H.out) (XJ _ AR2H.out) (by simp)));simp))
set_option maxRecDepth 100000 in
set_option maxHeartbeats 1000000 in
theorem SX (w:World) (v:Value) (l:List Kt) (ha:rd w [v] l) (hsz:GoD.size l<=1048576):Calls Tryz.prog 61 #[v] w (RetS w l):=by
 obtain ⟨oa,cap,e1,hl,hm,hel⟩:=ha;obtain rfl:v=_:=by simpa using e1
 clear e1;have HE:=Lib.hid hel;clear hel;have hn:l.length<=1048576:=by have:=H6 l;omega
 have HS:=Lib.hid (fun i a (h:l[i]? =some a)=>Ux h);have hlm:l.length<=maxLen:=by omega
 go_enter Tryz.func61,Tryz.ntmps61
 go_wp2_with (at_make;refine Sf w (.tmp 6) (.tmp 6) 41 178 2 l.length rfl rfl Tryz.underlying41 (by kernel_rfl) rfl rfl (by omega) (by go_grown) ?_;intro w1 cur hcur hcs hB1 hb1 hlt1)
 go_loopw [4] (fun i wr=>∃k:Nat,k<=l.length/\i= .int .i64 k/\Below w.heap.size w wr/\w.heap.size<wr.heap.size/\Hid (Part wr w.heap.size l.length 178 l k)) (fun i _=>l.length-(intOf i).toNat)
 case atStart=>exact ⟨0,Nat.zero_le _,rfl,hB1,hlt1,Part.start hcur hcs l⟩
 case round=>
  obtain ⟨k,hk,rfl,hB,hlt,hP⟩:=hrel;clear hB1 hb1 hlt1 hcur hcs;by_cases hkl:k<l.length
  . have hx:=List.getElem?_eq_getElem hkl;obtain ⟨eb,eo,ee,rfl,hcl,hcc,hxr⟩:=HE.out k _ hx;have hxs:=HS.out k _ hx;have HX:=Lib.hid hx;clear hx;generalize l[k]=x at*;obtain ⟨cur2,hg,hgs⟩:=hP.out.block;have hgs2:cur2.size=l.length*2:=hgs;have hroom:=Nat.mul_le_mul_right 2 (show k+1<=l.length by omega);obtain ⟨x0,x1,rfl⟩:=Ry (show _=2 from hcl);have p0:wr.cell? ⟨eb,eo+k*2,none⟩=some x0:=(hB.cell (World.block_lt_of_cell? w _ (hcc 0 _ rfl))).trans (hcc 0 _ rfl);have p1:wr.cell? ⟨eb,eo+k*2+1,none⟩=some x1:=(hB.cell (World.block_lt_of_cell? w _ (hcc 1 _ rfl))).trans (hcc 1 _ rfl);have HXR:=Lib.hid hxr;clear hxr hcc hcl;have HG:=Lib.hid hg;clear hg;go_wp2_with (go_at_call 123;refine B6 (w:=w) (Qdd _ [x0,x1] x (Xg HXR.out hB) (by omega)) (by go_grown) ?_;intro w2 cs L hB2 hb2 hz2 _ ho hL;obtain rfl:=LJ (GoD.own_rd ho);have hg2:=(hb2.block _ hlt).trans HG.out;obtain ⟨z0,q0⟩:∃y,w2.cell? ⟨w.heap.size,k*2,none⟩=some y:=⟨_,Zn hg2 _ (by omega)⟩;obtain ⟨z1,q1⟩:∃y,w2.cell? ⟨w.heap.size,k*2+1,none⟩=some y:=⟨_,Zn hg2 _ (by omega)⟩;have fz:=B7 hg2;clear hg2;have HO:=Lib.hid ho;clear ho;have HL:=Lib.hid hL;clear hL;have HB2:=Lib.hid hb2;clear hb2)
    go_roundw
    case rel=>exact ⟨k+1,by omega,by go_num,by go_grown,by simp only[World.size_setCell];omega,by
     have h:=hP.out.step HB2.out hkl hk HX.out HO.out HL.out;rw[show GoD.n Kt=2 from rfl] at h;simp only[World.setCells,Nat.add_assoc,Nat.reduceAdd] at h;exact h⟩
    case measure=>simp[intOf];omega
  obtain rfl:k=l.length:=by omega
  go_wp2
  go_ret
  obtain ⟨L,hL,hLB⟩:=hP.out.done hlm;exact ⟨_,L,rfl,hB,hL,hLB⟩
set_option maxRecDepth 100000 in
set_option maxHeartbeats 1000000 in
theorem Qde (w:World) (v:Value) (l:List Xc) (ha:rd w [v] l) (hsz:GoD.size l<=1048576):Calls Tryz.prog 62 #[v] w (RetS w l):=by
 obtain ⟨oa,cap,e1,hl,hm,hel⟩:=ha;obtain rfl:v=_:=by simpa using e1
 clear e1;have HE:=Lib.hid hel;clear hel;have hn:l.length<=1048576:=by have:=H6 l;omega
 have HS:=Lib.hid (fun i a (h:l[i]? =some a)=>Ux h);have hlm:l.length<=maxLen:=by omega
 go_enter Tryz.func62,Tryz.ntmps62
 go_wp2_with (at_make;refine Sf w (.tmp 6) (.tmp 6) 42 52 5 l.length rfl rfl Tryz.underlying42 (by kernel_rfl) rfl rfl (by omega) (by go_grown) ?_;intro w1 cur hcur hcs hB1 hb1 hlt1)
 go_loopw [4] (fun i wr=>∃k:Nat,k<=l.length/\i= .int .i64 k/\Below w.heap.size w wr/\w.heap.size<wr.heap.size/\Hid (Part wr w.heap.size l.length 52 l k)) (fun i _=>l.length-(intOf i).toNat)
 case atStart=>exact ⟨0,Nat.zero_le _,rfl,hB1,hlt1,Part.start hcur hcs l⟩
 case round=>
  obtain ⟨k,hk,rfl,hB,hlt,hP⟩:=hrel;clear hB1 hb1 hlt1 hcur hcs;by_cases hkl:k<l.length
  . have hx:=List.getElem?_eq_getElem hkl;obtain ⟨eb,eo,ee,rfl,hcl,hcc,hxr⟩:=HE.out k _ hx;have hxs:=HS.out k _ hx;have HX:=Lib.hid hx;clear hx;generalize l[k]=x at*;obtain ⟨cur2,hg,hgs⟩:=hP.out.block;have hgs2:cur2.size=l.length*5:=hgs;have hroom:=Nat.mul_le_mul_right 5 (show k+1<=l.length by omega);obtain ⟨x0,x1,x2,x3,x4,rfl⟩:=Qg2 (show _=5 from hcl);have p0:wr.cell? ⟨eb,eo+k*5,none⟩=some x0:=(hB.cell (World.block_lt_of_cell? w _ (hcc 0 _ rfl))).trans (hcc 0 _ rfl);have p1:wr.cell? ⟨eb,eo+k*5+1,none⟩=some x1:=(hB.cell (World.block_lt_of_cell? w _ (hcc 1 _ rfl))).trans (hcc 1 _ rfl);have p2:wr.cell? ⟨eb,eo+k*5+2,none⟩=some x2:=(hB.cell (World.block_lt_of_cell? w _ (hcc 2 _ rfl))).trans (hcc 2 _ rfl);have p3:wr.cell? ⟨eb,eo+k*5+3,none⟩=some x3:=(hB.cell (World.block_lt_of_cell? w _ (hcc 3 _ rfl))).trans (hcc 3 _ rfl);have p4:wr.cell? ⟨eb,eo+k*5+4,none⟩=some x4:=(hB.cell (World.block_lt_of_cell? w _ (hcc 4 _ rfl))).trans (hcc 4 _ rfl);have HXR:=Lib.hid hxr;clear hxr hcc hcl;have HG:=Lib.hid hg;clear hg;go_wp2_with (go_at_call 28;refine B6 (w:=w) (PP _ [x0,x1,x2,x3,x4] x (Xg HXR.out hB) (by omega)) (by go_grown) ?_;intro w2 cs L hB2 hb2 hz2 _ ho hL;obtain ⟨eoa1,ecp1,rfl⟩:=AO (GoD.own_rd ho);have hg2:=(hb2.block _ hlt).trans HG.out;obtain ⟨z0,q0⟩:∃y,w2.cell? ⟨w.heap.size,k*5,none⟩=some y:=⟨_,Zn hg2 _ (by omega)⟩;obtain ⟨z1,q1⟩:∃y,w2.cell? ⟨w.heap.size,k*5+1,none⟩=some y:=⟨_,Zn hg2 _ (by omega)⟩;obtain ⟨z2,q2⟩:∃y,w2.cell? ⟨w.heap.size,k*5+2,none⟩=some y:=⟨_,Zn hg2 _ (by omega)⟩;obtain ⟨z3,q3⟩:∃y,w2.cell? ⟨w.heap.size,k*5+3,none⟩=some y:=⟨_,Zn hg2 _ (by omega)⟩;obtain ⟨z4,q4⟩:∃y,w2.cell? ⟨w.heap.size,k*5+4,none⟩=some y:=⟨_,Zn hg2 _ (by omega)⟩;have fz:=B7 hg2;clear hg2;have HO:=Lib.hid ho;clear ho;have HL:=Lib.hid hL;clear hL;have HB2:=Lib.hid hb2;clear hb2)
    go_roundw
    case rel=>exact ⟨k+1,by omega,by go_num,by go_grown,by simp only[World.size_setCell];omega,by
     have h:=hP.out.step HB2.out hkl hk HX.out HO.out HL.out;rw[show GoD.n Xc=5 from rfl] at h;simp only[World.setCells,Nat.add_assoc,Nat.reduceAdd] at h;exact h⟩
    case measure=>simp[intOf];omega
  obtain rfl:k=l.length:=by omega
  go_wp2
  go_ret
  obtain ⟨L,hL,hLB⟩:=hP.out.done hlm;exact ⟨_,L,rfl,hB,hL,hLB⟩
set_option maxHeartbeats 1000000 in
theorem Qdf (w:World) (ca:List Value) (a:Qz) (ha:rd w ca a) (hsz:GoD.size a<=1048576):Calls Tryz.prog 25 #[.agg ca.toArray] w (RetA w a):=by
 obtain ⟨a1,a2,a3⟩:=a;obtain ⟨ac1,at1,rfl,ar1,ac2,at2,rfl,ar2,ar3⟩:=ha;obtain ⟨ax1_0,rfl⟩:=Gb (show _=1 from GoD.rd_len ar1);obtain ⟨ax2_0,rfl⟩:=Gb (show _=1 from GoD.rd_len ar2);obtain ⟨rfl,ar3⟩:=ar3;dsimp only[List.cons_append,List.nil_append] at*
 replace hsz:(GoD.size a1+(GoD.size a2+GoD.size a3))<=1048576:=hsz
 have AR1H:=Lib.hid ar1;clear ar1;have AR2H:=Lib.hid ar2;clear ar2;have AR3H:=Lib.hid ar3;clear ar3;have tok1:True:=trivial;have tok2:True:=trivial;go_enter Tryz.func25,Tryz.ntmps25
 go_wp2_with (first | (go_at_call 61;have tk:=tok1;clear tok1;refine Lo (w:=w) (SX _ ax1_0 a1 (Xg AR1H.out (by go_grown)) (by omega)) (by go_grown) ?_;intro w1 v1 L1 hB hb hz _ ho1 hL1;obtain ⟨oa1,cp1,rfl⟩:=A6 ho1;have hz2:=hb.size;(repeat (first | rewrite [World.size_alloc] at hz2 | rewrite [World.size_setCell] at hz2 | rewrite [World.size_drew] at hz2));(repeat (first | rewrite [World.size_alloc] at hL1 | rewrite [World.size_setCell] at hL1 | rewrite [World.size_drew] at hL1));have hlt1:=GoD.own_lt ho1;have c1_0:=fun o=>Km hb (w.heap.size) o (by go_size);have f1_0:=fun o=>B3 hb (w.heap.size) o (by go_size);have c1_1:=fun o=>Km hb (w.heap.size+1) o (by go_size);have f1_1:=fun o=>B3 hb (w.heap.size+1) o (by go_size);have c1_2:=fun o=>Km hb (w.heap.size+1+1) o (by go_size);have f1_2:=fun o=>B3 hb (w.heap.size+1+1) o (by go_size);have HO1:=Lib.hid ho1;clear ho1;have HL1:=Lib.hid hL1;clear hL1;have HT1:=Lib.hid hlt1;clear hlt1;have HB1:=Lib.hid hb;clear hb) | (go_at_call 62;have tk:=tok2;clear tok2;refine Lo (w:=w) (Qde _ ax2_0 a2 (Xg AR2H.out (by go_grown)) (by omega)) (by go_grown) ?_;intro w2 v2 L2 hB hb hz _ ho2 hL2;obtain ⟨oa2,cp2,rfl⟩:=A6 ho2;have hz2:=hb.size;(repeat (first | rewrite [World.size_alloc] at hz2 | rewrite [World.size_setCell] at hz2 | rewrite [World.size_drew] at hz2));(repeat (first | rewrite [World.size_alloc] at hL2 | rewrite [World.size_setCell] at hL2 | rewrite [World.size_drew] at hL2));have hlt2:=GoD.own_lt ho2;have c2_0:=fun o=>Km hb (w.heap.size) o (by go_size);have f2_0:=fun o=>B3 hb (w.heap.size) o (by go_size);have c2_1:=fun o=>Km hb (w.heap.size+1) o (by go_size);have f2_1:=fun o=>B3 hb (w.heap.size+1) o (by go_size);have c2_2:=fun o=>Km hb (w.heap.size+1+1) o (by go_size);have f2_2:=fun o=>B3 hb (w.heap.size+1+1) o (by go_size);have HO2:=Lib.hid ho2;clear ho2;have HL2:=Lib.hid hL2;clear hL2;have HT2:=Lib.hid hlt2;clear hlt2;have HB2:=Lib.hid hb;clear hb) | ((with_reducible show bodyPost _ _ _ _ _ _);refine bodyPost_ret (v:= .agg #[.slice oa1 a1.length cp1, .slice oa2 a2.length cp2, .int .i64 a3]) (by simp[results,Tryz.results25,go_sem,c1_1,c2_1]) rfl ⟨[.slice oa1 a1.length cp1, .slice oa2 a2.length cp2, .int .i64 a3],(L1++(L2++ [])),rfl,by go_grown, ?_, ?_⟩;(exact (Ws (show own L1 _ [.slice oa1 a1.length cp1] a1 by (repeat (first | (with_reducible exact HO1.out) | ((with_reducible refine Uj ?_ ?_);rotate_left;exact (fun hm=>by have:=HL1.out _ hm;omega)) | (with_reducible refine Bi ?_) | (with_reducible refine Dv ?_) | (with_reducible refine Nc ?_ HB2.out)))) (Ws (show own L2 _ [.slice oa2 a2.length cp2] a2 by (repeat (first | (with_reducible exact HO2.out) | ((with_reducible refine Uj ?_ ?_);rotate_left;exact (fun hm=>by have:=HL2.out _ hm;omega)) | (with_reducible refine Bi ?_) | (with_reducible refine Dv ?_)))) (XJ _ AR3H.out) (by simp)) (fun x hx hy=>by (try simp only[List.mem_append,List.not_mem_nil,List.append_nil,List.nil_append,false_or,or_false] at hy);have:=HT1.out x hx;rcases hy with hy<;>(first | (have:=HL2.out x hy;omega)))));intro x hx;(try simp only[List.mem_append,List.not_mem_nil,List.append_nil,List.nil_append,false_or,or_false] at hx);rcases hx with hx | hx<;>first | (have:=HL1.out x hx;omega) | (have:=HL2.out x hx;omega)))
set_option maxHeartbeats 1000000 in
theorem Qdg (w:World) (ca:List Value) (a:Xw) (ha:rd w ca a) (hsz:GoD.size a<=1048576):Calls Tryz.prog 29 #[.agg ca.toArray] w (RetA w a):=by
 obtain ⟨a1,a2⟩:=a;obtain ⟨ac1,at1,rfl,ar1,ar2⟩:=ha;obtain ⟨rfl,ar1⟩:=ar1;obtain ⟨ax2_0,rfl⟩:=Gb (show _=1 from GoD.rd_len ar2);dsimp only[List.cons_append,List.nil_append] at*
 replace hsz:(GoD.size a1+GoD.size a2)<=1048576:=hsz
 have AR1H:=Lib.hid ar1;clear ar1;have AR2H:=Lib.hid ar2;clear ar2;have tok1:True:=trivial;go_enter Tryz.func29,Tryz.ntmps29
 go_wp2_with (first | (go_at_call 65;have tk:=tok1;clear tok1;refine Lo (w:=w) (Qdc _ ax2_0 a2 (Xg AR2H.out (by go_grown)) (by omega)) (by go_grown) ?_;intro w1 v1 L1 hB hb hz _ ho1 hL1;obtain ⟨oa1,cp1,rfl⟩:=A6 ho1;have hz2:=hb.size;(repeat (first | rewrite [World.size_alloc] at hz2 | rewrite [World.size_setCell] at hz2 | rewrite [World.size_drew] at hz2));(repeat (first | rewrite [World.size_alloc] at hL1 | rewrite [World.size_setCell] at hL1 | rewrite [World.size_drew] at hL1));have hlt1:=GoD.own_lt ho1;have c1_0:=fun o=>Km hb (w.heap.size) o (by go_size);have f1_0:=fun o=>B3 hb (w.heap.size) o (by go_size);have c1_1:=fun o=>Km hb (w.heap.size+1) o (by go_size);have f1_1:=fun o=>B3 hb (w.heap.size+1) o (by go_size);have c1_2:=fun o=>Km hb (w.heap.size+1+1) o (by go_size);have f1_2:=fun o=>B3 hb (w.heap.size+1+1) o (by go_size);have HO1:=Lib.hid ho1;clear ho1;have HL1:=Lib.hid hL1;clear hL1;have HT1:=Lib.hid hlt1;clear hlt1;have HB1:=Lib.hid hb;clear hb) | ((with_reducible show bodyPost _ _ _ _ _ _);refine bodyPost_ret (v:= .agg #[.string a1, .slice oa1 a2.length cp1]) (by simp[results,Tryz.results29,go_sem,c1_1]) rfl ⟨[.string a1, .slice oa1 a2.length cp1],([]++L1),rfl,by go_grown, ?_, ?_⟩;(exact (Ws (PQ _ AR1H.out) (show own L1 _ [.slice oa1 a2.length cp1] a2 by (repeat (first | (with_reducible exact HO1.out) | ((with_reducible refine Uj ?_ ?_);rotate_left;exact (fun hm=>by have:=HL1.out _ hm;omega)) | (with_reducible refine Bi ?_) | (with_reducible refine Dv ?_)))) (by simp)));intro x hx;(try simp only[List.mem_append,List.not_mem_nil,List.append_nil,List.nil_append,false_or,or_false] at hx);rcases hx with hx<;>first | (have:=HL1.out x hx;omega)))
set_option maxRecDepth 100000 in
set_option maxHeartbeats 1000000 in
theorem Qgf (w:World) (v:Value) (l:List Xw) (ha:rd w [v] l) (hsz:GoD.size l<=1048576):Calls Tryz.prog 26 #[v] w (RetS w l):=by
 obtain ⟨oa,cap,e1,hl,hm,hel⟩:=ha;obtain rfl:v=_:=by simpa using e1
 clear e1;have HE:=Lib.hid hel;clear hel;have hn:l.length<=1048576:=by have:=H6 l;omega
 have HS:=Lib.hid (fun i a (h:l[i]? =some a)=>Ux h);have hlm:l.length<=maxLen:=by omega
 go_enter Tryz.func26,Tryz.ntmps26
 go_wp2_with (at_make;refine Sf w (.tmp 6) (.tmp 6) 45 55 2 l.length rfl rfl Tryz.underlying45 (by kernel_rfl) rfl rfl (by omega) (by go_grown) ?_;intro w1 cur hcur hcs hB1 hb1 hlt1)
 go_loopw [4] (fun i wr=>∃k:Nat,k<=l.length/\i= .int .i64 k/\Below w.heap.size w wr/\w.heap.size<wr.heap.size/\Hid (Part wr w.heap.size l.length 55 l k)) (fun i _=>l.length-(intOf i).toNat)
 case atStart=>exact ⟨0,Nat.zero_le _,rfl,hB1,hlt1,Part.start hcur hcs l⟩
 case round=>
  obtain ⟨k,hk,rfl,hB,hlt,hP⟩:=hrel;clear hB1 hb1 hlt1 hcur hcs;by_cases hkl:k<l.length
  . have hx:=List.getElem?_eq_getElem hkl;obtain ⟨eb,eo,ee,rfl,hcl,hcc,hxr⟩:=HE.out k _ hx;have hxs:=HS.out k _ hx;have HX:=Lib.hid hx;clear hx;generalize l[k]=x at*;obtain ⟨cur2,hg,hgs⟩:=hP.out.block;have hgs2:cur2.size=l.length*2:=hgs;have hroom:=Nat.mul_le_mul_right 2 (show k+1<=l.length by omega);obtain ⟨x0,x1,rfl⟩:=Ry (show _=2 from hcl);have p0:wr.cell? ⟨eb,eo+k*2,none⟩=some x0:=(hB.cell (World.block_lt_of_cell? w _ (hcc 0 _ rfl))).trans (hcc 0 _ rfl);have p1:wr.cell? ⟨eb,eo+k*2+1,none⟩=some x1:=(hB.cell (World.block_lt_of_cell? w _ (hcc 1 _ rfl))).trans (hcc 1 _ rfl);have HXR:=Lib.hid hxr;clear hxr hcc hcl;have HG:=Lib.hid hg;clear hg;go_wp2_with (go_at_call 29;refine B6 (w:=w) (Qdg _ [x0,x1] x (Xg HXR.out hB) (by omega)) (by go_grown) ?_;intro w2 cs L hB2 hb2 hz2 _ ho hL;obtain ⟨eoa1,ecp1,rfl⟩:=FC (GoD.own_rd ho);have hg2:=(hb2.block _ hlt).trans HG.out;obtain ⟨z0,q0⟩:∃y,w2.cell? ⟨w.heap.size,k*2,none⟩=some y:=⟨_,Zn hg2 _ (by omega)⟩;obtain ⟨z1,q1⟩:∃y,w2.cell? ⟨w.heap.size,k*2+1,none⟩=some y:=⟨_,Zn hg2 _ (by omega)⟩;have fz:=B7 hg2;clear hg2;have HO:=Lib.hid ho;clear ho;have HL:=Lib.hid hL;clear hL;have HB2:=Lib.hid hb2;clear hb2)
    go_roundw
    case rel=>exact ⟨k+1,by omega,by go_num,by go_grown,by simp only[World.size_setCell];omega,by
     have h:=hP.out.step HB2.out hkl hk HX.out HO.out HL.out;rw[show GoD.n Xw=2 from rfl] at h;simp only[World.setCells,Nat.add_assoc,Nat.reduceAdd] at h;exact h⟩
    case measure=>simp[intOf];omega
  obtain rfl:k=l.length:=by omega
  go_wp2
  go_ret
  obtain ⟨L,hL,hLB⟩:=hP.out.done hlm;exact ⟨_,L,rfl,hB,hL,hLB⟩
set_option maxHeartbeats 1000000 in
theorem NF (w:World) (ca:List Value) (a:Xq) (ha:rd w ca a) (hsz:GoD.size a<=1048576):Calls Tryz.prog 8 #[.agg ca.toArray] w (RetA w a):=by
 obtain ⟨a1,a2,a3⟩:=a;obtain ⟨ac1,at1,rfl,ar1,ac2,at2,rfl,ar2,ar3⟩:=ha;obtain ⟨ax1_0,ax1_1,ax1_2,rfl⟩:=TB (show _=3 from GoD.rd_len ar1);obtain ⟨ax2_0,rfl⟩:=Gb (show _=1 from GoD.rd_len ar2);obtain ⟨ax3_0,rfl⟩:=Gb (show _=1 from GoD.rd_len ar3);dsimp only[List.cons_append,List.nil_append] at*
 replace hsz:(GoD.size a1+(GoD.size a2+GoD.size a3))<=1048576:=hsz
 have AR1H:=Lib.hid ar1;clear ar1;have AR2H:=Lib.hid ar2;clear ar2;have AR3H:=Lib.hid ar3;clear ar3;have tok1:True:=trivial;have tok2:True:=trivial;have tok3:True:=trivial;go_enter Tryz.func8,Tryz.ntmps8
 go_wp2_with (first | (go_at_call 25;have tk:=tok1;clear tok1;refine B6 (w:=w) (Qdf _ [ax1_0,ax1_1,ax1_2] a1 (Xg AR1H.out (by go_grown)) (by omega)) (by go_grown) ?_;intro w1 cs1 L1 hB hb hz _ ho1 hL1;obtain ⟨r1_oa1,r1_cp1,r1_oa2,r1_cp2,rfl⟩:=LL (GoD.own_rd ho1);have hz2:=hb.size;(repeat (first | rewrite [World.size_alloc] at hz2 | rewrite [World.size_setCell] at hz2 | rewrite [World.size_drew] at hz2));(repeat (first | rewrite [World.size_alloc] at hL1 | rewrite [World.size_setCell] at hL1 | rewrite [World.size_drew] at hL1));have hlt1:=GoD.own_lt ho1;have c1_0:=fun o=>Km hb (w.heap.size) o (by go_size);have f1_0:=fun o=>B3 hb (w.heap.size) o (by go_size);have c1_1:=fun o=>Km hb (w.heap.size+1) o (by go_size);have f1_1:=fun o=>B3 hb (w.heap.size+1) o (by go_size);have c1_2:=fun o=>Km hb (w.heap.size+1+1) o (by go_size);have f1_2:=fun o=>B3 hb (w.heap.size+1+1) o (by go_size);have HO1:=Lib.hid ho1;clear ho1;have HL1:=Lib.hid hL1;clear hL1;have HT1:=Lib.hid hlt1;clear hlt1;have HB1:=Lib.hid hb;clear hb) | (go_at_call 26;have tk:=tok2;clear tok2;refine Lo (w:=w) (Qgf _ ax2_0 a2 (Xg AR2H.out (by go_grown)) (by omega)) (by go_grown) ?_;intro w2 v2 L2 hB hb hz _ ho2 hL2;obtain ⟨oa2,cp2,rfl⟩:=A6 ho2;have hz2:=hb.size;(repeat (first | rewrite [World.size_alloc] at hz2 | rewrite [World.size_setCell] at hz2 | rewrite [World.size_drew] at hz2));(repeat (first | rewrite [World.size_alloc] at hL2 | rewrite [World.size_setCell] at hL2 | rewrite [World.size_drew] at hL2));have hlt2:=GoD.own_lt ho2;have c2_0:=fun o=>Km hb (w.heap.size) o (by go_size);have f2_0:=fun o=>B3 hb (w.heap.size) o (by go_size);have c2_1:=fun o=>Km hb (w.heap.size+1) o (by go_size);have f2_1:=fun o=>B3 hb (w.heap.size+1) o (by go_size);have c2_2:=fun o=>Km hb (w.heap.size+1+1) o (by go_size);have f2_2:=fun o=>B3 hb (w.heap.size+1+1) o (by go_size);have HO2:=Lib.hid ho2;clear ho2;have HL2:=Lib.hid hL2;clear hL2;have HT2:=Lib.hid hlt2;clear hlt2;have HB2:=Lib.hid hb;clear hb) | (go_at_call 27;have tk:=tok3;clear tok3;refine Lo (w:=w) (NE _ ax3_0 a3 (Xg AR3H.out (by go_grown)) (by omega)) (by go_grown) ?_;intro w3 v3 L3 hB hb hz _ ho3 hL3;obtain ⟨oa3,cp3,rfl⟩:=A6 ho3;have hz2:=hb.size;(repeat (first | rewrite [World.size_alloc] at hz2 | rewrite [World.size_setCell] at hz2 | rewrite [World.size_drew] at hz2));(repeat (first | rewrite [World.size_alloc] at hL3 | rewrite [World.size_setCell] at hL3 | rewrite [World.size_drew] at hL3));have hlt3:=GoD.own_lt ho3;have c3_0:=fun o=>Km hb (w.heap.size) o (by go_size);have f3_0:=fun o=>B3 hb (w.heap.size) o (by go_size);have c3_1:=fun o=>Km hb (w.heap.size+1) o (by go_size);have f3_1:=fun o=>B3 hb (w.heap.size+1) o (by go_size);have c3_2:=fun o=>Km hb (w.heap.size+1+1) o (by go_size);have f3_2:=fun o=>B3 hb (w.heap.size+1+1) o (by go_size);have HO3:=Lib.hid ho3;clear ho3;have HL3:=Lib.hid hL3;clear hL3;have HT3:=Lib.hid hlt3;clear hlt3;have HB3:=Lib.hid hb;clear hb) | ((with_reducible show bodyPost _ _ _ _ _ _);refine bodyPost_ret (v:= .agg #[.slice r1_oa1 a1.1.length r1_cp1, .slice r1_oa2 a1.2.1.length r1_cp2, .int .i64 a1.2.2, .slice oa2 a2.length cp2, .slice oa3 a3.length cp3]) (by simp[results,Tryz.results8,go_sem,c1_1,c2_1,c3_1]) rfl ⟨[.slice r1_oa1 a1.1.length r1_cp1, .slice r1_oa2 a1.2.1.length r1_cp2, .int .i64 a1.2.2, .slice oa2 a2.length cp2, .slice oa3 a3.length cp3],(L1++(L2++L3)),rfl,by go_grown, ?_, ?_⟩;(exact (Ws (show own L1 _ [.slice r1_oa1 a1.1.length r1_cp1, .slice r1_oa2 a1.2.1.length r1_cp2, .int .i64 a1.2.2] a1 by (repeat (first | (with_reducible exact HO1.out) | ((with_reducible refine Uj ?_ ?_);rotate_left;exact (fun hm=>by have:=HL1.out _ hm;omega)) | (with_reducible refine Bi ?_) | (with_reducible refine Dv ?_) | (with_reducible refine Nc ?_ HB3.out) | (with_reducible refine Nc ?_ HB2.out)))) (Ws (show own L2 _ [.slice oa2 a2.length cp2] a2 by (repeat (first | (with_reducible exact HO2.out) | ((with_reducible refine Uj ?_ ?_);rotate_left;exact (fun hm=>by have:=HL2.out _ hm;omega)) | (with_reducible refine Bi ?_) | (with_reducible refine Dv ?_) | (with_reducible refine Nc ?_ HB3.out)))) (show own L3 _ [.slice oa3 a3.length cp3] a3 by (repeat (first | (with_reducible exact HO3.out) | ((with_reducible refine Uj ?_ ?_);rotate_left;exact (fun hm=>by have:=HL3.out _ hm;omega)) | (with_reducible refine Bi ?_) | (with_reducible refine Dv ?_)))) (fun x hx hy=>by (try simp only[List.mem_append,List.not_mem_nil,List.append_nil,List.nil_append,false_or,or_false] at hy);have:=HT2.out x hx;rcases hy with hy<;>(first | (have:=HL3.out x hy;omega)))) (fun x hx hy=>by (try simp only[List.mem_append,List.not_mem_nil,List.append_nil,List.nil_append,false_or,or_false] at hy);have:=HT1.out x hx;rcases hy with hy | hy<;>(first | (have:=HL2.out x hy;omega) | (have:=HL3.out x hy;omega)))));intro x hx;(try simp only[List.mem_append,List.not_mem_nil,List.append_nil,List.nil_append,false_or,or_false] at hx);rcases hx with hx | hx | hx<;>first | (have:=HL1.out x hx;omega) | (have:=HL2.out x hx;omega) | (have:=HL3.out x hx;omega)))
set_option maxHeartbeats 1000000 in
theorem SY (w:World) (ca:List Value) (a:Hh) (ha:rd w ca a) (hsz:GoD.size a<=1048576):Calls Tryz.prog 9 #[.agg ca.toArray] w (RetA w a):=by
 obtain ⟨a1,a2,a3,a4⟩:=a;obtain ⟨ac1,at1,rfl,ar1,ac2,at2,rfl,ar2,ac3,at3,rfl,ar3,ar4⟩:=ha;obtain ⟨rfl,ar1⟩:=ar1;obtain ⟨ax2_0,ax2_1,ax2_2,ax2_3,ax2_4,rfl⟩:=Qg2 (show _=5 from GoD.rd_len ar2);obtain ⟨rfl,ar3⟩:=ar3;obtain ⟨ax4_0,ax4_1,rfl⟩:=Ry (show _=2 from GoD.rd_len ar4);dsimp only[List.cons_append,List.nil_append] at*
 replace hsz:(GoD.size a1+(GoD.size a2+(GoD.size a3+GoD.size a4)))<=1048576:=hsz
 have AR1H:=Lib.hid ar1;clear ar1;have AR2H:=Lib.hid ar2;clear ar2;have AR3H:=Lib.hid ar3;clear ar3;have AR4H:=Lib.hid ar4;clear ar4;have tok1:True:=trivial;have tok2:True:=trivial;go_enter Tryz.func9,Tryz.ntmps9
 go_wp2_with (first | (go_at_call 28;have tk:=tok1;clear tok1;refine B6 (w:=w) (PP _ [ax2_0,ax2_1,ax2_2,ax2_3,ax2_4] a2 (Xg AR2H.out (by go_grown)) (by omega)) (by go_grown) ?_;intro w1 cs1 L1 hB hb hz _ ho1 hL1;obtain ⟨r1_oa1,r1_cp1,rfl⟩:=AO (GoD.own_rd ho1);have hz2:=hb.size;(repeat (first | rewrite [World.size_alloc] at hz2 | rewrite [World.size_setCell] at hz2 | rewrite [World.size_drew] at hz2));(repeat (first | rewrite [World.size_alloc] at hL1 | rewrite [World.size_setCell] at hL1 | rewrite [World.size_drew] at hL1));have hlt1:=GoD.own_lt ho1;have c1_0:=fun o=>Km hb (w.heap.size) o (by go_size);have f1_0:=fun o=>B3 hb (w.heap.size) o (by go_size);have c1_1:=fun o=>Km hb (w.heap.size+1) o (by go_size);have f1_1:=fun o=>B3 hb (w.heap.size+1) o (by go_size);have c1_2:=fun o=>Km hb (w.heap.size+1+1) o (by go_size);have f1_2:=fun o=>B3 hb (w.heap.size+1+1) o (by go_size);have HO1:=Lib.hid ho1;clear ho1;have HL1:=Lib.hid hL1;clear hL1;have HT1:=Lib.hid hlt1;clear hlt1;have HB1:=Lib.hid hb;clear hb) | (go_at_call 29;have tk:=tok2;clear tok2;refine B6 (w:=w) (Qdg _ [ax4_0,ax4_1] a4 (Xg AR4H.out (by go_grown)) (by omega)) (by go_grown) ?_;intro w2 cs2 L2 hB hb hz _ ho2 hL2;obtain ⟨r2_oa1,r2_cp1,rfl⟩:=FC (GoD.own_rd ho2);have hz2:=hb.size;(repeat (first | rewrite [World.size_alloc] at hz2 | rewrite [World.size_setCell] at hz2 | rewrite [World.size_drew] at hz2));(repeat (first | rewrite [World.size_alloc] at hL2 | rewrite [World.size_setCell] at hL2 | rewrite [World.size_drew] at hL2));have hlt2:=GoD.own_lt ho2;have c2_0:=fun o=>Km hb (w.heap.size) o (by go_size);have f2_0:=fun o=>B3 hb (w.heap.size) o (by go_size);have c2_1:=fun o=>Km hb (w.heap.size+1) o (by go_size);have f2_1:=fun o=>B3 hb (w.heap.size+1) o (by go_size);have c2_2:=fun o=>Km hb (w.heap.size+1+1) o (by go_size);have f2_2:=fun o=>B3 hb (w.heap.size+1+1) o (by go_size);have HO2:=Lib.hid ho2;clear ho2;have HL2:=Lib.hid hL2;clear hL2;have HT2:=Lib.hid hlt2;clear hlt2;have HB2:=Lib.hid hb;clear hb) | ((with_reducible show bodyPost _ _ _ _ _ _);refine bodyPost_ret (v:= .agg #[.int .i64 a1, .int .i64 a2.1, .int .i64 a2.2.1, .bool a2.2.2.1, .int .i64 a2.2.2.2.1, .slice r1_oa1 a2.2.2.2.2.length r1_cp1, .int .i64 a3, .string a4.1, .slice r2_oa1 a4.2.length r2_cp1]) (by simp[results,Tryz.results9,go_sem,c1_1,c2_1]) rfl ⟨[.int .i64 a1, .int .i64 a2.1, .int .i64 a2.2.1, .bool a2.2.2.1, .int .i64 a2.2.2.2.1, .slice r1_oa1 a2.2.2.2.2.length r1_cp1, .int .i64 a3, .string a4.1, .slice r2_oa1 a4.2.length r2_cp1],([]++(L1++([]++L2))),rfl,by go_grown, ?_, ?_⟩;(exact (Ws (XJ _ AR1H.out) (Ws (show own L1 _ [.int .i64 a2.1, .int .i64 a2.2.1, .bool a2.2.2.1, .int .i64 a2.2.2.2.1, .slice r1_oa1 a2.2.2.2.2.length r1_cp1] a2 by (repeat (first | (with_reducible exact HO1.out) | ((with_reducible refine Uj ?_ ?_);rotate_left;exact (fun hm=>by have:=HL1.out _ hm;omega)) | (with_reducible refine Bi ?_) | (with_reducible refine Dv ?_) | (with_reducible refine Nc ?_ HB2.out)))) (Ws (XJ _ AR3H.out) (show own L2 _ [.string a4.1, .slice r2_oa1 a4.2.length r2_cp1] a4 by (repeat (first | (with_reducible exact HO2.out) | ((with_reducible refine Uj ?_ ?_);rotate_left;exact (fun hm=>by have:=HL2.out _ hm;omega)) | (with_reducible refine Bi ?_) | (with_reducible refine Dv ?_)))) (by simp)) (fun x hx hy=>by (try simp only[List.mem_append,List.not_mem_nil,List.append_nil,List.nil_append,false_or,or_false] at hy);have:=HT1.out x hx;rcases hy with hy<;>(first | (have:=HL2.out x hy;omega)))) (by simp)));intro x hx;(try simp only[List.mem_append,List.not_mem_nil,List.append_nil,List.nil_append,false_or,or_false] at hx);rcases hx with hx | hx<;>first | (have:=HL1.out x hx;omega) | (have:=HL2.out x hx;omega)))
open GoE (enc wide)
theorem NG (a:Xq) (left:Int) (h0:0<=left) (h1:left<=1048576):ACalls Tryz.prog 5 [LG a,Qia left] (Qia (szI (GoD.size a) left)):=BL (by unfold My;kernel_rfl) h0 h1 fun w c hr=>UK w c a left hr h0 h1
theorem SZ (a:Hh) (left:Int) (h0:0<=left) (h1:left<=1048576):ACalls Tryz.prog 6 [LG a,Qia left] (Qia (szI (GoD.size a) left)):=BL (by unfold My;kernel_rfl) h0 h1 fun w c hr=>BO w c a left hr h0 h1
theorem Tl (a:Xq) (h:GoD.size a<=1048576):ACalls Tryz.prog 8 [LG a] (Qla a):=BN (by unfold My;kernel_rfl) fun w c hr=>NF w c a hr h
theorem YX (a:Hh) (h:GoD.size a<=1048576):ACalls Tryz.prog 9 [LG a] (Qla a):=BN (by unfold My;kernel_rfl) fun w c hr=>SY w c a hr h
theorem NH {a b:Xq} (h:a=b):ACalls Tryz.prog 11 [LG a,LG b] (Qeb true):=BM (by unfold My;kernel_rfl) h fun w c c2 h1 h2=>ND w c c2 a b h1 h2
theorem TA {a b:Hh} (h:a=b):ACalls Tryz.prog 12 [LG a,LG b] (Qeb true):=BM (by unfold My;kernel_rfl) h fun w c c2 h1 h2=>ST w c c2 a b h1 h2
def U5 (aC:Xq) (aUser:Int) (aX:Hh) (aBy:Int):Bool:=(bif decide ((szI (GoD.size aC) 1048576)<(0:Int)) then true else (bif decide ((szI (GoD.size aX) (szI (GoD.size aC) 1048576))<(0:Int)) then true else true))
theorem Im (aC:Xq) (aUser:Int) (aX:Hh) (aBy:Int):ACalls Tryz.prog 3 [.a [.h aC.1.1, .h aC.1.2.1, .i aC.1.2.2, .h aC.2.1, .h aC.2.2], .i aUser, .a [.i aX.1, .i aX.2.1.1, .i aX.2.1.2.1, .b aX.2.1.2.2.1, .i aX.2.1.2.2.2.1, .h aX.2.1.2.2.2.2, .i aX.2.2.1, .s aX.2.2.2.1, .h aX.2.2.2.2], .i aBy] (.b (U5 aC aUser aX aBy)):=by
 refine en Qa Tryz.func3 fun w0 F0 hG=> ?_
 refine sn Qa [1,3,4,6,8] [4,6] (p0) <| tn Qa [1,3,4,6,8,9] [4,6] (p0) ?_
 have hz1:=Qhi (GoD.size aC) 1048576;refine tu Qa [(4, .p 4 0),(6, .p 6 0),(8, .b false),(9, .i (szI (GoD.size aC) 1048576))] [0,2] [(4, [.h aC.1.1, .h aC.1.2.1, .i aC.1.2.2, .h aC.2.1, .h aC.2.2]),(6, [.i aX.1, .i aX.2.1.1, .i aX.2.1.2.1, .b aX.2.1.2.2.1, .i aX.2.1.2.2.2.1, .h aX.2.1.2.2.2.2, .i aX.2.2.1, .s aX.2.2.2.1, .h aX.2.2.2.2])] [] (pc 2 (NG aC 1048576 (by omega) (by omega)) p0) <| Qc <| sn Qa [1,3,4,6,8,9,18] [4,6] (p0) <| ck (decide ((szI (GoD.size aC) 1048576)<(0:Int))) (fun h2=> ?_) (fun h2=> ?_)
 ·
  exact tu Qa [(8, .b true)] [8] [] [] (p0) <| Qg <| pb [] (Xf h2 (rfl))
 have h2d:=of_decide_eq_false h2;refine Qf ?_;have hz3:=Qhi (GoD.size aX) (szI (GoD.size aC) 1048576);refine tn Qa [1,3,4,6,8,9] [4,6] (pc 2 (SZ aX (szI (GoD.size aC) 1048576) (by omega) (by omega)) p0) <| Qc <| tu Qa [(23, .b (decide ((szI (GoD.size aX) (szI (GoD.size aC) 1048576))<(0:Int))))] [9] [] [] (p0) <| ck (decide ((szI (GoD.size aX) (szI (GoD.size aC) 1048576))<(0:Int))) (fun h4=> ?_) (fun h4=> ?_)
 ·
  exact sn Qa [1,3,4,6,8] [4,6] (p0) <| Qg <| pb [] (Qs h2 (Xf h4 (rfl)))
 have h4d:=of_decide_eq_false h4;refine Qf ?_;have hsz_aC:GoD.size aC<=1048576:=by omega
 have hsz_aX:GoD.size aX<=1048576:=by omega
 exact sN Qa Zh [1,3,4,6,8,10] [4,6] (pc 1 (Tl aC hsz_aC) (pc 4 (YX aX hsz_aX) (pc 6 ((II aC aUser aX aBy)▸(Ou aC aUser aX aBy)) p0))) <| tn Qa [1,3,4,6,8,10,11] [4,6,11] (pc 1 (Tl aC hsz_aC) p0) <| tu Qa [(10, .b (K8 aC aUser aX aBy)),(11, .p 11 0),(12, .p 12 0)] [23] [(11, [.o 2048 aC.1.1, .o 2049 aC.1.2.1, .i aC.1.2.2, .o 2050 aC.2.1, .o 2051 aC.2.2]),(12, [.i aX.1, .i aX.2.1.1, .i aX.2.1.2.1, .b aX.2.1.2.2.1, .i aX.2.1.2.2.2.1, .o 2176 aX.2.1.2.2.2.2, .i aX.2.2.1, .s aX.2.2.2.1, .o 2177 aX.2.2.2.2])] [] (pc 1 (YX aX hsz_aX) p0) <| sn Qa [4,6,8,10,11,12,13] [4,6,11,12] (pc 4 (Ot aC aUser aX aBy) p0) <| Qc <| tu Qa [(42, .b false)] [1,3,10] [] [] (pe 2 (show .b (!((K8 aC aUser aX aBy)==(K8 aC aUser aX aBy)))= .b false from Qp (by simp)) p0) <| ckF <| Qf <| Qc <| sN Qa Zh [6,8,12,47] [6,12] (pc 2 (Tl aC hsz_aC) (pc 3 (NH (a:=aC) (b:=aC) (rfl)) (pe 4 (show .b (!true)= .b false from rfl) p0))) <| ckF <| Qf <| Qc <| tN Qa Zh [8,52] [] (pc 2 (YX aX hsz_aX) (pc 3 (TA (a:=aX) (b:=aX) (rfl)) (pe 4 (show .b (!true)= .b false from rfl) p0))) <| ckF <| Qf <| tu Qa [(8, .b true)] [4,6,8,11,12,42] [] [4,6,11,12] (p0) <| Qg <| pb [] (Qs h2 (Qs h4 (rfl)))
open GoD (rd own)
set_option maxRecDepth 100000 in
set_option maxHeartbeats 1000000 in
theorem Rr (w:World) (c0:List Value) (a0:Xq) (h0:rd w c0 a0) (a1:Int) (h1:I64 a1) (c2:List Value) (a2:Hh) (h2:rd w c2 a2) (a3:Int) (h3:I64 a3) (hbig:¬(GoD.size a0+GoD.size a2<=1048576)):Calls Tryz.prog 3 #[.agg c0.toArray, .int .i64 a1, .agg c2.toArray, .int .i64 a3] w (Ret w (.bool true)):=by
 obtain ⟨p0_oa1,p0_cp1,p0_oa2,p0_cp2,p0_oa3,p0_cp3,p0_oa4,p0_cp4,rfl⟩:=CK h0;have HA0:=Lib.hid h0;clear h0;have HA1:=Lib.hid h1;clear h1;obtain ⟨p2_oa1,p2_cp1,p2_oa2,p2_cp2,rfl⟩:=FE h2;have HA2:=Lib.hid h2;clear h2;have HA3:=Lib.hid h3;clear h3;have tok1:True:=trivial;have tok2:True:=trivial;go_enter Tryz.func3,Tryz.ntmps3
 go_wp2_with (first | (go_at_call 5;have tk:=tok1;clear tok1;refine Aw (w:=w) (UK _ [.slice p0_oa1 a0.1.1.length p0_cp1, .slice p0_oa2 a0.1.2.1.length p0_cp2, .int .i64 a0.1.2.2, .slice p0_oa3 a0.2.1.length p0_cp3, .slice p0_oa4 a0.2.2.length p0_cp4] a0 _ (Xg HA0.out (by repeat (first | (with_reducible exact Below.refl _ _) | (with_reducible refine Below.alloc ?_ (by go_size) _) | (with_reducible refine Below.drew ?_)))) (by omega) (by omega)) (by repeat (first | (with_reducible exact Below.refl _ _) | (with_reducible refine Below.alloc ?_ (by go_size) _) | (with_reducible refine Below.drew ?_))) ?_;intro w1 r1 hB1 hb hz1 _ hr hs1;have HR1:=Lib.hid hr;clear hr;have hz2:=hb.size;(repeat (first | rewrite [World.size_alloc] at hz2 | rewrite [World.size_setCell] at hz2 | rewrite [World.size_drew] at hz2));have c1_0:=fun o=>Km hb (w.heap.size) o (by go_size);have c1_1:=fun o=>Km hb (w.heap.size+1) o (by go_size);have l1_0:w.heap.size<w1.heap.size:=(by go_size);have l1_1:w.heap.size+1<w1.heap.size:=(by go_size);have HB1:=Lib.hid hb;clear hb) | (go_at_call 6;have tk:=tok2;clear tok2;refine Aw (w:=w) (BO _ [.int .i64 a2.1, .int .i64 a2.2.1.1, .int .i64 a2.2.1.2.1, .bool a2.2.1.2.2.1, .int .i64 a2.2.1.2.2.2.1, .slice p2_oa1 a2.2.1.2.2.2.2.length p2_cp1, .int .i64 a2.2.2.1, .string a2.2.2.2.1, .slice p2_oa2 a2.2.2.2.2.length p2_cp2] a2 _ (Xg HA2.out (by repeat (first | (with_reducible exact Below.refl _ _) | (with_reducible refine AN ?_ HB1.out (by go_size)) | (with_reducible refine Below.alloc ?_ (by go_size) _) | (with_reducible refine Below.drew ?_)))) (by omega) (by omega)) (by repeat (first | (with_reducible exact Below.refl _ _) | (with_reducible refine AN ?_ HB1.out (by go_size)) | (with_reducible refine Below.alloc ?_ (by go_size) _) | (with_reducible refine Below.drew ?_))) ?_;intro w2 r2 hB2 hb hz2 _ hr hs2;have HR2:=Lib.hid hr;clear hr;have hz2:=hb.size;(repeat (first | rewrite [World.size_alloc] at hz2 | rewrite [World.size_setCell] at hz2 | rewrite [World.size_drew] at hz2));have c2_0:=fun o=>Km hb (w.heap.size) o (by go_size);have c2_1:=fun o=>Km hb (w.heap.size+1) o (by go_size);have l2_0:w.heap.size<w2.heap.size:=(by go_size);have l2_1:w.heap.size+1<w2.heap.size:=(by go_size);have HB2:=Lib.hid hb;clear hb) | (exfalso;have q1:=HR1.out;have q2:=HR2.out;apply hbig;unfold szq at*;omega))
 all_goals
  go_ret
  refine ⟨rfl, ?_⟩;first | (with_reducible assumption) | go_grown
theorem F9 (a0:Xq) (a1:Int) (a2:Hh) (a3:Int):U5 a0 a1 a2 a3=true:=by
 unfold U5;simp
theorem Rs (w:World) (c0:List Value) (a0:Xq) (h0:rd w c0 a0) (a1:Int) (h1:I64 a1) (c2:List Value) (a2:Hh) (h2:rd w c2 a2) (a3:Int) (h3:I64 a3) (ht:tabOk w):Calls Tryz.prog 3 #[.agg c0.toArray, .int .i64 a1, .agg c2.toArray, .int .i64 a3] w (Ret w (.bool true)):=by
 by_cases hbig:GoD.size a0+GoD.size a2<=1048576
 . haveI:Good Tryz.prog w:=⟨fun _ _=>ht⟩
   have h:=(Im a0 a1 a2 a3).run (.cons (Qak h0 (GoE.wide_size (show GoD.size a0<=1073741824 by omega))) (.cons (Qal h1) (.cons (Qak h2 (GoE.wide_size (show GoD.size a2<=1073741824 by omega))) (.cons (Qal h3) .nil))));rw[F9] at h;exact h.mono fun _ _ h=>Qec h
 exact Rr w c0 a0 h0 a1 h1 c2 a2 h2 a3 h3 hbig
end Go.Proofs.YtkekndahbiefaaaGreatDoor
