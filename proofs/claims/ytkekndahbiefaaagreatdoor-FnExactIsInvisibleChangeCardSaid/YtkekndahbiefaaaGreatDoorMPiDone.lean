/- The statement FnExactIsInvisibleChangeCardSaid: for every input the law returns true and its arguments read behind the call as they read before; the variables that its row lists are tied to the program's text. -/
import Derived.Test.YtkekndahbiefaaaGreatDoorP7
import Derived.Test.YtkekndahbiefaaaGreatDoorRows
import Derived.WalkKit
import Derived.ProofKit
import Derived.OpenShut
import Derived.ShutString
import Derived.ChangeOld
import Derived.Below
import Derived.Test.YtkekndahbiefaaaGreatDoorTie
import Derived.Test.YtkekndahbiefaaaGreatDoorCards
import Derived.SevenTiedAt
import Derived.LaidMore
import Derived.Stop.Joined
import Derived.Lib.LaidTab
set_option linter.unusedVariables false
set_option linter.unusedSimpArgs false
namespace Go.Proofs.YtkekndahbiefaaaGreatDoor
open Go.ChangeShapes Go.WideShapes Go.ChangeAt Go.RowKit
open GoD (rd own)
namespace fnExactIsInvisibleChangeDone
theorem own:ownKnob Tryz.prog.godebug=none:=by kernel_rfl
theorem EB:laidOutB Tryz.prog=true:=by kernel_rfl
theorem Rn:Opens Tryz.prog 9 ByteArray:= .str Tryz.underlying9 (by as_aux_lemma=>kernel_rfl)
theorem YY:Opens Tryz.prog 3 Int:= .int Tryz.underlying3 (by as_aux_lemma=>kernel_rfl)
theorem Qjb:Opens Tryz.prog 165 Kt:= .struct Tryz.underlying165 (by as_aux_lemma=>kernel_rfl) (.cons rfl Rn (.one rfl YY))
theorem Qgg:Opens Tryz.prog 22 (List Kt):= .slice Tryz.underlying22 (by as_aux_lemma=>kernel_rfl) Qjb
theorem Qkl:Opens Tryz.prog 4 Bool:= .bool Tryz.underlying4 (by as_aux_lemma=>kernel_rfl)
theorem Qdh:Opens Tryz.prog 169 De:= .struct Tryz.underlying169 (by as_aux_lemma=>kernel_rfl) (.cons rfl YY (.cons rfl YY (.one rfl Rn)))
theorem Qkm:Opens Tryz.prog 171 E6:= .struct Tryz.underlying171 (by as_aux_lemma=>kernel_rfl) (.cons rfl Rn (.one rfl Qdh))
theorem Qjc:Opens Tryz.prog 30 (List E6):= .slice Tryz.underlying30 (by as_aux_lemma=>kernel_rfl) Qkm
theorem Qhj:Opens Tryz.prog 32 Xc:= .struct Tryz.underlying32 (by as_aux_lemma=>kernel_rfl) (.cons rfl YY (.cons rfl YY (.cons rfl Qkl (.cons rfl YY (.one rfl Qjc)))))
theorem Qjd:Opens Tryz.prog 23 (List Xc):= .slice Tryz.underlying23 (by as_aux_lemma=>kernel_rfl) Qhj
theorem Qje:Opens Tryz.prog 25 Qz:= .struct Tryz.underlying25 (by as_aux_lemma=>kernel_rfl) (.cons rfl Qgg (.cons rfl Qjd (.one rfl YY)))
theorem Qkn:Opens Tryz.prog 174 Yu:= .struct Tryz.underlying174 (by as_aux_lemma=>kernel_rfl) (.cons rfl YY (.cons rfl YY (.cons rfl YY (.cons rfl Rn (.one rfl Qdh)))))
theorem Qjf:Opens Tryz.prog 33 (List Yu):= .slice Tryz.underlying33 (by as_aux_lemma=>kernel_rfl) Qkn
theorem Qko:Opens Tryz.prog 35 Xw:= .struct Tryz.underlying35 (by as_aux_lemma=>kernel_rfl) (.cons rfl Rn (.one rfl Qjf))
theorem Qkp:Opens Tryz.prog 26 (List Xw):= .slice Tryz.underlying26 (by as_aux_lemma=>kernel_rfl) Qko
theorem Qkq:Opens Tryz.prog 111 (List Int):= .slice Tryz.underlying111 (by as_aux_lemma=>kernel_rfl) YY
theorem Qgh:Opens Tryz.prog 113 Qh:= .struct Tryz.underlying113 (by as_aux_lemma=>kernel_rfl) (.cons rfl Rn (.one rfl Qkq))
theorem Qdi:Opens Tryz.prog 27 (List Qh):= .slice Tryz.underlying27 (by as_aux_lemma=>kernel_rfl) Qgh
theorem Qdj:Opens Tryz.prog 29 Xq:= .struct Tryz.underlying29 (by as_aux_lemma=>kernel_rfl) (.cons rfl Qje (.cons rfl Qkp (.one rfl Qdi)))
theorem Qgi:Opens Tryz.prog 37 Hh:= .struct Tryz.underlying37 (by as_aux_lemma=>kernel_rfl) (.cons rfl YY (.cons rfl Qhj (.cons rfl YY (.one rfl Qko))))
theorem gType:(Tryz.prog.globals[0]?).map (·.type)=some 314:=by kernel_rfl
theorem Qgj (os:Os) (args:Array Value):laidMetH Tryz.prog Rows.fnExactIsInvisibleChangeRow.laid ((World.doorLaid Tryz.prog 400 os).forCall (fun _ _=>0) ⟨#[],args, []⟩).memory:=
 laidMetH_of_parts3 (fuel:=8) (laidMet_of_run' 8 (by as_aux_lemma=>kernel_rfl) (by as_aux_lemma=>kernel_rfl)) (by as_aux_lemma=>kernel_rfl) (by as_aux_lemma=>kernel_rfl)
theorem Qgk:(Rows.laid_internal_strconv_uint64pow10:DataW Unit)=Lib.tabData .u64 Lib.pow10Tab:=by kernel_rfl
theorem Qjg {W:World} (h:laidMetH Tryz.prog Rows.fnExactIsInvisibleChangeRow.laid W):tabOk W:=by
 rw[MakeChecks.laidMetH_plain _ _ _ (by as_aux_lemma=>kernel_rfl)] at h;obtain ⟨ps,⟨g0,t0,cs0,f0,p0,q0,hg0,ht0,hv0,hd0,⟨g1,t1,cs1,f1,p1,q1,hg1,ht1,hv1,hd1,⟨g2,t2,cs2,f2,p2,q2,hg2,ht2,hv2,hd2,_,_⟩,_⟩,_⟩,_,_⟩:=h;obtain rfl:=Option.some.inj (gTab.symm.trans hg2);obtain rfl:=Option.some.inj (gType.symm.trans ht2);rw[Qgk] at hd2;unfold tabOk Lib.TabIs;rw[hv2,←Lib.cells_of_tab Tryz.underlying314 Tryz.underlying291 (by as_aux_lemma=>kernel_rfl) (by as_aux_lemma=>kernel_rfl) hd2]
set_option maxRecDepth 100000 in
theorem Qkr (os:Os) (started:os.Started) (H:Type) (enc:TypeId×Value->H):
 ReturnsInHanded {} Tryz.checked os 3 .any (fun w args=>(Rows.fnExactIsInvisibleChangeSpec.pre enc Tryz.prog Tryz.f3 [] false w args/\laidMetH Tryz.prog Rows.fnExactIsInvisibleChangeRow.laid w)/\sizedMet enc Tryz.prog Tryz.f3 (OpenSpec.ofChange Rows.fnExactIsInvisibleChangeSpec) false w args)
  (Rows.fnExactIsInvisibleChangeSpec.post enc Tryz.prog Tryz.f3 false true false false):=by
 refine returnsInHanded_of_change_and (C:=Tryz.checked) (X:=fun w _=>laidMetH Tryz.prog Rows.fnExactIsInvisibleChangeRow.laid w) (fun _ _ _ hh h=>h.of_heap hh) own started (by as_aux_lemma=>kernel_rfl) Tryz.func3
  (ChangeSpec.witness_shaped (enc:=enc) (C:=Tryz.checked) (os:=os) (X:=fun w _=>laidMetH Tryz.prog Rows.fnExactIsInvisibleChangeRow.laid w) false (World.doorLaid Tryz.prog 400 os) #[.agg #[.slice none 0 0, .slice none 0 0, .int .i64 0, .slice none 0 0, .slice none 0 0], .int .i64 0, .agg #[.int .i64 0, .int .i64 0, .int .i64 0, .bool false, .int .i64 0, .slice none 0 0, .int .i64 0, .string ⟨#[]⟩, .slice none 0 0], .int .i64 0] 8 rfl (World.shaped_of_RefB (by as_aux_lemma=>kernel_rfl) (by as_aux_lemma=>kernel_rfl)) (by as_aux_lemma=>kernel_rfl) (by as_aux_lemma=>kernel_rfl) (by as_aux_lemma=>kernel_rfl) (Qgj os _)) ?_
 intro W base args ds gs before hval0 hW hcnd _ hL _;have hval:∀(j:Nat) t v,Tryz.f3.params[j]? =some t->args[j]? =some v->Value.okWide Tryz.prog W .any base t v:=hval0;have hW':=hW;obtain ⟨p,q,hA0,hV,rfl,hfz,hnd⟩:=hW;have hA:DataW.TrodAll enc Tryz.prog W 0 (fun _=>true) true Tryz.f3.params.toList args.toList ds p:=hA0;rw[Tryz.params3] at hA hval;obtain ⟨v0,vs0,d0,ds0,p0,q0,hargs,rfl,rfl,h0,r0⟩:=trodAll_cons hA;obtain ⟨v1,vs1,d1,ds1,p1,q1,rfl,rfl,rfl,h1,r1⟩:=trodAll_cons r0;obtain ⟨v2,vs2,d2,ds2,p2,q2,rfl,rfl,rfl,h2,r2⟩:=trodAll_cons r1;obtain ⟨v3,vs3,d3,ds3,p3,q3,rfl,rfl,rfl,h3,r3⟩:=trodAll_cons r2;obtain ⟨rfl,rfl,rfl⟩:=trodAll_nil r3;obtain rfl:args= #[v0,v1,v2,v3]:=by cases args;simp_all
 obtain ⟨rfl,rfl⟩:=trodVars_none hV;have k0:=h0;have lt0:=JI k0;obtain ⟨c0,a0,rfl,w0⟩:=EI Tryz.underlying29 Qdj (hval 0 29 v0 rfl rfl) h0;have k1:=h1;have lt1:=JI k1;obtain ⟨a1,rfl,w1⟩:=Qgo Tryz.underlying3 (by as_aux_lemma=>kernel_rfl) (hval 1 3 v1 rfl rfl) h1;have k2:=h2;have lt2:=JI k2;obtain ⟨c2,a2,rfl,w2⟩:=EI Tryz.underlying37 Qgi (hval 2 37 v2 rfl rfl) h2;have k3:=h3;have lt3:=JI k3;obtain ⟨a3,rfl,w3⟩:=Qgo Tryz.underlying3 (by as_aux_lemma=>kernel_rfl) (hval 3 3 v3 rfl rfl) h3;clear hA0 hval0;have hT:=Qjg hL;refine (Rs W c0 a0 w0 a1 w1 c2 a2 w2 a3 w3 hT).mono fun e W' ⟨he,bel⟩=> ?_
 subst he;exact ⟨_,rfl,_,_,_, [],_, [],hW',trodAll_mk1 (shut_bool Tryz.underlying4 _),(trodAll_cons_mk (Below.trod EB (by as_aux_lemma=>kernel_rfl) (of_decide_eq_true (by as_aux_lemma=>kernel_rfl)) k0 bel lt0) (trodAll_cons_mk (Below.trod EB (by as_aux_lemma=>kernel_rfl) (of_decide_eq_true (by as_aux_lemma=>kernel_rfl)) k1 bel lt1) (trodAll_cons_mk (Below.trod EB (by as_aux_lemma=>kernel_rfl) (of_decide_eq_true (by as_aux_lemma=>kernel_rfl)) k2 bel lt2) (trodAll_cons_mk (Below.trod EB (by as_aux_lemma=>kernel_rfl) (of_decide_eq_true (by as_aux_lemma=>kernel_rfl)) k3 bel lt3) trodAll_mk0)))),rfl,bel.frame _,fun h=>by cases h⟩
theorem Qks {a b:Bool} (h1:a=true) (h2:b=true):(a&&b)=true:=by rw[h1,h2];rfl
set_option maxHeartbeats 1000000 in
theorem Qjh:joinedFacts Tryz.pinned.checked.prog 3 Tryz.f3 Rows.fnExactIsInvisibleChangeSpec Rows.fnExactIsInvisibleChangeRow=true:=by
 unfold joinedFacts
 repeat' with_reducible apply Qks
 all_goals (as_aux_lemma=>kernel_rfl)
set_option maxHeartbeats 1000000 in
theorem over:Rows.fnExactIsInvisibleChangeRow.holds Tryz.pinned (OpenSpec.ofChange Rows.fnExactIsInvisibleChangeSpec):=
 OpenClaim.holds_of_wide 3 Tryz.f3 rfl rfl rfl rfl rfl rfl rfl ⟨rfl,rfl,rfl,rfl,rfl⟩ rfl rfl rfl rfl rfl (by as_aux_lemma=>kernel_rfl) Tryz.func3 Qjh
  (of_decide_eq_true (by as_aux_lemma=>kernel_rfl)) (by unfold Func.isWrapper;rw[if_neg (by as_aux_lemma=>decide+kernel)];exact ⟨rfl,rfl⟩)
  (fun os started H enc _=>Qkr os started H enc)
end fnExactIsInvisibleChangeDone
theorem Ga:Rows.FnExactIsInvisibleChangeSaid:=fnExactIsInvisibleChangeDone.over
theorem fnExactIsInvisibleChange_holds:Rows.FnExactIsInvisibleChangeCardSaid:=
 Claim7.holds_tied_plain_at .later [] [.data, .data, .data] true (true, "bc49df54fe40b05fd90b07029b8dc22e292f9eef951a9735c3545098d4e9be94") false
  Ga (fun _ h=>by cases h) (by as_aux_lemma=>kernel_rfl) (fun _ h=>by cases h) fnExactIsInvisibleChange_row_tie rfl ⟨rfl,rfl⟩ (by as_aux_lemma=>kernel_rfl) rfl
  (fun f fn hf hfn=>by
   obtain rfl:f=3:=Option.some.inj ((show Tryz.prog.funcNamed Rows.fnExactIsInvisibleChangeRow.func=some 3 by as_aux_lemma=>kernel_rfl).symm.trans hf) |>.symm
   obtain rfl:fn=Tryz.f3:=(Option.some.inj (Tryz.func3.symm.trans hfn)).symm
   exact ⟨(by as_aux_lemma=>kernel_rfl),fun j t ht=>by
    rw[Tryz.params3] at ht;have hm:t∈ [29,3,37,3]:=by simpa using Array.mem_of_getElem? ht
    have hall:([29,3,37,3].all fun u=> !Tryz.prog.wantsStandIn u)=true:=by as_aux_lemma=>kernel_rfl
    exact (show Tryz.prog.wantsStandIn t=false by simpa using List.all_eq_true.1 hall t hm)⟩)
  (by as_aux_lemma=>kernel_rfl)
end Go.Proofs.YtkekndahbiefaaaGreatDoor
