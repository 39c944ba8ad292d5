/- The statement FnExactChangeCatalogFieldKindCardSaid: for every input the law returns true and its arguments read behind the call as they read before; the variables that its row lists are tied to the program's text. -/
import Derived.Test.YtcfmffieckchiaaGreatDoorP7
import Derived.Test.YtcfmffieckchiaaGreatDoorRows
import Derived.WalkKit
import Derived.ProofKit
import Derived.OpenShut
import Derived.ShutString
import Derived.ChangeOld
import Derived.Below
import Derived.Test.YtcfmffieckchiaaGreatDoorTie
import Derived.Test.YtcfmffieckchiaaGreatDoorCards
import Derived.SevenTiedAt
import Derived.LaidMore
import Derived.Stop.Joined
import Derived.Lib.LaidTab
import Derived.Stop.LaidErr
set_option linter.unusedVariables false
set_option linter.unusedSimpArgs false
namespace Go.Proofs.YtcfmffieckchiaaGreatDoor
open Go.ChangeShapes Go.WideShapes Go.ChangeAt Go.RowKit
open GoD (rd own)
namespace fnExactChangeCatalogFieldKindDone
theorem own:ownKnob Tryz.prog.godebug=none:=by kernel_rfl
theorem FV:laidOutB Tryz.prog=true:=by kernel_rfl
theorem Ni:Opens Tryz.prog 9 ByteArray:= .str Tryz.underlying9 (by as_aux_lemma=>kernel_rfl)
theorem YS:Opens Tryz.prog 3 Int:= .int Tryz.underlying3 (by as_aux_lemma=>kernel_rfl)
theorem Qga:Opens Tryz.prog 125 Yd:= .struct Tryz.underlying125 (by as_aux_lemma=>kernel_rfl) (.cons rfl Ni (.one rfl YS))
theorem Qc7:Opens Tryz.prog 22 (List Yd):= .slice Tryz.underlying22 (by as_aux_lemma=>kernel_rfl) Qga
theorem Qho:Opens Tryz.prog 4 Bool:= .bool Tryz.underlying4 (by as_aux_lemma=>kernel_rfl)
theorem Qaf:Opens Tryz.prog 174 Z4:= .struct Tryz.underlying174 (by as_aux_lemma=>kernel_rfl) (.cons rfl YS (.cons rfl YS (.one rfl Ni)))
theorem Qhp:Opens Tryz.prog 195 Jl:= .struct Tryz.underlying195 (by as_aux_lemma=>kernel_rfl) (.cons rfl Ni (.one rfl Qaf))
theorem Qgb:Opens Tryz.prog 127 (List Jl):= .slice Tryz.underlying127 (by as_aux_lemma=>kernel_rfl) Qhp
theorem Qhq:Opens Tryz.prog 129 Yh:= .struct Tryz.underlying129 (by as_aux_lemma=>kernel_rfl) (.cons rfl YS (.cons rfl YS (.cons rfl Qho (.cons rfl YS (.one rfl Qgb)))))
theorem Qgc:Opens Tryz.prog 23 (List Yh):= .slice Tryz.underlying23 (by as_aux_lemma=>kernel_rfl) Qhq
theorem Qgd:Opens Tryz.prog 25 X1:= .struct Tryz.underlying25 (by as_aux_lemma=>kernel_rfl) (.cons rfl Qc7 (.cons rfl Qgc (.one rfl YS)))
theorem Qhr:Opens Tryz.prog 176 Yy:= .struct Tryz.underlying176 (by as_aux_lemma=>kernel_rfl) (.cons rfl YS (.cons rfl YS (.cons rfl YS (.cons rfl Ni (.one rfl Qaf)))))
theorem Qge:Opens Tryz.prog 80 (List Yy):= .slice Tryz.underlying80 (by as_aux_lemma=>kernel_rfl) Qhr
theorem Qik:Opens Tryz.prog 82 Y8:= .struct Tryz.underlying82 (by as_aux_lemma=>kernel_rfl) (.cons rfl Ni (.one rfl Qge))
theorem Qhs:Opens Tryz.prog 26 (List Y8):= .slice Tryz.underlying26 (by as_aux_lemma=>kernel_rfl) Qik
theorem Qht:Opens Tryz.prog 40 (List Int):= .slice Tryz.underlying40 (by as_aux_lemma=>kernel_rfl) YS
theorem Qc8:Opens Tryz.prog 85 Qg:= .struct Tryz.underlying85 (by as_aux_lemma=>kernel_rfl) (.cons rfl Ni (.one rfl Qht))
theorem Qag:Opens Tryz.prog 27 (List Qg):= .slice Tryz.underlying27 (by as_aux_lemma=>kernel_rfl) Qc8
theorem Qah:Opens Tryz.prog 29 Yb:= .struct Tryz.underlying29 (by as_aux_lemma=>kernel_rfl) (.cons rfl Qgd (.cons rfl Qhs (.one rfl Qag)))
theorem gType:(Tryz.prog.globals[2]?).map (·.type)=some 251:=by kernel_rfl
theorem Qc9 (os:Os) (args:Array Value):laidMetH Tryz.prog Rows.fnExactChangeCatalogFieldKindRow.laid ((World.doorLaid Tryz.prog 400 os).forCall (λ_ _=>0) ⟨#[],args, []⟩).memory:=
 laidMetH_of_parts3 (fuel:=8) (laidMet_of_run' 8 (by as_aux_lemma=>kernel_rfl) (by as_aux_lemma=>kernel_rfl)) (by as_aux_lemma=>kernel_rfl) (by as_aux_lemma=>kernel_rfl)
theorem Qda:(Rows.laid_internal_strconv_uint64pow10:DataW Unit)=Lib.tabData .u64 Lib.pow10Tab:=by kernel_rfl
theorem Qgf {W:World} (h:laidMetH Tryz.prog Rows.fnExactChangeCatalogFieldKindRow.laid W):tabOk W:=by
 rw[MakeChecks.laidMetH_plain _ _ _ (by as_aux_lemma=>kernel_rfl)] at h;obtain ⟨ps,⟨g0,t0,cs0,f0,p0,q0,hg0,ht0,hv0,hd0,⟨g1,t1,cs1,f1,p1,q1,hg1,ht1,hv1,hd1,⟨g2,t2,cs2,f2,p2,q2,hg2,ht2,hv2,hd2,_,_⟩,_⟩,_⟩,_,_⟩:=h;obtain rfl:=Option.some.inj (gTab.symm.trans hg2);obtain rfl:=Option.some.inj (gType.symm.trans ht2);rw[Qda] at hd2;unfold tabOk Lib.TabIs;rw[hv2,←Lib.cells_of_tab Tryz.underlying251 Tryz.underlying236 (by as_aux_lemma=>kernel_rfl) (by as_aux_lemma=>kernel_rfl) hd2]
theorem Qdb:(Tryz.prog.globals[0]?).map (·.type)=some 206:=by kernel_rfl
theorem Qit : "*" ++ "errors.errorString" = "*errors.errorString" := by decide
theorem Qhu (u : TypeId) (h : Tryz.prog.typeName? 3 u = some "*errors.errorString") : u = 257 :=
 typeName_ptr_named (nm := "errors.errorString") (by rw [Qit]; kernel_rfl) (by kernel_rfl) (by decide) u (by rw [Qit]; exact h)
theorem FW {W:World} (h:laidMetH Tryz.prog Rows.fnExactChangeCatalogFieldKindRow.laid W):errOk W:=by
 rw[MakeChecks.laidMetH_plain _ _ _ (by as_aux_lemma=>kernel_rfl)] at h;obtain ⟨a0,s0,hv0,-,-,-⟩:=laid_sentinel (laidMet.tail (laidMet.tail (laidMet.tail (laidMet.tail (h))))) Qih Qdb Tryz.underlying206 Qhu Tryz.underlying257 Tryz.underlying259 rfl rfl Tryz.underlying9 (by as_aux_lemma=>kernel_rfl) (by as_aux_lemma=>kernel_rfl);exact ⟨_,_,hv0⟩
set_option maxRecDepth 100000 in
theorem Qhv (os:Os) (started:os.Started) (H:Type) (enc:TypeId×Value->H):
 ReturnsInHanded {} Tryz.checked os 3 .any (λw args=>(Rows.fnExactChangeCatalogFieldKindSpec.pre enc Tryz.prog Tryz.f3 [] false w args/\laidMetH Tryz.prog Rows.fnExactChangeCatalogFieldKindRow.laid w)/\sizedMet enc Tryz.prog Tryz.f3 (OpenSpec.ofChange Rows.fnExactChangeCatalogFieldKindSpec) false w args)
  (Rows.fnExactChangeCatalogFieldKindSpec.post enc Tryz.prog Tryz.f3 false true false false):=by
 refine returnsInHanded_of_change_and (C:=Tryz.checked) (X:=λw _=>laidMetH Tryz.prog Rows.fnExactChangeCatalogFieldKindRow.laid w) (λ_ _ _ hh h=>h.of_heap hh) own started (by as_aux_lemma=>kernel_rfl) Tryz.func3
  (ChangeSpec.witness_shaped (enc:=enc) (C:=Tryz.checked) (os:=os) (X:=λw _=>laidMetH Tryz.prog Rows.fnExactChangeCatalogFieldKindRow.laid w) false (World.doorLaid Tryz.prog 400 os) #[.agg #[.slice none 0 0,.slice none 0 0,.int .i64 0,.slice none 0 0,.slice none 0 0],.string ⟨#[]⟩,.int .i64 0] 8 rfl (World.shaped_of_RefB (by as_aux_lemma=>kernel_rfl) (by as_aux_lemma=>kernel_rfl)) (by as_aux_lemma=>kernel_rfl) (by as_aux_lemma=>kernel_rfl) (by as_aux_lemma=>kernel_rfl) (Qc9 os _)) ?_
 intro W base args ds gs before hval0 hW hcnd _ hL _;have hval:∀(j:Nat) t v,Tryz.f3.params[j]? =some t->args[j]? =some v->Value.okWide Tryz.prog W .any base t v:=hval0;have hW':=hW;obtain ⟨p,q,hA0,hV,rfl,hfz,hnd⟩:=hW;have hA:DataW.TrodAll enc Tryz.prog W 0 (λ_=>true) true Tryz.f3.params.toList args.toList ds p:=hA0;rw[Tryz.params3] at hA hval;obtain ⟨v0,vs0,d0,ds0,p0,q0,hargs,rfl,rfl,h0,r0⟩:=trodAll_cons hA;obtain ⟨v1,vs1,d1,ds1,p1,q1,rfl,rfl,rfl,h1,r1⟩:=trodAll_cons r0;obtain ⟨v2,vs2,d2,ds2,p2,q2,rfl,rfl,rfl,h2,r2⟩:=trodAll_cons r1;obtain ⟨rfl,rfl,rfl⟩:=trodAll_nil r2;obtain rfl:args= #[v0,v1,v2]:=by cases args;simp_all
 obtain ⟨rfl,rfl⟩:=trodVars_none hV;have k0:=h0;have lt0:=KQ k0;obtain ⟨c0,a0,rfl,w0⟩:=OE Tryz.underlying29 Qah (hval 0 29 v0 rfl rfl) h0;have k1:=h1;have lt1:=KQ k1;obtain ⟨a1,rfl,w1⟩:=Qgr Tryz.underlying9 (by as_aux_lemma=>kernel_rfl) (hval 1 9 v1 rfl rfl) h1;have k2:=h2;have lt2:=KQ k2;obtain ⟨a2,rfl,w2⟩:=Qgq Tryz.underlying3 (by as_aux_lemma=>kernel_rfl) (hval 2 3 v2 rfl rfl) h2;clear hA0 hval0;have hT:=Qgf hL;have hE:=FW hL;refine (Gn W c0 a0 w0 a1 w1 a2 w2 hT hE).mono λe W' ⟨he,bel⟩=> ?_
 subst he;exact ⟨_,rfl,_,_,_, [],_, [],hW',trodAll_mk1 (shut_bool Tryz.underlying4 _),(trodAll_cons_mk (Below.trod FV (by as_aux_lemma=>kernel_rfl) (of_decide_eq_true (by as_aux_lemma=>kernel_rfl)) k0 bel lt0) (trodAll_cons_mk (Below.trod FV (by as_aux_lemma=>kernel_rfl) (of_decide_eq_true (by as_aux_lemma=>kernel_rfl)) k1 bel lt1) (trodAll_cons_mk (Below.trod FV (by as_aux_lemma=>kernel_rfl) (of_decide_eq_true (by as_aux_lemma=>kernel_rfl)) k2 bel lt2) trodAll_mk0))),rfl,bel.frame _,λh=>by cases h⟩
theorem Qhw {a b:Bool} (h1:a=true) (h2:b=true):(a&&b)=true:=by rw[h1,h2];rfl
set_option maxHeartbeats 1000000 in
theorem Qgg:joinedFacts Tryz.pinned.checked.prog 3 Tryz.f3 Rows.fnExactChangeCatalogFieldKindSpec Rows.fnExactChangeCatalogFieldKindRow=true:=by
 unfold joinedFacts
 repeat' with_reducible apply Qhw
 all_goals (as_aux_lemma=>kernel_rfl)
set_option maxHeartbeats 1000000 in
theorem over:Rows.fnExactChangeCatalogFieldKindRow.holds Tryz.pinned (OpenSpec.ofChange Rows.fnExactChangeCatalogFieldKindSpec):=
 OpenClaim.holds_of_wide 3 Tryz.f3 rfl rfl rfl rfl rfl rfl rfl ⟨rfl,rfl,rfl,rfl,rfl⟩ rfl rfl rfl rfl rfl (by as_aux_lemma=>kernel_rfl) Tryz.func3 Qgg
  (of_decide_eq_true (by as_aux_lemma=>kernel_rfl)) (by unfold Func.isWrapper;rw[if_neg (by as_aux_lemma=>decide+kernel)];exact ⟨rfl,rfl⟩)
  (λos started H enc _=>Qhv os started H enc)
end fnExactChangeCatalogFieldKindDone
theorem Az:Rows.FnExactChangeCatalogFieldKindSaid:=fnExactChangeCatalogFieldKindDone.over
theorem fnExactChangeCatalogFieldKind_holds:Rows.FnExactChangeCatalogFieldKindCardSaid:=
 Claim7.holds_tied_plain_at .later [] [.data, .data, .data, .sentinel, .sentinel] true (true, "e2524ebb724e8693981d62b1da058762047d782fefbfff327421bfb49d4b6d79") true
  Az (λ_ h=>by cases h) (by as_aux_lemma=>kernel_rfl) (λ_ h=>by cases h) fnExactChangeCatalogFieldKind_row_tie rfl ⟨rfl,rfl⟩ (by as_aux_lemma=>kernel_rfl) rfl
  (λf fn hf hfn=>by
   obtain rfl:f=3:=Option.some.inj ((show Tryz.prog.funcNamed Rows.fnExactChangeCatalogFieldKindRow.func=some 3 by as_aux_lemma=>kernel_rfl).symm.trans hf) |>.symm
   obtain rfl:fn=Tryz.f3:=(Option.some.inj (Tryz.func3.symm.trans hfn)).symm
   exact ⟨(by as_aux_lemma=>kernel_rfl),λj t ht=>by
    rw[Tryz.params3] at ht;have hm:t∈ [29,9,3]:=by simpa using Array.mem_of_getElem? ht
    have hall:([29,9,3].all λu=> !Tryz.prog.wantsStandIn u)=true:=by as_aux_lemma=>kernel_rfl
    exact (show Tryz.prog.wantsStandIn t=false by simpa using List.all_eq_true.1 hall t hm)⟩)
  (by as_aux_lemma=>kernel_rfl)
end Go.Proofs.YtcfmffieckchiaaGreatDoor
