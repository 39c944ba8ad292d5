/- The statement FnPrivateChangesCardSaid: for every input the law returns true and its arguments read behind the call as they read before; the variables that its row lists are tied to the program's text. -/
import Derived.Test.YtgmlioidliojkaaGreatDoorP7
import Derived.Test.YtgmlioidliojkaaGreatDoorRows
import Derived.WalkKit
import Derived.ProofKit
import Derived.OpenShut
import Derived.ShutString
import Derived.ChangeOld
import Derived.Below
import Derived.Test.YtgmlioidliojkaaGreatDoorTie
import Derived.Test.YtgmlioidliojkaaGreatDoorCards
import Derived.SevenTiedAt
import Derived.LaidMore
import Derived.Stop.Joined
import Derived.Lib.LaidTab
set_option linter.unusedVariables false
set_option linter.unusedSimpArgs false
namespace Go.Proofs.YtgmlioidliojkaaGreatDoor
open Go.ChangeShapes Go.WideShapes Go.ChangeAt Go.RowKit
open GoD (rd own)
namespace fnPrivateChangesDone
theorem own:ownKnob Tryz.prog.godebug=none:=by kernel_rfl
theorem Qkv:laidOutB Tryz.prog=true:=by kernel_rfl
theorem Ql4:Opens Tryz.prog 5 UInt8:= .u8 Tryz.underlying5 (by as_aux_lemma=>kernel_rfl)
theorem Qkw:Opens Tryz.prog 22 (List UInt8):= .slice Tryz.underlying22 (by as_aux_lemma=>kernel_rfl) Ql4
theorem gType:(Tryz.prog.globals[0]?).map (·.type)=some 248:=by kernel_rfl
theorem Qhx (os:Os) (args:Array Value):laidMetH Tryz.prog Rows.fnPrivateChangesRow.laid ((World.doorLaid Tryz.prog 400 os).forCall (λ_ _=>0) ⟨#[],args, []⟩).memory:=
 laidMetH_of_parts3 (fuel:=8) (laidMet_of_run' 8 (by as_aux_lemma=>kernel_rfl) (by as_aux_lemma=>kernel_rfl)) (by as_aux_lemma=>kernel_rfl) (by as_aux_lemma=>kernel_rfl)
theorem Qhy:(Rows.laid_internal_strconv_uint64pow10:DataW Unit)=Lib.tabData .u64 Lib.pow10Tab:=by kernel_rfl
theorem Qkx {W:World} (h:laidMetH Tryz.prog Rows.fnPrivateChangesRow.laid W):tabOk W:=by
 rw[MakeChecks.laidMetH_plain _ _ _ (by as_aux_lemma=>kernel_rfl)] at h;obtain ⟨ps,⟨g0,t0,cs0,f0,p0,q0,hg0,ht0,hv0,hd0,⟨g1,t1,cs1,f1,p1,q1,hg1,ht1,hv1,hd1,⟨g2,t2,cs2,f2,p2,q2,hg2,ht2,hv2,hd2,_,_⟩,_⟩,_⟩,_,_⟩:=h;obtain rfl:=Option.some.inj (gTab.symm.trans hg2);obtain rfl:=Option.some.inj (gType.symm.trans ht2);rw[Qhy] at hd2;unfold tabOk Lib.TabIs;rw[hv2,←Lib.cells_of_tab Tryz.underlying248 Tryz.underlying224 (by as_aux_lemma=>kernel_rfl) (by as_aux_lemma=>kernel_rfl) hd2]
set_option maxRecDepth 100000 in
theorem Ql5 (os:Os) (started:os.Started) (H:Type) (enc:TypeId×Value->H):
 ReturnsInHanded {} Tryz.checked os 3 .any (λw args=>(Rows.fnPrivateChangesSpec.pre enc Tryz.prog Tryz.f3 [] false w args/\laidMetH Tryz.prog Rows.fnPrivateChangesRow.laid w)/\sizedMet enc Tryz.prog Tryz.f3 (OpenSpec.ofChange Rows.fnPrivateChangesSpec) false w args)
  (Rows.fnPrivateChangesSpec.post enc Tryz.prog Tryz.f3 false true false false):=by
 refine returnsInHanded_of_change_and (C:=Tryz.checked) (X:=λw _=>laidMetH Tryz.prog Rows.fnPrivateChangesRow.laid w) (λ_ _ _ hh h=>h.of_heap hh) own started (by as_aux_lemma=>kernel_rfl) Tryz.func3
  (ChangeSpec.witness_shaped (enc:=enc) (C:=Tryz.checked) (os:=os) (X:=λw _=>laidMetH Tryz.prog Rows.fnPrivateChangesRow.laid w) false (World.doorLaid Tryz.prog 400 os) #[.slice none 0 0] 8 rfl (World.shaped_of_RefB (by as_aux_lemma=>kernel_rfl) (by as_aux_lemma=>kernel_rfl)) (by as_aux_lemma=>kernel_rfl) (by as_aux_lemma=>kernel_rfl) (by as_aux_lemma=>kernel_rfl) (Qhx os _)) ?_
 intro W base args ds gs before hval0 hW hcnd _ hL _;have hval:∀(j:Nat) t v,Tryz.f3.params[j]? =some t->args[j]? =some v->Value.okWide Tryz.prog W .any base t v:=hval0;have hW':=hW;obtain ⟨p,q,hA0,hV,rfl,hfz,hnd⟩:=hW;have hA:DataW.TrodAll enc Tryz.prog W 0 (λ_=>true) true Tryz.f3.params.toList args.toList ds p:=hA0;rw[Tryz.params3] at hA hval;obtain ⟨v0,vs0,d0,ds0,p0,q0,hargs,rfl,rfl,h0,r0⟩:=trodAll_cons hA;obtain ⟨rfl,rfl,rfl⟩:=trodAll_nil r0;obtain rfl:args= #[v0]:=by cases args;simp_all
 obtain ⟨rfl,rfl⟩:=trodVars_none hV;have k0:=h0;have lt0:=Qfr k0;obtain ⟨a0,w0⟩:=Qfq Tryz.underlying22 Qkw (hval 0 22 v0 rfl rfl) h0;clear hA0 hval0;have hT:=Qkx hL;refine (VG W _ a0 w0 hT).mono λe W' ⟨he,bel⟩=> ?_
 subst he;exact ⟨_,rfl,_,_,_, [],_, [],hW',trodAll_mk1 (shut_bool Tryz.underlying4 _),(trodAll_cons_mk (Below.trod Qkv (by as_aux_lemma=>kernel_rfl) (of_decide_eq_true (by as_aux_lemma=>kernel_rfl)) k0 bel lt0) trodAll_mk0),rfl,bel.frame _,λh=>by cases h⟩
theorem Ql6 {a b:Bool} (h1:a=true) (h2:b=true):(a&&b)=true:=by rw[h1,h2];rfl
set_option maxHeartbeats 1000000 in
theorem Qky:joinedFacts Tryz.pinned.checked.prog 3 Tryz.f3 Rows.fnPrivateChangesSpec Rows.fnPrivateChangesRow=true:=by
 unfold joinedFacts
 repeat' with_reducible apply Ql6
 all_goals (as_aux_lemma=>kernel_rfl)
set_option maxHeartbeats 1000000 in
theorem over:Rows.fnPrivateChangesRow.holds Tryz.pinned (OpenSpec.ofChange Rows.fnPrivateChangesSpec):=
 OpenClaim.holds_of_wide 3 Tryz.f3 rfl rfl rfl rfl rfl rfl rfl ⟨rfl,rfl,rfl,rfl,rfl⟩ rfl rfl rfl rfl rfl (by as_aux_lemma=>kernel_rfl) Tryz.func3 Qky
  (of_decide_eq_true (by as_aux_lemma=>kernel_rfl)) (by unfold Func.isWrapper;rw[if_neg (by as_aux_lemma=>decide+kernel)];exact ⟨rfl,rfl⟩)
  (λos started H enc _=>Ql5 os started H enc)
end fnPrivateChangesDone
theorem Pc:Rows.FnPrivateChangesSaid:=fnPrivateChangesDone.over
theorem fnPrivateChanges_holds:Rows.FnPrivateChangesCardSaid:=
 Claim7.holds_tied_plain_at .later [] [.data, .data, .data] true (true, "a2635c85bbd28329965281a0f9cda6e15746995c0f938962f75cf48567f0696d") false
  Pc (λ_ h=>by cases h) (by as_aux_lemma=>kernel_rfl) (λ_ h=>by cases h) fnPrivateChanges_row_tie rfl ⟨rfl,rfl⟩ (by as_aux_lemma=>kernel_rfl) rfl
  (λf fn hf hfn=>by
   obtain rfl:f=3:=Option.some.inj ((show Tryz.prog.funcNamed Rows.fnPrivateChangesRow.func=some 3 by as_aux_lemma=>kernel_rfl).symm.trans hf) |>.symm
   obtain rfl:fn=Tryz.f3:=(Option.some.inj (Tryz.func3.symm.trans hfn)).symm
   exact ⟨(by as_aux_lemma=>kernel_rfl),λj t ht=>by
    rw[Tryz.params3] at ht;have hm:t∈ [22]:=by simpa using Array.mem_of_getElem? ht
    have hall:([22].all λu=> !Tryz.prog.wantsStandIn u)=true:=by as_aux_lemma=>kernel_rfl
    exact (show Tryz.prog.wantsStandIn t=false by simpa using List.all_eq_true.1 hall t hm)⟩)
  (by as_aux_lemma=>kernel_rfl)
end Go.Proofs.YtgmlioidliojkaaGreatDoor
