/- The statement FnExactTransactionResultSaid: for every input the law returns true and its arguments read behind the call as they read before. -/
import Derived.Test.YtnnhlokdfkajnaaGreatP7
import Derived.Test.YtnnhlokdfkajnaaGreatRows
import Derived.WalkKit
import Derived.ProofKit
import Derived.OpenShut
import Derived.ShutString
import Derived.ChangeOld
import Derived.Below
set_option linter.unusedVariables false
set_option linter.unusedSimpArgs false
namespace Go.Proofs.YtnnhlokdfkajnaaGreat
open Go.ChangeShapes Go.WideShapes Go.ChangeAt Go.RowKit
open GoD (rd own)
namespace fnExactTransactionResultDone
theorem own:ownKnob Tryz.prog.godebug=none:=by kernel_rfl
theorem OD:laidOutB Tryz.prog=true:=by kernel_rfl
theorem Le:Opens Tryz.prog 9 ByteArray:= .str Tryz.underlying9 (by as_aux_lemma=>kernel_rfl)
theorem Pq:Opens Tryz.prog 3 Int:= .int Tryz.underlying3 (by as_aux_lemma=>kernel_rfl)
theorem Qkf:Opens Tryz.prog 216 Km:= .struct Tryz.underlying216 (by as_aux_lemma=>kernel_rfl) (.cons rfl Le (.one rfl Pq))
theorem Qhf:Opens Tryz.prog 22 (List Km):= .slice Tryz.underlying22 (by as_aux_lemma=>kernel_rfl) Qkf
theorem Qll:Opens Tryz.prog 4 Bool:= .bool Tryz.underlying4 (by as_aux_lemma=>kernel_rfl)
theorem Qes:Opens Tryz.prog 220 Dr:= .struct Tryz.underlying220 (by as_aux_lemma=>kernel_rfl) (.cons rfl Pq (.cons rfl Pq (.one rfl Le)))
theorem Qlm:Opens Tryz.prog 222 Ee:= .struct Tryz.underlying222 (by as_aux_lemma=>kernel_rfl) (.cons rfl Le (.one rfl Qes))
theorem Qkg:Opens Tryz.prog 73 (List Ee):= .slice Tryz.underlying73 (by as_aux_lemma=>kernel_rfl) Qlm
theorem Qii:Opens Tryz.prog 75 Xx:= .struct Tryz.underlying75 (by as_aux_lemma=>kernel_rfl) (.cons rfl Pq (.cons rfl Pq (.cons rfl Qll (.cons rfl Pq (.one rfl Qkg)))))
theorem Qkh:Opens Tryz.prog 23 (List Xx):= .slice Tryz.underlying23 (by as_aux_lemma=>kernel_rfl) Qii
theorem Qet:Opens Tryz.prog 25 Xr:= .struct Tryz.underlying25 (by as_aux_lemma=>kernel_rfl) (.cons rfl Qhf (.cons rfl Qkh (.one rfl Pq)))
theorem Qln:Opens Tryz.prog 225 Yz:= .struct Tryz.underlying225 (by as_aux_lemma=>kernel_rfl) (.cons rfl Pq (.cons rfl Pq (.cons rfl Pq (.cons rfl Le (.one rfl Qes)))))
theorem Qki:Opens Tryz.prog 76 (List Yz):= .slice Tryz.underlying76 (by as_aux_lemma=>kernel_rfl) Qln
theorem Qlo:Opens Tryz.prog 78 Yc:= .struct Tryz.underlying78 (by as_aux_lemma=>kernel_rfl) (.cons rfl Le (.one rfl Qki))
theorem Qij:Opens Tryz.prog 26 (List Yc):= .slice Tryz.underlying26 (by as_aux_lemma=>kernel_rfl) Qlo
theorem LD:Opens Tryz.prog 34 (List Int):= .slice Tryz.underlying34 (by as_aux_lemma=>kernel_rfl) Pq
theorem Qhg:Opens Tryz.prog 167 Qj:= .struct Tryz.underlying167 (by as_aux_lemma=>kernel_rfl) (.cons rfl Le (.one rfl LD))
theorem Qeu:Opens Tryz.prog 27 (List Qj):= .slice Tryz.underlying27 (by as_aux_lemma=>kernel_rfl) Qhg
theorem Qev:Opens Tryz.prog 29 Xj:= .struct Tryz.underlying29 (by as_aux_lemma=>kernel_rfl) (.cons rfl Qet (.cons rfl Qij (.one rfl Qeu)))
theorem Qlp:Opens Tryz.prog 31 SL:= .struct Tryz.underlying31 (by as_aux_lemma=>kernel_rfl) (.cons rfl Le (.one rfl Le))
theorem Qat:Opens Tryz.prog 119 Um:= .struct Tryz.underlying119 (by as_aux_lemma=>kernel_rfl) (.cons rfl Qet (.one rfl Qij))
theorem Qew:Opens Tryz.prog 121 Cy:= .struct Tryz.underlying121 (by as_aux_lemma=>kernel_rfl) (.cons rfl Pq (.cons rfl Qat (.one rfl Pq)))
theorem Qau:Opens Tryz.prog 32 (List Cy):= .slice Tryz.underlying32 (by as_aux_lemma=>kernel_rfl) Qew
theorem Qkj:Opens Tryz.prog 218 Nm:= .struct Tryz.underlying218 (by as_aux_lemma=>kernel_rfl) (.cons rfl Pq (.cons rfl LD (.one rfl LD)))
theorem Qhh:Opens Tryz.prog 123 (List Nm):= .slice Tryz.underlying123 (by as_aux_lemma=>kernel_rfl) Qkj
theorem Qkk:Opens Tryz.prog 125 Nn:= .struct Tryz.underlying125 (by as_aux_lemma=>kernel_rfl) (.cons rfl Pq (.cons rfl Le (.cons rfl LD (.one rfl Qhh))))
theorem Qhi:Opens Tryz.prog 33 (List Nn):= .slice Tryz.underlying33 (by as_aux_lemma=>kernel_rfl) Qkk
theorem Qhj:Opens Tryz.prog 36 Ab:= .struct Tryz.underlying36 (by as_aux_lemma=>kernel_rfl) (.cons rfl Qev (.cons rfl Qlp (.cons rfl Pq (.cons rfl Qau (.cons rfl Qhi (.one rfl LD))))))
theorem Qhk:Opens Tryz.prog 80 Kf:= .struct Tryz.underlying80 (by as_aux_lemma=>kernel_rfl) (.cons rfl Pq (.cons rfl Qii (.cons rfl Pq (.one rfl Qlo))))
theorem Qex:Opens Tryz.prog 37 (List Kf):= .slice Tryz.underlying37 (by as_aux_lemma=>kernel_rfl) Qhk
set_option maxRecDepth 100000 in
theorem Qlq (os:Os) (started:os.Started) (H:Type) (enc:TypeId×Value->H):ReturnsInHanded {} Tryz.checked os 3 .any (Rows.fnExactTransactionResultSpec.pre6 enc Tryz.prog Tryz.f3 Rows.fnExactTransactionResultRow.domain false) (Rows.fnExactTransactionResultSpec.post enc Tryz.prog Tryz.f3 false true false false):=by
 refine returnsInHanded_of_change (C:=Tryz.checked) own started (by as_aux_lemma=>kernel_rfl) Tryz.func3 (ChangeSpec.witness6 (enc:=enc) (C:=Tryz.checked) false ⟨#[], #[.agg #[.slice none 0 0,.slice none 0 0,.int .i64 0,.slice none 0 0,.slice none 0 0,.string ⟨#[]⟩,.string ⟨#[]⟩,.int .i64 0,.slice none 0 0,.slice none 0 0,.slice none 0 0],.int .i64 0,.slice none 0 0], []⟩ 8 (by as_aux_lemma=>kernel_rfl) (by as_aux_lemma=>kernel_rfl) (by as_aux_lemma=>kernel_rfl) (by as_aux_lemma=>kernel_rfl)) ?_;intro W base args ds gs before hval0 hW hcnd _;have hval:∀(j:Nat) t v,Tryz.f3.params[j]? =some t->args[j]? =some v->Value.okWide Tryz.prog W .any base t v:=hval0;have hW':=hW;obtain ⟨p,q,hA0,hV,rfl,hfz,hnd⟩:=hW;have hA:DataW.TrodAll enc Tryz.prog W 0 (λ_=>true) true Tryz.f3.params.toList args.toList ds p:=hA0;rw[Tryz.params3] at hA hval;obtain ⟨v0,vs0,d0,ds0,p0,q0,hargs,rfl,rfl,h0,r0⟩:=trodAll_cons hA;obtain ⟨v1,vs1,d1,ds1,p1,q1,rfl,rfl,rfl,h1,r1⟩:=trodAll_cons r0;obtain ⟨v2,vs2,d2,ds2,p2,q2,rfl,rfl,rfl,h2,r2⟩:=trodAll_cons r1;obtain ⟨rfl,rfl,rfl⟩:=trodAll_nil r2;obtain rfl:args= #[v0,v1,v2]:=by cases args;simp_all
 obtain ⟨rfl,rfl⟩:=trodVars_none hV;have k0:=h0;have lt0:=CH k0;obtain ⟨c0,a0,rfl,w0⟩:=Qa4 Tryz.underlying36 Qhj (hval 0 36 v0 rfl rfl) h0;have k1:=h1;have lt1:=CH k1;obtain ⟨a1,rfl,w1⟩:=Qkw Tryz.underlying3 (by as_aux_lemma=>kernel_rfl) (hval 1 3 v1 rfl rfl) h1;have k2:=h2;have lt2:=CH k2;obtain ⟨a2,w2⟩:=Qe8 Tryz.underlying37 Qex (hval 2 37 v2 rfl rfl) h2;clear hA0 hval0;refine (Sf W c0 a0 w0 a1 w1 _ a2 w2).mono λe W' ⟨he,bel⟩=> ?_
 subst he;exact ⟨_,rfl,_,_,_, [],_, [],hW',trodAll_mk1 (shut_bool Tryz.underlying4 _),(trodAll_cons_mk (Below.trod OD (by as_aux_lemma=>kernel_rfl) (of_decide_eq_true (by as_aux_lemma=>kernel_rfl)) k0 bel lt0) (trodAll_cons_mk (Below.trod OD (by as_aux_lemma=>kernel_rfl) (of_decide_eq_true (by as_aux_lemma=>kernel_rfl)) k1 bel lt1) (trodAll_cons_mk (Below.trod OD (by as_aux_lemma=>kernel_rfl) (of_decide_eq_true (by as_aux_lemma=>kernel_rfl)) k2 bel lt2) trodAll_mk0))),rfl,bel.frame _,λh=>by cases h⟩
theorem Qlr {a b:Bool} (h1:a=true) (h2:b=true):(a&&b)=true:=by rw[h1,h2];rfl
set_option maxHeartbeats 1000000 in
theorem Qkl:joinedFacts Tryz.pinned.checked.prog 3 Tryz.f3 Rows.fnExactTransactionResultSpec Rows.fnExactTransactionResultRow=true:=by
 unfold joinedFacts
 repeat' with_reducible apply Qlr
 all_goals (as_aux_lemma=>kernel_rfl)
set_option maxHeartbeats 1000000 in
theorem over:Rows.fnExactTransactionResultRow.holds Tryz.pinned (OpenSpec.ofChange Rows.fnExactTransactionResultSpec):=
 OpenClaim.holds_of_wide 3 Tryz.f3 rfl rfl rfl rfl rfl rfl rfl ⟨rfl,rfl,rfl,rfl,rfl⟩ rfl rfl rfl rfl rfl (by as_aux_lemma=>kernel_rfl) Tryz.func3 Qkl
  (of_decide_eq_true (by as_aux_lemma=>kernel_rfl)) (by unfold Func.isWrapper;rw[if_neg (by as_aux_lemma=>decide+kernel)];exact ⟨rfl,rfl⟩)
  (λos started H enc _=>Qlq os started H enc)
end fnExactTransactionResultDone
theorem fnExactTransactionResult_holds:Rows.FnExactTransactionResultSaid:=fnExactTransactionResultDone.over
end Go.Proofs.YtnnhlokdfkajnaaGreat
