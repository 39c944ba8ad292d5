/- The statement FnExactIsRecoveryIdempotentCardSaid: for every input the law returns true and its arguments read behind the call as they read before; the variables that its row lists are tied to the program's text. -/
import Derived.Test.YteleondjndkpbaaGreatDoorP7
import Derived.Test.YteleondjndkpbaaGreatDoorRows
import Derived.WalkKit
import Derived.ProofKit
import Derived.OpenShut
import Derived.ShutString
import Derived.ChangeOld
import Derived.Below
import Derived.Test.YteleondjndkpbaaGreatDoorTie
import Derived.Test.YteleondjndkpbaaGreatDoorCards
import Derived.SevenTiedAt
import Derived.LaidMore
import Derived.Stop.Joined
import Derived.Lib.LaidTab
import Derived.Stop.LaidErr
import Derived.Lay
import Derived.Shelf.Vars
import Derived.Lib.Space
set_option linter.unusedVariables false
set_option linter.unusedSimpArgs false
namespace Go.Proofs.YteleondjndkpbaaGreatDoor
open Go.ChangeShapes Go.WideShapes Go.ChangeAt Go.RowKit
open GoD (rd own)
namespace fnExactIsRecoveryIdempotentDone
theorem own:ownKnob Tryz.prog.godebug=none:=by kernel_rfl
theorem Qnm:laidOutB Tryz.prog=true:=by kernel_rfl
theorem Im:Opens Tryz.prog 9 ByteArray:= .str Tryz.underlying9 (by as_aux_lemma=>kernel_rfl)
theorem Rw:Opens Tryz.prog 3 Int:= .int Tryz.underlying3 (by as_aux_lemma=>kernel_rfl)
theorem Qnn:Opens Tryz.prog 172 Y7:= .struct Tryz.underlying172 (by as_aux_lemma=>kernel_rfl) (.cons rfl Im (.one rfl Rw))
theorem Qj0:Opens Tryz.prog 22 (List Y7):= .slice Tryz.underlying22 (by as_aux_lemma=>kernel_rfl) Qnn
theorem Qpn:Opens Tryz.prog 4 Bool:= .bool Tryz.underlying4 (by as_aux_lemma=>kernel_rfl)
theorem Qg8:Opens Tryz.prog 221 K4:= .struct Tryz.underlying221 (by as_aux_lemma=>kernel_rfl) (.cons rfl Rw (.cons rfl Rw (.one rfl Im)))
theorem Qpo:Opens Tryz.prog 265 Ui:= .struct Tryz.underlying265 (by as_aux_lemma=>kernel_rfl) (.cons rfl Im (.one rfl Qg8))
theorem Qno:Opens Tryz.prog 174 (List Ui):= .slice Tryz.underlying174 (by as_aux_lemma=>kernel_rfl) Qpo
theorem Qpp:Opens Tryz.prog 176 Yj:= .struct Tryz.underlying176 (by as_aux_lemma=>kernel_rfl) (.cons rfl Rw (.cons rfl Rw (.cons rfl Qpn (.cons rfl Rw (.one rfl Qno)))))
theorem Qnp:Opens Tryz.prog 23 (List Yj):= .slice Tryz.underlying23 (by as_aux_lemma=>kernel_rfl) Qpp
theorem Qg9:Opens Tryz.prog 25 Yk:= .struct Tryz.underlying25 (by as_aux_lemma=>kernel_rfl) (.cons rfl Qj0 (.cons rfl Qnp (.one rfl Rw)))
theorem Qpq:Opens Tryz.prog 223 Q2:= .struct Tryz.underlying223 (by as_aux_lemma=>kernel_rfl) (.cons rfl Rw (.cons rfl Rw (.cons rfl Rw (.cons rfl Im (.one rfl Qg8)))))
theorem Qnq:Opens Tryz.prog 123 (List Q2):= .slice Tryz.underlying123 (by as_aux_lemma=>kernel_rfl) Qpq
theorem Qqu:Opens Tryz.prog 125 Zj:= .struct Tryz.underlying125 (by as_aux_lemma=>kernel_rfl) (.cons rfl Im (.one rfl Qnq))
theorem Qk6:Opens Tryz.prog 26 (List Zj):= .slice Tryz.underlying26 (by as_aux_lemma=>kernel_rfl) Qqu
theorem NT:Opens Tryz.prog 34 (List Int):= .slice Tryz.underlying34 (by as_aux_lemma=>kernel_rfl) Rw
theorem Qj1:Opens Tryz.prog 128 Qp:= .struct Tryz.underlying128 (by as_aux_lemma=>kernel_rfl) (.cons rfl Im (.one rfl NT))
theorem Qha:Opens Tryz.prog 27 (List Qp):= .slice Tryz.underlying27 (by as_aux_lemma=>kernel_rfl) Qj1
theorem Qhb:Opens Tryz.prog 29 U7:= .struct Tryz.underlying29 (by as_aux_lemma=>kernel_rfl) (.cons rfl Qg9 (.cons rfl Qk6 (.one rfl Qha)))
theorem Qpr:Opens Tryz.prog 31 Nh:= .struct Tryz.underlying31 (by as_aux_lemma=>kernel_rfl) (.cons rfl Im (.one rfl Im))
theorem Qcs:Opens Tryz.prog 81 Qq:= .struct Tryz.underlying81 (by as_aux_lemma=>kernel_rfl) (.cons rfl Qg9 (.one rfl Qk6))
theorem Qhc:Opens Tryz.prog 83 Yn:= .struct Tryz.underlying83 (by as_aux_lemma=>kernel_rfl) (.cons rfl Rw (.cons rfl Qcs (.one rfl Rw)))
theorem Qct:Opens Tryz.prog 32 (List Yn):= .slice Tryz.underlying32 (by as_aux_lemma=>kernel_rfl) Qhc
theorem Qnr:Opens Tryz.prog 179 K5:= .struct Tryz.underlying179 (by as_aux_lemma=>kernel_rfl) (.cons rfl Rw (.cons rfl NT (.one rfl NT)))
theorem Qj2:Opens Tryz.prog 85 (List K5):= .slice Tryz.underlying85 (by as_aux_lemma=>kernel_rfl) Qnr
theorem Qns:Opens Tryz.prog 87 Z7:= .struct Tryz.underlying87 (by as_aux_lemma=>kernel_rfl) (.cons rfl Rw (.cons rfl Im (.cons rfl NT (.one rfl Qj2))))
theorem Qj3:Opens Tryz.prog 33 (List Z7):= .slice Tryz.underlying33 (by as_aux_lemma=>kernel_rfl) Qns
theorem Qj4:Opens Tryz.prog 36 Jd:= .struct Tryz.underlying36 (by as_aux_lemma=>kernel_rfl) (.cons rfl Qhb (.cons rfl Qpr (.cons rfl Rw (.cons rfl Qct (.cons rfl Qj3 (.one rfl NT))))))
theorem Qj5:(Rows.laid_internal_strconv_uint64pow10:DataW Unit)=Lib.tabData .u64 Lib.pow10Tab:=by kernel_rfl
theorem Qnt:(Rows.laid_strings_asciiSpace:DataW Unit)=Lib.tabData .u8 Lib.asciiSpaceTab:=by kernel_rfl
theorem Qq6 : "*" ++ "errors.errorString" = "*errors.errorString" := by decide
theorem Qps (u : TypeId) (h : Tryz.prog.typeName? 3 u = some "*errors.errorString") : u = 381 :=
 typeName_ptr_named (nm := "errors.errorString") (by rw [Qq6]; kernel_rfl) (by kernel_rfl) (by decide) u (by rw [Qq6]; exact h)
theorem Qau {P:Program} {W:World} {l:List (String×DataW Unit)} {n:String} {d e:DataW Unit} (h:laidMet P ((n,d)::l) W) (hd:d=e):laidMet P ((n,e)::l) W:=hd▸h
theorem Qnu {W:World} (h:laidMetH Tryz.prog Rows.fnExactIsRecoveryIdempotentRow.laid W) (hs:W.ShapedOpen Tryz.prog):Good Tryz.prog W:=by
 rw[MakeChecks.laidMetH_plain _ _ _ (by as_aux_lemma=>kernel_rfl)] at h;refine ⟨λg hg=> ?_,λg hg=> ?_,λg hg=> ?_,λg hg=> ?_⟩
 · exact Lib.tabIs_of_head hg ((show (Tryz.prog.globals[0]?).map (·.type) = some 358 by kernel_rfl) ▸ (congrArg (fun k : Nat => (Tryz.prog.globals[k]?).map (·.type)) (Option.some.inj (hg.symm.trans (show Tryz.prog.globalNamed "internal/strconv.uint64pow10" = some 0 by kernel_rfl))))) Tryz.underlying358 Tryz.underlying313 (by as_aux_lemma => kernel_rfl) (by as_aux_lemma => kernel_rfl) (Qau (laidMet.tail (laidMet.tail (h))) Qj5)
 · obtain ⟨a0, s0, hv0, -, -, -⟩ := laid_sentinel (laidMet.tail (laidMet.tail (laidMet.tail (laidMet.tail (laidMet.tail (h)))))) (show Tryz.prog.globalNamed "strconv.ErrSyntax" = some 2 by kernel_rfl) (show (Tryz.prog.globals[2]?).map (·.type) = some 256 by kernel_rfl) Tryz.underlying256 Qps Tryz.underlying381 Tryz.underlying383 rfl rfl Tryz.underlying9 (by as_aux_lemma => kernel_rfl) (by as_aux_lemma => kernel_rfl)
   exact ⟨_,_,hv0⟩
 · obtain rfl := Option.some.inj ((show Tryz.prog.globalNamed "internal/bytealg.MaxLen" = some 1 by kernel_rfl).symm.trans hg)
   exact cell_of_shapedOpen_int (zero:= #[.int .i64 0]) (t:=3) hs (of_decide_eq_true (by as_aux_lemma=>kernel_rfl)) (by as_aux_lemma=>kernel_rfl) rfl (by as_aux_lemma=>kernel_rfl) (by as_aux_lemma=>kernel_rfl) Tryz.underlying3
 exact Lib.tabIs_of_head hg ((show (Tryz.prog.globals[6]?).map (·.type) = some 374 by kernel_rfl) ▸ (congrArg (fun k : Nat => (Tryz.prog.globals[k]?).map (·.type)) (Option.some.inj (hg.symm.trans (show Tryz.prog.globalNamed "strings.asciiSpace" = some 6 by kernel_rfl))))) Tryz.underlying374 Tryz.underlying5 (by as_aux_lemma => kernel_rfl) (by as_aux_lemma => kernel_rfl) (Qau (laidMet.tail (laidMet.tail (laidMet.tail (laidMet.tail (laidMet.tail (laidMet.tail (laidMet.tail (h)))))))) Qnt)
theorem wrap {H:Type} {enc:TypeId×Value->H} {a:Assume} {C:Checked} {os:Os} {f:FuncId} {fn:Func} {s:ChangeSpec} {conds:List PathCond} {apart fresh handsOn again:Bool} {X:World->Array Value->Prop}
 (hX:∀(w w':World) (args:Array Value),w.heap=w'.heap->X w args->X w' args)
 (own:ownKnob C.prog.godebug=none) (started:os.Started) (noInit:C.prog.inits.idxOf? f=none) (hfn:C.prog.funcs[f]? =some fn)
 (witness:∃(w:World) (tape:Tape) (i:Input),w.os=os/\(w.forCall tape i).Shaped C.prog/\i.vars= []/\Input.okWide C.prog (w.forCall tape i) .any w.heap.size f i/\
  ((s.pre enc C.prog fn conds apart (w.forCall tape i).memory i.args/\X (w.forCall tape i).memory i.args)/\sizedMet enc C.prog fn (OpenSpec.ofChange s) apart (w.forCall tape i).memory i.args)/\a.holds C.prog (lone (Frame.enter C.prog f i.args .normal) [] (w.forCall tape i)))
 (contract:∀(W:World) (base:Nat) (args:Array Value) (ds gs:List (DataW H)) (before:List MemPlace),
  (∀(j:Nat) t v,fn.params[j]? =some t->args[j]? =some v->Value.okWide C.prog W .any base t v)->
  DataW.Whole enc C.prog fn.params.toList s.vars apart W args.toList ds gs before->
  conds.all (PathCond.test C.prog ⟨fn.params.toList,ds,s.plain.varTypes C.prog,gs⟩)=true->X W args->W.ShapedOpen C.prog->
  Calls C.prog f args W λe W'=>∃v,e= .returned v/\s.post enc C.prog fn apart fresh handsOn again W args v W'):
 ReturnsInHanded a C os f .any (λw args=>(s.pre enc C.prog fn conds apart w args/\X w args)/\sizedMet enc C.prog fn (OpenSpec.ofChange s) apart w args) (s.post enc C.prog fn apart fresh handsOn again):=by
 refine returnsInHanded_of_calls own started noInit witness ?_;intro w tape i _ hsh _ hok hpre _;obtain ⟨_,_,_,fn',hfn',_,_,_,_,hval⟩:=hok;obtain rfl:=Option.some.inj (hfn'.symm.trans hfn);obtain ⟨⟨⟨ds,gs,before,hw,hc⟩,hx⟩,_⟩:=hpre;refine (contract (w.forCall tape i) w.heap.size i.args ds gs before hval (DataW.Whole.of_heap (w':=w.forCall tape i) (by rfl) hw) hc (hX _ _ _ (by rfl) hx) hsh).mono λe W' ⟨v,he,hp⟩=> ?_
 subst he;exact ChangeSpec.post_blind hp
theorem Qqv (os:Os):(World.holding Tryz.prog os ⟨#[], #[], []⟩).layFits Tryz.prog Rows.fnExactIsRecoveryIdempotentRow.laid []=true:=by kernel_rfl
theorem Qnv (os:Os):(World.holding Tryz.prog os ⟨#[], #[], []⟩).layIfaces Tryz.prog Rows.fnExactIsRecoveryIdempotentRow.laid (World.laidAll Tryz.prog os Rows.fnExactIsRecoveryIdempotentRow.laid)=true:=by kernel_rfl
theorem Qj6 (os:Os) (args:Array Value):laidMetH Tryz.prog Rows.fnExactIsRecoveryIdempotentRow.laid ((World.laidAll Tryz.prog os Rows.fnExactIsRecoveryIdempotentRow.laid).forCall (λ_ _=>0) ⟨#[],args, []⟩).memory:=by
 rw[MakeChecks.laidMetH_plain _ _ _ (by as_aux_lemma=>kernel_rfl)];exact laidMet_laidAll (P:=Tryz.prog) (os:=os) (laid:=Rows.fnExactIsRecoveryIdempotentRow.laid) args (Qqv os) (Qnv os)
set_option maxHeartbeats 1000000 in
set_option maxRecDepth 100000 in
theorem Qpt (os:Os) (started:os.Started) (H:Type) (enc:TypeId×Value->H):
 ReturnsInHanded {} Tryz.checked os 3 .any (λw args=>(Rows.fnExactIsRecoveryIdempotentSpec.pre enc Tryz.prog Tryz.f3 [] false w args/\laidMetH Tryz.prog Rows.fnExactIsRecoveryIdempotentRow.laid w)/\sizedMet enc Tryz.prog Tryz.f3 (OpenSpec.ofChange Rows.fnExactIsRecoveryIdempotentSpec) false w args)
  (Rows.fnExactIsRecoveryIdempotentSpec.post enc Tryz.prog Tryz.f3 false true false false):=by
 refine wrap (C:=Tryz.checked) (X:=λw _=>laidMetH Tryz.prog Rows.fnExactIsRecoveryIdempotentRow.laid w) (λ_ _ _ hh h=>h.of_heap hh) own started (by as_aux_lemma=>kernel_rfl) Tryz.func3
  (ChangeSpec.witness_shaped (enc:=enc) (C:=Tryz.checked) (os:=os) (X:=λw _=>laidMetH Tryz.prog Rows.fnExactIsRecoveryIdempotentRow.laid w) false (World.laidAll Tryz.prog os Rows.fnExactIsRecoveryIdempotentRow.laid) #[.agg #[.slice none 0 0,.slice none 0 0,.int .i64 0,.slice none 0 0,.slice none 0 0,.string ⟨#[]⟩,.string ⟨#[]⟩,.int .i64 0,.slice none 0 0,.slice none 0 0,.slice none 0 0]] 8 (World.laidAll_os _ _ _) (World.shaped_of_ZipB (by as_aux_lemma=>kernel_rfl) (by as_aux_lemma=>kernel_rfl)) (by as_aux_lemma=>kernel_rfl) (by as_aux_lemma=>kernel_rfl) (by as_aux_lemma=>kernel_rfl) (Qj6 os _)) ?_
 intro W base args ds gs before hval0 hW hcnd hL hsh;have hval:∀(j:Nat) t v,Tryz.f3.params[j]? =some t->args[j]? =some v->Value.okWide Tryz.prog W .any base t v:=hval0;have hW':=hW;obtain ⟨p,q,hA0,hV,rfl,hfz,hnd⟩:=hW;have hA:DataW.TrodAll enc Tryz.prog W 0 (λ_=>true) true Tryz.f3.params.toList args.toList ds p:=hA0;rw[Tryz.params3] at hA hval;obtain ⟨v0,vs0,d0,ds0,p0,q0,hargs,rfl,rfl,h0,r0⟩:=trodAll_cons hA;obtain ⟨rfl,rfl,rfl⟩:=trodAll_nil r0;obtain rfl:args= #[v0]:=by cases args;simp_all
 obtain ⟨rfl,rfl⟩:=trodVars_none hV;have k0:=h0;have lt0:=Qhp k0;obtain ⟨c0,a0,rfl,w0⟩:=Qc6 Tryz.underlying36 Qj4 (hval 0 36 v0 rfl rfl) h0;clear hA0 hval0;have hG:=Qnu hL hsh;refine (N7 W c0 a0 w0 hG).mono λe W' ⟨he,bel⟩=> ?_
 subst he;exact ⟨_,rfl,_,_,_, [],_, [],hW',trodAll_mk1 (shut_bool Tryz.underlying4 _),(trodAll_cons_mk (Below.trod Qnm (by as_aux_lemma=>kernel_rfl) (of_decide_eq_true (by as_aux_lemma=>kernel_rfl)) k0 bel lt0) trodAll_mk0),rfl,bel.frame _,λh=>by cases h⟩
theorem Qpu {a b:Bool} (h1:a=true) (h2:b=true):(a&&b)=true:=by rw[h1,h2];rfl
set_option maxHeartbeats 20000000 in
theorem Qnw:joinedFacts Tryz.pinned.checked.prog 3 Tryz.f3 Rows.fnExactIsRecoveryIdempotentSpec Rows.fnExactIsRecoveryIdempotentRow=true:=by
 unfold joinedFacts
 repeat' with_reducible apply Qpu
 all_goals (as_aux_lemma=>kernel_rfl)
set_option maxHeartbeats 1000000 in
theorem over:Rows.fnExactIsRecoveryIdempotentRow.holds Tryz.pinned (OpenSpec.ofChange Rows.fnExactIsRecoveryIdempotentSpec):=
 OpenClaim.holds_of_wide 3 Tryz.f3 rfl rfl rfl rfl rfl rfl rfl ⟨rfl,rfl,rfl,rfl,rfl⟩ rfl rfl rfl rfl rfl (by as_aux_lemma=>kernel_rfl) Tryz.func3 Qnw
  (of_decide_eq_true (by as_aux_lemma=>kernel_rfl)) (by unfold Func.isWrapper;rw[if_neg (by as_aux_lemma=>decide+kernel)];exact ⟨rfl,rfl⟩)
  (λos started H enc _=>Qpt os started H enc)
end fnExactIsRecoveryIdempotentDone
theorem C9:Rows.FnExactIsRecoveryIdempotentSaid:=fnExactIsRecoveryIdempotentDone.over
theorem Qcu {P:Program} {c:OpenClaim} {f:FuncId} (hf:P.funcNamed c.func=some f) (hs:c.start= .entering) (hA:((P.closure f).any λg=>(P.funcs[g]?).any Func.goes)=false) (hD:P.funcs.any Func.goes=false):false=c.goesBy P:=by
 simp only[OpenClaim.goesBy,Program.goesAt,Program.goesFrom,hf,hs,Option.any_some,Program.goes,hA,hD,Bool.and_false,Bool.or_false]
theorem Qpv:((Tryz.prog.closure 3).any λg=>(Tryz.prog.funcs[g]?).any Func.goes)=false:=by kernel_rfl
theorem Qpw:Tryz.prog.funcs.any Func.goes=false:=by kernel_rfl
theorem fnExactIsRecoveryIdempotent_holds:Rows.FnExactIsRecoveryIdempotentCardSaid:=
 Claim7.holds_tied_plain_at .later [] [.data, .data, .data, .data, .sentinel, .sentinel, .listed, .data, .pinned] true (true, "1f05dfc98781d4033af1eb8b0eab77ce640aae32aaa2a994c3b33affb64d22b1") true
  C9 (λ_ h=>by cases h) (by as_aux_lemma=>kernel_rfl) (λ_ h=>by cases h) fnExactIsRecoveryIdempotent_row_tie rfl ⟨rfl,rfl⟩ (by as_aux_lemma=>kernel_rfl) rfl
  (λf fn hf hfn=>by
   obtain rfl:f=3:=Option.some.inj ((show Tryz.prog.funcNamed Rows.fnExactIsRecoveryIdempotentRow.func=some 3 by as_aux_lemma=>kernel_rfl).symm.trans hf) |>.symm
   obtain rfl:fn=Tryz.f3:=(Option.some.inj (Tryz.func3.symm.trans hfn)).symm
   exact ⟨(by as_aux_lemma=>kernel_rfl),λj t ht=>by
    rw[Tryz.params3] at ht;have hm:t∈ [36]:=by simpa using Array.mem_of_getElem? ht
    have hall:([36].all λu=> !Tryz.prog.wantsStandIn u)=true:=by as_aux_lemma=>kernel_rfl
    exact (show Tryz.prog.wantsStandIn t=false by simpa using List.all_eq_true.1 hall t hm)⟩)
  (Qcu (P:=Tryz.prog) (f:=3) (by as_aux_lemma=>kernel_rfl) rfl Qpv Qpw)
end Go.Proofs.YteleondjndkpbaaGreatDoor
