/- The statement FnExactRecoverCardSaid: for every input the law returns true and its arguments read behind the call as they read before; the variables that its row lists are tied to the program's text. -/
import Derived.Test.YtkdnkiggkgakmaaGreatDoorP8
import Derived.Test.YtkdnkiggkgakmaaGreatDoorRows
import Derived.WalkKit
import Derived.ProofKit
import Derived.OpenShut
import Derived.ShutString
import Derived.ChangeOld
import Derived.Below
import Derived.Test.YtkdnkiggkgakmaaGreatDoorCards
import Derived.SevenTiedAt
import Derived.LaidMore
import Derived.Stop.Joined
import Derived.Lib.LaidTab
import Derived.Stop.LaidErr
import Derived.Lay
import Derived.Shelf.Vars
import Derived.Lib.Space
set_option linter.unusedVariables false
set_option linter.unusedSimpArgs false
namespace Go.Proofs.YtkdnkiggkgakmaaGreatDoor
open Go.ChangeShapes Go.WideShapes Go.ChangeAt Go.RowKit
open GoD (rd own)
namespace fnExactRecoverDone
theorem own:ownKnob Tryz.prog.godebug=none:=by kernel_rfl
theorem Qpu:laidOutB Tryz.prog=true:=by kernel_rfl
theorem I3:Opens Tryz.prog 9 ByteArray:= .str Tryz.underlying9 (by as_aux_lemma=>kernel_rfl)
theorem S0:Opens Tryz.prog 3 Int:= .int Tryz.underlying3 (by as_aux_lemma=>kernel_rfl)
theorem Qpv:Opens Tryz.prog 193 Y4:= .struct Tryz.underlying193 (by as_aux_lemma=>kernel_rfl) (.cons rfl I3 (.one rfl S0))
theorem Qmc:Opens Tryz.prog 22 (List Y4):= .slice Tryz.underlying22 (by as_aux_lemma=>kernel_rfl) Qpv
theorem Qry:Opens Tryz.prog 4 Bool:= .bool Tryz.underlying4 (by as_aux_lemma=>kernel_rfl)
theorem Qjk:Opens Tryz.prog 239 Va:= .struct Tryz.underlying239 (by as_aux_lemma=>kernel_rfl) (.cons rfl S0 (.cons rfl S0 (.one rfl I3)))
theorem Qrz:Opens Tryz.prog 271 Wv:= .struct Tryz.underlying271 (by as_aux_lemma=>kernel_rfl) (.cons rfl I3 (.one rfl Qjk))
theorem Qpw:Opens Tryz.prog 195 (List Wv):= .slice Tryz.underlying195 (by as_aux_lemma=>kernel_rfl) Qrz
theorem Qr0:Opens Tryz.prog 197 Yn:= .struct Tryz.underlying197 (by as_aux_lemma=>kernel_rfl) (.cons rfl S0 (.cons rfl S0 (.cons rfl Qry (.cons rfl S0 (.one rfl Qpw)))))
theorem Qpx:Opens Tryz.prog 23 (List Yn):= .slice Tryz.underlying23 (by as_aux_lemma=>kernel_rfl) Qr0
theorem Qjl:Opens Tryz.prog 25 Yl:= .struct Tryz.underlying25 (by as_aux_lemma=>kernel_rfl) (.cons rfl Qmc (.cons rfl Qpx (.one rfl S0)))
theorem Qr1:Opens Tryz.prog 241 Q9:= .struct Tryz.underlying241 (by as_aux_lemma=>kernel_rfl) (.cons rfl S0 (.cons rfl S0 (.cons rfl S0 (.cons rfl I3 (.one rfl Qjk)))))
theorem Qpy:Opens Tryz.prog 140 (List Q9):= .slice Tryz.underlying140 (by as_aux_lemma=>kernel_rfl) Qr1
theorem Qs6:Opens Tryz.prog 142 Zo:= .struct Tryz.underlying142 (by as_aux_lemma=>kernel_rfl) (.cons rfl I3 (.one rfl Qpy))
theorem Qng:Opens Tryz.prog 26 (List Zo):= .slice Tryz.underlying26 (by as_aux_lemma=>kernel_rfl) Qs6
theorem RP:Opens Tryz.prog 34 (List Int):= .slice Tryz.underlying34 (by as_aux_lemma=>kernel_rfl) S0
theorem Qmd:Opens Tryz.prog 145 Qo:= .struct Tryz.underlying145 (by as_aux_lemma=>kernel_rfl) (.cons rfl I3 (.one rfl RP))
theorem Qjm:Opens Tryz.prog 27 (List Qo):= .slice Tryz.underlying27 (by as_aux_lemma=>kernel_rfl) Qmd
theorem Qjn:Opens Tryz.prog 29 Wq:= .struct Tryz.underlying29 (by as_aux_lemma=>kernel_rfl) (.cons rfl Qjl (.cons rfl Qng (.one rfl Qjm)))
theorem Qr2:Opens Tryz.prog 31 N6:= .struct Tryz.underlying31 (by as_aux_lemma=>kernel_rfl) (.cons rfl I3 (.one rfl I3))
theorem Qe2:Opens Tryz.prog 98 Qw:= .struct Tryz.underlying98 (by as_aux_lemma=>kernel_rfl) (.cons rfl Qjl (.one rfl Qng))
theorem Qjo:Opens Tryz.prog 100 Ya:= .struct Tryz.underlying100 (by as_aux_lemma=>kernel_rfl) (.cons rfl S0 (.cons rfl Qe2 (.one rfl S0)))
theorem Qe3:Opens Tryz.prog 32 (List Ya):= .slice Tryz.underlying32 (by as_aux_lemma=>kernel_rfl) Qjo
theorem Qpz:Opens Tryz.prog 200 Kn:= .struct Tryz.underlying200 (by as_aux_lemma=>kernel_rfl) (.cons rfl S0 (.cons rfl RP (.one rfl RP)))
theorem Qme:Opens Tryz.prog 102 (List Kn):= .slice Tryz.underlying102 (by as_aux_lemma=>kernel_rfl) Qpz
theorem Qp0:Opens Tryz.prog 104 Zz:= .struct Tryz.underlying104 (by as_aux_lemma=>kernel_rfl) (.cons rfl S0 (.cons rfl I3 (.cons rfl RP (.one rfl Qme))))
theorem Qmf:Opens Tryz.prog 33 (List Zz):= .slice Tryz.underlying33 (by as_aux_lemma=>kernel_rfl) Qp0
theorem Qmg:Opens Tryz.prog 36 Jy:= .struct Tryz.underlying36 (by as_aux_lemma=>kernel_rfl) (.cons rfl Qjn (.cons rfl Qr2 (.cons rfl S0 (.cons rfl Qe3 (.cons rfl Qmf (.one rfl RP))))))
theorem Qmh:(Rows.laid_internal_strconv_uint64pow10:DataW Unit)=Lib.tabData .u64 Lib.pow10Tab:=by kernel_rfl
theorem Qp1:(Rows.laid_strings_asciiSpace:DataW Unit)=Lib.tabData .u8 Lib.asciiSpaceTab:=by kernel_rfl
theorem Qtg : "*" ++ "errors.errorString" = "*errors.errorString" := by decide
theorem Qr3 (u : TypeId) (h : Tryz.prog.typeName? 3 u = some "*errors.errorString") : u = 379 :=
 typeName_ptr_named (nm := "errors.errorString") (by rw [Qtg]; kernel_rfl) (by kernel_rfl) (by decide) u (by rw [Qtg]; exact h)
theorem Qc3 {P:Program} {W:World} {l:List (String×DataW Unit)} {n:String} {d e:DataW Unit} (h:laidMet P ((n,d)::l) W) (hd:d=e):laidMet P ((n,e)::l) W:=hd▸h
theorem Qp2 {W:World} (h:laidMetH Tryz.prog Rows.fnExactRecoverRow.laid W) (hs:W.ShapedOpen Tryz.prog):Good Tryz.prog W:=by
 rw[MakeChecks.laidMetH_plain _ _ _ (by as_aux_lemma=>kernel_rfl)] at h;refine ⟨λg hg=> ?_,λg hg=> ?_,λg hg=> ?_,λg hg=> ?_⟩
 · exact Lib.tabIs_of_head hg ((show (Tryz.prog.globals[6]?).map (·.type) = some 396 by kernel_rfl) ▸ (congrArg (fun k : Nat => (Tryz.prog.globals[k]?).map (·.type)) (Option.some.inj (hg.symm.trans (show Tryz.prog.globalNamed "internal/strconv.uint64pow10" = some 6 by kernel_rfl))))) Tryz.underlying396 Tryz.underlying354 (by as_aux_lemma => kernel_rfl) (by as_aux_lemma => kernel_rfl) (Qc3 (laidMet.tail (laidMet.tail (h))) Qmh)
 · obtain ⟨a0, s0, hv0, -, -, -⟩ := laid_sentinel (laidMet.tail (laidMet.tail (laidMet.tail (laidMet.tail (laidMet.tail (h)))))) (show Tryz.prog.globalNamed "strconv.ErrSyntax" = some 1 by kernel_rfl) (show (Tryz.prog.globals[1]?).map (·.type) = some 256 by kernel_rfl) Tryz.underlying256 Qr3 Tryz.underlying379 Tryz.underlying381 rfl rfl Tryz.underlying9 (by as_aux_lemma => kernel_rfl) (by as_aux_lemma => kernel_rfl)
   exact ⟨_,_,hv0⟩
 · obtain rfl := Option.some.inj ((show Tryz.prog.globalNamed "internal/bytealg.MaxLen" = some 0 by kernel_rfl).symm.trans hg)
   exact cell_of_shapedOpen_int (zero:= #[.int .i64 0]) (t:=3) hs (of_decide_eq_true (by as_aux_lemma=>kernel_rfl)) (by as_aux_lemma=>kernel_rfl) rfl (by as_aux_lemma=>kernel_rfl) (by as_aux_lemma=>kernel_rfl) Tryz.underlying3
 exact Lib.tabIs_of_head hg ((show (Tryz.prog.globals[5]?).map (·.type) = some 372 by kernel_rfl) ▸ (congrArg (fun k : Nat => (Tryz.prog.globals[k]?).map (·.type)) (Option.some.inj (hg.symm.trans (show Tryz.prog.globalNamed "strings.asciiSpace" = some 5 by kernel_rfl))))) Tryz.underlying372 Tryz.underlying5 (by as_aux_lemma => kernel_rfl) (by as_aux_lemma => kernel_rfl) (Qc3 (laidMet.tail (laidMet.tail (laidMet.tail (laidMet.tail (laidMet.tail (laidMet.tail (laidMet.tail (h)))))))) Qp1)
theorem wrap {H:Type} {enc:TypeId×Value->H} {a:Assume} {C:Checked} {os:Os} {f:FuncId} {fn:Func} {s:ChangeSpec} {conds:List PathCond} {apart fresh handsOn again:Bool} {X:World->Array Value->Prop}
 (hX:∀(w w':World) (args:Array Value),w.heap=w'.heap->X w args->X w' args)
 (own:ownKnob C.prog.godebug=none) (started:os.Started) (noInit:C.prog.inits.idxOf? f=none) (hfn:C.prog.funcs[f]? =some fn)
 (witness:∃(w:World) (tape:Tape) (i:Input),w.os=os/\(w.forCall tape i).Shaped C.prog/\i.vars= []/\Input.okWide C.prog (w.forCall tape i) .any w.heap.size f i/\
  ((s.pre enc C.prog fn conds apart (w.forCall tape i).memory i.args/\X (w.forCall tape i).memory i.args)/\sizedMet enc C.prog fn (OpenSpec.ofChange s) apart (w.forCall tape i).memory i.args)/\a.holds C.prog (lone (Frame.enter C.prog f i.args .normal) [] (w.forCall tape i)))
 (contract:∀(W:World) (base:Nat) (args:Array Value) (ds gs:List (DataW H)) (before:List MemPlace),
  (∀(j:Nat) t v,fn.params[j]? =some t->args[j]? =some v->Value.okWide C.prog W .any base t v)->
  DataW.Whole enc C.prog fn.params.toList s.vars apart W args.toList ds gs before->
  conds.all (PathCond.test C.prog ⟨fn.params.toList,ds,s.plain.varTypes C.prog,gs⟩)=true->X W args->W.ShapedOpen C.prog->
  Calls C.prog f args W λe W'=>∃v,e= .returned v/\s.post enc C.prog fn apart fresh handsOn again W args v W'):
 ReturnsInHanded a C os f .any (λw args=>(s.pre enc C.prog fn conds apart w args/\X w args)/\sizedMet enc C.prog fn (OpenSpec.ofChange s) apart w args) (s.post enc C.prog fn apart fresh handsOn again):=by
 refine returnsInHanded_of_calls own started noInit witness ?_;intro w tape i _ hsh _ hok hpre _;obtain ⟨_,_,_,fn',hfn',_,_,_,_,hval⟩:=hok;obtain rfl:=Option.some.inj (hfn'.symm.trans hfn);obtain ⟨⟨⟨ds,gs,before,hw,hc⟩,hx⟩,_⟩:=hpre;refine (contract (w.forCall tape i) w.heap.size i.args ds gs before hval (DataW.Whole.of_heap (w':=w.forCall tape i) (by rfl) hw) hc (hX _ _ _ (by rfl) hx) hsh).mono λe W' ⟨v,he,hp⟩=> ?_
 subst he;exact ChangeSpec.post_blind hp
theorem Qs7 (os:Os):(World.holding Tryz.prog os ⟨#[], #[], []⟩).layFits Tryz.prog Rows.fnExactRecoverRow.laid []=true:=by kernel_rfl
theorem Qp3 (os:Os):(World.holding Tryz.prog os ⟨#[], #[], []⟩).layIfaces Tryz.prog Rows.fnExactRecoverRow.laid (World.laidAll Tryz.prog os Rows.fnExactRecoverRow.laid)=true:=by kernel_rfl
theorem Qmi (os:Os) (args:Array Value):laidMetH Tryz.prog Rows.fnExactRecoverRow.laid ((World.laidAll Tryz.prog os Rows.fnExactRecoverRow.laid).forCall (λ_ _=>0) ⟨#[],args, []⟩).memory:=by
 rw[MakeChecks.laidMetH_plain _ _ _ (by as_aux_lemma=>kernel_rfl)];exact laidMet_laidAll (P:=Tryz.prog) (os:=os) (laid:=Rows.fnExactRecoverRow.laid) args (Qs7 os) (Qp3 os)
set_option maxHeartbeats 1000000 in
set_option maxRecDepth 100000 in
theorem Qr4 (os:Os) (started:os.Started) (H:Type) (enc:TypeId×Value->H):
 ReturnsInHanded {} Tryz.checked os 3 .any (λw args=>(Rows.fnExactRecoverSpec.pre enc Tryz.prog Tryz.f3 [] false w args/\laidMetH Tryz.prog Rows.fnExactRecoverRow.laid w)/\sizedMet enc Tryz.prog Tryz.f3 (OpenSpec.ofChange Rows.fnExactRecoverSpec) false w args)
  (Rows.fnExactRecoverSpec.post enc Tryz.prog Tryz.f3 false true false false):=by
 refine wrap (C:=Tryz.checked) (X:=λw _=>laidMetH Tryz.prog Rows.fnExactRecoverRow.laid w) (λ_ _ _ hh h=>h.of_heap hh) own started (by as_aux_lemma=>kernel_rfl) Tryz.func3
  (ChangeSpec.witness_shaped (enc:=enc) (C:=Tryz.checked) (os:=os) (X:=λw _=>laidMetH Tryz.prog Rows.fnExactRecoverRow.laid w) false (World.laidAll Tryz.prog os Rows.fnExactRecoverRow.laid) #[.agg #[.slice none 0 0,.slice none 0 0,.int .i64 0,.slice none 0 0,.slice none 0 0,.string ⟨#[]⟩,.string ⟨#[]⟩,.int .i64 0,.slice none 0 0,.slice none 0 0,.slice none 0 0]] 8 (World.laidAll_os _ _ _) (World.shaped_of_ZipB (by as_aux_lemma=>kernel_rfl) (by as_aux_lemma=>kernel_rfl)) (by as_aux_lemma=>kernel_rfl) (by as_aux_lemma=>kernel_rfl) (by as_aux_lemma=>kernel_rfl) (Qmi os _)) ?_
 intro W base args ds gs before hval0 hW hcnd hL hsh;have hval:∀(j:Nat) t v,Tryz.f3.params[j]? =some t->args[j]? =some v->Value.okWide Tryz.prog W .any base t v:=hval0;have hW':=hW;obtain ⟨p,q,hA0,hV,rfl,hfz,hnd⟩:=hW;have hA:DataW.TrodAll enc Tryz.prog W 0 (λ_=>true) true Tryz.f3.params.toList args.toList ds p:=hA0;rw[Tryz.params3] at hA hval;obtain ⟨v0,vs0,d0,ds0,p0,q0,hargs,rfl,rfl,h0,r0⟩:=trodAll_cons hA;obtain ⟨rfl,rfl,rfl⟩:=trodAll_nil r0;obtain rfl:args= #[v0]:=by cases args;simp_all
 obtain ⟨rfl,rfl⟩:=trodVars_none hV;have k0:=h0;have lt0:=Qj1 k0;obtain ⟨c0,a0,rfl,w0⟩:=Qff Tryz.underlying36 Qmg (hval 0 36 v0 rfl rfl) h0;clear hA0 hval0;have hG:=Qp2 hL hsh;refine (Qe1 W c0 a0 w0 hG).mono λe W' ⟨he,bel⟩=> ?_
 subst he;exact ⟨_,rfl,_,_,_, [],_, [],hW',trodAll_mk1 (shut_bool Tryz.underlying4 _),(trodAll_cons_mk (Below.trod Qpu (by as_aux_lemma=>kernel_rfl) (of_decide_eq_true (by as_aux_lemma=>kernel_rfl)) k0 bel lt0) trodAll_mk0),rfl,bel.frame _,λh=>by cases h⟩
theorem Qr5 {a b:Bool} (h1:a=true) (h2:b=true):(a&&b)=true:=by rw[h1,h2];rfl
set_option maxHeartbeats 20000000 in
theorem Qp4:joinedFacts Tryz.pinned.checked.prog 3 Tryz.f3 Rows.fnExactRecoverSpec Rows.fnExactRecoverRow=true:=by
 unfold joinedFacts
 repeat' with_reducible apply Qr5
 all_goals (as_aux_lemma=>kernel_rfl)
set_option maxHeartbeats 1000000 in
theorem over:Rows.fnExactRecoverRow.holds Tryz.pinned (OpenSpec.ofChange Rows.fnExactRecoverSpec):=
 OpenClaim.holds_of_wide 3 Tryz.f3 rfl rfl rfl rfl rfl rfl rfl ⟨rfl,rfl,rfl,rfl,rfl⟩ rfl rfl rfl rfl rfl (by as_aux_lemma=>kernel_rfl) Tryz.func3 Qp4
  (of_decide_eq_true (by as_aux_lemma=>kernel_rfl)) (by unfold Func.isWrapper;rw[if_neg (by as_aux_lemma=>decide+kernel)];exact ⟨rfl,rfl⟩)
  (λos started H enc _=>Qr4 os started H enc)
end fnExactRecoverDone
theorem Pa:Rows.FnExactRecoverSaid:=fnExactRecoverDone.over
theorem Qe4 {P:Program} {c:OpenClaim} {f:FuncId} (hf:P.funcNamed c.func=some f) (hs:c.start= .entering) (hA:((P.closure f).any λg=>(P.funcs[g]?).any Func.goes)=false) (hD:P.funcs.any Func.goes=false):false=c.goesBy P:=by
 simp only[OpenClaim.goesBy,Program.goesAt,Program.goesFrom,hf,hs,Option.any_some,Program.goes,hA,hD,Bool.and_false,Bool.or_false]
theorem Qr6:((Tryz.prog.closure 3).any λg=>(Tryz.prog.funcs[g]?).any Func.goes)=false:=by kernel_rfl
theorem Qr7:Tryz.prog.funcs.any Func.goes=false:=by kernel_rfl
theorem fnExactRecover_holds:Rows.FnExactRecoverCardSaid:=
 Claim7.holds_tied_plain_at .later [] [.data, .data, .data, .data, .sentinel, .sentinel, .listed, .data, .pinned] true (true, "cdabd7d0dfe7ad119c4ffc607388386178972ab66eb1b03ae3da6b98cf88d2c2") true
  Pa (λ_ h=>by cases h) (by as_aux_lemma=>kernel_rfl) (λ_ h=>by cases h) Po rfl ⟨rfl,rfl⟩ (by as_aux_lemma=>kernel_rfl) rfl
  (λf fn hf hfn=>by
   obtain rfl:f=3:=Option.some.inj ((show Tryz.prog.funcNamed Rows.fnExactRecoverRow.func=some 3 by as_aux_lemma=>kernel_rfl).symm.trans hf) |>.symm
   obtain rfl:fn=Tryz.f3:=(Option.some.inj (Tryz.func3.symm.trans hfn)).symm
   exact ⟨(by as_aux_lemma=>kernel_rfl),λj t ht=>by
    rw[Tryz.params3] at ht;have hm:t∈ [36]:=by simpa using Array.mem_of_getElem? ht
    have hall:([36].all λu=> !Tryz.prog.wantsStandIn u)=true:=by as_aux_lemma=>kernel_rfl
    exact (show Tryz.prog.wantsStandIn t=false by simpa using List.all_eq_true.1 hall t hm)⟩)
  (Qe4 (P:=Tryz.prog) (f:=3) (by as_aux_lemma=>kernel_rfl) rfl Qr6 Qr7)
end Go.Proofs.YtkdnkiggkgakmaaGreatDoor
