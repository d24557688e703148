import Derived.Test.YtellpkieoccljaaGreatDoorG8
import Derived.Test.YtellpkieoccljaaGreatDoorG9
import Derived.Test.YtellpkieoccljaaGreatDoorG10
import Derived.Test.YtellpkieoccljaaGreatDoorAcD
import Derived.Test.YtellpkieoccljaaGreatDoorTie
import Derived.Test.YtellpkieoccljaaGreatDoorCards
/- The tied card of ScoringLines: whatever plain data come in,the law answers true,and its arguments read afterwards as before. Condition: the variables that the row lists begin as the text of the program lays them,which the card ties. -/
set_option autoImplicit false
namespace Go.Proofs.YtellpkieoccljaaGreatDoor
open Go Go.Ab Go.ChangeShapes Go.WideShapes Go.ChangeAt Go.RowKit
set_option maxRecDepth 100000
abbrev laidOfScoringLines:List (String×DataW Unit):=Rows.scoringLinesRow.laid
theorem conScoringLines {H:Type} {enc:TypeId×Value→H}:∀(W:World) (base:Nat) (args:Array Value) (es gs:List (DataW H)) (before:List MemPlace),
   (∀(j:Nat) t v,Tryz.f8.params[j]?=some t→args[j]?=some v→Value.okWide Tryz.prog W .any base t v)→
   DataW.Whole enc Tryz.prog Tryz.f8.params.toList Rows.scoringLinesSpec.vars false W args.toList es gs before→(DataW.weightsEach Tryz.prog (Tryz.f8.params.toList++Rows.scoringLinesSpec.plain.varTypes Tryz.prog) (es++gs)).all (·≤reachBytes)=true→laidMetH Tryz.prog laidOfScoringLines W→
   Calls Tryz.prog 8 args W fun e W'=>∃v,e=.returned v∧Rows.scoringLinesSpec.post enc Tryz.prog Tryz.f8 false true false false W args v W':=
 AbW.law_row (ow:=ow24) (shs:=[(false,[.slc true rlShW]),(false,[.slc true ftShW]),(false,[.slc true fcShW])]) laidOut (by kernel_rfl) Tryz.underlying4 rfl (fun es hl=>by
  obtain ⟨n,hn⟩:∃n,Tryz.f8.params.toList.length=n:=⟨_,rfl⟩
  have:n=3:=hn.symm.trans (by kernel_rfl)
  subst this
  rw[hn] at hl
  match es,hl with
  | [d0,d1,d2],_=>simp only[Rows.scoringLinesSpec]) (by kernel_rfl) (fun _ _ _=>how24)
  (fun W hL xs hx=>by
  obtain ⟨x0,_,rfl,⟨_,_,he0,⟨n0,f0,hn0,rfl,hf0⟩,rfl⟩,x1,_,rfl,⟨_,_,he1,⟨n1,f1,hn1,rfl,hf1⟩,rfl⟩,x2,_,rfl,⟨_,_,he2,⟨n,f,hn,rfl,hf⟩,rfl⟩,rfl⟩:=hx
  simp only[List.cons.injEq,and_true] at he0 he1 he2
  subst he0;subst he1;subst he2
  obtain ⟨R,rfl,hR',hRW⟩:=rules_ofW hf0
  obtain ⟨F,rfl,hF'⟩:=fts_ofW hf1
  obtain ⟨L,rfl,hL',hW'⟩:=facts_ofW hf
  refine(f8 (tab_of_laid (i:=2) hL (MakeChecks.laidMetH_plain _ _ _ (by kernel_rfl)) rfl) R F L hn hn1 hn0 hW' hRW).args fun k=>?_
  exact DV.rels_cons (hR' k) (DV.rels_cons (hF' k) (DV.rels_cons (hL' k) (fun _ h=>h))))
theorem doorScoringLines (os:Os) (args:Array Value):laidMetH Tryz.prog laidOfScoringLines ((World.doorLaid Tryz.prog 72 os).forCall (fun _ _=>0) ⟨#[],args,[]⟩).memory:=
 laidMetH_of_parts3 (fuel:=8) (laidMet_of_run' 8 (by kernel_rfl) (by kernel_rfl)) (by kernel_rfl) (by kernel_rfl)
theorem liftedScoringLines (os:Os) (started:os.Started) (H:Type) (enc:TypeId×Value→H) :
  ReturnsInHanded {} Tryz.checked os 8 .any (fun w args=>(Rows.scoringLinesSpec.pre enc Tryz.prog Tryz.f8 [] false w args∧laidMetH Tryz.prog laidOfScoringLines w)∧sizedMet enc Tryz.prog Tryz.f8 (OpenSpec.ofChange Rows.scoringLinesSpec) false w args)
   (Rows.scoringLinesSpec.post enc Tryz.prog Tryz.f8 false true false false):=
 returnsInHanded_of_change_and (C:=Tryz.checked) (X:=fun w _=>laidMetH Tryz.prog laidOfScoringLines w) (fun _ _ _ hh h=>h.of_heap hh) own started (by kernel_rfl) Tryz.func8
  (ChangeSpec.witness_shaped (enc:=enc) (C:=Tryz.checked) (os:=os) (X:=fun w _=>laidMetH Tryz.prog laidOfScoringLines w) false (World.doorLaid Tryz.prog 72 os) #[.slice none 0 0,.slice none 0 0,.slice none 0 0] 8 rfl (World.shaped_of_RefB (by kernel_rfl) (by kernel_rfl)) (by kernel_rfl) (by kernel_rfl) (by kernel_rfl) (doorScoringLines os _))
  (fun W base args es gs before h1 h2 _ hwt h3 _=>conScoringLines W base args es gs before h1 h2 hwt h3)
theorem scoringLines_holds:Rows.ScoringLinesSaid:=
 OpenClaim.holds_of_wide 8 Tryz.f8 rfl rfl rfl rfl rfl rfl rfl ⟨rfl,rfl,rfl,rfl,rfl⟩ rfl rfl rfl rfl rfl (by kernel_rfl) Tryz.func8 (by kernel_rfl)
  (oDt (by kernel_rfl)) (by unfold Func.isWrapper;first|(rw[if_pos (by decide +kernel)];kernel_rfl)|(rw[if_neg (by decide +kernel)];exact⟨rfl,rfl⟩))
  (fun os started H enc _=>liftedScoringLines os started H enc)
theorem scoringLines_card:Rows.ScoringLinesCardSaid:=
 Claim7.holds_tied_plain_at .later [] [.data, .data, .data] true (true, "2e5233be03383ea9eade2d62f505cb2dd011c3eef1067e513501f73da3708047") true
  scoringLines_holds (fun _ h=>by cases h) (by kernel_rfl) (fun _ h=>by cases h) scoringLines_row_tie rfl ⟨rfl,rfl⟩ (by kernel_rfl) rfl
  (fun f fn hf hfn=>by
   obtain rfl : f = 8 := Option.some.inj ((show Tryz.prog.funcNamed "assessor/assessorlaw49.ScoringLines" = some 8 by kernel_rfl).symm.trans hf) |>.symm
   obtain rfl:fn=Tryz.f8:=(Option.some.inj (Tryz.func8.symm.trans hfn)).symm
   exact⟨by kernel_rfl,fun j t ht=>by
    have hall:Tryz.f8.params.toList.all (fun t=>!Tryz.prog.wantsStandIn t)=true:=by kernel_rfl
    have hm:t∈Tryz.f8.params.toList:=by
     have:=Array.mem_of_getElem? ht
     simpa using this
    have:=List.all_eq_true.1 hall t hm
    show Tryz.prog.wantsStandIn t=false
    simpa using this⟩)
  (by kernel_rfl)
end Go.Proofs.YtellpkieoccljaaGreatDoor
