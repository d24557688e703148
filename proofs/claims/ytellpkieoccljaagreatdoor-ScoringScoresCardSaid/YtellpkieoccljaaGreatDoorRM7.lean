import Derived.Test.YtellpkieoccljaaGreatDoorG8
import Derived.Test.YtellpkieoccljaaGreatDoorG9
import Derived.Test.YtellpkieoccljaaGreatDoorG10
import Derived.Test.YtellpkieoccljaaGreatDoorAcD
import Derived.Test.YtellpkieoccljaaGreatDoorTie
import Derived.Test.YtellpkieoccljaaGreatDoorCards
/- The tied card of ScoringScores: whatever plain data come in,the law answers true,and its arguments read afterwards as before. Condition: the variables that the row lists begin as the text of the program lays them,which the card ties. -/
set_option autoImplicit false
namespace Go.Proofs.YtellpkieoccljaaGreatDoor
open Go Go.Ab Go.ChangeShapes Go.WideShapes Go.ChangeAt Go.RowKit
set_option maxRecDepth 100000
abbrev laidOfScoringScores:List (String×DataW Unit):=Rows.scoringScoresRow.laid
theorem conScoringScores {H:Type} {enc:TypeId×Value→H}:∀(W:World) (base:Nat) (args:Array Value) (es gs:List (DataW H)) (before:List MemPlace),
   (∀(j:Nat) t v,Tryz.f7.params[j]?=some t→args[j]?=some v→Value.okWide Tryz.prog W .any base t v)→
   DataW.Whole enc Tryz.prog Tryz.f7.params.toList Rows.scoringScoresSpec.vars false W args.toList es gs before→(DataW.weightsEach Tryz.prog (Tryz.f7.params.toList++Rows.scoringScoresSpec.plain.varTypes Tryz.prog) (es++gs)).all (·≤reachBytes)=true→laidMetH Tryz.prog laidOfScoringScores W→
   Calls Tryz.prog 7 args W fun e W'=>∃v,e=.returned v∧Rows.scoringScoresSpec.post enc Tryz.prog Tryz.f7 false true false false W args v W':=
 AbW.law_row (ow:=ow24) (shs:=[(false,[.slc true rlShW]),(false,[.slc true ftShW]),(false,[.slc true fcShW])]) laidOut (by kernel_rfl) Tryz.underlying4 rfl (fun es hl=>by
  obtain ⟨n,hn⟩:∃n,Tryz.f7.params.toList.length=n:=⟨_,rfl⟩
  have:n=3:=hn.symm.trans (by kernel_rfl)
  subst this
  rw[hn] at hl
  match es,hl with
  | [d0,d1,d2],_=>simp only[Rows.scoringScoresSpec]) (by kernel_rfl) (fun _ _ _=>how24)
  (fun W hL xs hx=>by
  obtain ⟨x0,_,rfl,⟨_,_,he0,⟨n0,f0,hn0,rfl,hf0⟩,rfl⟩,x1,_,rfl,⟨_,_,he1,⟨n1,f1,hn1,rfl,hf1⟩,rfl⟩,x2,_,rfl,⟨_,_,he2,⟨n,f,hn,rfl,hf⟩,rfl⟩,rfl⟩:=hx
  simp only[List.cons.injEq,and_true] at he0 he1 he2
  subst he0;subst he1;subst he2
  obtain ⟨R,rfl,hR',hRW⟩:=rules_ofW hf0
  obtain ⟨F,rfl,hF'⟩:=fts_ofW hf1
  obtain ⟨L,rfl,hL',hW'⟩:=facts_ofW hf
  refine(f7 (tab_of_laid (i:=2) hL (MakeChecks.laidMetH_plain _ _ _ (by kernel_rfl)) rfl) R F L hn hn1 hn0 hW' hRW).args fun k=>?_
  exact DV.rels_cons (hR' k) (DV.rels_cons (hF' k) (DV.rels_cons (hL' k) (fun _ h=>h))))
theorem doorScoringScores (os:Os) (args:Array Value):laidMetH Tryz.prog laidOfScoringScores ((World.doorLaid Tryz.prog 72 os).forCall (fun _ _=>0) ⟨#[],args,[]⟩).memory:=
 laidMetH_of_parts3 (fuel:=8) (laidMet_of_run' 8 (by kernel_rfl) (by kernel_rfl)) (by kernel_rfl) (by kernel_rfl)
theorem liftedScoringScores (os:Os) (started:os.Started) (H:Type) (enc:TypeId×Value→H) :
  ReturnsInHanded {} Tryz.checked os 7 .any (fun w args=>(Rows.scoringScoresSpec.pre enc Tryz.prog Tryz.f7 [] false w args∧laidMetH Tryz.prog laidOfScoringScores w)∧sizedMet enc Tryz.prog Tryz.f7 (OpenSpec.ofChange Rows.scoringScoresSpec) false w args)
   (Rows.scoringScoresSpec.post enc Tryz.prog Tryz.f7 false true false false):=
 returnsInHanded_of_change_and (C:=Tryz.checked) (X:=fun w _=>laidMetH Tryz.prog laidOfScoringScores w) (fun _ _ _ hh h=>h.of_heap hh) own started (by kernel_rfl) Tryz.func7
  (ChangeSpec.witness_shaped (enc:=enc) (C:=Tryz.checked) (os:=os) (X:=fun w _=>laidMetH Tryz.prog laidOfScoringScores w) false (World.doorLaid Tryz.prog 72 os) #[.slice none 0 0,.slice none 0 0,.slice none 0 0] 8 rfl (World.shaped_of_RefB (by kernel_rfl) (by kernel_rfl)) (by kernel_rfl) (by kernel_rfl) (by kernel_rfl) (doorScoringScores os _))
  (fun W base args es gs before h1 h2 _ hwt h3 _=>conScoringScores W base args es gs before h1 h2 hwt h3)
theorem scoringScores_holds:Rows.ScoringScoresSaid:=
 OpenClaim.holds_of_wide 7 Tryz.f7 rfl rfl rfl rfl rfl rfl rfl ⟨rfl,rfl,rfl,rfl,rfl⟩ rfl rfl rfl rfl rfl (by kernel_rfl) Tryz.func7 (by kernel_rfl)
  (oDt (by kernel_rfl)) (by unfold Func.isWrapper;first|(rw[if_pos (by decide +kernel)];kernel_rfl)|(rw[if_neg (by decide +kernel)];exact⟨rfl,rfl⟩))
  (fun os started H enc _=>liftedScoringScores os started H enc)
theorem scoringScores_card:Rows.ScoringScoresCardSaid:=
 Claim7.holds_tied_plain_at .later [] [.data, .data, .data] true (true, "2e5233be03383ea9eade2d62f505cb2dd011c3eef1067e513501f73da3708047") true
  scoringScores_holds (fun _ h=>by cases h) (by kernel_rfl) (fun _ h=>by cases h) scoringScores_row_tie rfl ⟨rfl,rfl⟩ (by kernel_rfl) rfl
  (fun f fn hf hfn=>by
   obtain rfl : f = 7 := Option.some.inj ((show Tryz.prog.funcNamed "assessor/assessorlaw49.ScoringScores" = some 7 by kernel_rfl).symm.trans hf) |>.symm
   obtain rfl:fn=Tryz.f7:=(Option.some.inj (Tryz.func7.symm.trans hfn)).symm
   exact⟨by kernel_rfl,fun j t ht=>by
    have hall:Tryz.f7.params.toList.all (fun t=>!Tryz.prog.wantsStandIn t)=true:=by kernel_rfl
    have hm:t∈Tryz.f7.params.toList:=by
     have:=Array.mem_of_getElem? ht
     simpa using this
    have:=List.all_eq_true.1 hall t hm
    show Tryz.prog.wantsStandIn t=false
    simpa using this⟩)
  (by kernel_rfl)
end Go.Proofs.YtellpkieoccljaaGreatDoor
