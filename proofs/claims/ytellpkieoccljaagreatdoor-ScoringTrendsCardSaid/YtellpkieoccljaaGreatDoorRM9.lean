import Derived.Test.YtellpkieoccljaaGreatDoorG8
import Derived.Test.YtellpkieoccljaaGreatDoorG9
import Derived.Test.YtellpkieoccljaaGreatDoorG10
import Derived.Test.YtellpkieoccljaaGreatDoorAcD
import Derived.Test.YtellpkieoccljaaGreatDoorTie
import Derived.Test.YtellpkieoccljaaGreatDoorCards
/- The tied card of ScoringTrends: whatever plain data come in,the law answers true,and its arguments read afterwards as before. Condition: the variables that the row lists begin as the text of the program lays them,which the card ties. -/
set_option autoImplicit false
namespace Go.Proofs.YtellpkieoccljaaGreatDoor
open Go Go.Ab Go.ChangeShapes Go.WideShapes Go.ChangeAt Go.RowKit
set_option maxRecDepth 100000
abbrev BL:List (String×DataW Unit):=Rows.scoringTrendsRow.laid
theorem aa1 {H:Type} {enc:TypeId×Value→H}:∀(W:World) (base:Nat) (args:Array Value) (es gs:List (DataW H)) (before:List MemPlace),
   (∀(j:Nat) t v,Tryz.f9.params[j]?=some t→args[j]?=some v→Value.okWide Tryz.prog W .any base t v)→
   DataW.Whole enc Tryz.prog Tryz.f9.params.toList Rows.scoringTrendsSpec.vars false W args.toList es gs before→(DataW.weightsEach Tryz.prog (Tryz.f9.params.toList++Rows.scoringTrendsSpec.plain.varTypes Tryz.prog) (es++gs)).all (·≤reachBytes)=true→laidMetH Tryz.prog BL W→
   Calls Tryz.prog 9 args W fun e W'=>∃v,e=.returned v∧Rows.scoringTrendsSpec.post enc Tryz.prog Tryz.f9 false true false false W args v W':=
 xH.Qo (ow:=WO) (pI:=[(true,Xe),(false,[.slc true Xj]),(false,[.slc true Xy]),(false,[.int .u8]),(true,[.int .i64,.int .i64])]) laidOut (by kernel_rfl) Tryz.underlying4 rfl (fun es hl=>by
  obtain ⟨n,hn⟩:∃n,Tryz.f9.params.toList.length=n:=⟨_,rfl⟩
  have:n=5:=hn.symm.trans (by kernel_rfl)
  subst this
  rw[hn] at hl
  match es,hl with
  | [d0,d1,d2,d3,d4],_=>simp only[Rows.scoringTrendsSpec]) (by kernel_rfl) (fun _ _ _=>ab9)
  (fun W hL xs hx=>by
  obtain ⟨x0,_,rfl,⟨es0,rfl,hE⟩,x1,_,rfl,⟨_,_,he1,⟨n1,f1,hn1,rfl,hf1⟩,rfl⟩,x2,_,rfl,⟨_,_,he2,⟨n,f,hn,rfl,hf⟩,rfl⟩,x3,_,rfl,⟨_,_,he3,⟨q,hq,rfl⟩,rfl⟩,x4,_,rfl,⟨es4,rfl,_,_,rfl,⟨a,_,rfl⟩,_,_,rfl,⟨b,_,rfl⟩,rfl⟩,rfl⟩:=hx
  simp only[List.cons.injEq,and_true] at he1 he2 he3
  subst he1;subst he2;subst he3
  obtain ⟨x,m,hm,hwx,hex⟩:=ZO hE
  obtain ⟨F,rfl,hF'⟩:=YL hf1
  obtain ⟨L,rfl,hL',hW'⟩:=Uh hf
  rw[hex]
  refine(f9 (O9 (i:=2) hL (MakeChecks.laidMetH_plain _ _ _ (by kernel_rfl)) rfl) m x F L q a b hm hwx hn hn1 hW' (show IntKind.u8.min≤q∧q≤IntKind.u8.max by simpa [Lit.wf] using hq)).args fun k=>?_
  exact DV.fK (fun _ h=>h) (DV.fK (hF' k) (DV.fK (hL' k) (fun _ h=>h))))
theorem aaX (os:Os) (args:Array Value):laidMetH Tryz.prog BL ((World.doorLaid Tryz.prog 72 os).forCall (fun _ _=>0) ⟨#[],args,[]⟩).memory:=
 laidMetH_of_parts3 (fuel:=8) (laidMet_of_run' 8 (by kernel_rfl) (by kernel_rfl)) (by kernel_rfl) (by kernel_rfl)
theorem Y5 (os:Os) (started:os.Started) (H:Type) (enc:TypeId×Value→H) :
  ReturnsInHanded {} Tryz.checked os 9 .any (fun w args=>(Rows.scoringTrendsSpec.pre enc Tryz.prog Tryz.f9 [] false w args∧laidMetH Tryz.prog BL w)∧sizedMet enc Tryz.prog Tryz.f9 (OpenSpec.ofChange Rows.scoringTrendsSpec) false w args)
   (Rows.scoringTrendsSpec.post enc Tryz.prog Tryz.f9 false true false false):=
 returnsInHanded_of_change_and (C:=Tryz.checked) (X:=fun w _=>laidMetH Tryz.prog BL w) (fun _ _ _ hh h=>h.of_heap hh) own started (by kernel_rfl) Tryz.func9
  (ChangeSpec.witness_shaped (enc:=enc) (C:=Tryz.checked) (os:=os) (X:=fun w _=>laidMetH Tryz.prog BL w) false (World.doorLaid Tryz.prog 72 os) #[.agg #[.int .i64 0,.string .empty,.int .i64 0,.int .i64 0,.int .i64 0,.slice none 0 0],.slice none 0 0,.slice none 0 0,.int .u8 0,.agg #[.int .i64 0,.int .i64 0]] 8 rfl (World.shaped_of_RefB (by kernel_rfl) (by kernel_rfl)) (by kernel_rfl) (by kernel_rfl) (by kernel_rfl) (aaX os _))
  (fun W base args es gs before h1 h2 _ hwt h3 _=>aa1 W base args es gs before h1 h2 hwt h3)
theorem Y6:Rows.ScoringTrendsSaid:=
 OpenClaim.holds_of_wide 9 Tryz.f9 rfl rfl rfl rfl rfl rfl rfl ⟨rfl,rfl,rfl,rfl,rfl⟩ rfl rfl rfl rfl rfl (by kernel_rfl) Tryz.func9 (by kernel_rfl)
  (of_decide_eq_true (by kernel_rfl)) (by unfold Func.isWrapper;first|(rw[if_pos (by decide +kernel)];kernel_rfl)|(rw[if_neg (by decide +kernel)];exact⟨rfl,rfl⟩))
  (fun os started H enc _=>Y5 os started H enc)
theorem scoringTrends_card:Rows.ScoringTrendsCardSaid:=
 Claim7.holds_tied_plain_at .later [] [.data, .data, .data] true (true, "2e5233be03383ea9eade2d62f505cb2dd011c3eef1067e513501f73da3708047") true
  Y6 (fun _ h=>by cases h) (by kernel_rfl) (fun _ h=>by cases h) scoringTrends_row_tie rfl ⟨rfl,rfl⟩ (by kernel_rfl) rfl
  (fun f fn hf hfn=>by
   obtain rfl : f = 9 := Option.some.inj ((show Tryz.prog.funcNamed "assessor/assessorlaw49.ScoringTrends" = some 9 by kernel_rfl).symm.trans hf) |>.symm
   obtain rfl:fn=Tryz.f9:=(Option.some.inj (Tryz.func9.symm.trans hfn)).symm
   exact⟨by kernel_rfl,fun j t ht=>by
    have hall:Tryz.f9.params.toList.all (fun t=>!Tryz.prog.wantsStandIn t)=true:=by kernel_rfl
    have hm:t∈Tryz.f9.params.toList:=by
     have:=Array.mem_of_getElem? ht
     simpa using this
    have:=List.all_eq_true.1 hall t hm
    show Tryz.prog.wantsStandIn t=false
    simpa using this⟩)
  (by kernel_rfl)
end Go.Proofs.YtellpkieoccljaaGreatDoor
