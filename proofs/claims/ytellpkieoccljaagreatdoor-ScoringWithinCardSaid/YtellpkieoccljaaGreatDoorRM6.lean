import Derived.Test.YtellpkieoccljaaGreatDoorG8
import Derived.Test.YtellpkieoccljaaGreatDoorG9
import Derived.Test.YtellpkieoccljaaGreatDoorAcD
import Derived.Test.YtellpkieoccljaaGreatDoorTie
import Derived.Test.YtellpkieoccljaaGreatDoorCards
/- The tied card of ScoringWithin: whatever plain data come in,the law answers true,and its arguments read afterwards as before. Condition: the variables that the row lists begin as the text of the program lays them,which the card ties. -/
set_option autoImplicit false
namespace Go.Proofs.YtellpkieoccljaaGreatDoor
open Go Go.Ab Go.ChangeShapes Go.WideShapes Go.ChangeAt Go.RowKit
set_option maxRecDepth 100000
abbrev BO:List (String×DataW Unit):=Rows.scoringWithinRow.laid
theorem aa0 {H:Type} {enc:TypeId×Value→H}:∀(W:World) (base:Nat) (args:Array Value) (es gs:List (DataW H)) (before:List MemPlace),
   (∀(j:Nat) t v,Tryz.f6.params[j]?=some t→args[j]?=some v→Value.okWide Tryz.prog W .any base t v)→
   DataW.Whole enc Tryz.prog Tryz.f6.params.toList Rows.scoringWithinSpec.vars false W args.toList es gs before→(DataW.weightsEach Tryz.prog (Tryz.f6.params.toList++Rows.scoringWithinSpec.plain.varTypes Tryz.prog) (es++gs)).all (·≤reachBytes)=true→laidMetH Tryz.prog BO W→
   Calls Tryz.prog 6 args W fun e W'=>∃v,e=.returned v∧Rows.scoringWithinSpec.post enc Tryz.prog Tryz.f6 false true false false W args v W':=
 xH.Qo (ow:=WO) (pI:=[(true,Xe),(false,[.slc true Xj]),(false,[.slc true Xy])]) laidOut (by kernel_rfl) Tryz.underlying4 rfl (fun es hl=>by
  obtain ⟨n,hn⟩:∃n,Tryz.f6.params.toList.length=n:=⟨_,rfl⟩
  have:n=3:=hn.symm.trans (by kernel_rfl)
  subst this
  rw[hn] at hl
  match es,hl with
  | [d0,d1,d2],_=>simp only[Rows.scoringWithinSpec]) (by kernel_rfl) (fun _ _ _=>ab9)
  (fun W hL xs hx=>by
  obtain ⟨x0,_,rfl,⟨es0,rfl,hE⟩,x1,_,rfl,⟨_,_,he1,⟨n1,f1,hn1,rfl,hf1⟩,rfl⟩,x2,_,rfl,⟨_,_,he2,⟨n,f,hn,rfl,hf⟩,rfl⟩,rfl⟩:=hx
  simp only[List.cons.injEq,and_true] at he1 he2
  subst he1;subst he2
  obtain ⟨x,m,hm,hwx,hex⟩:=ZO hE
  obtain ⟨F,rfl,hF'⟩:=YL hf1
  obtain ⟨L,rfl,hL',hW'⟩:=Uh hf
  rw[hex]
  refine(f6 (O9 (i:=2) hL (MakeChecks.laidMetH_plain _ _ _ (by kernel_rfl)) rfl) m x F L hm hwx hn hn1 hW').args fun k=>?_
  exact DV.fK (fun _ h=>h) (DV.fK (hF' k) (DV.fK (hL' k) (fun _ h=>h))))
theorem aaV (os:Os) (args:Array Value):laidMetH Tryz.prog BO ((World.doorLaid Tryz.prog 72 os).forCall (fun _ _=>0) ⟨#[],args,[]⟩).memory:=
 laidMetH_of_parts3 (fuel:=8) (laidMet_of_run' 8 (by kernel_rfl) (by kernel_rfl)) (by kernel_rfl) (by kernel_rfl)
theorem Y3 (os:Os) (started:os.Started) (H:Type) (enc:TypeId×Value→H) :
  ReturnsInHanded {} Tryz.checked os 6 .any (fun w args=>(Rows.scoringWithinSpec.pre enc Tryz.prog Tryz.f6 [] false w args∧laidMetH Tryz.prog BO w)∧sizedMet enc Tryz.prog Tryz.f6 (OpenSpec.ofChange Rows.scoringWithinSpec) false w args)
   (Rows.scoringWithinSpec.post enc Tryz.prog Tryz.f6 false true false false):=
 returnsInHanded_of_change_and (C:=Tryz.checked) (X:=fun w _=>laidMetH Tryz.prog BO w) (fun _ _ _ hh h=>h.of_heap hh) own started (by kernel_rfl) Tryz.func6
  (ChangeSpec.witness_shaped (enc:=enc) (C:=Tryz.checked) (os:=os) (X:=fun w _=>laidMetH Tryz.prog BO w) false (World.doorLaid Tryz.prog 72 os) #[.agg #[.int .i64 0,.string .empty,.int .i64 0,.int .i64 0,.int .i64 0,.slice none 0 0],.slice none 0 0,.slice none 0 0] 8 rfl (World.shaped_of_RefB (by kernel_rfl) (by kernel_rfl)) (by kernel_rfl) (by kernel_rfl) (by kernel_rfl) (aaV os _))
  (fun W base args es gs before h1 h2 _ hwt h3 _=>aa0 W base args es gs before h1 h2 hwt h3)
theorem Y4:Rows.ScoringWithinSaid:=
 OpenClaim.holds_of_wide 6 Tryz.f6 rfl rfl rfl rfl rfl rfl rfl ⟨rfl,rfl,rfl,rfl,rfl⟩ rfl rfl rfl rfl rfl (by kernel_rfl) Tryz.func6 (by kernel_rfl)
  (of_decide_eq_true (by kernel_rfl)) (by unfold Func.isWrapper;first|(rw[if_pos (by decide +kernel)];kernel_rfl)|(rw[if_neg (by decide +kernel)];exact⟨rfl,rfl⟩))
  (fun os started H enc _=>Y3 os started H enc)
theorem scoringWithin_card:Rows.ScoringWithinCardSaid:=
 Claim7.holds_tied_plain_at .later [] [.data, .data, .data] true (true, "2e5233be03383ea9eade2d62f505cb2dd011c3eef1067e513501f73da3708047") true
  Y4 (fun _ h=>by cases h) (by kernel_rfl) (fun _ h=>by cases h) scoringWithin_row_tie rfl ⟨rfl,rfl⟩ (by kernel_rfl) rfl
  (fun f fn hf hfn=>by
   obtain rfl : f = 6 := Option.some.inj ((show Tryz.prog.funcNamed "assessor/assessorlaw49.ScoringWithin" = some 6 by kernel_rfl).symm.trans hf) |>.symm
   obtain rfl:fn=Tryz.f6:=(Option.some.inj (Tryz.func6.symm.trans hfn)).symm
   exact⟨by kernel_rfl,fun j t ht=>by
    have hall:Tryz.f6.params.toList.all (fun t=>!Tryz.prog.wantsStandIn t)=true:=by kernel_rfl
    have hm:t∈Tryz.f6.params.toList:=by
     have:=Array.mem_of_getElem? ht
     simpa using this
    have:=List.all_eq_true.1 hall t hm
    show Tryz.prog.wantsStandIn t=false
    simpa using this⟩)
  (by kernel_rfl)
end Go.Proofs.YtellpkieoccljaaGreatDoor
