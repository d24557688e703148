import Derived.Test.YtflgdeobcgmgnaaGreatDoorG10
import Derived.Test.YtflgdeobcgmgnaaGreatDoorAcD
import Derived.Test.YtflgdeobcgmgnaaGreatDoorTie
import Derived.Test.YtflgdeobcgmgnaaGreatDoorCards
/- The tied card of BookCodes: whatever plain data come in,the law answers true,and its arguments read afterwards as before. Condition: the variables that the row lists begin as the text of the program lays them,which the card ties. -/
set_option autoImplicit false
namespace Go.Proofs.YtflgdeobcgmgnaaGreatDoor
open Go Go.Ab Go.ChangeShapes Go.WideShapes Go.ChangeAt Go.RowKit
set_option maxRecDepth 100000
abbrev nH:List (String×DataW Unit):=Rows.bookCodesRow.laid
theorem OL {H:Type} {enc:TypeId×Value→H}:∀(W:World) (base:Nat) (args:Array Value) (es gs:List (DataW H)) (before:List MemPlace),
   (∀(j:Nat) t v,Tryz.f9.params[j]?=some t→args[j]?=some v→Value.okWide Tryz.prog W .any base t v)→
   DataW.Whole enc Tryz.prog Tryz.f9.params.toList Rows.bookCodesSpec.vars false W args.toList es gs before→laidMetH Tryz.prog nH W→
   Calls Tryz.prog 9 args W fun e W'=>∃v,e=.returned v∧Rows.bookCodesSpec.post enc Tryz.prog Tryz.f9 false true false false W args v W':=
 Y7 (DJ:=[(true,[.int .i64,.str,.str,.int .i64,.int .i64,.int .i64,.int .i64,.str,.bool]),(false,[.str])]) laidOut (by kernel_rfl) Tryz.underlying4 rfl (fun es hl=>by
  obtain ⟨n,hn⟩:∃n,Tryz.f9.params.toList.length=n:=⟨_,rfl⟩
  have:n=2:=hn.symm.trans (by kernel_rfl)
  subst this
  rw[hn] at hl
  match es,hl with
  | [d0,d1],_=>simp only[Rows.bookCodesSpec]) (by kernel_rfl)
  (fun W hL xs hx=>by
  obtain ⟨x0,_,rfl,⟨_,rfl,_,_,rfl,⟨k1,_,rfl⟩,_,_,rfl,⟨k2,_,rfl⟩,_,_,rfl,⟨k3,_,rfl⟩,_,_,rfl,⟨k4,_,rfl⟩,_,_,rfl,⟨k5,_,rfl⟩,_,_,rfl,⟨k6,_,rfl⟩,_,_,rfl,⟨k7,_,rfl⟩,_,_,rfl,⟨k8,_,rfl⟩,_,_,rfl,⟨k9,rfl⟩,rfl⟩,x1,_,rfl,⟨_,_,he4,⟨D,hD,rfl⟩,rfl⟩,rfl⟩:=hx
  simp only[List.cons.injEq,and_true] at he4
  subst he4
  refine(f9 h46 (Qn (i:=2) hL (MakeChecks.laidMetH_plain _ _ _ (by kernel_rfl)) rfl) (Qk (i:=3) (j:=4) hL (MakeChecks.laidMetH_plain _ _ _ (by kernel_rfl)) rfl rfl) ⟨k1,⟨k2,k3,k4⟩,k5,k6,k7,k8,k9⟩ D hD).args fun k=>?_
  exact DV.jJ (fun _ h=>h) (DV.jJ (fun _ h=>h) (fun _ h=>h)))
theorem Nl (os:Os) (args:Array Value):laidMetH Tryz.prog nH ((World.doorLaid Tryz.prog 72 os).forCall (fun _ _=>0) ⟨#[],args,[]⟩).memory:=
 laidMetH_of_parts3 (fuel:=8) (laidMet_of_run' 8 (by kernel_rfl) (by kernel_rfl)) (by kernel_rfl) (by kernel_rfl)
theorem Jq (os:Os) (started:os.Started) (H:Type) (enc:TypeId×Value→H) :
  ReturnsInHanded {} Tryz.checked os 9 .any (fun w args=>(Rows.bookCodesSpec.pre enc Tryz.prog Tryz.f9 [] false w args∧laidMetH Tryz.prog nH w)∧sizedMet enc Tryz.prog Tryz.f9 (OpenSpec.ofChange Rows.bookCodesSpec) false w args)
   (Rows.bookCodesSpec.post enc Tryz.prog Tryz.f9 false true false false):=
 returnsInHanded_of_change_and (C:=Tryz.checked) (X:=fun w _=>laidMetH Tryz.prog nH w) (fun _ _ _ hh h=>h.of_heap hh) own started (by kernel_rfl) Tryz.func9
  (ChangeSpec.witness_shaped (enc:=enc) (C:=Tryz.checked) (os:=os) (X:=fun w _=>laidMetH Tryz.prog nH w) false (World.doorLaid Tryz.prog 72 os) #[.agg #[.int .i64 0,.string .empty,.string .empty,.int .i64 0,.int .i64 0,.int .i64 0,.int .i64 0,.string .empty,.bool false],.string .empty] 8 rfl (World.shaped_of_RefB (by kernel_rfl) (by kernel_rfl)) (by kernel_rfl) (by kernel_rfl) (by kernel_rfl) (Nl os _))
  (fun W base args es gs before h1 h2 _ _ h3 _=>OL W base args es gs before h1 h2 h3)
theorem JW:Rows.BookCodesSaid:=
 OpenClaim.holds_of_wide 9 Tryz.f9 rfl rfl rfl rfl rfl rfl rfl ⟨rfl,rfl,rfl,rfl,rfl⟩ rfl rfl rfl rfl rfl (by kernel_rfl) Tryz.func9 (by kernel_rfl)
  (dW (by kernel_rfl)) (by unfold Func.isWrapper;first|(rw[if_pos (by decide +kernel)];kernel_rfl)|(rw[if_neg (by decide +kernel)];exact⟨rfl,rfl⟩))
  (fun os started H enc _=>Jq os started H enc)
theorem bookCodes_card:Rows.BookCodesCardSaid:=
 Claim7.holds_tied_plain_at .later [] [.data, .data, .data, .sentinel, .sentinel] true (true, "da49b9daeadc30a33a1c0b500c0d0f177df8980835f03ddf59129a9bda471115") true
  JW (fun _ h=>by cases h) (by kernel_rfl) (fun _ h=>by cases h) bookCodes_row_tie rfl ⟨rfl,rfl⟩ (by kernel_rfl) rfl
  (fun f fn hf hfn=>by
   obtain rfl : f = 9 := Option.some.inj ((show Tryz.prog.funcNamed "assessor/assessorlaw55.BookCodes" = some 9 by kernel_rfl).symm.trans hf) |>.symm
   obtain rfl:fn=Tryz.f9:=(Option.some.inj (Tryz.func9.symm.trans hfn)).symm
   exact⟨by kernel_rfl,fun j t ht=>by
    have hall:Tryz.f9.params.toList.all (fun t=>!Tryz.prog.wantsStandIn t)=true:=by kernel_rfl
    have hm:t∈Tryz.f9.params.toList:=by
     have:=Array.mem_of_getElem? ht
     simpa using this
    have:=List.all_eq_true.1 hall t hm
    show Tryz.prog.wantsStandIn t=false
    simpa using this⟩)
  (by kernel_rfl)
end Go.Proofs.YtflgdeobcgmgnaaGreatDoor
