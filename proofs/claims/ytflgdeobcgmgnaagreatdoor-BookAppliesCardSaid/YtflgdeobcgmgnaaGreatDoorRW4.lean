import Derived.Test.YtflgdeobcgmgnaaGreatDoorG10
import Derived.Test.YtflgdeobcgmgnaaGreatDoorAcD
import Derived.Test.YtflgdeobcgmgnaaGreatDoorTie
import Derived.Test.YtflgdeobcgmgnaaGreatDoorCards
/- The tied card of BookApplies: whatever plain data come in,the law answers true,and its arguments read afterwards as before. Condition: the variables that the row lists begin as the text of the program lays them,which the card ties. -/
set_option autoImplicit false
namespace Go.Proofs.YtflgdeobcgmgnaaGreatDoor
open Go Go.Ab Go.ChangeShapes Go.WideShapes Go.ChangeAt Go.RowKit
set_option maxRecDepth 100000
abbrev laidOfBookApplies:List (String×DataW Unit):=Rows.bookAppliesRow.laid
theorem conBookApplies {H:Type} {enc:TypeId×Value→H}:∀(W:World) (base:Nat) (args:Array Value) (es gs:List (DataW H)) (before:List MemPlace),
   (∀(j:Nat) t v,Tryz.f4.params[j]?=some t→args[j]?=some v→Value.okWide Tryz.prog W .any base t v)→
   DataW.Whole enc Tryz.prog Tryz.f4.params.toList Rows.bookAppliesSpec.vars false W args.toList es gs before→laidMetH Tryz.prog laidOfBookApplies W→
   Calls Tryz.prog 4 args W fun e W'=>∃v,e=.returned v∧Rows.bookAppliesSpec.post enc Tryz.prog Tryz.f4 false true false false W args v W':=
 law_row (shs:=[(false,[.slc true [.int .i64,.str,.str,.int .i64,.int .i64,.int .i64,.int .i64,.str,.bool]]),(true,[.int .i64,.str,.str,.int .i64,.int .i64,.int .i64,.int .i64,.str,.bool])]) laidOut (by kernel_rfl) Tryz.underlying4 rfl (fun es hl=>by
  obtain ⟨n,hn⟩:∃n,Tryz.f4.params.toList.length=n:=⟨_,rfl⟩
  have:n=2:=hn.symm.trans (by kernel_rfl)
  subst this
  rw[hn] at hl
  match es,hl with
  | [d0,d1],_=>simp only[Rows.bookAppliesSpec]) (by kernel_rfl)
  (fun W hL xs hx=>by
  obtain ⟨x0,_,rfl,⟨_,_,he1,⟨n,f,hn,rfl,hf⟩,rfl⟩,x1,_,rfl,⟨_,rfl,_,_,rfl,⟨k1,_,rfl⟩,_,_,rfl,⟨k2,_,rfl⟩,_,_,rfl,⟨k3,_,rfl⟩,_,_,rfl,⟨k4,_,rfl⟩,_,_,rfl,⟨k5,_,rfl⟩,_,_,rfl,⟨k6,_,rfl⟩,_,_,rfl,⟨k7,_,rfl⟩,_,_,rfl,⟨k8,_,rfl⟩,_,_,rfl,⟨k9,rfl⟩,rfl⟩,rfl⟩:=hx
  simp only[List.cons.injEq,and_true] at he1
  subst he1
  obtain ⟨L,rfl,hL'⟩:=list_of (p:=fun i (x:Ev)=>f i=evD x) ev0 (fun i hi=>by
   obtain ⟨es,h1,_,_,rfl,⟨m1,_,rfl⟩,_,_,rfl,⟨m2,_,rfl⟩,_,_,rfl,⟨m3,_,rfl⟩,_,_,rfl,⟨m4,_,rfl⟩,_,_,rfl,⟨m5,_,rfl⟩,_,_,rfl,⟨m6,_,rfl⟩,_,_,rfl,⟨m7,_,rfl⟩,_,_,rfl,⟨m8,_,rfl⟩,_,_,rfl,⟨m9,rfl⟩,rfl⟩:=hf i hi
   exact⟨⟨m1,⟨m2,m3,m4⟩,m5,m6,m7,m8,m9⟩,h1⟩)
  refine(f4 h46 (tab_of_laid (i:=2) hL (MakeChecks.laidMetH_plain _ _ _ (by kernel_rfl)) rfl) L ⟨k1,⟨k2,k3,k4⟩,k5,k6,k7,k8,k9⟩ hn).args fun k=>?_
  exact DV.rels_cons (fun v h=>DV.rel_slc_congr hL' h) (DV.rels_cons (fun _ h=>h) (fun _ h=>h)))
theorem doorBookApplies (os:Os) (args:Array Value):laidMetH Tryz.prog laidOfBookApplies ((World.doorLaid Tryz.prog 72 os).forCall (fun _ _=>0) ⟨#[],args,[]⟩).memory:=
 laidMetH_of_parts3 (fuel:=8) (laidMet_of_run' 8 (by kernel_rfl) (by kernel_rfl)) (by kernel_rfl) (by kernel_rfl)
theorem liftedBookApplies (os:Os) (started:os.Started) (H:Type) (enc:TypeId×Value→H) :
  ReturnsInHanded {} Tryz.checked os 4 .any (fun w args=>(Rows.bookAppliesSpec.pre enc Tryz.prog Tryz.f4 [] false w args∧laidMetH Tryz.prog laidOfBookApplies w)∧sizedMet enc Tryz.prog Tryz.f4 (OpenSpec.ofChange Rows.bookAppliesSpec) false w args)
   (Rows.bookAppliesSpec.post enc Tryz.prog Tryz.f4 false true false false):=
 returnsInHanded_of_change_and (C:=Tryz.checked) (X:=fun w _=>laidMetH Tryz.prog laidOfBookApplies w) (fun _ _ _ hh h=>h.of_heap hh) own started (by kernel_rfl) Tryz.func4
  (ChangeSpec.witness_shaped (enc:=enc) (C:=Tryz.checked) (os:=os) (X:=fun w _=>laidMetH Tryz.prog laidOfBookApplies w) false (World.doorLaid Tryz.prog 72 os) #[.slice none 0 0,.agg #[.int .i64 0,.string .empty,.string .empty,.int .i64 0,.int .i64 0,.int .i64 0,.int .i64 0,.string .empty,.bool false]] 8 rfl (World.shaped_of_RefB (by kernel_rfl) (by kernel_rfl)) (by kernel_rfl) (by kernel_rfl) (by kernel_rfl) (doorBookApplies os _))
  (fun W base args es gs before h1 h2 _ _ h3 _=>conBookApplies W base args es gs before h1 h2 h3)
theorem bookApplies_holds:Rows.BookAppliesSaid:=
 OpenClaim.holds_of_wide 4 Tryz.f4 rfl rfl rfl rfl rfl rfl rfl ⟨rfl,rfl,rfl,rfl,rfl⟩ rfl rfl rfl rfl rfl (by kernel_rfl) Tryz.func4 (by kernel_rfl)
  (of_decide_eq_true (by kernel_rfl)) (by unfold Func.isWrapper;first|(rw[if_pos (by decide +kernel)];kernel_rfl)|(rw[if_neg (by decide +kernel)];exact⟨rfl,rfl⟩))
  (fun os started H enc _=>liftedBookApplies os started H enc)
theorem bookApplies_card:Rows.BookAppliesCardSaid:=
 Claim7.holds_tied_plain_at .later [] [.data, .data, .data] true (true, "da49b9daeadc30a33a1c0b500c0d0f177df8980835f03ddf59129a9bda471115") true
  bookApplies_holds (fun _ h=>by cases h) (by kernel_rfl) (fun _ h=>by cases h) bookApplies_row_tie rfl ⟨rfl,rfl⟩ (by kernel_rfl) rfl
  (fun f fn hf hfn=>by
   obtain rfl : f = 4 := Option.some.inj ((show Tryz.prog.funcNamed "assessor/assessorlaw55.BookApplies" = some 4 by kernel_rfl).symm.trans hf) |>.symm
   obtain rfl:fn=Tryz.f4:=(Option.some.inj (Tryz.func4.symm.trans hfn)).symm
   exact⟨by kernel_rfl,fun j t ht=>by
    have hall:Tryz.f4.params.toList.all (fun t=>!Tryz.prog.wantsStandIn t)=true:=by kernel_rfl
    have hm:t∈Tryz.f4.params.toList:=by
     have:=Array.mem_of_getElem? ht
     simpa using this
    have:=List.all_eq_true.1 hall t hm
    show Tryz.prog.wantsStandIn t=false
    simpa using this⟩)
  (by kernel_rfl)
end Go.Proofs.YtflgdeobcgmgnaaGreatDoor
