import Derived.Test.YtflgdeobcgmgnaaGreatDoorG11
import Derived.Test.YtflgdeobcgmgnaaGreatDoorG10
import Derived.Test.YtflgdeobcgmgnaaGreatDoorG9
import Derived.Test.YtflgdeobcgmgnaaGreatDoorAcD
import Derived.Test.YtflgdeobcgmgnaaGreatDoorTie
import Derived.Test.YtflgdeobcgmgnaaGreatDoorCards
/- The tied card of BookViews: whatever plain data come in,the law answers true,and its arguments read afterwards as before. Condition: the variables that the row lists begin as the text of the program lays them,which the card ties. -/
set_option autoImplicit false
namespace Go.Proofs.YtflgdeobcgmgnaaGreatDoor
open Go Go.Ab Go.ChangeShapes Go.WideShapes Go.ChangeAt Go.RowKit
set_option maxRecDepth 100000
abbrev nG:List (String×DataW Unit):=Rows.bookViewsRow.laid
theorem OC {H:Type} {enc:TypeId×Value→H}:∀(W:World) (base:Nat) (args:Array Value) (es gs:List (DataW H)) (before:List MemPlace),
   (∀(j:Nat) t v,Tryz.f8.params[j]?=some t→args[j]?=some v→Value.okWide Tryz.prog W .any base t v)→
   DataW.Whole enc Tryz.prog Tryz.f8.params.toList Rows.bookViewsSpec.vars false W args.toList es gs before→laidMetH Tryz.prog nG W→
   Calls Tryz.prog 8 args W fun e W'=>∃v,e=.returned v∧Rows.bookViewsSpec.post enc Tryz.prog Tryz.f8 false true false false W args v W':=
 Yu (CZ:=[(true,[.int .i64,.slc true Sm]),(true,[.int .i64,.slc true Sm]),(false,[.str]),(false,[.str]),(true,[.int .i64,.int .i64,.int .i64,.int .i64])]) laidOut (by kernel_rfl) Tryz.underlying4 rfl (fun es hl=>by
  obtain ⟨n,hn⟩:∃n,Tryz.f8.params.toList.length=n:=⟨_,rfl⟩
  have:n=5:=hn.symm.trans (by kernel_rfl)
  subst this
  rw[hn] at hl
  match es,hl with
  | [d0,d1,d2,d3,d4],_=>simp only[Rows.bookViewsSpec]) (by kernel_rfl)
  (fun W hL xs hx=>by
  obtain ⟨x0,_,rfl,⟨es0,rfl,hB0⟩,x1,_,rfl,⟨es1,rfl,hB1⟩,x2,_,rfl,⟨_,_,he2,⟨s,hs,rfl⟩,rfl⟩,x3,_,rfl,⟨_,_,he3,⟨t,ht,rfl⟩,rfl⟩,x4,_,rfl,⟨_,rfl,_,_,rfl,⟨r1,_,rfl⟩,_,_,rfl,⟨r2,_,rfl⟩,_,_,rfl,⟨r3,_,rfl⟩,_,_,rfl,⟨r4,_,rfl⟩,rfl⟩,rfl⟩:=hx
  simp only[List.cons.injEq,and_true] at he2 he3
  subst he2;subst he3
  obtain ⟨b,hb⟩:=Rq hB0
  obtain ⟨o,ho⟩:=Rq hB1
  refine(f8 h46 h63 (Qx (i:=2) hL (MakeChecks.laidMetH_plain _ _ _ (by kernel_rfl)) rfl) b o s t ⟨r1,r2,r3,r4⟩).args fun k=>?_
  exact DV.gU (hb k) (DV.gU (ho k) (DV.gU (fun _ h=>h) (DV.gU (fun _ h=>h) (DV.gU (fun _ h=>h) (fun _ h=>h))))))
theorem Nk (os:Os) (args:Array Value):laidMetH Tryz.prog nG ((World.doorLaid Tryz.prog 72 os).forCall (fun _ _=>0) ⟨#[],args,[]⟩).memory:=
 laidMetH_of_parts3 (fuel:=8) (laidMet_of_run' 8 (by kernel_rfl) (by kernel_rfl)) (by kernel_rfl) (by kernel_rfl)
theorem JF (os:Os) (started:os.Started) (H:Type) (enc:TypeId×Value→H) :
  ReturnsInHanded {} Tryz.checked os 8 .any (fun w args=>(Rows.bookViewsSpec.pre enc Tryz.prog Tryz.f8 [] false w args∧laidMetH Tryz.prog nG w)∧sizedMet enc Tryz.prog Tryz.f8 (OpenSpec.ofChange Rows.bookViewsSpec) false w args)
   (Rows.bookViewsSpec.post enc Tryz.prog Tryz.f8 false true false false):=
 returnsInHanded_of_change_and (C:=Tryz.checked) (X:=fun w _=>laidMetH Tryz.prog nG w) (fun _ _ _ hh h=>h.of_heap hh) own started (by kernel_rfl) Tryz.func8
  (ChangeSpec.witness_shaped (enc:=enc) (C:=Tryz.checked) (os:=os) (X:=fun w _=>laidMetH Tryz.prog nG w) false (World.doorLaid Tryz.prog 72 os) #[.agg #[.int .i64 0,.slice none 0 0],.agg #[.int .i64 0,.slice none 0 0],.string .empty,.string .empty,.agg #[.int .i64 0,.int .i64 0,.int .i64 0,.int .i64 0]] 8 rfl (World.shaped_of_RefB (by kernel_rfl) (by kernel_rfl)) (by kernel_rfl) (by kernel_rfl) (by kernel_rfl) (Nk os _))
  (fun W base args es gs before h1 h2 _ _ h3 _=>OC W base args es gs before h1 h2 h3)
theorem Jk:Rows.BookViewsSaid:=
 OpenClaim.holds_of_wide 8 Tryz.f8 rfl rfl rfl rfl rfl rfl rfl ⟨rfl,rfl,rfl,rfl,rfl⟩ rfl rfl rfl rfl rfl (by kernel_rfl) Tryz.func8 (by kernel_rfl)
  (dn (by kernel_rfl)) (by unfold Func.isWrapper;first|(rw[if_pos (by decide +kernel)];kernel_rfl)|(rw[if_neg (by decide +kernel)];exact⟨rfl,rfl⟩))
  (fun os started H enc _=>JF os started H enc)
theorem bookViews_card:Rows.BookViewsCardSaid:=
 Claim7.holds_tied_plain_at .later [] [.data, .data, .data] true (true, "da49b9daeadc30a33a1c0b500c0d0f177df8980835f03ddf59129a9bda471115") true
  Jk (fun _ h=>by cases h) (by kernel_rfl) (fun _ h=>by cases h) bookViews_row_tie rfl ⟨rfl,rfl⟩ (by kernel_rfl) rfl
  (fun f fn hf hfn=>by
   obtain rfl : f = 8 := Option.some.inj ((show Tryz.prog.funcNamed "assessor/assessorlaw55.BookViews" = some 8 by kernel_rfl).symm.trans hf) |>.symm
   obtain rfl:fn=Tryz.f8:=(Option.some.inj (Tryz.func8.symm.trans hfn)).symm
   exact⟨by kernel_rfl,fun j t ht=>by
    have hall:Tryz.f8.params.toList.all (fun t=>!Tryz.prog.wantsStandIn t)=true:=by kernel_rfl
    have hm:t∈Tryz.f8.params.toList:=by
     have:=Array.mem_of_getElem? ht
     simpa using this
    have:=List.all_eq_true.1 hall t hm
    show Tryz.prog.wantsStandIn t=false
    simpa using this⟩)
  (by kernel_rfl)
end Go.Proofs.YtflgdeobcgmgnaaGreatDoor
