import Derived.Test.YtflgdeobcgmgnaaGreatDoorG6
import Derived.Test.YtflgdeobcgmgnaaGreatDoorAcD
import Derived.Test.YtflgdeobcgmgnaaGreatDoorTie
import Derived.Test.YtflgdeobcgmgnaaGreatDoorCards
/- The tied card of BookReplays: whatever plain data come in,the law answers true,and its arguments read afterwards as before. Condition: the variables that the row lists begin as the text of the program lays them,which the card ties. -/
set_option autoImplicit false
namespace Go.Proofs.YtflgdeobcgmgnaaGreatDoor
open Go Go.Ab Go.ChangeShapes Go.WideShapes Go.ChangeAt Go.RowKit
set_option maxRecDepth 100000
abbrev laidOfBookReplays:List (String×DataW Unit):=Rows.bookReplaysRow.laid
theorem conBookReplays {H:Type} {enc:TypeId×Value→H}:∀(W:World) (base:Nat) (args:Array Value) (es gs:List (DataW H)) (before:List MemPlace),
   (∀(j:Nat) t v,Tryz.f10.params[j]?=some t→args[j]?=some v→Value.okWide Tryz.prog W .any base t v)→
   DataW.Whole enc Tryz.prog Tryz.f10.params.toList Rows.bookReplaysSpec.vars false W args.toList es gs before→laidMetH Tryz.prog laidOfBookReplays W→
   Calls Tryz.prog 10 args W fun e W'=>∃v,e=.returned v∧Rows.bookReplaysSpec.post enc Tryz.prog Tryz.f10 false true false false W args v W':=
 law_row (shs:=[(false,[.slc true [.int .i64,.str,.str,.int .i64,.int .i64,.int .i64,.int .i64,.str,.bool]])]) laidOut (by kernel_rfl) Tryz.underlying4 rfl (fun es hl=>by
  obtain ⟨n,hn⟩:∃n,Tryz.f10.params.toList.length=n:=⟨_,rfl⟩
  have:n=1:=hn.symm.trans (by kernel_rfl)
  subst this
  rw[hn] at hl
  match es,hl with
  | [d0],_=>simp only[Rows.bookReplaysSpec]) (by kernel_rfl)
  (fun W hL xs hx=>by
  obtain ⟨x0,_,rfl,⟨_,_,he1,⟨n,f,hn,rfl,hf⟩,rfl⟩,rfl⟩:=hx
  simp only[List.cons.injEq,and_true] at he1
  subst he1
  obtain ⟨L,rfl,hL'⟩:=list_of (p:=fun i (x:Ev)=>f i=evD x) ev0 (fun i hi=>by
   obtain ⟨es,h1,_,_,rfl,⟨m1,_,rfl⟩,_,_,rfl,⟨m2,_,rfl⟩,_,_,rfl,⟨m3,_,rfl⟩,_,_,rfl,⟨m4,_,rfl⟩,_,_,rfl,⟨m5,_,rfl⟩,_,_,rfl,⟨m6,_,rfl⟩,_,_,rfl,⟨m7,_,rfl⟩,_,_,rfl,⟨m8,_,rfl⟩,_,_,rfl,⟨m9,rfl⟩,rfl⟩:=hf i hi
   exact⟨⟨m1,⟨m2,m3,m4⟩,m5,m6,m7,m8,m9⟩,h1⟩)
  refine(f10 (tab_of_laid (i:=2) hL (MakeChecks.laidMetH_plain _ _ _ (by kernel_rfl)) rfl) (errs_of_laid (i:=3) (j:=4) hL (MakeChecks.laidMetH_plain _ _ _ (by kernel_rfl)) rfl rfl) L hn).args fun k=>?_
  exact DV.rels_cons (fun v h=>DV.rel_slc_congr hL' h) (fun _ h=>h))
theorem doorBookReplays (os:Os) (args:Array Value):laidMetH Tryz.prog laidOfBookReplays ((World.doorLaid Tryz.prog 72 os).forCall (fun _ _=>0) ⟨#[],args,[]⟩).memory:=
 laidMetH_of_parts3 (fuel:=8) (laidMet_of_run' 8 (by kernel_rfl) (by kernel_rfl)) (by kernel_rfl) (by kernel_rfl)
theorem liftedBookReplays (os:Os) (started:os.Started) (H:Type) (enc:TypeId×Value→H) :
  ReturnsInHanded {} Tryz.checked os 10 .any (fun w args=>(Rows.bookReplaysSpec.pre enc Tryz.prog Tryz.f10 [] false w args∧laidMetH Tryz.prog laidOfBookReplays w)∧sizedMet enc Tryz.prog Tryz.f10 (OpenSpec.ofChange Rows.bookReplaysSpec) false w args)
   (Rows.bookReplaysSpec.post enc Tryz.prog Tryz.f10 false true false false):=
 returnsInHanded_of_change_and (C:=Tryz.checked) (X:=fun w _=>laidMetH Tryz.prog laidOfBookReplays w) (fun _ _ _ hh h=>h.of_heap hh) own started (by kernel_rfl) Tryz.func10
  (ChangeSpec.witness_shaped (enc:=enc) (C:=Tryz.checked) (os:=os) (X:=fun w _=>laidMetH Tryz.prog laidOfBookReplays w) false (World.doorLaid Tryz.prog 72 os) #[.slice none 0 0] 8 rfl (World.shaped_of_RefB (by kernel_rfl) (by kernel_rfl)) (by kernel_rfl) (by kernel_rfl) (by kernel_rfl) (doorBookReplays os _))
  (fun W base args es gs before h1 h2 _ _ h3 _=>conBookReplays W base args es gs before h1 h2 h3)
theorem bookReplays_holds:Rows.BookReplaysSaid:=
 OpenClaim.holds_of_wide 10 Tryz.f10 rfl rfl rfl rfl rfl rfl rfl ⟨rfl,rfl,rfl,rfl,rfl⟩ rfl rfl rfl rfl rfl (by kernel_rfl) Tryz.func10 (by kernel_rfl)
  (of_decide_eq_true (by kernel_rfl)) (by unfold Func.isWrapper;first|(rw[if_pos (by decide +kernel)];kernel_rfl)|(rw[if_neg (by decide +kernel)];exact⟨rfl,rfl⟩))
  (fun os started H enc _=>liftedBookReplays os started H enc)
theorem bookReplays_card:Rows.BookReplaysCardSaid:=
 Claim7.holds_tied_plain_at .later [] [.data, .data, .data, .sentinel, .sentinel] true (true, "da49b9daeadc30a33a1c0b500c0d0f177df8980835f03ddf59129a9bda471115") true
  bookReplays_holds (fun _ h=>by cases h) (by kernel_rfl) (fun _ h=>by cases h) bookReplays_row_tie rfl ⟨rfl,rfl⟩ (by kernel_rfl) rfl
  (fun f fn hf hfn=>by
   obtain rfl : f = 10 := Option.some.inj ((show Tryz.prog.funcNamed "assessor/assessorlaw55.BookReplays" = some 10 by kernel_rfl).symm.trans hf) |>.symm
   obtain rfl:fn=Tryz.f10:=(Option.some.inj (Tryz.func10.symm.trans hfn)).symm
   exact⟨by kernel_rfl,fun j t ht=>by
    have hall:Tryz.f10.params.toList.all (fun t=>!Tryz.prog.wantsStandIn t)=true:=by kernel_rfl
    have hm:t∈Tryz.f10.params.toList:=by
     have:=Array.mem_of_getElem? ht
     simpa using this
    have:=List.all_eq_true.1 hall t hm
    show Tryz.prog.wantsStandIn t=false
    simpa using this⟩)
  (by kernel_rfl)
end Go.Proofs.YtflgdeobcgmgnaaGreatDoor
