import Derived.Test.YtflgdeobcgmgnaaGreatDoorG6
import Derived.Test.YtflgdeobcgmgnaaGreatDoorAcD
import Derived.Test.YtflgdeobcgmgnaaGreatDoorTie
import Derived.Test.YtflgdeobcgmgnaaGreatDoorCards
/- The tied card of BookPoints: whatever plain data come in,the law answers true,and its arguments read afterwards as before. Condition: the variables that the row lists begin as the text of the program lays them,which the card ties. -/
set_option autoImplicit false
namespace Go.Proofs.YtflgdeobcgmgnaaGreatDoor
open Go Go.Ab Go.ChangeShapes Go.WideShapes Go.ChangeAt Go.RowKit
set_option maxRecDepth 100000
abbrev laidOfBookPoints:List (String×DataW Unit):=Rows.bookPointsRow.laid
theorem conBookPoints {H:Type} {enc:TypeId×Value→H}:∀(W:World) (base:Nat) (args:Array Value) (es gs:List (DataW H)) (before:List MemPlace),
   (∀(j:Nat) t v,Tryz.f6.params[j]?=some t→args[j]?=some v→Value.okWide Tryz.prog W .any base t v)→
   DataW.Whole enc Tryz.prog Tryz.f6.params.toList Rows.bookPointsSpec.vars false W args.toList es gs before→laidMetH Tryz.prog laidOfBookPoints W→
   Calls Tryz.prog 6 args W fun e W'=>∃v,e=.returned v∧Rows.bookPointsSpec.post enc Tryz.prog Tryz.f6 false true false false W args v W':=
 law_row (shs:=[(false,[.slc true [.int .i64,.str,.str,.int .i64,.int .i64,.int .i64,.int .i64,.str,.bool]]),(true,[.str,.str,.int .i64]),(true,[.int .i64,.int .i64,.int .i64,.int .i64]),(false,[.int .i64])]) laidOut (by kernel_rfl) Tryz.underlying4 rfl (fun es hl=>by
  obtain ⟨n,hn⟩:∃n,Tryz.f6.params.toList.length=n:=⟨_,rfl⟩
  have:n=4:=hn.symm.trans (by kernel_rfl)
  subst this
  rw[hn] at hl
  match es,hl with
  | [d0,d1,d2,d3],_=>simp only[Rows.bookPointsSpec]) (by kernel_rfl)
  (fun W hL xs hx=>by
  obtain ⟨x0,_,rfl,⟨_,_,he1,⟨n,f,hn,rfl,hf⟩,rfl⟩,x1,_,rfl,⟨_,rfl,_,_,rfl,⟨q1,_,rfl⟩,_,_,rfl,⟨q2,_,rfl⟩,_,_,rfl,⟨q3,_,rfl⟩,rfl⟩,x2,_,rfl,⟨_,rfl,_,_,rfl,⟨r1,_,rfl⟩,_,_,rfl,⟨r2,_,rfl⟩,_,_,rfl,⟨r3,_,rfl⟩,_,_,rfl,⟨r4,_,rfl⟩,rfl⟩,x3,_,rfl,⟨_,_,he4,⟨h,_,rfl⟩,rfl⟩,rfl⟩:=hx
  simp only[List.cons.injEq,and_true] at he1 he4
  subst he1;subst he4
  obtain ⟨L,rfl,hL'⟩:=list_of (p:=fun i (x:Ev)=>f i=evD x) ev0 (fun i hi=>by
   obtain ⟨es,h1,_,_,rfl,⟨m1,_,rfl⟩,_,_,rfl,⟨m2,_,rfl⟩,_,_,rfl,⟨m3,_,rfl⟩,_,_,rfl,⟨m4,_,rfl⟩,_,_,rfl,⟨m5,_,rfl⟩,_,_,rfl,⟨m6,_,rfl⟩,_,_,rfl,⟨m7,_,rfl⟩,_,_,rfl,⟨m8,_,rfl⟩,_,_,rfl,⟨m9,rfl⟩,rfl⟩:=hf i hi
   exact⟨⟨m1,⟨m2,m3,m4⟩,m5,m6,m7,m8,m9⟩,h1⟩)
  refine(f6 (tab_of_laid (i:=2) hL (MakeChecks.laidMetH_plain _ _ _ (by kernel_rfl)) rfl) L ⟨q1,q2,q3⟩ ⟨r1,r2,r3,r4⟩ h hn).args fun k=>?_
  exact DV.rels_cons (fun v h=>DV.rel_slc_congr hL' h) (DV.rels_cons (fun _ h=>h) (DV.rels_cons (fun _ h=>h) (DV.rels_cons (fun _ h=>h) (fun _ h=>h)))))
theorem doorBookPoints (os:Os) (args:Array Value):laidMetH Tryz.prog laidOfBookPoints ((World.doorLaid Tryz.prog 72 os).forCall (fun _ _=>0) ⟨#[],args,[]⟩).memory:=
 laidMetH_of_parts3 (fuel:=8) (laidMet_of_run' 8 (by kernel_rfl) (by kernel_rfl)) (by kernel_rfl) (by kernel_rfl)
theorem liftedBookPoints (os:Os) (started:os.Started) (H:Type) (enc:TypeId×Value→H) :
  ReturnsInHanded {} Tryz.checked os 6 .any (fun w args=>(Rows.bookPointsSpec.pre enc Tryz.prog Tryz.f6 [] false w args∧laidMetH Tryz.prog laidOfBookPoints w)∧sizedMet enc Tryz.prog Tryz.f6 (OpenSpec.ofChange Rows.bookPointsSpec) false w args)
   (Rows.bookPointsSpec.post enc Tryz.prog Tryz.f6 false true false false):=
 returnsInHanded_of_change_and (C:=Tryz.checked) (X:=fun w _=>laidMetH Tryz.prog laidOfBookPoints w) (fun _ _ _ hh h=>h.of_heap hh) own started (by kernel_rfl) Tryz.func6
  (ChangeSpec.witness_shaped (enc:=enc) (C:=Tryz.checked) (os:=os) (X:=fun w _=>laidMetH Tryz.prog laidOfBookPoints w) false (World.doorLaid Tryz.prog 72 os) #[.slice none 0 0,.agg #[.string .empty,.string .empty,.int .i64 0],.agg #[.int .i64 0,.int .i64 0,.int .i64 0,.int .i64 0],.int .i64 0] 8 rfl (World.shaped_of_RefB (by kernel_rfl) (by kernel_rfl)) (by kernel_rfl) (by kernel_rfl) (by kernel_rfl) (doorBookPoints os _))
  (fun W base args es gs before h1 h2 _ _ h3 _=>conBookPoints W base args es gs before h1 h2 h3)
theorem bookPoints_holds:Rows.BookPointsSaid:=
 OpenClaim.holds_of_wide 6 Tryz.f6 rfl rfl rfl rfl rfl rfl rfl ⟨rfl,rfl,rfl,rfl,rfl⟩ rfl rfl rfl rfl rfl (by kernel_rfl) Tryz.func6 (by kernel_rfl)
  (of_decide_eq_true (by kernel_rfl)) (by unfold Func.isWrapper;first|(rw[if_pos (by decide +kernel)];kernel_rfl)|(rw[if_neg (by decide +kernel)];exact⟨rfl,rfl⟩))
  (fun os started H enc _=>liftedBookPoints os started H enc)
theorem bookPoints_card:Rows.BookPointsCardSaid:=
 Claim7.holds_tied_plain_at .later [] [.data, .data, .data] true (true, "da49b9daeadc30a33a1c0b500c0d0f177df8980835f03ddf59129a9bda471115") true
  bookPoints_holds (fun _ h=>by cases h) (by kernel_rfl) (fun _ h=>by cases h) bookPoints_row_tie rfl ⟨rfl,rfl⟩ (by kernel_rfl) rfl
  (fun f fn hf hfn=>by
   obtain rfl : f = 6 := Option.some.inj ((show Tryz.prog.funcNamed "assessor/assessorlaw55.BookPoints" = some 6 by kernel_rfl).symm.trans hf) |>.symm
   obtain rfl:fn=Tryz.f6:=(Option.some.inj (Tryz.func6.symm.trans hfn)).symm
   exact⟨by kernel_rfl,fun j t ht=>by
    have hall:Tryz.f6.params.toList.all (fun t=>!Tryz.prog.wantsStandIn t)=true:=by kernel_rfl
    have hm:t∈Tryz.f6.params.toList:=by
     have:=Array.mem_of_getElem? ht
     simpa using this
    have:=List.all_eq_true.1 hall t hm
    show Tryz.prog.wantsStandIn t=false
    simpa using this⟩)
  (by kernel_rfl)
end Go.Proofs.YtflgdeobcgmgnaaGreatDoor
