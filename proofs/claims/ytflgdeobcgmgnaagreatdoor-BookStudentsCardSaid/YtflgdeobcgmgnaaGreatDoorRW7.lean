import Derived.Test.YtflgdeobcgmgnaaGreatDoorG6
import Derived.Test.YtflgdeobcgmgnaaGreatDoorAcD
import Derived.Test.YtflgdeobcgmgnaaGreatDoorTie
import Derived.Test.YtflgdeobcgmgnaaGreatDoorCards
/- The tied card of BookStudents: whatever plain data come in,the law answers true,and its arguments read afterwards as before. Condition: the variables that the row lists begin as the text of the program lays them,which the card ties. -/
set_option autoImplicit false
namespace Go.Proofs.YtflgdeobcgmgnaaGreatDoor
open Go Go.Ab Go.ChangeShapes Go.WideShapes Go.ChangeAt Go.RowKit
set_option maxRecDepth 100000
abbrev laidOfBookStudents:List (String×DataW Unit):=Rows.bookStudentsRow.laid
theorem conBookStudents {H:Type} {enc:TypeId×Value→H}:∀(W:World) (base:Nat) (args:Array Value) (es gs:List (DataW H)) (before:List MemPlace),
   (∀(j:Nat) t v,Tryz.f7.params[j]?=some t→args[j]?=some v→Value.okWide Tryz.prog W .any base t v)→
   DataW.Whole enc Tryz.prog Tryz.f7.params.toList Rows.bookStudentsSpec.vars false W args.toList es gs before→laidMetH Tryz.prog laidOfBookStudents W→
   Calls Tryz.prog 7 args W fun e W'=>∃v,e=.returned v∧Rows.bookStudentsSpec.post enc Tryz.prog Tryz.f7 false true false false W args v W':=
 law_row (shs:=[(false,[.slc true [.int .i64,.str,.str,.int .i64,.int .i64,.int .i64,.int .i64,.str,.bool]]),(true,[.int .i64,.str,.str,.int .i64,.int .i64,.int .i64,.int .i64,.str,.bool]),(true,[.int .i64,.str,.str,.int .i64,.int .i64,.int .i64,.int .i64,.str,.bool]),(true,[.int .i64,.int .i64,.int .i64,.int .i64])]) laidOut (by kernel_rfl) Tryz.underlying4 rfl (fun es hl=>by
  obtain ⟨n,hn⟩:∃n,Tryz.f7.params.toList.length=n:=⟨_,rfl⟩
  have:n=4:=hn.symm.trans (by kernel_rfl)
  subst this
  rw[hn] at hl
  match es,hl with
  | [d0,d1,d2,d3],_=>simp only[Rows.bookStudentsSpec]) (by kernel_rfl)
  (fun W hL xs hx=>by
  obtain ⟨x0,_,rfl,⟨_,_,he1,⟨n,f,hn,rfl,hf⟩,rfl⟩,x1,_,rfl,⟨_,rfl,_,_,rfl,⟨k1,_,rfl⟩,_,_,rfl,⟨k2,_,rfl⟩,_,_,rfl,⟨k3,_,rfl⟩,_,_,rfl,⟨k4,_,rfl⟩,_,_,rfl,⟨k5,_,rfl⟩,_,_,rfl,⟨k6,_,rfl⟩,_,_,rfl,⟨k7,_,rfl⟩,_,_,rfl,⟨k8,_,rfl⟩,_,_,rfl,⟨k9,rfl⟩,rfl⟩,x2,_,rfl,⟨_,rfl,_,_,rfl,⟨j1,_,rfl⟩,_,_,rfl,⟨j2,_,rfl⟩,_,_,rfl,⟨j3,_,rfl⟩,_,_,rfl,⟨j4,_,rfl⟩,_,_,rfl,⟨j5,_,rfl⟩,_,_,rfl,⟨j6,_,rfl⟩,_,_,rfl,⟨j7,_,rfl⟩,_,_,rfl,⟨j8,_,rfl⟩,_,_,rfl,⟨j9,rfl⟩,rfl⟩,x3,_,rfl,⟨_,rfl,_,_,rfl,⟨r1,_,rfl⟩,_,_,rfl,⟨r2,_,rfl⟩,_,_,rfl,⟨r3,_,rfl⟩,_,_,rfl,⟨r4,_,rfl⟩,rfl⟩,rfl⟩:=hx
  simp only[List.cons.injEq,and_true] at he1
  subst he1
  obtain ⟨L,rfl,hL'⟩:=list_of (p:=fun i (x:Ev)=>f i=evD x) ev0 (fun i hi=>by
   obtain ⟨es,h1,_,_,rfl,⟨m1,_,rfl⟩,_,_,rfl,⟨m2,_,rfl⟩,_,_,rfl,⟨m3,_,rfl⟩,_,_,rfl,⟨m4,_,rfl⟩,_,_,rfl,⟨m5,_,rfl⟩,_,_,rfl,⟨m6,_,rfl⟩,_,_,rfl,⟨m7,_,rfl⟩,_,_,rfl,⟨m8,_,rfl⟩,_,_,rfl,⟨m9,rfl⟩,rfl⟩:=hf i hi
   exact⟨⟨m1,⟨m2,m3,m4⟩,m5,m6,m7,m8,m9⟩,h1⟩)
  refine(f7 (tab_of_laid (i:=2) hL (MakeChecks.laidMetH_plain _ _ _ (by kernel_rfl)) rfl) L ⟨k1,⟨k2,k3,k4⟩,k5,k6,k7,k8,k9⟩ ⟨j1,⟨j2,j3,j4⟩,j5,j6,j7,j8,j9⟩ ⟨r1,r2,r3,r4⟩ hn).args fun k=>?_
  exact DV.rels_cons (fun v h=>DV.rel_slc_congr hL' h) (DV.rels_cons (fun _ h=>h) (DV.rels_cons (fun _ h=>h) (DV.rels_cons (fun _ h=>h) (fun _ h=>h)))))
theorem doorBookStudents (os:Os) (args:Array Value):laidMetH Tryz.prog laidOfBookStudents ((World.doorLaid Tryz.prog 72 os).forCall (fun _ _=>0) ⟨#[],args,[]⟩).memory:=
 laidMetH_of_parts3 (fuel:=8) (laidMet_of_run' 8 (by kernel_rfl) (by kernel_rfl)) (by kernel_rfl) (by kernel_rfl)
theorem liftedBookStudents (os:Os) (started:os.Started) (H:Type) (enc:TypeId×Value→H) :
  ReturnsInHanded {} Tryz.checked os 7 .any (fun w args=>(Rows.bookStudentsSpec.pre enc Tryz.prog Tryz.f7 [] false w args∧laidMetH Tryz.prog laidOfBookStudents w)∧sizedMet enc Tryz.prog Tryz.f7 (OpenSpec.ofChange Rows.bookStudentsSpec) false w args)
   (Rows.bookStudentsSpec.post enc Tryz.prog Tryz.f7 false true false false):=
 returnsInHanded_of_change_and (C:=Tryz.checked) (X:=fun w _=>laidMetH Tryz.prog laidOfBookStudents w) (fun _ _ _ hh h=>h.of_heap hh) own started (by kernel_rfl) Tryz.func7
  (ChangeSpec.witness_shaped (enc:=enc) (C:=Tryz.checked) (os:=os) (X:=fun w _=>laidMetH Tryz.prog laidOfBookStudents w) false (World.doorLaid Tryz.prog 72 os) #[.slice none 0 0,.agg #[.int .i64 0,.string .empty,.string .empty,.int .i64 0,.int .i64 0,.int .i64 0,.int .i64 0,.string .empty,.bool false],.agg #[.int .i64 0,.string .empty,.string .empty,.int .i64 0,.int .i64 0,.int .i64 0,.int .i64 0,.string .empty,.bool false],.agg #[.int .i64 0,.int .i64 0,.int .i64 0,.int .i64 0]] 8 rfl (World.shaped_of_RefB (by kernel_rfl) (by kernel_rfl)) (by kernel_rfl) (by kernel_rfl) (by kernel_rfl) (doorBookStudents os _))
  (fun W base args es gs before h1 h2 _ _ h3 _=>conBookStudents W base args es gs before h1 h2 h3)
theorem bookStudents_holds:Rows.BookStudentsSaid:=
 OpenClaim.holds_of_wide 7 Tryz.f7 rfl rfl rfl rfl rfl rfl rfl ⟨rfl,rfl,rfl,rfl,rfl⟩ rfl rfl rfl rfl rfl (by kernel_rfl) Tryz.func7 (by kernel_rfl)
  (of_decide_eq_true (by kernel_rfl)) (by unfold Func.isWrapper;first|(rw[if_pos (by decide +kernel)];kernel_rfl)|(rw[if_neg (by decide +kernel)];exact⟨rfl,rfl⟩))
  (fun os started H enc _=>liftedBookStudents os started H enc)
theorem bookStudents_card:Rows.BookStudentsCardSaid:=
 Claim7.holds_tied_plain_at .later [] [.data, .data, .data] true (true, "da49b9daeadc30a33a1c0b500c0d0f177df8980835f03ddf59129a9bda471115") true
  bookStudents_holds (fun _ h=>by cases h) (by kernel_rfl) (fun _ h=>by cases h) bookStudents_row_tie rfl ⟨rfl,rfl⟩ (by kernel_rfl) rfl
  (fun f fn hf hfn=>by
   obtain rfl : f = 7 := Option.some.inj ((show Tryz.prog.funcNamed "assessor/assessorlaw55.BookStudents" = some 7 by kernel_rfl).symm.trans hf) |>.symm
   obtain rfl:fn=Tryz.f7:=(Option.some.inj (Tryz.func7.symm.trans hfn)).symm
   exact⟨by kernel_rfl,fun j t ht=>by
    have hall:Tryz.f7.params.toList.all (fun t=>!Tryz.prog.wantsStandIn t)=true:=by kernel_rfl
    have hm:t∈Tryz.f7.params.toList:=by
     have:=Array.mem_of_getElem? ht
     simpa using this
    have:=List.all_eq_true.1 hall t hm
    show Tryz.prog.wantsStandIn t=false
    simpa using this⟩)
  (by kernel_rfl)
end Go.Proofs.YtflgdeobcgmgnaaGreatDoor
