import Derived.Test.YteigabjdeaoaiaaGreatDoorG0
import Derived.Test.YteigabjdeaoaiaaGreatDoorG5
import Derived.Test.YteigabjdeaoaiaaGreatDoorAcD
import Derived.Test.YteigabjdeaoaiaaGreatDoorTie
import Derived.Test.YteigabjdeaoaiaaGreatDoorCards
/- The tied card of QueueDrains: whatever plain data come in,the law answers true,and its arguments read afterwards as before. Condition: the variables that the row lists begin as the text of the program lays them,which the card ties. -/
set_option autoImplicit false
namespace Go.Proofs.YteigabjdeaoaiaaGreatDoor
open Go Go.Ab Go.ChangeShapes Go.WideShapes Go.ChangeAt Go.RowKit
set_option maxRecDepth 100000
abbrev laidOfQueueDrains:List (String×DataW Unit):=Rows.queueDrainsRow.laid
theorem conQueueDrains {H:Type} {enc:TypeId×Value→H}:∀(W:World) (base:Nat) (args:Array Value) (es gs:List (DataW H)) (before:List MemPlace),
   (∀(j:Nat) t v,Tryz.f7.params[j]?=some t→args[j]?=some v→Value.okWide Tryz.prog W .any base t v)→
   DataW.Whole enc Tryz.prog Tryz.f7.params.toList Rows.queueDrainsSpec.vars false W args.toList es gs before→laidMetH Tryz.prog laidOfQueueDrains W→
   Calls Tryz.prog 7 args W fun e W'=>∃v,e=.returned v∧Rows.queueDrainsSpec.post enc Tryz.prog Tryz.f7 false true false false W args v W':=
 law_row (shs:=[(true,[.int .i64,.int .i64,.int .i64,.int .i64]),(false,[.slc true [.int .i64,.int .i64,.int .i64,.str,.str,.int .i64,.int .i64,.int .i64,.str]])]) laidOut (by kernel_rfl) Tryz.underlying4 rfl (fun es hl=>by
  obtain ⟨n,hn⟩:∃n,Tryz.f7.params.toList.length=n:=⟨_,rfl⟩
  have:n=2:=hn.symm.trans (by kernel_rfl)
  subst this
  rw[hn] at hl
  match es,hl with
  | [d0,d1],_=>simp only[Rows.queueDrainsSpec]) (by kernel_rfl)
  (fun W hL xs hx=>by
  obtain ⟨x0,_,rfl,⟨_,rfl,_,_,rfl,⟨a,_,rfl⟩,_,_,rfl,⟨b,_,rfl⟩,_,_,rfl,⟨c,_,rfl⟩,_,_,rfl,⟨d,_,rfl⟩,rfl⟩,x1,_,rfl,⟨_,_,he1,⟨n,f,hn,rfl,hf⟩,rfl⟩,rfl⟩:=hx
  simp only[List.cons.injEq,and_true] at he1
  subst he1
  obtain ⟨L,rfl,hL'⟩:=list_of (p:=fun i (x:Ac)=>f i=acD x) ac0 (fun i hi=>by
   obtain ⟨es,h1,_,_,rfl,⟨k1,_,rfl⟩,_,_,rfl,⟨k2,_,rfl⟩,_,_,rfl,⟨k3,_,rfl⟩,_,_,rfl,⟨k4,_,rfl⟩,_,_,rfl,⟨k5,_,rfl⟩,_,_,rfl,⟨k6,_,rfl⟩,_,_,rfl,⟨k7,_,rfl⟩,_,_,rfl,⟨k8,_,rfl⟩,_,_,rfl,⟨k9,_,rfl⟩,rfl⟩:=hf i hi
   exact⟨⟨k1,k2,k3,⟨k4,k5,k6,k7,k8⟩,k9⟩,h1⟩)
  refine(f7 a b c d L hn).args fun k=>?_
  exact DV.rels_cons (fun _ h=>h) (DV.rels_cons (fun v h=>DV.rel_slc_congr hL' h) (fun _ h=>h)))
theorem doorQueueDrains (os:Os) (args:Array Value):laidMetH Tryz.prog laidOfQueueDrains ((World.doorLaid Tryz.prog 72 os).forCall (fun _ _=>0) ⟨#[],args,[]⟩).memory:=
 laidMetH_of_parts3 (fuel:=8) (laidMet_of_run' 8 (by kernel_rfl) (by kernel_rfl)) (by kernel_rfl) (by kernel_rfl)
theorem liftedQueueDrains (os:Os) (started:os.Started) (H:Type) (enc:TypeId×Value→H) :
  ReturnsInHanded {} Tryz.checked os 7 .any (fun w args=>(Rows.queueDrainsSpec.pre enc Tryz.prog Tryz.f7 [] false w args∧laidMetH Tryz.prog laidOfQueueDrains w)∧sizedMet enc Tryz.prog Tryz.f7 (OpenSpec.ofChange Rows.queueDrainsSpec) false w args)
   (Rows.queueDrainsSpec.post enc Tryz.prog Tryz.f7 false true false false):=
 returnsInHanded_of_change_and (C:=Tryz.checked) (X:=fun w _=>laidMetH Tryz.prog laidOfQueueDrains w) (fun _ _ _ hh h=>h.of_heap hh) own started (by kernel_rfl) Tryz.func7
  (ChangeSpec.witness_shaped (enc:=enc) (C:=Tryz.checked) (os:=os) (X:=fun w _=>laidMetH Tryz.prog laidOfQueueDrains w) false (World.doorLaid Tryz.prog 72 os) #[.agg #[.int .i64 0,.int .i64 0,.int .i64 0,.int .i64 0],.slice none 0 0] 8 rfl (World.shaped_of_RefB (by kernel_rfl) (by kernel_rfl)) (by kernel_rfl) (by kernel_rfl) (by kernel_rfl) (doorQueueDrains os _))
  (fun W base args es gs before h1 h2 _ _ h3 _=>conQueueDrains W base args es gs before h1 h2 h3)
theorem queueDrains_holds:Rows.QueueDrainsSaid:=
 OpenClaim.holds_of_wide 7 Tryz.f7 rfl rfl rfl rfl rfl rfl rfl ⟨rfl,rfl,rfl,rfl,rfl⟩ rfl rfl rfl rfl rfl (by kernel_rfl) Tryz.func7 (by kernel_rfl)
  (of_decide_eq_true (by kernel_rfl)) (by unfold Func.isWrapper;first|(rw[if_pos (by decide +kernel)];kernel_rfl)|(rw[if_neg (by decide +kernel)];exact⟨rfl,rfl⟩))
  (fun os started H enc _=>liftedQueueDrains os started H enc)
theorem queueDrains_card:Rows.QueueDrainsCardSaid:=
 Claim7.holds_tied_plain_at .later [] [.data, .data, .data] true (true, "22494a34f967fb657e3165861fb2a3470ec36ac5a33aa49a720ca147cac7b149") false
  queueDrains_holds (fun _ h=>by cases h) (by kernel_rfl) (fun _ h=>by cases h) queueDrains_row_tie rfl ⟨rfl,rfl⟩ (by kernel_rfl) rfl
  (fun f fn hf hfn=>by
   obtain rfl : f = 7 := Option.some.inj ((show Tryz.prog.funcNamed "assessor/assessorlaw57.QueueDrains" = some 7 by kernel_rfl).symm.trans hf) |>.symm
   obtain rfl:fn=Tryz.f7:=(Option.some.inj (Tryz.func7.symm.trans hfn)).symm
   exact⟨by kernel_rfl,fun j t ht=>by
    have hall:Tryz.f7.params.toList.all (fun t=>!Tryz.prog.wantsStandIn t)=true:=by kernel_rfl
    have hm:t∈Tryz.f7.params.toList:=by
     have:=Array.mem_of_getElem? ht
     simpa using this
    have:=List.all_eq_true.1 hall t hm
    show Tryz.prog.wantsStandIn t=false
    simpa using this⟩)
  (by kernel_rfl)
end Go.Proofs.YteigabjdeaoaiaaGreatDoor
