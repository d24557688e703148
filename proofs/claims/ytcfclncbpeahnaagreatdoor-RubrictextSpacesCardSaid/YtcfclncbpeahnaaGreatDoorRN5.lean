import Derived.Test.YtcfclncbpeahnaaGreatDoorG7
import Derived.Test.YtcfclncbpeahnaaGreatDoorAcD
import Derived.Test.YtcfclncbpeahnaaGreatDoorTie
import Derived.Test.YtcfclncbpeahnaaGreatDoorCards
/- The tied card of RubrictextSpaces: whatever plain data come in,the law answers true,and its arguments read afterwards as before. Condition: the variables that the row lists begin as the text of the program lays them,which the card ties. -/
set_option autoImplicit false
namespace Go.Proofs.YtcfclncbpeahnaaGreatDoor
open Go Go.Ab Go.ChangeShapes Go.WideShapes Go.ChangeAt Go.RowKit
set_option maxRecDepth 100000
abbrev laidOfRubrictextSpaces:List (String×DataW Unit):=Rows.rubrictextSpacesRow.laid
theorem conRubrictextSpaces {H:Type} {enc:TypeId×Value→H}:∀(W:World) (base:Nat) (args:Array Value) (es gs:List (DataW H)) (before:List MemPlace),
   (∀(j:Nat) t v,Tryz.f7.params[j]?=some t→args[j]?=some v→Value.okWide Tryz.prog W .any base t v)→
   DataW.Whole enc Tryz.prog Tryz.f7.params.toList Rows.rubrictextSpacesSpec.vars false W args.toList es gs before→(DataW.weightsEach Tryz.prog (Tryz.f7.params.toList++Rows.rubrictextSpacesSpec.plain.varTypes Tryz.prog) (es++gs)).all (·≤reachBytes)=true→laidMetH Tryz.prog laidOfRubrictextSpaces W→
   Calls Tryz.prog 7 args W fun e W'=>∃v,e=.returned v∧Rows.rubrictextSpacesSpec.post enc Tryz.prog Tryz.f7 false true false false W args v W':=
 AbW.law_row (ow:=ow32) (shs:=[(false,[.slc true rlShW]),(false,[.slc true rlShW]),(false,[.slc false [.int .u8]])]) laidOut (by kernel_rfl) Tryz.underlying4 rfl (fun es hl=>by
  obtain ⟨n,hn⟩:∃n,Tryz.f7.params.toList.length=n:=⟨_,rfl⟩
  have:n=3:=hn.symm.trans (by kernel_rfl)
  subst this
  rw[hn] at hl
  match es,hl with
  | [d0,d1,d2],_=>simp only[Rows.rubrictextSpacesSpec]) (by kernel_rfl) (fun _ _ _=>how32)
  (fun W hL xs hx=>by
  obtain ⟨x0,_,rfl,⟨_,_,he0,⟨n0,f0,hn0,rfl,hf0⟩,rfl⟩,x1,_,rfl,⟨_,_,he1,⟨n1,f1,hn1,rfl,hf1⟩,rfl⟩,x2,_,rfl,⟨_,_,he2,⟨n2,f2,hn2,rfl,hf2⟩,rfl⟩,rfl⟩:=hx
  simp only[List.cons.injEq,and_true] at he0 he1 he2
  subst he0
  subst he1
  subst he2
  obtain ⟨R,rfl,hR',hRW⟩:=rules_ofW hf0
  obtain ⟨M,rfl,hM',hMW⟩:=rules_ofW hf1
  obtain ⟨w,rfl,hw⟩:=list_of (p:=fun i (c:UInt8)=>f2 i=.con (.int .u8 (c.toNat:Int))) 0 (fun i hi=>by
   obtain ⟨_,_,h1,⟨n,h2,rfl⟩,_⟩:=hf2 i hi
   simp only[List.cons.injEq] at h1
   simp only[Lit.wf,bAt,decide_eq_true_eq] at h2
   have g1:(0:Int)≤n:=h2.1
   have g2:n≤255:=h2.2
   obtain ⟨k,rfl⟩:=Int.eq_ofNat_of_zero_le g1
   refine⟨UInt8.ofNat k,?_⟩
   rw[h1.1]
   have:(UInt8.ofNat k).toNat=k:=by simp;omega
   rw[this])
  refine(f7 (tab_of_laid (i:=2) hL (MakeChecks.laidMetH_plain _ _ _ (by kernel_rfl)) rfl) R M hRW hMW (Nat.le_trans hn0 (by decide)) (Nat.le_trans hn1 (by decide)) w).args fun k=>?_
  refine DV.rels_cons (hR' k) (DV.rels_cons (hM' k) (DV.rels_cons (fun v h=>?_) (fun _ h=>h)))
  refine DV.rel_slc_congr (fun i hi=>?_) h
  rw[hw i hi];rfl)
theorem liftedRubrictextSpaces (os:Os) (started:os.Started) (H:Type) (enc:TypeId×Value→H) :
  ReturnsInHanded {} Tryz.checked os 7 .any (fun w args=>(Rows.rubrictextSpacesSpec.pre enc Tryz.prog Tryz.f7 [] false w args∧laidMetH Tryz.prog laidOfRubrictextSpaces w)∧sizedMet enc Tryz.prog Tryz.f7 (OpenSpec.ofChange Rows.rubrictextSpacesSpec) false w args)
   (Rows.rubrictextSpacesSpec.post enc Tryz.prog Tryz.f7 false true false false):=
 returnsInHanded_of_change_and (C:=Tryz.checked) (X:=fun w _=>laidMetH Tryz.prog laidOfRubrictextSpaces w) (fun _ _ _ hh h=>h.of_heap hh) own started (by kernel_rfl) Tryz.func7
  (ChangeSpec.witness_shaped (enc:=enc) (C:=Tryz.checked) (os:=os) (X:=fun w _=>laidMetH Tryz.prog laidOfRubrictextSpaces w) false (World.laidAll Tryz.prog os laidOfRubrictextSpaces) #[.slice none 0 0,.slice none 0 0,.slice none 0 0] 8 (World.laidAll_os _ _ _) (World.shaped_of_ZipB (by kernel_rfl) (by kernel_rfl)) (by kernel_rfl) (by kernel_rfl) (by kernel_rfl) (by rw[MakeChecks.laidMetH_plain _ _ _ (by kernel_rfl)];exact laidMet_laidAll _ (by kernel_rfl) (by kernel_rfl)))
  (fun W base args es gs before h1 h2 _ hwt h3 _=>conRubrictextSpaces W base args es gs before h1 h2 hwt h3)
theorem rubrictextSpaces_holds:Rows.RubrictextSpacesSaid:=
 OpenClaim.holds_of_wide 7 Tryz.f7 rfl rfl rfl rfl rfl rfl rfl ⟨rfl,rfl,rfl,rfl,rfl⟩ rfl rfl rfl rfl rfl (by kernel_rfl) Tryz.func7 (by kernel_rfl)
  (of_decide_eq_true (by kernel_rfl)) (by unfold Func.isWrapper;first|(rw[if_pos (by decide +kernel)];kernel_rfl)|(rw[if_neg (by decide +kernel)];exact⟨rfl,rfl⟩))
  (fun os started H enc _=>liftedRubrictextSpaces os started H enc)
theorem rubrictextSpaces_card:Rows.RubrictextSpacesCardSaid:=
 Claim7.holds_tied_plain_at .later [] [.data, .data, .data, .data, .sentinel, .sentinel, .pinned] true (true, "8b6901f9c049a307a49058746c98b411e55be2f5df84ae42e00e90300fb9ed29") true
  rubrictextSpaces_holds (fun _ h=>by cases h) (by kernel_rfl) (fun _ h=>by cases h) rubrictextSpaces_row_tie rfl ⟨rfl,rfl⟩ (by kernel_rfl) rfl
  (fun f fn hf hfn=>by
   obtain rfl : f = 7 := Option.some.inj ((show Tryz.prog.funcNamed "assessor/assessorlaw47.RubrictextSpaces" = some 7 by kernel_rfl).symm.trans hf) |>.symm
   obtain rfl:fn=Tryz.f7:=(Option.some.inj (Tryz.func7.symm.trans hfn)).symm
   exact⟨by kernel_rfl,fun j t ht=>by
    have hall:Tryz.f7.params.toList.all (fun t=>!Tryz.prog.wantsStandIn t)=true:=by kernel_rfl
    have hm:t∈Tryz.f7.params.toList:=by
     have:=Array.mem_of_getElem? ht
     simpa using this
    have:=List.all_eq_true.1 hall t hm
    show Tryz.prog.wantsStandIn t=false
    simpa using this⟩)
  (by kernel_rfl)
end Go.Proofs.YtcfclncbpeahnaaGreatDoor
