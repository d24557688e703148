import Derived.Test.YtcfclncbpeahnaaGreatDoorG7
import Derived.Test.YtcfclncbpeahnaaGreatDoorG8
import Derived.Test.YtcfclncbpeahnaaGreatDoorAcD
import Derived.Test.YtcfclncbpeahnaaGreatDoorTie
import Derived.Test.YtcfclncbpeahnaaGreatDoorCards
/- The tied card of RubrictextParses: whatever plain data come in,the law answers true,and its arguments read afterwards as before. Condition: the variables that the row lists begin as the text of the program lays them,which the card ties. -/
set_option autoImplicit false
namespace Go.Proofs.YtcfclncbpeahnaaGreatDoor
open Go Go.Ab Go.ChangeShapes Go.WideShapes Go.ChangeAt Go.RowKit
set_option maxRecDepth 100000
abbrev iW:List (String×DataW Unit):=Rows.rubrictextParsesRow.laid
theorem CJ {H:Type} {enc:TypeId×Value→H}:∀(W:World) (base:Nat) (args:Array Value) (es gs:List (DataW H)) (before:List MemPlace),
   (∀(j:Nat) t v,Tryz.f3.params[j]?=some t→args[j]?=some v→Value.okWide Tryz.prog W .any base t v)→
   DataW.Whole enc Tryz.prog Tryz.f3.params.toList Rows.rubrictextParsesSpec.vars false W args.toList es gs before→(DataW.weightsEach Tryz.prog (Tryz.f3.params.toList++Rows.rubrictextParsesSpec.plain.varTypes Tryz.prog) (es++gs)).all (·≤reachBytes)=true→laidMetH Tryz.prog iW W→
   Calls Tryz.prog 3 args W fun e W'=>∃v,e=.returned v∧Rows.rubrictextParsesSpec.post enc Tryz.prog Tryz.f3 false true false false W args v W':=
 IB.QL (ow:=Xq) (pF:=[(false,[.str])]) laidOut (by kernel_rfl) Tryz.underlying4 rfl (fun es hl=>by
  obtain ⟨n,hn⟩:∃n,Tryz.f3.params.toList.length=n:=⟨_,rfl⟩
  have:n=1:=hn.symm.trans (by kernel_rfl)
  subst this
  rw[hn] at hl
  match es,hl with
  | [d0],_=>simp only[Rows.rubrictextParsesSpec]) (by kernel_rfl) (fun _ _ _=>acH)
  (fun W hL xs hx=>by
  obtain ⟨x0,_,rfl,⟨_,_,he0,⟨s,_,rfl⟩,rfl⟩,rfl⟩:=hx
  simp only[List.cons.injEq,and_true] at he0
  subst he0
  exact f3 (Qk (i:=2) hL (MakeChecks.laidMetH_plain _ _ _ (by kernel_rfl)) rfl) s)
theorem zu (os:Os) (started:os.Started) (H:Type) (enc:TypeId×Value→H) :
  ReturnsInHanded {} Tryz.checked os 3 .any (fun w args=>(Rows.rubrictextParsesSpec.pre enc Tryz.prog Tryz.f3 [] false w args∧laidMetH Tryz.prog iW w)∧sizedMet enc Tryz.prog Tryz.f3 (OpenSpec.ofChange Rows.rubrictextParsesSpec) false w args)
   (Rows.rubrictextParsesSpec.post enc Tryz.prog Tryz.f3 false true false false):=
 returnsInHanded_of_change_and (C:=Tryz.checked) (X:=fun w _=>laidMetH Tryz.prog iW w) (fun _ _ _ hh h=>h.of_heap hh) own started (by kernel_rfl) Tryz.func3
  (ChangeSpec.witness_shaped (enc:=enc) (C:=Tryz.checked) (os:=os) (X:=fun w _=>laidMetH Tryz.prog iW w) false (World.laidAll Tryz.prog os iW) #[.string .empty] 8 (World.laidAll_os _ _ _) (World.shaped_of_ZipB (by kernel_rfl) (by kernel_rfl)) (by kernel_rfl) (by kernel_rfl) (by kernel_rfl) (by rw[MakeChecks.laidMetH_plain _ _ _ (by kernel_rfl)];exact laidMet_laidAll _ (by kernel_rfl) (by kernel_rfl)))
  (fun W base args es gs before h1 h2 _ hwt h3 _=>CJ W base args es gs before h1 h2 hwt h3)
theorem zy:Rows.RubrictextParsesSaid:=
 OpenClaim.holds_of_wide 3 Tryz.f3 rfl rfl rfl rfl rfl rfl rfl ⟨rfl,rfl,rfl,rfl,rfl⟩ rfl rfl rfl rfl rfl (by kernel_rfl) Tryz.func3 (by kernel_rfl)
  (of_decide_eq_true (by kernel_rfl)) (by unfold Func.isWrapper;first|(rw[if_pos (by decide +kernel)];kernel_rfl)|(rw[if_neg (by decide +kernel)];exact⟨rfl,rfl⟩))
  (fun os started H enc _=>zu os started H enc)
theorem rubrictextParses_card:Rows.RubrictextParsesCardSaid:=
 Claim7.holds_tied_plain_at .later [] [.data, .data, .data, .data, .sentinel, .sentinel, .pinned] true (true, "8b6901f9c049a307a49058746c98b411e55be2f5df84ae42e00e90300fb9ed29") true
  zy (fun _ h=>by cases h) (by kernel_rfl) (fun _ h=>by cases h) rubrictextParses_row_tie rfl ⟨rfl,rfl⟩ (by kernel_rfl) rfl
  (fun f fn hf hfn=>by
   obtain rfl : f = 3 := Option.some.inj ((show Tryz.prog.funcNamed "assessor/assessorlaw47.RubrictextParses" = some 3 by kernel_rfl).symm.trans hf) |>.symm
   obtain rfl:fn=Tryz.f3:=(Option.some.inj (Tryz.func3.symm.trans hfn)).symm
   exact⟨by kernel_rfl,fun j t ht=>by
    have hall:Tryz.f3.params.toList.all (fun t=>!Tryz.prog.wantsStandIn t)=true:=by kernel_rfl
    have hm:t∈Tryz.f3.params.toList:=by
     have:=Array.mem_of_getElem? ht
     simpa using this
    have:=List.all_eq_true.1 hall t hm
    show Tryz.prog.wantsStandIn t=false
    simpa using this⟩)
  (by kernel_rfl)
end Go.Proofs.YtcfclncbpeahnaaGreatDoor
