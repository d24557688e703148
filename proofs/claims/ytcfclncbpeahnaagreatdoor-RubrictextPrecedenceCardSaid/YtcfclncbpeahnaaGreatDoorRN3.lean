import Derived.Test.YtcfclncbpeahnaaGreatDoorG7
import Derived.Test.YtcfclncbpeahnaaGreatDoorAcD
import Derived.Test.YtcfclncbpeahnaaGreatDoorTie
import Derived.Test.YtcfclncbpeahnaaGreatDoorCards
/- The tied card of RubrictextPrecedence: whatever plain data come in,the law answers true,and its arguments read afterwards as before. Condition: the variables that the row lists begin as the text of the program lays them,which the card ties. -/
set_option autoImplicit false
namespace Go.Proofs.YtcfclncbpeahnaaGreatDoor
open Go Go.Ab Go.ChangeShapes Go.WideShapes Go.ChangeAt Go.RowKit
set_option maxRecDepth 100000
abbrev laidOfRubrictextPrecedence:List (String×DataW Unit):=Rows.rubrictextPrecedenceRow.laid
theorem conRubrictextPrecedence {H:Type} {enc:TypeId×Value→H}:∀(W:World) (base:Nat) (args:Array Value) (es gs:List (DataW H)) (before:List MemPlace),
   (∀(j:Nat) t v,Tryz.f5.params[j]?=some t→args[j]?=some v→Value.okWide Tryz.prog W .any base t v)→
   DataW.Whole enc Tryz.prog Tryz.f5.params.toList Rows.rubrictextPrecedenceSpec.vars false W args.toList es gs before→(DataW.weightsEach Tryz.prog (Tryz.f5.params.toList++Rows.rubrictextPrecedenceSpec.plain.varTypes Tryz.prog) (es++gs)).all (·≤reachBytes)=true→laidMetH Tryz.prog laidOfRubrictextPrecedence W→
   Calls Tryz.prog 5 args W fun e W'=>∃v,e=.returned v∧Rows.rubrictextPrecedenceSpec.post enc Tryz.prog Tryz.f5 false true false false W args v W':=
 AbW.law_row (ow:=ow32) (shs:=[(false,[.int .u8]),(false,[.int .u8])]) laidOut (by kernel_rfl) Tryz.underlying4 rfl (fun es hl=>by
  obtain ⟨n,hn⟩:∃n,Tryz.f5.params.toList.length=n:=⟨_,rfl⟩
  have:n=2:=hn.symm.trans (by kernel_rfl)
  subst this
  rw[hn] at hl
  match es,hl with
  | [d0,d1],_=>simp only[Rows.rubrictextPrecedenceSpec]) (by kernel_rfl) (fun _ _ _=>how32)
  (fun W hL xs hx=>by
  obtain ⟨x0,_,rfl,⟨_,_,he0,⟨i,hi,rfl⟩,rfl⟩,x1,_,rfl,⟨_,_,he1,⟨k,hk,rfl⟩,rfl⟩,rfl⟩:=hx
  simp only[List.cons.injEq,and_true] at he0 he1
  subst he0
  subst he1
  have rg:∀{n:Int},(Lit.int .u8 n).wf=true→0≤n∧n<256:=fun {n} h=>by
   simp only[Lit.wf,bAt,decide_eq_true_eq] at h
   have h1:(0:Int)≤n:=h.1
   have h2:n≤255:=h.2
   omega
  exact f5 (tab_of_laid (i:=2) hL (MakeChecks.laidMetH_plain _ _ _ (by kernel_rfl)) rfl) i k (rg hi) (rg hk))
theorem liftedRubrictextPrecedence (os:Os) (started:os.Started) (H:Type) (enc:TypeId×Value→H) :
  ReturnsInHanded {} Tryz.checked os 5 .any (fun w args=>(Rows.rubrictextPrecedenceSpec.pre enc Tryz.prog Tryz.f5 [] false w args∧laidMetH Tryz.prog laidOfRubrictextPrecedence w)∧sizedMet enc Tryz.prog Tryz.f5 (OpenSpec.ofChange Rows.rubrictextPrecedenceSpec) false w args)
   (Rows.rubrictextPrecedenceSpec.post enc Tryz.prog Tryz.f5 false true false false):=
 returnsInHanded_of_change_and (C:=Tryz.checked) (X:=fun w _=>laidMetH Tryz.prog laidOfRubrictextPrecedence w) (fun _ _ _ hh h=>h.of_heap hh) own started (by kernel_rfl) Tryz.func5
  (ChangeSpec.witness_shaped (enc:=enc) (C:=Tryz.checked) (os:=os) (X:=fun w _=>laidMetH Tryz.prog laidOfRubrictextPrecedence w) false (World.laidAll Tryz.prog os laidOfRubrictextPrecedence) #[.int .u8 0,.int .u8 0] 8 (World.laidAll_os _ _ _) (World.shaped_of_ZipB (by kernel_rfl) (by kernel_rfl)) (by kernel_rfl) (by kernel_rfl) (by kernel_rfl) (by rw[MakeChecks.laidMetH_plain _ _ _ (by kernel_rfl)];exact laidMet_laidAll _ (by kernel_rfl) (by kernel_rfl)))
  (fun W base args es gs before h1 h2 _ hwt h3 _=>conRubrictextPrecedence W base args es gs before h1 h2 hwt h3)
theorem rubrictextPrecedence_holds:Rows.RubrictextPrecedenceSaid:=
 OpenClaim.holds_of_wide 5 Tryz.f5 rfl rfl rfl rfl rfl rfl rfl ⟨rfl,rfl,rfl,rfl,rfl⟩ rfl rfl rfl rfl rfl (by kernel_rfl) Tryz.func5 (by kernel_rfl)
  (of_decide_eq_true (by kernel_rfl)) (by unfold Func.isWrapper;first|(rw[if_pos (by decide +kernel)];kernel_rfl)|(rw[if_neg (by decide +kernel)];exact⟨rfl,rfl⟩))
  (fun os started H enc _=>liftedRubrictextPrecedence os started H enc)
theorem rubrictextPrecedence_card:Rows.RubrictextPrecedenceCardSaid:=
 Claim7.holds_tied_plain_at .later [] [.data, .data, .data, .data, .sentinel, .sentinel, .pinned] true (true, "8b6901f9c049a307a49058746c98b411e55be2f5df84ae42e00e90300fb9ed29") true
  rubrictextPrecedence_holds (fun _ h=>by cases h) (by kernel_rfl) (fun _ h=>by cases h) rubrictextPrecedence_row_tie rfl ⟨rfl,rfl⟩ (by kernel_rfl) rfl
  (fun f fn hf hfn=>by
   obtain rfl : f = 5 := Option.some.inj ((show Tryz.prog.funcNamed "assessor/assessorlaw47.RubrictextPrecedence" = some 5 by kernel_rfl).symm.trans hf) |>.symm
   obtain rfl:fn=Tryz.f5:=(Option.some.inj (Tryz.func5.symm.trans hfn)).symm
   exact⟨by kernel_rfl,fun j t ht=>by
    have hall:Tryz.f5.params.toList.all (fun t=>!Tryz.prog.wantsStandIn t)=true:=by kernel_rfl
    have hm:t∈Tryz.f5.params.toList:=by
     have:=Array.mem_of_getElem? ht
     simpa using this
    have:=List.all_eq_true.1 hall t hm
    show Tryz.prog.wantsStandIn t=false
    simpa using this⟩)
  (by kernel_rfl)
end Go.Proofs.YtcfclncbpeahnaaGreatDoor
