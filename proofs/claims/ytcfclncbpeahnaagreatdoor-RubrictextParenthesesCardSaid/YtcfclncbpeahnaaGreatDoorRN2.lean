import Derived.Test.YtcfclncbpeahnaaGreatDoorG7
import Derived.Test.YtcfclncbpeahnaaGreatDoorAcD
import Derived.Test.YtcfclncbpeahnaaGreatDoorTie
import Derived.Test.YtcfclncbpeahnaaGreatDoorCards
/- The tied card of RubrictextParentheses: whatever plain data come in,the law answers true,and its arguments read afterwards as before. Condition: the variables that the row lists begin as the text of the program lays them,which the card ties. -/
set_option autoImplicit false
namespace Go.Proofs.YtcfclncbpeahnaaGreatDoor
open Go Go.Ab Go.ChangeShapes Go.WideShapes Go.ChangeAt Go.RowKit
set_option maxRecDepth 100000
abbrev laidOfRubrictextParentheses:List (String×DataW Unit):=Rows.rubrictextParenthesesRow.laid
theorem conRubrictextParentheses {H:Type} {enc:TypeId×Value→H}:∀(W:World) (base:Nat) (args:Array Value) (es gs:List (DataW H)) (before:List MemPlace),
   (∀(j:Nat) t v,Tryz.f4.params[j]?=some t→args[j]?=some v→Value.okWide Tryz.prog W .any base t v)→
   DataW.Whole enc Tryz.prog Tryz.f4.params.toList Rows.rubrictextParenthesesSpec.vars false W args.toList es gs before→(DataW.weightsEach Tryz.prog (Tryz.f4.params.toList++Rows.rubrictextParenthesesSpec.plain.varTypes Tryz.prog) (es++gs)).all (·≤reachBytes)=true→laidMetH Tryz.prog laidOfRubrictextParentheses W→
   Calls Tryz.prog 4 args W fun e W'=>∃v,e=.returned v∧Rows.rubrictextParenthesesSpec.post enc Tryz.prog Tryz.f4 false true false false W args v W':=
 AbW.law_row (ow:=ow32) (shs:=[(true,exShW)]) laidOut (by kernel_rfl) Tryz.underlying4 rfl (fun es hl=>by
  obtain ⟨n,hn⟩:∃n,Tryz.f4.params.toList.length=n:=⟨_,rfl⟩
  have:n=1:=hn.symm.trans (by kernel_rfl)
  subst this
  rw[hn] at hl
  match es,hl with
  | [d0],_=>simp only[Rows.rubrictextParenthesesSpec]) (by kernel_rfl) (fun _ _ _=>how32)
  (fun W hL xs hx=>by
  obtain ⟨x1,_,rfl,⟨es1,rfl,hE1⟩,rfl⟩:=hx
  obtain ⟨x,m,hm,hwx,hex⟩:=ex_ofW hE1
  rw[hex]
  exact f4 (tab_of_laid (i:=2) hL (MakeChecks.laidMetH_plain _ _ _ (by kernel_rfl)) rfl) m x hm hwx)
theorem liftedRubrictextParentheses (os:Os) (started:os.Started) (H:Type) (enc:TypeId×Value→H) :
  ReturnsInHanded {} Tryz.checked os 4 .any (fun w args=>(Rows.rubrictextParenthesesSpec.pre enc Tryz.prog Tryz.f4 [] false w args∧laidMetH Tryz.prog laidOfRubrictextParentheses w)∧sizedMet enc Tryz.prog Tryz.f4 (OpenSpec.ofChange Rows.rubrictextParenthesesSpec) false w args)
   (Rows.rubrictextParenthesesSpec.post enc Tryz.prog Tryz.f4 false true false false):=
 returnsInHanded_of_change_and (C:=Tryz.checked) (X:=fun w _=>laidMetH Tryz.prog laidOfRubrictextParentheses w) (fun _ _ _ hh h=>h.of_heap hh) own started (by kernel_rfl) Tryz.func4
  (ChangeSpec.witness_shaped (enc:=enc) (C:=Tryz.checked) (os:=os) (X:=fun w _=>laidMetH Tryz.prog laidOfRubrictextParentheses w) false (World.laidAll Tryz.prog os laidOfRubrictextParentheses) #[.agg #[.int .i64 0,.string .empty,.int .i64 0,.int .i64 0,.int .i64 0,.slice none 0 0]] 8 (World.laidAll_os _ _ _) (World.shaped_of_ZipB (by kernel_rfl) (by kernel_rfl)) (by kernel_rfl) (by kernel_rfl) (by kernel_rfl) (by rw[MakeChecks.laidMetH_plain _ _ _ (by kernel_rfl)];exact laidMet_laidAll _ (by kernel_rfl) (by kernel_rfl)))
  (fun W base args es gs before h1 h2 _ hwt h3 _=>conRubrictextParentheses W base args es gs before h1 h2 hwt h3)
theorem rubrictextParentheses_holds:Rows.RubrictextParenthesesSaid:=
 OpenClaim.holds_of_wide 4 Tryz.f4 rfl rfl rfl rfl rfl rfl rfl ⟨rfl,rfl,rfl,rfl,rfl⟩ rfl rfl rfl rfl rfl (by kernel_rfl) Tryz.func4 (by kernel_rfl)
  (of_decide_eq_true (by kernel_rfl)) (by unfold Func.isWrapper;first|(rw[if_pos (by decide +kernel)];kernel_rfl)|(rw[if_neg (by decide +kernel)];exact⟨rfl,rfl⟩))
  (fun os started H enc _=>liftedRubrictextParentheses os started H enc)
theorem rubrictextParentheses_card:Rows.RubrictextParenthesesCardSaid:=
 Claim7.holds_tied_plain_at .later [] [.data, .data, .data, .data, .sentinel, .sentinel, .pinned] true (true, "8b6901f9c049a307a49058746c98b411e55be2f5df84ae42e00e90300fb9ed29") true
  rubrictextParentheses_holds (fun _ h=>by cases h) (by kernel_rfl) (fun _ h=>by cases h) rubrictextParentheses_row_tie rfl ⟨rfl,rfl⟩ (by kernel_rfl) rfl
  (fun f fn hf hfn=>by
   obtain rfl : f = 4 := Option.some.inj ((show Tryz.prog.funcNamed "assessor/assessorlaw47.RubrictextParentheses" = some 4 by kernel_rfl).symm.trans hf) |>.symm
   obtain rfl:fn=Tryz.f4:=(Option.some.inj (Tryz.func4.symm.trans hfn)).symm
   exact⟨by kernel_rfl,fun j t ht=>by
    have hall:Tryz.f4.params.toList.all (fun t=>!Tryz.prog.wantsStandIn t)=true:=by kernel_rfl
    have hm:t∈Tryz.f4.params.toList:=by
     have:=Array.mem_of_getElem? ht
     simpa using this
    have:=List.all_eq_true.1 hall t hm
    show Tryz.prog.wantsStandIn t=false
    simpa using this⟩)
  (by kernel_rfl)
end Go.Proofs.YtcfclncbpeahnaaGreatDoor
