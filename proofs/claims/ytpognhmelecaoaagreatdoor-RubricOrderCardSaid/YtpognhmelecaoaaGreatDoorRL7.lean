import Derived.Test.YtpognhmelecaoaaGreatDoorR0
import Derived.Test.YtpognhmelecaoaaGreatDoorRX
import Derived.Test.YtpognhmelecaoaaGreatDoorAcD
import Derived.Test.YtpognhmelecaoaaGreatDoorTie
import Derived.Test.YtpognhmelecaoaaGreatDoorCards
/- The tied card of RubricOrder: whatever plain data come in, the law answers true, and its arguments read afterwards as before. Condition: the variables that the row lists begin as the text of the program lays them, which the card ties. -/
set_option autoImplicit false
namespace Go.Proofs.YtpognhmelecaoaaGreatDoor
open Go Go.Ab Go.ChangeShapes Go.WideShapes Go.ChangeAt Go.RowKit
set_option maxRecDepth 100000
abbrev laidOfRubricOrder : List (String × DataW Unit) := Rows.rubricOrderRow.laid
theorem conRubricOrder {H : Type} {enc : TypeId × Value → H} : ∀ (W : World) (base : Nat) (args : Array Value) (es gs : List (DataW H)) (before : List MemPlace),
      (∀ (j : Nat) t v, Tryz.f9.params[j]? = some t → args[j]? = some v → Value.okWide Tryz.prog W .any base t v) →
      DataW.Whole enc Tryz.prog Tryz.f9.params.toList Rows.rubricOrderSpec.vars false W args.toList es gs before → (DataW.weightsEach Tryz.prog (Tryz.f9.params.toList ++ Rows.rubricOrderSpec.plain.varTypes Tryz.prog) (es ++ gs)).all (· ≤ reachBytes) = true → laidMetH Tryz.prog laidOfRubricOrder W →
      Calls Tryz.prog 9 args W fun e W' => ∃ v, e = .returned v ∧ Rows.rubricOrderSpec.post enc Tryz.prog Tryz.f9 false true false false W args v W' :=
  AbW.law_row (ow := ow24) (shs := [(false, [.slc true rlShW]), (false, [.slc true fcShW]), (false, [.int .u8])]) laidOut (by kernel_rfl) Tryz.underlying4 rfl (fun es hl => by
    obtain ⟨n, hn⟩ : ∃ n, Tryz.f9.params.toList.length = n := ⟨_, rfl⟩
    have : n = 3 := hn.symm.trans (by kernel_rfl)
    subst this
    rw [hn] at hl
    match es, hl with
    | [d0, d1, d2], _ => simp only [Rows.rubricOrderSpec]) (by kernel_rfl) (fun _ _ _ => how24)
    (fun W hL xs hx => by
    obtain ⟨x1, _, rfl, ⟨_, _, he1, ⟨n1, f1, hn1, rfl, hf1⟩, rfl⟩, x2, _, rfl, ⟨_, _, he2, ⟨n, f, hn, rfl, hf⟩, rfl⟩, x3, _, rfl, ⟨_, _, he3, ⟨u, hu, rfl⟩, rfl⟩, rfl⟩ := hx
    simp only [List.cons.injEq, and_true] at he1 he2 he3
    subst he1; subst he2; subst he3
    obtain ⟨R, rfl, hR', hRW⟩ := rules_ofW hf1
    obtain ⟨L, rfl, hL', hW'⟩ := facts_ofW hf
    have hu2 : 0 ≤ u ∧ u ≤ 255 := by
      unfold Lit.wf at hu
      rw [Bool.and_eq_true, decide_eq_true_eq, decide_eq_true_eq] at hu
      exact hu
    refine (f9 (tab_of_laid (i := 2) hL (MakeChecks.laidMetH_plain _ _ _ (by kernel_rfl)) rfl) R L u hu2 hn hW' hn1 hRW).args fun k => ?_
    exact DV.rels_cons (hR' k) (DV.rels_cons (hL' k) (DV.rels_cons (fun _ h => h) (fun _ h => h))))
theorem doorRubricOrder (os : Os) (args : Array Value) : laidMetH Tryz.prog laidOfRubricOrder ((World.doorLaid Tryz.prog 72 os).forCall (fun _ _ => 0) ⟨#[], args, []⟩).memory :=
  laidMetH_of_parts3 (fuel := 8) (laidMet_of_run' 8 (by kernel_rfl) (by kernel_rfl)) (by kernel_rfl) (by kernel_rfl)
theorem liftedRubricOrder (os : Os) (started : os.Started) (H : Type) (enc : TypeId × Value → H) :
    ReturnsInHanded {} Tryz.checked os 9 .any (fun w args => (Rows.rubricOrderSpec.pre enc Tryz.prog Tryz.f9 [] false w args ∧ laidMetH Tryz.prog laidOfRubricOrder w) ∧ sizedMet enc Tryz.prog Tryz.f9 (OpenSpec.ofChange Rows.rubricOrderSpec) false w args)
      (Rows.rubricOrderSpec.post enc Tryz.prog Tryz.f9 false true false false) :=
  returnsInHanded_of_change_and (C := Tryz.checked) (X := fun w _ => laidMetH Tryz.prog laidOfRubricOrder w) (fun _ _ _ hh h => h.of_heap hh) own started (by kernel_rfl) Tryz.func9
    (ChangeSpec.witness_shaped (enc := enc) (C := Tryz.checked) (os := os) (X := fun w _ => laidMetH Tryz.prog laidOfRubricOrder w) false (World.doorLaid Tryz.prog 72 os) #[.slice none 0 0, .slice none 0 0, .int .u8 0] 8 rfl (World.shaped_of_RefB (by kernel_rfl) (by kernel_rfl)) (by kernel_rfl) (by kernel_rfl) (by kernel_rfl) (doorRubricOrder os _))
    (fun W base args es gs before h1 h2 _ hwt h3 _ => conRubricOrder W base args es gs before h1 h2 hwt h3)
theorem rubricOrder_holds : Rows.RubricOrderSaid :=
  OpenClaim.holds_of_wide 9 Tryz.f9 rfl rfl rfl rfl rfl rfl rfl ⟨rfl, rfl, rfl, rfl, rfl⟩ rfl rfl rfl rfl rfl (by kernel_rfl) Tryz.func9 (by kernel_rfl)
    (of_decide_eq_true (by kernel_rfl)) (by unfold Func.isWrapper; first | (rw [if_pos (by decide +kernel)]; kernel_rfl) | (rw [if_neg (by decide +kernel)]; exact ⟨rfl, rfl⟩))
    (fun os started H enc _ => liftedRubricOrder os started H enc)
theorem rubricOrder_card : Rows.RubricOrderCardSaid :=
  Claim7.holds_tied_plain_at .later [] [.data, .data, .data] true (true, "b8edf26b1ee728e1d1628a4cca3b990437d0e5c7cad3c0ff1c58e6b739a78a50") false
    rubricOrder_holds (fun _ h => by cases h) (by kernel_rfl) (fun _ h => by cases h) rubricOrder_row_tie rfl ⟨rfl, rfl⟩ (by kernel_rfl) rfl
    (fun f fn hf hfn => by
      obtain rfl : f = 9 := Option.some.inj ((show Tryz.prog.funcNamed "assessor/assessorlaw48.RubricOrder" = some 9 by kernel_rfl).symm.trans hf) |>.symm
      obtain rfl : fn = Tryz.f9 := (Option.some.inj (Tryz.func9.symm.trans hfn)).symm
      exact ⟨by kernel_rfl, fun j t ht => by
        have hall : Tryz.f9.params.toList.all (fun t => !Tryz.prog.wantsStandIn t) = true := by kernel_rfl
        have hm : t ∈ Tryz.f9.params.toList := by
          have := Array.mem_of_getElem? ht
          simpa using this
        have := List.all_eq_true.1 hall t hm
        show Tryz.prog.wantsStandIn t = false
        simpa using this⟩)
    (by kernel_rfl)
end Go.Proofs.YtpognhmelecaoaaGreatDoor
