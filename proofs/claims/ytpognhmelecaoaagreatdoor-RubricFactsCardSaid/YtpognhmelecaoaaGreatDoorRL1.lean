import Derived.Test.YtpognhmelecaoaaGreatDoorR0
import Derived.Test.YtpognhmelecaoaaGreatDoorAcD
import Derived.Test.YtpognhmelecaoaaGreatDoorTie
import Derived.Test.YtpognhmelecaoaaGreatDoorCards
/- The tied card of RubricFacts: whatever plain data come in, the law answers true, and its arguments read afterwards as before. Condition: the variables that the row lists begin as the text of the program lays them, which the card ties. -/
set_option autoImplicit false
namespace Go.Proofs.YtpognhmelecaoaaGreatDoor
open Go Go.Ab Go.ChangeShapes Go.WideShapes Go.ChangeAt Go.RowKit
set_option maxRecDepth 100000
abbrev laidOfRubricFacts : List (String × DataW Unit) := Rows.rubricFactsRow.laid
theorem conRubricFacts {H : Type} {enc : TypeId × Value → H} : ∀ (W : World) (base : Nat) (args : Array Value) (es gs : List (DataW H)) (before : List MemPlace),
      (∀ (j : Nat) t v, Tryz.f5.params[j]? = some t → args[j]? = some v → Value.okWide Tryz.prog W .any base t v) →
      DataW.Whole enc Tryz.prog Tryz.f5.params.toList Rows.rubricFactsSpec.vars false W args.toList es gs before → laidMetH Tryz.prog laidOfRubricFacts W →
      Calls Tryz.prog 5 args W fun e W' => ∃ v, e = .returned v ∧ Rows.rubricFactsSpec.post enc Tryz.prog Tryz.f5 false true false false W args v W' :=
  law_row (shs := [(false, [.slc true [.str, .int .i64, .int .i64, .int .i64, .int .i64, .int .i64, .slc false [.str]]])]) laidOut (by kernel_rfl) Tryz.underlying4 rfl (fun es hl => by
    obtain ⟨n, hn⟩ : ∃ n, Tryz.f5.params.toList.length = n := ⟨_, rfl⟩
    have : n = 1 := hn.symm.trans (by kernel_rfl)
    subst this
    rw [hn] at hl
    match es, hl with
    | [d0], _ => simp only [Rows.rubricFactsSpec]) (by kernel_rfl)
    (fun W hL xs hx => by
    obtain ⟨x0, _, rfl, ⟨_, _, he, ⟨n, f, hn, rfl, hf⟩, rfl⟩, rfl⟩ := hx
    simp only [List.cons.injEq, and_true] at he
    subst he
    obtain ⟨L, rfl, hL', hW'⟩ := facts_of hf
    refine (f5 (tab_of_laid (i := 2) hL (MakeChecks.laidMetH_plain _ _ _ (by kernel_rfl)) rfl) L hn hW').args fun k => ?_
    exact DV.rels_cons (hL' k) (fun _ h => h))
theorem doorRubricFacts (os : Os) (args : Array Value) : laidMetH Tryz.prog laidOfRubricFacts ((World.doorLaid Tryz.prog 72 os).forCall (fun _ _ => 0) ⟨#[], args, []⟩).memory :=
  laidMetH_of_parts3 (fuel := 8) (laidMet_of_run' 8 (by kernel_rfl) (by kernel_rfl)) (by kernel_rfl) (by kernel_rfl)
theorem liftedRubricFacts (os : Os) (started : os.Started) (H : Type) (enc : TypeId × Value → H) :
    ReturnsInHanded {} Tryz.checked os 5 .any (fun w args => (Rows.rubricFactsSpec.pre enc Tryz.prog Tryz.f5 [] false w args ∧ laidMetH Tryz.prog laidOfRubricFacts w) ∧ sizedMet enc Tryz.prog Tryz.f5 (OpenSpec.ofChange Rows.rubricFactsSpec) false w args)
      (Rows.rubricFactsSpec.post enc Tryz.prog Tryz.f5 false true false false) :=
  returnsInHanded_of_change_and (C := Tryz.checked) (X := fun w _ => laidMetH Tryz.prog laidOfRubricFacts w) (fun _ _ _ hh h => h.of_heap hh) own started (by kernel_rfl) Tryz.func5
    (ChangeSpec.witness_shaped (enc := enc) (C := Tryz.checked) (os := os) (X := fun w _ => laidMetH Tryz.prog laidOfRubricFacts w) false (World.doorLaid Tryz.prog 72 os) #[.slice none 0 0] 8 rfl (World.shaped_of_RefB (by kernel_rfl) (by kernel_rfl)) (by kernel_rfl) (by kernel_rfl) (by kernel_rfl) (doorRubricFacts os _))
    (fun W base args es gs before h1 h2 _ _ h3 _ => conRubricFacts W base args es gs before h1 h2 h3)
theorem rubricFacts_holds : Rows.RubricFactsSaid :=
  OpenClaim.holds_of_wide 5 Tryz.f5 rfl rfl rfl rfl rfl rfl rfl ⟨rfl, rfl, rfl, rfl, rfl⟩ rfl rfl rfl rfl rfl (by kernel_rfl) Tryz.func5 (by kernel_rfl)
    (of_decide_eq_true (by kernel_rfl)) (by unfold Func.isWrapper; first | (rw [if_pos (by decide +kernel)]; kernel_rfl) | (rw [if_neg (by decide +kernel)]; exact ⟨rfl, rfl⟩))
    (fun os started H enc _ => liftedRubricFacts os started H enc)
theorem rubricFacts_card : Rows.RubricFactsCardSaid :=
  Claim7.holds_tied_plain_at .later [] [.data, .data, .data] true (true, "b8edf26b1ee728e1d1628a4cca3b990437d0e5c7cad3c0ff1c58e6b739a78a50") false
    rubricFacts_holds (fun _ h => by cases h) (by kernel_rfl) (fun _ h => by cases h) rubricFacts_row_tie rfl ⟨rfl, rfl⟩ (by kernel_rfl) rfl
    (fun f fn hf hfn => by
      obtain rfl : f = 5 := Option.some.inj ((show Tryz.prog.funcNamed "assessor/assessorlaw48.RubricFacts" = some 5 by kernel_rfl).symm.trans hf) |>.symm
      obtain rfl : fn = Tryz.f5 := (Option.some.inj (Tryz.func5.symm.trans hfn)).symm
      exact ⟨by kernel_rfl, fun j t ht => by
        have hall : Tryz.f5.params.toList.all (fun t => !Tryz.prog.wantsStandIn t) = true := by kernel_rfl
        have hm : t ∈ Tryz.f5.params.toList := by
          have := Array.mem_of_getElem? ht
          simpa using this
        have := List.all_eq_true.1 hall t hm
        show Tryz.prog.wantsStandIn t = false
        simpa using this⟩)
    (by kernel_rfl)
end Go.Proofs.YtpognhmelecaoaaGreatDoor