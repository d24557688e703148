/- The tied card of FractionResults: whatever plain data come in, the law answers true, and its arguments read afterwards as before. Condition: the variables that the row lists begin as the text of the program lays them, which the card ties. -/
import Derived.Test.YthijempdiheabaaDoorR0
import Derived.Test.YthijempdiheabaaDoorF14
import Derived.Test.YthijempdiheabaaDoorAb17
import Derived.Test.YthijempdiheabaaDoorTie
import Derived.Test.YthijempdiheabaaDoorCards
set_option autoImplicit false
namespace Go.Proofs.YthijempdiheabaaDoor
open Go Go.Ab Go.ChangeShapes Go.WideShapes Go.ChangeAt Go.RowKit
set_option maxRecDepth 100000
abbrev laidOfFractionResults : List (String × DataW Unit) := Rows.fractionResultsRow.laid
theorem conFractionResults {H : Type} {enc : TypeId × Value → H} : ∀ (W : World) (base : Nat) (args : Array Value) (es gs : List (DataW H)) (before : List MemPlace),
      (∀ (j : Nat) t v, Tryd.f7.params[j]? = some t → args[j]? = some v → Value.okWide Tryd.prog W .any base t v) →
      DataW.Whole enc Tryd.prog Tryd.f7.params.toList Rows.fractionResultsSpec.vars false W args.toList es gs before → laidMetH Tryd.prog laidOfFractionResults W →
      Calls Tryd.prog 7 args W fun e W' => ∃ v, e = .returned v ∧ Rows.fractionResultsSpec.post enc Tryd.prog Tryd.f7 false true false false W args v W' :=
  law_row (shs := [(true, [.int .i64, .int .i64]), (true, [.int .i64, .int .i64]), (false, [.slc true [.int .i64, .int .i64]])]) laidOut (by kernel_rfl) Tryd.underlying4 rfl (fun es hl => by
    obtain ⟨n, hn⟩ : ∃ n, Tryd.f7.params.toList.length = n := ⟨_, rfl⟩
    have : n = 3 := hn.symm.trans (by kernel_rfl)
    subst this
    rw [hn] at hl
    match es, hl with
    | [d0, d1, d2], _ => simp only [Rows.fractionResultsSpec]) (by kernel_rfl)
    (fun W hL xs hx => by
    obtain ⟨x0, _, rfl, ⟨_, rfl, _, _, rfl, ⟨a, _, rfl⟩, _, _, rfl, ⟨b, _, rfl⟩, rfl⟩, x1, _, rfl, ⟨_, rfl, _, _, rfl, ⟨c, _, rfl⟩, _, _, rfl, ⟨d, _, rfl⟩, rfl⟩, x2, _, rfl, ⟨_, _, he, ⟨n, f, hn, rfl, hf⟩, rfl⟩, rfl⟩ := hx
    simp only [List.cons.injEq, and_true] at he
    subst he
    obtain ⟨L, rfl, hL'⟩ := list_of (p := fun i (x : Int × Int) => f i = fr x.1 x.2) (0, 0) (fun i hi => by
      obtain ⟨es, h1, _, _, rfl, ⟨x, _, rfl⟩, _, _, rfl, ⟨y, _, rfl⟩, rfl⟩ := hf i hi
      exact ⟨(x, y), h1⟩)
    refine (f7 (tab_of_laid (i := 2) hL (MakeChecks.laidMetH_plain _ _ _ (by kernel_rfl)) rfl) a b c d L).args fun k => ?_
    exact DV.rels_cons (fun _ h => h) (DV.rels_cons (fun _ h => h) (DV.rels_cons (fun v h => DV.rel_slc_congr hL' h) (fun _ h => h))))
theorem doorFractionResults (os : Os) (args : Array Value) : laidMetH Tryd.prog laidOfFractionResults ((World.doorLaid Tryd.prog 72 os).forCall (fun _ _ => 0) ⟨#[], args, []⟩).memory :=
  laidMetH_of_parts3 (fuel := 8) (laidMet_of_run' 8 (by kernel_rfl) (by kernel_rfl)) (by kernel_rfl) (by kernel_rfl)
theorem liftedFractionResults (os : Os) (started : os.Started) (H : Type) (enc : TypeId × Value → H) :
    ReturnsInHanded {} Tryd.checked os 7 .any (fun w args => (Rows.fractionResultsSpec.pre enc Tryd.prog Tryd.f7 [] false w args ∧ laidMetH Tryd.prog laidOfFractionResults w) ∧ sizedMet enc Tryd.prog Tryd.f7 (OpenSpec.ofChange Rows.fractionResultsSpec) false w args)
      (Rows.fractionResultsSpec.post enc Tryd.prog Tryd.f7 false true false false) :=
  returnsInHanded_of_change_and (C := Tryd.checked) (X := fun w _ => laidMetH Tryd.prog laidOfFractionResults w) (fun _ _ _ hh h => h.of_heap hh) own started (by kernel_rfl) Tryd.func7
    (ChangeSpec.witness_shaped (enc := enc) (C := Tryd.checked) (os := os) (X := fun w _ => laidMetH Tryd.prog laidOfFractionResults w) false (World.doorLaid Tryd.prog 72 os) #[.agg #[.int .i64 0, .int .i64 0], .agg #[.int .i64 0, .int .i64 0], .slice none 0 0] 8 rfl (World.shaped_of_RefB (by kernel_rfl) (by kernel_rfl)) (by kernel_rfl) (by kernel_rfl) (by kernel_rfl) (doorFractionResults os _))
    (fun W base args es gs before h1 h2 _ _ h3 _ => conFractionResults W base args es gs before h1 h2 h3)
theorem fractionResults_holds : Rows.FractionResultsSaid :=
  OpenClaim.holds_of_wide 7 Tryd.f7 rfl rfl rfl rfl rfl rfl rfl ⟨rfl, rfl, rfl, rfl, rfl⟩ rfl rfl rfl rfl rfl (by kernel_rfl) Tryd.func7 (by kernel_rfl)
    (of_decide_eq_true (by kernel_rfl)) (by unfold Func.isWrapper; first | (rw [if_pos (by decide +kernel)]; kernel_rfl) | (rw [if_neg (by decide +kernel)]; exact ⟨rfl, rfl⟩))
    (fun os started H enc _ => liftedFractionResults os started H enc)
theorem fractionResults_card : Rows.FractionResultsCardSaid :=
  Claim7.holds_tied_plain_at .later [] [.data, .data, .data] true (true, "70a128bd4012baccba06632e947f581454acf590ecfd754a435359186d04f7c0") true
    fractionResults_holds (fun _ h => by cases h) (by kernel_rfl) (fun _ h => by cases h) fractionResults_row_tie rfl ⟨rfl, rfl⟩ (by kernel_rfl) rfl
    (fun f fn hf hfn => by
      obtain rfl : f = 7 := Option.some.inj ((show Tryd.prog.funcNamed "assessor/assessorlaw46.FractionResults" = some 7 by kernel_rfl).symm.trans hf) |>.symm
      obtain rfl : fn = Tryd.f7 := (Option.some.inj (Tryd.func7.symm.trans hfn)).symm
      exact ⟨by kernel_rfl, fun j t ht => by
        have hall : Tryd.f7.params.toList.all (fun t => !Tryd.prog.wantsStandIn t) = true := by kernel_rfl
        have hm : t ∈ Tryd.f7.params.toList := by
          have := Array.mem_of_getElem? ht
          simpa using this
        have := List.all_eq_true.1 hall t hm
        show Tryd.prog.wantsStandIn t = false
        simpa using this⟩)
    (by kernel_rfl)
end Go.Proofs.YthijempdiheabaaDoor
