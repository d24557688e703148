/- The tied card of FractionRounds: whatever plain data come in, the law answers true, and its arguments read afterwards as before. Condition: the variables that the row lists begin as the text of the program lays them, which the card ties. -/
import Derived.Test.YthijempdiheabaaDoorR0
import Derived.Test.YthijempdiheabaaDoorF10
import Derived.Test.YthijempdiheabaaDoorTie
import Derived.Test.YthijempdiheabaaDoorCards
set_option autoImplicit false
namespace Go.Proofs.YthijempdiheabaaDoor
open Go Go.Ab Go.ChangeShapes Go.WideShapes Go.ChangeAt Go.RowKit
set_option maxRecDepth 100000
abbrev laidOfFractionRounds : List (String × DataW Unit) := Rows.fractionRoundsRow.laid
theorem conFractionRounds {H : Type} {enc : TypeId × Value → H} : ∀ (W : World) (base : Nat) (args : Array Value) (es gs : List (DataW H)) (before : List MemPlace),
      (∀ (j : Nat) t v, Tryd.f5.params[j]? = some t → args[j]? = some v → Value.okWide Tryd.prog W .any base t v) →
      DataW.Whole enc Tryd.prog Tryd.f5.params.toList Rows.fractionRoundsSpec.vars false W args.toList es gs before → laidMetH Tryd.prog laidOfFractionRounds W →
      Calls Tryd.prog 5 args W fun e W' => ∃ v, e = .returned v ∧ Rows.fractionRoundsSpec.post enc Tryd.prog Tryd.f5 false true false false W args v W' :=
  law_row (shs := [(true, [.int .i64, .int .i64]), (true, [.int .i64, .int .i64])]) laidOut (by kernel_rfl) Tryd.underlying4 rfl (fun es hl => by
    obtain ⟨n, hn⟩ : ∃ n, Tryd.f5.params.toList.length = n := ⟨_, rfl⟩
    have : n = 2 := hn.symm.trans (by kernel_rfl)
    subst this
    rw [hn] at hl
    match es, hl with
    | [d0, d1], _ => simp only [Rows.fractionRoundsSpec]) (by kernel_rfl)
    (fun W hL xs hx => by
    obtain ⟨x0, _, rfl, ⟨_, rfl, _, _, rfl, ⟨a, _, rfl⟩, _, _, rfl, ⟨b, _, rfl⟩, rfl⟩, x1, _, rfl, ⟨_, rfl, _, _, rfl, ⟨c, _, rfl⟩, _, _, rfl, ⟨d, _, rfl⟩, rfl⟩, rfl⟩ := hx
    exact f5 (tab_of_laid (i := 2) hL (MakeChecks.laidMetH_plain _ _ _ (by kernel_rfl)) rfl) a b c d)
theorem doorFractionRounds (os : Os) (args : Array Value) : laidMetH Tryd.prog laidOfFractionRounds ((World.doorLaid Tryd.prog 72 os).forCall (fun _ _ => 0) ⟨#[], args, []⟩).memory :=
  laidMetH_of_parts3 (fuel := 8) (laidMet_of_run' 8 (by kernel_rfl) (by kernel_rfl)) (by kernel_rfl) (by kernel_rfl)
theorem liftedFractionRounds (os : Os) (started : os.Started) (H : Type) (enc : TypeId × Value → H) :
    ReturnsInHanded {} Tryd.checked os 5 .any (fun w args => (Rows.fractionRoundsSpec.pre enc Tryd.prog Tryd.f5 [] false w args ∧ laidMetH Tryd.prog laidOfFractionRounds w) ∧ sizedMet enc Tryd.prog Tryd.f5 (OpenSpec.ofChange Rows.fractionRoundsSpec) false w args)
      (Rows.fractionRoundsSpec.post enc Tryd.prog Tryd.f5 false true false false) :=
  returnsInHanded_of_change_and (C := Tryd.checked) (X := fun w _ => laidMetH Tryd.prog laidOfFractionRounds w) (fun _ _ _ hh h => h.of_heap hh) own started (by kernel_rfl) Tryd.func5
    (ChangeSpec.witness_shaped (enc := enc) (C := Tryd.checked) (os := os) (X := fun w _ => laidMetH Tryd.prog laidOfFractionRounds w) false (World.doorLaid Tryd.prog 72 os) #[.agg #[.int .i64 0, .int .i64 0], .agg #[.int .i64 0, .int .i64 0]] 8 rfl (World.shaped_of_RefB (by kernel_rfl) (by kernel_rfl)) (by kernel_rfl) (by kernel_rfl) (by kernel_rfl) (doorFractionRounds os _))
    (fun W base args es gs before h1 h2 _ _ h3 _ => conFractionRounds W base args es gs before h1 h2 h3)
theorem fractionRounds_holds : Rows.FractionRoundsSaid :=
  OpenClaim.holds_of_wide 5 Tryd.f5 rfl rfl rfl rfl rfl rfl rfl ⟨rfl, rfl, rfl, rfl, rfl⟩ rfl rfl rfl rfl rfl (by kernel_rfl) Tryd.func5 (by kernel_rfl)
    (of_decide_eq_true (by kernel_rfl)) (by unfold Func.isWrapper; first | (rw [if_pos (by decide +kernel)]; kernel_rfl) | (rw [if_neg (by decide +kernel)]; exact ⟨rfl, rfl⟩))
    (fun os started H enc _ => liftedFractionRounds os started H enc)
theorem fractionRounds_card : Rows.FractionRoundsCardSaid :=
  Claim7.holds_tied_plain_at .later [] [.data, .data, .data] true (true, "70a128bd4012baccba06632e947f581454acf590ecfd754a435359186d04f7c0") true
    fractionRounds_holds (fun _ h => by cases h) (by kernel_rfl) (fun _ h => by cases h) fractionRounds_row_tie rfl ⟨rfl, rfl⟩ (by kernel_rfl) rfl
    (fun f fn hf hfn => by
      obtain rfl : f = 5 := Option.some.inj ((show Tryd.prog.funcNamed "assessor/assessorlaw46.FractionRounds" = some 5 by kernel_rfl).symm.trans hf) |>.symm
      obtain rfl : fn = Tryd.f5 := (Option.some.inj (Tryd.func5.symm.trans hfn)).symm
      exact ⟨by kernel_rfl, fun j t ht => by
        have hall : Tryd.f5.params.toList.all (fun t => !Tryd.prog.wantsStandIn t) = true := by kernel_rfl
        have hm : t ∈ Tryd.f5.params.toList := by
          have := Array.mem_of_getElem? ht
          simpa using this
        have := List.all_eq_true.1 hall t hm
        show Tryd.prog.wantsStandIn t = false
        simpa using this⟩)
    (by kernel_rfl)
end Go.Proofs.YthijempdiheabaaDoor
