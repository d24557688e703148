import Derived.Test.YtldfegcegedkjaaGreatDoorR0
import Derived.Test.YtldfegcegedkjaaGreatDoorAB
import Derived.Test.YtldfegcegedkjaaGreatDoorAcD
import Derived.Test.YtldfegcegedkjaaGreatDoorTie
import Derived.Test.YtldfegcegedkjaaGreatDoorCards
/- The tied card of CreditAdds: whatever plain data come in, the law answers true, and its arguments read afterwards as before. Condition: the variables that the row lists begin as the text of the program lays them, which the card ties. -/
set_option autoImplicit false
namespace Go.Proofs.YtldfegcegedkjaaGreatDoor
open Go Go.Ab Go.ChangeShapes Go.WideShapes Go.ChangeAt Go.RowKit
set_option maxRecDepth 100000
abbrev laidOfCreditAdds : List (String × DataW Unit) := Rows.creditAddsRow.laid
theorem conCreditAdds {H : Type} {enc : TypeId × Value → H} : ∀ (W : World) (base : Nat) (args : Array Value) (es gs : List (DataW H)) (before : List MemPlace),
      (∀ (j : Nat) t v, Tryz.f9.params[j]? = some t → args[j]? = some v → Value.okWide Tryz.prog W .any base t v) →
      DataW.Whole enc Tryz.prog Tryz.f9.params.toList Rows.creditAddsSpec.vars false W args.toList es gs before → laidMetH Tryz.prog laidOfCreditAdds W →
      Calls Tryz.prog 9 args W fun e W' => ∃ v, e = .returned v ∧ Rows.creditAddsSpec.post enc Tryz.prog Tryz.f9 false true false false W args v W' :=
  law_row (shs := [(false, [.slc true [.str, .str, .int .i64, .bool, .int .i64, .int .i64, .int .i64]]), (true, [.int .i64, .int .i64])]) laidOut (by kernel_rfl) Tryz.underlying4 rfl (fun es hl => by
    obtain ⟨n, hn⟩ : ∃ n, Tryz.f9.params.toList.length = n := ⟨_, rfl⟩
    have : n = 2 := hn.symm.trans (by kernel_rfl)
    subst this
    rw [hn] at hl
    match es, hl with
    | [d0, d1], _ => simp only [Rows.creditAddsSpec]) (by kernel_rfl)
    (fun W hL xs hx => by
    obtain ⟨x0, _, rfl, ⟨_, _, he, ⟨n, f, hn, rfl, hf⟩, rfl⟩, x2, _, rfl, ⟨_, rfl, _, _, rfl, ⟨c, _, rfl⟩, _, _, rfl, ⟨d, _, rfl⟩, rfl⟩, rfl⟩ := hx
    simp only [List.cons.injEq, and_true] at he
    subst he
    obtain ⟨L, rfl, hL'⟩ := list_of (p := fun i (x : Ln) => f i = lnD x) ln0 (fun i hi => by
      obtain ⟨es, h1, _, _, rfl, ⟨a, _, rfl⟩, _, _, rfl, ⟨b, _, rfl⟩, _, _, rfl, ⟨c, _, rfl⟩, _, _, rfl, ⟨d, rfl⟩, _, _, rfl, ⟨e, _, rfl⟩, _, _, rfl, ⟨g, _, rfl⟩, _, _, rfl, ⟨h, _, rfl⟩, rfl⟩ := hf i hi
      exact ⟨⟨a, b, c, d, e, g, h⟩, h1⟩)
    refine (f9 (zero_of_laid (i := 3) hL (MakeChecks.laidMetH_plain _ _ _ (by kernel_rfl)) rfl) (tab_of_laid (i := 2) hL (MakeChecks.laidMetH_plain _ _ _ (by kernel_rfl)) rfl) L hn c d).args fun k => ?_
    exact DV.rels_cons (fun v h => DV.rel_slc_congr hL' h) (DV.rels_cons (fun _ h => h) (fun _ h => h)))
theorem doorCreditAdds (os : Os) (args : Array Value) : laidMetH Tryz.prog laidOfCreditAdds ((World.doorLaid Tryz.prog 72 os).forCall (fun _ _ => 0) ⟨#[], args, []⟩).memory :=
  laidMetH_of_parts3 (fuel := 8) (laidMet_of_run' 8 (by kernel_rfl) (by kernel_rfl)) (by kernel_rfl) (by kernel_rfl)
theorem liftedCreditAdds (os : Os) (started : os.Started) (H : Type) (enc : TypeId × Value → H) :
    ReturnsInHanded {} Tryz.checked os 9 .any (fun w args => (Rows.creditAddsSpec.pre enc Tryz.prog Tryz.f9 [] false w args ∧ laidMetH Tryz.prog laidOfCreditAdds w) ∧ sizedMet enc Tryz.prog Tryz.f9 (OpenSpec.ofChange Rows.creditAddsSpec) false w args)
      (Rows.creditAddsSpec.post enc Tryz.prog Tryz.f9 false true false false) :=
  returnsInHanded_of_change_and (C := Tryz.checked) (X := fun w _ => laidMetH Tryz.prog laidOfCreditAdds w) (fun _ _ _ hh h => h.of_heap hh) own started (by kernel_rfl) Tryz.func9
    (ChangeSpec.witness_shaped (enc := enc) (C := Tryz.checked) (os := os) (X := fun w _ => laidMetH Tryz.prog laidOfCreditAdds w) false (World.doorLaid Tryz.prog 72 os) #[.slice none 0 0, .agg #[.int .i64 0, .int .i64 0]] 8 rfl (World.shaped_of_RefB (by kernel_rfl) (by kernel_rfl)) (by kernel_rfl) (by kernel_rfl) (by kernel_rfl) (doorCreditAdds os _))
    (fun W base args es gs before h1 h2 _ _ h3 _ => conCreditAdds W base args es gs before h1 h2 h3)
theorem creditAdds_holds : Rows.CreditAddsSaid :=
  OpenClaim.holds_of_wide 9 Tryz.f9 rfl rfl rfl rfl rfl rfl rfl ⟨rfl, rfl, rfl, rfl, rfl⟩ rfl rfl rfl rfl rfl (by kernel_rfl) Tryz.func9 (by kernel_rfl)
    (of_decide_eq_true (by kernel_rfl)) (by unfold Func.isWrapper; first | (rw [if_pos (by decide +kernel)]; kernel_rfl) | (rw [if_neg (by decide +kernel)]; exact ⟨rfl, rfl⟩))
    (fun os started H enc _ => liftedCreditAdds os started H enc)
theorem creditAdds_card : Rows.CreditAddsCardSaid :=
  Claim7.holds_tied_plain_at .later [] [.data, .data, .data, .data] true (true, "e445c17c06a9ba1710d9d393a3aa26a20b942097b3a96140e8add475a1a3fb1f") false
    creditAdds_holds (fun _ h => by cases h) (by kernel_rfl) (fun _ h => by cases h) creditAdds_row_tie rfl ⟨rfl, rfl⟩ (by kernel_rfl) rfl
    (fun f fn hf hfn => by
      obtain rfl : f = 9 := Option.some.inj ((show Tryz.prog.funcNamed "assessor/assessorlaw50.CreditAdds" = some 9 by kernel_rfl).symm.trans hf) |>.symm
      obtain rfl : fn = Tryz.f9 := (Option.some.inj (Tryz.func9.symm.trans hfn)).symm
      exact ⟨by kernel_rfl, fun j t ht => by
        have hall : Tryz.f9.params.toList.all (fun t => !Tryz.prog.wantsStandIn t) = true := by kernel_rfl
        have hm : t ∈ Tryz.f9.params.toList := by
          have := Array.mem_of_getElem? ht
          simpa using this
        have := List.all_eq_true.1 hall t hm
        show Tryz.prog.wantsStandIn t = false
        simpa using this⟩)
    (by kernel_rfl)
end Go.Proofs.YtldfegcegedkjaaGreatDoor
