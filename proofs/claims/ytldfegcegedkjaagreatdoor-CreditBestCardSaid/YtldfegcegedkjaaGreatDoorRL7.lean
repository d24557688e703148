import Derived.Test.YtldfegcegedkjaaGreatDoorR0
import Derived.Test.YtldfegcegedkjaaGreatDoorY6
import Derived.Test.YtldfegcegedkjaaGreatDoorAcD
import Derived.Test.YtldfegcegedkjaaGreatDoorTie
import Derived.Test.YtldfegcegedkjaaGreatDoorCards
/- The tied card of CreditBest: whatever plain data come in, the law answers true, and its arguments read afterwards as before. Condition: the variables that the row lists begin as the text of the program lays them, which the card ties. -/
set_option autoImplicit false
namespace Go.Proofs.YtldfegcegedkjaaGreatDoor
open Go Go.Ab Go.ChangeShapes Go.WideShapes Go.ChangeAt Go.RowKit
set_option maxRecDepth 100000
abbrev laidOfCreditBest : List (String × DataW Unit) := Rows.creditBestRow.laid
theorem conCreditBest {H : Type} {enc : TypeId × Value → H} : ∀ (W : World) (base : Nat) (args : Array Value) (es gs : List (DataW H)) (before : List MemPlace),
      (∀ (j : Nat) t v, Tryz.f7.params[j]? = some t → args[j]? = some v → Value.okWide Tryz.prog W .any base t v) →
      DataW.Whole enc Tryz.prog Tryz.f7.params.toList Rows.creditBestSpec.vars false W args.toList es gs before → laidMetH Tryz.prog laidOfCreditBest W →
      Calls Tryz.prog 7 args W fun e W' => ∃ v, e = .returned v ∧ Rows.creditBestSpec.post enc Tryz.prog Tryz.f7 false true false false W args v W' :=
  law_row (shs := [(false, [.slc true [.str, .str, .int .i64, .bool, .int .i64, .int .i64, .int .i64]]), (false, [.int .u8]), (false, [.int .u8])]) laidOut (by kernel_rfl) Tryz.underlying4 rfl (fun es hl => by
    obtain ⟨n, hn⟩ : ∃ n, Tryz.f7.params.toList.length = n := ⟨_, rfl⟩
    have : n = 3 := hn.symm.trans (by kernel_rfl)
    subst this
    rw [hn] at hl
    match es, hl with
    | [d0, d1, d2], _ => simp only [Rows.creditBestSpec]) (by kernel_rfl)
    (fun W hL xs hx => by
    obtain ⟨x0, _, rfl, ⟨_, _, he, ⟨n, f, hn, rfl, hf⟩, rfl⟩, x1, _, rfl, ⟨_, _, he1, ⟨b, hb, rfl⟩, rfl⟩, x2, _, rfl, ⟨_, _, he2, ⟨c, hc, rfl⟩, rfl⟩, rfl⟩ := hx
    simp only [List.cons.injEq, and_true] at he he1 he2
    subst he; subst he1; subst he2
    obtain ⟨L, rfl, hL'⟩ := list_of (p := fun i (x : Ln) => f i = lnD x) ln0 (fun i hi => by
      obtain ⟨es, h1, _, _, rfl, ⟨a, _, rfl⟩, _, _, rfl, ⟨b, _, rfl⟩, _, _, rfl, ⟨c, _, rfl⟩, _, _, rfl, ⟨d, rfl⟩, _, _, rfl, ⟨e, _, rfl⟩, _, _, rfl, ⟨g, _, rfl⟩, _, _, rfl, ⟨h, _, rfl⟩, rfl⟩ := hf i hi
      exact ⟨⟨a, b, c, d, e, g, h⟩, h1⟩)
    refine (f7 (zero_of_laid (i := 3) hL (MakeChecks.laidMetH_plain _ _ _ (by kernel_rfl)) rfl) (tab_of_laid (i := 2) hL (MakeChecks.laidMetH_plain _ _ _ (by kernel_rfl)) rfl) L b c (by simp [Lit.wf, IntKind.min, IntKind.max, IntKind.signed, IntKind.bits] at hb; omega) (by simp [Lit.wf, IntKind.min, IntKind.max, IntKind.signed, IntKind.bits] at hc; omega) hn).args fun k => ?_
    exact DV.rels_cons (fun v h => DV.rel_slc_congr hL' h) (DV.rels_cons (fun _ h => h) (DV.rels_cons (fun _ h => h) (fun _ h => h))))
theorem doorCreditBest (os : Os) (args : Array Value) : laidMetH Tryz.prog laidOfCreditBest ((World.doorLaid Tryz.prog 72 os).forCall (fun _ _ => 0) ⟨#[], args, []⟩).memory :=
  laidMetH_of_parts3 (fuel := 8) (laidMet_of_run' 8 (by kernel_rfl) (by kernel_rfl)) (by kernel_rfl) (by kernel_rfl)
theorem liftedCreditBest (os : Os) (started : os.Started) (H : Type) (enc : TypeId × Value → H) :
    ReturnsInHanded {} Tryz.checked os 7 .any (fun w args => (Rows.creditBestSpec.pre enc Tryz.prog Tryz.f7 [] false w args ∧ laidMetH Tryz.prog laidOfCreditBest w) ∧ sizedMet enc Tryz.prog Tryz.f7 (OpenSpec.ofChange Rows.creditBestSpec) false w args)
      (Rows.creditBestSpec.post enc Tryz.prog Tryz.f7 false true false false) :=
  returnsInHanded_of_change_and (C := Tryz.checked) (X := fun w _ => laidMetH Tryz.prog laidOfCreditBest w) (fun _ _ _ hh h => h.of_heap hh) own started (by kernel_rfl) Tryz.func7
    (ChangeSpec.witness_shaped (enc := enc) (C := Tryz.checked) (os := os) (X := fun w _ => laidMetH Tryz.prog laidOfCreditBest w) false (World.doorLaid Tryz.prog 72 os) #[.slice none 0 0, .int .u8 0, .int .u8 0] 8 rfl (World.shaped_of_RefB (by kernel_rfl) (by kernel_rfl)) (by kernel_rfl) (by kernel_rfl) (by kernel_rfl) (doorCreditBest os _))
    (fun W base args es gs before h1 h2 _ _ h3 _ => conCreditBest W base args es gs before h1 h2 h3)
theorem creditBest_holds : Rows.CreditBestSaid :=
  OpenClaim.holds_of_wide 7 Tryz.f7 rfl rfl rfl rfl rfl rfl rfl ⟨rfl, rfl, rfl, rfl, rfl⟩ rfl rfl rfl rfl rfl (by kernel_rfl) Tryz.func7 (by kernel_rfl)
    (of_decide_eq_true (by kernel_rfl)) (by unfold Func.isWrapper; first | (rw [if_pos (by decide +kernel)]; kernel_rfl) | (rw [if_neg (by decide +kernel)]; exact ⟨rfl, rfl⟩))
    (fun os started H enc _ => liftedCreditBest os started H enc)
theorem creditBest_card : Rows.CreditBestCardSaid :=
  Claim7.holds_tied_plain_at .later [] [.data, .data, .data, .data] true (true, "e445c17c06a9ba1710d9d393a3aa26a20b942097b3a96140e8add475a1a3fb1f") false
    creditBest_holds (fun _ h => by cases h) (by kernel_rfl) (fun _ h => by cases h) creditBest_row_tie rfl ⟨rfl, rfl⟩ (by kernel_rfl) rfl
    (fun f fn hf hfn => by
      obtain rfl : f = 7 := Option.some.inj ((show Tryz.prog.funcNamed "assessor/assessorlaw50.CreditBest" = some 7 by kernel_rfl).symm.trans hf) |>.symm
      obtain rfl : fn = Tryz.f7 := (Option.some.inj (Tryz.func7.symm.trans hfn)).symm
      exact ⟨by kernel_rfl, fun j t ht => by
        have hall : Tryz.f7.params.toList.all (fun t => !Tryz.prog.wantsStandIn t) = true := by kernel_rfl
        have hm : t ∈ Tryz.f7.params.toList := by
          have := Array.mem_of_getElem? ht
          simpa using this
        have := List.all_eq_true.1 hall t hm
        show Tryz.prog.wantsStandIn t = false
        simpa using this⟩)
    (by kernel_rfl)
end Go.Proofs.YtldfegcegedkjaaGreatDoor
