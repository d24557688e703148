import Derived.Test.YtldfegcegedkjaaGreatDoorR0
import Derived.Test.YtldfegcegedkjaaGreatDoorSB
import Derived.Test.YtldfegcegedkjaaGreatDoorAcD
import Derived.Test.YtldfegcegedkjaaGreatDoorTie
import Derived.Test.YtldfegcegedkjaaGreatDoorCards
/- The tied card of CreditScales: whatever plain data come in, the law answers true, and its arguments read afterwards as before. Condition: the variables that the row lists begin as the text of the program lays them, which the card ties. -/
set_option autoImplicit false
namespace Go.Proofs.YtldfegcegedkjaaGreatDoor
open Go Go.Ab Go.ChangeShapes Go.WideShapes Go.ChangeAt Go.RowKit
set_option maxRecDepth 100000
abbrev laidOfCreditScales : List (String × DataW Unit) := Rows.creditScalesRow.laid
theorem conCreditScales {H : Type} {enc : TypeId × Value → H} : ∀ (W : World) (base : Nat) (args : Array Value) (es gs : List (DataW H)) (before : List MemPlace),
      (∀ (j : Nat) t v, Tryz.f8.params[j]? = some t → args[j]? = some v → Value.okWide Tryz.prog W .any base t v) →
      DataW.Whole enc Tryz.prog Tryz.f8.params.toList Rows.creditScalesSpec.vars false W args.toList es gs before → laidMetH Tryz.prog laidOfCreditScales W →
      Calls Tryz.prog 8 args W fun e W' => ∃ v, e = .returned v ∧ Rows.creditScalesSpec.post enc Tryz.prog Tryz.f8 false true false false W args v W' :=
  law_row (shs := [(true, [.slc true [.str, .int .i64, .int .i64], .int .i64, .int .i64, .int .i64]), (false, [.str]), (true, [.int .i64, .int .i64])]) laidOut (by kernel_rfl) Tryz.underlying4 rfl (fun es hl => by
    obtain ⟨n, hn⟩ : ∃ n, Tryz.f8.params.toList.length = n := ⟨_, rfl⟩
    have : n = 3 := hn.symm.trans (by kernel_rfl)
    subst this
    rw [hn] at hl
    match es, hl with
    | [d0, d1, d2], _ => simp only [Rows.creditScalesSpec]) (by kernel_rfl)
    (fun W hL xs hx => by
    obtain ⟨x0, _, rfl, ⟨_, rfl, _, _, rfl, ⟨n, f, hn, rfl, hf⟩, _, _, rfl, ⟨p, _, rfl⟩, _, _, rfl, ⟨q, _, rfl⟩, _, _, rfl, ⟨h, _, rfl⟩, rfl⟩, x1, _, rfl, ⟨_, _, he1, ⟨b, hb, rfl⟩, rfl⟩, x2, _, rfl, ⟨_, rfl, _, _, rfl, ⟨c, _, rfl⟩, _, _, rfl, ⟨d, _, rfl⟩, rfl⟩, rfl⟩ := hx
    simp only [List.cons.injEq, and_true] at he1
    subst he1
    obtain ⟨L, rfl, hL'⟩ := list_of (p := fun i (x : Pt) => f i = .agg [ds x.1, di x.2.1, di x.2.2]) (.empty, 0, 0) (fun i hi => by
      obtain ⟨es, h1, _, _, rfl, ⟨a, _, rfl⟩, _, _, rfl, ⟨b, _, rfl⟩, _, _, rfl, ⟨c, _, rfl⟩, rfl⟩ := hf i hi
      exact ⟨(a, b, c), h1⟩)
    refine (f8 (zero_of_laid (i := 3) hL (MakeChecks.laidMetH_plain _ _ _ (by kernel_rfl)) rfl) (tab_of_laid (i := 2) hL (MakeChecks.laidMetH_plain _ _ _ (by kernel_rfl)) rfl) L p q h hn b c d).args fun k => ?_
    refine DV.rels_cons (fun v hv => ?_) (DV.rels_cons (fun _ h => h) (DV.rels_cons (fun _ h => h) (fun _ h => h)))
    obtain ⟨us, rfl, w1, us1, rfl, h1, h2⟩ := hv
    exact ⟨_, rfl, _, _, rfl, DV.rel_slc_congr (fun i hi => (hL' i hi)) h1, h2⟩)
theorem doorCreditScales (os : Os) (args : Array Value) : laidMetH Tryz.prog laidOfCreditScales ((World.doorLaid Tryz.prog 72 os).forCall (fun _ _ => 0) ⟨#[], args, []⟩).memory :=
  laidMetH_of_parts3 (fuel := 8) (laidMet_of_run' 8 (by kernel_rfl) (by kernel_rfl)) (by kernel_rfl) (by kernel_rfl)
theorem liftedCreditScales (os : Os) (started : os.Started) (H : Type) (enc : TypeId × Value → H) :
    ReturnsInHanded {} Tryz.checked os 8 .any (fun w args => (Rows.creditScalesSpec.pre enc Tryz.prog Tryz.f8 [] false w args ∧ laidMetH Tryz.prog laidOfCreditScales w) ∧ sizedMet enc Tryz.prog Tryz.f8 (OpenSpec.ofChange Rows.creditScalesSpec) false w args)
      (Rows.creditScalesSpec.post enc Tryz.prog Tryz.f8 false true false false) :=
  returnsInHanded_of_change_and (C := Tryz.checked) (X := fun w _ => laidMetH Tryz.prog laidOfCreditScales w) (fun _ _ _ hh h => h.of_heap hh) own started (by kernel_rfl) Tryz.func8
    (ChangeSpec.witness_shaped (enc := enc) (C := Tryz.checked) (os := os) (X := fun w _ => laidMetH Tryz.prog laidOfCreditScales w) false (World.doorLaid Tryz.prog 72 os) #[.agg #[.slice none 0 0, .int .i64 0, .int .i64 0, .int .i64 0], .string ⟨#[]⟩, .agg #[.int .i64 0, .int .i64 0]] 8 rfl (World.shaped_of_RefB (by kernel_rfl) (by kernel_rfl)) (by kernel_rfl) (by kernel_rfl) (by kernel_rfl) (doorCreditScales os _))
    (fun W base args es gs before h1 h2 _ _ h3 _ => conCreditScales W base args es gs before h1 h2 h3)
theorem creditScales_holds : Rows.CreditScalesSaid :=
  OpenClaim.holds_of_wide 8 Tryz.f8 rfl rfl rfl rfl rfl rfl rfl ⟨rfl, rfl, rfl, rfl, rfl⟩ rfl rfl rfl rfl rfl (by kernel_rfl) Tryz.func8 (by kernel_rfl)
    (of_decide_eq_true (by kernel_rfl)) (by unfold Func.isWrapper; first | (rw [if_pos (by decide +kernel)]; kernel_rfl) | (rw [if_neg (by decide +kernel)]; exact ⟨rfl, rfl⟩))
    (fun os started H enc _ => liftedCreditScales os started H enc)
theorem creditScales_card : Rows.CreditScalesCardSaid :=
  Claim7.holds_tied_plain_at .later [] [.data, .data, .data, .data] true (true, "e445c17c06a9ba1710d9d393a3aa26a20b942097b3a96140e8add475a1a3fb1f") false
    creditScales_holds (fun _ h => by cases h) (by kernel_rfl) (fun _ h => by cases h) creditScales_row_tie rfl ⟨rfl, rfl⟩ (by kernel_rfl) rfl
    (fun f fn hf hfn => by
      obtain rfl : f = 8 := Option.some.inj ((show Tryz.prog.funcNamed "assessor/assessorlaw50.CreditScales" = some 8 by kernel_rfl).symm.trans hf) |>.symm
      obtain rfl : fn = Tryz.f8 := (Option.some.inj (Tryz.func8.symm.trans hfn)).symm
      exact ⟨by kernel_rfl, fun j t ht => by
        have hall : Tryz.f8.params.toList.all (fun t => !Tryz.prog.wantsStandIn t) = true := by kernel_rfl
        have hm : t ∈ Tryz.f8.params.toList := by
          have := Array.mem_of_getElem? ht
          simpa using this
        have := List.all_eq_true.1 hall t hm
        show Tryz.prog.wantsStandIn t = false
        simpa using this⟩)
    (by kernel_rfl)
end Go.Proofs.YtldfegcegedkjaaGreatDoor