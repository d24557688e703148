import Derived.Test.YtlpnfbfdekbbmaaDoorR0
import Derived.Test.YtlpnfbfdekbbmaaDoorGD
import Derived.Test.YtlpnfbfdekbbmaaDoorTie
import Derived.Test.YtlpnfbfdekbbmaaDoorCards
/- The tied card of RecordWalks: whatever plain data come in, the law answers true, and its arguments read afterwards as before. Condition: the variables that the row lists begin as the text of the program lays them, which the card ties. -/
set_option autoImplicit false
namespace Go.Proofs.YtlpnfbfdekbbmaaDoor
open Go Go.Ab Go.ChangeShapes Go.WideShapes Go.ChangeAt Go.RowKit
set_option maxRecDepth 100000
abbrev laidOfRecordWalks : List (String × DataW Unit) := Rows.recordWalksRow.laid
theorem conRecordWalks {H : Type} {enc : TypeId × Value → H} : ∀ (W : World) (base : Nat) (args : Array Value) (es gs : List (DataW H)) (before : List MemPlace),
      (∀ (j : Nat) t v, Tryd.f3.params[j]? = some t → args[j]? = some v → Value.okWide Tryd.prog W .any base t v) →
      DataW.Whole enc Tryd.prog Tryd.f3.params.toList Rows.recordWalksSpec.vars false W args.toList es gs before → laidMetH Tryd.prog laidOfRecordWalks W →
      Calls Tryd.prog 3 args W fun e W' => ∃ v, e = .returned v ∧ Rows.recordWalksSpec.post enc Tryd.prog Tryd.f3 false true false false W args v W' :=
  law_row (shs := [(false, [.str]), (false, [.int .i64])]) laidOut (by kernel_rfl) Tryd.underlying4 rfl (fun es hl => by
    obtain ⟨n, hn⟩ : ∃ n, Tryd.f3.params.toList.length = n := ⟨_, rfl⟩
    have : n = 2 := hn.symm.trans (by kernel_rfl)
    subst this
    rw [hn] at hl
    match es, hl with
    | [d0, d1], _ => simp only [Rows.recordWalksSpec]) (by kernel_rfl)
    (fun W hL xs hx => by
    obtain ⟨x0, _, rfl, ⟨_, _, he0, ⟨s, _, rfl⟩, rfl⟩, x1, _, rfl, ⟨_, _, he1, ⟨g, _, rfl⟩, rfl⟩, rfl⟩ := hx
    simp only [List.cons.injEq, and_true] at he0 he1
    subst he0; subst he1
    exact f3 (tab_of_laid (i := 2) hL (MakeChecks.laidMetH_plain _ _ _ (by kernel_rfl)) rfl) s g)
theorem doorRecordWalks (os : Os) (args : Array Value) : laidMetH Tryd.prog laidOfRecordWalks ((World.doorLaid Tryd.prog 72 os).forCall (fun _ _ => 0) ⟨#[], args, []⟩).memory :=
  laidMetH_of_parts3 (fuel := 8) (laidMet_of_run' 8 (by kernel_rfl) (by kernel_rfl)) (by kernel_rfl) (by kernel_rfl)
theorem liftedRecordWalks (os : Os) (started : os.Started) (H : Type) (enc : TypeId × Value → H) :
    ReturnsInHanded {} Tryd.checked os 3 .any (fun w args => (Rows.recordWalksSpec.pre enc Tryd.prog Tryd.f3 [] false w args ∧ laidMetH Tryd.prog laidOfRecordWalks w) ∧ sizedMet enc Tryd.prog Tryd.f3 (OpenSpec.ofChange Rows.recordWalksSpec) false w args)
      (Rows.recordWalksSpec.post enc Tryd.prog Tryd.f3 false true false false) :=
  returnsInHanded_of_change_and (C := Tryd.checked) (X := fun w _ => laidMetH Tryd.prog laidOfRecordWalks w) (fun _ _ _ hh h => h.of_heap hh) own started (by kernel_rfl) Tryd.func3
    (ChangeSpec.witness_shaped (enc := enc) (C := Tryd.checked) (os := os) (X := fun w _ => laidMetH Tryd.prog laidOfRecordWalks w) false (World.doorLaid Tryd.prog 72 os) #[.string .empty, .int .i64 0] 8 rfl (World.shaped_of_RefB (by kernel_rfl) (by kernel_rfl)) (by kernel_rfl) (by kernel_rfl) (by kernel_rfl) (doorRecordWalks os _))
    (fun W base args es gs before h1 h2 _ _ h3 _ => conRecordWalks W base args es gs before h1 h2 h3)
theorem recordWalks_holds : Rows.RecordWalksSaid :=
  OpenClaim.holds_of_wide 3 Tryd.f3 rfl rfl rfl rfl rfl rfl rfl ⟨rfl, rfl, rfl, rfl, rfl⟩ rfl rfl rfl rfl rfl (by kernel_rfl) Tryd.func3 (by kernel_rfl)
    (of_decide_eq_true (by kernel_rfl)) (by unfold Func.isWrapper; first | (rw [if_pos (by decide +kernel)]; kernel_rfl) | (rw [if_neg (by decide +kernel)]; exact ⟨rfl, rfl⟩))
    (fun os started H enc _ => liftedRecordWalks os started H enc)
theorem recordWalks_card : Rows.RecordWalksCardSaid :=
  Claim7.holds_tied_plain_at .later [] [.data, .data, .data] true (true, "f0b8fc455fe3d4fab2a070c4aab2005179448341856ddeac579e84907233809e") true
    recordWalks_holds (fun _ h => by cases h) (by kernel_rfl) (fun _ h => by cases h) recordWalks_row_tie rfl ⟨rfl, rfl⟩ (by kernel_rfl) rfl
    (fun f fn hf hfn => by
      obtain rfl : f = 3 := Option.some.inj ((show Tryd.prog.funcNamed "assessor/assessorlaw54.RecordWalks" = some 3 by kernel_rfl).symm.trans hf) |>.symm
      obtain rfl : fn = Tryd.f3 := (Option.some.inj (Tryd.func3.symm.trans hfn)).symm
      exact ⟨by kernel_rfl, fun j t ht => by
        have hall : Tryd.f3.params.toList.all (fun t => !Tryd.prog.wantsStandIn t) = true := by kernel_rfl
        have hm : t ∈ Tryd.f3.params.toList := by
          have := Array.mem_of_getElem? ht
          simpa using this
        have := List.all_eq_true.1 hall t hm
        show Tryd.prog.wantsStandIn t = false
        simpa using this⟩)
    (by kernel_rfl)
end Go.Proofs.YtlpnfbfdekbbmaaDoor
