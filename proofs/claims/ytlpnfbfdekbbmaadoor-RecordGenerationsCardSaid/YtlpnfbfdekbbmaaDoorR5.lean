import Derived.Test.YtlpnfbfdekbbmaaDoorR0
import Derived.Test.YtlpnfbfdekbbmaaDoorGE
import Derived.Test.YtlpnfbfdekbbmaaDoorAcD
import Derived.Test.YtlpnfbfdekbbmaaDoorTie
import Derived.Test.YtlpnfbfdekbbmaaDoorCards
/- The tied card of RecordGenerations: whatever plain data come in, the law answers true, and its arguments read afterwards as before. Condition: the variables that the row lists begin as the text of the program lays them, which the card ties. -/
set_option autoImplicit false
namespace Go.Proofs.YtlpnfbfdekbbmaaDoor
open Go Go.Ab Go.ChangeShapes Go.WideShapes Go.ChangeAt Go.RowKit
set_option maxRecDepth 100000
abbrev laidOfRecordGenerations : List (String × DataW Unit) := Rows.recordGenerationsRow.laid
theorem conRecordGenerations {H : Type} {enc : TypeId × Value → H} : ∀ (W : World) (base : Nat) (args : Array Value) (es gs : List (DataW H)) (before : List MemPlace),
      (∀ (j : Nat) t v, Tryd.f5.params[j]? = some t → args[j]? = some v → Value.okWide Tryd.prog W .any base t v) →
      DataW.Whole enc Tryd.prog Tryd.f5.params.toList Rows.recordGenerationsSpec.vars false W args.toList es gs before → laidMetH Tryd.prog laidOfRecordGenerations W →
      Calls Tryd.prog 5 args W fun e W' => ∃ v, e = .returned v ∧ Rows.recordGenerationsSpec.post enc Tryd.prog Tryd.f5 false true false false W args v W' :=
  law_row (shs := [(false, [.int .i64]), (false, [.int .i64]), (false, [.slc false [.str]])]) laidOut (by kernel_rfl) Tryd.underlying4 rfl (fun es hl => by
    obtain ⟨n, hn⟩ : ∃ n, Tryd.f5.params.toList.length = n := ⟨_, rfl⟩
    have : n = 3 := hn.symm.trans (by kernel_rfl)
    subst this
    rw [hn] at hl
    match es, hl with
    | [d0, d1, d2], _ => simp only [Rows.recordGenerationsSpec]) (by kernel_rfl)
    (fun W hL xs hx => by
    obtain ⟨x0, _, rfl, ⟨_, _, he0, ⟨g, _, rfl⟩, rfl⟩, x1, _, rfl, ⟨_, _, he1, ⟨h, _, rfl⟩, rfl⟩, x2, _, rfl, ⟨_, _, he, ⟨n, f, hn, rfl, hf⟩, rfl⟩, rfl⟩ := hx
    simp only [List.cons.injEq, and_true] at he0 he1 he
    subst he0; subst he1; subst he
    obtain ⟨L, rfl, hL'⟩ := list_of (p := fun i (x : ByteArray) => f i = ds x) ByteArray.empty (fun i hi => by
      obtain ⟨d, es', h1, ⟨s, _, rfl⟩, rfl⟩ := hf i hi
      simp only [List.cons.injEq, and_true] at h1
      exact ⟨s, h1⟩)
    refine (f5 (tab_of_laid (i := 2) hL (MakeChecks.laidMetH_plain _ _ _ (by kernel_rfl)) rfl) g h L (by unfold maxLen at hn; omega)).args fun k => ?_
    exact DV.rels_cons (fun _ h => h) (DV.rels_cons (fun _ h => h) (DV.rels_cons (fun v h => DV.rel_slc_congr hL' h) (fun _ h => h))))
theorem doorRecordGenerations (os : Os) (args : Array Value) : laidMetH Tryd.prog laidOfRecordGenerations ((World.doorLaid Tryd.prog 72 os).forCall (fun _ _ => 0) ⟨#[], args, []⟩).memory :=
  laidMetH_of_parts3 (fuel := 8) (laidMet_of_run' 8 (by kernel_rfl) (by kernel_rfl)) (by kernel_rfl) (by kernel_rfl)
theorem liftedRecordGenerations (os : Os) (started : os.Started) (H : Type) (enc : TypeId × Value → H) :
    ReturnsInHanded {} Tryd.checked os 5 .any (fun w args => (Rows.recordGenerationsSpec.pre enc Tryd.prog Tryd.f5 [] false w args ∧ laidMetH Tryd.prog laidOfRecordGenerations w) ∧ sizedMet enc Tryd.prog Tryd.f5 (OpenSpec.ofChange Rows.recordGenerationsSpec) false w args)
      (Rows.recordGenerationsSpec.post enc Tryd.prog Tryd.f5 false true false false) :=
  returnsInHanded_of_change_and (C := Tryd.checked) (X := fun w _ => laidMetH Tryd.prog laidOfRecordGenerations w) (fun _ _ _ hh h => h.of_heap hh) own started (by kernel_rfl) Tryd.func5
    (ChangeSpec.witness_shaped (enc := enc) (C := Tryd.checked) (os := os) (X := fun w _ => laidMetH Tryd.prog laidOfRecordGenerations w) false (World.doorLaid Tryd.prog 72 os) #[.int .i64 0, .int .i64 0, .slice none 0 0] 8 rfl (World.shaped_of_RefB (by kernel_rfl) (by kernel_rfl)) (by kernel_rfl) (by kernel_rfl) (by kernel_rfl) (doorRecordGenerations os _))
    (fun W base args es gs before h1 h2 _ _ h3 _ => conRecordGenerations W base args es gs before h1 h2 h3)
theorem recordGenerations_holds : Rows.RecordGenerationsSaid :=
  OpenClaim.holds_of_wide 5 Tryd.f5 rfl rfl rfl rfl rfl rfl rfl ⟨rfl, rfl, rfl, rfl, rfl⟩ rfl rfl rfl rfl rfl (by kernel_rfl) Tryd.func5 (by kernel_rfl)
    (of_decide_eq_true (by kernel_rfl)) (by unfold Func.isWrapper; first | (rw [if_pos (by decide +kernel)]; kernel_rfl) | (rw [if_neg (by decide +kernel)]; exact ⟨rfl, rfl⟩))
    (fun os started H enc _ => liftedRecordGenerations os started H enc)
theorem recordGenerations_card : Rows.RecordGenerationsCardSaid :=
  Claim7.holds_tied_plain_at .later [] [.data, .data, .data] true (true, "f0b8fc455fe3d4fab2a070c4aab2005179448341856ddeac579e84907233809e") true
    recordGenerations_holds (fun _ h => by cases h) (by kernel_rfl) (fun _ h => by cases h) recordGenerations_row_tie rfl ⟨rfl, rfl⟩ (by kernel_rfl) rfl
    (fun f fn hf hfn => by
      obtain rfl : f = 5 := Option.some.inj ((show Tryd.prog.funcNamed "assessor/assessorlaw54.RecordGenerations" = some 5 by kernel_rfl).symm.trans hf) |>.symm
      obtain rfl : fn = Tryd.f5 := (Option.some.inj (Tryd.func5.symm.trans hfn)).symm
      exact ⟨by kernel_rfl, fun j t ht => by
        have hall : Tryd.f5.params.toList.all (fun t => !Tryd.prog.wantsStandIn t) = true := by kernel_rfl
        have hm : t ∈ Tryd.f5.params.toList := by
          have := Array.mem_of_getElem? ht
          simpa using this
        have := List.all_eq_true.1 hall t hm
        show Tryd.prog.wantsStandIn t = false
        simpa using this⟩)
    (by kernel_rfl)
end Go.Proofs.YtlpnfbfdekbbmaaDoor
