import Derived.Test.YtlpnfbfdekbbmaaDoorR0
import Derived.Test.YtlpnfbfdekbbmaaDoorGG
import Derived.Test.YtlpnfbfdekbbmaaDoorAcD
import Derived.Test.YtlpnfbfdekbbmaaDoorTie
import Derived.Test.YtlpnfbfdekbbmaaDoorCards
/- The tied card of RecordTorn: whatever plain data come in, the law answers true, and its arguments read afterwards as before. Condition: the variables that the row lists begin as the text of the program lays them, which the card ties. -/
set_option autoImplicit false
namespace Go.Proofs.YtlpnfbfdekbbmaaDoor
open Go Go.Ab Go.ChangeShapes Go.WideShapes Go.ChangeAt Go.RowKit
set_option maxRecDepth 100000
abbrev laidOfRecordTorn : List (String × DataW Unit) := Rows.recordTornRow.laid
theorem conRecordTorn {H : Type} {enc : TypeId × Value → H} : ∀ (W : World) (base : Nat) (args : Array Value) (es gs : List (DataW H)) (before : List MemPlace),
      (∀ (j : Nat) t v, Tryd.f8.params[j]? = some t → args[j]? = some v → Value.okWide Tryd.prog W .any base t v) →
      DataW.Whole enc Tryd.prog Tryd.f8.params.toList Rows.recordTornSpec.vars false W args.toList es gs before → laidMetH Tryd.prog laidOfRecordTorn W →
      Calls Tryd.prog 8 args W fun e W' => ∃ v, e = .returned v ∧ Rows.recordTornSpec.post enc Tryd.prog Tryd.f8 false true false false W args v W' :=
  law_row (shs := [(false, [.int .i64]), (false, [.slc false [.str]]), (false, [.str]), (false, [.slc false [.str]]), (false, [.slc false [.int .i64]]), (false, [.int .u16])]) laidOut (by kernel_rfl) Tryd.underlying4 rfl (fun es hl => by
    obtain ⟨n, hn⟩ : ∃ n, Tryd.f8.params.toList.length = n := ⟨_, rfl⟩
    have : n = 6 := hn.symm.trans (by kernel_rfl)
    subst this
    rw [hn] at hl
    match es, hl with
    | [d0, d1, d2, d3, d4, d5], _ => simp only [Rows.recordTornSpec]) (by kernel_rfl)
    (fun W hL xs hx => by
    obtain ⟨x0, _, rfl, ⟨_, _, he0, ⟨g, hg, rfl⟩, rfl⟩, x1, _, rfl, ⟨_, _, he1, ⟨n, f, hn, rfl, hf⟩, rfl⟩, x2, _, rfl, ⟨_, _, he2, ⟨q, _, rfl⟩, rfl⟩, x3, _, rfl, ⟨_, _, he3, ⟨n3, f3, hn3, rfl, hf3⟩, rfl⟩, x4, _, rfl, ⟨_, _, he4, ⟨n4, f4, hn4, rfl, hf4⟩, rfl⟩, x5, _, rfl, ⟨_, _, he5, ⟨wr, hwr, rfl⟩, rfl⟩, rfl⟩ := hx
    simp only [List.cons.injEq, and_true] at he0 he1 he2 he3 he4 he5
    subst he0; subst he1; subst he2; subst he3; subst he4; subst he5
    obtain ⟨L, rfl, hL'⟩ := list_of (p := fun i (x : ByteArray) => f i = ds x) ByteArray.empty (fun i hi => by
      obtain ⟨d, es', h1, ⟨s, _, rfl⟩, rfl⟩ := hf i hi
      simp only [List.cons.injEq, and_true] at h1
      exact ⟨s, h1⟩)
    obtain ⟨B, rfl, hB'⟩ := list_of (p := fun i (x : ByteArray) => f3 i = ds x) ByteArray.empty (fun i hi => by
      obtain ⟨d, es', h1, ⟨s, _, rfl⟩, rfl⟩ := hf3 i hi
      simp only [List.cons.injEq, and_true] at h1
      exact ⟨s, h1⟩)
    obtain ⟨O, rfl, hO'⟩ := list_of (p := fun i (x : Int) => f4 i = di x) 0 (fun i hi => by
      obtain ⟨d, es', h1, ⟨s, _, rfl⟩, rfl⟩ := hf4 i hi
      simp only [List.cons.injEq, and_true] at h1
      exact ⟨s, h1⟩)
    refine (f8 (tab_of_laid (i := 2) hL (MakeChecks.laidMetH_plain _ _ _ (by kernel_rfl)) rfl) g L q B O wr (by unfold maxLen at hn; omega) (by unfold maxLen at hn3; omega) (by simp [Lit.wf, IntKind.min, IntKind.max, IntKind.signed, IntKind.bits] at hwr; omega)).args fun k => ?_
    exact DV.rels_cons (fun _ h => h) (DV.rels_cons (fun v h => DV.rel_slc_congr hL' h) (DV.rels_cons (fun _ h => h) (DV.rels_cons (fun v h => DV.rel_slc_congr hB' h) (DV.rels_cons (fun v h => DV.rel_slc_congr hO' h) (DV.rels_cons (fun _ h => h) (fun _ h => h)))))))
theorem doorRecordTorn (os : Os) (args : Array Value) : laidMetH Tryd.prog laidOfRecordTorn ((World.doorLaid Tryd.prog 72 os).forCall (fun _ _ => 0) ⟨#[], args, []⟩).memory :=
  laidMetH_of_parts3 (fuel := 8) (laidMet_of_run' 8 (by kernel_rfl) (by kernel_rfl)) (by kernel_rfl) (by kernel_rfl)
theorem liftedRecordTorn (os : Os) (started : os.Started) (H : Type) (enc : TypeId × Value → H) :
    ReturnsInHanded {} Tryd.checked os 8 .any (fun w args => (Rows.recordTornSpec.pre enc Tryd.prog Tryd.f8 [] false w args ∧ laidMetH Tryd.prog laidOfRecordTorn w) ∧ sizedMet enc Tryd.prog Tryd.f8 (OpenSpec.ofChange Rows.recordTornSpec) false w args)
      (Rows.recordTornSpec.post enc Tryd.prog Tryd.f8 false true false false) :=
  returnsInHanded_of_change_and (C := Tryd.checked) (X := fun w _ => laidMetH Tryd.prog laidOfRecordTorn w) (fun _ _ _ hh h => h.of_heap hh) own started (by kernel_rfl) Tryd.func8
    (ChangeSpec.witness_shaped (enc := enc) (C := Tryd.checked) (os := os) (X := fun w _ => laidMetH Tryd.prog laidOfRecordTorn w) false (World.doorLaid Tryd.prog 72 os) #[.int .i64 0, .slice none 0 0, .string .empty, .slice none 0 0, .slice none 0 0, .int .u16 0] 8 rfl (World.shaped_of_RefB (by kernel_rfl) (by kernel_rfl)) (by kernel_rfl) (by kernel_rfl) (by kernel_rfl) (doorRecordTorn os _))
    (fun W base args es gs before h1 h2 _ _ h3 _ => conRecordTorn W base args es gs before h1 h2 h3)
theorem recordTorn_holds : Rows.RecordTornSaid :=
  OpenClaim.holds_of_wide 8 Tryd.f8 rfl rfl rfl rfl rfl rfl rfl ⟨rfl, rfl, rfl, rfl, rfl⟩ rfl rfl rfl rfl rfl (by kernel_rfl) Tryd.func8 (by kernel_rfl)
    (of_decide_eq_true (by kernel_rfl)) (by unfold Func.isWrapper; first | (rw [if_pos (by decide +kernel)]; kernel_rfl) | (rw [if_neg (by decide +kernel)]; exact ⟨rfl, rfl⟩))
    (fun os started H enc _ => liftedRecordTorn os started H enc)
theorem recordTorn_card : Rows.RecordTornCardSaid :=
  Claim7.holds_tied_plain_at .later [] [.data, .data, .data] true (true, "f0b8fc455fe3d4fab2a070c4aab2005179448341856ddeac579e84907233809e") true
    recordTorn_holds (fun _ h => by cases h) (by kernel_rfl) (fun _ h => by cases h) recordTorn_row_tie rfl ⟨rfl, rfl⟩ (by kernel_rfl) rfl
    (fun f fn hf hfn => by
      obtain rfl : f = 8 := Option.some.inj ((show Tryd.prog.funcNamed "assessor/assessorlaw54.RecordTorn" = some 8 by kernel_rfl).symm.trans hf) |>.symm
      obtain rfl : fn = Tryd.f8 := (Option.some.inj (Tryd.func8.symm.trans hfn)).symm
      exact ⟨by kernel_rfl, fun j t ht => by
        have hall : Tryd.f8.params.toList.all (fun t => !Tryd.prog.wantsStandIn t) = true := by kernel_rfl
        have hm : t ∈ Tryd.f8.params.toList := by
          have := Array.mem_of_getElem? ht
          simpa using this
        have := List.all_eq_true.1 hall t hm
        show Tryd.prog.wantsStandIn t = false
        simpa using this⟩)
    (by kernel_rfl)
end Go.Proofs.YtlpnfbfdekbbmaaDoor
