import Derived.Test.YtlpnfbfdekbbmaaDoorR0
import Derived.Test.YtlpnfbfdekbbmaaDoorGF
import Derived.Test.YtlpnfbfdekbbmaaDoorAcD
import Derived.Test.YtlpnfbfdekbbmaaDoorTie
import Derived.Test.YtlpnfbfdekbbmaaDoorCards
/- The tied card of RecordDamage: whatever plain data come in, the law answers true, and its arguments read afterwards as before. Condition: the variables that the row lists begin as the text of the program lays them, which the card ties. -/
set_option autoImplicit false
namespace Go.Proofs.YtlpnfbfdekbbmaaDoor
open Go Go.Ab Go.ChangeShapes Go.WideShapes Go.ChangeAt Go.RowKit
set_option maxRecDepth 100000
abbrev laidOfRecordDamage : List (String × DataW Unit) := Rows.recordDamageRow.laid
theorem conRecordDamage {H : Type} {enc : TypeId × Value → H} : ∀ (W : World) (base : Nat) (args : Array Value) (es gs : List (DataW H)) (before : List MemPlace),
      (∀ (j : Nat) t v, Tryd.f4.params[j]? = some t → args[j]? = some v → Value.okWide Tryd.prog W .any base t v) →
      DataW.Whole enc Tryd.prog Tryd.f4.params.toList Rows.recordDamageSpec.vars false W args.toList es gs before → laidMetH Tryd.prog laidOfRecordDamage W →
      Calls Tryd.prog 4 args W fun e W' => ∃ v, e = .returned v ∧ Rows.recordDamageSpec.post enc Tryd.prog Tryd.f4 false true false false W args v W' :=
  law_row (shs := [(false, [.int .i64]), (false, [.slc false [.str]]), (false, [.int .u16]), (false, [.int .u8])]) laidOut (by kernel_rfl) Tryd.underlying4 rfl (fun es hl => by
    obtain ⟨n, hn⟩ : ∃ n, Tryd.f4.params.toList.length = n := ⟨_, rfl⟩
    have : n = 4 := hn.symm.trans (by kernel_rfl)
    subst this
    rw [hn] at hl
    match es, hl with
    | [d0, d1, d2, d3], _ => simp only [Rows.recordDamageSpec]) (by kernel_rfl)
    (fun W hL xs hx => by
    obtain ⟨x0, _, rfl, ⟨_, _, he0, ⟨g, hg, rfl⟩, rfl⟩, x1, _, rfl, ⟨_, _, he, ⟨n, f, hn, rfl, hf⟩, rfl⟩, x2, _, rfl, ⟨_, _, he2, ⟨c, hc, rfl⟩, rfl⟩, x3, _, rfl, ⟨_, _, he3, ⟨m, hm, rfl⟩, rfl⟩, rfl⟩ := hx
    simp only [List.cons.injEq, and_true] at he0 he2 he he3
    subst he0; subst he2; subst he; subst he3
    obtain ⟨L, rfl, hL'⟩ := list_of (p := fun i (x : ByteArray) => f i = ds x) ByteArray.empty (fun i hi => by
      obtain ⟨d, es', h1, ⟨s, _, rfl⟩, rfl⟩ := hf i hi
      simp only [List.cons.injEq, and_true] at h1
      exact ⟨s, h1⟩)
    refine (f4 (tab_of_laid (i := 2) hL (MakeChecks.laidMetH_plain _ _ _ (by kernel_rfl)) rfl) g L c m (by unfold maxLen at hn; omega) (by simp [Lit.wf, IntKind.min, IntKind.max, IntKind.signed, IntKind.bits] at hc; omega) (by simp [Lit.wf, IntKind.min, IntKind.max, IntKind.signed, IntKind.bits] at hm; omega)).args fun k => ?_
    exact DV.rels_cons (fun _ h => h) (DV.rels_cons (fun v h => DV.rel_slc_congr hL' h) (DV.rels_cons (fun _ h => h) (DV.rels_cons (fun _ h => h) (fun _ h => h)))))
theorem doorRecordDamage (os : Os) (args : Array Value) : laidMetH Tryd.prog laidOfRecordDamage ((World.doorLaid Tryd.prog 72 os).forCall (fun _ _ => 0) ⟨#[], args, []⟩).memory :=
  laidMetH_of_parts3 (fuel := 8) (laidMet_of_run' 8 (by kernel_rfl) (by kernel_rfl)) (by kernel_rfl) (by kernel_rfl)
theorem liftedRecordDamage (os : Os) (started : os.Started) (H : Type) (enc : TypeId × Value → H) :
    ReturnsInHanded {} Tryd.checked os 4 .any (fun w args => (Rows.recordDamageSpec.pre enc Tryd.prog Tryd.f4 [] false w args ∧ laidMetH Tryd.prog laidOfRecordDamage w) ∧ sizedMet enc Tryd.prog Tryd.f4 (OpenSpec.ofChange Rows.recordDamageSpec) false w args)
      (Rows.recordDamageSpec.post enc Tryd.prog Tryd.f4 false true false false) :=
  returnsInHanded_of_change_and (C := Tryd.checked) (X := fun w _ => laidMetH Tryd.prog laidOfRecordDamage w) (fun _ _ _ hh h => h.of_heap hh) own started (by kernel_rfl) Tryd.func4
    (ChangeSpec.witness_shaped (enc := enc) (C := Tryd.checked) (os := os) (X := fun w _ => laidMetH Tryd.prog laidOfRecordDamage w) false (World.doorLaid Tryd.prog 72 os) #[.int .i64 0, .slice none 0 0, .int .u16 0, .int .u8 0] 8 rfl (World.shaped_of_RefB (by kernel_rfl) (by kernel_rfl)) (by kernel_rfl) (by kernel_rfl) (by kernel_rfl) (doorRecordDamage os _))
    (fun W base args es gs before h1 h2 _ _ h3 _ => conRecordDamage W base args es gs before h1 h2 h3)
theorem recordDamage_holds : Rows.RecordDamageSaid :=
  OpenClaim.holds_of_wide 4 Tryd.f4 rfl rfl rfl rfl rfl rfl rfl ⟨rfl, rfl, rfl, rfl, rfl⟩ rfl rfl rfl rfl rfl (by kernel_rfl) Tryd.func4 (by kernel_rfl)
    (of_decide_eq_true (by kernel_rfl)) (by unfold Func.isWrapper; first | (rw [if_pos (by decide +kernel)]; kernel_rfl) | (rw [if_neg (by decide +kernel)]; exact ⟨rfl, rfl⟩))
    (fun os started H enc _ => liftedRecordDamage os started H enc)
theorem recordDamage_card : Rows.RecordDamageCardSaid :=
  Claim7.holds_tied_plain_at .later [] [.data, .data, .data] true (true, "f0b8fc455fe3d4fab2a070c4aab2005179448341856ddeac579e84907233809e") true
    recordDamage_holds (fun _ h => by cases h) (by kernel_rfl) (fun _ h => by cases h) recordDamage_row_tie rfl ⟨rfl, rfl⟩ (by kernel_rfl) rfl
    (fun f fn hf hfn => by
      obtain rfl : f = 4 := Option.some.inj ((show Tryd.prog.funcNamed "assessor/assessorlaw54.RecordDamage" = some 4 by kernel_rfl).symm.trans hf) |>.symm
      obtain rfl : fn = Tryd.f4 := (Option.some.inj (Tryd.func4.symm.trans hfn)).symm
      exact ⟨by kernel_rfl, fun j t ht => by
        have hall : Tryd.f4.params.toList.all (fun t => !Tryd.prog.wantsStandIn t) = true := by kernel_rfl
        have hm : t ∈ Tryd.f4.params.toList := by
          have := Array.mem_of_getElem? ht
          simpa using this
        have := List.all_eq_true.1 hall t hm
        show Tryd.prog.wantsStandIn t = false
        simpa using this⟩)
    (by kernel_rfl)
end Go.Proofs.YtlpnfbfdekbbmaaDoor
