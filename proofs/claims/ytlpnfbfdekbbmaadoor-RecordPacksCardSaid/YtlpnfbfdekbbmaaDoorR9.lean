import Derived.Test.YtlpnfbfdekbbmaaDoorR0
import Derived.Test.YtlpnfbfdekbbmaaDoorGH
import Derived.LaidLaws
import Derived.Test.YtlpnfbfdekbbmaaDoorAcD
import Derived.Test.YtlpnfbfdekbbmaaDoorTie
import Derived.Test.YtlpnfbfdekbbmaaDoorCards
set_option autoImplicit false
namespace Go.Proofs.YtlpnfbfdekbbmaaDoor
open Go Go.Ab Go.ChangeShapes Go.WideShapes Go.ChangeAt Go.RowKit
set_option maxRecDepth 100000
theorem gSyn : Tryd.prog.globalNamed "strconv.ErrSyntax" = some 2 := by kernel_rfl
theorem gRan : Tryd.prog.globalNamed "strconv.ErrRange" = some 3 := by kernel_rfl
theorem tSyn : (Tryd.prog.globals[2]?).map (·.type) = some 61 := by kernel_rfl
theorem tRan : (Tryd.prog.globals[3]?).map (·.type) = some 61 := by kernel_rfl
/-- A variable of an interface's type that lies as laid holds a value of some type. -/
theorem err_of_laid {laid : List (String × DataW Unit)} {W : World} {ps : List MemPlace} (h : DataW.LaidVars Tryd.prog W laid ps) {i g : Nat} {nm ty : String} {d : DataW Unit} (hi : laid[i]? = some (nm, .iface ty d)) (hg : Tryd.prog.globalNamed nm = some g) (ht : (Tryd.prog.globals[g]?).map (·.type) = some 61) : ∃ te pe, W.cell? ⟨g, 0, none⟩ = some (.iface te pe) := by
  obtain ⟨g2, t2, cs2, f2, p2, hg2, ht2, hv2, hd2⟩ := laidVars_get h hi
  obtain rfl := Option.some.inj (hg.symm.trans hg2)
  obtain rfl := Option.some.inj (ht.symm.trans ht2)
  obtain ⟨_, u, v, hc, _, _⟩ := iface_of_trod Tryd.underlying61 hd2
  refine ⟨u, v, ?_⟩
  rw [World.var?_cell hg hv2 0, ← Array.getElem?_toList, hc]
  rfl
theorem errs_of_laid {laid : List (String × DataW Unit)} {W : World} (h : laidMetH Tryd.prog laid W) (hm : laidMetH Tryd.prog laid W = laidMet Tryd.prog laid W) {i j : Nat} (hi : laid[i]? = some ("strconv.ErrRange", Rows.laid_strconv_ErrRange)) (hj : laid[j]? = some ("strconv.ErrSyntax", Rows.laid_strconv_ErrSyntax)) : Errs (allOf W) := by
  rw [hm] at h
  obtain ⟨ps, h, _⟩ := h
  have h3 := err_of_laid h hi gRan tRan
  have h2 := err_of_laid h hj gSyn tSyn
  intro w hw
  have key : ∀ g, (∃ te pe, W.cell? ⟨g, 0, none⟩ = some (.iface te pe)) → ∃ te pe, w.cell? ⟨g, 0, none⟩ = some (.iface te pe) := by
    rintro g ⟨te, pe, hc⟩
    refine ⟨te, pe, ?_⟩
    unfold World.cell? at hc ⊢
    cases ho : W.heap[g]? with
    | none => rw [ho] at hc; cases hc
    | some o => rw [hw.2 g o ho, ← ho]; exact hc
  exact ⟨key 2 h2, key 3 h3⟩
end Go.Proofs.YtlpnfbfdekbbmaaDoor

/- The tied card of RecordPacks: whatever plain data come in, the law answers true, and its arguments read afterwards as before. Condition: the variables that the row lists begin as the text of the program lays them, which the card ties. -/
set_option autoImplicit false
namespace Go.Proofs.YtlpnfbfdekbbmaaDoor
open Go Go.Ab Go.ChangeShapes Go.WideShapes Go.ChangeAt Go.RowKit
set_option maxRecDepth 100000
abbrev laidOfRecordPacks : List (String × DataW Unit) := Rows.recordPacksRow.laid
theorem conRecordPacks {H : Type} {enc : TypeId × Value → H} : ∀ (W : World) (base : Nat) (args : Array Value) (es gs : List (DataW H)) (before : List MemPlace),
      (∀ (j : Nat) t v, Tryd.f9.params[j]? = some t → args[j]? = some v → Value.okWide Tryd.prog W .any base t v) →
      DataW.Whole enc Tryd.prog Tryd.f9.params.toList Rows.recordPacksSpec.vars false W args.toList es gs before → laidMetH Tryd.prog laidOfRecordPacks W →
      Calls Tryd.prog 9 args W fun e W' => ∃ v, e = .returned v ∧ Rows.recordPacksSpec.post enc Tryd.prog Tryd.f9 false true false false W args v W' :=
  law_row (shs := [(false, [.slc false [.str]]), (false, [.str])]) laidOut (by kernel_rfl) Tryd.underlying4 rfl (fun es hl => by
    obtain ⟨n, hn⟩ : ∃ n, Tryd.f9.params.toList.length = n := ⟨_, rfl⟩
    have : n = 2 := hn.symm.trans (by kernel_rfl)
    subst this
    rw [hn] at hl
    match es, hl with
    | [d0, d1], _ => simp only [Rows.recordPacksSpec]) (by kernel_rfl)
    (fun W hL xs hx => by
    obtain ⟨x0, _, rfl, ⟨_, _, he0, ⟨n, f, hn, rfl, hf⟩, rfl⟩, x1, _, rfl, ⟨_, _, he1, ⟨s, _, rfl⟩, rfl⟩, rfl⟩ := hx
    simp only [List.cons.injEq, and_true] at he0 he1
    subst he0; subst he1
    obtain ⟨L, rfl, hL'⟩ := list_of (p := fun i (x : ByteArray) => f i = ds x) ByteArray.empty (fun i hi => by
      obtain ⟨d, es', h1, ⟨s, _, rfl⟩, rfl⟩ := hf i hi
      simp only [List.cons.injEq, and_true] at h1
      exact ⟨s, h1⟩)
    refine (f9 (tab_of_laid (i := 2) hL (MakeChecks.laidMetH_plain _ _ _ (by kernel_rfl)) rfl) (errs_of_laid (i := 3) (j := 4) hL (MakeChecks.laidMetH_plain _ _ _ (by kernel_rfl)) rfl rfl) L s (by unfold maxLen at hn; omega)).args fun k => ?_
    exact DV.rels_cons (fun v h => DV.rel_slc_congr hL' h) (DV.rels_cons (fun _ h => h) (fun _ h => h)))
theorem doorRecordPacks (os : Os) (args : Array Value) : laidMetH Tryd.prog laidOfRecordPacks ((World.doorLaid Tryd.prog 72 os).forCall (fun _ _ => 0) ⟨#[], args, []⟩).memory :=
  laidMetH_of_parts3 (fuel := 8) (laidMet_of_run' 8 (by kernel_rfl) (by kernel_rfl)) (by kernel_rfl) (by kernel_rfl)
theorem liftedRecordPacks (os : Os) (started : os.Started) (H : Type) (enc : TypeId × Value → H) :
    ReturnsInHanded {} Tryd.checked os 9 .any (fun w args => (Rows.recordPacksSpec.pre enc Tryd.prog Tryd.f9 [] false w args ∧ laidMetH Tryd.prog laidOfRecordPacks w) ∧ sizedMet enc Tryd.prog Tryd.f9 (OpenSpec.ofChange Rows.recordPacksSpec) false w args)
      (Rows.recordPacksSpec.post enc Tryd.prog Tryd.f9 false true false false) :=
  returnsInHanded_of_change_and (C := Tryd.checked) (X := fun w _ => laidMetH Tryd.prog laidOfRecordPacks w) (fun _ _ _ hh h => h.of_heap hh) own started (by kernel_rfl) Tryd.func9
    (ChangeSpec.witness_shaped (enc := enc) (C := Tryd.checked) (os := os) (X := fun w _ => laidMetH Tryd.prog laidOfRecordPacks w) false (World.doorLaid Tryd.prog 72 os) #[.slice none 0 0, .string .empty] 8 rfl (World.shaped_of_RefB (by kernel_rfl) (by kernel_rfl)) (by kernel_rfl) (by kernel_rfl) (by kernel_rfl) (doorRecordPacks os _))
    (fun W base args es gs before h1 h2 _ _ h3 _ => conRecordPacks W base args es gs before h1 h2 h3)
theorem recordPacks_holds : Rows.RecordPacksSaid :=
  OpenClaim.holds_of_wide 9 Tryd.f9 rfl rfl rfl rfl rfl rfl rfl ⟨rfl, rfl, rfl, rfl, rfl⟩ rfl rfl rfl rfl rfl (by kernel_rfl) Tryd.func9 (by kernel_rfl)
    (of_decide_eq_true (by kernel_rfl)) (by unfold Func.isWrapper; first | (rw [if_pos (by decide +kernel)]; kernel_rfl) | (rw [if_neg (by decide +kernel)]; exact ⟨rfl, rfl⟩))
    (fun os started H enc _ => liftedRecordPacks os started H enc)
theorem recordPacks_card : Rows.RecordPacksCardSaid :=
  Claim7.holds_tied_plain_at .later [] [.data, .data, .data, .sentinel, .sentinel] true (true, "f0b8fc455fe3d4fab2a070c4aab2005179448341856ddeac579e84907233809e") true
    recordPacks_holds (fun _ h => by cases h) (by kernel_rfl) (fun _ h => by cases h) recordPacks_row_tie rfl ⟨rfl, rfl⟩ (by kernel_rfl) rfl
    (fun f fn hf hfn => by
      obtain rfl : f = 9 := Option.some.inj ((show Tryd.prog.funcNamed "assessor/assessorlaw54.RecordPacks" = some 9 by kernel_rfl).symm.trans hf) |>.symm
      obtain rfl : fn = Tryd.f9 := (Option.some.inj (Tryd.func9.symm.trans hfn)).symm
      exact ⟨by kernel_rfl, fun j t ht => by
        have hall : Tryd.f9.params.toList.all (fun t => !Tryd.prog.wantsStandIn t) = true := by kernel_rfl
        have hm : t ∈ Tryd.f9.params.toList := by
          have := Array.mem_of_getElem? ht
          simpa using this
        have := List.all_eq_true.1 hall t hm
        show Tryd.prog.wantsStandIn t = false
        simpa using this⟩)
    (by kernel_rfl)
end Go.Proofs.YtlpnfbfdekbbmaaDoor
