import Derived.Test.YtldfegcegedkjaaGreatDoorRows
import Derived.Lib.LaidTab
import Derived.ProofKit
import Derived.LaidMore
import Derived.OpenShut
import Derived.Stop.Joined
import Derived.Test.YtldfegcegedkjaaGreatDoorAcD
import Derived.Test.YtldfegcegedkjaaGreatDoorXA
set_option autoImplicit false
namespace Go.Proofs.YtldfegcegedkjaaGreatDoor
open Go Go.Ab Go.ChangeShapes Go.WideShapes Go.ChangeAt Go.RowKit
set_option maxRecDepth 100000
theorem own : ownKnob Tryz.prog.godebug = none := by kernel_rfl
theorem laidOut : laidOutB Tryz.prog = true := by kernel_rfl
theorem gPow : Tryz.prog.globalNamed "internal/strconv.uint64pow10" = some 1 := by kernel_rfl
theorem tPow : (Tryz.prog.globals[1]?).map (·.type) = some 147 := by kernel_rfl
theorem laidVars_get {P : Program} {W : World} : ∀ {l : List (String × DataW Unit)} {ps : List MemPlace}, DataW.LaidVars P W l ps →
    ∀ {i : Nat} {n : String} {d : DataW Unit}, l[i]? = some (n, d) → ∃ g t cs fuel p, P.globalNamed n = some g ∧ (P.globals[g]?).map (·.type) = some t ∧ W.var? P n = some cs ∧ DataW.trod (fun _ => ()) P W 0 (fun _ => true) false fuel t cs.toList = some (d, p)
  | [], ps, h, i, n, d, h1 => by simp at h1
  | (m, e) :: l, ps, ⟨g, t, cs, fuel, p, q, a1, a2, a3, a4, a5, a6⟩, i, n, d, h1 => by
    cases i with
    | zero =>
      simp at h1; obtain ⟨rfl, rfl⟩ := h1
      exact ⟨g, t, cs, fuel, p, a1, a2, a3, a4⟩
    | succ i => exact laidVars_get a5 (i := i) (by simpa using h1)
theorem tab_of_laid {laid : List (String × DataW Unit)} {W : World} (h : laidMetH Tryz.prog laid W) (hm : laidMetH Tryz.prog laid W = laidMet Tryz.prog laid W) {i : Nat} (hi : laid[i]? = some ("internal/strconv.uint64pow10", Rows.laid_internal_strconv_uint64pow10)) : Tab (allOf W) := by
  rw [hm] at h
  obtain ⟨ps, h, _⟩ := h
  obtain ⟨g2, t2, cs2, f2, p2, hg2, ht2, hv2, hd2⟩ := laidVars_get h hi
  obtain rfl := Option.some.inj (gPow.symm.trans hg2)
  obtain rfl := Option.some.inj (tPow.symm.trans ht2)
  have hT : Lib.TabIs Tryz.prog W "internal/strconv.uint64pow10" .u64 Lib.pow10Tab := by
    unfold Lib.TabIs
    rw [hv2, ← Lib.cells_of_tab Tryz.underlying147 (by kernel_rfl) (by kernel_rfl) (by kernel_rfl) (k := .u64) (zs := Lib.pow10Tab) hd2]
  intro w hw
  unfold Lib.TabIs at hT ⊢
  rw [← hT]
  unfold World.var? at hT ⊢
  rw [gPow] at hT ⊢
  simp only [Option.bind_some] at hT ⊢
  cases ho : W.heap[1]? with
  | none => rw [ho] at hT; cases hT
  | some o => rw [hw.2 1 o ho]
theorem gZero : Tryz.prog.globalNamed "assessor/credit.zero" = some 0 := by kernel_rfl
theorem tZero : (Tryz.prog.globals[0]?).map (·.type) = some 27 := by kernel_rfl
theorem zero_of_laid {laid : List (String × DataW Unit)} {W : World} (h : laidMetH Tryz.prog laid W) (hm : laidMetH Tryz.prog laid W = laidMet Tryz.prog laid W) {i : Nat} (hi : laid[i]? = some ("assessor/credit.zero", Rows.laid_assessor_credit_zero)) : Glob (allOf W) 0 zeroL := by
  rw [hm] at h
  obtain ⟨ps, h, _⟩ := h
  obtain ⟨g2, t2, cs2, f2, p2, hg2, ht2, hv2, hd2⟩ := laidVars_get h hi
  obtain rfl := Option.some.inj (gZero.symm.trans hg2)
  obtain rfl := Option.some.inj (tZero.symm.trans ht2)
  obtain ⟨y0, y1, m, hx, hl, h0, h1⟩ := trod_struct2 Tryz.underlying27 hd2
  obtain ⟨a, e0, rfl, _⟩ := DataW.trod_int Tryz.underlying3 h0
  obtain ⟨b, e1, rfl, _⟩ := DataW.trod_int Tryz.underlying3 h1
  simp only [Rows.laid_assessor_credit_zero, Prod.mk.injEq, DataW.agg.injEq, List.cons.injEq, DataW.lit.injEq, Lit.int.injEq, true_and, and_true] at hx
  obtain ⟨⟨rfl, rfl⟩, _⟩ := hx
  have c3 : Tryz.prog.cellsOf 3 = 1 := by kernel_rfl
  have e0 : (cs2.toList.drop 0).take (Tryz.prog.cellsOf 3) = [.int .i64 0] := e0
  have e1 : (cs2.toList.drop 1).take (Tryz.prog.cellsOf 3) = [.int .i64 1] := e1
  rw [c3] at e0 e1
  have g0 : cs2[0]? = some (.int .i64 0) := by
    have : ((cs2.toList.drop 0).take 1)[0]? = some (.int .i64 0) := by rw [e0]; rfl
    simpa using this
  have g1 : cs2[1]? = some (.int .i64 1) := by
    have : ((cs2.toList.drop 1).take 1)[0]? = some (.int .i64 1) := by rw [e1]; rfl
    simpa using this
  refine ⟨[.int .i64 0, .int .i64 1], ⟨_, _, rfl, rfl, _, _, rfl, rfl, rfl⟩, fun i hi => ?_⟩
  show W.cell? ⟨0, i, none⟩ = _
  rw [World.var?_cell hg2 hv2]
  match i, hi with
  | 0, _ => exact g0
  | 1, _ => exact g1
end Go.Proofs.YtldfegcegedkjaaGreatDoor