import Derived.Test.YthijempdiheabaaDoorRows
import Derived.Lib.LaidTab
import Derived.ProofKit
import Derived.LaidMore
import Derived.OpenShut
import Derived.Stop.Joined
import Derived.Test.YthijempdiheabaaDoorAcD
import Derived.Test.YthijempdiheabaaDoorVB
import Derived.Lay
set_option autoImplicit false
namespace Go.Proofs.YthijempdiheabaaDoor
open Go Go.Ab Go.ChangeShapes Go.WideShapes Go.ChangeAt Go.RowKit
set_option maxRecDepth 100000
theorem own : ownKnob Tryd.prog.godebug = none := by kernel_rfl
theorem laidOut : laidOutB Tryd.prog = true := by kernel_rfl
theorem gPow : Tryd.prog.globalNamed "internal/strconv.uint64pow10" = some 0 := by kernel_rfl
theorem tPow : (Tryd.prog.globals[0]?).map (·.type) = some 92 := by kernel_rfl
theorem laidVars_get {P : Program} {W : World} : ∀ {l : List (String × DataW Unit)} {ps : List MemPlace}, DataW.LaidVars P W l ps →
    ∀ {i : Nat} {n : String} {d : DataW Unit}, l[i]? = some (n, d) → ∃ g t cs fuel p, P.globalNamed n = some g ∧ (P.globals[g]?).map (·.type) = some t ∧ W.var? P n = some cs ∧ DataW.trod (fun _ => ()) P W 0 (fun _ => true) false fuel t cs.toList = some (d, p)
  | [], ps, h, i, n, d, h1 => by simp at h1
  | (m, e) :: l, ps, ⟨g, t, cs, fuel, p, q, a1, a2, a3, a4, a5, a6⟩, i, n, d, h1 => by
    cases i with
    | zero =>
      simp at h1; obtain ⟨rfl, rfl⟩ := h1
      exact ⟨g, t, cs, fuel, p, a1, a2, a3, a4⟩
    | succ i => exact laidVars_get a5 (i := i) (by simpa using h1)
theorem tab_of_laid {laid : List (String × DataW Unit)} {W : World} (h : laidMetH Tryd.prog laid W) (hm : laidMetH Tryd.prog laid W = laidMet Tryd.prog laid W) {i : Nat} (hi : laid[i]? = some ("internal/strconv.uint64pow10", Rows.laid_internal_strconv_uint64pow10)) : Tab (allOf W) := by
  rw [hm] at h
  obtain ⟨ps, h, _⟩ := h
  obtain ⟨g2, t2, cs2, f2, p2, hg2, ht2, hv2, hd2⟩ := laidVars_get h hi
  obtain rfl := Option.some.inj (gPow.symm.trans hg2)
  obtain rfl := Option.some.inj (tPow.symm.trans ht2)
  have hT : Lib.TabIs Tryd.prog W "internal/strconv.uint64pow10" .u64 Lib.pow10Tab := by
    unfold Lib.TabIs
    rw [hv2, ← Lib.cells_of_tab Tryd.underlying92 (by kernel_rfl) (by kernel_rfl) (by kernel_rfl) (k := .u64) (zs := Lib.pow10Tab) hd2]
  intro w hw
  unfold Lib.TabIs at hT ⊢
  rw [← hT]
  unfold World.var? at hT ⊢
  rw [gPow] at hT ⊢
  simp only [Option.bind_some] at hT ⊢
  cases ho : W.heap[0]? with
  | none => rw [ho] at hT; cases hT
  | some o => rw [hw.2 0 o ho]
end Go.Proofs.YthijempdiheabaaDoor
