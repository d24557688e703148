import Derived.Test.YthijempdiheabaaDoorRows
import Derived.Lib.LaidTab
import Derived.Lib.SmallJoins
import Derived.ProofKit
import Derived.LaidMore
import Derived.OpenShut
import Derived.Stop.Joined
import Derived.Test.YthijempdiheabaaDoorF6
set_option autoImplicit false
namespace Go.Proofs.YthijempdiheabaaDoor
open Go Go.Ab Go.ChangeShapes Go.WideShapes Go.ChangeAt Go.RowKit
set_option maxRecDepth 100000
abbrev laid3 : List (String × DataW Unit) := Rows.fractionFormsRow.laid
theorem own : ownKnob Tryd.prog.godebug = none := by kernel_rfl
theorem gPow : Tryd.prog.globalNamed "internal/strconv.uint64pow10" = some 0 := by kernel_rfl
theorem tPow : (Tryd.prog.globals[0]?).map (·.type) = some 92 := by kernel_rfl
theorem tab_of_laid {W : World} (h : laidMetH Tryd.prog laid3 W) : Lib.TabIs Tryd.prog W "internal/strconv.uint64pow10" .u64 Lib.pow10Tab := by
  rw [MakeChecks.laidMetH_plain _ _ _ (by kernel_rfl)] at h
  obtain ⟨ps, ⟨g0, t0, cs0, f0, p0, q0, hg0, ht0, hv0, hd0, ⟨g1, t1, cs1, f1, p1, q1, hg1, ht1, hv1, hd1, ⟨g2, t2, cs2, f2, p2, q2, hg2, ht2, hv2, hd2, _, _⟩, _⟩, _⟩, _⟩ := h
  obtain rfl := Option.some.inj (gPow.symm.trans hg2)
  obtain rfl := Option.some.inj (tPow.symm.trans ht2)
  unfold Lib.TabIs
  rw [hv2, ← Lib.cells_of_tab Tryd.underlying92 (by kernel_rfl) (by kernel_rfl) (by kernel_rfl) (k := .u64) (zs := Lib.pow10Tab) hd2]
theorem G_holds (W : World) : (globals W W.heap.size).holds W :=
  ⟨fun b o v h => by simp [globals] at h, fun b o h => by simp only [globals] at h; split at h <;> simp_all⟩
theorem tab_globals {W : World} (h : Lib.TabIs Tryd.prog W "internal/strconv.uint64pow10" .u64 Lib.pow10Tab) : Tab (globals W W.heap.size) := by
  intro w hw
  unfold Lib.TabIs at h ⊢
  rw [← h]
  unfold World.var?
  rw [gPow]
  simp only [Option.bind_some]
  have h' := h
  unfold World.var? at h'
  rw [gPow] at h'
  simp only [Option.bind_some] at h'
  cases ho : W.heap[0]? with
  | none => rw [ho] at h'; cases h'
  | some o =>
    have : w.heap[0]? = some o := hw.2 0 o (by
      have hlt : 0 < W.heap.size := (Array.getElem?_eq_some_iff.1 ho).1
      simp only [globals, if_pos hlt]; exact ho)
    rw [this]

theorem con3 {H : Type} {enc : TypeId × Value → H} : ∀ (W : World) (base : Nat) (args : Array Value) (ds gs : List (DataW H)) (before : List MemPlace),
      (∀ (j : Nat) t v, Tryd.f3.params[j]? = some t → args[j]? = some v → Value.okWide Tryd.prog W .any base t v) →
      DataW.Whole enc Tryd.prog Tryd.f3.params.toList Rows.fractionFormsSpec.vars false W args.toList ds gs before → laidMetH Tryd.prog laid3 W →
      Calls Tryd.prog 3 args W fun e W' => ∃ v, e = .returned v ∧ Rows.fractionFormsSpec.post enc Tryd.prog Tryd.f3 false true false false W args v W' := by
  intro W base args ds gs before hval0 hW hL
  have hval : ∀ (j : Nat) t v, Tryd.f3.params[j]? = some t → args[j]? = some v → Value.okWide Tryd.prog W .any base t v := hval0
  have hW' := hW
  obtain ⟨p, q, hA0, hV, rfl, hfz, hnd⟩ := hW
  have hA : DataW.TrodAll enc Tryd.prog W 0 (fun _ => true) true Tryd.f3.params.toList args.toList ds p := hA0
  rw [Tryd.params3] at hA hval
  obtain ⟨v0, v1, v2, d0, d1, d2, p0, p1, p2, rfl, rfl, rfl, h0, h1, h2⟩ := trodAll_three hA
  obtain ⟨rfl, rfl⟩ := trodVars_none hV
  obtain ⟨x0, x1, y0, y1, m, rfl, rfl, rfl, k0, k1⟩ := Joins.open_agg2 Tryd.underlying23 (by kernel_rfl) (by kernel_rfl) (hval 0 23 v0 rfl rfl) h0
  obtain ⟨a, rfl, rfl, rfl, wa⟩ := open_int Tryd.underlying3 (hval 1 3 v1 rfl rfl) h1
  obtain ⟨b, rfl, rfl, rfl, wb⟩ := open_int Tryd.underlying3 (hval 2 3 v2 rfl rfl) h2
  obtain ⟨n, hn, rfl, wn⟩ := DataW.trod_int Tryd.underlying3 k0
  obtain ⟨d, hd, rfl, wd⟩ := DataW.trod_int Tryd.underlying3 k1
  have ea : x0 = .int .i64 n := by simpa [Value.cells] using hn
  have eb : x1 = .int .i64 d := by simpa [Value.cells] using hd
  subst ea; subst eb
  have e1 : Rows.fractionFormsSpec.fn H ([.agg [.lit (.int .i64 n), .lit (.int .i64 d)], .lit (.int .i64 a), .lit (.int .i64 b)] ++ []) = { results := [.lit (.bool true)], args := [.agg [.lit (.int .i64 n), .lit (.int .i64 d)], .lit (.int .i64 a), .lit (.int .i64 b)] } := by simp [Rows.fractionFormsSpec]
  have hT := tab_globals (tab_of_laid hL)
  have hc := (f3 hT n d a b).2 W (globals W W.heap.size) [.agg #[.int .i64 n, .int .i64 d], .int .i64 a, .int .i64 b] (IH.le.refl _) (G_holds W) (by
    refine ⟨_, _, rfl, ?_, _, _, rfl, rfl, _, _, rfl, rfl, rfl⟩
    exact ⟨_, rfl, _, _, rfl, rfl, _, _, rfl, rfl, rfl⟩)
  refine Calls.mono hc ?_
  rintro e W' ⟨v, h', he, hv, -, -, hk, -⟩
  simp only [DV.rel] at hv
  subst hv; subst he
  refine ⟨_, rfl, _, _, _, [], [], [], hW', ?_, ?_, ?_, (Below.frame ⟨hk.os, hk.tape, hk.output, hk.size, fun k hk' => hk.block k hk' (fun h => h)⟩ _), fun h => by cases h⟩
  · rw [e1]; exact trodAll_mk1 (shut_bool Tryd.underlying4 true)
  · rw [e1]; exact trodAll_mk3 (Joins.shut_agg2 (y0 := (.lit (.int .i64 n), [])) (y1 := (.lit (.int .i64 d), [])) Tryd.underlying23 (by kernel_rfl) (by kernel_rfl) ⟨1, trod_int_mk 0 Tryd.underlying3 wn⟩ ⟨1, trod_int_mk 0 Tryd.underlying3 wd⟩) (shut_int Tryd.underlying3 wa) (shut_int Tryd.underlying3 wb)
  · rw [e1]; rfl
end Go.Proofs.YthijempdiheabaaDoor
