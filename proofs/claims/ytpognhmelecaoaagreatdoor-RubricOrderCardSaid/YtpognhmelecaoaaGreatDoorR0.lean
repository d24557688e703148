import Derived.Test.YtpognhmelecaoaaGreatDoorRows
import Derived.Lib.LaidTab
import Derived.ProofKit
import Derived.LaidMore
import Derived.OpenShut
import Derived.Stop.Joined
import Derived.Test.YtpognhmelecaoaaGreatDoorAcD
import Derived.Test.YtpognhmelecaoaaGreatDoorEM
import Derived.Test.YtpognhmelecaoaaGreatDoorEN
import Derived.Test.YtpognhmelecaoaaGreatDoorRW
set_option autoImplicit false
namespace Go.Proofs.YtpognhmelecaoaaGreatDoor
open Go Go.Ab Go.ChangeShapes Go.WideShapes Go.ChangeAt Go.RowKit
set_option maxRecDepth 100000
theorem own : ownKnob Tryz.prog.godebug = none := by kernel_rfl
theorem laidOut : laidOutB Tryz.prog = true := by kernel_rfl
theorem gPow : Tryz.prog.globalNamed "internal/strconv.uint64pow10" = some 1 := by kernel_rfl
theorem tPow : (Tryz.prog.globals[1]?).map (·.type) = some 186 := by kernel_rfl
theorem laidVars_get {P : Program} {W : World} : ∀ {l : List (String × DataW Unit)} {ps : List MemPlace}, DataW.LaidVars P W l ps →
    ∀ {i : Nat} {n : String} {d : DataW Unit}, l[i]? = some (n, d) → ∃ g t cs fuel p, P.globalNamed n = some g ∧ (P.globals[g]?).map (·.type) = some t ∧ W.var? P n = some cs ∧ DataW.trod (fun _ => ()) P W 0 (fun _ => true) false fuel t cs.toList = some (d, p)
  | [], ps, h, i, n, d, h1 => by simp at h1
  | (m, e) :: l, ps, ⟨g, t, cs, fuel, p, q, a1, a2, a3, a4, a5, a6⟩, i, n, d, h1 => by
    cases i with
    | zero =>
      simp at h1; obtain ⟨rfl, rfl⟩ := h1
      exact ⟨g, t, cs, fuel, p, a1, a2, a3, a4⟩
    | succ i => exact laidVars_get a5 (i := i) (by simpa using h1)
theorem tab_of_laid {laid : List (String × DataW Unit)} {W : World} (h : laidMetH Tryz.prog laid W) (hm : laidMetH Tryz.prog laid W = laidMet Tryz.prog laid W) {i : Nat} (hi : laid[i]? = some ("internal/strconv.uint64pow10", Rows.laid_internal_strconv_uint64pow10)) : Tab (allOf W) := by
  rw [hm] at h
  obtain ⟨ps, h, _⟩ := h
  obtain ⟨g2, t2, cs2, f2, p2, hg2, ht2, hv2, hd2⟩ := laidVars_get h hi
  obtain rfl := Option.some.inj (gPow.symm.trans hg2)
  obtain rfl := Option.some.inj (tPow.symm.trans ht2)
  have hT : Lib.TabIs Tryz.prog W "internal/strconv.uint64pow10" .u64 Lib.pow10Tab := by
    unfold Lib.TabIs
    rw [hv2, ← Lib.cells_of_tab Tryz.underlying186 (by kernel_rfl) (by kernel_rfl) (by kernel_rfl) (k := .u64) (zs := Lib.pow10Tab) hd2]
  intro w hw
  unfold Lib.TabIs at hT ⊢
  rw [← hT]
  unfold World.var? at hT ⊢
  rw [gPow] at hT ⊢
  simp only [Option.bind_some] at hT ⊢
  cases ho : W.heap[1]? with
  | none => rw [ho] at hT; cases hT
  | some o => rw [hw.2 1 o ho]
end Go.Proofs.YtpognhmelecaoaaGreatDoor
set_option autoImplicit false
namespace Go.Proofs
open Go Go.Ab Go.RowKit
/-! Descriptions that are read. -/
theorem words_of {n : Nat} {f : Nat → DV} (hn : n ≤ maxLen) (hf : ∀ i, i < n → ∃ d es, [f i] = d :: es ∧ (∃ s : ByteArray, s.size ≤ maxLen ∧ d = .con (.string s)) ∧ es = []) :
    ∃ l : List ByteArray, l.length = n ∧ (∀ i, i < l.length → (l.getD i .empty).size ≤ maxLen) ∧ ∀ k v, DV.rel k (.slc 1 n f) v → DV.rel k (wdD l) v := by
  obtain ⟨l, hl, hL⟩ := list_of (p := fun i (x : {s : ByteArray // s.size ≤ maxLen}) => f i = ds x.1) ⟨.empty, by simp⟩ (fun i hi => by
    obtain ⟨d, es, he, ⟨s, hs, rfl⟩, rfl⟩ := hf i hi
    simp only [List.cons.injEq, and_true] at he
    exact ⟨⟨s, hs⟩, he⟩)
  subst hl
  have hg : ∀ i, i < l.length → (l.map (·.1)).getD i .empty = (l.getD i ⟨.empty, by simp⟩).1 := fun i hi => by
    rw [List.getD, List.getD, List.getElem?_map, List.getElem?_eq_getElem hi]; rfl
  refine ⟨l.map (·.1), List.length_map .., fun i hi => ?_, fun k v h => ?_⟩
  · rw [List.length_map] at hi
    rw [hg i hi]; exact (l.getD i _).2
  · unfold wdD
    rw [List.length_map]
    refine DV.rel_slc_congr (fun i hi => ?_) h
    rw [hL i hi]
    unfold stF
    rw [hg i hi]
end Go.Proofs
set_option autoImplicit false
namespace Go.Proofs
open Go Go.Ab Go.RowKit
abbrev fcShW : List AbW.Sh := [.str, .int .i64, .int .i64, .int .i64, .int .i64, .int .i64, .slc false [.str]]
theorem facts_ofW {n : Nat} {f : Nat → DV} (hf : ∀ i, i < n → ∃ es, f i = .agg es ∧ AbW.Shs.dv fcShW es) :
    ∃ L : List Fc, L.length = n ∧ (∀ k v, DV.rel k (.slc 7 n f) v → DV.rel k (fcsD L) v) ∧ ∀ i, i < L.length → FcW (L.getD i fc0) := by
  obtain ⟨l, hl, hL⟩ := list_of (p := fun i (x : {x : Fc // FcW x}) => ∀ k v, DV.rel k (f i) v → DV.rel k (fcD x.1) v) ⟨fc0, ⟨by decide, by decide, fun i hi => absurd hi (by simp [fc0])⟩⟩ (fun i hi => by
    obtain ⟨es, h1, _, _, rfl, ⟨a, ha, rfl⟩, _, _, rfl, ⟨b, _, rfl⟩, _, _, rfl, ⟨c, _, rfl⟩, _, _, rfl, ⟨d, _, rfl⟩, _, _, rfl, ⟨e, _, rfl⟩, _, _, rfl, ⟨g, _, rfl⟩, _, _, rfl, ⟨n, f', hn, rfl, hw⟩, rfl⟩ := hf i hi
    obtain ⟨l, hl, hs, hr⟩ := words_of hn hw
    subst hl
    refine ⟨⟨⟨a, b, c, d, e, g, l⟩, ⟨ha, hn, hs⟩⟩, fun k v h => ?_⟩
    rw [h1] at h
    exact fc_rel (fun v => hr k v) h)
  subst hl
  refine ⟨l.map (·.1), List.length_map .., fun k v h => ?_, fun i hi => ?_⟩
  · unfold fcsD
    rw [List.length_map]
    refine rel_slc_imp (fun i hi v hv => ?_) h
    have := hL i hi k v hv
    unfold fcF
    rw [show (l.map (·.1)).getD i fc0 = (l.getD i ⟨fc0, ⟨by decide, by decide, fun i hi => absurd hi (by simp [fc0])⟩⟩).1 from by rw [List.getD, List.getD, List.getElem?_map, List.getElem?_eq_getElem hi]; rfl]
    exact this
  · rw [List.length_map] at hi
    rw [show (l.map (·.1)).getD i fc0 = (l.getD i ⟨fc0, ⟨by decide, by decide, fun i hi => absurd hi (by simp [fc0])⟩⟩).1 from by rw [List.getD, List.getD, List.getElem?_map, List.getElem?_eq_getElem hi]; rfl]
    exact (l.getD i _).2
end Go.Proofs
set_option autoImplicit false
namespace Go.Proofs
open Go Go.Ab Go.RowKit
set_option maxRecDepth 100000
/-! Rules that are read. -/
abbrev rlShW : List AbW.Sh := [.int .i64, .str, .str, .int .i64, .str, .int .i64, .int .i64, .int .i64, .own kidsP, .int .i64, .str, .int .i64, .int .i64, .int .i64, .own kidsP, .int .i64]
theorem rlW0 : RlW rl0 := by
  have h1 : ht rl0.am ≤ rl0.ma := by decide
  have h2 : wfE rl0.am := by unfold rl0 ex0; simp [wfE, wfL]
  exact ⟨by decide, by decide, h1, h2, h1, h2⟩
theorem rules_ofW {n : Nat} {f : Nat → DV} (hf : ∀ i, i < n → ∃ es, f i = .agg es ∧ AbW.Shs.dv rlShW es) :
    ∃ R : List Rl, R.length = n ∧ (∀ k v, DV.rel k (.slc 16 n f) v → DV.rel k (rlsD R) v) ∧ ∀ i, i < R.length → RlW (R.getD i rl0) := by
  obtain ⟨l, hl, hL⟩ := list_of (p := fun i (x : {x : Rl // RlW x}) => f i = rlD x.1) ⟨rl0, rlW0⟩ (fun i hi => by
    obtain ⟨es, h1, _, _, rfl, ⟨kd, _, rfl⟩, _, _, rfl, ⟨nm, hnm, rfl⟩, _, _, rfl, ⟨gr, hgr, rfl⟩, hr⟩ := hf i hi
    obtain ⟨_, _, rfl, ⟨k, _, rfl⟩, _, _, rfl, ⟨s, hs, rfl⟩, _, _, rfl, ⟨n, _, rfl⟩, _, _, rfl, ⟨d, _, rfl⟩, _, _, rfl, ⟨a, _, rfl⟩, _, _, rfl, ⟨⟨l, m, hm, hw, hl, rfl⟩, _⟩, hr⟩ := hr
    obtain ⟨_, _, rfl, ⟨k2, _, rfl⟩, _, _, rfl, ⟨s2, hs2, rfl⟩, _, _, rfl, ⟨n2, _, rfl⟩, _, _, rfl, ⟨d2, _, rfl⟩, _, _, rfl, ⟨a2, _, rfl⟩, _, _, rfl, ⟨⟨l2, m2, hm2, hw2, hl2, rfl⟩, _⟩, hr⟩ := hr
    obtain ⟨_, _, rfl, ⟨p, _, rfl⟩, rfl⟩ := hr
    exact ⟨⟨⟨kd, nm, gr, .mk k s n d a l, .mk k2 s2 n2 d2 a2 l2, p, m, m2⟩, hnm, hgr, by rw [ht_eq]; exact hm, ⟨hs, hl, hw⟩, by rw [ht_eq]; exact hm2, ⟨hs2, hl2, hw2⟩⟩, h1⟩)
  subst hl
  have hg : ∀ i, i < l.length → (l.map (·.1)).getD i rl0 = (l.getD i ⟨rl0, rlW0⟩).1 := fun i hi => by
    rw [List.getD, List.getD, List.getElem?_map, List.getElem?_eq_getElem hi]; rfl
  refine ⟨l.map (·.1), List.length_map .., fun k v h => ?_, fun i hi => ?_⟩
  · unfold rlsD
    rw [List.length_map]
    refine DV.rel_slc_congr (fun i hi => ?_) h
    rw [hL i hi]
    unfold rlF
    rw [hg i hi]
  · rw [List.length_map] at hi
    rw [hg i hi]; exact (l.getD i _).2
end Go.Proofs
