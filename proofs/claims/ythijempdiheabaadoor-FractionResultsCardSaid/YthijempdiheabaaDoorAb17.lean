import Derived.Test.YthijempdiheabaaDoorAb16
set_option autoImplicit false
namespace Go.Ab
open Go Go.RowKit
theorem DV.rel_slc_congr {h : IH} {sz n : Nat} {f g : Nat → DV} (hfg : ∀ i, i < n → f i = g i) {v : Value} (hr : DV.rel h (.slc sz n f) v) : DV.rel h (.slc sz n g) v := by
  obtain ⟨p, cap, e, hc, r⟩ := hr
  refine ⟨p, cap, e, hc, r.imp id ?_⟩
  rintro ⟨b, off, hp, r⟩
  exact ⟨b, off, hp, fun i hi => by rw [← hfg i hi]; exact r i hi⟩
/-- A contract for arguments that read the same way. -/
theorem FnOK.args {P : Program} {G : IH} {f : FuncId} {xs ys : List DV} {r : DV} (h : FnOK P G f ys r) (hxy : ∀ k us, DV.rels k xs us → DV.rels k ys us) : FnOK P G f xs r :=
  ⟨h.1, fun w k us hG hw hu => h.2 w k us hG hw (hxy k us hu)⟩
theorem DV.rels_cons {h : IH} {x y : DV} {xs ys : List DV} (h1 : ∀ v, x.rel h v → y.rel h v) (h2 : ∀ us, DV.rels h xs us → DV.rels h ys us) : ∀ us, DV.rels h (x :: xs) us → DV.rels h (y :: ys) us := by
  rintro us ⟨v, us', e, r, rs⟩
  exact ⟨v, us', e, h1 v r, h2 us' rs⟩
/-- From 'for every i < n there is one' to a list. -/
theorem list_of {α : Type} {n : Nat} {p : Nat → α → Prop} (d : α) (h : ∀ i, i < n → ∃ x, p i x) : ∃ L : List α, L.length = n ∧ ∀ i, i < n → p i (L.getD i d) := by
  classical
  refine ⟨(List.range n).map fun i => if hi : i < n then Classical.choose (h i hi) else d, by simp, fun i hi => ?_⟩
  simp only [List.getD, List.getElem?_map, List.getElem?_range hi, Option.map_some, Option.getD_some, dif_pos hi]
  exact Classical.choose_spec (h i hi)
end Go.Ab
