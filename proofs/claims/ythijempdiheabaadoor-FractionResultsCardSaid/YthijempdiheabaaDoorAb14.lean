import Derived.Test.YthijempdiheabaaDoorAb13
import Derived.Sort.Grow
import Derived.Deep.Draws
set_option autoImplicit false
namespace Go.Ab
open Go Go.RowKit
@[match_pattern] abbrev di (n : Int) : DV := .con (.int .i64 n)
@[match_pattern] abbrev db (b : Bool) : DV := .con (.bool b)
@[match_pattern] abbrev ds (s : ByteArray) : DV := .con (.string s)
@[match_pattern] abbrev vi (n : Int) : AV := .d (.con (.int .i64 n))
@[match_pattern] abbrev vb (b : Bool) : AV := .d (.con (.bool b))
@[match_pattern] abbrev vs (s : ByteArray) : AV := .d (.con (.string s))
section
variable {P : Program} {G : IH}
theorem holds_below {h : IH} {w w' : World} (hw : h.holds w) (hb : Below w.heap.size w w') : h.holds w' := by
  refine ⟨fun b o v e => ?_, fun b o e => ?_⟩
  · have := hw.1 b o v e
    have hlt : b < w.heap.size := by
      simp only [World.cell?] at this
      split at this
      · rename_i hh; exact lt_of_heap hh
      · simp at this
    rw [hb.cell (p := ⟨b, o, none⟩) hlt]; exact this
  · have := hw.2 b o e
    rw [hb.block b (lt_of_heap this)]; exact this
/-- A contract of the shelf's, taken over: the result is known whole, and nothing that was there has turned. -/
theorem FnOK.of_calls {f : FuncId} {args : List Value} {v : Value} (hcall : ∀ (vs : Array Value) (w : World), (callFunc f vs).run P w = .ok (.enter f vs) w)
    (h : ∀ w, G.holds w → Calls P f args.toArray w fun e w' => e = .returned v ∧ Below w.heap.size w w') : FnOK P G f (args.map .con) (.con v) := by
  refine ⟨hcall, fun w k vs hG hw hvs => ?_⟩
  have hv : vs = args := by
    have : ∀ (l : List Value) (vs : List Value), DV.rels k (l.map .con) vs → vs = l := by
      intro l
      induction l with
      | nil => intro vs h; exact h
      | cons x l ih =>
        intro vs h
        obtain ⟨v, vs', e, hx, hr⟩ := h
        simp only [DV.rel] at hx
        rw [e, hx, ih vs' hr]
    exact this args vs hvs
  subst hv
  refine (h w ⟨fun b o v e => hw.1 b o v (hG.1 b o v e), fun b o e => hw.2 b o (hG.2 b o e)⟩).mono ?_
  rintro e w' ⟨rfl, hb⟩
  exact ⟨v, k, rfl, rfl, IH.le.refl _, holds_below hw hb, ⟨hb.os, hb.tape, hb.output, hb.size, fun i hi _ => hb.block i hi⟩, fun _ _ => ⟨fun _ => rfl, rfl⟩⟩
theorem below_grow (w : World) (q : Nat) (os : Array Obj) : Below w.heap.size w (Sort.grow (w.drewN q) os) := by
  refine ⟨rfl, rfl, rfl, by simp [Sort.grow, World.drewN], fun k hk => ?_⟩
  simp only [Sort.grow, World.drewN]
  rw [Array.getElem?_append_left hk]
/-- The memory of the package-level variables at a start, as it stays. -/
def globals (W : World) (n : Nat) : IH := ⟨fun _ _ => none, fun b => if b < n then W.heap[b]? else none⟩
end
end Go.Ab
