import Derived.Test.YthijempdiheabaaDoorAb3
set_option autoImplicit false
namespace Go.Ab
open Go Go.RowKit

/-- THE CONTRACT OF A FUNCTION: called with arguments that read as 'args' it returns what reads as 'r'; it writes nothing that was there. -/
def FnOK (P : Program) (G : IH) (f : FuncId) (args : List DV) (r : DV) : Prop :=
  (∀ (vs : Array Value) (w : World), (callFunc f vs).run P w = .ok (.enter f vs) w) ∧
  ∀ (w : World) (h : IH) (vs : List Value), G.le h → h.holds w → DV.rels h args vs →
    Calls P f vs.toArray w fun e w' => ∃ v h', e = .returned v ∧ DV.rel h' r v ∧ h.le h' ∧ h'.holds w' ∧ Kept (fun _ => False) w w' ∧
      ∀ b, b < w.heap.size → (∀ o, h'.cell b o = h.cell b o) ∧ h'.obj b = h.obj b

theorem Kept.trans {F : Nat → Prop} {a b c : World} (h : Kept F a b) (k : Kept F b c) : Kept F a c :=
  ⟨k.os.trans h.os, k.tape.trans h.tape, k.output.trans h.output, Nat.le_trans h.size k.size, fun i hi hn => (k.block i (Nat.lt_of_lt_of_le hi h.size) hn).trans (h.block i hi hn)⟩
theorem Kept.mono {F F' : Nat → Prop} {a b : World} (h : Kept F a b) (hF : ∀ k, F k → F' k) : Kept F' a b :=
  ⟨h.os, h.tape, h.output, h.size, fun i hi hn => h.block i hi fun hf => hn (hF i hf)⟩
theorem lt_of_heap {w : World} {b : Nat} {o : Obj} (h : w.heap[b]? = some o) : b < w.heap.size := (Array.getElem?_eq_some_iff.1 h).1

section
variable {G : IH} {F : Nat → Prop} {w0 : World} {h0 : IH} {st : AS} {β : Nat → Nat} {h : IH} {tm : Array Value} {w : World}
def putT (tm : Array Value) (t : Option Nat) (v : Value) : Array Value := match t with | some d => tm.setIfInBounds d v | none => tm
theorem Gam.put (g : Gam G F w0 h0 st β h tm w) {t : Option Nat} {x : AV} {v : Value} (hx : x.rel β h v) :
    Gam G F w0 h0 ⟨putReg st.regs t x, st.boxes⟩ β h (putT tm t v) w where
  glob := g.glob
  holds := g.holds
  ext := g.ext
  old := g.old
  kept := g.kept
  size := by cases t <;> simp [putReg, putT, g.size]
  regs u y hy := by
    cases t with
    | none => exact g.regs u y hy
    | some t =>
      rw [getElem?_putReg] at hy
      simp only [Option.some.injEq] at hy
      by_cases hu : t = u
      · subst hu
        rw [if_pos rfl] at hy
        cases hr : st.regs[t]? with
        | none => rw [hr] at hy; simp at hy
        | some z =>
          rw [hr] at hy
          simp at hy; subst hy
          obtain ⟨v', hv', _⟩ := g.regs t z hr
          have := (Array.getElem?_eq_some_iff.1 hv').1
          exact ⟨v, by simp [putT, this], hx⟩
      · rw [if_neg hu] at hy
        obtain ⟨v', hv', hr'⟩ := g.regs u y hy
        exact ⟨v', by simp only [putT]; rw [Array.getElem?_setIfInBounds_ne hu]; exact hv', hr'⟩
  box := g.box
  inj := g.inj
/-- Behind a call: the memory has grown. -/
theorem Gam.grow (g : Gam G F w0 h0 st β h tm w) {h' : IH} {w' : World} (hh : h.le h') (hw : h'.holds w') (hk : Kept (fun _ => False) w w')
    (ho : ∀ b, b < w.heap.size → (∀ o, h'.cell b o = h.cell b o) ∧ h'.obj b = h.obj b) : Gam G F w0 h0 st β h' tm w' where
  glob := g.glob.trans hh
  holds := hw
  ext := g.ext.trans hh
  old b hb hn := by
    have h1 := g.old b hb hn
    have h2 := ho b (Nat.lt_of_lt_of_le hb g.kept.size)
    exact ⟨fun o => (h2.1 o).trans (h1.1 o), h2.2.trans h1.2⟩
  kept := g.kept.trans (hk.mono fun _ h => h.elim)
  size := g.size
  regs t x hx := let ⟨v, hv, hr⟩ := g.regs t x hx; ⟨v, hv, AV.rel.mono hh x v hr⟩
  box s l hb := by
    obtain ⟨h1, h2, h3, T, vs, h4, h5⟩ := g.box s l hb
    have hlt := lt_of_heap h4
    have h6 := ho (β s) hlt
    exact ⟨h1, fun o => (h6.1 o).trans (h2 o), h6.2.trans h3, T, vs, (hk.block _ hlt id).trans h4, AV.rels.mono hh l vs h5⟩
  inj := g.inj
theorem holds_alloc (hw : h.holds w) (o : Obj) : h.holds (w.alloc o) := by
  refine ⟨fun b i v e => ?_, fun b x e => ?_⟩
  · have := hw.1 b i v e
    have hb : b < w.heap.size := by
      simp only [World.cell?] at this
      split at this
      · rename_i hh; exact lt_of_heap hh
      · simp at this
    rw [World.cell?_alloc_lt _ _ _ hb]; exact this
  · have := hw.2 b x e
    show (w.heap.push o)[b]? = _
    rw [Array.getElem?_push, if_neg (by have := lt_of_heap this; omega)]; exact this
theorem holds_none (hw : h.holds w) {b : Nat} (hb : w.heap.size ≤ b) : (∀ o, h.cell b o = none) ∧ h.obj b = none := by
  refine ⟨fun o => ?_, ?_⟩
  · cases hc : h.cell b o with
    | none => rfl
    | some v =>
      have := hw.1 b o v hc
      simp only [World.cell?] at this
      split at this
      · rename_i hh; have := lt_of_heap hh; omega
      · simp at this
  · cases hc : h.obj b with
    | none => rfl
    | some v => have := lt_of_heap (hw.2 b v hc); omega
/-- A new block of the walk's own. -/
theorem Gam.alloc (g : Gam G F w0 h0 st β h tm w) {s : Nat} {l : List AV} {vs : List Value} {T : TypeId} (hf : st.free s = true) (hl : AV.frees s l = true) (hr : AV.rels β h l vs) :
    Gam G F w0 h0 ⟨st.regs, (s, l) :: st.boxes⟩ (upd β s w.heap.size) h tm (w.alloc (.cells vs.toArray T)) where
  glob := g.glob
  holds := holds_alloc g.holds _
  ext := g.ext
  old := g.old
  kept := g.kept.trans ⟨rfl, rfl, rfl, by simp, fun k hk _ => Below.heap_alloc _ _ _ hk⟩
  size := g.size
  regs t x hx := by
    obtain ⟨v, hv, hr⟩ := g.regs t x hx
    refine ⟨v, hv, AV.rel.upd x v ?_ hr⟩
    simp only [AS.free, Bool.and_eq_true] at hf
    have : ∀ (l : List AV) (t : Nat), AV.frees s l = true → l[t]? = some x → x.free s = true := by
      intro l
      induction l with
      | nil => intro t _ h; simp at h
      | cons y l ih =>
        intro t hl h
        simp only [AV.frees, Bool.and_eq_true] at hl
        cases t with
        | zero => simp at h; subst h; exact hl.1
        | succ t => exact ih t hl.2 (by simpa using h)
    exact this _ _ hf.1 hx
  box s' l' hb := by
    have hnone := holds_none g.holds (Nat.le_refl w.heap.size)
    simp only [AS.box, look] at hb
    by_cases hs : s = s'
    · subst hs
      simp only [beq_self, cond_true, Option.some.injEq] at hb
      subst hb
      simp only [upd, if_true]
      exact ⟨.inr g.kept.size, hnone.1, hnone.2, T, vs, by show (w.heap.push _)[w.heap.size]? = _; simp, AV.rels.upd l vs hl hr⟩
    · rw [beq_ne hs, cond_false] at hb
      obtain ⟨h1, h2, h3, T', vs', h4, h5⟩ := g.box s' l' hb
      simp only [upd, if_neg (Ne.symm hs)]
      refine ⟨h1, h2, h3, T', vs', by rw [Below.heap_alloc _ _ _ (lt_of_heap h4)]; exact h4, AV.rels.upd l' vs' ?_ h5⟩
      simp only [AS.free, Bool.and_eq_true, List.all_eq_true] at hf
      have : ∀ (b : List (Nat × List AV)), look b s' = some l' → (s', l') ∈ b := by
        intro b
        induction b with
        | nil => intro h; simp [look] at h
        | cons y b ih =>
          intro h
          obtain ⟨k, c⟩ := y
          simp only [look] at h
          by_cases hk : k = s'
          · subst hk; simp at h; subst h; simp
          · rw [beq_ne hk, cond_false] at h; exact List.mem_cons_of_mem _ (ih h)
      exact hf.2 _ (this _ hb)
  inj a b l1 l2 ha hb hab := by
    simp only [AS.box, look] at ha hb
    by_cases h1 : s = a <;> by_cases h2 : s = b
    · exact h1.symm.trans h2
    · subst h1
      rw [beq_ne h2, cond_false] at hb
      obtain ⟨_, _, _, _, _, h4, _⟩ := g.box b l2 hb
      simp only [upd, if_true, if_neg (Ne.symm h2)] at hab
      have := lt_of_heap h4; omega
    · subst h2
      rw [beq_ne h1, cond_false] at ha
      obtain ⟨_, _, _, _, _, h4, _⟩ := g.box a l1 ha
      simp only [upd, if_true, if_neg (Ne.symm h1)] at hab
      have := lt_of_heap h4; omega
    · rw [beq_ne h1, cond_false] at ha
      rw [beq_ne h2, cond_false] at hb
      simp only [upd, if_neg (Ne.symm h1), if_neg (Ne.symm h2)] at hab
      exact g.inj a b l1 l2 ha hb hab
theorem rels_set {l : List AV} {vs : List Value} (hr : AV.rels β h l vs) {i : Nat} {x : AV} {v : Value} (hx : x.rel β h v) : AV.rels β h (l.set i x) (vs.set i v) := by
  refine AV.rels.of_get (by simp [hr.length]) fun j y hy => ?_
  by_cases hj : i = j
  · subst hj
    have hi : i < l.length := by
      by_cases hi : i < l.length
      · exact hi
      · simp [hi] at hy
    simp [hi] at hy; subst hy
    exact ⟨v, by simp [hr.length, hi], hx⟩
  · rw [List.getElem?_set_ne hj] at hy ⊢
    exact hr.get hy
/-- A store into a block of the walk's own. -/
theorem Gam.store (g : Gam G F w0 h0 st β h tm w) {s i : Nat} {x : AV} {v : Value} (hb : ∃ l, st.box s = some l) (hx : x.rel β h v) :
    Gam G F w0 h0 ⟨st.regs, setCells s i x st.boxes⟩ β h tm (w.setCell ⟨β s, i, none⟩ v) where
  glob := g.glob
  holds := by
    obtain ⟨l, hb⟩ := hb
    obtain ⟨_, h2, h3, _⟩ := g.box s l hb
    refine ⟨fun b o u e => ?_, fun b o e => ?_⟩
    · rw [World.cell?_setCell_other]
      · exact g.holds.1 b o u e
      · intro he; injection he with he _; subst he; rw [h2] at e; cases e
    · rw [Below.heap_setCell]
      · exact g.holds.2 b o e
      · intro he; simp only at he; subst he; rw [h3] at e; cases e
  ext := g.ext
  old := g.old
  kept := by
    obtain ⟨l, hb⟩ := hb
    obtain ⟨h1, _⟩ := g.box s l hb
    refine ⟨g.kept.os, g.kept.tape, g.kept.output, by simpa using g.kept.size, fun k hk hn => ?_⟩
    rw [Below.heap_setCell _ _ _ _ (by
      simp only
      rintro rfl
      rcases h1 with h1 | h1
      · exact hn h1
      · omega)]
    exact g.kept.block k hk hn
  size := g.size
  regs := g.regs
  box s' l' hb' := by
    simp only [AS.box, look_setCells] at hb'
    by_cases hs : s' = s
    · subst hs
      rw [if_pos rfl] at hb'
      cases hl : look st.boxes s' with
      | none => rw [hl] at hb'; simp at hb'
      | some l =>
        rw [hl] at hb'
        simp at hb'; subst hb'
        obtain ⟨h1, h2, h3, T, vs, h4, h5⟩ := g.box s' l hl
        exact ⟨h1, h2, h3, T, vs.set i v, by simp only [World.setCell, Array.getElem?_modify, if_true, h4]; simp, rels_set h5 hx⟩
    · rw [if_neg hs] at hb'
      obtain ⟨h1, h2, h3, T, vs, h4, h5⟩ := g.box s' l' hb'
      obtain ⟨l, hb⟩ := hb
      exact ⟨h1, h2, h3, T, vs, by rw [Below.heap_setCell _ _ _ _ (fun e => hs (g.inj _ _ _ _ hb' hb e))]; exact h4, h5⟩
  inj a b l1 l2 ha hb' hab := by
    simp only [AS.box, look_setCells] at ha hb'
    have h1 : ∃ l, st.box a = some l := by
      split at ha
      · cases hl : look st.boxes a with
        | none => rw [hl] at ha; simp at ha
        | some l => exact ⟨l, hl⟩
      · exact ⟨_, ha⟩
    have h2 : ∃ l, st.box b = some l := by
      split at hb'
      · cases hl : look st.boxes b with
        | none => rw [hl] at hb'; simp at hb'
        | some l => exact ⟨l, hl⟩
      · exact ⟨_, hb'⟩
    obtain ⟨l1, h1⟩ := h1
    obtain ⟨l2, h2⟩ := h2
    exact g.inj a b l1 l2 h1 h2 hab
end
end Go.Ab
