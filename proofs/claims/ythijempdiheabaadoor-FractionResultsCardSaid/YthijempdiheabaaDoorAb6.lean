import Derived.Test.YthijempdiheabaaDoorAb5
set_option autoImplicit false
namespace Go.Ab
open Go Go.RowKit
section ops
variable {P : Program} {G : IH} {o : Oper} {ρ : Operand → AV} {st : AS}

def zeroOf (P : Program) (T : TypeId) : Option (List Value) :=
  match P.info? T with | some i => (match i.zero with | some v => some v.cells.toList | none => none) | none => none
theorem run_zero {T : TypeId} {l : List Value} (h : zeroOf P T = some l) (w : World) : ∃ v, (zeroValue T).run P w = .ok v w ∧ v.cells.toList = l := by
  unfold zeroOf at h
  cases hi : P.info? T with
  | none => simp [hi] at h
  | some i =>
    cases hz : i.zero with
    | none => simp [hi, hz] at h
    | some v => simp only [hi, hz, Option.some.injEq] at h; exact ⟨v, by simp [zeroValue, typeInfo, hi, hz], h⟩
theorem frees_con (s : Nat) : ∀ l : List Value, AV.frees s (l.map fun v => AV.d (.con v)) = true
  | [] => rfl
  | _ :: l => by simp [AV.frees, AV.free, frees_con s l]
theorem rels_con' (β : Nat → Nat) (h : IH) (l : List Value) : AV.rels β h (l.map fun v => AV.d (.con v)) l := by
  have := (AV.rels_d (β := β)).2 (rels_con (h := h) l)
  rwa [List.map_map] at this
theorem wr_all {e : Ev} {b : Nat × List AV} (hb : b ∈ e.nw) : e.wr (.size b.1) = true := by
  simp only [Ev.wr, Ev.writes, List.any_append, List.any_map, Bool.or_eq_true]
  refine .inr (.inr (List.any_eq_true.2 ⟨b, hb, by simp [Loc.hits]⟩))

theorem core_alloc {T : TypeId} (ho : o.op = .alloc T) {s : Nat} (hs : o.dst = some s) {l : List Value} (hz : zeroOf P T = some l) :
    Core P G o ρ st { dst := some s, val := .box s 0, nw := [(s, l.map fun v => .d (.con v))] } := by
  intro F w0 h0 st' β h a w K Q hlen hag hfr g hd hop hK
  obtain ⟨v, hv, hl⟩ := run_zero hz w
  unfold Oper.wp
  have hrun : (execOp a.eval o).run P w = .ok (.value (.pointer (some ⟨w.heap.size, 0, none⟩))) (w.alloc (.cells l.toArray T)) := by
    simp only [execOp, ho, Instr.alloc, Sem.run_bind, hv, Result.andThen_ok]
    simp only [newVar, newRow, Sem.run_bind, run_newObj, Result.andThen_ok, Sem.run_pure, ← hl, Array.toArray_toList]
    rfl
  rw [hrun, Oper.upon_value]
  refine hK _ _ (upd β s w.heap.size) h (by rw [put_defers]; exact hd) ?_
  rw [put_tmps, hs]
  have hfr' := hfr (s, l.map fun v => .d (.con v)) (by simp)
  exact (g.alloc hfr' (frees_con s l) (rels_con' β h l)).put (t := some s) (x := .box s 0) (v := .pointer (some ⟨w.heap.size, 0, none⟩)) (by simp [AV.rel, upd])

theorem core_box {T : TypeId} {x : Operand} (ho : o.op = .box T x) {s : Nat} (hs : o.dst = some s) {l : List AV} (hc : cellsOf (ρ x) = some l) (hf : AV.frees s l = true) :
    Core P G o ρ st { dst := some s, val := .box s 0, nw := [(s, l)] } := by
  intro F w0 h0 st' β h a w K Q hlen hag hfr g hd hop hK
  obtain ⟨vs, hcv, hr, _⟩ := cellsOf_rel hc (hop x (by simp [ho, Op.operands]))
  unfold Oper.wp
  have hrun : (execOp a.eval o).run P w = .ok (.value (.pointer (some ⟨w.heap.size, 0, none⟩))) (w.alloc (.cells vs.toArray T)) := by
    simp only [execOp, ho, Instr.box, newVar, newRow, Sem.run_bind, run_newObj, Result.andThen_ok, Sem.run_pure, hcv]
    rfl
  rw [hrun, Oper.upon_value]
  refine hK _ _ (upd β s w.heap.size) h (by rw [put_defers]; exact hd) ?_
  rw [put_tmps, hs]
  exact (g.alloc (hfr (s, l) (by simp)) hf hr).put (t := some s) (x := .box s 0) (v := .pointer (some ⟨w.heap.size, 0, none⟩)) (by simp [AV.rel, upd])

theorem add_off (b off n : Nat) : Addr.add ⟨b, off, none⟩ n = ⟨b, off + n, none⟩ := by
  unfold Addr.add; split <;> simp_all
/-- The cells of a block of the walk's own, as they lie in memory. -/
theorem Gam.cells {F : Nat → Prop} {w0 : World} {h0 : IH} {β : Nat → Nat} {h : IH} {tm : Array Value} {w : World} (g : Gam G F w0 h0 st β h tm w) {s : Nat} {l : List AV} (hb : st.box s = some l) (off n : Nat) :
    ∃ vs : List Value, AV.rels β h ((l.drop off).take n) vs ∧ (∀ j v, vs[j]? = some v → w.cell? ⟨β s, off + j, none⟩ = some v) := by
  obtain ⟨_, _, _, T, vs, hh, hr⟩ := g.box s l hb
  refine ⟨(vs.drop off).take n, (hr.drop off).take n, fun j v hj => ?_⟩
  have hj' : vs[off + j]? = some v := by
    rw [List.getElem?_take] at hj
    split at hj
    · simpa using hj
    · cases hj
  simp [World.cell?, hh, hj']
theorem box_congr {st st' : AS} {s : Nat} (hsz : st'.at_ (.size s) = st.at_ (.size s)) : (st'.box s).map List.length = (st.box s).map List.length := by
  simpa [AS.at_] using hsz

/-- What is loaded out of some cells. -/
def loadVal (agg : Bool) (l : List AV) : Option AV := match agg with | true => some (mkAgg l) | false => match l with | [x] => some x | _ => none
theorem run_loadVar_cells {T : TypeId} {n : Nat} (hu : hasU P T = true) (hz : sizeT P T = some n) {b off : Nat} {w : World} {l : List AV} {vs : List Value} {β : Nat → Nat} {h : IH} (hlen : l.length = n) (hr : AV.rels β h l vs)
    (hc : ∀ j v, vs[j]? = some v → w.cell? ⟨b, off + j, none⟩ = some v) {x : AV} (hx : loadVal (aggT P T) l = some x) :
    ∃ v, (loadVar T ⟨b, off, none⟩).run P w = .ok v w ∧ x.rel β h v := by
  simp only [loadVar, Sem.run_bind, run_isAgg hu, Result.andThen_ok, Sem.run_ite]
  cases ha : aggT P T with
  | true =>
    rw [ha] at hx
    simp only [loadVal, Option.some.injEq] at hx; subst hx
    refine ⟨.agg vs.toArray, ?_, mkAgg_rel.2 ⟨vs, rfl, hr⟩⟩
    have hn : n = vs.length := by rw [hr.length, hlen]
    simp only [if_true, run_sizeT hz, Result.andThen_ok, hn]
    rw [run_loadCells_list w _ vs (fun j v hj => by rw [add_off]; exact hc j v hj)]
    simp
  | false =>
    rw [ha] at hx
    simp only [loadVal] at hx
    match l, hx, hr with
    | [y], hx, ⟨v, vs', e, r, rs⟩ =>
      simp only [Option.some.injEq] at hx; subst hx
      subst e
      refine ⟨v, ?_, r⟩
      have := hc 0 v rfl
      simp only [Nat.add_zero] at this
      simp [run_load, this]

def rdLocs (s off n : Nat) : List (Nat × Nat) := (List.range n).map fun j => (s, off + j)
theorem core_load_box {T : TypeId} {p : Operand} (ho : o.op = .load T p) {s off : Nat} (hp : ρ p = .box s off) {n : Nat} (hu : hasU P T = true) (hz : sizeT P T = some n) {l : List AV} (hb : st.box s = some l)
    (hn : ((l.drop off).take n).length = n) {x : AV} (hx : loadVal (aggT P T) ((l.drop off).take n) = some x) : Core P G o ρ st { dst := o.dst, val := x, rdc := rdLocs s off n } := by
  intro F w0 h0 st' β h a w K Q hlen hag hfr g hd hop hK
  have hpv := hop p (by simp [ho, Op.operands])
  rw [hp] at hpv
  simp only [AV.rel] at hpv
  -- the cells as the state at hand has them
  have hcell : ∀ j, j < n → ∃ l', st'.box s = some l' ∧ l'[off + j]? = l[off + j]? := by
    intro j hj
    have h1 := hag (.cell s (off + j)) (by
      simp only [List.any_append, List.any_map, Bool.or_eq_true, List.any_eq_true, rdLocs, List.mem_range, Function.comp]
      exact .inl ⟨j, hj, by simp [Loc.hits]⟩)
    simp only [AS.at_, hb, Option.bind_some, Prod.mk.injEq, and_true] at h1
    have h2 : l[off + j]? = some (l[off + j]'(by simp at hn; omega)) := by simp
    rw [h2] at h1
    cases hb' : st'.box s with
    | none => simp [hb'] at h1
    | some l' => exact ⟨l', rfl, by simpa [hb', h2] using h1⟩
  have hrun : ∃ v, (loadVar T ⟨β s, off, none⟩).run P w = .ok v w ∧ x.rel β h v := by
    cases n with
    | zero =>
      have hnil : (l.drop off).take 0 = [] := rfl
      rw [hnil] at hx
      exact run_loadVar_cells hu hz (l := []) (vs := []) rfl rfl (by simp) hx
    | succ n =>
      obtain ⟨l', hb', _⟩ := hcell 0 (by omega)
      obtain ⟨vs, hr, hc⟩ := g.cells hb' off (n + 1)
      have heq : (l'.drop off).take (n + 1) = (l.drop off).take (n + 1) := by
        apply List.ext_getElem?
        intro j
        simp only [List.getElem?_take]
        split
        · rename_i hj
          obtain ⟨l'', hb'', hl⟩ := hcell j hj
          rw [hb'] at hb''; injection hb'' with hb''; subst hb''
          simpa using hl
        · rfl
      rw [heq] at hr
      exact run_loadVar_cells hu hz hn hr hc hx
  obtain ⟨v, hr, hv⟩ := hrun
  unfold Oper.wp
  have : (execOp a.eval o).run P w = .ok (.value v) w := by
    simp only [execOp, ho, Instr.loadAt, hpv, Instr.sureAddr, Sem.run_bind, Sem.run_pure, Result.andThen_ok, hr]
  rw [this, Oper.upon_value]
  refine hK _ _ β h (by rw [put_defers]; exact hd) ?_
  rw [put_tmps]
  exact g.put hv

theorem core_load_ptr {T : TypeId} {p : Operand} (ho : o.op = .load T p) {l : List DV} (hp : ρ p = .d (.ptr l)) {n : Nat} (hu : hasU P T = true) (hz : sizeT P T = some n)
    (hn : (l.take n).length = n) {x : AV} (hx : loadVal (aggT P T) ((l.take n).map .d) = some x) : Core P G o ρ st { dst := o.dst, val := x } :=
  core_value fun β h a w _ hw hop => by
    have hpv := hop p (by simp [ho, Op.operands])
    rw [hp] at hpv
    obtain ⟨b, off, hpv, vs, hr, hc⟩ := hpv
    obtain ⟨v, hrun, hv⟩ := run_loadVar_cells (P := P) (w := w) (β := β) (h := h) hu hz (l := (l.take n).map .d) (vs := vs.take n) (b := b) (off := off) (by simpa using hn) (AV.rels_d.2 (hr.take n)) (fun j v hj => by
      have hj' : vs[j]? = some v := by
        rw [List.getElem?_take] at hj
        split at hj
        · exact hj
        · cases hj
      have hlt := (List.getElem?_eq_some_iff.1 hj').1
      exact hw.1 _ _ _ ((hc j hlt).trans hj')) hx
    refine ⟨v, ?_, hv⟩
    simp only [execOp, ho, Instr.loadAt, hpv, Instr.sureAddr, Sem.run_bind, Sem.run_pure, Result.andThen_ok, hrun]

def wrList (s : Nat) : Nat → List AV → List (Nat × Nat × AV)
  | _, [] => []
  | i, x :: l => (s, i, x) :: wrList s (i + 1) l
theorem storeCells_sound {F : Nat → Prop} {w0 : World} {h0 : IH} {β : Nat → Nat} {h : IH} {tm : Array Value} {s : Nat} {b off : Nat} (hb : β s = b) : ∀ (l : List AV) (vs : List Value) (i : Nat) (st' : AS) (w : World),
    Gam G F w0 h0 st' β h tm w → AV.rels β h l vs → l.all avOne = true → (∀ j, j < l.length → ((st'.box s).bind (·[off + i + j]?)).isSome = true) →
    ∃ w', (storeCells ⟨b, off, none⟩ vs i).run P w = .ok () w' ∧ Gam G F w0 h0 ⟨st'.regs, setAll (wrList s (off + i) l) st'.boxes⟩ β h tm w'
  | [], vs, i, st', w, g, hr, _, _ => by simp only [AV.rels] at hr; subst hr; exact ⟨w, rfl, g⟩
  | x :: l, _, i, st', w, g, ⟨v, vs', e, hx, hr⟩, hall, hin => by
    subst e
    simp only [List.all_cons, Bool.and_eq_true] at hall
    have h0' := hin 0 (by simp)
    cases hbx : st'.box s with
    | none => simp [hbx] at h0'
    | some lb =>
      obtain ⟨_, _, _, T, us, hh, hrs⟩ := g.box s lb hbx
      have hlt : off + i < lb.length := by simpa [hbx] using h0'
      have hlt' : off + i < us.length := by rw [hrs.length]; exact hlt
      have hcell : w.cell? ⟨b, off + i, none⟩ = some (us[off + i]) := by simp [World.cell?, ← hb, hh, hlt']
      have hfz : w.frozen? ⟨b, off + i, none⟩ = false := by simp [World.frozen?, ← hb, hh]
      have g' := g.store (s := s) (i := off + i) ⟨lb, hbx⟩ hx
      rw [hb] at g'
      obtain ⟨w', hrun, g''⟩ := storeCells_sound (off := off) hb l vs' (i + 1) _ _ g' hr hall.2 (fun j hj => by
        have := hin (j + 1) (by simp; omega)
        rw [show off + i + (j + 1) = off + (i + 1) + j from by omega] at this
        simp only [AS.box, look_setCells, if_true] at this ⊢
        cases hl : look st'.boxes s with
        | none => simp [hl] at this
        | some c => simpa [hl] using this)
      refine ⟨w', ?_, ?_⟩
      · simp only [storeCells, Sem.run_bind, add_off]
        rw [run_store P w _ v _ (avOne_rel hall.1 hx), hcell]
        simp only [hfz, Bool.false_eq_true, if_false, Result.andThen_ok]
        exact hrun
      · simpa [wrList, setAll, Nat.add_assoc] using g''

theorem core_store {T : TypeId} {p x : Operand} (ho : o.op = .store T p x) (hdst : o.dst = none) {s off : Nat} (hp : ρ p = .box s off) {n : Nat} (hz : sizeT P T = some n) {l : List AV} (hc : cellsOf (ρ x) = some l) (hl : l.length = n)
    {lb : List AV} (hb : st.box s = some lb) (hin : off + n ≤ lb.length) : Core P G o ρ st { dst := none, val := .any, wrc := wrList s off l } := by
  intro F w0 h0 st' β h a w K Q hlen hag hfr g hd hop hK
  have hpv := hop p (by simp [ho, Op.operands])
  rw [hp] at hpv
  simp only [AV.rel] at hpv
  obtain ⟨vs, hcv, hr, hall⟩ := cellsOf_rel hc (hop x (by simp [ho, Op.operands]))
  have hmem : ∀ (l : List AV) (i j : Nat), j < l.length → ∃ y, (s, i + j, y) ∈ wrList s i l := by
    intro l
    induction l with
    | nil => intro i j hj; simp at hj
    | cons z l ih =>
      intro i j hj
      cases j with
      | zero => exact ⟨z, by simp [wrList]⟩
      | succ j =>
        obtain ⟨y, hy⟩ := ih (i + 1) j (by simpa using hj)
        exact ⟨y, by simp only [wrList]; rw [show i + (j + 1) = i + 1 + j from by omega]; exact List.mem_cons_of_mem _ hy⟩
  obtain ⟨w', hrun, g'⟩ := storeCells_sound (P := P) (off := off) (s := s) rfl l vs 0 st' w g hr hall (fun j hj => by
    obtain ⟨y, hy⟩ := hmem l off j hj
    have h1 := hag (.cell s (off + j)) (by
      simp only [Ev.writes, List.any_append, List.any_map, Bool.or_eq_true]
      exact .inr (.inr (.inl (List.any_eq_true.2 ⟨_, hy, by simp [Loc.hits]⟩))))
    simp only [AS.at_, hb, Option.bind_some, Prod.mk.injEq, and_true] at h1
    rw [Nat.add_zero, h1]
    have : off + j < lb.length := by omega
    simp [this])
  unfold Oper.wp
  have : (execOp a.eval o).run P w = .ok .skip w' := by
    simp only [execOp, ho, Instr.storeAt, hpv, Instr.sureAddr, Sem.run_bind, Sem.run_pure, Result.andThen_ok, storeVar, run_sizeT hz, hcv, Sem.run_ite]
    rw [if_neg (by simp [hr.length, hl])]
    simp [hrun]
  rw [this, Oper.upon_skip]
  refine hK _ _ β h (by rw [put_defers]; exact hd) ?_
  rw [put_tmps, hdst]
  simpa [Ev.app, putReg, putT] using g'
end ops
end Go.Ab
