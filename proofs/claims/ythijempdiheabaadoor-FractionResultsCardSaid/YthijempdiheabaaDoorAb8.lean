import Derived.Test.YthijempdiheabaaDoorAb7
set_option autoImplicit false
namespace Go.Ab
open Go Go.RowKit
section ops
variable {P : Program} {G : IH} {o : Oper} {ρ : Operand → AV} {st : AS}

def sizesOf (P : Program) : List Field → Option (List (Nat × Nat))
  | [] => some []
  | f :: fs => match sizeT P f.type, sizesOf P fs with | some n, some l => some ((f.offset, n) :: l) | _, _ => none
theorem run_sizes : ∀ {fs : List Field} {l : List (Nat × Nat)} (_ : sizesOf P fs = some l) (w : World), (fs.mapM fun f => do pure (f.offset, ← sizeOf f.type) : Sem (List (Nat × Nat))).run P w = .ok l w
  | [], l, h, w => by simp only [sizesOf, Option.some.injEq] at h; subst h; simp
  | f :: fs, l, h, w => by
    simp only [sizesOf] at h
    cases hn : sizeT P f.type with
    | none => simp [hn] at h
    | some n =>
      cases hl : sizesOf P fs with
      | none => simp [hn, hl] at h
      | some l' =>
        simp only [hn, hl, Option.some.injEq] at h; subst h
        simp only [List.mapM_cons, Sem.run_bind, run_sizeT hn, Result.andThen_ok, Sem.run_pure, run_sizes hl w]
def placeOf (P : Program) (T : TypeId) : Option (Nat → Option (Nat × Nat)) :=
  match P.underlying T with
  | some (.struct fs) => match sizesOf P fs.toList with | some l => some (fun i => l[i]?) | none => none
  | some (.array _ e) => match sizeT P e with | some n => some (fun i => some (i * n, n)) | none => none
  | _ => none
def partsOf (ρ : Operand → AV) : List (Nat × Operand) → Option (List (Nat × List AV))
  | [] => some []
  | (i, x) :: r => match cellsOf (ρ x), partsOf ρ r with | some l, some m => some ((i, l) :: m) | _, _ => none
theorem partsOf_spec : ∀ {parts : List (Nat × Operand)} {m : List (Nat × List AV)} (_ : partsOf ρ parts = some m) {β : Nat → Nat} {h : IH} {a : Act} (_ : ∀ p ∈ parts, (ρ p.2).rel β h (a.eval p.2)),
    m.length = (parts.map fun p => (p.1, a.eval p.2)).length ∧ ∀ (j i : Nat) (l : List AV), m[j]? = some (i, l) → ∃ v vs, (parts.map fun p => (p.1, a.eval p.2))[j]? = some (i, v) ∧ v.cells = vs.toArray ∧ AV.rels β h l vs
  | [], m, h, _, _, _, _ => by simp only [partsOf, Option.some.injEq] at h; subst h; simp
  | (i, x) :: r, m, h, β, k, a, hr => by
    simp only [partsOf] at h
    cases hc : cellsOf (ρ x) with
    | none => simp [hc] at h
    | some l =>
      cases hp : partsOf ρ r with
      | none => simp [hc, hp] at h
      | some m' =>
        simp only [hc, hp, Option.some.injEq] at h; subst h
        obtain ⟨h1, h2⟩ := partsOf_spec hp fun p hp => hr p (List.mem_cons_of_mem _ hp)
        refine ⟨by simpa using h1, fun j i' l' hj => ?_⟩
        cases j with
        | zero =>
          simp at hj; obtain ⟨rfl, rfl⟩ := hj
          obtain ⟨vs, hv, hvr, _⟩ := cellsOf_rel hc (hr (i, x) (by simp))
          exact ⟨_, vs, rfl, hv, hvr⟩
        | succ j => simpa using h2 j i' l' (by simpa using hj)

theorem core_build {T : TypeId} {parts : Array (Nat × Operand)} (ho : o.op = .build T parts) {z : List Value} (hz : zeroOf P T = some z) {pl : Nat → Option (Nat × Nat)} (hpl : placeOf P T = some pl)
    {m : List (Nat × List AV)} (hm : partsOf ρ parts.toList = some m) {l : List AV} (hl : fillA pl (z.map fun v => .d (.con v)) m = some l) : Core P G o ρ st { dst := o.dst, val := mkAgg l } :=
  core_value fun β h a w _ _ hop => by
    obtain ⟨zv, hzv, hzc⟩ := run_zero hz w
    obtain ⟨h1, h2⟩ := partsOf_spec (a := a) (β := β) (h := h) hm fun p hp => hop p.2 (by simp only [ho, Op.operands]; simpa using ⟨p.1, by simpa using hp⟩)
    obtain ⟨os, hfill, hor⟩ := fill_rel m _ (z.map fun v => .d (.con v)) zv.cells l h1 h2 (by rw [hzc]; exact rels_con' β h z) hl
    refine ⟨.agg os, ?_, mkAgg_rel.2 ⟨os.toList, by simp, hor⟩⟩
    have hparts : (parts.map fun (i, x) => (i, a.eval x)).toList = parts.toList.map fun p => (p.1, a.eval p.2) := by simp
    simp only [execOp, ho, Instr.build, Sem.run_bind, hzv, Result.andThen_ok]
    unfold placeOf at hpl
    split at hpl
    · rename_i fs hu
      split at hpl
      · rename_i l' hs
        simp only [Option.some.injEq] at hpl; subst hpl
        have hrun := run_sizes hs w
        simp only [run_underlying hu, Result.andThen_ok, Sem.run_bind]
        rw [Array.mapM_eq_mapM_toList]
        simp only [Sem.run_map, hrun, Result.andThen_ok, List.getElem?_toArray, hparts, hfill, Sem.run_pure]
      · cases hpl
    · rename_i n e hu
      split at hpl
      · rename_i n' hs
        simp only [Option.some.injEq] at hpl; subst hpl
        simp only [run_underlying hu, Result.andThen_ok, Sem.run_bind, run_sizeT hs, hparts, hfill, Sem.run_pure]
      · cases hpl
    · cases hpl

/-! slices -/
def elemF (agg : Bool) (sz : Nat) (ds : List DV) (i : Nat) : DV := match agg with | true => .agg ((ds.drop (i * sz)).take sz) | false => ds.getD i (.con undef)
theorem slc_of_cells {h : IH} {b off n sz cap : Nat} {agg : Bool} {ds : List DV} {vs : List Value} (hr : DV.rels h ds vs) (hlen : ds.length = n * sz) (hc : ∀ j, j < n * sz → h.cell b (off + j) = vs[j]?) (hcap : n ≤ cap)
    (hag : agg = true ∨ (sz = 1 ∧ ds.all dvOne = true)) : (DV.slc sz n (elemF agg sz ds)).rel h (.slice (some ⟨b, off, none⟩) n cap) := by
  refine ⟨_, cap, rfl, hcap, .inr ⟨b, off, rfl, fun i hi => ?_⟩⟩
  have hmul : i * sz + sz ≤ n * sz := by
    have : (i + 1) * sz ≤ n * sz := Nat.mul_le_mul_right sz hi
    rwa [Nat.add_mul, Nat.one_mul] at this
  have hvl := hr.length
  cases agg with
  | true =>
    refine ⟨.agg ((vs.drop (i * sz)).take sz).toArray, ⟨_, rfl, (hr.drop _).take _⟩, ?_, fun j hj => ?_⟩
    · simp [Value.cells, hvl, hlen]; omega
    · rw [show off + i * sz + j = off + (i * sz + j) from by omega, hc _ (by omega)]
      simp [Value.cells, hj]
  | false =>
    rcases hag with hag | ⟨rfl, hall⟩
    · cases hag
    · have hi' : i < ds.length := by omega
      obtain ⟨v, hv, hvr⟩ := hr.get (i := i) (x := ds[i]) (by simp [hi'])
      have hone : v.oneCell' = true := by
        have := List.all_eq_true.1 hall ds[i] (by simp)
        exact avOne_rel (β := fun _ => 0) (x := .d ds[i]) this hvr
      refine ⟨v, ?_, by rw [oneCell_cells hone]; rfl, fun j hj => ?_⟩
      · simp only [elemF, List.getD_eq_getElem?_getD, List.getElem?_eq_getElem hi', Option.getD_some]; exact hvr
      · obtain rfl : j = 0 := by omega
        rw [show off + i * 1 + 0 = off + i from by omega, hc _ (by omega), hv, oneCell_cells hone]; rfl

def IH.add (h : IH) (b : Nat) (vs : List Value) : IH := ⟨fun c o => if c = b then vs[o]? else h.cell c o, h.obj⟩
section
variable {F : Nat → Prop} {w0 : World} {h0 : IH} {β : Nat → Nat} {h : IH} {tm : Array Value} {w : World}
theorem Gam.newRow (g : Gam G F w0 h0 st β h tm w) (vs : List Value) (T : TypeId) : Gam G F w0 h0 st β (h.add w.heap.size vs) tm (w.alloc (.cells vs.toArray T)) ∧ h.le (h.add w.heap.size vs) := by
  have hn := holds_none g.holds (Nat.le_refl w.heap.size)
  have hle : h.le (h.add w.heap.size vs) := by
    refine ⟨fun b o v e => ?_, fun b o e => e⟩
    simp only [IH.add]
    split
    · rename_i hb; subst hb; rw [hn.1] at e; cases e
    · exact e
  refine ⟨g.grow hle ?_ ⟨rfl, rfl, rfl, by simp, fun k hk _ => Below.heap_alloc _ _ _ hk⟩ fun b hb => ⟨fun o => ?_, rfl⟩, hle⟩
  · have ha := holds_alloc g.holds (.cells vs.toArray T)
    refine ⟨fun b o v e => ?_, ha.2⟩
    simp only [IH.add] at e
    split at e
    · rename_i hb; subst hb
      rw [World.cell?_alloc_new]; simpa using e
    · exact ha.1 b o v e
  · simp only [IH.add]; rw [if_neg (by omega)]
end

def zeroRow (n : Nat) (z : List Value) : List Value := (List.range n).map fun i => z.getD (i % z.length) default
theorem zeroRow_eq (n : Nat) (zv : Value) (z : List Value) (hz : zv.cells.toList = z) : ((Array.range n).map (zv.cells[· % zv.cells.size]!)).toList = zeroRow n z := by
  subst hz
  simp only [zeroRow, Array.toList_map, Array.toList_range]
  apply List.map_congr_left
  intro i _
  by_cases hz : zv.cells.size = 0
  · have : zv.cells = #[] := by simpa using hz
    simp [this]
  · have : i % zv.cells.size < zv.cells.size := Nat.mod_lt _ (by omega)
    simp [this, List.getD_eq_getElem?_getD]
def sliceElem (P : Program) (T : TypeId) : Option TypeId := match P.underlying T with | some (.slice e) => some e | _ => none
theorem sliceElem_spec {T E : TypeId} (h : sliceElem P T = some E) : P.underlying T = some (.slice E) := by
  unfold sliceElem at h
  split at h
  · rename_i hu; simp at h; subst h; exact hu
  · cases h
theorem core_buildSlice {T E : TypeId} {n : Nat} {parts : Array (Nat × Operand)} (ho : o.op = .buildSlice T n parts) (hT : sliceElem P T = some E) {sz : Nat} (hsz : sizeT P E = some sz) (hsmall : Nat.ble (n * sz) 16777216 = true) {z : List Value} (hz : zeroOf P E = some z)
    {m : List (Nat × List AV)} (hm : partsOf ρ parts.toList = some m) {l : List AV} (hl : fillA (fun i => some (i * sz, sz)) ((zeroRow (n * sz) z).map fun v => .d (.con v)) m = some l) {ds : List DV} (hd : allD l = some ds) (hlen : ds.length = n * sz)
    (hag : aggT P E = true ∨ (sz = 1 ∧ ds.all dvOne = true)) : Core P G o ρ st { dst := o.dst, val := .d (.slc sz n (elemF (aggT P E) sz ds)) } := by
  intro F w0 h0 st' β h a w K Q hlen' hag' hfr g hdf hop hK
  obtain ⟨zv, hzv, hzc⟩ := run_zero hz w
  obtain ⟨h1, h2⟩ := partsOf_spec (a := a) (β := β) (h := h) hm fun p hp => hop p.2 (by simp only [ho, Op.operands]; simpa using ⟨p.1, by simpa using hp⟩)
  have hparts : (parts.map fun (i, x) => (i, a.eval x)).toList = parts.toList.map fun p => (p.1, a.eval p.2) := by simp
  obtain ⟨os, hor, hrun⟩ : ∃ os : Array Value, AV.rels β h l os.toList ∧ (execOp a.eval o).run P w = .ok (.value (.slice (some ⟨w.heap.size, 0, none⟩) n n)) (w.alloc (.cells os E)) := by
    have hbig : ¬ n * sz > 2 ^ 24 := by rw [Nat.ble_eq] at hsmall; show ¬ n * sz > 16777216; omega
    by_cases h0 : n * sz = 0
    · obtain ⟨os, hfill, hor⟩ := fill_rel m _ ((zeroRow (n * sz) z).map fun v => .d (.con v)) ((Array.range (n * sz)).map ((#[] : Array Value)[· % (#[] : Array Value).size]!)) l h1 h2 (by simp [h0, zeroRow, AV.rels]) hl
      refine ⟨os, hor, ?_⟩
      simp only [execOp, ho, Instr.buildSlice, Sem.run_bind, run_underlying (sliceElem_spec hT), Result.andThen_ok, run_sizeT hsz, Sem.run_ite, if_neg hbig, if_pos h0, Sem.run_pure, hparts, hfill, Go.newRow, run_newObj]
      rfl
    · obtain ⟨os, hfill, hor⟩ := fill_rel m _ ((zeroRow (n * sz) z).map fun v => .d (.con v)) ((Array.range (n * sz)).map (zv.cells[· % zv.cells.size]!)) l h1 h2 (by rw [zeroRow_eq _ zv z hzc]; exact rels_con' β h _) hl
      refine ⟨os, hor, ?_⟩
      simp only [execOp, ho, Instr.buildSlice, Sem.run_bind, run_underlying (sliceElem_spec hT), Result.andThen_ok, run_sizeT hsz, Sem.run_ite, if_neg hbig, if_neg h0, Sem.run_pure, hzv, hparts, hfill, Go.newRow, run_newObj]
      rfl
  rw [allD_eq hd, AV.rels_d] at hor
  unfold Oper.wp
  rw [hrun, Oper.upon_value]
  obtain ⟨g', hle⟩ := g.newRow os.toList E
  simp only [Array.toArray_toList] at g'
  refine hK _ _ β (h.add w.heap.size os.toList) (by rw [put_defers]; exact hdf) ?_
  rw [put_tmps]
  refine g'.put (x := .d (.slc sz n (elemF (aggT P E) sz ds))) ?_
  refine slc_of_cells (vs := os.toList) (hor.mono hle) hlen (fun j hj => ?_) (Nat.le_refl _) hag
  simp [IH.add]
end ops
end Go.Ab
