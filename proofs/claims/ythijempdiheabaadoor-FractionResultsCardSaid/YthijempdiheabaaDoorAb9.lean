import Derived.Test.YthijempdiheabaaDoorAb8
import Derived.Laws.BytesString
set_option autoImplicit false
namespace Go.Ab
open Go Go.RowKit
section ops
variable {P : Program} {G : IH} {o : Oper} {ρ : Operand → AV} {st : AS}

/-- The cells of an element, as parts. -/
def flatD : DV → Option (List DV)
  | .agg l => match l.all dvOne with | true => some l | false => none
  | x => match dvOne x with | true => some [x] | false => none
theorem flatD_rel {x : DV} {l : List DV} (hf : flatD x = some l) {h : IH} {v : Value} (hr : x.rel h v) : ∃ vs : List Value, v.cells = vs.toArray ∧ DV.rels h l vs := by
  have single : ∀ (x : DV), (match dvOne x with | true => some [x] | false => none) = some l → x.rel h v → ∃ vs : List Value, v.cells = vs.toArray ∧ DV.rels h l vs := by
    intro x hc hr
    cases ho : dvOne x with
    | false => rw [ho] at hc; simp at hc
    | true =>
      rw [ho] at hc; simp at hc; subst hc
      exact ⟨[v], oneCell_cells (avOne_rel (β := fun _ => 0) (x := .d x) ho hr), ⟨v, [], rfl, hr, rfl⟩⟩
  cases x with
  | agg m =>
    simp only [flatD] at hf
    split at hf
    · simp at hf; subst hf
      obtain ⟨vs, rfl, hvs⟩ := hr
      exact ⟨vs, rfl, hvs⟩
    · cases hf
  | con v => exact single (.con v) hf hr
  | tup l => exact single (.tup l) hf hr
  | ptr l => exact single (.ptr l) hf hr
  | slc a b c => exact single (.slc a b c) hf hr
  | clo a b c => exact single (.clo a b c) hf hr
  | prd R => exact single (.prd R) hf hr

/-- The address of an element. -/
theorem core_indexAddr {T E : TypeId} {x i : Operand} (ho : o.op = .indexAddr T x i) (hT : sliceElem P T = some E) {sz n : Nat} {f : Nat → DV} (hx : ρ x = .d (.slc sz n f)) (hsz : sizeT P E = some sz) {k : IntKind} {m : Int} (hi : ρ i = .d (.con (.int k m)))
    (h0 : 0 ≤ m ∧ m < n) {l : List DV} (hl : flatD (f m.toNat) = some l) : Core P G o ρ st { dst := o.dst, val := .d (.ptr l) } :=
  core_value fun β h a w _ _ hop => by
    have hxv := hop x (by simp [ho, Op.operands])
    have hiv := hop i (by simp [ho, Op.operands])
    rw [hx] at hxv; rw [hi] at hiv
    simp only [AV.rel, DV.rel] at hiv
    obtain ⟨p, cap, hv, _, hrest⟩ := hxv
    rcases hrest with rfl | ⟨b, off, hp, hel⟩
    · exfalso; omega
    subst hp
    obtain ⟨v, hvr, hvs, hcell⟩ := hel m.toNat (by omega)
    obtain ⟨vs, hvc, hrs⟩ := flatD_rel hl hvr
    refine ⟨.pointer (some ⟨b, off + m.toNat * sz, none⟩), ?_, b, off + m.toNat * sz, rfl, vs, hrs, fun j hj => ?_⟩
    · simp only [execOp, ho, hv, hiv]
      have := run_indexAt_slice (P := P) w T ⟨b, off, none⟩ n cap k m (by simp [Program.elem, sliceElem_spec hT])
      simp only [Program.elem, sliceElem_spec hT, run_sizeT hsz, Result.andThen_ok, add_off] at this
      simp only [Sem.run_bind, this, if_pos h0, Result.andThen_ok, Sem.run_pure]
    · rw [hcell j (by rw [← hvs, hvc]; simpa using hj), hvc]; simp

def byteAt (s : ByteArray) (j : Nat) : Int := (((s.data[j]?).getD 0).toNat : Int)
def isStr (P : Program) (T : TypeId) : Bool := match P.underlying T with | some .string => true | _ => false
theorem isStr_spec {T : TypeId} (h : isStr P T = true) : P.underlying T = some .string := by
  unfold isStr at h; split at h
  · assumption
  · cases h
theorem core_index_str {T : TypeId} {x i : Operand} (ho : o.op = .index T x i) (hT : isStr P T = true) {s : ByteArray} (hx : ρ x = .d (.con (.string s))) {k : IntKind} {m : Int} (hi : ρ i = .d (.con (.int k m)))
    (h0 : 0 ≤ m ∧ m < s.size) : Core P G o ρ st { dst := o.dst, val := .d (.con (.int .u8 (byteAt s m.toNat))) } :=
  core_value fun β h a w _ _ hop => by
    have hxv := hop x (by simp [ho, Op.operands])
    have hiv := hop i (by simp [ho, Op.operands])
    rw [hx] at hxv; rw [hi] at hiv
    simp only [AV.rel, DV.rel] at hiv hxv
    refine ⟨_, ?_, rfl⟩
    have hlt : m.toNat < s.size := by omega
    have : s[m.toNat]? = some (s[m.toNat]) := by simp [hlt]
    simp only [execOp, ho, hxv, hiv, Instr.index, Sem.run_bind, asIntOf, Sem.run_pure, Result.andThen_ok, run_underlying (isStr_spec hT), if_pos h0.1, this]
    have hb : (((s[m.toNat]).toNat : Int)) = byteAt s m.toNat := by
      have hlt' : m.toNat < s.data.size := hlt
      simp only [byteAt, Array.getElem?_eq_getElem hlt', Option.getD_some]
      rfl
    rw [hb]

theorem core_quo {T U : TypeId} {x y : Operand} (ho : o.op = .binOp .quo T x y U) {k : IntKind} {p q : Int} (hx : ρ x = .d (.con (.int k p))) (hy : ρ y = .d (.con (.int k q))) (h0 : q ≠ 0) :
    Core P G o ρ st { dst := o.dst, val := .d (.con (.int k (k.wrap (p.tdiv q)))) } :=
  core_value fun β h a w _ _ hop => by
    have hxv := hop x (by simp [ho, Op.operands])
    have hyv := hop y (by simp [ho, Op.operands])
    rw [hx] at hxv; rw [hy] at hyv
    simp only [AV.rel, DV.rel] at hxv hyv
    exact ⟨_, by simp [execOp, ho, hxv, hyv, eqGuard, binOp, Op.intDiv, h0], rfl⟩
theorem core_rem {T U : TypeId} {x y : Operand} (ho : o.op = .binOp .rem T x y U) {k : IntKind} {p q : Int} (hx : ρ x = .d (.con (.int k p))) (hy : ρ y = .d (.con (.int k q))) (h0 : q ≠ 0) :
    Core P G o ρ st { dst := o.dst, val := .d (.con (.int k (p.tmod q))) } :=
  core_value fun β h a w _ _ hop => by
    have hxv := hop x (by simp [ho, Op.operands])
    have hyv := hop y (by simp [ho, Op.operands])
    rw [hx] at hxv; rw [hy] at hyv
    simp only [AV.rel, DV.rel] at hxv hyv
    exact ⟨_, by simp [execOp, ho, hxv, hyv, eqGuard, binOp, Op.intDiv, h0], rfl⟩
theorem core_concat {T U : TypeId} {x y : Operand} (ho : o.op = .binOp .add T x y U) {p q : ByteArray} (hx : ρ x = .d (.con (.string p))) (hy : ρ y = .d (.con (.string q))) (h0 : p.size + q.size ≤ 9223372036854775807) :
    Core P G o ρ st { dst := o.dst, val := .d (.con (.string (p ++ q))) } :=
  core_value fun β h a w _ _ hop => by
    have hxv := hop x (by simp [ho, Op.operands])
    have hyv := hop y (by simp [ho, Op.operands])
    rw [hx] at hxv; rw [hy] at hyv
    simp only [AV.rel, DV.rel] at hxv hyv
    refine ⟨_, ?_, rfl⟩
    have hn : ¬ ((p.size + q.size : Nat) : Int) > IntKind.i64.max := by
      have : IntKind.i64.max = 9223372036854775807 := rfl
      rw [this]; omega
    simp only [execOp, ho, hxv, hyv, eqGuard, binOp, Op.stringOp, Sem.run_bind, Bool.not_false, if_true, Sem.run_pure, Result.andThen_ok, if_neg hn]

/-- A bound of a slice expression. -/
def boundA (ρ : Operand → AV) (x : Option Operand) (dflt : Int) : Option Int :=
  match x with
  | none => some dflt
  | some x => match ρ x with | .d (.con (.int _ m)) => some m | _ => none
theorem run_bound {x : Option Operand} {dflt m : Int} (hm : boundA ρ x dflt = some m) {y : Nat} (h0 : 0 ≤ m ∧ m ≤ y) {β : Nat → Nat} {h : IH} {a : Act} (hop : ∀ z, x = some z → (ρ z).rel β h (a.eval z)) (c : BoundsCode) (w : World) :
    match x.map a.eval with | some v => (Instr.sliceBound v y c).run P w = .ok m.toNat w | none => m = dflt := by
  cases x with
  | none => simp only [boundA, Option.some.injEq] at hm; exact hm.symm
  | some x =>
    have hr := hop x rfl
    simp only [boundA] at hm
    split at hm
    · rename_i k m' hx
      simp only [Option.some.injEq] at hm; subst hm
      rw [hx] at hr
      simp only [AV.rel, DV.rel] at hr
      simp only [Option.map_some, hr, Instr.sliceBound, asIntOf, Sem.run_bind, Sem.run_pure, Result.andThen_ok, Sem.run_ite, if_pos h0]
    · cases hm
theorem run_sliceBounds {lo hi : Option Operand} {len cap : Nat} {l m : Int} (hl : boundA ρ lo 0 = some l) (hm : boundA ρ hi len = some m) (h0 : 0 ≤ l ∧ l ≤ m ∧ m ≤ len) (hcap : len ≤ cap) {β : Nat → Nat} {h : IH} {a : Act} (isS : Bool)
    (hop : ∀ z, lo = some z ∨ hi = some z → (ρ z).rel β h (a.eval z)) (w : World) : (Instr.sliceBounds isS len cap (lo.map a.eval) (hi.map a.eval) none).run P w = .ok (l.toNat, m.toNat, cap) w := by
  have hh := run_bound (P := P) (y := cap) hm (by omega) (fun z hz => hop z (.inr hz)) (if isS then .sliceAcap else .sliceAlen) w
  have hl' := run_bound (P := P) (y := m.toNat) hl (by omega) (fun z hz => hop z (.inl hz)) .sliceB w
  cases hi with
  | none =>
    obtain rfl : m = len := hh
    cases lo with
    | none => obtain rfl : l = 0 := hl'; simp [Instr.sliceBounds]
    | some z =>
      have hl'' : (Instr.sliceBound (a.eval z) len .sliceB).run P w = .ok l.toNat w := by simpa using hl'
      simp [Instr.sliceBounds, hl'']
  | some y =>
    have hh' : (Instr.sliceBound (a.eval y) cap (if isS then .sliceAcap else .sliceAlen)).run P w = .ok m.toNat w := hh
    cases lo with
    | none => obtain rfl : l = 0 := hl'; simp [Instr.sliceBounds, hh']
    | some z =>
      have hl'' : (Instr.sliceBound (a.eval z) m.toNat .sliceB).run P w = .ok l.toNat w := hl'
      simp [Instr.sliceBounds, hh', hl'']
theorem core_slice_str {T : TypeId} {x : Operand} {lo hi : Option Operand} (ho : o.op = .slice T x lo hi none) (hT : isStr P T = true) {s : ByteArray} (hx : ρ x = .d (.con (.string s))) {l m : Int} (hl : boundA ρ lo 0 = some l) (hm : boundA ρ hi s.size = some m)
    (h0 : 0 ≤ l ∧ l ≤ m ∧ m ≤ s.size) : Core P G o ρ st { dst := o.dst, val := .d (.con (.string (s.extract l.toNat m.toNat))) } :=
  core_value fun β h a w _ _ hop => by
    have hxv := hop x (by simp [ho, Op.operands])
    rw [hx] at hxv
    simp only [AV.rel, DV.rel] at hxv
    refine ⟨_, ?_, rfl⟩
    have hb := run_sliceBounds (P := P) (isS := false) hl hm h0 (Nat.le_refl _) (a := a) (β := β) (h := h) (fun z hz => hop z (by
      rcases hz with hz | hz <;> simp [ho, Op.operands, hz])) w
    simp only [execOp, ho, hxv, Instr.sliceAt, Instr.slice, Sem.run_bind, run_underlying (isStr_spec hT), Result.andThen_ok, Option.map_none, Option.isSome_none, Bool.false_eq_true, if_false, Sem.run_pure, hb]
theorem core_slice_slc {T E : TypeId} {x : Operand} {lo hi : Option Operand} (ho : o.op = .slice T x lo hi none) (hT : sliceElem P T = some E) {sz n : Nat} {f : Nat → DV} (hx : ρ x = .d (.slc sz n f)) (hsz : sizeT P E = some sz) {l m : Int} (hl : boundA ρ lo 0 = some l) (hm : boundA ρ hi n = some m)
    (h0 : 0 ≤ l ∧ l ≤ m ∧ m ≤ n) : Core P G o ρ st { dst := o.dst, val := .d (.slc sz (m - l).toNat (fun i => f (l.toNat + i))) } :=
  core_value fun β h a w _ _ hop => by
    have hxv := hop x (by simp [ho, Op.operands])
    rw [hx] at hxv
    obtain ⟨p, cap, hv, hcap, hrest⟩ := hxv
    have hb := run_sliceBounds (P := P) (isS := true) hl hm h0 hcap (a := a) (β := β) (h := h) (fun z hz => hop z (by
      rcases hz with hz | hz <;> simp [ho, Op.operands, hz])) w
    refine ⟨.slice (if cap = l.toNat then p else p.map (·.add (l.toNat * sz))) (m.toNat - l.toNat) (cap - l.toNat), ?_, ?_⟩
    · simp only [execOp, ho, hv, Instr.sliceAt, Instr.slice, Sem.run_bind, run_underlying (sliceElem_spec hT), Result.andThen_ok, Option.map_none, hb, run_sizeT hsz, Sem.run_pure]
    · refine ⟨_, cap - l.toNat, by rw [show (m - l).toNat = m.toNat - l.toNat from by omega], by omega, ?_⟩
      by_cases hz : (m - l).toNat = 0
      · exact .inl hz
      · rcases hrest with hn | ⟨b, off, hp, hel⟩
        · exfalso; omega
        · refine .inr ⟨b, off + l.toNat * sz, ?_, fun i hi => ?_⟩
          · rw [if_neg (by omega), hp]; simp [add_off]
          · obtain ⟨v, hvr, hvs, hcell⟩ := hel (l.toNat + i) (by omega)
            refine ⟨v, hvr, hvs, fun j hj => ?_⟩
            rw [← hcell j hj, Nat.add_mul]; congr 1; omega
theorem core_len {c : Call} (ho : o.op = .call c) {T E : TypeId} {x : Operand} (hc : c.callee = .builtin .len) (ha : c.args = #[x]) (ht : c.argTypes = #[T]) (hT : sliceElem P T = some E) {sz n : Nat} {f : Nat → DV} (hx : ρ x = .d (.slc sz n f)) :
    Core P G o ρ st { dst := o.dst, val := .d (.con (.int .i64 n)) } :=
  core_value fun β h a w _ _ hop => by
    have hxv := hop x (by simp [ho, Op.operands, Call.operands, ha])
    rw [hx] at hxv
    obtain ⟨p, cap, hv, _⟩ := hxv
    refine ⟨_, ?_, rfl⟩
    simp only [execOp, ho, resolve, hc, ha, ht, Sem.run_bind, Sem.run_pure, Result.andThen_ok, invoke, builtin, List.map_toArray, List.map_cons, List.map_nil, hv]
    rw [run_len_slice w T _ p n cap (by simp [Program.elem, sliceElem_spec hT])]
    simp [goInt]

/-! equality of flat structs -/
def basicT (P : Program) (T : TypeId) : Bool := match P.underlying T with | some (.int _) | some .bool | some .string => true | _ => false
def cellEq (P : Program) (T : TypeId) (u v : Value) : Option Bool :=
  match P.underlying T, u, v with
  | some (.int _), .int j a, .int k b => match decide (j = k) with | true => some (a == b) | false => none
  | some .bool, .bool a, .bool b => some (a == b)
  | some .string, .string a, .string b => some (a.toList == b.toList)
  | _, _, _ => none
/-- Whether two structs' fields are equal, one by one. -/
def fieldsEq (P : Program) (xs ys : List AV) : List Field → Option Bool
  | [] => some true
  | f :: fs => match basicT P f.type && f.name != "_" with
    | true => match xs[f.offset]?, ys[f.offset]? with
      | some (.d (.con u)), some (.d (.con v)) => match cellEq P f.type u v, fieldsEq P xs ys fs with
        | some c, some r => some (match fs with | [] => c | _ => c && r)
        | _, _ => none
      | _, _ => none
    | false => none
theorem basicT_agg {T : TypeId} (h : basicT P T = true) : hasU P T = true ∧ aggT P T = false := by
  unfold basicT at h; unfold hasU aggT
  cases hu : P.underlying T with
  | none => simp [hu] at h
  | some d => cases d <;> simp_all
theorem cellEq_run {T : TypeId} {u v : Value} {c : Bool} (h : cellEq P T u v = some c) (d : Nat) (w : World) : (Op.equalIn (d + 1) T u v).run P w = .ok c w := by
  unfold cellEq at h
  split at h
  · rename_i hu
    split at h
    · rename_i hk
      simp only [decide_eq_true_eq] at hk; subst hk
      simp only [Option.some.injEq] at h; subst h
      exact run_equalIn_int w d T _ _ _ _ hu
    · cases h
  · rename_i hu; simp only [Option.some.injEq] at h; subst h; exact run_equalIn_bool' w d T _ _ hu
  · rename_i hu; simp only [Option.some.injEq] at h; subst h; exact run_equalIn_string w d T _ _ hu
  · cases h
theorem fieldsEq_run {β : Nat → Nat} {h : IH} {xs ys : List AV} {vs us : List Value} (hx : AV.rels β h xs vs) (hy : AV.rels β h ys us) (d : Nat) : ∀ {fs : List Field} {c : Bool}, fieldsEq P xs ys fs = some c → ∀ w, (Op.eqFields (d + 1) vs.toArray us.toArray fs).run P w = .ok c w
  | [], c, h, w => by simp only [fieldsEq, Option.some.injEq] at h; subst h; rfl
  | f :: fs, c, hh, w => by
    simp only [fieldsEq] at hh
    split at hh
    · rename_i hcond
      simp only [Bool.and_eq_true, bne_iff_ne, ne_eq] at hcond
      split at hh
      · rename_i u v hxu hyv
        split at hh
        · rename_i c' r hc hr
          obtain ⟨u', hu', hur⟩ := hx.get hxu
          obtain ⟨v', hv', hvr⟩ := hy.get hyv
          simp only [AV.rel, DV.rel] at hur hvr
          subst hur hvr
          obtain ⟨hbu, hba⟩ := basicT_agg hcond.1
          have hp : ∀ (l : List Value) (z : Value), l[f.offset]? = some z → (part f.type l.toArray f.offset).run P w = .ok z w := by
            intro l z hz
            simp [part, run_isAgg hbu, hba, hz]
          have hrest := fieldsEq_run hx hy d hr w
          simp only [Op.eqFields, ne_eq, hcond.2, not_false_eq_true, if_true, Sem.run_bind, hp _ _ hu', hp _ _ hv', Result.andThen_ok, cellEq_run hc, Sem.run_ite, hrest]
          simp only [Option.some.injEq] at hh
          cases fs with
          | nil =>
            simp only [fieldsEq, Option.some.injEq] at hr; subst hr; subst hh
            cases c' <;> simp
          | cons z fs => subst hh; cases c' <;> simp
        · cases hh
      · cases hh
    · cases hh
def negIf : Bool → Bool → Bool
  | true, c => !c
  | false, c => c
def eqT (P : Program) (T : TypeId) : Option (List Field) :=
  match P.underlying T with
  | some (.struct fs) => match P.stoodInHeld T || P.eqGuardType P.depth T with | false => some fs.toList | true => none
  | _ => none
theorem core_eq {T U : TypeId} {x y : Operand} {neq : Bool} (ho : o.op = .binOp (if neq then .neq else .eql) T x y U) {fs : List Field} (hT : eqT P T = some fs) {xs ys : List AV} (hx : aggParts (ρ x) = some xs) (hy : aggParts (ρ y) = some ys) {c : Bool} (hc : fieldsEq P xs ys fs = some c) :
    Core P G o ρ st { dst := o.dst, val := .d (.con (.bool (negIf neq c))) } :=
  core_value fun β h a w _ _ hop => by
    obtain ⟨vs, hv, hvr⟩ := aggParts_rel hx (hop x (by simp [ho, Op.operands]))
    obtain ⟨us, hu, hur⟩ := aggParts_rel hy (hop y (by simp [ho, Op.operands]))
    refine ⟨_, ?_, rfl⟩
    unfold eqT at hT
    split at hT
    · rename_i fa hst
      split at hT
      · rename_i hcond
        simp only [Bool.or_eq_false_iff] at hcond
        simp only [Option.some.injEq] at hT; subst hT
        have heq : ∀ w, (Op.equal T (.agg vs.toArray) (.agg us.toArray)).run P w = .ok c w := fun w => by
          simp only [Op.equal, Op.maxDepth]
          rw [run_equalIn_struct (P := P) w 9999 T _ _ (by simp [Program.fieldsOf, hst]) hcond.1]
          simp only [Program.fieldsOf, hst]
          exact fieldsEq_run hvr hur 9998 hc w
        have hguard : ∀ op : BinOp, (op = .eql ∨ op = .neq) → (eqGuard op T x y (.agg vs.toArray) (.agg us.toArray)).run P w = .ok () w := by
          intro op hop
          rcases hop with rfl | rfl <;> simp [eqGuard, hcond.2]
        cases neq with
        | true =>
          simp only [if_true] at ho
          simp only [execOp, ho, hv, hu, Sem.run_bind, hguard .neq (.inr rfl), Result.andThen_ok, binOp, heq, Sem.run_pure, negIf]
        | false =>
          simp only [Bool.false_eq_true, if_false] at ho
          simp only [execOp, ho, hv, hu, Sem.run_bind, hguard .eql (.inl rfl), Result.andThen_ok, binOp, heq, Sem.run_pure, negIf]
      · cases hT
    · cases hT

/-- A function value, as a function's number and what it brings along. -/
def calleeOf : AV → Option (FuncId × List AV × List AV)
  | .d (.con (.func (.func g) a c)) => some (g, a.toList.map fun v => .d (.con v), c.toList.map fun v => .d (.con v))
  | .d (.clo (.func g) a c) => some (g, a.map .d, c.map .d)
  | .clo (.func g) a c => some (g, a, c)
  | _ => none
theorem calleeOf_rel {x : AV} {g : FuncId} {a c : List AV} (hc : calleeOf x = some (g, a, c)) {β : Nat → Nat} {h : IH} {v : Value} (hr : x.rel β h v) :
    ∃ va vc : List Value, v = .func (.func g) va.toArray vc.toArray ∧ AV.rels β h a va ∧ AV.rels β h c vc := by
  unfold calleeOf at hc
  split at hc
  · rename_i a' c'
    simp only [Option.some.injEq, Prod.mk.injEq] at hc
    obtain ⟨rfl, rfl, rfl⟩ := hc
    simp only [AV.rel, DV.rel] at hr
    exact ⟨a'.toList, c'.toList, by simp [hr], rels_con' β h _, rels_con' β h _⟩
  · simp only [Option.some.injEq, Prod.mk.injEq] at hc
    obtain ⟨rfl, rfl, rfl⟩ := hc
    obtain ⟨va, vc, e, ra, rc⟩ := hr
    exact ⟨va, vc, e, AV.rels_d.2 ra, AV.rels_d.2 rc⟩
  · simp only [Option.some.injEq, Prod.mk.injEq] at hc
    obtain ⟨rfl, rfl, rfl⟩ := hc
    exact hr
  · cases hc
theorem core_callFn {c : Call} (ho : o.op = .call c) {x : Operand} (hc : c.callee = .value x) {g : FuncId} {a1 a2 : List AV} (hx : calleeOf (ρ x) = some (g, a1, a2)) {ds : List DV} (hd : allD (a1 ++ (c.args.toList.map ρ ++ a2)) = some ds) {r : DV} (hf : FnOK P G g ds r) :
    Core P G o ρ st { dst := o.dst, val := .d r } :=
  core_call hf fun β h a w hop => by
    have hxv := hop x (by simp [ho, Op.operands, Call.operands, hc])
    obtain ⟨va, vc, hv, ha, hcv⟩ := calleeOf_rel hx hxv
    have hargs : AV.rels β h (c.args.toList.map ρ) (c.args.toList.map a.eval) := map_rels fun y hy => hop y (by simp [ho, Op.operands, Call.operands, Array.mem_toList_iff.1 hy])
    have hall := ha.append (hargs.append hcv)
    rw [allD_eq hd, AV.rels_d] at hall
    refine ⟨_, hall, ?_⟩
    have hm : c.args.map a.eval = (c.args.toList.map a.eval).toArray := by apply Array.ext'; simp
    simp only [execOp, ho, resolve, hc, hv, hm, Deferred.ofValue, Sem.run_bind, Sem.run_pure, Result.andThen_ok, invoke, List.append_toArray, List.append_assoc]

/-! bytes as a string -/
def byteOfD : DV → Int
  | .con (.int _ z) => z
  | _ => 0
/-- The elements are bytes. -/
def BytesAt (n : Nat) (f : Nat → DV) : Prop := ∀ i, i < n → f i = .con (.int .u8 (byteOfD (f i)))
def bytesOf (n : Nat) (f : Nat → DV) : List UInt8 := (List.range n).map fun i => UInt8.ofNat (byteOfD (f i)).toNat
def isBytes (P : Program) (T : TypeId) : Bool := match sliceElem P T with | some E => (match P.underlying E with | some (.int .u8) => true | _ => false) | none => false
theorem isBytes_spec {T : TypeId} (h : isBytes P T = true) : ∃ E, P.underlying T = some (.slice E) ∧ P.underlying E = some (.int .u8) := by
  unfold isBytes at h
  split at h
  · rename_i E hE
    split at h
    · rename_i hu; exact ⟨E, sliceElem_spec hE, hu⟩
    · cases h
  · cases h
theorem foldl_push (g : Nat → UInt8) : ∀ (l : List Nat) (s : ByteArray), (l.foldl (fun (r : ByteArray) n => r.push (g n)) s) = ⟨s.data ++ (l.map g).toArray⟩
  | [], s => by simp
  | n :: l, s => by
    rw [List.foldl_cons, foldl_push g l]
    simp [ByteArray.push]
theorem core_bytesStr {src dst : TypeId} {x : Operand} (ho : o.op = .convert src dst x) (hs : isBytes P src = true) (hd : isStr P dst = true) {n : Nat} {f : Nat → DV} (hx : ρ x = .d (.slc 1 n f))
    (hf : BytesAt n f) : Core P G o ρ st { dst := o.dst, val := .d (.con (.string ⟨(bytesOf n f).toArray⟩)) } :=
  core_value fun β h a w _ hw hop => by
    have hxv := hop x (by simp [ho, Op.operands])
    rw [hx] at hxv
    obtain ⟨p, cap, hv, _, hrest⟩ := hxv
    obtain ⟨E, h1, h2⟩ := isBytes_spec hs
    refine ⟨_, ?_, rfl⟩
    have hconv : (Conv.bytesToString (.slice p n cap)).run P w = .ok (.string ⟨(bytesOf n f).toArray⟩) w := by
      cases p with
      | none =>
        rcases hrest with rfl | ⟨_, _, hp, _⟩
        · rfl
        · cases hp
      | some ad =>
        have hload : (loadCells ad n).run P w = .ok (((List.range n).map fun i => byteOfD (f i)).map (Value.int .u8)).toArray w := by
          rw [run_loadCells w ad n (fun j => .int .u8 (byteOfD (f j))) (fun j hj => ?_)]
          · simp [List.map_map, Function.comp_def]
          · rcases hrest with rfl | ⟨b, off, hp, hel⟩
            · omega
            · injection hp with hp; subst hp
              obtain ⟨v, hvr, _, hc⟩ := hel j hj
              rw [hf j hj] at hvr
              simp only [DV.rel] at hvr
              subst hvr
              rw [add_off]
              exact hw.1 _ _ _ (by have := hc 0 (by omega); simpa [Value.cells] using this)
        rw [run_bytesToString w ad n cap _ hload]
        have := foldl_push (fun i => UInt8.ofNat (byteOfD (f i)).toNat) (List.range n) ByteArray.empty
        rw [List.foldl_map, this]
        simp [bytesOf]
    simp only [execOp, ho, hv, Sem.run_bind, run_convert_bytes_string w src dst E p n cap h1 h2 (isStr_spec hd), hconv, Result.andThen_ok, Sem.run_pure]
end ops
end Go.Ab
