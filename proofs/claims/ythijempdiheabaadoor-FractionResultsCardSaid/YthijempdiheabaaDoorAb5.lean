import Derived.Test.YthijempdiheabaaDoorAb4
set_option autoImplicit false
namespace Go.Ab
open Go Go.RowKit

/-- One operation, its operands read by 'ρ', does what 'e' says. -/
def Core (P : Program) (G : IH) (o : Oper) (ρ : Operand → AV) (st : AS) (e : Ev) : Prop :=
  ∀ (F : Nat → Prop) (w0 : World) (h0 : IH) (st' : AS) (β : Nat → Nat) (h : IH) (a : Act) (w : World) (K : Act → World → Prop) (Q : Exit → Act → World → Prop),
    st'.regs.length = st.regs.length → (∀ p, ((e.rdc.map (fun x => Loc.cell x.1 x.2) ++ e.writes).any (·.hits p)) = true → st'.at_ p = st.at_ p) → (∀ b ∈ e.nw, st'.free b.1 = true) →
    Gam G F w0 h0 st' β h a.tmps w → a.defers = [] → (∀ x ∈ o.op.operands, (ρ x).rel β h (a.eval x)) →
    (∀ (a' : Act) (w' : World) (β' : Nat → Nat) (h' : IH), a'.defers = [] → Gam G F w0 h0 (e.app st') β' h' a'.tmps w' → K a' w') → o.wp P a w K Q

theorem put_tmps (a : Act) (d : Option Nat) (v : Value) : (a.put d v).tmps = putT a.tmps d v := by cases d <;> rfl
theorem put_defers (a : Act) (d : Option Nat) (v : Value) : (a.put d v).defers = a.defers := by cases d <;> rfl

/-- An operation that only computes. -/
theorem core_value {P : Program} {G : IH} {o : Oper} {ρ : Operand → AV} {st : AS} {x : AV}
    (hrun : ∀ (β : Nat → Nat) (h : IH) (a : Act) (w : World), G.le h → h.holds w → (∀ x ∈ o.op.operands, (ρ x).rel β h (a.eval x)) → ∃ v, (execOp a.eval o).run P w = .ok (.value v) w ∧ x.rel β h v) :
    Core P G o ρ st { dst := o.dst, val := x } := by
  intro F w0 h0 st' β h a w K Q hlen hag hfr g hd hop hK
  obtain ⟨v, hr, hx⟩ := hrun β h a w g.glob g.holds hop
  unfold Oper.wp
  rw [hr, Oper.upon_value]
  refine hK _ _ β h (by rw [put_defers]; exact hd) ?_
  rw [put_tmps]
  exact g.put hx

/-- A call by contract. -/
theorem core_call {P : Program} {G : IH} {o : Oper} {ρ : Operand → AV} {st : AS} {f : FuncId} {args : List DV} {r : DV} (hf : FnOK P G f args r)
    (hrun : ∀ (β : Nat → Nat) (h : IH) (a : Act) (w : World), (∀ x ∈ o.op.operands, (ρ x).rel β h (a.eval x)) → ∃ vs : List Value, DV.rels h args vs ∧ (execOp a.eval o).run P w = (callFunc f vs.toArray).run P w) :
    Core P G o ρ st { dst := o.dst, val := .d r } := by
  intro F w0 h0 st' β h a w K Q hlen hag hfr g hd hop hK
  obtain ⟨vs, hvs, hr⟩ := hrun β h a w hop
  unfold Oper.wp
  rw [hr, hf.1, Oper.upon_enter]
  refine (hf.2 w h vs g.glob g.holds hvs).mono ?_
  rintro e w' ⟨v, h', rfl, hrel, hh, hw, hk, hold⟩
  refine hK _ _ β h' (by rw [put_defers]; exact hd) ?_
  rw [put_tmps]
  exact (g.grow hh hw hk hold).put (x := .d r) hrel

theorem AV.rels.append {β : Nat → Nat} {h : IH} : ∀ {l m : List AV} {vs us : List Value}, AV.rels β h l vs → AV.rels β h m us → AV.rels β h (l ++ m) (vs ++ us)
  | [], _, _, _, e, k => by simp only [AV.rels] at e; subst e; exact k
  | _ :: _, _, _, _, ⟨v, vs', e, r, rs⟩, k => by subst e; exact ⟨v, vs' ++ _, rfl, r, AV.rels.append rs k⟩
theorem AV.rels.drop {β : Nat → Nat} {h : IH} : ∀ {l : List AV} {vs : List Value} (n : Nat), AV.rels β h l vs → AV.rels β h (l.drop n) (vs.drop n)
  | _, _, 0, r => r
  | [], _, n + 1, e => by simp only [AV.rels] at e; subst e; simp [AV.rels]
  | _ :: _, _, n + 1, ⟨v, vs', e, _, rs⟩ => by subst e; exact AV.rels.drop n rs
theorem AV.rels.take {β : Nat → Nat} {h : IH} : ∀ {l : List AV} {vs : List Value} (n : Nat), AV.rels β h l vs → AV.rels β h (l.take n) (vs.take n)
  | _, _, 0, _ => by simp [AV.rels]
  | [], _, n + 1, e => by simp only [AV.rels] at e; subst e; simp [AV.rels]
  | _ :: _, _, n + 1, ⟨v, vs', e, r, rs⟩ => by subst e; exact ⟨v, _, rfl, r, AV.rels.take n rs⟩
theorem DV.rels.drop {h : IH} {l : List DV} {vs : List Value} (n : Nat) (r : DV.rels h l vs) : DV.rels h (l.drop n) (vs.drop n) := by
  have := AV.rels.drop n ((AV.rels_d (β := fun _ => 0)).2 r)
  rwa [← List.map_drop, AV.rels_d] at this
theorem DV.rels.take {h : IH} {l : List DV} {vs : List Value} (n : Nat) (r : DV.rels h l vs) : DV.rels h (l.take n) (vs.take n) := by
  have := AV.rels.take n ((AV.rels_d (β := fun _ => 0)).2 r)
  rwa [← List.map_take, AV.rels_d] at this
theorem DV.rels.get {h : IH} {l : List DV} {vs : List Value} (r : DV.rels h l vs) {i : Nat} {x : DV} (hx : l[i]? = some x) : ∃ v, vs[i]? = some v ∧ x.rel h v := by
  have := AV.rels.get ((AV.rels_d (β := fun _ => 0)).2 r) (i := i) (x := .d x) (by simp [hx])
  exact this

/-- A list of parts, as data where all are. -/
def allD : List AV → Option (List DV)
  | [] => some []
  | .d x :: l => match allD l with | some m => some (x :: m) | none => none
  | _ :: _ => none
def mkAgg (l : List AV) : AV := match allD l with | some m => .d (.agg m) | none => .agg l
def mkTup (l : List AV) : AV := match allD l with | some m => .d (.tup m) | none => .tup l
theorem allD_eq : ∀ {l : List AV} {m : List DV}, allD l = some m → l = m.map .d
  | [], m, h => by simp only [allD, Option.some.injEq] at h; subst h; rfl
  | x :: l, m, h => by
    cases x with
    | d x =>
      simp only [allD] at h
      cases hl : allD l with
      | none => simp [hl] at h
      | some m' => simp only [hl, Option.some.injEq] at h; subst h; rw [allD_eq hl]; rfl
    | _ => simp [allD] at h
theorem mkAgg_rel {β : Nat → Nat} {h : IH} {l : List AV} {v : Value} : (mkAgg l).rel β h v ↔ ∃ vs : List Value, v = .agg vs.toArray ∧ AV.rels β h l vs := by
  unfold mkAgg
  split
  · rename_i m hm
    rw [allD_eq hm]
    simp only [AV.rel, DV.rel, AV.rels_d]
  · rfl
theorem mkTup_rel {β : Nat → Nat} {h : IH} {l : List AV} {v : Value} : (mkTup l).rel β h v ↔ ∃ vs : List Value, v = .tuple vs.toArray ∧ AV.rels β h l vs := by
  unfold mkTup
  split
  · rename_i m hm
    rw [allD_eq hm]
    simp only [AV.rel, DV.rel, AV.rels_d]
  · rfl

/-- A part of one cell. -/
def dvOne : DV → Bool
  | .con v => v.oneCell'
  | .agg _ | .tup _ => false
  | _ => true
def avOne : AV → Bool
  | .d x => dvOne x
  | .box _ _ | .clo .. => true
  | _ => false
theorem avOne_rel {β : Nat → Nat} {h : IH} {x : AV} {v : Value} (ho : avOne x = true) (hr : x.rel β h v) : v.oneCell' = true := by
  cases x with
  | d x =>
    cases x with
    | con u => simp only [AV.rel, DV.rel] at hr; subst hr; exact ho
    | agg _ => simp [avOne, dvOne] at ho
    | tup _ => simp [avOne, dvOne] at ho
    | ptr _ => obtain ⟨_, _, e, _⟩ := hr; subst e; rfl
    | slc _ _ _ => obtain ⟨_, _, e, _⟩ := hr; subst e; rfl
    | clo _ _ _ => obtain ⟨_, _, e, _⟩ := hr; subst e; rfl
    | prd _ => exact hr.1
  | box _ _ => simp only [AV.rel] at hr; subst hr; rfl
  | clo _ _ _ => obtain ⟨_, _, e, _⟩ := hr; subst e; rfl
  | _ => simp [avOne] at ho
/-- The cells that a value takes. -/
def cellsOf : AV → Option (List AV)
  | .d (.agg l) => match (l.map AV.d).all avOne with | true => some (l.map .d) | false => none
  | .agg l => match l.all avOne with | true => some l | false => none
  | x => match avOne x with | true => some [x] | false => none
theorem oneCell_cells {v : Value} (h : v.oneCell' = true) : v.cells = #[v] := by cases v <;> first | rfl | (simp [Value.oneCell'] at h)
theorem cellsOf_rel {β : Nat → Nat} {h : IH} {x : AV} {l : List AV} {v : Value} (hc : cellsOf x = some l) (hr : x.rel β h v) :
    ∃ vs : List Value, v.cells = vs.toArray ∧ AV.rels β h l vs ∧ l.all avOne = true := by
  have single : ∀ (x : AV) (v : Value), (match avOne x with | true => some [x] | false => none) = some l → x.rel β h v → ∃ vs : List Value, v.cells = vs.toArray ∧ AV.rels β h l vs ∧ l.all avOne = true := by
    intro x v hc hr
    cases ho : avOne x with
    | false => rw [ho] at hc; simp at hc
    | true =>
      rw [ho] at hc; simp at hc; subst hc
      exact ⟨[v], oneCell_cells (avOne_rel ho hr), ⟨v, [], rfl, hr, rfl⟩, by simp [ho]⟩
  cases x with
  | d x =>
    cases x with
    | agg m =>
      obtain ⟨vs, rfl, hvs⟩ := hr
      simp only [cellsOf] at hc
      split at hc
      · rename_i hall
        simp at hc; subst hc
        exact ⟨vs, rfl, AV.rels_d.2 hvs, hall⟩
      · cases hc
    | _ => refine single (.d _) v ?_ hr; exact hc
  | agg m =>
    obtain ⟨vs, rfl, hvs⟩ := hr
    simp only [cellsOf] at hc
    split at hc
    · rename_i hall
      simp at hc; subst hc
      exact ⟨vs, rfl, hvs, hall⟩
    · cases hc
  | any => exact single .any v hc hr
  | box s off => exact single (.box s off) v hc hr
  | tup m => exact single (.tup m) v hc hr
  | clo f a c => exact single (.clo f a c) v hc hr
  | gate a c b x => exact single (.gate a c b x) v hc hr
/-- A value that is known whole, as such a part. -/
def ofVal : Value → AV
  | .agg cs => .d (.agg (cs.toList.map .con))
  | .tuple vs => .d (.tup (vs.toList.map .con))
  | v => .d (.con v)
theorem rels_con {h : IH} : ∀ (l : List Value), DV.rels h (l.map .con) l
  | [] => rfl
  | v :: l => ⟨v, l, rfl, rfl, rels_con l⟩
theorem ofVal_rel (β : Nat → Nat) (h : IH) (v : Value) : (ofVal v).rel β h v := by
  cases v <;> first
    | rfl
    | exact ⟨_, rfl, rels_con _⟩

/-- What a computation that looks at no memory comes to. -/
def pureRun {α : Type} (P : Program) : Sem α → Option α
  | .pure a => some a
  | .program k => pureRun P (k P)
  | _ => none
theorem pureRun_run {α : Type} {P : Program} : ∀ {x : Sem α} {a : α} (w : World), pureRun P x = some a → x.run P w = .ok a w
  | .pure _, _, _, h => by simp only [pureRun, Option.some.injEq] at h; subst h; rfl
  | .program k, _, w, h => by simp only [pureRun] at h; simp only [Sem.run]; exact pureRun_run w h
  | .load .., _, _, h => by simp [pureRun] at h
  | .store .., _, _, h => by simp [pureRun] at h
  | .new .., _, _, h => by simp [pureRun] at h
  | .shape .., _, _, h => by simp [pureRun] at h
  | .freeze .., _, _, h => by simp [pureRun] at h
  | .frozen .., _, _, h => by simp [pureRun] at h
  | .getObj .., _, _, h => by simp [pureRun] at h
  | .setObj .., _, _, h => by simp [pureRun] at h
  | .choose .., _, _, h => by simp [pureRun] at h
  | .sys .., _, _, h => by simp [pureRun] at h
  | .mark .., _, _, h => by simp [pureRun] at h
  | .halt .., _, _, h => by simp [pureRun] at h

/-! ## The operations, one by one -/
section ops
variable {P : Program} {G : IH} {o : Oper} {ρ : Operand → AV} {st : AS}

theorem core_move {x : Operand} (ho : o.op = .move x ∨ o.op = .assign x) : Core P G o ρ st { dst := o.dst, val := ρ x } :=
  core_value fun β h a w _ _ hop => by
    refine ⟨a.eval x, ?_, hop x ?_⟩
    · rcases ho with ho | ho <;> simp [execOp, ho]
    · rcases ho with ho | ho <;> simp [Op.operands, ho]

def conOf : AV → Value
  | .d (.con v) => v
  | _ => undef
def isCon : AV → Bool
  | .d (.con _) => true
  | _ => false
def isSelect : Op → Bool
  | .select .. => true
  | _ => false
/-- Whatever only computes, on operands that are known whole. -/
theorem core_pure {v : Value} (hs : isSelect o.op = false) (hc : o.op.operands.all (fun x => isCon (ρ x)) = true)
    (hp : pureRun P (execOp (fun x => conOf (ρ x)) o) = some (.value v)) : Core P G o ρ st { dst := o.dst, val := ofVal v } :=
  core_value fun β h a w _ _ hop => by
    refine ⟨v, ?_, ofVal_rel β h v⟩
    rw [execOp_congr (ρ' := fun x => conOf (ρ x)) o (by intro cs b he; simp [isSelect, he] at hs) fun x hx => ?_]
    · exact pureRun_run w hp
    · have h1 := (Array.all_eq_true_iff_forall_mem.1 hc) x hx
      have h2 := hop x hx
      cases hρ : ρ x with
      | d y =>
        cases y with
        | con u => rw [hρ] at h2; exact h2
        | _ => simp [hρ, isCon] at h1
      | _ => simp [hρ, isCon] at h1

def aggT (P : Program) (T : TypeId) : Bool := match P.underlying T with | some (.struct _) | some (.array _ _) => true | _ => false
def sizeT (P : Program) (T : TypeId) : Option Nat := match P.info? T with | some i => some i.size | none => none
theorem underlying_some_of_info {T : TypeId} {i : TypeInfo} {w : World} (hu : ∃ d, P.underlying T = some d) (_h : P.info? T = some i) : (isAgg T).run P w = .ok (aggT P T) w := by
  obtain ⟨d, hu⟩ := hu
  cases d <;> simp [isAgg, run_underlying hu, aggT, hu]
def hasU (P : Program) (T : TypeId) : Bool := match P.underlying T with | some _ => true | none => false
theorem run_isAgg {T : TypeId} (hu : hasU P T = true) (w : World) : (isAgg T).run P w = .ok (aggT P T) w := by
  unfold hasU at hu
  cases hd : P.underlying T with
  | none => simp [hd] at hu
  | some d => cases d <;> simp [isAgg, run_underlying hd, aggT, hd]
theorem run_sizeT {T : TypeId} {n : Nat} (h : sizeT P T = some n) (w : World) : (sizeOf T).run P w = .ok n w := by
  unfold sizeT at h
  cases hi : P.info? T with
  | none => simp [hi] at h
  | some i => simp [hi] at h; simp [sizeOf, typeInfo, hi, h]
end ops
end Go.Ab
