import Derived.Test.YthijempdiheabaaDoorAb6
import Derived.Laws.Strings
set_option autoImplicit false
namespace Go.Ab
open Go Go.RowKit
section ops
variable {P : Program} {G : IH} {o : Oper} {ρ : Operand → AV} {st : AS}

def fieldOf (P : Program) (T : TypeId) (i : Nat) : Option Field := match P.underlying T with | some (.struct fs) => fs[i]? | _ => none
theorem fieldOf_spec {T : TypeId} {i : Nat} {f : Field} (h : fieldOf P T i = some f) : ∃ fs, P.underlying T = some (.struct fs) ∧ fs[i]? = some f := by
  unfold fieldOf at h
  split at h
  · rename_i fs hu; exact ⟨fs, hu, h⟩
  · cases h

def moveAddr (x : AV) (n : Nat) : Option AV :=
  match x with
  | .box s off => some (.box s (off + n))
  | .d (.ptr l) => some (.d (.ptr (l.drop n)))
  | _ => none
theorem moveAddr_rel {x y : AV} {n : Nat} (h : moveAddr x n = some y) {β : Nat → Nat} {k : IH} {v : Value} (hr : x.rel β k v) :
    ∃ b off, v = .pointer (some ⟨b, off, none⟩) ∧ y.rel β k (.pointer (some ⟨b, off + n, none⟩)) := by
  cases x with
  | box s off => simp only [moveAddr, Option.some.injEq] at h; subst h; exact ⟨_, _, hr, rfl⟩
  | d z =>
    cases z with
    | ptr l =>
      simp only [moveAddr, Option.some.injEq] at h; subst h
      obtain ⟨b, off, e, vs, hvs, hc⟩ := hr
      refine ⟨b, off, e, b, off + n, rfl, vs.drop n, hvs.drop n, fun i hi => ?_⟩
      have := hc (n + i) (by simp at hi; omega)
      rw [Nat.add_assoc, this]; simp
    | _ => simp [moveAddr] at h
  | _ => simp [moveAddr] at h

theorem core_fieldAddr {T : TypeId} {x : Operand} {i : Nat} (ho : o.op = .fieldAddr T x i) {f : Field} (hf : fieldOf P T i = some f) {n : Nat} (hz : sizeT P f.type = some n) (hn : n ≠ 0) {y : AV} (hy : moveAddr (ρ x) f.offset = some y) :
    Core P G o ρ st { dst := o.dst, val := y } :=
  core_value fun β h a w _ _ hop => by
    obtain ⟨b, off, hv, hr⟩ := moveAddr_rel hy (hop x (by simp [ho, Op.operands]))
    obtain ⟨fs, hu, hfs⟩ := fieldOf_spec hf
    refine ⟨_, ?_, hr⟩
    simp only [execOp, ho, Instr.fieldAt, Sem.run_bind, run_underlying hu, Result.andThen_ok, hfs, hv, Instr.sureAddr, Sem.run_pure, fieldPlace, run_sizeT hz, Sem.run_ite, if_neg hn, add_off]

/-- A part of a value that is made of cells. -/
def partVal (agg : Bool) (l : List AV) (off n : Nat) : Option AV := match agg with | true => some (mkAgg ((l.drop off).take n)) | false => l[off]?
theorem run_part {T : TypeId} {n : Nat} (hu : hasU P T = true) (hz : sizeT P T = some n) {l : List AV} {vs : List Value} {β : Nat → Nat} {h : IH} (hr : AV.rels β h l vs) {off : Nat} {x : AV} (hx : partVal (aggT P T) l off n = some x) (w : World) :
    ∃ v, (part T vs.toArray off).run P w = .ok v w ∧ x.rel β h v := by
  simp only [part, Sem.run_bind, run_isAgg hu, Result.andThen_ok, Sem.run_ite]
  cases ha : aggT P T with
  | true =>
    rw [ha] at hx
    simp only [partVal, Option.some.injEq] at hx; subst hx
    refine ⟨.agg ((vs.drop off).take n).toArray, ?_, mkAgg_rel.2 ⟨_, rfl, (hr.drop off).take n⟩⟩
    simp [run_sizeT hz]
  | false =>
    rw [ha] at hx
    simp only [partVal] at hx
    obtain ⟨v, hv, hxr⟩ := hr.get hx
    refine ⟨v, ?_, hxr⟩
    simp [hv]
def aggParts : AV → Option (List AV)
  | .d (.agg l) => some (l.map .d)
  | .agg l => some l
  | _ => none
theorem aggParts_rel {x : AV} {l : List AV} (h : aggParts x = some l) {β : Nat → Nat} {k : IH} {v : Value} (hr : x.rel β k v) : ∃ vs : List Value, v = .agg vs.toArray ∧ AV.rels β k l vs := by
  cases x with
  | d y =>
    cases y with
    | agg m => simp only [aggParts, Option.some.injEq] at h; subst h; obtain ⟨vs, e, r⟩ := hr; exact ⟨vs, e, AV.rels_d.2 r⟩
    | _ => simp [aggParts] at h
  | agg m => simp only [aggParts, Option.some.injEq] at h; subst h; exact hr
  | _ => simp [aggParts] at h
theorem core_field {T : TypeId} {x : Operand} {i : Nat} (ho : o.op = .field T x i) {f : Field} (hf : fieldOf P T i = some f) (hu : hasU P f.type = true) {n : Nat} (hz : sizeT P f.type = some n) {l : List AV} (hl : aggParts (ρ x) = some l)
    {y : AV} (hy : partVal (aggT P f.type) l f.offset n = some y) : Core P G o ρ st { dst := o.dst, val := y } :=
  core_value fun β h a w _ _ hop => by
    obtain ⟨vs, hv, hr⟩ := aggParts_rel hl (hop x (by simp [ho, Op.operands]))
    obtain ⟨fs, hfu, hfs⟩ := fieldOf_spec hf
    obtain ⟨v, hrun, hxr⟩ := run_part hu hz hr hy w
    refine ⟨v, ?_, hxr⟩
    simp only [execOp, ho, Instr.field, Sem.run_bind, run_underlying hfu, Result.andThen_ok, hfs, hv, asAgg, Sem.run_pure, hrun]

def tupParts : AV → Option (List AV)
  | .d (.tup l) => some (l.map .d)
  | .tup l => some l
  | _ => none
theorem tupParts_rel {x : AV} {l : List AV} (h : tupParts x = some l) {β : Nat → Nat} {k : IH} {v : Value} (hr : x.rel β k v) : ∃ vs : List Value, v = .tuple vs.toArray ∧ AV.rels β k l vs := by
  cases x with
  | d y =>
    cases y with
    | tup m => simp only [tupParts, Option.some.injEq] at h; subst h; obtain ⟨vs, e, r⟩ := hr; exact ⟨vs, e, AV.rels_d.2 r⟩
    | _ => simp [tupParts] at h
  | tup m => simp only [tupParts, Option.some.injEq] at h; subst h; exact hr
  | _ => simp [tupParts] at h
theorem core_extract {t : Operand} {i : Nat} (ho : o.op = .extract t i) {l : List AV} (hl : tupParts (ρ t) = some l) {y : AV} (hy : l[i]? = some y) : Core P G o ρ st { dst := o.dst, val := y } :=
  core_value fun β h a w _ _ hop => by
    obtain ⟨vs, hv, hr⟩ := tupParts_rel hl (hop t (by simp [ho, Op.operands]))
    obtain ⟨v, hv', hxr⟩ := hr.get hy
    refine ⟨v, ?_, hxr⟩
    simp [execOp, ho, Instr.extract, hv, hv']

def notNil : AV → Bool
  | .box _ _ | .clo .. | .d (.ptr _) | .d (.clo (.func _) _ _) => true
  | .d (.con v) => match v with | .func (.func _) _ _ | .iface _ _ | .map (some _) => true | _ => false
  | _ => false
theorem core_nilCheck {x : Operand} (ho : o.op = .nilCheck x) (hx : (match ρ x with | .clo (.func _) _ _ => true | .clo _ _ _ => false | y => notNil y) = true) : Core P G o ρ st { dst := o.dst, val := ρ x } :=
  core_value fun β h a w _ _ hop => by
    have hr := hop x (by simp [ho, Op.operands])
    refine ⟨a.eval x, ?_, hr⟩
    have : (∃ b, a.eval x = .pointer (some b)) ∨ (∃ f va vc, a.eval x = .func (.func f) va vc) ∨ (∃ t v, a.eval x = .iface t v) ∨ ∃ r, a.eval x = .map (some r) := by
      cases hρ : ρ x with
      | box s off => rw [hρ] at hr; exact .inl ⟨_, hr⟩
      | clo f va vc =>
        cases f with
        | func f => rw [hρ] at hr; obtain ⟨_, _, e, _⟩ := hr; exact .inr (.inl ⟨_, _, _, e⟩)
        | _ => simp [hρ] at hx
      | d y =>
        cases y with
        | ptr l => rw [hρ] at hr; obtain ⟨_, _, e, _⟩ := hr; exact .inl ⟨_, e⟩
        | clo f va vc =>
          cases f with
          | func f => rw [hρ] at hr; obtain ⟨_, _, e, _⟩ := hr; exact .inr (.inl ⟨_, _, _, e⟩)
          | _ => simp [hρ, notNil] at hx
        | con v =>
          rw [hρ] at hr
          simp only [AV.rel, DV.rel] at hr
          rw [hρ] at hx
          simp only [notNil] at hx
          split at hx
          · exact .inr (.inl ⟨_, _, _, hr⟩)
          · exact .inr (.inr (.inl ⟨_, _, hr⟩))
          · exact .inr (.inr (.inr ⟨_, hr⟩))
          · cases hx
        | _ => simp [hρ, notNil] at hx
      | _ => simp [hρ, notNil] at hx
    rcases this with ⟨b, e⟩ | ⟨f, va, vc, e⟩ | ⟨t, v, e⟩ | ⟨r, e⟩ <;> simp [execOp, ho, e]

theorem map_rels {β : Nat → Nat} {h : IH} {a : Act} : ∀ {l : List Operand}, (∀ x ∈ l, (ρ x).rel β h (a.eval x)) → AV.rels β h (l.map ρ) (l.map a.eval)
  | [], _ => rfl
  | x :: l, hx => ⟨_, _, rfl, hx x (by simp), map_rels fun y hy => hx y (by simp [hy])⟩
def mkClo (f : Go.Fn) (a c : List AV) : AV := match allD a, allD c with | some x, some y => .d (.clo f x y) | _, _ => .clo f a c
theorem mkClo_rel {f : Go.Fn} {l m : List AV} {β : Nat → Nat} {h : IH} {va vc : List Value} (ha : AV.rels β h l va) (hc : AV.rels β h m vc) : (mkClo f l m).rel β h (.func f va.toArray vc.toArray) := by
  unfold mkClo
  split
  · rename_i x y hx hy
    rw [allD_eq hx, AV.rels_d] at ha
    rw [allD_eq hy, AV.rels_d] at hc
    exact ⟨va, vc, rfl, ha, hc⟩
  · exact ⟨va, vc, rfl, ha, hc⟩
theorem core_makeFunc {f : Go.Fn} {x c : Array Operand} (ho : o.op = .makeFunc f x c) : Core P G o ρ st { dst := o.dst, val := mkClo f (x.toList.map ρ) (c.toList.map ρ) } :=
  core_value fun β h a w _ _ hop => by
    refine ⟨.func f (x.toList.map a.eval).toArray (c.toList.map a.eval).toArray, ?_, ?_⟩
    · simp only [execOp, ho, Instr.makeFunc, Sem.run_bind, Sem.run_pure, Result.andThen_ok]
      congr 4 <;> apply Array.ext' <;> simp
    · exact mkClo_rel (map_rels fun y hy => hop y (by simp [ho, Op.operands, Array.mem_toList_iff.1 hy])) (map_rels fun y hy => hop y (by simp [ho, Op.operands, Array.mem_toList_iff.1 hy]))

/-! build -/
def fillA (place : Nat → Option (Nat × Nat)) (cells : List AV) : List (Nat × List AV) → Option (List AV)
  | [] => some cells
  | (i, l) :: r => match place i with
    | none => none
    | some (off, size) => match Nat.beq l.length size && Nat.ble (off + l.length) cells.length with
      | true => fillA place (cells.take off ++ l ++ cells.drop (off + l.length)) r
      | false => none
theorem foldl_set (v : List Value) : ∀ (off k : Nat) (cs : Array Value), off + k + v.length ≤ cs.size →
    ((v.zipIdx k).foldl (fun cs (c : Value × Nat) => cs.setIfInBounds (off + c.2) c.1) cs).toList = cs.toList.take (off + k) ++ v ++ cs.toList.drop (off + k + v.length) := by
  induction v with
  | nil => intro off k cs _; simp
  | cons x v ih =>
    intro off k cs h
    simp only [List.zipIdx_cons, List.foldl_cons]
    rw [show off + k = off + k from rfl, ih off (k + 1) _ (by simp at h ⊢; omega)]
    simp only [Array.toList_setIfInBounds]
    have hlt : off + k < cs.toList.length := by simp only [Array.length_toList]; simp only [List.length_cons] at h; omega
    have e1 : (cs.toList.set (off + k) x).take (off + (k + 1)) = cs.toList.take (off + k) ++ [x] := by
      rw [show off + (k + 1) = off + k + 1 from rfl, List.take_succ_eq_append_getElem (by simpa using hlt), List.take_set_of_le (Nat.le_refl _), List.getElem_set_self]
    have e2 : (cs.toList.set (off + k) x).drop (off + (k + 1) + v.length) = cs.toList.drop (off + k + (x :: v).length) := by
      rw [List.drop_set_of_lt (by omega)]
      simp only [List.length_cons]
      congr 1; omega
    rw [e1, e2]; simp
theorem fill_rel {β : Nat → Nat} {h : IH} {place : Nat → Option (Nat × Nat)} : ∀ (parts : List (Nat × List AV)) (vals : List (Nat × Value)) (cells : List AV) (cs : Array Value) (out : List AV),
    parts.length = vals.length → (∀ (j : Nat) (i : Nat) (l : List AV), parts[j]? = some (i, l) → ∃ v vs, vals[j]? = some (i, v) ∧ v.cells = vs.toArray ∧ AV.rels β h l vs) →
    AV.rels β h cells cs.toList → fillA place cells parts = some out → ∃ os, Instr.fill place cs vals = some os ∧ AV.rels β h out os.toList
  | [], vals, cells, cs, out, hl, _, hr, ho => by
    have : vals = [] := List.eq_nil_of_length_eq_zero hl.symm
    subst this
    simp only [fillA, Option.some.injEq] at ho; subst ho
    exact ⟨cs, rfl, hr⟩
  | (i, l) :: parts, vals, cells, cs, out, hl, hp, hr, ho => by
    match vals, hl with
    | (i', v) :: vals, hl =>
      obtain ⟨v', vs, he, hvc, hvr⟩ := hp 0 i l rfl
      simp at he; obtain ⟨rfl, rfl⟩ := he
      simp only [fillA] at ho
      cases hpl : place i' with
      | none => simp [hpl] at ho
      | some pq =>
        obtain ⟨off, size⟩ := pq
        simp only [hpl] at ho
        split at ho
        · rename_i hcond
          simp only [Bool.and_eq_true, Nat.beq_eq, Nat.ble_eq] at hcond
          obtain ⟨hsz, hle⟩ := hcond
          have hlv : vs.length = l.length := hvr.length
          have hlc : cs.size = cells.length := by simpa using hr.length
          simp only [Instr.fill, hpl]
          rw [if_neg (by simp [hvc, hlv]; omega)]
          refine fill_rel parts vals _ _ out (by simpa using hl) (fun j i l h => by simpa using hp (j + 1) i l (by simpa using h)) ?_ ho
          have : (v.cells.zipIdx.foldl (fun cs (c : Value × Nat) => cs.setIfInBounds (off + c.2) c.1) cs).toList = cs.toList.take off ++ vs ++ cs.toList.drop (off + vs.length) := by
            have hz : v.cells.zipIdx.foldl (fun cs (c : Value × Nat) => cs.setIfInBounds (off + c.2) c.1) cs = (vs.zipIdx 0).foldl (fun cs (c : Value × Nat) => cs.setIfInBounds (off + c.2) c.1) cs := by
              rw [hvc, ← Array.foldl_toList]; simp
            rw [hz, foldl_set vs off 0 cs (by omega)]; simp
          rw [this, hlv]
          exact ((hr.take off).append hvr).append (hr.drop _)
        · cases ho
end ops
end Go.Ab
