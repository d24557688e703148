import Derived.Test.YthijempdiheabaaDoorAb10
set_option autoImplicit false
namespace Go.Ab
open Go Go.RowKit

/-- What an operand is, in a state. -/
def AS.ev (st : AS) : Operand → AV
  | .tmp t => st.reg t
  | .const v => ofVal v
  | .func f => .d (.con (.func (.func f) #[] #[]))
  | .global _ => .any
theorem Gam.ev {G : IH} {F : Nat → Prop} {w0 : World} {h0 : IH} {st : AS} {β : Nat → Nat} {h : IH} {a : Act} {w : World} (g : Gam G F w0 h0 st β h a.tmps w) (x : Operand) : (st.ev x).rel β h (a.eval x) := by
  cases x with
  | tmp t =>
    simp only [AS.ev, AS.reg]
    cases hr : st.regs[t]? with
    | none => trivial
    | some y =>
      obtain ⟨v, hv, hy⟩ := g.regs t y hr
      simpa [Act.eval, Array.getD_eq_getD_getElem?, hv] using hy
  | const v => exact ofVal_rel β h v
  | func f => rfl
  | global _ => trivial

def ungate : AV → AV
  | .gate _ _ _ x => x
  | x => x
def isGate : AV → Bool
  | .gate .. => true
  | _ => false
/-- A guard: a temporary, and the answer that it must hold. -/
abbrev Key := Option (Nat × Bool)
def sameKey (k : Key) (s : Nat) (w : Bool) : Bool := match k with | some (s', w') => Nat.beq s' s && (match w, w' with | true, true => true | false, false => true | _, _ => false) | none => false
theorem sameKey_eq {k : Key} {s : Nat} {w : Bool} (h : sameKey k s w = true) : k = some (s, w) := by
  cases k with
  | none => simp [sameKey] at h
  | some p =>
    obtain ⟨s', w'⟩ := p
    simp only [sameKey, Bool.and_eq_true, Nat.beq_eq] at h
    obtain ⟨rfl, h⟩ := h
    cases w <;> cases w' <;> simp_all
/-- What a guard's temporary says. -/
def guardB (x : AV) (want : Bool) : Option Bool :=
  match x with
  | .d (.con (.bool b)) => some (match want with | true => b | false => !b)
  | .gate _ _ g (.d (.con (.bool b))) => some (match want with | true => g && b | false => g && !b)
  | _ => none
/-- Each part that only some ways lay bears its guard's answer. -/
def Good (st : AS) : Prop := ∀ (t s : Nat) (w b : Bool) (x : AV), st.regs[t]? = some (.gate s w b x) → guardB (st.reg s) w = some b
/-- What must hold for a part that only some ways lay: nothing, behind its own guard. -/
def gateConds (k : Key) : List AV → List Prop
  | [] => []
  | .gate s w g _ :: l => match sameKey k s w with | true => gateConds k l | false => (g = true) :: gateConds k l
  | _ :: l => gateConds k l
theorem gateConds_mem {k : Key} : ∀ {l : List AV} (_ : ∀ c ∈ gateConds k l, c) {s : Nat} {w g : Bool} {x : AV}, AV.gate s w g x ∈ l → sameKey k s w = true ∨ g = true
  | [], _, _, _, _, _, h => by simp at h
  | y :: l, hc, s, w, g, x, h => by
    cases y with
    | gate s' w' g' z =>
      simp only [gateConds] at hc
      simp only [List.mem_cons] at h
      cases hk : sameKey k s' w' with
      | true =>
        rw [hk] at hc
        rcases h with h | h
        · injection h with h1 h2 _ _; subst h1 h2; exact .inl hk
        · exact gateConds_mem hc h
      | false =>
        rw [hk] at hc
        simp only [List.mem_cons] at hc
        rcases h with h | h
        · injection h with _ _ h1 _; subst h1; exact .inr (hc _ (.inl rfl))
        · exact gateConds_mem (fun c hc' => hc c (.inr hc')) h
    | _ =>
      simp only [gateConds] at hc
      simp only [List.mem_cons, reduceCtorEq, false_or] at h
      exact gateConds_mem hc h
/-- A Bool, and on what terms. -/
def boolOf : AV → Option (Option (Nat × Bool × Bool) × Bool)
  | .d (.con (.bool x)) => some (none, x)
  | .gate s w g (.d (.con (.bool x))) => some (some (s, w, g), x)
  | _ => none
def optCond (k : Key) (c : Option (Nat × Bool × Bool)) (p : Prop) : List Prop := match c with | none => [] | some (s, w, g) => match sameKey k s w with | true => [] | false => [p → g = true]
/-- The guard that an operand is by itself. -/
def selfKey (c : Operand) (w : Bool) : Key := match c with | .tmp t => some (t, w) | _ => none
def evPick (k : Key) (raw : Operand → AV) (dst : Option Nat) (c a b : Operand) : Option (List Prop × Ev) :=
  match boolOf (raw c) with
  | some (gc, b0) =>
    match b with
    | .const (.bool false) => match boolOf (raw a) with
      | some (ga, x) => some (optCond k gc True ++ optCond (selfKey c true) ga (b0 = true), { dst := dst, val := .d (.con (.bool (b0 && x))) })
      | none => none
    | b => match a with
      | .const (.bool true) => match boolOf (raw b) with
        | some (gb, y) => some (optCond k gc True ++ optCond (selfKey c false) gb (b0 = false), { dst := dst, val := .d (.con (.bool (b0 || y))) })
        | none => none
      | _ => none
  | none => none
theorem boolOf_rel {x : AV} {g : Option (Nat × Bool × Bool)} {b : Bool} (hb : boolOf x = some (g, b)) {β : Nat → Nat} {h : IH} {v : Value} (hr : x.rel β h v) (hg : ∀ s w c, g = some (s, w, c) → c = true) : v = .bool b := by
  unfold boolOf at hb
  split at hb
  · simp only [Option.some.injEq, Prod.mk.injEq] at hb; obtain ⟨rfl, rfl⟩ := hb; exact hr
  · simp only [Option.some.injEq, Prod.mk.injEq] at hb; obtain ⟨rfl, rfl⟩ := hb
    exact hr.1 (hg _ _ _ rfl)
  · cases hb
/-- Behind its own guard a part is there. -/
theorem cond_of_key {k : Key} {g : Option (Nat × Bool × Bool)} {p : Prop} (hk : ∀ s w c, g = some (s, w, c) → sameKey k s w = true → c = true) (hp : p) (hc : ∀ c ∈ optCond k g p, c) : ∀ s w c, g = some (s, w, c) → c = true := by
  rintro s w c rfl
  cases hs : sameKey k s w with
  | true => exact hk s w c rfl hs
  | false =>
    simp only [optCond, hs, List.mem_singleton, forall_eq] at hc
    exact hc hp
theorem boolOf_gate {x : AV} {s : Nat} {w g b : Bool} (h : boolOf x = some (some (s, w, g), b)) : x = .gate s w g (.d (.con (.bool b))) := by
  unfold boolOf at h
  split at h
  · simp at h
  · simp only [Option.some.injEq, Prod.mk.injEq] at h; obtain ⟨⟨rfl, rfl, rfl⟩, rfl⟩ := h; rfl
  · cases h
theorem evPick_ok {P : Program} {G : IH} {o : Oper} {st : AS} {cs : List Prop} {e : Ev} {c a b : Operand} {k : Key} (hgood : Good st) (hkey : ∀ s w, k = some (s, w) → guardB (st.reg s) w = some true) (ho : o.op = .pick c a b) (h : evPick k st.ev o.dst c a b = some (cs, e)) (hc : ∀ c ∈ cs, c) : Core P G o st.ev st e := by
  have hev : ∀ (x : Operand) (s : Nat) (w g : Bool) (y : AV), st.ev x = .gate s w g y → guardB (st.reg s) w = some g := by
    intro x s w g y hx
    cases x with
    | tmp t =>
      simp only [AS.ev, AS.reg] at hx
      cases hr : st.regs[t]? with
      | none => simp [hr] at hx
      | some z => simp only [hr, Option.getD_some] at hx; subst hx; exact hgood t s w g y hr
    | const v => simp only [AS.ev] at hx; cases v <;> simp [ofVal] at hx
    | func f => simp [AS.ev] at hx
    | global g => simp [AS.ev] at hx
  have hck : ∀ gc b0, boolOf (st.ev c) = some (gc, b0) → ∀ s w d, gc = some (s, w, d) → sameKey k s w = true → d = true := by
    intro gc b0 hb s w d hgc hs
    subst hgc
    have h1 := hev c s w d _ (boolOf_gate hb)
    have h2 := hkey s w (sameKey_eq hs)
    rw [h1] at h2; exact Option.some.inj h2
  have hself : ∀ (x : Operand) gx b gc b0 (want : Bool), boolOf (st.ev c) = some (gc, b0) → boolOf (st.ev x) = some (gx, b) → (∀ s w d, gc = some (s, w, d) → d = true) → b0 = want → ∀ s w d, gx = some (s, w, d) → sameKey (selfKey c want) s w = true → d = true := by
    intro x gx b gc b0 want hb hx hgc hb0 s w d hgx hs
    subst hgx
    have h1 := hev x s w d _ (boolOf_gate hx)
    have h2 := sameKey_eq hs
    cases c with
    | tmp t =>
      simp only [selfKey, Option.some.injEq, Prod.mk.injEq] at h2
      obtain ⟨rfl, rfl⟩ := h2
      unfold boolOf at hb
      simp only [AS.ev] at hb
      unfold guardB at h1
      split at hb
      · rename_i y hy
        simp only [Option.some.injEq, Prod.mk.injEq] at hb; obtain ⟨_, hb2⟩ := hb
        rw [hy] at h1
        simp only [Option.some.injEq] at h1
        rw [← h1, hb2, hb0]
        cases want <;> rfl
      · rename_i s' w' g' y hy
        simp only [Option.some.injEq, Prod.mk.injEq] at hb; obtain ⟨hb1, hb2⟩ := hb
        have hg' := hgc _ _ _ hb1.symm
        rw [hy] at h1
        simp only [Option.some.injEq] at h1
        rw [← h1, hg', hb2, hb0]
        cases want <;> rfl
      · cases hb
    | _ => simp [selfKey] at h2
  unfold evPick at h
  split at h
  · rename_i gc b0 hb0
    split at h
    · split at h
      · rename_i ga x hx
        simp only [Option.some.injEq, Prod.mk.injEq] at h; obtain ⟨rfl, rfl⟩ := h
        refine core_value fun β k' a' w _ _ hop => ⟨_, ?_, rfl⟩
        have hgc := cond_of_key (hck gc b0 hb0) trivial (fun q hq => hc q (List.mem_append_left _ hq))
        have h1 := boolOf_rel hb0 (hop c (by simp [ho, Op.operands])) hgc
        have hra := hop a (by simp [ho, Op.operands])
        simp only [execOp, ho, Sem.run_bind, h1, asBool, Sem.run_pure, Result.andThen_ok]
        cases hb : b0 with
        | false => simp [Act.eval]
        | true =>
          have h2 := boolOf_rel hx hra (cond_of_key (hself a ga x gc b0 true hb0 hx hgc hb) hb (fun q hq => hc q (List.mem_append_right _ hq)))
          simp [h2]
      · cases h
    · split at h
      · split at h
        · rename_i gb y hy
          simp only [Option.some.injEq, Prod.mk.injEq] at h; obtain ⟨rfl, rfl⟩ := h
          refine core_value fun β k' a' w _ _ hop => ⟨_, ?_, rfl⟩
          have hgc := cond_of_key (hck gc b0 hb0) trivial (fun q hq => hc q (List.mem_append_left _ hq))
          have h1 := boolOf_rel hb0 (hop c (by simp [ho, Op.operands])) hgc
          have hrb := hop b (by simp [ho, Op.operands])
          simp only [execOp, ho, Sem.run_bind, h1, asBool, Sem.run_pure, Result.andThen_ok]
          cases hb : b0 with
          | true => simp [Act.eval]
          | false =>
            have h2 := boolOf_rel hy hrb (cond_of_key (hself b gb y gc b0 false hb0 hy hgc hb) hb (fun q hq => hc q (List.mem_append_right _ hq)))
            simp [h2]
        · cases h
      · cases h
  · cases h

/-- Whether the operation is carried out at all: 'none': this is no guard; 'some none': always; else the guard, and what it says. -/
def guardOf (ops : List Oper) (o : Oper) (st : AS) : Option (Option (Nat × Bool × Bool)) :=
  match o.guard with
  | none => some none
  | some (j, want) => match ops[j]? with
    | some q => match q.dst with
      | some g => match guardB (st.reg g) want with
        | some b => some (some (g, want, b))
        | none => none
      | none => none
    | none => none
def keyOf (γ : Option (Nat × Bool × Bool)) : Key := match γ with | some (s, w, _) => some (s, w) | none => none
def evRaw (P : Program) (G : IH) (orc : Oracle) (k : Key) (o : Oper) (st : AS) : Option (List Prop × Ev) :=
  match o.op with
  | .pick c a b => evPick k st.ev o.dst c a b
  | _ => match evalOp P G orc o (fun x => ungate (st.ev x)) st with
    | some (cs, e) => some (gateConds k (o.op.operands.toList.map st.ev) ++ cs, e)
    | none => none
def impAll (b : Bool) : List Prop → List Prop
  | [] => []
  | c :: cs => (b = true → c) :: impAll b cs
theorem impAll_mem {b : Bool} (hb : b = true) : ∀ {cs : List Prop} (_ : ∀ c ∈ impAll b cs, c) (c : Prop) (_ : c ∈ cs), c
  | [], _, _, h => by simp at h
  | d :: cs, hc, c, h => by
    simp only [impAll, List.mem_cons] at hc
    simp only [List.mem_cons] at h
    rcases h with rfl | h
    · exact hc _ (.inl rfl) hb
    · exact impAll_mem hb (fun c hc' => hc c (.inr hc')) c h
def optEq : Option Nat → Option Nat → Bool
  | some a, some b => Nat.beq a b
  | none, none => true
  | _, _ => false
theorem optEq_eq {a b : Option Nat} (h : optEq a b = true) : a = b := by
  cases a <;> cases b <;> simp_all [optEq]
/-- No part is guarded by this temporary. -/
def keyFree (d : Option Nat) (l : List AV) : Bool := match d with | none => true | some d => l.all fun x => match x with | .gate s _ _ _ => !(Nat.beq s d) | _ => true
def notSlot (d : Option Nat) (s : Nat) : Bool := match d with | none => true | some d => !(Nat.beq d s)
def evalG (P : Program) (G : IH) (orc : Oracle) (ops : List Oper) (o : Oper) (st : AS) : Option (List Prop × Ev) :=
  match guardOf ops o st with
  | none => none
  | some γ => match evRaw P G orc (keyOf γ) o st with
    | none => none
    | some (cs, e) => match isGate e.val, keyFree e.dst st.regs with
      | false, true => match γ with
        | none => some (cs, e)
        | some (s, w, b) => match e.wrc, e.nw, optEq e.dst o.dst && notSlot e.dst s with
          | [], [], true => some (impAll b cs, { dst := e.dst, val := .gate s w b e.val, rdc := e.rdc })
          | _, _, _ => none
      | _, _ => none

theorem putReg_ne {l : List AV} {d : Option Nat} {x : AV} {s : Nat} (h : d ≠ some s) : (putReg l d x)[s]? = l[s]? := by rw [getElem?_putReg, if_neg h]
theorem evalG_good {P : Program} {G : IH} {orc : Oracle} {ops : List Oper} {o : Oper} {st : AS} {cs : List Prop} {e : Ev} (h : evalG P G orc ops o st = some (cs, e)) (hg : Good st) : Good (e.app st) := by
  unfold evalG at h
  split at h
  · cases h
  · rename_i γ hγ
    split at h
    · cases h
    · rename_i cs' e' he
      split at h
      · rename_i hgate hfree
        have hd : e.dst = e'.dst := by
          cases γ with
          | none => simp only [Option.some.injEq, Prod.mk.injEq] at h; obtain ⟨_, rfl⟩ := h; rfl
          | some p =>
            obtain ⟨s, w, b⟩ := p
            simp only at h
            split at h
            · simp only [Option.some.injEq, Prod.mk.injEq] at h; obtain ⟨_, rfl⟩ := h; rfl
            · cases h
        have hne : ∀ (t s : Nat) (w b : Bool) (x : AV), st.regs[t]? = some (.gate s w b x) → e'.dst ≠ some s := by
          intro t s w b x ht hs
          simp only [keyFree, hs, List.all_eq_true] at hfree
          have := hfree _ (List.mem_of_getElem? ht)
          simp at this
        intro t s w b x ht
        simp only [Ev.app] at ht
        rw [getElem?_putReg] at ht
        split at ht
        · rename_i hdt
          have hval : e.val = .gate s w b x := by
            cases hr : st.regs[t]? with
            | none => simp [hr] at ht
            | some y => simpa [hr] using ht
          cases γ with
          | none =>
            simp only [Option.some.injEq, Prod.mk.injEq] at h; obtain ⟨_, rfl⟩ := h
            rw [hval] at hgate; simp [isGate] at hgate
          | some p =>
            obtain ⟨s', w', b'⟩ := p
            simp only at h
            split at h
            · rename_i h1 h2 h3
              simp only [Option.some.injEq, Prod.mk.injEq] at h; obtain ⟨_, rfl⟩ := h
              simp only [AV.gate.injEq] at hval
              obtain ⟨rfl, rfl, rfl, rfl⟩ := hval
              simp only [Bool.and_eq_true] at h3
              have hns : e'.dst ≠ some s' := by
                intro hs
                simp [notSlot, hs] at h3
              have hguard : guardB (st.reg s') w' = some b' := by
                unfold guardOf at hγ
                split at hγ
                · simp at hγ
                · split at hγ
                  · split at hγ
                    · split at hγ
                      · rename_i hb
                        simp only [Option.some.injEq, Prod.mk.injEq] at hγ
                        obtain ⟨rfl, rfl, rfl⟩ := hγ
                        exact hb
                      · cases hγ
                    · cases hγ
                  · cases hγ
              simp only [AS.reg, Ev.app] at hguard ⊢
              rw [putReg_ne hns]; exact hguard
            · cases h
        · have hs := hne t s w b x ht
          have := hg t s w b x ht
          simp only [AS.reg, Ev.app] at this ⊢
          rw [hd, putReg_ne hs]; exact this
      · cases h

section
variable {P : Program} {G : IH} {orc : Oracle} {ops : List Oper} {o : Oper} {st : AS} {cs : List Prop} {e : Ev}
theorem ungate_rel {x : AV} {β : Nat → Nat} {h : IH} {v : Value} (hr : x.rel β h v) (hg : ∀ s w g y, x = .gate s w g y → g = true) : (ungate x).rel β h v := by
  cases x with
  | gate s w g y => exact hr.1 (hg s w g y rfl)
  | _ => exact hr
theorem evRaw_ok {k : Key} (hgood : Good st) (hkey : ∀ s w, k = some (s, w) → guardB (st.reg s) w = some true) (h : evRaw P G orc k o st = some (cs, e)) (hc : ∀ c ∈ cs, c) : Core P G o st.ev st e := by
  unfold evRaw at h
  split at h
  · rename_i c a b ho
    exact evPick_ok hgood hkey ho h hc
  · split at h
    · rename_i cs' e' he
      simp only [Option.some.injEq, Prod.mk.injEq] at h; obtain ⟨rfl, rfl⟩ := h
      have hcore := evalOp_ok (ρ := fun x => ungate (st.ev x)) (fun y n hn k q hq => by
        cases y with
        | const v =>
          cases v with
          | int j m =>
            simp only [litInt, Option.some.injEq] at hn
            subst hn
            simp only [AS.ev, ofVal, ungate] at hq
            injection hq with hq; injection hq with hq; injection hq with _ hq
            exact hq.symm
          | _ => simp [litInt] at hn
        | _ => simp [litInt] at hn) he (fun c hc' => hc c (List.mem_append_right _ hc'))
      intro F w0 h0 st' β h a w K Q hlen hag hfr g hd hop hK
      refine hcore F w0 h0 st' β h a w K Q hlen hag hfr g hd (fun x hx => ungate_rel (hop x hx) fun s v b y hgy => ?_) hK
      rcases gateConds_mem (fun c hc' => hc c (List.mem_append_left _ hc')) (s := s) (w := v) (g := b) (x := y) (by rw [← hgy]; exact List.mem_map.2 ⟨x, by simpa using hx, rfl⟩) with h1 | h1
      · have h2 := hkey s v (sameKey_eq h1)
        cases x with
        | tmp t =>
          simp only [AS.ev, AS.reg] at hgy
          cases hr : st.regs[t]? with
          | none => simp [hr] at hgy
          | some z =>
            simp only [hr, Option.getD_some] at hgy; subst hgy
            rw [hgood t s v b y hr] at h2; exact Option.some.inj h2
        | const u => simp only [AS.ev] at hgy; cases u <;> simp [ofVal] at hgy
        | func f => simp [AS.ev] at hgy
        | global f => simp [AS.ev] at hgy
      · exact h1
    · cases h
theorem agree_ev {st' : AS} (hag : ∀ p, touches ops o e p = true → st'.at_ p = st.at_ p) {x : Operand} (hx : x ∈ o.op.operands) : st'.ev x = st.ev x := by
  cases x with
  | tmp t =>
    have := hag (.reg t) (by
      simp only [touches, looks, List.any_append, Bool.or_eq_true]
      refine .inl (List.any_eq_true.2 ⟨.reg t, ?_, by simp [Loc.hits]⟩)
      simp only [slots, List.mem_filterMap]
      exact ⟨.tmp t, by simpa using hx, rfl⟩)
    simp only [AS.at_, Prod.mk.injEq, and_true] at this
    simp [AS.ev, AS.reg, this]
  | _ => rfl
theorem evalG_ok (hgood : Good st) (h : evalG P G orc ops o st = some (cs, e)) (hc : ∀ c ∈ cs, c) : OpOK P G ops o st e := by
  intro F w0 h0 st' β h1 a w K Q hlen hag hfr g hd hK
  unfold evalG at h
  split at h
  · cases h
  · rename_i γ hγ
    split at h
    · cases h
    · rename_i cs' e' he
      split at h
      case h_2 => cases h
      have hrel : ∀ x ∈ o.op.operands, (st.ev x).rel β h1 (a.eval x) := fun x hx => by rw [← agree_ev hag hx]; exact g.ev x
      cases γ with
      | none =>
        simp only [Option.some.injEq, Prod.mk.injEq] at h; obtain ⟨rfl, rfl⟩ := h
        have hw : Region.wanted o (yielded ops.toArray a.tmps) = true := by
          unfold guardOf at hγ
          cases hgd : o.guard with
          | none => simp [Region.wanted, hgd]
          | some jw =>
            exfalso
            obtain ⟨j, want⟩ := jw
            simp only [hgd] at hγ
            split at hγ
            · split at hγ
              · split at hγ <;> simp at hγ
              · cases hγ
            · cases hγ
        rw [if_pos hw]
        exact evRaw_ok hgood (by simp [keyOf]) he hc F w0 h0 st' β h1 a w K Q hlen (fun p hp => hag p (by
          simp only [touches, looks, List.any_append, Bool.or_eq_true] at hp ⊢; exact .inr (.inr hp))) hfr g hd hrel hK
      | some γ' =>
        obtain ⟨s, want, b⟩ := γ'
        have hes : ∃ _ : e'.wrc = [] ∧ e'.nw = [] ∧ e'.dst = o.dst, cs = impAll b cs' ∧ e = { dst := e'.dst, val := .gate s want b e'.val, rdc := e'.rdc } := by
          simp only at h
          split at h
          · rename_i h1 h2 h3
            simp only [Option.some.injEq, Prod.mk.injEq] at h
            simp only [Bool.and_eq_true] at h3
            exact ⟨⟨h1, h2, optEq_eq h3.1⟩, h.1.symm, h.2.symm⟩
          · cases h
        obtain ⟨⟨hw1, hw2, hw3⟩, rfl, rfl⟩ := hes
        -- what the guard's temporary holds
        unfold guardOf at hγ
        cases hgd : o.guard with
        | none => simp [hgd] at hγ
        | some jw =>
          obtain ⟨j, want'⟩ := jw
          simp only [hgd] at hγ
          split at hγ
          · rename_i q hq
            split at hγ
            · rename_i s' hs
              split at hγ
              case h_2 => cases hγ
              rename_i b' hb
              simp only [Option.some.injEq, Prod.mk.injEq] at hγ
              obtain ⟨rfl, rfl, rfl⟩ := hγ
              have hreg : st'.reg s' = st.reg s' := by
                have := hag (.reg s') (by
                  simp only [touches, looks, List.any_append, Bool.or_eq_true, hgd, hq, Option.bind_some, hs]
                  exact .inr (.inl (by simp [Loc.hits])))
                simp only [AS.at_, Prod.mk.injEq, and_true] at this
                simp [AS.reg, this]
              have hval : (st.reg s').rel β h1 (a.tmps.getD s' undef) ∧ (st.reg s' ≠ .any → ∃ v, a.tmps[s']? = some v) := by
                rw [← hreg]
                refine ⟨g.ev (.tmp s'), fun hne => ?_⟩
                cases hr : st'.regs[s']? with
                | none => exact absurd (by simp [AS.reg, hr]) hne
                | some y => obtain ⟨v, hv, _⟩ := g.regs s' y hr; exact ⟨v, hv⟩
              have hyield : ∀ c : Bool, a.tmps.getD s' undef = .bool c → (st.reg s' ≠ .any) → yielded ops.toArray a.tmps j = some c := by
                intro c hcv hne
                obtain ⟨v, hv⟩ := hval.2 hne
                simp only [Array.getD_eq_getD_getElem?, hv, Option.getD_some] at hcv
                simp [yielded, hq, hs, hv, hcv]
              have hyundef : a.tmps.getD s' undef = undef → (st.reg s' ≠ .any) → yielded ops.toArray a.tmps j = none := by
                intro hcv hne
                obtain ⟨v, hv⟩ := hval.2 hne
                simp only [Array.getD_eq_getD_getElem?, hv, Option.getD_some] at hcv
                simp [yielded, hq, hs, hv, hcv, undef]
              have hwanted : Region.wanted o (yielded ops.toArray a.tmps) = b' := by
                simp only [Region.wanted, hgd]
                have hb0 := hb
                unfold guardB at hb0
                split at hb0
                · rename_i c hcv
                  rw [hcv] at hval
                  rw [hyield c hval.1 (by rw [hcv]; simp)]
                  simp only [Option.some.injEq] at hb0
                  cases want' <;> cases c <;> simp_all
                · rename_i g' c hcv
                  rw [hcv] at hval
                  simp only [Option.some.injEq] at hb0
                  cases hg' : g' with
                  | false =>
                    rw [hyundef (hval.1.2 hg') (by rw [hcv]; simp)]
                    cases want' <;> simp_all
                  | true =>
                    rw [hyield c (hval.1.1 hg') (by rw [hcv]; simp)]
                    cases want' <;> cases c <;> simp_all
                · cases hb0
              rw [hwanted]
              have happ : ∀ st'' : AS, e'.app st'' = ⟨putReg st''.regs e'.dst e'.val, st''.boxes⟩ := fun st'' => by simp [Ev.app, hw1, hw2, setAll]
              cases b' with
              | true =>
                rw [if_pos rfl]
                refine evRaw_ok hgood (fun s w hsw => ?_) he (impAll_mem rfl hc) F w0 h0 st' β h1 a w K Q hlen (fun p hp => hag p ?_) (by simp [hw2]) g hd hrel fun a' w' β' h' hd' g' => hK a' w' β' h' hd' ?_
                · simp only [keyOf, Option.some.injEq, Prod.mk.injEq] at hsw
                  obtain ⟨rfl, rfl⟩ := hsw
                  exact hb
                · simp only [touches, looks, List.any_append, Bool.or_eq_true] at hp ⊢
                  refine .inr (.inr (hp.imp id fun hp => ?_))
                  simp only [Ev.writes, hw1, hw2] at hp ⊢
                  exact hp
                · rw [happ] at g'
                  refine ⟨g'.glob, g'.holds, g'.ext, g'.old, g'.kept, ?_, ?_, g'.box, g'.inj⟩
                  · rw [g'.size]; simp only [Ev.app]; cases e'.dst <;> simp [putReg]
                  · intro t x hx
                    simp only [Ev.app, getElem?_putReg] at hx
                    have := g'.regs t
                    simp only [getElem?_putReg] at this
                    split at hx
                    · rename_i ht
                      rw [if_pos ht] at this
                      cases hr : st'.regs[t]? with
                      | none => simp [hr] at hx
                      | some z =>
                        simp only [hr, Option.map_some, Option.some.injEq] at hx this
                        subst hx
                        obtain ⟨v, hv, hvr⟩ := this _ rfl
                        exact ⟨v, hv, fun _ => hvr, fun hf => by cases hf⟩
                    · rename_i ht
                      rw [if_neg ht] at this
                      exact this x hx
              | false =>
                rw [if_neg (by simp)]
                refine hK _ _ β h1 (by rw [put_defers]; exact hd) ?_
                rw [put_tmps]
                have g' := g.put (t := o.dst) (x := .gate s' want' false e'.val) (v := undef) ⟨(fun hf => by cases hf), fun _ => rfl⟩
                rw [← hw3] at g' ⊢
                simpa [Ev.app, hw1, hw2, setAll] using g'
            · cases hγ
          · cases hγ
end
end Go.Ab
